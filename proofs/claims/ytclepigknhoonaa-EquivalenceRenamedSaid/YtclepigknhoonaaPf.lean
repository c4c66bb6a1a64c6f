/-
  Chapter 48: what Check finds.
-/
import Derived.Test.YtclepigknhoonaaPe
set_option linter.unusedVariables false
set_option linter.unusedSimpArgs false
namespace Go.Proofs.Ytclepigknhoonaa
open Go Go.Dec

/-- The units below the root. -/
def kd (u : api_Unit) : List api_Unit := u.Kids.flatMap desc
theorem desc_kd (u : api_Unit) : desc u = u :: kd u := desc_eq u
theorem kd_desc {u x : api_Unit} (h : x ∈ kd u) : x ∈ desc u := by rw [desc_kd]; exact List.mem_cons_of_mem _ h
theorem kd_len (u : api_Unit) : (kd u).length + 1 = cnt u := by
  have := congrArg List.length (desc_kd u)
  rw [List.length_cons] at this
  exact this.symm

def fl (f : api_Finding) : List api_Finding := if f.Why ≠ 0 then [f] else []
theorem fl_len (f : api_Finding) : (fl f).length ≤ 1 := by unfold fl; split <;> simp

theorem check1_ok (f : api_Finding) (c : List api_Finding) (h : c.length ≤ 1000000) : M.equivalence_Check_1 f c = some (c ++ fl f) := by
  unfold M.equivalence_Check_1 fl
  split
  · rw [appC_eq (by simp; omega)]; rfl
  · simp

theorem each0_ok (t : equivalence_table) (xs ys : List api_Meaning) (g : api_Unit → List api_Finding) (hg : ∀ x, (g x).length ≤ 1) (u : api_Unit) :
    (∀ x ∈ kd u, ∀ c : List api_Finding, c.length ≤ 1000000 → To (fun n => M.equivalence_Check_2 n x c t xs ys) (c ++ g x)) → ∀ c : List api_Finding, c.length + (kd u).length ≤ 1000000 →
    To (fun n => M.equivalence_each_i0 n u c t xs ys) (c ++ (kd u).flatMap g) := by
  refine uind (P := fun u => (∀ x ∈ kd u, ∀ c : List api_Finding, c.length ≤ 1000000 → To (fun n => M.equivalence_Check_2 n x c t xs ys) (c ++ g x)) → ∀ c : List api_Finding, c.length + (kd u).length ≤ 1000000 → To (fun n => M.equivalence_each_i0 n u c t xs ys) (c ++ (kd u).flatMap g)) ?_ u
  intro u ih hx c hc
  have loop : ∀ (ks : List api_Unit) (slf : Nat → api_Unit → List api_Finding → equivalence_table → List api_Meaning → List api_Meaning → Option (List api_Finding)) (c : List api_Finding),
      (∀ k ∈ ks, (∀ c : List api_Finding, c.length ≤ 1000000 → To (fun n => M.equivalence_Check_2 n k c t xs ys) (c ++ g k)) ∧ ∀ c : List api_Finding, c.length + (kd k).length ≤ 1000000 → To (fun n => slf n k c t xs ys) (c ++ (kd k).flatMap g)) → c.length + (ks.map cnt).sum ≤ 1000000 →
      To (fun n => M.equivalence_each_i0_loop1 n t xs ys (slf n) ks c) (c ++ (ks.flatMap desc).flatMap g) := by
    intro ks
    induction ks with
    | nil => intro slf c _ _; exact To.pure.of (by simp)
    | cons k ks ihk =>
      intro slf c hk hs
      simp only [List.map_cons, List.sum_cons] at hs
      obtain ⟨h1, h2⟩ := hk k (List.mem_cons_self ..)
      have hpos := cnt_pos k
      have hgl := hg k
      have hlen : ((kd k).flatMap g).length ≤ (kd k).length := by
        have : ∀ l : List api_Unit, (l.flatMap g).length ≤ l.length := by
          intro l
          induction l with
          | nil => simp
          | cons a l ih => have := hg a; simp only [List.flatMap_cons, List.length_append, List.length_cons]; omega
        exact this _
      have hkl := kd_len k
      simp only [M.equivalence_each_i0_loop1]
      refine To.bind (h1 c (by omega)) (To.bind (h2 (c ++ g k) (by simp; omega)) ?_)
      refine (ihk slf _ (fun k' hk' => hk k' (List.mem_cons_of_mem _ hk')) (by simp only [List.length_append]; omega)).of ?_
      rw [List.flatMap_cons, desc_kd k]; simp
  refine To.succ ?_
  simp only [M.equivalence_each_i0]
  have hsum := cnt_eq u
  have hkl := kd_len u
  refine To.bind (loop u.Kids (fun n => M.equivalence_each_i0 n) c (fun k hk => ⟨fun c hc => hx k ?_ c hc, ih k hk (fun x hxk c hc => hx x ?_ c hc)⟩) (by omega)) To.pure
  · exact List.mem_flatMap.2 ⟨k, hk, desc_self k⟩
  · exact List.mem_flatMap.2 ⟨k, hk, kd_desc hxk⟩

theorem each1_ok (t : equivalence_table) (g : api_Unit → List api_Finding) (hg : ∀ x, (g x).length ≤ 1) (u : api_Unit) :
    (∀ x ∈ kd u, ∀ c : List api_Finding, c.length ≤ 1000000 → M.equivalence_Check_3 x t c = some (c ++ g x)) → ∀ c : List api_Finding, c.length + (kd u).length ≤ 1000000 →
    To (fun n => M.equivalence_each_i1 n u t c) (c ++ (kd u).flatMap g) := by
  refine uind (P := fun u => (∀ x ∈ kd u, ∀ c : List api_Finding, c.length ≤ 1000000 → M.equivalence_Check_3 x t c = some (c ++ g x)) → ∀ c : List api_Finding, c.length + (kd u).length ≤ 1000000 → To (fun n => M.equivalence_each_i1 n u t c) (c ++ (kd u).flatMap g)) ?_ u
  intro u ih hx c hc
  have loop : ∀ (ks : List api_Unit) (slf : Nat → api_Unit → equivalence_table → List api_Finding → Option (List api_Finding)) (c : List api_Finding),
      (∀ k ∈ ks, (∀ c : List api_Finding, c.length ≤ 1000000 → M.equivalence_Check_3 k t c = some (c ++ g k)) ∧ ∀ c : List api_Finding, c.length + (kd k).length ≤ 1000000 → To (fun n => slf n k t c) (c ++ (kd k).flatMap g)) → c.length + (ks.map cnt).sum ≤ 1000000 →
      To (fun n => M.equivalence_each_i1_loop1 t (slf n) ks c) (c ++ (ks.flatMap desc).flatMap g) := by
    intro ks
    induction ks with
    | nil => intro slf c _ _; exact To.pure.of (by simp)
    | cons k ks ihk =>
      intro slf c hk hs
      simp only [List.map_cons, List.sum_cons] at hs
      obtain ⟨h1, h2⟩ := hk k (List.mem_cons_self ..)
      have hpos := cnt_pos k
      have hgl := hg k
      have hlen : ((kd k).flatMap g).length ≤ (kd k).length := by
        have : ∀ l : List api_Unit, (l.flatMap g).length ≤ l.length := by
          intro l
          induction l with
          | nil => simp
          | cons a l ih => have := hg a; simp only [List.flatMap_cons, List.length_append, List.length_cons]; omega
        exact this _
      have hkl := kd_len k
      simp only [M.equivalence_each_i1_loop1]
      refine To.bindS (h1 c (by omega)) (To.bind (h2 (c ++ g k) (by simp; omega)) ?_)
      refine (ihk slf _ (fun k' hk' => hk k' (List.mem_cons_of_mem _ hk')) (by simp only [List.length_append]; omega)).of ?_
      rw [List.flatMap_cons, desc_kd k]; simp
  refine To.succ ?_
  simp only [M.equivalence_each_i1]
  have hsum := cnt_eq u
  have hkl := kd_len u
  refine To.bind (loop u.Kids (fun n => M.equivalence_each_i1 n) c (fun k hk => ⟨fun c hc => hx k ?_ c hc, ih k hk (fun x hxk c hc => hx x ?_ c hc)⟩) (by omega)) To.pure
  · exact List.mem_flatMap.2 ⟨k, hk, desc_self k⟩
  · exact List.mem_flatMap.2 ⟨k, hk, kd_desc hxk⟩

theorem each2_ok (t : equivalence_table) (a b : api_Unit) (g : api_Unit → List api_Id) (hg : ∀ x, (g x).length ≤ 1) (u : api_Unit) :
    (∀ x ∈ kd u, ∀ c : List api_Id, c.length ≤ 1000000 → To (fun n => M.equivalence_Moved_1 n x t a b c) (c ++ g x)) → ∀ c : List api_Id, c.length + (kd u).length ≤ 1000000 →
    To (fun n => M.equivalence_each_i2 n u t a b c) (c ++ (kd u).flatMap g) := by
  refine uind (P := fun u => (∀ x ∈ kd u, ∀ c : List api_Id, c.length ≤ 1000000 → To (fun n => M.equivalence_Moved_1 n x t a b c) (c ++ g x)) → ∀ c : List api_Id, c.length + (kd u).length ≤ 1000000 → To (fun n => M.equivalence_each_i2 n u t a b c) (c ++ (kd u).flatMap g)) ?_ u
  intro u ih hx c hc
  have loop : ∀ (ks : List api_Unit) (slf : Nat → api_Unit → equivalence_table → api_Unit → api_Unit → List api_Id → Option (List api_Id)) (c : List api_Id),
      (∀ k ∈ ks, (∀ c : List api_Id, c.length ≤ 1000000 → To (fun n => M.equivalence_Moved_1 n k t a b c) (c ++ g k)) ∧ ∀ c : List api_Id, c.length + (kd k).length ≤ 1000000 → To (fun n => slf n k t a b c) (c ++ (kd k).flatMap g)) → c.length + (ks.map cnt).sum ≤ 1000000 →
      To (fun n => M.equivalence_each_i2_loop1 n t a b (slf n) ks c) (c ++ (ks.flatMap desc).flatMap g) := by
    intro ks
    induction ks with
    | nil => intro slf c _ _; exact To.pure.of (by simp)
    | cons k ks ihk =>
      intro slf c hk hs
      simp only [List.map_cons, List.sum_cons] at hs
      obtain ⟨h1, h2⟩ := hk k (List.mem_cons_self ..)
      have hpos := cnt_pos k
      have hgl := hg k
      have hlen : ((kd k).flatMap g).length ≤ (kd k).length := by
        have : ∀ l : List api_Unit, (l.flatMap g).length ≤ l.length := by
          intro l
          induction l with
          | nil => simp
          | cons a l ih => have := hg a; simp only [List.flatMap_cons, List.length_append, List.length_cons]; omega
        exact this _
      have hkl := kd_len k
      simp only [M.equivalence_each_i2_loop1]
      refine To.bind (h1 c (by omega)) (To.bind (h2 (c ++ g k) (by simp; omega)) ?_)
      refine (ihk slf _ (fun k' hk' => hk k' (List.mem_cons_of_mem _ hk')) (by simp only [List.length_append]; omega)).of ?_
      rw [List.flatMap_cons, desc_kd k]; simp
  refine To.succ ?_
  simp only [M.equivalence_each_i2]
  have hsum := cnt_eq u
  have hkl := kd_len u
  refine To.bind (loop u.Kids (fun n => M.equivalence_each_i2 n) c (fun k hk => ⟨fun c hc => hx k ?_ c hc, ih k hk (fun x hxk c hc => hx x ?_ c hc)⟩) (by omega)) To.pure
  · exact List.mem_flatMap.2 ⟨k, hk, desc_self k⟩
  · exact List.mem_flatMap.2 ⟨k, hk, kd_desc hxk⟩

/-! ## A unit's flaw -/

abbrev sNoDest : Str := [110, 111, 32, 100, 101, 115, 116, 105, 110, 97, 116, 105, 111, 110]
abbrev sSevDest : Str := [115, 101, 118, 101, 114, 97, 108, 32, 100, 101, 115, 116, 105, 110, 97, 116, 105, 111, 110, 115]
abbrev sMissDest : Str := [100, 101, 115, 116, 105, 110, 97, 116, 105, 111, 110, 32, 109, 105, 115, 115, 105, 110, 103]
abbrev sKind : Str := [107, 105, 110, 100]
abbrev sHead : Str := [104, 101, 97, 100, 105, 110, 103]
abbrev sWords : Str := [119, 111, 114, 100, 115]
abbrev sNoSrc : Str := [110, 111, 32, 115, 111, 117, 114, 99, 101]
abbrev sSevSrc : Str := [115, 101, 118, 101, 114, 97, 108, 32, 115, 111, 117, 114, 99, 101, 115]
abbrev sUnk : Str := [117, 110, 107, 110, 111, 119, 110, 32, 115, 111, 117, 114, 99, 101]

def flawF (D : api_Unit → api_Unit → Int × Bool) (b : api_Unit) (l : List api_Destination) (u : api_Unit) : api_Finding :=
  if (dst l u.Id).length = 0 then ⟨0, u.Id, 4, sNoDest⟩
  else if 1 < (dst l u.Id).length then ⟨0, u.Id, 8, sSevDest⟩
  else if (goF b l u.Id).2 = false then ⟨0, u.Id, 7, sMissDest⟩
  else if u.Kind ≠ (findR (goF b l u.Id).1 b).1.Kind then ⟨0, u.Id, 9, sKind⟩
  else if ¬ tx u.Head = tx (findR (goF b l u.Id).1 b).1.Head then ⟨0, u.Id, 11, sHead⟩
  else if (D u (findR (goF b l u.Id).1 b).1).2 = true then ⟨(D u (findR (goF b l u.Id).1 b).1).1, u.Id, 2, sWords⟩
  else ⟨0, zapi_Id, 0, []⟩

theorem go_true {b : api_Unit} {l : List api_Destination} {id : api_Id} (h : (goF b l id).2 = true) : ∃ x, dst l id = [x] ∧ inB b x = true ∧ goF b l id = (x, true) := by
  unfold goF at h ⊢
  match hd : dst l id with
  | [] => rw [hd] at h; cases h
  | [x] =>
    rw [hd] at h
    by_cases hx : inB b x = true
    · exact ⟨x, rfl, hx, by simp [hx]⟩
    · simp [hx] at h
  | x :: y :: r => rw [hd] at h; cases h

theorem in_find {b : api_Unit} {x : api_Id} (h : inB b x = true) : ∃ v, findO x b = some v ∧ v ∈ kd b ∧ v.Id = x ∧ findR x b = (v, true) := by
  unfold inB at h
  rw [Bool.and_eq_true] at h
  obtain ⟨v, hv⟩ := Option.isSome_iff_exists.1 h.1
  obtain ⟨h1, h2⟩ := find_mem x b v hv
  have hne : x ≠ b.Id := by simpa using h.2
  refine ⟨v, hv, ?_, h2, by unfold findR; rw [hv]⟩
  rw [desc_kd] at h1
  rcases List.mem_cons.1 h1 with rfl | h1
  · exact absurd h2.symm hne
  · exact h1

theorem flaw_ok {b : api_Unit} {l : List api_Destination} {t : equivalence_table} (ht : Tab b l t) (hc : cnt b ≤ 10000) (hl : labs b) (hf : fineT b) (xs ys : List api_Meaning) (D : api_Unit → api_Unit → Int × Bool)
    (u : api_Unit) (hw : u.Words.length ≤ 5000) (hh : u.Head.length ≤ 5000) (ht2 : ∀ w, w ∈ u.Words → w.Text.length ≤ 100) (hD : ∀ v ∈ kd b, dst l u.Id = [v.Id] → findO v.Id b = some v → To (fun n => M.equivalence_table_differ n t (rdT u xs) (rdT v ys)) (D u v)) :
    To (fun n => M.equivalence_table_flaw n t u xs ys) (flawF D b l u) := by
  simp only [M.equivalence_table_flaw, ht.to, ht.b]
  refine To.bind (goes_ok ht hc hl u.Id) ?_
  unfold flawF
  by_cases h0 : (dst l u.Id).length = 0
  · rw [if_pos h0]
    exact To.pos (by omega) (To.bindS rfl To.pure)
  rw [if_neg h0]
  refine To.neg (by omega) ?_
  by_cases h1 : 1 < (dst l u.Id).length
  · rw [if_pos h1]
    exact To.pos (by omega) (To.bindS rfl To.pure)
  rw [if_neg h1]
  refine To.neg (by omega) ?_
  cases hg : (goF b l u.Id).2 with
  | false =>
    rw [if_pos rfl]
    exact To.pos rfl (To.bindS rfl To.pure)
  | true =>
    rw [if_neg (by simp)]
    refine To.neg (by simp) ?_
    obtain ⟨x, hx, hi, hgo⟩ := go_true hg
    rw [hgo]
    obtain ⟨v, hv, hvk, hvi, hfr⟩ := in_find hi
    refine To.bind (find_u x b hc hl) ?_
    rw [hfr]
    have hvd := kd_desc hvk
    by_cases hk : u.Kind ≠ v.Kind
    · rw [if_pos hk]
      exact To.pos hk (To.bindS rfl To.pure)
    rw [if_neg hk]
    refine To.neg hk (To.bindS (texts_ok u.Head (by omega)) (To.bindS (texts_ok v.Head (by have := (hl v hvd).2.1; omega)) (To.bind (equalS _ _) ?_)))
    by_cases hhd : tx u.Head = tx v.Head
    · rw [if_neg (by simpa using hhd)]
      refine To.neg (by simp [hhd]) (To.bind (read_ok u xs hw ht2) (To.bind (read_ok v ys (hl v hvd).2.2 (hf v hvd)) (To.bind (hD v hvk (by rw [hx, hvi]) (by rw [hvi]; exact hv)) ?_)))
      by_cases hd : (D u v).2 = true
      · refine (To.pos hd (To.bindS rfl To.pure)).of ?_
        simp [hd]
      · refine (To.neg hd To.pure).of ?_
        simp [hd]
    · rw [if_pos hhd]
      exact To.pos (by simp [hhd]) (To.bindS rfl To.pure)

def chk3 (l : List api_Destination) (v : api_Unit) : List api_Finding :=
  if (src l v.Id).length = 0 then [⟨0, v.Id, 4, sNoSrc⟩] else if 1 < (src l v.Id).length then [⟨0, v.Id, 8, sSevSrc⟩] else []
theorem chk3_len (l : List api_Destination) (v : api_Unit) : (chk3 l v).length ≤ 1 := by unfold chk3; split <;> (try split) <;> simp

theorem check3_ok {b : api_Unit} {l : List api_Destination} {t : equivalence_table} (ht : Tab b l t) (v : api_Unit) (c : List api_Finding) (hc : c.length ≤ 1000000) : M.equivalence_Check_3 v t c = some (c ++ chk3 l v) := by
  unfold M.equivalence_Check_3 chk3
  rw [ht.fr]
  by_cases h0 : (src l v.Id).length = 0
  · rw [if_pos (by omega), if_pos h0, check1_ok _ _ hc]; rfl
  · rw [if_neg (by omega), if_neg h0]
    by_cases h1 : 1 < (src l v.Id).length
    · rw [if_pos (by omega), if_pos h1, check1_ok _ _ hc]; rfl
    · rw [if_neg (by omega), if_neg h1]; simp

def unk (a : api_Unit) : List api_Destination → Nat → List api_Finding
  | [], _ => []
  | d :: l, i => (if inB a d.From = false then [⟨(i : Int), d.From, 1, sUnk⟩] else []) ++ unk a l (i + 1)

def checkF (D : api_Unit → api_Unit → Int × Bool) (a b : api_Unit) (l : List api_Destination) : List api_Finding :=
  (kd a).flatMap (fun u => fl (flawF D b l u)) ++ (kd b).flatMap (chk3 l) ++ unk a l 0

theorem fm_len {α β : Type} (g : α → List β) (hg : ∀ x, (g x).length ≤ 1) : ∀ l : List α, (l.flatMap g).length ≤ l.length := by
  intro l
  induction l with
  | nil => simp
  | cons a l ih => have := hg a; simp only [List.flatMap_cons, List.length_append, List.length_cons]; omega

theorem check_ok (a b : api_Unit) (l : List api_Destination) (xs ys : List api_Meaning) (D : api_Unit → api_Unit → Int × Bool) (hca : cnt a ≤ 10000) (hla : labs a) (hfa : fineT a) (hcb : cnt b ≤ 10000) (hlb : labs b) (hfb : fineT b) (hl : l.length ≤ 10000)
    (hD : ∀ t, Tab b l t → ∀ u ∈ kd a, ∀ v ∈ kd b, dst l u.Id = [v.Id] → findO v.Id b = some v → To (fun n => M.equivalence_table_differ n t (rdT u xs) (rdT v ys)) (D u v)) :
    To (fun n => M.equivalence_Check n a b l xs ys) (checkF D a b l) := by
  obtain ⟨t, h1, ht⟩ := made_ok a b l (by omega)
  simp only [M.equivalence_Check]
  refine To.bindS h1 ?_
  have k0 := kd_len a
  have k1 := kd_len b
  have e0 := each0_ok t xs ys (fun u => fl (flawF D b l u)) (fun _ => fl_len _) a (fun u hu c hc => by
    have hud := kd_desc hu
    simp only [M.equivalence_Check_2]
    exact To.bind (flaw_ok ht hcb hlb hfb xs ys D u (hla u hud).2.2 (hla u hud).2.1 (hfa u hud) (hD t ht u hu)) (To.bindS (check1_ok _ _ hc) To.pure)) [] (by simp; omega)
  have l0 := fm_len (fun u => fl (flawF D b l u)) (fun _ => fl_len _) (kd a)
  refine To.bind e0 ?_
  have e1 := each1_ok t (chk3 l) (chk3_len l) b (fun v hv c hc => check3_ok ht v c hc) ([] ++ (kd a).flatMap (fun u => fl (flawF D b l u))) (by simp only [List.nil_append]; omega)
  have l1 := fm_len (chk3 l) (chk3_len l) (kd b)
  refine To.bind e1 ?_
  have loop : ∀ (xs : List api_Destination) (i : Nat) (out : List api_Finding), out.length + xs.length ≤ 1000000 → To (fun n => M.equivalence_Check_loop1 n a xs (i : Int) out) (out ++ unk a xs i) := by
    intro xs
    induction xs with
    | nil => intro i out _; exact To.pure.of (by simp [unk])
    | cons d xs ih =>
      intro i out h
      simp only [List.length_cons] at h
      simp only [M.equivalence_Check_loop1, unk]
      refine To.bind (inner_ok a d.From hca hla) ?_
      cases hi : inB a d.From with
      | false =>
        refine To.pos rfl (To.bindS (check1_ok _ _ (by omega)) ?_)
        rw [cast_succ]
        refine (ih (i + 1) _ (by simp [fl]; omega)).of ?_
        simp [fl]
      | true =>
        refine To.neg (by simp) ?_
        rw [cast_succ]
        exact (ih (i + 1) out (by omega)).of (by simp)
  refine To.bind (loop l 0 _ (by simp only [List.nil_append, List.length_append]; omega)) (To.pure.of ?_)
  simp [checkF]

theorem unk_nil (a : api_Unit) : ∀ (l : List api_Destination) (i : Nat), unk a l i = [] ↔ ∀ d ∈ l, inB a d.From = true := by
  intro l
  induction l with
  | nil => intro i; simp [unk]
  | cons d l ih =>
    intro i
    simp only [unk, List.append_eq_nil_iff, ih (i + 1), List.forall_mem_cons]
    cases h : inB a d.From <;> simp

theorem chk3_nil (l : List api_Destination) (v : api_Unit) : chk3 l v = [] ↔ (src l v.Id).length = 1 := by
  unfold chk3
  split
  · simp; omega
  · split
    · simp; omega
    · simp; omega

/-- A unit without a flaw. -/
structure Same (D : api_Unit → api_Unit → Int × Bool) (b : api_Unit) (l : List api_Destination) (u v : api_Unit) : Prop where
  d : dst l u.Id = [v.Id]
  k : v ∈ kd b
  f : findO v.Id b = some v
  i : inB b v.Id = true
  kind : u.Kind = v.Kind
  head : tx u.Head = tx v.Head
  dif : (D u v).2 = false

theorem flaw_nil (D : api_Unit → api_Unit → Int × Bool) (b : api_Unit) (l : List api_Destination) (u : api_Unit) : fl (flawF D b l u) = [] ↔ ∃ v, Same D b l u v := by
  constructor
  · intro h
    have hw : (flawF D b l u).Why = 0 := by
      unfold fl at h
      by_cases hh : (flawF D b l u).Why ≠ 0
      · rw [if_pos hh] at h; cases h
      · simpa using hh
    unfold flawF at hw
    split at hw
    · cases hw
    split at hw
    · cases hw
    split at hw
    · cases hw
    rename_i h0 h1 h2
    obtain ⟨x, hx, hi, hgo⟩ := go_true (by simpa using h2)
    obtain ⟨v, hv, hvk, hvi, hfr⟩ := in_find hi
    rw [hgo] at hw
    simp only [hfr] at hw
    split at hw
    · cases hw
    split at hw
    · cases hw
    split at hw
    · cases hw
    rename_i h3 h4 h5
    subst hvi
    exact ⟨v, hx, hvk, hv, hi, by simpa using h3, by simpa using h4, by simpa using h5⟩
  · rintro ⟨v, h⟩
    have hgo : goF b l u.Id = (v.Id, true) := by unfold goF; rw [h.d]; simp [h.i]
    have hfr : findR v.Id b = (v, true) := by unfold findR; rw [h.f]
    unfold flawF
    simp only [h.d, hgo, hfr, h.kind, h.head, h.dif]
    simp [fl]

theorem check_nil (D : api_Unit → api_Unit → Int × Bool) (a b : api_Unit) (l : List api_Destination) : checkF D a b l = [] ↔ (∀ u ∈ kd a, ∃ v, Same D b l u v) ∧ (∀ v ∈ kd b, (src l v.Id).length = 1) ∧ ∀ d ∈ l, inB a d.From = true := by
  unfold checkF
  simp only [List.append_eq_nil_iff, List.flatMap_eq_nil_iff, unk_nil, flaw_nil, chk3_nil, and_assoc]
end Go.Proofs.Ytclepigknhoonaa
