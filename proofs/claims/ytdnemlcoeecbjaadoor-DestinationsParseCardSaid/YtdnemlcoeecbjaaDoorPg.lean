/-
  Texts of tables: Format and Parse against the reference.
-/
import Derived.Test.YtdnemlcoeecbjaaDoorPf
set_option linter.unusedVariables false
set_option linter.unusedSimpArgs false
namespace Go.Proofs.YtdnemlcoeecbjaaDoor
open Go Go.Dec

/-! ## One line -/

def mkD (a b c d e f : Int) : Dst := ⟨⟨a, b, c⟩, ⟨d, e, f⟩⟩
/-- The entry that stands in a line, if one does. -/
def rdB (s : Str) : Option Dst := match splitC 32 s with
  | [a, b, c, _, d, e, f] => if lnF (mkD (atoi1 a) (atoi1 b) (atoi1 c) (atoi1 d) (atoi1 e) (atoi1 f)) = s then some (mkD (atoi1 a) (atoi1 b) (atoi1 c) (atoi1 d) (atoi1 e) (atoi1 f)) else none
  | _ => none

theorem seven {α : Type} {l : List α} (h : l.length = 7) : ∃ a b c x d e f, l = [a, b, c, x, d, e, f] := by
  match l, h with
  | [a, b, c, x, d, e, f], _ => exact ⟨a, b, c, x, d, e, f, rfl⟩

theorem mkD_in (a b c d e f : Str) : inD (mkD (atoi1 a) (atoi1 b) (atoi1 c) (atoi1 d) (atoi1 e) (atoi1 f)) :=
  ⟨⟨atoi1_in _, atoi1_in _, atoi1_in _⟩, ⟨atoi1_in _, atoi1_in _, atoi1_in _⟩⟩
theorem mkN_in (a b c d e f : Str) : inD (mkD (num1 a) (num1 b) (num1 c) (num1 d) (num1 e) (num1 f)) :=
  ⟨⟨num1_in _, num1_in _, num1_in _⟩, ⟨num1_in _, num1_in _, num1_in _⟩⟩

theorem rdB_in {s : Str} {d : Dst} (h : rdB s = some d) : inD d ∧ lnF d = s := by
  unfold rdB at h
  split at h
  · split at h
    · rename_i e; cases h; exact ⟨mkD_in _ _ _ _ _ _, e⟩
    · cases h
  · cases h

theorem rdB_line {d : Dst} (h : inD d) : rdB (lnF d) = some d := by
  unfold rdB
  rw [split_line]
  simp only [wds]
  rw [atoi1_itoa h.1.1, atoi1_itoa h.1.2.1, atoi1_itoa h.1.2.2, atoi1_itoa h.2.1, atoi1_itoa h.2.2.1, atoi1_itoa h.2.2.2]
  exact if_pos rfl

theorem split_len (c : UInt8) : ∀ s : Str, ∀ p ∈ splitC c s, p.length ≤ s.length
  | [], p, hp => by simp [splitC] at hp; subst hp; exact Nat.le_refl _
  | b :: l, p, hp => by
    unfold splitC at hp
    split at hp
    · rcases List.mem_cons.1 hp with rfl | hp
      · simp
      · have := split_len c l p hp; simp; omega
    · split at hp
      · simp at hp; subst hp; simp
      · rename_i q qs hq
        rcases List.mem_cons.1 hp with rfl | hp
        · have := split_len c l q (by rw [hq]; exact List.mem_cons_self); simp; omega
        · have := split_len c l p (by rw [hq]; exact List.mem_cons_of_mem _ hp); simp; omega

/-- The code's reading of a line. -/
theorem read_ok (s : Str) (hs : s.length ≤ 10000) : ∃ d, M.destinations_read s = some (d, (rdB s).isSome) ∧ ∀ e, rdB s = some e → d = e := by
  have hsp : splitM s [32] = some (splitC 32 s) := by
    unfold splitM
    exact if_pos (by omega)
  simp only [M.destinations_read]
  rw [hsp, Option.bind_some]
  by_cases h7 : (splitC 32 s).length = 7
  · rw [if_neg (by omega)]
    obtain ⟨a, b, c, x, d, e, f, he⟩ := seven h7
    have hl := split_len 32 s
    rw [he] at hl
    obtain ⟨u1, k1⟩ := atoiM_ok (s := a) (by have := hl a (by simp); omega)
    obtain ⟨u2, k2⟩ := atoiM_ok (s := b) (by have := hl b (by simp); omega)
    obtain ⟨u3, k3⟩ := atoiM_ok (s := c) (by have := hl c (by simp); omega)
    obtain ⟨u4, k4⟩ := atoiM_ok (s := x) (by have := hl x (by simp); omega)
    obtain ⟨u5, k5⟩ := atoiM_ok (s := d) (by have := hl d (by simp); omega)
    obtain ⟨u6, k6⟩ := atoiM_ok (s := e) (by have := hl e (by simp); omega)
    obtain ⟨u7, k7⟩ := atoiM_ok (s := f) (by have := hl f (by simp); omega)
    have hloop : M.destinations_read_loop1 (splitC 32 s) (0 : Int) (List.replicate 7 (0 : Int)) = some [atoi1 a, atoi1 b, atoi1 c, atoi1 x, atoi1 d, atoi1 e, atoi1 f] := by
      rw [he]
      simp only [M.destinations_read_loop1, k1, k2, k3, k4, k5, k6, k7, Option.bind_some]
      rfl
    rw [hloop, Option.bind_some]
    have hln := line_ok (mkD_in a b c d e f)
    have hr : rdB s = if lnF (mkD (atoi1 a) (atoi1 b) (atoi1 c) (atoi1 d) (atoi1 e) (atoi1 f)) = s then some (mkD (atoi1 a) (atoi1 b) (atoi1 c) (atoi1 d) (atoi1 e) (atoi1 f)) else none := by
      unfold rdB
      rw [he]
    refine ⟨mkD (atoi1 a) (atoi1 b) (atoi1 c) (atoi1 d) (atoi1 e) (atoi1 f), ?_, ?_⟩
    · show Option.bind (M.destinations_line (mkD (atoi1 a) (atoi1 b) (atoi1 c) (atoi1 d) (atoi1 e) (atoi1 f))) (fun line => some (mkD (atoi1 a) (atoi1 b) (atoi1 c) (atoi1 d) (atoi1 e) (atoi1 f), line == s)) = _
      rw [hln, Option.bind_some, hr]
      by_cases hq : lnF (mkD (atoi1 a) (atoi1 b) (atoi1 c) (atoi1 d) (atoi1 e) (atoi1 f)) = s
      · rw [if_pos hq, hq]; simp
      · rw [if_neg hq]
        have : (lnF (mkD (atoi1 a) (atoi1 b) (atoi1 c) (atoi1 d) (atoi1 e) (atoi1 f)) == s) = false := by simpa using hq
        rw [this]; rfl
    · intro e' h'
      rw [hr] at h'
      split at h'
      · exact Option.some.inj h'
      · cases h'
  · rw [if_pos (by omega)]
    have hn : rdB s = none := by
      unfold rdB
      split
      · rename_i e
        rw [e] at h7
        exact absurd rfl h7
      · rfl
    rw [hn]
    exact ⟨_, rfl, fun e h => by cases h⟩

/-- The reference's reading of a line. -/
theorem read_r (s : Str) (hs : s.length ≤ 10000) : To (fun n => M.r47_Read n s) (match rdB s with | some d => (d, true) | none => ((⟨zapi_Id, zapi_Id⟩ : api_Destination), false)) := by
  simp only [M.r47_Read]
  refine To.bind (cut_ok s (by omega)) ?_
  by_cases h7 : (splitC 32 s).length = 7
  · refine To.neg (by omega) ?_
    obtain ⟨a, b, c, x, d, e, f, he⟩ := seven h7
    have hl := split_len 32 s
    rw [he] at hl
    have m1 : ∀ y, y ∈ [a, b, c, x, d, e, f] → To (fun k => M.r47_number k y) (num1 y) := fun y hy => number_r y (by have := hl y hy; omega)
    rw [he]
    refine To.bindS (show idx [a, b, c, x, d, e, f] (0 : Int) = some a from rfl) (To.bind (m1 a (by simp)) ?_)
    refine To.bindS (show idx [a, b, c, x, d, e, f] (1 : Int) = some b from rfl) (To.bind (m1 b (by simp)) ?_)
    refine To.bindS (show idx [a, b, c, x, d, e, f] (2 : Int) = some c from rfl) (To.bind (m1 c (by simp)) ?_)
    refine To.bindS (show idx [a, b, c, x, d, e, f] (4 : Int) = some d from rfl) (To.bind (m1 d (by simp)) ?_)
    refine To.bindS (show idx [a, b, c, x, d, e, f] (5 : Int) = some e from rfl) (To.bind (m1 e (by simp)) ?_)
    refine To.bindS (show idx [a, b, c, x, d, e, f] (6 : Int) = some f from rfl) (To.bind (m1 f (by simp)) ?_)
    refine To.bind (line_r (mkN_in a b c d e f)) ?_
    have hr : rdB s = if lnF (mkD (atoi1 a) (atoi1 b) (atoi1 c) (atoi1 d) (atoi1 e) (atoi1 f)) = s then some (mkD (atoi1 a) (atoi1 b) (atoi1 c) (atoi1 d) (atoi1 e) (atoi1 f)) else none := by
      unfold rdB
      rw [he]
    -- whatever prints as this line is what both have read
    have key : ∀ g : Dst, lnF g = s → Lib.itoa g.From.Act = a ∧ Lib.itoa g.From.Item = b ∧ Lib.itoa g.From.N = c ∧ Lib.itoa g.To.Act = d ∧ Lib.itoa g.To.Item = e ∧ Lib.itoa g.To.N = f := by
      intro g hg
      have h1 := split_line g
      rw [hg, he] at h1
      simp only [wds, List.cons.injEq, and_true] at h1
      obtain ⟨q1, q2, q3, _, q5, q6, q7⟩ := h1
      exact ⟨q1.symm, q2.symm, q3.symm, q5.symm, q6.symm, q7.symm⟩
    have hsame : ∀ g : Dst, inD g → lnF g = s → mkD (atoi1 a) (atoi1 b) (atoi1 c) (atoi1 d) (atoi1 e) (atoi1 f) = g ∧ mkD (num1 a) (num1 b) (num1 c) (num1 d) (num1 e) (num1 f) = g := by
      intro g hi hg
      obtain ⟨q1, q2, q3, q5, q6, q7⟩ := key g hg
      rw [← q1, ← q2, ← q3, ← q5, ← q6, ← q7, atoi1_itoa hi.1.1, atoi1_itoa hi.1.2.1, atoi1_itoa hi.1.2.2, atoi1_itoa hi.2.1, atoi1_itoa hi.2.2.1, atoi1_itoa hi.2.2.2,
        num1_itoa hi.1.1, num1_itoa hi.1.2.1, num1_itoa hi.1.2.2, num1_itoa hi.2.1, num1_itoa hi.2.2.1, num1_itoa hi.2.2.2]
      exact ⟨rfl, rfl⟩
    by_cases hq : lnF (mkD (num1 a) (num1 b) (num1 c) (num1 d) (num1 e) (num1 f)) = s
    · have h1 := (hsame _ (mkN_in a b c d e f) hq).1
      refine To.neg (by rw [show lnF (⟨⟨num1 a, num1 b, num1 c⟩, ⟨num1 d, num1 e, num1 f⟩⟩ : api_Destination) = s from hq]; simp) (To.pure.of ?_)
      rw [hr, h1, if_pos hq]
      rfl
    · refine To.pos (by rw [bne_iff_ne]; exact hq) (To.pure.of ?_)
      have hn : ¬ lnF (mkD (atoi1 a) (atoi1 b) (atoi1 c) (atoi1 d) (atoi1 e) (atoi1 f)) = s := by
        intro h
        have h2 := (hsame _ (mkD_in a b c d e f) h).2
        exact hq (by rw [h2]; exact h)
      rw [hr, if_neg hn]
  · refine To.pos (by omega) (To.pure.of ?_)
    have hn : rdB s = none := by
      unfold rdB
      split
      · rename_i e
        rw [e] at h7
        exact absurd rfl h7
      · rfl
    rw [hn]

/-! ## All lines -/

def dupB (out : List Dst) (d : Dst) : Bool := (toF d.From out).2 || (toF d.To (inv out)).2
/-- What a text, cut at its line ends, holds. -/
def goP (out : List Dst) : List Str → List Dst × Int × Int
  | [] => (out, out.length, 0)
  | [p] => if p = [] then (out, out.length, 0) else ([], out.length, 2)
  | p :: q :: ps => match rdB p with
    | none => ([], out.length, 2)
    | some d => if dupB out d = true then ([], out.length, 5) else goP (out ++ [d]) (q :: ps)

/-- Where a text is cut first. -/
theorem cut_split (c : UInt8) : ∀ (s p : Str) (ps : List Str), splitC c s = p :: ps →
    (ps = [] → Lib.cut s [c] = (s, [], false) ∧ p = s) ∧ (ps ≠ [] → ∃ rest, Lib.cut s [c] = (p, rest, true) ∧ splitC c rest = ps ∧ s = p ++ c :: rest)
  | [], p, ps, h => by
    simp only [splitC, List.cons.injEq] at h
    obtain ⟨rfl, rfl⟩ := h
    exact ⟨fun _ => ⟨rfl, rfl⟩, fun h => absurd rfl h⟩
  | b :: l, p, ps, h => by
    obtain ⟨q, qs, hq⟩ := splitC_cons c l
    have ih := cut_split c l q qs hq
    have hpre : ([c] : List UInt8).isPrefixOf (b :: l) = (c == b) := by simp [List.isPrefixOf]
    unfold splitC at h
    by_cases hb : b = c
    · rw [if_pos hb] at h
      simp only [List.cons.injEq] at h
      obtain ⟨rfl, rfl⟩ := h
      subst hb
      have hi : Lib.index (b :: l) [b] = 0 := by
        unfold Lib.index
        rw [hpre]; simp
      refine ⟨fun e => absurd (hq ▸ e) (by simp), fun _ => ⟨l, ?_, rfl, rfl⟩⟩
      unfold Lib.cut
      rw [hi]; rfl
    · rw [if_neg hb, hq] at h
      simp only [List.cons.injEq] at h
      obtain ⟨rfl, rfl⟩ := h
      have hi : Lib.index (b :: l) [c] = if Lib.index l [c] == -1 then -1 else Lib.index l [c] + 1 := by
        rw [Lib.index]
        rw [hpre]
        have : (c == b) = false := by simpa using fun e => hb (Eq.symm e)
        rw [this]; rfl
      have hge : Lib.index l [c] = -1 ∨ 0 ≤ Lib.index l [c] := by
        rcases Lib.index_spec l [c] with ⟨h1, _⟩ | ⟨i, h1, _⟩
        · exact .inl h1
        · exact .inr (by omega)
      refine ⟨fun e => ?_, fun e => ?_⟩
      · obtain ⟨h1, h2⟩ := ih.1 e
        have h3 : Lib.index l [c] = -1 := by
          unfold Lib.cut at h1
          split at h1
          · have := congrArg (fun x => x.2.2) h1; cases this
          · omega
        refine ⟨?_, by rw [h2]⟩
        unfold Lib.cut
        rw [hi, h3]; rfl
      · obtain ⟨rest, h1, h2, h3⟩ := ih.2 e
        have h4 : 0 ≤ Lib.index l [c] := by
          unfold Lib.cut at h1
          split at h1
          · assumption
          · have := congrArg (fun x => x.2.2) h1; cases this
        refine ⟨rest, ?_, h2, by rw [h3]; rfl⟩
        unfold Lib.cut at h1 ⊢
        rw [if_pos h4] at h1
        have h5 : (Lib.index l [c] == -1) = false := by simp; omega
        rw [hi, h5]
        simp only [Bool.false_eq_true, if_false]
        rw [if_pos (by omega)]
        obtain ⟨m, hm⟩ : ∃ m : Nat, Lib.index l [c] = (m : Int) := ⟨(Lib.index l [c]).toNat, by omega⟩
        rw [hm] at h1 ⊢
        have h6 : ((m : Int) + 1).toNat = m + 1 := by omega
        rw [h6]
        simp only [Int.toNat_natCast] at h1
        simp only [List.take_succ_cons, List.length_cons, List.length_nil, Prod.mk.injEq] at h1 ⊢
        refine ⟨by rw [h1.1], ?_, trivial⟩
        rw [← h1.2.1]
        rfl

theorem parse_loop : ∀ (m : Nat) (s : Str), s.length ≤ m → s.length ≤ 10000 → ∀ (out : List Dst), out.length + (splitC 10 s).length ≤ 4050 →
    To (fun n => M.destinations_Parse_loop1 n s out) (match goP out (splitC 10 s) with | (l, k, e) => if e = 0 then .inl l else .inr (l, k, e)) := by
  intro m
  induction m with
  | zero =>
    intro s hs hs4 out ho
    obtain rfl : s = [] := List.eq_nil_of_length_eq_zero (by omega)
    refine To.succ ?_
    simp only [M.destinations_Parse_loop1]
    refine To.neg (by simp) (To.pure.of ?_)
    rfl
  | succ m ih =>
    intro s hs hs4 out ho
    cases s with
    | nil =>
      refine To.succ ?_
      simp only [M.destinations_Parse_loop1]
      refine To.neg (by simp) (To.pure.of ?_)
      rfl
    | cons b l =>
    obtain ⟨p, ps, hsp⟩ := splitC_cons 10 (b :: l)
    have hcut := cut_split 10 (b :: l) p ps hsp
    have hps := split_len 10 (b :: l) p (by rw [hsp]; exact List.mem_cons_self)
    obtain ⟨d, hd1, hd2⟩ := read_ok p (by omega)
    refine To.succ ?_
    simp only [M.destinations_Parse_loop1]
    refine To.pos (by simp) ?_
    rw [hsp] at ho ⊢
    cases ps with
    | nil =>
      obtain ⟨h1, h2⟩ := hcut.1 rfl
      have hc : cutM (b :: l) [10] = some (b :: l, [], false) := by
        unfold cutM
        rw [if_pos (by omega), h1]
      subst h2
      refine To.bindS hc (To.bindS hd1 (To.bind (a := true) ?_ ?_))
      · exact To.pos rfl To.pure
      · refine To.pos rfl (To.pure.of ?_)
        simp [goP]
    | cons q qs =>
      obtain ⟨rest, h1, h2, h3⟩ := hcut.2 (by simp)
      have hc : cutM (b :: l) [10] = some (p, rest, true) := by
        unfold cutM
        rw [if_pos (by omega), h1]
      have hlen : rest.length + p.length + 1 = (b :: l).length := by rw [h3]; simp; omega
      refine To.bindS hc (To.bindS hd1 (To.bind (a := !(rdB p).isSome) ?_ ?_))
      · exact To.neg (by simp) To.pure
      · cases hr : rdB p with
        | none =>
          refine To.pos (by simp) (To.pure.of ?_)
          simp [goP, hr]
        | some e =>
          obtain rfl := hd2 e hr
          refine To.neg (by simp) (To.bind (to_ok d.From out) (To.bind (from_ok d.To out) (To.bind (a := dupB out d) ?_ ?_)))
          · unfold dupB
            by_cases ha : (toF d.From out).2 = true
            · exact To.pos ha (To.pure.of (by rw [ha]; rfl))
            · have ha' : (toF d.From out).2 = false := by simpa using ha
              exact To.neg ha (To.pure.of (by rw [ha']; rfl))
          · by_cases hdup : dupB out d = true
            · refine To.pos hdup (To.pure.of ?_)
              simp [goP, hr, hdup]
            · refine To.neg hdup (To.neg (by simp at ho; omega) (To.bindS (appC_eq (by simp at ho ⊢; omega)) ?_))
              refine (ih rest (by omega) (by omega) (out ++ [d]) (by rw [h2]; simp at ho ⊢; omega)).of ?_
              rw [h2]
              simp only [goP, hr]
              rw [if_neg hdup]

theorem parse_ok (s : Str) (hs : s.length ≤ 10000) (hn : (splitC 10 s).length ≤ 4050) : To (fun n => M.destinations_Parse n s) (goP [] (splitC 10 s)) := by
  have hk : ∀ (ps : List Str) (out : List Dst), (goP out ps).2.2 = 0 → (goP out ps).2.1 = ((goP out ps).1.length : Int) := by
    intro ps
    induction ps with
    | nil => intro out _; rfl
    | cons p ps ih =>
      intro out h
      cases ps with
      | nil =>
        unfold goP at h ⊢
        split
        · rfl
        · rename_i hp; rw [if_neg hp] at h; cases h
      | cons q qs =>
        unfold goP at h ⊢
        split
        · rename_i hr; rw [hr] at h; cases h
        · rename_i d hr
          rw [hr] at h
          dsimp only at h
          split
          · rename_i hdup; rw [if_pos hdup] at h; cases h
          · rename_i hdup; rw [if_neg hdup] at h; exact ih _ h
  simp only [M.destinations_Parse]
  refine To.bind (parse_loop s.length s (Nat.le_refl _) hs [] (by simpa using hn)) ?_
  have h := hk (splitC 10 s) []
  revert h
  cases hg : goP [] (splitC 10 s) with
  | mk l x =>
    obtain ⟨k, e⟩ := x
    intro h
    dsimp only at h ⊢
    by_cases he : e = 0
    · subst he
      rw [if_pos rfl]
      exact To.pure.of (by rw [h rfl])
    · rw [if_neg he]
      exact To.pure

/-! ## The reference -/

theorem okE {out : List Dst} (h : Ok out) (d : Dst) : Ok (out ++ [d]) ↔ dupB out d = false := by
  have toF_false : ∀ (id : api_Id) (l : List Dst), (toF id l).2 = false ↔ ∀ x ∈ l, x.From ≠ id := by
    intro id l
    induction l with
    | nil => simp [toF]
    | cons y l ih =>
      rw [toF_cons]
      by_cases hy : y.From = id
      · rw [if_pos hy]; simp [hy]
      · rw [if_neg hy, ih]; simp [hy]
  have hinv : (∀ x ∈ inv out, x.From ≠ d.To) ↔ ∀ x ∈ out, x.To ≠ d.To := by
    unfold inv
    constructor
    · intro hx x hm; exact hx ⟨x.To, x.From⟩ (List.mem_map.2 ⟨x, hm, rfl⟩)
    · intro hx x hm
      obtain ⟨y, hy, rfl⟩ := List.mem_map.1 hm
      exact hx y hy
  unfold dupB Ok
  rw [Bool.or_eq_false_iff, toF_false, toF_false, hinv, List.pairwise_append]
  constructor
  · rintro ⟨_, _, h3⟩
    exact ⟨fun x hx => (h3 x hx d (by simp)).1, fun x hx => (h3 x hx d (by simp)).2⟩
  · rintro ⟨h1, h2⟩
    refine ⟨h, List.pairwise_singleton _ _, fun x hx y hy => ?_⟩
    rw [List.mem_singleton.1 hy]
    exact ⟨h1 x hx, h2 x hx⟩

def finR (s : Str) : ((List Dst × Int) ⊕ (List Dst × Int × Int)) → List Dst × Int × Int
  | .inl (l, f) => if f < (s.length : Int) then ([], l.length, 2) else (l, l.length, 0)
  | .inr r => r

theorem take_next {s : Str} {i from0 : Nat} {c : UInt8} {xs : Str} (h : s.drop i = c :: xs) (hf : from0 ≤ i) : (s.take (i + 1)).drop from0 = (s.take i).drop from0 ++ [c] := by
  have hi := (drop_cons h).1
  have hc := (drop_cons h).2.1
  rw [List.take_add_one, hc, List.drop_append_of_le_length (by rw [List.length_take]; omega)]
  rfl

theorem rparse_loop (s : Str) (hs : s.length ≤ 4000) : ∀ (xs p : Str) (ps : List Str) (i from0 : Nat) (out : List Dst), s.drop i = xs → i ≤ s.length → from0 ≤ i → out.length ≤ from0 → Ok out → splitC 10 xs = p :: ps →
    ∃ o, To (fun n => M.r47_Parse_loop1 s n out (from0 : Int) (i : Int)) o ∧ finR s o = goP out (((s.take i).drop from0 ++ p) :: ps)
  | [], p, ps, i, from0, out, hx, hi, hf, ho, hok, hsp => by
    have he := drop_end hx
    have hil : i = s.length := by omega
    simp only [splitC, List.cons.injEq] at hsp
    obtain ⟨rfl, rfl⟩ := hsp
    refine ⟨.inl (out, (from0 : Int)), To.succ ?_, ?_⟩
    · simp only [M.r47_Parse_loop1]
      exact To.neg he To.pure
    · subst hil
      simp only [finR, goP, List.append_nil, List.take_length]
      by_cases h : from0 < s.length
      · rw [if_pos (by omega), if_neg]
        intro e
        have := congrArg List.length e
        simp at this; omega
      · rw [if_neg (by omega), if_pos]
        exact List.drop_eq_nil_of_le (by omega)
  | c :: xs, p, ps, i, from0, out, hx, hi, hf, ho, hok, hsp => by
    have hidx := drop_idx hx
    have hlt := (drop_cons hx).1
    obtain ⟨q, qs, hq⟩ := splitC_cons 10 xs
    by_cases hc : c = 10
    · subst hc
      have hsp' : p = [] ∧ ps = q :: qs := by
        rw [splitC, if_pos rfl, hq] at hsp
        simp only [List.cons.injEq] at hsp
        exact ⟨hsp.1.symm, hsp.2.symm⟩
      obtain ⟨rfl, rfl⟩ := hsp'
      rw [List.append_nil]
      have hsl : slc s (from0 : Int) (i : Int) = some ((s.take i).drop from0) := slc_nat s from0 i hf (by omega)
      have hrd := read_r ((s.take i).drop from0) (by simp; omega)
      cases hr : rdB ((s.take i).drop from0) with
      | none =>
        rw [hr] at hrd
        refine ⟨.inr ([], (out.length : Int), 2), To.succ ?_, ?_⟩
        · simp only [M.r47_Parse_loop1]
          refine To.pos (by omega) (To.bindS hidx (To.neg (by decide) (To.bindS hsl (To.bind hrd (To.pos rfl To.pure)))))
        · simp only [finR, goP, hr]
      | some d =>
        rw [hr] at hrd
        have hmay := may_ok47 (out ++ [d]) (by simp; omega)
        have hv : vB (out ++ [d]) = true ↔ dupB out d = false := by
          rw [vB_iff, okE hok]
          exact ⟨fun h => h.1, fun h => ⟨h, by simp; omega⟩⟩
        by_cases hdup : dupB out d = true
        · have hv' : vB (out ++ [d]) = false := by
            cases h : vB (out ++ [d]) with
            | false => rfl
            | true => rw [hv.1 h] at hdup; cases hdup
          rw [hv'] at hmay
          refine ⟨.inr ([], (out.length : Int), 5), To.succ ?_, ?_⟩
          · simp only [M.r47_Parse_loop1]
            refine To.pos (by omega) (To.bindS hidx (To.neg (by decide) (To.bindS hsl (To.bind hrd (To.neg (by simp) (To.bindS (appC_eq (by simp; omega)) (To.bindS (appC_eq (by simp; omega)) (To.bind hmay (To.pos rfl (To.pos (by omega) To.pure))))))))))
          · simp only [finR, goP, hr]
            rw [if_pos hdup]
        · have hdup' : dupB out d = false := by simpa using hdup
          have hv' := hv.2 hdup'
          rw [hv'] at hmay
          obtain ⟨o, ho1, ho2⟩ := rparse_loop s hs xs q qs (i + 1) (i + 1) (out ++ [d]) (drop_next hx) (by omega) (Nat.le_refl _) (by simp; omega) ((okE hok d).2 hdup') hq
          refine ⟨o, To.succ ?_, ?_⟩
          · simp only [M.r47_Parse_loop1]
            refine To.pos (by omega) (To.bindS hidx (To.neg (by decide) (To.bindS hsl (To.bind hrd (To.neg (by simp) (To.bindS (appC_eq (by simp; omega)) (To.bindS (appC_eq (by simp; omega)) (To.bind hmay (To.neg (by simp) (To.neg (by omega) (To.bindS (appC_eq (by simp; omega)) ?_)))))))))))
            rw [cast_succ]
            exact ho1
          · rw [ho2]
            have e : (s.take (i + 1)).drop (i + 1) = [] := List.drop_eq_nil_of_le (by simp; omega)
            rw [e, List.nil_append]
            simp only [goP, hr]
            rw [if_neg hdup]
    · have hsp' : p = c :: q ∧ ps = qs := by
        rw [splitC, if_neg hc, hq] at hsp
        simp only [List.cons.injEq] at hsp
        exact ⟨hsp.1.symm, hsp.2.symm⟩
      obtain ⟨rfl, rfl⟩ := hsp'
      obtain ⟨o, ho1, ho2⟩ := rparse_loop s hs xs q ps (i + 1) from0 out (drop_next hx) (by omega) (by omega) ho hok hq
      refine ⟨o, To.succ ?_, ?_⟩
      · simp only [M.r47_Parse_loop1]
        refine To.pos (by omega) (To.bindS hidx (To.pos ?_ ?_))
        · intro e
          apply hc
          apply UInt8.toNat_inj.1
          show c.toNat = 10
          omega
        · rw [cast_succ]; exact ho1
      · rw [ho2, take_next hx hf]
        simp

theorem rparse_ok (s : Str) (hs : s.length ≤ 4000) : To (fun n => M.r47_Parse n s) (goP [] (splitC 10 s)) := by
  obtain ⟨p, ps, hsp⟩ := splitC_cons 10 s
  obtain ⟨o, h1, h2⟩ := rparse_loop s hs s p ps 0 0 [] rfl (by omega) (Nat.le_refl _) (Nat.le_refl _) List.Pairwise.nil hsp
  simp only [M.r47_Parse]
  refine To.bind h1 ?_
  have h3 : goP [] (splitC 10 s) = finR s o := by rw [h2, hsp]; simp
  rw [h3]
  cases o with
  | inr r => exact To.pure
  | inl x =>
    obtain ⟨l, f⟩ := x
    dsimp only [finR]
    by_cases h : f < (s.length : Int)
    · exact (To.pos h To.pure).of (if_pos h).symm
    · exact (To.neg h To.pure).of (if_neg h).symm

/-! ## Format -/

theorem fmt_loop : ∀ (l : List Dst) (b : Str), (∀ d ∈ l, inD d) → b.length + 129 * l.length ≤ 1000000 → M.destinations_Format_loop1 l b = some (b ++ fmtF l)
  | [], b, _, _ => by simp [M.destinations_Format_loop1, fmtF]
  | d :: l, b, hl, hb => by
    have hd := hl d List.mem_cons_self
    have h1 := lnF_len hd
    simp only [List.length_cons] at hb
    simp only [M.destinations_Format_loop1]
    rw [line_ok hd, Option.bind_some, catC_eq (by simp; omega), Option.bind_some, appC_eq (by simp; omega), Option.bind_some,
      fmt_loop l _ (fun x hx => hl x (List.mem_cons_of_mem _ hx)) (by simp; omega)]
    simp [fmtF]

theorem fmt_ok (l : List Dst) (hl : ∀ d ∈ l, inD d) (h : l.length ≤ 5000) : M.destinations_Format l = some (fmtF l) := by
  simp only [M.destinations_Format]
  rw [fmt_loop l [] hl (by simp; omega)]
  rfl

theorem text_loop (l : List Dst) (hl : ∀ d ∈ l, inD d) (h : l.length ≤ 5000) : ∀ (xs : List Dst) (i : Nat) (b : Str), l.drop i = xs → b.length + 129 * xs.length ≤ 1000000 → To (fun n => M.r47_Text_loop1 l n b (i : Int)) (b ++ fmtF xs)
  | [], i, b, hx, _ => by
    refine To.succ ?_
    simp only [M.r47_Text_loop1]
    exact To.neg (drop_end hx) (To.pure.of (by simp [fmtF]))
  | d :: xs, i, b, hx, hb => by
    have hd : inD d := hl d (by have := (drop_cons hx).2.1; exact List.mem_of_getElem? this)
    have h1 := lnF_len hd
    simp only [List.length_cons] at hb
    refine To.succ ?_
    simp only [M.r47_Text_loop1]
    refine To.pos (drop_lt hx) (To.bindS (drop_idx hx) (To.bind (line_r hd) (To.bindS (catC_eq (by omega)) (To.bindS (catC_eq (by simp; omega)) ?_))))
    rw [cast_succ]
    exact (text_loop l hl h xs (i + 1) _ (drop_next hx) (by simp; omega)).of (by simp [fmtF])

theorem text_ok (l : List Dst) (hl : ∀ d ∈ l, inD d) (h : l.length ≤ 5000) : To (fun n => M.r47_Text n l) (fmtF l) := by
  simp only [M.r47_Text]
  exact To.bind (text_loop l hl h l 0 [] rfl (by simp; omega)) (To.pure.of (by simp))

/-! ## Format and Parse -/

theorem split_cut (c : UInt8) : ∀ (x rest : Str), c ∉ x → splitC c (x ++ c :: rest) = x :: splitC c rest
  | [], rest, _ => by rw [List.nil_append, splitC, if_pos rfl]
  | b :: x, rest, h => by
    simp only [List.mem_cons, not_or] at h
    rw [List.cons_append, splitC, if_neg (fun e => h.1 e.symm), split_cut c x rest h.2]

theorem split_fmt : ∀ l : List Dst, splitC 10 (fmtF l) = l.map lnF ++ [[]]
  | [] => rfl
  | d :: l => by
    have e : fmtF (d :: l) = lnF d ++ 10 :: fmtF l := by simp [fmtF]
    rw [e, split_cut 10 _ _ (line_no d), split_fmt l]
    rfl

theorem go_fmt : ∀ (l out : List Dst), (∀ d ∈ l, inD d) → Ok out →
    (Ok (out ++ l) → goP out (l.map lnF ++ [[]]) = (out ++ l, ((out ++ l).length : Int), 0)) ∧
    (¬ Ok (out ++ l) → ∃ k : Nat, k < (out ++ l).length ∧ goP out (l.map lnF ++ [[]]) = ([], (k : Int), 5))
  | [], out, _, hok => by
    refine ⟨fun _ => by simp [goP], fun h => absurd (by simpa using hok) h⟩
  | d :: l, out, hl, hok => by
    have hd := hl d List.mem_cons_self
    have e : (d :: l).map lnF ++ [[]] = lnF d :: (l.map lnF ++ [[]]) := rfl
    obtain ⟨q, qs, hq⟩ : ∃ q qs, l.map lnF ++ [[]] = q :: qs := by cases l <;> exact ⟨_, _, rfl⟩
    have hgo : goP out ((d :: l).map lnF ++ [[]]) = if dupB out d = true then ([], (out.length : Int), 5) else goP (out ++ [d]) (l.map lnF ++ [[]]) := by
      rw [e, hq]
      simp only [goP, rdB_line hd]
    have ea : out ++ d :: l = (out ++ [d]) ++ l := by simp
    rw [hgo]
    by_cases hdup : dupB out d = true
    · rw [if_pos hdup]
      have hno : ¬ Ok (out ++ [d]) := fun h => by rw [(okE hok d).1 h] at hdup; cases hdup
      refine ⟨fun h => absurd ?_ hno, fun _ => ⟨out.length, by simp, rfl⟩⟩
      rw [ea] at h
      exact (List.pairwise_append.1 h).1
    · rw [if_neg hdup, ea]
      exact go_fmt l (out ++ [d]) (fun x hx => hl x (List.mem_cons_of_mem _ hx)) ((okE hok d).2 (by simpa using hdup))

/-- What was read is written again. -/
theorem go_back : ∀ (ps : List Str) (p : Str) (out l : List Dst) (k : Int), goP out (p :: ps) = (l, k, 0) → ∃ m, l = out ++ m ∧ (∀ d ∈ m, inD d) ∧ ∀ s, splitC 10 s = p :: ps → s = fmtF m
  | [], p, out, l, k, h => by
    unfold goP at h
    split at h
    · rename_i hp
      subst hp
      simp only [Prod.mk.injEq] at h
      refine ⟨[], by simp [h.1], by simp, fun s hs => ?_⟩
      exact ((cut_split 10 s [] [] hs).1 rfl).2.symm.trans rfl
    · simp at h
  | q :: qs, p, out, l, k, h => by
    simp only [goP] at h
    cases hr : rdB p with
    | none => rw [hr] at h; simp at h
    | some d =>
      rw [hr] at h
      dsimp only at h
      split at h
      · simp at h
      · obtain ⟨m, h1, h2, h3⟩ := go_back qs q (out ++ [d]) l k h
        have hd := rdB_in hr
        refine ⟨d :: m, by rw [h1]; simp, fun x hx => ?_, fun s hs => ?_⟩
        · rcases List.mem_cons.1 hx with rfl | hx
          · exact hd.1
          · exact h2 x hx
        · obtain ⟨rest, _, k2, k3⟩ := (cut_split 10 s p (q :: qs) hs).2 (by simp)
          rw [k3, h3 rest k2, ← hd.2]
          simp [fmtF]

theorem go_len : ∀ (ps : List Str) (out : List Dst), (goP out ps).1.length ≤ out.length + ps.length
  | [], out => by simp [goP]
  | [p], out => by
    unfold goP
    split <;> simp
  | p :: q :: ps, out => by
    simp only [goP]
    split
    · simp
    · split
      · simp
      · have := go_len (q :: ps) (out ++ [‹Dst›])
        simp at this ⊢; omega

theorem splitC_len (c : UInt8) : ∀ s : Str, (splitC c s).length ≤ s.length + 1
  | [] => by simp [splitC]
  | b :: l => by
    have ih := splitC_len c l
    unfold splitC
    split
    · simp; omega
    · split
      · simp
      · rename_i h
        rw [h] at ih
        simp at ih ⊢; omega

theorem awake47 : To (fun n => M.law47_awake n) true := by
  have ii : ∀ k : Nat, k < 10 → inI (k : Int) := fun k hk => ⟨by omega, by omega⟩
  have hd : inD (⟨⟨1, 0, 3⟩, ⟨9, 0, 7⟩⟩ : Dst) := ⟨⟨ii 1 (by decide), ii 0 (by decide), ii 3 (by decide)⟩, ⟨ii 9 (by decide), ii 0 (by decide), ii 7 (by decide)⟩⟩
  have hf := fmt_ok [(⟨⟨1, 0, 3⟩, ⟨9, 0, 7⟩⟩ : Dst)] (fun d h => by rw [List.mem_singleton.1 h]; exact hd) (by decide)
  have e : fmtF [(⟨⟨1, 0, 3⟩, ⟨9, 0, 7⟩⟩ : Dst)] = [49, 32, 48, 32, 51, 32, 45, 62, 32, 57, 32, 48, 32, 55, 10] := by
    have i1 : ∀ k : Nat, k < 10 → Lib.itoa (k : Int) = [UInt8.ofNat (48 + k)] := fun k hk => by
      unfold Lib.itoa
      rw [if_neg (by omega)]
      exact dec_small hk
    have a0 := i1 0 (by decide); have a1 := i1 1 (by decide); have a3 := i1 3 (by decide); have a7 := i1 7 (by decide); have a9 := i1 9 (by decide)
    simp only [fmtF, lnF, thr, List.flatMap_cons, List.flatMap_nil]
    rw [show (1 : Int) = ((1 : Nat) : Int) from rfl, show (0 : Int) = ((0 : Nat) : Int) from rfl, show (3 : Int) = ((3 : Nat) : Int) from rfl, show (9 : Int) = ((9 : Nat) : Int) from rfl, show (7 : Int) = ((7 : Nat) : Int) from rfl, a0, a1, a3, a7, a9]
    rfl
  simp only [M.law47_awake]
  refine To.bind (to_ok _ _) (To.bind (from_ok _ _) (To.pos rfl (To.pos rfl (To.pos (by decide) (To.pos (by decide) ?_)))))
  refine To.bindS hf (To.pure.of ?_)
  rw [e]; rfl

theorem guard47 (b : Bool) (p : Prop) [Decidable p] : To (fun n => Option.bind (M.law47_awake n) fun awake => if awake = false then some true else some (decide p)) (decide p) :=
  To.bind awake47 (To.neg (by decide) To.pure)

theorem pformat_true (l : List Dst) (hl : ∀ d ∈ l, inD d) : ∃ n, M.law47_DestinationsFormat n l = some true := by
  refine To.ex ?_
  simp only [M.law47_DestinationsFormat]
  refine To.bind (guard47 true _) ?_
  by_cases h60 : (60 : Int) < (l.length : Int)
  · exact To.pos (decide_eq_true h60) (To.bind awake47 To.pure)
  · refine To.neg (by simpa using h60) ?_
    have hf := fmt_ok l hl (by omega)
    have hlen : (fmtF l).length ≤ 129 * l.length := by
      clear hf h60
      induction l with
      | nil => simp [fmtF]
      | cons d l ih =>
        have := ih (fun x hx => hl x (List.mem_cons_of_mem _ hx))
        have h1 := lnF_len (hl d List.mem_cons_self)
        simp only [fmtF, List.flatMap_cons, List.length_append, List.length_cons, List.length_nil] at this ⊢
        omega
    have hsp := split_fmt l
    have hpar := parse_ok (fmtF l) (by omega) (by rw [hsp]; simp; omega)
    rw [hsp] at hpar
    have hgo := go_fmt l [] hl List.Pairwise.nil
    rw [List.nil_append] at hgo
    refine To.bindS hf (To.bind (text_ok l hl (by omega)) (To.neg (by simp) (To.bind hpar (To.bindS (valid_ok l) ?_))))
    have hv : vB l = true ↔ Ok l := by rw [vB_iff]; exact ⟨fun h => h.1, fun h => ⟨h, by omega⟩⟩
    by_cases hok : Ok l
    · rw [hgo.1 hok]
      refine To.neg (by rw [hv.2 hok]; decide) (To.pos rfl (To.pos rfl (To.bind (same_ok _ _) (To.pure.of ?_))))
      simp
    · obtain ⟨k, hk, hg⟩ := hgo.2 hok
      rw [hg]
      have hvf : vB l = false := by
        cases h : vB l with
        | false => rfl
        | true => exact absurd (hv.1 h) hok
      refine To.pos hvf (To.bind (a := true) (To.pos rfl (To.pos rfl (To.pure.of ?_))) To.pure)
      exact decide_eq_true (show (k : Int) < (l.length : Int) by omega)

theorem pparse_true (s : Str) : ∃ n, M.law47_DestinationsParse n s = some true := by
  refine To.ex ?_
  simp only [M.law47_DestinationsParse]
  refine To.bind (guard47 true _) ?_
  by_cases h4 : (4000 : Int) < (s.length : Int)
  · exact To.pos (decide_eq_true h4) (To.bind awake47 To.pure)
  · refine To.neg (by simpa using h4) ?_
    have hs : s.length ≤ 4000 := by omega
    have hl1 := splitC_len 10 s
    refine To.bind (parse_ok s (by omega) (by omega)) (To.bind (rparse_ok s hs) (To.pos rfl (To.pos rfl (To.bind (same_ok _ _) ?_))))
    refine To.pos (by simp) ?_
    by_cases h0 : (goP [] (splitC 10 s)).2.2 ≠ 0
    · exact To.pos h0 To.pure
    · refine To.neg h0 ?_
      obtain ⟨p, ps, hsp⟩ := splitC_cons 10 s
      have hlen := go_len (splitC 10 s) []
      have hl2 := splitC_len 10 s
      rw [hsp] at h0 hlen hl2 ⊢
      cases hg : goP [] (p :: ps) with
      | mk l x =>
        obtain ⟨k, e⟩ := x
        rw [hg] at h0 hlen
        have he : e = 0 := by simpa using h0
        subst he
        obtain ⟨m, h1, h2, h3⟩ := go_back ps p [] l k hg
        rw [List.nil_append] at h1
        subst h1
        have hf := fmt_ok l h2 (by simp at hlen hl2; omega)
        refine To.bindS hf (To.pure.of ?_)
        rw [← h3 s hsp]
        simp
end Go.Proofs.YtdnemlcoeecbjaaDoor
