/-
  A text and its pieces (picked by wip/scripts/pick.py).
-/
import Derived.Test.YtnmkblpbmoikpaaDoorPa
set_option linter.unusedVariables false
set_option linter.unusedSimpArgs false
namespace Go.Proofs.YtnmkblpbmoikpaaDoor
open Go Go.Dec
theorem splitC_cons (c : UInt8) (s : Str) : ∃ p ps, splitC c s = p :: ps := by
  cases s with
  | nil => exact ⟨_, _, rfl⟩
  | cons b l =>
    unfold splitC
    split
    · exact ⟨_, _, rfl⟩
    · split
      · exact ⟨_, _, rfl⟩
      · exact ⟨_, _, rfl⟩
theorem splitC_hit (l : Str) : splitC 32 (32 :: l) = [] :: splitC 32 l := by rw [splitC, if_pos rfl]
theorem splitC_miss {b : UInt8} {l p : Str} {ps : List Str} (h : b ≠ 32) (k : splitC 32 l = p :: ps) : splitC 32 (b :: l) = (b :: p) :: ps := by
  rw [splitC, if_neg h, k]
def pcs (s : Str) : List Str := if s = [] then [] else splitC 32 s
theorem pieces_loop (s : Str) (hs : s.length ≤ 1000000) : ∀ (xs p : Str) (ps : List Str) (i from0 : Nat) (out : List Str), s.drop i = xs → i ≤ s.length → from0 ≤ i → out.length ≤ i → splitC 32 xs = p :: ps →
    To (fun n => M.r04_Pieces_loop1 s n out (from0 : Int) (i : Int)) (out ++ ((s.take i).drop from0 ++ p) :: ps) := by
  intro xs
  induction xs with
  | nil =>
    intro p ps i from0 out hx hi hf ho hp
    have hp' : [[]] = p :: ps := hp
    cases hp'
    have hlen : i = s.length := by
      have := congrArg List.length hx
      simp at this; omega
    refine To.succ ?_
    simp only [M.r04_Pieces_loop1]
    refine To.pos (by omega) (To.bind (a := true) (To.pos (by omega) To.pure) (To.pos rfl (To.bindS (slc_nat _ _ _ hf hi) (To.bindS (appC_eq (by simp; omega)) (To.bindS (addC_succ (by omega)) (To.bindS (addC_succ (by omega)) ?_))))))
    refine To.succ ?_
    simp only [M.r04_Pieces_loop1]
    exact To.neg (by omega) (To.pure.of (by simp))
  | cons b l ih =>
    intro p ps i from0 out hx hi hf ho hp
    obtain ⟨h1, h2, h3⟩ := drop_cons hx
    obtain ⟨q, qs, hq⟩ := splitC_cons 32 l
    refine To.succ ?_
    simp only [M.r04_Pieces_loop1]
    refine To.pos (by omega) ?_
    by_cases hb : b = 32
    · subst hb
      rw [splitC_hit, hq] at hp
      cases hp
      refine To.bind (a := true) (To.neg (by omega) (To.bindS (drop_idx hx) (To.pure.of (by decide)))) (To.pos rfl (To.bindS (slc_nat _ _ _ hf hi) (To.bindS (appC_eq (by simp; omega)) (To.bindS (addC_succ (by omega)) (To.bindS (addC_succ (by omega)) ?_)))))
      refine (ih q qs (i + 1) (i + 1) _ h3 (by omega) (Nat.le_refl _) (by simp; omega) hq).of ?_
      have : (s.take (i + 1)).drop (i + 1) = [] := List.drop_eq_nil_of_le (by simp; omega)
      rw [this]; simp
    · rw [splitC_miss hb hq] at hp
      cases hp
      have hn : ¬ ((b.toNat : Int) = 32) := fun e => hb (UInt8.toNat_inj.1 (by have : (32 : UInt8).toNat = 32 := rfl; omega))
      refine To.bind (a := false) (To.neg (by omega) (To.bindS (drop_idx hx) (To.pure.of (by simp only [hn, decide_false])))) (To.neg (by simp) (To.bindS (addC_succ (by omega)) ?_))
      refine (ih q _ (i + 1) from0 out h3 (by omega) (by omega) (by omega) hq).of ?_
      have : (s.take (i + 1)).drop from0 = (s.take i).drop from0 ++ [b] := by
        rw [List.take_add_one, h2, List.drop_append_of_le_length (by simp; omega)]
        rfl
      rw [this]; simp
theorem pieces_r (s : Str) (hs : s.length ≤ 1000000) : To (fun n => M.r04_Pieces n s) (pcs s) := by
  simp only [M.r04_Pieces]
  unfold pcs
  by_cases h : s = []
  · subst h
    exact To.pos rfl To.pure
  · refine To.neg (by simpa using h) ?_
    rw [if_neg h]
    obtain ⟨q, qs, hq⟩ := splitC_cons 32 s
    refine To.bind (pieces_loop s hs s q qs 0 0 [] rfl (Nat.zero_le _) (Nat.le_refl _) (Nat.zero_le _) hq) (To.pure.of ?_)
    rw [hq]; simp
theorem join_split : ∀ s : Str, joinS (splitC 32 s) = s
  | [] => by simp [splitC, joinS, tailS]
  | b :: l => by
    have ih := join_split l
    obtain ⟨q, qs, hq⟩ := splitC_cons 32 l
    rw [hq] at ih
    by_cases hb : b = 32
    · subst hb
      rw [splitC_hit, hq, joinS, List.nil_append]
      rw [joinS] at ih
      simp only [tailS, List.flatMap_cons, List.cons_append]
      rw [show q ++ List.flatMap (fun x => 32 :: x) qs = l from ih]
    · rw [splitC_miss hb hq, joinS, List.cons_append]
      rw [joinS] at ih
      rw [ih]
theorem split_tail : ∀ (xs : List Str), (∀ y ∈ xs, (32 : UInt8) ∉ y) → ∀ x : Str, (32 : UInt8) ∉ x → splitC 32 (x ++ tailS xs) = x :: xs := by
  intro xs
  induction xs with
  | nil =>
    intro _ x hx
    simp only [tailS, List.flatMap_nil, List.append_nil]
    induction x with
    | nil => rfl
    | cons b x ihx =>
      simp only [List.mem_cons, not_or] at hx
      exact splitC_miss (fun e => hx.1 e.symm) (ihx hx.2)
  | cons y ys ih =>
    intro h x hx
    induction x with
    | nil =>
      have : tailS (y :: ys) = 32 :: (y ++ tailS ys) := by simp [tailS]
      rw [List.nil_append, this, splitC_hit, ih (fun z hz => h z (List.mem_cons_of_mem _ hz)) y (h y List.mem_cons_self)]
    | cons b x ihx =>
      simp only [List.mem_cons, not_or] at hx
      rw [List.cons_append]
      exact splitC_miss (fun e => hx.1 e.symm) (ihx hx.2)
end Go.Proofs.YtnmkblpbmoikpaaDoor
