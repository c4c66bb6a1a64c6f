/-
  What the program's check of a tree says.
-/
import Derived.Test.YtfclekegoleiaaaDoorPa
set_option linter.unusedVariables false
set_option linter.unusedSimpArgs false
namespace Go.Proofs.YtfclekegoleiaaaDoor
open Go Go.Dec

def idsOf (u : api_Unit) : List api_Id := (desc u).map api_Unit.Id
theorem idsOf_len (u : api_Unit) : (idsOf u).length = cnt u := by simp [idsOf, cnt]

theorem every2 (u : api_Unit) : ∀ c : List api_Id, c.length + cnt u ≤ 1000000 → To (fun n => M.unit_every_i2 n u c) (true, c ++ idsOf u) := by
  refine uind (P := fun u => ∀ c : List api_Id, c.length + cnt u ≤ 1000000 → To (fun n => M.unit_every_i2 n u c) (true, c ++ idsOf u)) ?_ u
  intro u ih c hc
  have loop : ∀ (xs : List api_Unit) (slf : Nat → api_Unit → List api_Id → Option (Bool × List api_Id)) (v : List api_Id), (∀ k, k ∈ xs → ∀ c : List api_Id, c.length + cnt k ≤ 1000000 → To (fun n => slf n k c) (true, c ++ idsOf k)) →
      v.length + (xs.map cnt).sum ≤ 1000000 → To (fun n => M.unit_every_i2_loop1 (slf n) xs v) (.inl (v ++ xs.flatMap idsOf)) := by
    intro xs
    induction xs with
    | nil => intro slf v _ _; simp only [M.unit_every_i2_loop1]; exact To.pure.of (by simp)
    | cons x xs ih =>
      intro slf v hs hv
      simp only [List.map_cons, List.sum_cons] at hv
      simp only [M.unit_every_i2_loop1]
      refine To.bind (hs x (by simp) v (by omega)) ?_
      dsimp only
      refine To.neg (by simp) ?_
      exact (ih slf _ (fun k hk => hs k (by simp [hk])) (by rw [List.length_append, idsOf_len]; omega)).of (by simp)
  have hk : (u.Kids.map cnt).sum + 1 = cnt u := by rw [cnt_eq]; omega
  refine To.succ ?_
  simp only [M.unit_every_i2]
  refine To.bindS (a := (true, c ++ [u.Id])) (by simp only [M.unit_IDs_1]; rw [appC_eq (by simp; omega), Option.bind_some]) ?_
  dsimp only
  refine To.neg (by simp) (To.bind (loop u.Kids (fun n => M.unit_every_i2 n) (c ++ [u.Id]) (fun k hk c h => ih k hk c h) (by simp; omega)) ?_)
  dsimp only
  refine To.pure.of ?_
  have : idsOf u = u.Id :: u.Kids.flatMap idsOf := by
    unfold idsOf
    rw [desc_eq, List.map_cons, List.map_flatMap]
  rw [this]; simp

theorem ids_u (u : api_Unit) (hc : cnt u ≤ 10000) : To (fun n => M.unit_IDs n u) (idsOf u) := by
  simp only [M.unit_IDs]
  refine To.bind (every2 u [] (by simp; omega)) ?_
  dsimp only
  exact To.pure.of (by simp)

theorem every1 (u : api_Unit) : ∀ c : Nat, c + cnt u ≤ 1000000 → To (fun n => M.unit_every_i1 n u (c : Int)) (true, ((c + cnt u : Nat) : Int)) := by
  refine uind (P := fun u => ∀ c : Nat, c + cnt u ≤ 1000000 → To (fun n => M.unit_every_i1 n u (c : Int)) (true, ((c + cnt u : Nat) : Int))) ?_ u
  intro u ih c hc
  have loop : ∀ (xs : List api_Unit) (slf : Nat → api_Unit → Int → Option (Bool × Int)) (v : Nat), (∀ k, k ∈ xs → ∀ c : Nat, c + cnt k ≤ 1000000 → To (fun n => slf n k (c : Int)) (true, ((c + cnt k : Nat) : Int))) →
      v + (xs.map cnt).sum ≤ 1000000 → To (fun n => M.unit_every_i1_loop1 (slf n) xs (v : Int)) (.inl ((v + (xs.map cnt).sum : Nat) : Int)) := by
    intro xs
    induction xs with
    | nil => intro slf v _ _; simp only [M.unit_every_i1_loop1]; exact To.pure.of (by simp)
    | cons x xs ih =>
      intro slf v hs hv
      simp only [List.map_cons, List.sum_cons] at hv
      simp only [M.unit_every_i1_loop1]
      refine To.bind (hs x (by simp) v (by omega)) ?_
      dsimp only
      refine To.neg (by simp) ?_
      refine (ih slf _ (fun k hk => hs k (by simp [hk])) (by omega)).of ?_
      simp only [List.map_cons, List.sum_cons]
      congr 2; omega
  have hk : (u.Kids.map cnt).sum + 1 = cnt u := by rw [cnt_eq]; omega
  refine To.succ ?_
  simp only [M.unit_every_i1]
  refine To.bindS (a := (true, ((c + 1 : Nat) : Int))) (by simp only [M.unit_Count_1]; rw [addC_succ (by omega), Option.bind_some]) ?_
  dsimp only
  refine To.neg (by simp) (To.bind (loop u.Kids (fun n => M.unit_every_i1 n) (c + 1) (fun k hk c h => ih k hk c h) (by omega)) ?_)
  dsimp only
  refine To.pure.of ?_
  congr 2; omega

theorem count_u (u : api_Unit) (hc : cnt u ≤ 10000) : To (fun n => M.unit_Count n u) (cnt u : Int) := by
  simp only [M.unit_Count]
  refine To.bind (a := (true, ((0 + cnt u : Nat) : Int))) (every1 u 0 (by omega)) ?_
  dsimp only
  exact To.pure.of (by simp)

theorem depth_u (u : api_Unit) : cnt u ≤ 1000000 → deep u ≤ cnt u ∧ To (fun n => M.unit_Depth n u) (deep u : Int) := by
  refine uind (P := fun u => cnt u ≤ 1000000 → deep u ≤ cnt u ∧ To (fun n => M.unit_Depth n u) (deep u : Int)) ?_ u
  intro u ih hc
  have loop : ∀ (xs : List api_Unit) (slf : Nat → api_Unit → Option Int) (d : Nat), (∀ k, k ∈ xs → deep k ≤ 1000000 ∧ To (fun n => slf n k) (deep k : Int)) → d ≤ 1000001 →
      To (fun n => M.unit_Depth_loop1 (slf n) xs (d : Int)) (((xs.map (fun k => 1 + deep k)).foldl max d : Nat) : Int) := by
    intro xs
    induction xs with
    | nil => intro slf d _ _; simp only [M.unit_Depth_loop1]; exact To.pure.of (by simp)
    | cons x xs ih =>
      intro slf d hs hd
      obtain ⟨h1, h2⟩ := hs x (by simp)
      simp only [M.unit_Depth_loop1]
      refine To.bind h2 (To.bindS (addC_eq (by omega) (by omega)) ?_)
      have e : max (d : Int) (1 + (deep x : Int)) = ((max d (1 + deep x) : Nat) : Int) := by omega
      rw [e]
      exact (ih slf _ (fun k hk => hs k (by simp [hk])) (by omega)).of (by simp)
  have hkd : ∀ k, k ∈ u.Kids → deep k ≤ cnt k := fun k hk => (ih k hk (by have := cnt_kid hk; omega)).1
  refine ⟨?_, To.succ ?_⟩
  · rw [deep_eq]
    have : ∀ (l : List Nat) (a b : Nat), a ≤ b → (∀ x, x ∈ l → x ≤ b) → l.foldl max a ≤ b := by
      intro l
      induction l with
      | nil => intro a b h _; exact h
      | cons x l ih => intro a b h hx; exact ih _ _ (by have := hx x (by simp); omega) fun y hy => hx y (by simp [hy])
    refine this _ _ _ (Nat.zero_le _) fun x hx => ?_
    obtain ⟨k, hk, rfl⟩ := List.mem_map.1 hx
    have h1 := hkd k hk
    have h2 := cnt_kid hk
    omega
  · simp only [M.unit_Depth]
    refine To.bind (a := (deep u : Int)) ?_ To.pure
    rw [deep_eq]
    exact loop u.Kids (fun n => M.unit_Depth n) 0 (fun k hk => ⟨by have h1 := hkd k hk; have h2 := cnt_kid hk; omega, (ih k hk (by have := cnt_kid hk; omega)).2⟩) (by omega)
end Go.Proofs.YtfclekegoleiaaaDoor
