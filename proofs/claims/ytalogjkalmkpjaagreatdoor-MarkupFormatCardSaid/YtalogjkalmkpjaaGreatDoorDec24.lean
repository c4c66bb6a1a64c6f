/-
  strings.Split at a separator of one byte: what it computes, in the words of this logic; out of the library's contract.
-/
import Derived.Test.YtalogjkalmkpjaaGreatDoorDec21
import Derived.Lib.Split
import Derived.Lib.SplitLaws
set_option linter.unusedVariables false
set_option linter.unusedSimpArgs false
namespace Go.Dec
open Go
theorem splitK_one (c : UInt8) : ∀ s : Str, Lib.splitK [c] 0 (Lib.count s [c]) s = splitC c s
  | [] => by rw [Lib.count_miss (by simp [Lib.index])]; rfl
  | b :: l => by
    have ih := splitK_one c l
    by_cases h : b = c
    · subst h
      have hix : Lib.index (b :: l) [b] = 0 := by rw [Lib.index]; simp [List.isPrefixOf]
      rw [Lib.count_cons_eq, Nat.add_comm, Lib.splitK, hix, if_neg (by decide)]
      show List.take 0 (b :: l) :: Lib.splitK [b] 0 (Lib.count l [b]) (List.drop 1 (b :: l)) = _
      rw [splitC, if_pos rfl, List.take_zero, List.drop_succ_cons, List.drop_zero, ih]
    · have hp : ([c] : List UInt8).isPrefixOf (b :: l) = false := by simp [List.isPrefixOf, Ne.symm h]
      have hix : Lib.index (b :: l) [c] = if Lib.index l [c] == -1 then -1 else Lib.index l [c] + 1 := by rw [Lib.index, hp]; simp
      rw [Lib.count_cons_ne b c l h, splitC, if_neg h, ← ih]
      by_cases hm : Lib.index l [c] = -1
      · rw [Lib.count_miss hm]; rfl
      · have hge := Lib.index_ge l [c]
        obtain ⟨j, hj⟩ : ∃ j : Nat, Lib.index l [c] = j := ⟨(Lib.index l [c]).toNat, by omega⟩
        have hix' : Lib.index (b :: l) [c] = ((j + 1 : Nat) : Int) := by rw [hix, if_neg (fun e => hm (beq_iff_eq.1 e)), hj]; omega
        have n1 : ¬ (((j + 1 : Nat) : Int) == -1) = true := fun e => by have := beq_iff_eq.1 e; omega
        have n2 : ¬ ((j : Int) == -1) = true := fun e => by have := beq_iff_eq.1 e; omega
        rw [Lib.count_hit (by simp) hj, Nat.add_comm, Lib.splitK, Lib.splitK, hix', hj, if_neg n1, if_neg n2]
        simp
def GlE (b : Nat) : Res where
  blk := fun _ => False
  holds := fun g => ∃ m, g.Has b 0 (.int .i64 m)
  stay := fun e _ ⟨m, h⟩ => ⟨m, e.kept _ _ _ h⟩
  lt := fun _ hb => by cases hb
theorem split_lens (c : UInt8) : ∀ s : Str, ∀ p ∈ splitC c s, p.length ≤ s.length
  | [], p, hp => by simp [splitC] at hp; subst hp; exact Nat.le_refl _
  | b :: l, p, hp => by
    unfold splitC at hp
    split at hp
    · rcases List.mem_cons.1 hp with rfl | hp
      · simp
      · have := split_lens c l p hp; simp; omega
    · split at hp
      · simp at hp; subst hp; simp
      · rename_i q qs hq
        rcases List.mem_cons.1 hp with rfl | hp
        · have := split_lens c l q (by rw [hq]; exact List.mem_cons_self); simp; omega
        · have := split_lens c l p (by rw [hq]; exact List.mem_cons_of_mem _ hp); simp; omega
theorem splitM_some {s sep : Str} {r : List Str} (h : splitM s sep = some r) : ∃ c, sep = [c] ∧ s.length < 4294967281 ∧ r = splitC c s := by
  unfold splitM at h
  split at h
  · split at h
    · cases h; exact ⟨_, rfl, by assumption, rfl⟩
    · cases h
  · cases h
theorem split_spec {P : Program} {f : FuncId} {E : TypeId} {b : Nat}
    (hsp : ∀ (s sep : ByteArray) (m : Int) (w : World), s.size < 4294967281 → w.cell? ⟨b, 0, none⟩ = some (.int .i64 m) → 1 ≤ sep.size →
      Calls P f #[.string s, .string sep] w fun e w' => e = .returned (.slice (some ⟨w.heap.size, 0, none⟩) (Lib.countB s sep + 1) (Lib.countB s sep + 1)) ∧ w' = w.alloc (.cells ((Lib.splitB sep 0 (Lib.countB s sep) s).map Value.string).toArray E))
    (key : Nat) (s sep : Str) (r : List Str) (hm : splitM s sep = some r) : FSpecR P f [tS.is s, tS.is sep] [(key, GlE b)] (fun _ : Unit => (tL tS).is r) (fun _ => []) := by
  obtain ⟨c, rfl, hlen, rfl⟩ := splitM_some hm
  intro g vs hvs hr hd
  match vs, hvs with
  | [v1, v2], hvs =>
    obtain ⟨⟨_, ⟨rfl, hl1⟩, rfl⟩, ⟨_, ⟨rfl, _⟩, rfl⟩, _⟩ := hvs
    obtain ⟨m, _, hmx⟩ := hr _ List.mem_cons_self
    have hsz : (str s).size = s.length := by simp [str, ByteArray.size]
    have hpieces : (Lib.splitB (str [c]) 0 (Lib.countB (str s) (str [c])) (str s)).map (·.data.toList) = splitC c s := by
      rw [Lib.splitB_data]; exact splitK_one c s
    refine (hsp (str s) (str [c]) m g.w (by rw [hsz]; exact hlen) hmx (by simp [str, ByteArray.size])).mono ?_
    rintro e w' ⟨rfl, rfl⟩
    generalize hL : Lib.splitB (str [c]) 0 (Lib.countB (str s) (str [c])) (str s) = L at hpieces
    have hL2 : L = (splitC c s).map str := by
      rw [← hpieces, List.map_map]
      exact (List.map_id'' (fun x => by simp [str]) L).symm
    have hcnt : Lib.countB (str s) (str [c]) + 1 = (splitC c s).length := by
      have := Lib.splitB_all (str [c]) (by simp [str, ByteArray.size]) 0 _ (str s) rfl
      rw [hL, hL2] at this
      simpa using this.symm
    have hcl : (splitC c s).length ≤ lim := by
      have := Lib.countB_le (str [c]) (by simp [str, ByteArray.size]) _ (str s) (Nat.le_refl _)
      rw [hsz] at this; unfold lim; omega
    rw [hcnt]
    let g' : G := g.alloc (.cells (L.map Value.string).toArray E) (splitC c s).length
    have e : Ext No g g' := Ext.alloc No _ _ _
    have hheap : g'.w.heap[g.w.heap.size]? = some (.cells (L.map Value.string).toArray E (0, 0)) := heap_alloc_new g.w _
    refine ⟨(), _, g', rfl, rfl, e.no, ⟨_, ⟨some ⟨g.w.heap.size, 0, none⟩, _, rfl, Nat.le_refl _, hcl, (fun h => by cases h), .inr rfl, fun i x hx => ?_⟩, rfl⟩, fun y hy => (by cases hy), List.Pairwise.nil, fun b' ⟨y, hy, _⟩ => by cases hy⟩
    have hil := (List.getElem?_eq_some_iff.1 hx).1
    have hxm : x ∈ splitC c s := List.mem_of_getElem? hx
    refine ⟨[.string (str x)], ⟨rfl, by have := split_lens c s x hxm; unfold lim; omega⟩, fun j v hj => ?_⟩
    cases j with
    | succ j => simp at hj
    | zero =>
      simp at hj
      subst hj
      refine ⟨?_, ?_⟩
      · show 0 + i * 1 + 0 < (if g.w.heap.size = g.w.heap.size then _ else _)
        rw [if_pos rfl]; omega
      · rw [cell_of_row _ _ _ _ _ _ hheap, hL2]
        have : i * tS.size = i := by show i * 1 = i; omega
        simp [this, hx]
end Go.Dec
