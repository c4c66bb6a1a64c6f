/-
  Contracts of the shelf's, in these readings: Contains, Repeat.
-/
import Derived.Test.YtkobngongonplaaGreatDoorDec29
set_option linter.unusedVariables false
set_option linter.unusedSimpArgs false
namespace Go.Dec
open Go Go.RowKit
theorem repeat_len (l : Str) : ∀ c : Nat, (Lib.repeatL l c).length = l.length * c
  | 0 => rfl
  | c + 1 => by rw [Lib.repeatL, List.length_append, repeat_len l c, Nat.mul_succ]; omega
theorem repeat_spec {P : Program} {f : FuncId}
    (hsp : ∀ (s : ByteArray) (c : Nat) (w : World), c ≤ 9223372036854775807 → s.size * c ≤ 140737488355328 →
      Calls P f #[.string s, .int .i64 c] w fun e w' => e = .returned (.string ⟨(Lib.repeatL s.data.toList c).toArray⟩) ∧ Below w.heap.size w w')
    (s : Str) (n : Int) (r : Str) (hm : repeatM s n = some r) : FSpec P f [tS.is s, (tI .i64).is n] (tS.is r) := by
  unfold repeatM at hm
  split at hm
  · rename_i h
    cases hm
    refine FSpecR.pure (specR_below fun g vs hvs hr => ?_)
    match vs, hvs with
    | [v1, v2], hvs =>
      obtain ⟨⟨_, ⟨rfl, hl1⟩, rfl⟩, ⟨_, ⟨rfl, hn⟩, rfl⟩, _⟩ := hvs
      have hb := inR64.1 hn
      have hsz : (str s).size = s.length := by simp [str, ByteArray.size]
      have hc : ((n.toNat : Nat) : Int) = n := by omega
      have := hsp (str s) n.toNat g.w (by omega) (by rw [hsz]; exact h.2)
      rw [hc] at this
      refine this.mono ?_
      rintro e w' ⟨rfl, hbl⟩
      have e1 : (str s).data.toList = s := by simp [str]
      rw [e1]
      exact ⟨_, rfl, hbl, fun g' => ⟨_, ⟨rfl, by rw [repeat_len]; unfold lim; exact h.2⟩, rfl⟩⟩
  · cases hm
end Go.Dec
