/-
  The inner functions of builders of strings: written by program.
-/
import Derived.Test.YtdnemlcoeecbjaaDoorTy
import Derived.Shelf.RegionOpenPlain
import Derived.Lib.Strings
import Derived.Lib.Walk
import Derived.Lib.Builder
import Derived.Lib.UnsafeStr
import Derived.Lib.MakeNoZero
import Derived.Laws.IdiomCopy
import Derived.WalkKit
import Derived.Laws.Externs
import Derived.KernelRfl
set_option linter.unusedVariables false
set_option maxRecDepth 100000
namespace Go.Proofs.YtdnemlcoeecbjaaDoor
open Go Go.RowKit

theorem bld_used (b : Nat) (w : World) (h0 : w.cell? ⟨b, 0, none⟩ = some (.pointer (some ⟨b, 0, none⟩))) :
    Calls Tryd.prog 59 #[.pointer (some ⟨b, 0, none⟩)] w fun e w' => e = .returned (.tuple #[]) ∧ w' = w := by
  obtain ⟨j, hj, _⟩ : ∃ j, Tryd.prog.info? 74 = some j ∧ j.size = 2 := ⟨Tryd.t74, Tryd.type74, rfl⟩
  go_enter Tryd.func59, Tryd.ntmps59
  go_wp2
  rw [Lib.run_neq_ptr_same w _ Tryd.underlying71 hj]
  go_wp2
  go_end0
  exact ⟨rfl, rfl⟩

theorem bld_fresh (b : Nat) (w : World) (h0 : w.cell? ⟨b, 0, none⟩ = some (.pointer none)) (hsh : w.shape? b = some (74, 2)) (hfz : w.frozen? ⟨b, 0, none⟩ = false) :
    Calls Tryd.prog 59 #[.pointer (some ⟨b, 0, none⟩)] w fun e w' => e = .returned (.tuple #[]) ∧ w' = w.setCell ⟨b, 0, none⟩ (.pointer (some ⟨b, 0, none⟩)) := by
  obtain ⟨j, hj, hjs⟩ : ∃ j, Tryd.prog.info? 74 = some j ∧ j.size = 2 := ⟨Tryd.t74, Tryd.type74, rfl⟩
  go_enter Tryd.func59, Tryd.ntmps59
  go_wp2
  rw [Lib.run_to_unsafe w ⟨b, 0, none⟩ Tryd.underlying71 Tryd.underlying102 hj (by rw [hjs]; decide) hsh (Nat.zero_lt_succ 1)]
  simp only [Result.andThen]
  rw [Oper.upon_value]
  go_wp2
  rw [run_callFunc_extern Tryd.func69 (by kernel_rfl) (by kernel_rfl) (by kernel_rfl) (e := Extern.AbiNoEscape.same) (by kernel_rfl)]
  rw [Lib.run_noEscape]
  simp only [Result.andThen]
  rw [Oper.upon_value]
  go_wp2
  rw [Lib.run_from_unsafe w ⟨b, 0, none⟩ Tryd.underlying102 Tryd.underlying71 hj hsh (by kernel_rfl)]
  simp only [Result.andThen]
  rw [Oper.upon_value]
  go_wp2
  go_end0
  exact ⟨rfl, rfl⟩

set_option maxHeartbeats 2000000 in
theorem bld_str (b : Nat) (p v : Value) (n : Int) (q : Option Addr) (r : ByteArray) (w w1 w2 : World) (hbk : w.heap[b]? = some (.cells #[p, v] 74 (0, 0)))
    (hv : ∃ ao m c, v = .slice ao m c ∧ n = (m : Int)) (hlt : w1.heap[b]? = w.heap[b]?)
    (hSD : (Builtin.unsafeSliceData_ #[72] 96 #[v]).run Tryd.prog w.drew = .ok (.pointer q) w1)
    (hUS : (Builtin.unsafeString_ #[96, 3] 9 #[.pointer q, .int .i64 n]).run Tryd.prog w1 = .ok (.string r) w2) :
    Calls Tryd.prog 42 #[.pointer (some ⟨b, 0, none⟩)] w fun e w' => e = .returned (.string r) ∧ w' = w2 := by
  obtain ⟨ao, m, c, rfl, rfl⟩ := hv
  have c1 : w.drew.cell? ⟨b, 1, none⟩ = some (.slice ao m c) := by
    have : w.drew.heap[b]? = some (.cells #[p, .slice ao m c] 74 (0, 0)) := hbk
    rw [Lib.cell_of_heap this]; rfl
  have c2 : w1.cell? ⟨b, 1, none⟩ = some (.slice ao m c) := by
    have : w1.heap[b]? = some (.cells #[p, .slice ao m c] 74 (0, 0)) := hlt.trans hbk
    rw [Lib.cell_of_heap this]; rfl
  go_enter Tryd.func42, Tryd.ntmps42
  go_wp2
  go_region
  all_goals (go_wp2; go_ret; exact ⟨rfl, rfl⟩)

end Go.Proofs.YtdnemlcoeecbjaaDoor
