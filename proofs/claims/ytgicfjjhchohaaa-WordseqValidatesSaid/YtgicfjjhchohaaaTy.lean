/-
  How the types of the program are read.
-/
import Derived.Test.YtgicfjjhchohaaaDec20
import Derived.Test.YtgicfjjhchohaaaMdl
import Derived.Test.YtgicfjjhchohaaaProg
import Derived.KernelRfl
set_option maxRecDepth 100000
namespace Go.Proofs.Ytgicfjjhchohaaa
open Go Go.Dec

theorem Try.mixed : Try.prog.follows .mixedOrders = true := by kernel_rfl


theorem ty3 : TyAt Try.prog 3 (tI .i64) := ⟨Try.isAgg3, Try.sizeOf3⟩
theorem el3 : ElAt Try.prog 3 (tI .i64) := ⟨⟨Try.t3, _, Try.type3, rfl, rfl, by decide, rfl⟩, by decide⟩
theorem ze3 : ZeroAt Try.prog 3 (tI .i64) (0 : Int) := ⟨_, Try.zeroValue3, fun _ => ⟨_, ⟨rfl, inR64.2 ⟨by decide, by decide⟩⟩, rfl⟩⟩
theorem ty5 : TyAt Try.prog 5 (tI .u8) := ⟨Try.isAgg5, Try.sizeOf5⟩
theorem el5 : ElAt Try.prog 5 (tI .u8) := ⟨⟨Try.t5, _, Try.type5, rfl, rfl, by decide, rfl⟩, by decide⟩
theorem ze5 : ZeroAt Try.prog 5 (tI .u8) (0 : Int) := ⟨_, Try.zeroValue5, fun _ => ⟨_, ⟨rfl, by decide⟩, rfl⟩⟩
theorem ty9 : TyAt Try.prog 9 tS := ⟨Try.isAgg9, Try.sizeOf9⟩
theorem el9 : ElAt Try.prog 9 tS := ⟨⟨Try.t9, _, Try.type9, rfl, rfl, by decide, rfl⟩, by decide⟩
theorem ze9 : ZeroAt Try.prog 9 tS ([] : Str) := ⟨_, Try.zeroValue9, fun _ => ⟨_, ⟨rfl, by decide⟩, rfl⟩⟩
theorem ty22 : TyAt Try.prog 22 (tL tS) := ⟨Try.isAgg22, Try.sizeOf22⟩
theorem el22 : ElAt Try.prog 22 (tL tS) := ⟨⟨Try.t22, _, Try.type22, rfl, rfl, by decide, rfl⟩, by decide⟩
theorem ze22 : ZeroAt Try.prog 22 (tL tS) ([] : List Str) := ⟨_, Try.zeroValue22, fun _ => ⟨_, ⟨none, 0, rfl, Nat.le_refl _, Nat.zero_le _, fun _ => rfl, rfl⟩, rfl⟩⟩

end Go.Proofs.Ytgicfjjhchohaaa
