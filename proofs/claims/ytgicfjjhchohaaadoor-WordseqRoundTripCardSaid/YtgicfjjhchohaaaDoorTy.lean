/-
  How the types of the program are read.
-/
import Derived.Test.YtgicfjjhchohaaaDoorDec23
import Derived.Test.YtgicfjjhchohaaaDoorDec19
import Derived.Test.YtgicfjjhchohaaaDoorDec24
import Derived.Test.YtgicfjjhchohaaaDoorSh
import Derived.Test.YtgicfjjhchohaaaDoorMdl
import Derived.Test.YtgicfjjhchohaaaDoorProg
import Derived.KernelRfl
set_option maxRecDepth 100000
namespace Go.Proofs.YtgicfjjhchohaaaDoor
open Go Go.Dec

theorem Tryd.mixed : Tryd.prog.follows .mixedOrders = true := by kernel_rfl


theorem ty3 : TyAt Tryd.prog 3 (tI .i64) := ⟨Tryd.isAgg3, Tryd.sizeOf3⟩
theorem el3 : ElAt Tryd.prog 3 (tI .i64) := ⟨⟨Tryd.t3, _, Tryd.type3, rfl, rfl, by decide, rfl⟩, by decide⟩
theorem ze3 : ZeroAt Tryd.prog 3 (tI .i64) (0 : Int) := ⟨_, Tryd.zeroValue3, fun _ => ⟨_, ⟨rfl, inR64.2 ⟨by decide, by decide⟩⟩, rfl⟩⟩
theorem ty5 : TyAt Tryd.prog 5 (tI .u8) := ⟨Tryd.isAgg5, Tryd.sizeOf5⟩
theorem el5 : ElAt Tryd.prog 5 (tI .u8) := ⟨⟨Tryd.t5, _, Tryd.type5, rfl, rfl, by decide, rfl⟩, by decide⟩
theorem ze5 : ZeroAt Tryd.prog 5 (tI .u8) (0 : Int) := ⟨_, Tryd.zeroValue5, fun _ => ⟨_, ⟨rfl, by decide⟩, rfl⟩⟩
theorem ty9 : TyAt Tryd.prog 9 tS := ⟨Tryd.isAgg9, Tryd.sizeOf9⟩
theorem el9 : ElAt Tryd.prog 9 tS := ⟨⟨Tryd.t9, _, Tryd.type9, rfl, rfl, by decide, rfl⟩, by decide⟩
theorem ze9 : ZeroAt Tryd.prog 9 tS ([] : Str) := ⟨_, Tryd.zeroValue9, fun _ => ⟨_, ⟨rfl, by decide⟩, rfl⟩⟩
theorem ty23 : TyAt Tryd.prog 23 (tL tS) := ⟨Tryd.isAgg23, Tryd.sizeOf23⟩
theorem el23 : ElAt Tryd.prog 23 (tL tS) := ⟨⟨Tryd.t23, _, Tryd.type23, rfl, rfl, by decide, rfl⟩, by decide⟩
theorem ze23 : ZeroAt Tryd.prog 23 (tL tS) ([] : List Str) := ⟨_, Tryd.zeroValue23, fun _ => ⟨_, ⟨none, 0, rfl, Nat.le_refl _, Nat.zero_le _, fun _ => rfl, rfl⟩, rfl⟩⟩

end Go.Proofs.YtgicfjjhchohaaaDoor
