/-
  What the library's functions do at this program's numbers: laid by the kit's program.
-/
import Derived.Shelf.Strings.Split
import Derived.Shelf.Vars
import Derived.Test.YtgicfjjhchohaaaDoorProg
set_option maxRecDepth 100000
namespace Go.Proofs
open Go Go.Shelf

def Tryd.lays146_ren : Go.Shelf.Ren := ⟨fun | 146 => 17 | 221 => 32 | 268 => 40 | 138 => 41 | 143 => 42 | 195 => 46 | 197 => 47 | 218 => 48 | 219 => 49 | 260 => 52 | 217 => 53 | 225 => 54 | 224 => 55 | 267 => 56 | 266 => 57 | 314 => 58 | n => n, fun | 9 => 9 | 31 => 23 | 3 => 3 | 4 => 4 | 0 => 0 | 105 => 67 | 21 => 21 | 5 => 5 | 46 => 74 | 119 => 75 | 139 => 78 | 138 => 77 | 146 => 80 | 51 => 79 | n => n, fun | 1 => 0 | 3 => 1 | 4 => 2 | n => n⟩
theorem Tryd.lays146 : Go.Proofs.Lays.n146 Tryd.prog Tryd.lays146_ren := {
  mixed := by kernel_rfl
  f138 := Tryd.func41.trans (congrArg some (by kernel_rfl))
  f143 := Tryd.func42.trans (congrArg some (by kernel_rfl))
  f146 := Tryd.func17.trans (congrArg some (by kernel_rfl))
  f195 := Tryd.func46.trans (congrArg some (by kernel_rfl))
  f197 := Tryd.func47.trans (congrArg some (by kernel_rfl))
  f217 := Tryd.func53.trans (congrArg some (by kernel_rfl))
  f218 := Tryd.func48.trans (congrArg some (by kernel_rfl))
  f219 := Tryd.func49.trans (congrArg some (by kernel_rfl))
  f221 := Tryd.func32.trans (congrArg some (by kernel_rfl))
  f224 := Tryd.func55.trans (congrArg some (by kernel_rfl))
  f225 := Tryd.func54.trans (congrArg some (by kernel_rfl))
  f260 := Tryd.func52.trans (congrArg some (by kernel_rfl))
  f266 := Tryd.func57.trans (congrArg some (by kernel_rfl))
  f267 := Tryd.func56.trans (congrArg some (by kernel_rfl))
  f268 := Tryd.func40.trans (congrArg some (by kernel_rfl))
  f314 := Tryd.func58.trans (congrArg some (by kernel_rfl))
  t0 := Tryd.underlying0
  a0 := Tryd.isAgg0
  z0 := Tryd.sizeOf0
  v0 := Tryd.zeroValue0
  t3 := Tryd.underlying3
  a3 := Tryd.isAgg3
  z3 := Tryd.sizeOf3
  v3 := Tryd.zeroValue3
  t4 := Tryd.underlying4
  a4 := Tryd.isAgg4
  z4 := Tryd.sizeOf4
  v4 := Tryd.zeroValue4
  t5 := Tryd.underlying5
  a5 := Tryd.isAgg5
  z5 := Tryd.sizeOf5
  v5 := Tryd.zeroValue5
  t9 := Tryd.underlying9
  a9 := Tryd.isAgg9
  z9 := Tryd.sizeOf9
  v9 := Tryd.zeroValue9
  t21 := Tryd.underlying21
  a21 := Tryd.isAgg21
  z21 := Tryd.sizeOf21
  v21 := Tryd.zeroValue21
  t31 := Tryd.underlying23
  a31 := Tryd.isAgg23
  z31 := Tryd.sizeOf23
  v31 := Tryd.zeroValue23
  t46 := Tryd.underlying74
  a46 := Tryd.isAgg74
  z46 := Tryd.sizeOf74
  v46 := Tryd.zeroValue74
  t51 := Tryd.underlying79
  a51 := Tryd.isAgg79
  z51 := Tryd.sizeOf79
  v51 := Tryd.zeroValue79
  t105 := Tryd.underlying67
  a105 := Tryd.isAgg67
  z105 := Tryd.sizeOf67
  v105 := Tryd.zeroValue67
  t119 := Tryd.underlying75
  a119 := Tryd.isAgg75
  z119 := Tryd.sizeOf75
  t138 := Tryd.underlying77
  a138 := Tryd.isAgg77
  z138 := Tryd.sizeOf77
  v138 := Tryd.zeroValue77
  t139 := Tryd.underlying78
  a139 := Tryd.isAgg78
  z139 := Tryd.sizeOf78
  v139 := Tryd.zeroValue78
  t146 := Tryd.underlying80
  a146 := Tryd.isAgg80
  z146 := Tryd.sizeOf80
  v146 := Tryd.zeroValue80
  g1 := by kernel_rfl
  g3 := by kernel_rfl
  g4 := by kernel_rfl }
open Go.RowKit Go.Lib in
theorem Tryd.strings_Split (s sep : ByteArray) (m : Int) (w : World) (hs : s.size < 4294967281) (hm : w.cell? ⟨0, 0, none⟩ = some (.int .i64 m)) (h1 : 1 ≤ sep.size) :
    Calls Tryd.prog 17 #[.string s, .string sep] w fun e w' =>
      e = .returned (.slice (some ⟨w.heap.size, 0, none⟩) (Lib.countB s sep + 1) (Lib.countB s sep + 1)) ∧ w' = w.alloc (.cells ((Lib.splitB sep 0 (Lib.countB s sep) s).map Value.string).toArray 9) := Any.strings_Split Tryd.lays146 (by kernel_rfl) s sep m w hs hm h1
theorem Tryd.maxlen (w : World) (h : w.ShapedOpen Tryd.prog) : ∃ m, w.cell? ⟨0, 0, none⟩ = some (.int .i64 m) := Go.Proofs.cell_of_shapedOpen_int (zero := #[.int .i64 0]) (t := 3) h (of_decide_eq_true (by kernel_rfl)) (by kernel_rfl) rfl (by kernel_rfl) (by kernel_rfl) Tryd.underlying3

end Go.Proofs
