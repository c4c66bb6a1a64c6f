/-
  What the library's functions do at this program's numbers: laid by the kit's program.
-/
import Derived.Shelf.Strings.Split
import Derived.Shelf.Small.Strs
import Derived.Shelf.Vars
import Derived.Test.YtnmkblpbmoikpaaDoorProg
set_option maxRecDepth 100000
namespace Go.Proofs
open Go Go.Shelf
def Tryd.lays137_ren : Go.Shelf.Ren := ⟨fun | 137 => 93 | 217 => 97 | 266 => 102 | n => n, fun | 9 => 9 | 5 => 5 | 3 => 3 | n => n, fun | n => n⟩
theorem Tryd.lays137 : Go.Proofs.Lays.n137 Tryd.prog Tryd.lays137_ren := {
  mixed := by kernel_rfl
  f137 := Tryd.func93.trans (congrArg some (by kernel_rfl))
  f217 := Tryd.func97.trans (congrArg some (by kernel_rfl))
  f266 := Tryd.func102.trans (congrArg some (by kernel_rfl))
  t3 := Tryd.underlying3
  a3 := Tryd.isAgg3
  z3 := Tryd.sizeOf3
  v3 := Tryd.zeroValue3
  t5 := Tryd.underlying5
  a5 := Tryd.isAgg5
  z5 := Tryd.sizeOf5
  v5 := Tryd.zeroValue5
  t9 := Tryd.underlying9
  a9 := Tryd.isAgg9
  z9 := Tryd.sizeOf9
  v9 := Tryd.zeroValue9 }
open Go.RowKit in
theorem Tryd.strings_IndexByte (s : ByteArray) (c : Int) (w : World) :
    Calls Tryd.prog 93 #[.string s, .int .u8 c] w fun e w' => e = .returned (.int .i64 (Lib.indexByte s.data.toList c.toNat.toUInt8)) ∧ w' = w := Any.strings_IndexByte Tryd.lays137 s c w
def Tryd.lays146_ren : Go.Shelf.Ren := ⟨fun | 146 => 41 | 221 => 62 | 268 => 78 | 138 => 79 | 143 => 80 | 195 => 89 | 197 => 90 | 218 => 91 | 219 => 92 | 260 => 96 | 217 => 97 | 225 => 98 | 224 => 99 | 267 => 100 | 266 => 102 | 314 => 103 | n => n, fun | 9 => 9 | 31 => 28 | 3 => 3 | 4 => 4 | 0 => 0 | 105 => 100 | 21 => 21 | 5 => 5 | 46 => 104 | 119 => 105 | 139 => 108 | 138 => 107 | 146 => 110 | 51 => 109 | n => n, fun | 1 => 0 | 3 => 1 | 4 => 2 | n => n⟩
theorem Tryd.lays146 : Go.Proofs.Lays.n146 Tryd.prog Tryd.lays146_ren := {
  mixed := by kernel_rfl
  f138 := Tryd.func79.trans (congrArg some (by kernel_rfl))
  f143 := Tryd.func80.trans (congrArg some (by kernel_rfl))
  f146 := Tryd.func41.trans (congrArg some (by kernel_rfl))
  f195 := Tryd.func89.trans (congrArg some (by kernel_rfl))
  f197 := Tryd.func90.trans (congrArg some (by kernel_rfl))
  f217 := Tryd.func97.trans (congrArg some (by kernel_rfl))
  f218 := Tryd.func91.trans (congrArg some (by kernel_rfl))
  f219 := Tryd.func92.trans (congrArg some (by kernel_rfl))
  f221 := Tryd.func62.trans (congrArg some (by kernel_rfl))
  f224 := Tryd.func99.trans (congrArg some (by kernel_rfl))
  f225 := Tryd.func98.trans (congrArg some (by kernel_rfl))
  f260 := Tryd.func96.trans (congrArg some (by kernel_rfl))
  f266 := Tryd.func102.trans (congrArg some (by kernel_rfl))
  f267 := Tryd.func100.trans (congrArg some (by kernel_rfl))
  f268 := Tryd.func78.trans (congrArg some (by kernel_rfl))
  f314 := Tryd.func103.trans (congrArg some (by kernel_rfl))
  t0 := Tryd.underlying0
  a0 := Tryd.isAgg0
  z0 := Tryd.sizeOf0
  v0 := Tryd.zeroValue0
  t3 := Tryd.underlying3
  a3 := Tryd.isAgg3
  z3 := Tryd.sizeOf3
  v3 := Tryd.zeroValue3
  t4 := Tryd.underlying4
  a4 := Tryd.isAgg4
  z4 := Tryd.sizeOf4
  v4 := Tryd.zeroValue4
  t5 := Tryd.underlying5
  a5 := Tryd.isAgg5
  z5 := Tryd.sizeOf5
  v5 := Tryd.zeroValue5
  t9 := Tryd.underlying9
  a9 := Tryd.isAgg9
  z9 := Tryd.sizeOf9
  v9 := Tryd.zeroValue9
  t21 := Tryd.underlying21
  a21 := Tryd.isAgg21
  z21 := Tryd.sizeOf21
  v21 := Tryd.zeroValue21
  t31 := Tryd.underlying28
  a31 := Tryd.isAgg28
  z31 := Tryd.sizeOf28
  v31 := Tryd.zeroValue28
  t46 := Tryd.underlying104
  a46 := Tryd.isAgg104
  z46 := Tryd.sizeOf104
  v46 := Tryd.zeroValue104
  t51 := Tryd.underlying109
  a51 := Tryd.isAgg109
  z51 := Tryd.sizeOf109
  v51 := Tryd.zeroValue109
  t105 := Tryd.underlying100
  a105 := Tryd.isAgg100
  z105 := Tryd.sizeOf100
  v105 := Tryd.zeroValue100
  t119 := Tryd.underlying105
  a119 := Tryd.isAgg105
  z119 := Tryd.sizeOf105
  t138 := Tryd.underlying107
  a138 := Tryd.isAgg107
  z138 := Tryd.sizeOf107
  v138 := Tryd.zeroValue107
  t139 := Tryd.underlying108
  a139 := Tryd.isAgg108
  z139 := Tryd.sizeOf108
  v139 := Tryd.zeroValue108
  t146 := Tryd.underlying110
  a146 := Tryd.isAgg110
  z146 := Tryd.sizeOf110
  v146 := Tryd.zeroValue110
  g1 := by kernel_rfl
  g3 := by kernel_rfl
  g4 := by kernel_rfl }
open Go.RowKit Go.Lib in
theorem Tryd.strings_Split (s sep : ByteArray) (m : Int) (w : World) (hs : s.size < 4294967281) (hm : w.cell? ⟨0, 0, none⟩ = some (.int .i64 m)) (h1 : 1 ≤ sep.size) :
    Calls Tryd.prog 41 #[.string s, .string sep] w fun e w' =>
      e = .returned (.slice (some ⟨w.heap.size, 0, none⟩) (Lib.countB s sep + 1) (Lib.countB s sep + 1)) ∧ w' = w.alloc (.cells ((Lib.splitB sep 0 (Lib.countB s sep) s).map Value.string).toArray 9) := Any.strings_Split Tryd.lays146 (by kernel_rfl) s sep m w hs hm h1
theorem Tryd.maxlen (w : World) (h : w.ShapedOpen Tryd.prog) : ∃ m, w.cell? ⟨0, 0, none⟩ = some (.int .i64 m) := Go.Proofs.cell_of_shapedOpen_int (zero := #[.int .i64 0]) (t := 3) h (of_decide_eq_true (by kernel_rfl)) (by kernel_rfl) rfl (by kernel_rfl) (by kernel_rfl) Tryd.underlying3
end Go.Proofs
