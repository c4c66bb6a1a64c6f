/-
  How the types of the program are read.
-/
import Derived.Test.YtdnemlcoeecbjaaDoorDec21
import Derived.Test.YtdnemlcoeecbjaaDoorDec19
import Derived.Test.YtdnemlcoeecbjaaDoorDec24
import Derived.Test.YtdnemlcoeecbjaaDoorSh
import Derived.Test.YtdnemlcoeecbjaaDoorDec27
import Derived.Test.YtdnemlcoeecbjaaDoorDec28
import Derived.Test.YtdnemlcoeecbjaaDoorDec29
import Derived.Test.YtdnemlcoeecbjaaDoorMdl
import Derived.Test.YtdnemlcoeecbjaaDoorProg
import Derived.KernelRfl
set_option maxRecDepth 100000
namespace Go.Proofs.YtdnemlcoeecbjaaDoor
open Go Go.Dec

theorem Tryd.mixed : Tryd.prog.follows .mixedOrders = true := by kernel_rfl

def tapi_Id : Ty api_Id := tMap (tP (tI .i64) (tP (tI .i64) (tOne (tI .i64)))) (fun x : api_Id => (x.Act, x.Item, x.N))
theorem fapi_Id_0 : Fld tapi_Id 0 (tI .i64) (fun x => x.Act) := (Fld.map (m := (fun x : api_Id => (x.Act, x.Item, x.N))) (Fld.here (tI .i64) (tP (tI .i64) (tOne (tI .i64))))).cast rfl rfl
theorem sapi_Id_0 : FldSet tapi_Id 0 (tI .i64) (fun x y => { x with Act := y }) := (FldSet.map (m := (fun x : api_Id => (x.Act, x.Item, x.N))) (f' := fun x y => { x with Act := y }) (FldSet.here (tI .i64) (tP (tI .i64) (tOne (tI .i64)))) (fun _ _ => rfl)).cast rfl rfl
theorem fapi_Id_1 : Fld tapi_Id 1 (tI .i64) (fun x => x.Item) := (Fld.map (m := (fun x : api_Id => (x.Act, x.Item, x.N))) (Fld.next (s := (tI .i64)) (Fld.here (tI .i64) (tOne (tI .i64))))).cast rfl rfl
theorem sapi_Id_1 : FldSet tapi_Id 1 (tI .i64) (fun x y => { x with Item := y }) := (FldSet.map (m := (fun x : api_Id => (x.Act, x.Item, x.N))) (f' := fun x y => { x with Item := y }) (FldSet.next (s := (tI .i64)) (FldSet.here (tI .i64) (tOne (tI .i64)))) (fun _ _ => rfl)).cast rfl rfl
theorem fapi_Id_2 : Fld tapi_Id 2 (tI .i64) (fun x => x.N) := (Fld.map (m := (fun x : api_Id => (x.Act, x.Item, x.N))) (Fld.next (s := (tI .i64)) (Fld.next (s := (tI .i64)) (Fld.one (tI .i64))))).cast rfl rfl
theorem sapi_Id_2 : FldSet tapi_Id 2 (tI .i64) (fun x y => { x with N := y }) := (FldSet.map (m := (fun x : api_Id => (x.Act, x.Item, x.N))) (f' := fun x y => { x with N := y }) (FldSet.next (s := (tI .i64)) (FldSet.next (s := (tI .i64)) (FldSet.one (tI .i64)))) (fun _ _ => rfl)).cast rfl rfl
def zapi_Id_f (fd : Field) : Nat := if fd.type = 3 then 1 else 0
theorem zapi_Id_sz : ∀ fs, Tryd.prog.underlying 24 = some (.struct fs) → ∀ fd, fd ∈ fs → ∀ w, (sizeOf fd.type).run Tryd.prog w = .ok (zapi_Id_f fd) w := by
  intro fs h
  rw [Tryd.underlying24] at h
  cases h
  intro fd hfd w
  simp only [List.mem_toArray, List.mem_cons, List.not_mem_nil, or_false] at hfd
  rcases hfd with rfl | rfl | rfl
  · exact Tryd.sizeOf3 w
  · exact Tryd.sizeOf3 w
  · exact Tryd.sizeOf3 w

def tapi_Destination : Ty api_Destination := tMap (tP tapi_Id (tOne tapi_Id)) (fun x : api_Destination => (x.From, x.To))
theorem fapi_Destination_0 : Fld tapi_Destination 0 tapi_Id (fun x => x.From) := (Fld.map (m := (fun x : api_Destination => (x.From, x.To))) (Fld.here tapi_Id (tOne tapi_Id))).cast rfl rfl
theorem sapi_Destination_0 : FldSet tapi_Destination 0 tapi_Id (fun x y => { x with From := y }) := (FldSet.map (m := (fun x : api_Destination => (x.From, x.To))) (f' := fun x y => { x with From := y }) (FldSet.here tapi_Id (tOne tapi_Id)) (fun _ _ => rfl)).cast rfl rfl
theorem fapi_Destination_1 : Fld tapi_Destination 3 tapi_Id (fun x => x.To) := (Fld.map (m := (fun x : api_Destination => (x.From, x.To))) (Fld.next (s := tapi_Id) (Fld.one tapi_Id))).cast rfl rfl
theorem sapi_Destination_1 : FldSet tapi_Destination 3 tapi_Id (fun x y => { x with To := y }) := (FldSet.map (m := (fun x : api_Destination => (x.From, x.To))) (f' := fun x y => { x with To := y }) (FldSet.next (s := tapi_Id) (FldSet.one tapi_Id)) (fun _ _ => rfl)).cast rfl rfl
def zapi_Destination_f (fd : Field) : Nat := if fd.type = 24 then 3 else 0
theorem zapi_Destination_sz : ∀ fs, Tryd.prog.underlying 36 = some (.struct fs) → ∀ fd, fd ∈ fs → ∀ w, (sizeOf fd.type).run Tryd.prog w = .ok (zapi_Destination_f fd) w := by
  intro fs h
  rw [Tryd.underlying36] at h
  cases h
  intro fd hfd w
  simp only [List.mem_toArray, List.mem_cons, List.not_mem_nil, or_false] at hfd
  rcases hfd with rfl | rfl
  · exact Tryd.sizeOf24 w
  · exact Tryd.sizeOf24 w


theorem ty3 : TyAt Tryd.prog 3 (tI .i64) := ⟨Tryd.isAgg3, Tryd.sizeOf3⟩
theorem el3 : ElAt Tryd.prog 3 (tI .i64) := ⟨⟨Tryd.t3, _, Tryd.type3, rfl, rfl, by decide, rfl⟩, by decide⟩
theorem ze3 : ZeroAt Tryd.prog 3 (tI .i64) (0 : Int) := ⟨_, Tryd.zeroValue3, fun _ => ⟨_, ⟨rfl, inR64.2 ⟨by decide, by decide⟩⟩, rfl⟩⟩
theorem ty4 : TyAt Tryd.prog 4 tB := ⟨Tryd.isAgg4, Tryd.sizeOf4⟩
theorem el4 : ElAt Tryd.prog 4 tB := ⟨⟨Tryd.t4, _, Tryd.type4, rfl, rfl, by decide, rfl⟩, by decide⟩
theorem ze4 : ZeroAt Tryd.prog 4 tB false := ⟨_, Tryd.zeroValue4, fun _ => ⟨_, rfl, rfl⟩⟩
theorem ty5 : TyAt Tryd.prog 5 (tI .u8) := ⟨Tryd.isAgg5, Tryd.sizeOf5⟩
theorem el5 : ElAt Tryd.prog 5 (tI .u8) := ⟨⟨Tryd.t5, _, Tryd.type5, rfl, rfl, by decide, rfl⟩, by decide⟩
theorem ze5 : ZeroAt Tryd.prog 5 (tI .u8) (0 : Int) := ⟨_, Tryd.zeroValue5, fun _ => ⟨_, ⟨rfl, by decide⟩, rfl⟩⟩
theorem ty9 : TyAt Tryd.prog 9 tS := ⟨Tryd.isAgg9, Tryd.sizeOf9⟩
theorem el9 : ElAt Tryd.prog 9 tS := ⟨⟨Tryd.t9, _, Tryd.type9, rfl, rfl, by decide, rfl⟩, by decide⟩
theorem ze9 : ZeroAt Tryd.prog 9 tS ([] : Str) := ⟨_, Tryd.zeroValue9, fun _ => ⟨_, ⟨rfl, by decide⟩, rfl⟩⟩
theorem ty24 : TyAt Tryd.prog 24 tapi_Id := ⟨Tryd.isAgg24, Tryd.sizeOf24⟩
theorem el24 : ElAt Tryd.prog 24 tapi_Id := ⟨⟨Tryd.t24, _, Tryd.type24, rfl, rfl, by decide, rfl⟩, by decide⟩
theorem ze24 : ZeroAt Tryd.prog 24 tapi_Id zapi_Id := ⟨_, Tryd.zeroValue24, fun _ => ⟨_, ⟨_, _, rfl, ⟨rfl, inR64.2 ⟨by decide, by decide⟩⟩, ⟨_, _, rfl, ⟨rfl, inR64.2 ⟨by decide, by decide⟩⟩, ⟨rfl, inR64.2 ⟨by decide, by decide⟩⟩⟩⟩, rfl⟩⟩
theorem ty36 : TyAt Tryd.prog 36 tapi_Destination := ⟨Tryd.isAgg36, Tryd.sizeOf36⟩
theorem el36 : ElAt Tryd.prog 36 tapi_Destination := ⟨⟨Tryd.t36, _, Tryd.type36, rfl, rfl, by decide, rfl⟩, by decide⟩
theorem ze36 : ZeroAt Tryd.prog 36 tapi_Destination zapi_Destination := ⟨_, Tryd.zeroValue36, fun _ => ⟨_, ⟨_, _, rfl, ⟨_, _, rfl, ⟨rfl, inR64.2 ⟨by decide, by decide⟩⟩, ⟨_, _, rfl, ⟨rfl, inR64.2 ⟨by decide, by decide⟩⟩, ⟨rfl, inR64.2 ⟨by decide, by decide⟩⟩⟩⟩, ⟨_, _, rfl, ⟨rfl, inR64.2 ⟨by decide, by decide⟩⟩, ⟨_, _, rfl, ⟨rfl, inR64.2 ⟨by decide, by decide⟩⟩, ⟨rfl, inR64.2 ⟨by decide, by decide⟩⟩⟩⟩⟩, rfl⟩⟩
theorem ty92 : TyAt Tryd.prog 92 (tA 7 (tI .i64)) := ⟨Tryd.isAgg92, Tryd.sizeOf92⟩
theorem ze92 : ZeroAt Tryd.prog 92 (tA 7 (tI .i64)) (List.replicate 7 (0 : Int)) := ZeroAt.array ze3 Tryd.zeroValue3 Tryd.zeroValue92 rfl default
theorem eq24 : EqT (α := api_Id) (P := Tryd.prog) (T := 24) (t := tapi_Id) (D := 2) := EqT.struct (D := 1) rfl Tryd.underlying24 (by kernel_rfl) ⟨_, inferInstance, _, _, _, by decide, ty3, fapi_Id_0, ((EqT.int Tryd.underlying3).up (by decide)), ⟨_, inferInstance, _, _, _, by decide, ty3, fapi_Id_1, ((EqT.int Tryd.underlying3).up (by decide)), ⟨_, inferInstance, _, _, _, by decide, ty3, fapi_Id_2, ((EqT.int Tryd.underlying3).up (by decide)), rfl, rfl⟩, rfl⟩, rfl⟩ (fun x y => by cases x; cases y; simp)
theorem eg24 : Tryd.prog.eqGuardType Tryd.prog.depth 24 = false := by kernel_rfl
theorem eq36 : EqT (α := api_Destination) (P := Tryd.prog) (T := 36) (t := tapi_Destination) (D := 3) := EqT.struct (D := 2) rfl Tryd.underlying36 (by kernel_rfl) ⟨_, inferInstance, _, _, _, by decide, ty24, fapi_Destination_0, ((eq24).up (by decide)), ⟨_, inferInstance, _, _, _, by decide, ty24, fapi_Destination_1, ((eq24).up (by decide)), rfl, rfl⟩, rfl⟩ (fun x y => by cases x; cases y; simp)
theorem eg36 : Tryd.prog.eqGuardType Tryd.prog.depth 36 = false := by kernel_rfl
theorem kt24 : KeyT Tryd.prog 24 tapi_Id := KeyT.struct eq24 (by decide) rfl Tryd.underlying24 ⟨⟨_, _, _, ty3, fapi_Id_0, (fun h e w => ck_int Tryd.underlying3 9998 h e w)⟩, ⟨⟨_, _, _, ty3, fapi_Id_1, (fun h e w => ck_int Tryd.underlying3 9998 h e w)⟩, ⟨⟨_, _, _, ty3, fapi_Id_2, (fun h e w => ck_int Tryd.underlying3 9998 h e w)⟩, trivial⟩⟩⟩
abbrev I6 : Ty Int := tI .i64
theorem Mx : Tryd.prog.follows .mixedOrders = true := Tryd.mixed
theorem C10 (xs : Array Value) (w : World) : (callFunc 10 xs).run Tryd.prog w = .ok (.enter 10 xs) w := Tryd.call10 xs w
theorem C11 (xs : Array Value) (w : World) : (callFunc 11 xs).run Tryd.prog w = .ok (.enter 11 xs) w := Tryd.call11 xs w
theorem C12 (xs : Array Value) (w : World) : (callFunc 12 xs).run Tryd.prog w = .ok (.enter 12 xs) w := Tryd.call12 xs w
theorem C15 (xs : Array Value) (w : World) : (callFunc 15 xs).run Tryd.prog w = .ok (.enter 15 xs) w := Tryd.call15 xs w
theorem C16 (xs : Array Value) (w : World) : (callFunc 16 xs).run Tryd.prog w = .ok (.enter 16 xs) w := Tryd.call16 xs w
theorem C18 (xs : Array Value) (w : World) : (callFunc 18 xs).run Tryd.prog w = .ok (.enter 18 xs) w := Tryd.call18 xs w
theorem C25 (xs : Array Value) (w : World) : (callFunc 25 xs).run Tryd.prog w = .ok (.enter 25 xs) w := Tryd.call25 xs w
theorem C26 (xs : Array Value) (w : World) : (callFunc 26 xs).run Tryd.prog w = .ok (.enter 26 xs) w := Tryd.call26 xs w
theorem C27 (xs : Array Value) (w : World) : (callFunc 27 xs).run Tryd.prog w = .ok (.enter 27 xs) w := Tryd.call27 xs w
theorem C28 (xs : Array Value) (w : World) : (callFunc 28 xs).run Tryd.prog w = .ok (.enter 28 xs) w := Tryd.call28 xs w
theorem C29 (xs : Array Value) (w : World) : (callFunc 29 xs).run Tryd.prog w = .ok (.enter 29 xs) w := Tryd.call29 xs w
theorem C30 (xs : Array Value) (w : World) : (callFunc 30 xs).run Tryd.prog w = .ok (.enter 30 xs) w := Tryd.call30 xs w
theorem C31 (xs : Array Value) (w : World) : (callFunc 31 xs).run Tryd.prog w = .ok (.enter 31 xs) w := Tryd.call31 xs w
theorem C37 (xs : Array Value) (w : World) : (callFunc 37 xs).run Tryd.prog w = .ok (.enter 37 xs) w := Tryd.call37 xs w
theorem C38 (xs : Array Value) (w : World) : (callFunc 38 xs).run Tryd.prog w = .ok (.enter 38 xs) w := Tryd.call38 xs w
theorem C39 (xs : Array Value) (w : World) : (callFunc 39 xs).run Tryd.prog w = .ok (.enter 39 xs) w := Tryd.call39 xs w
theorem C40 (xs : Array Value) (w : World) : (callFunc 40 xs).run Tryd.prog w = .ok (.enter 40 xs) w := Tryd.call40 xs w
theorem C41 (xs : Array Value) (w : World) : (callFunc 41 xs).run Tryd.prog w = .ok (.enter 41 xs) w := Tryd.call41 xs w
theorem C42 (xs : Array Value) (w : World) : (callFunc 42 xs).run Tryd.prog w = .ok (.enter 42 xs) w := Tryd.call42 xs w
theorem C43 (xs : Array Value) (w : World) : (callFunc 43 xs).run Tryd.prog w = .ok (.enter 43 xs) w := Tryd.call43 xs w
theorem C44 (xs : Array Value) (w : World) : (callFunc 44 xs).run Tryd.prog w = .ok (.enter 44 xs) w := Tryd.call44 xs w
theorem C55 (xs : Array Value) (w : World) : (callFunc 55 xs).run Tryd.prog w = .ok (.enter 55 xs) w := Tryd.call55 xs w
theorem C56 (xs : Array Value) (w : World) : (callFunc 56 xs).run Tryd.prog w = .ok (.enter 56 xs) w := Tryd.call56 xs w
theorem C57 (xs : Array Value) (w : World) : (callFunc 57 xs).run Tryd.prog w = .ok (.enter 57 xs) w := Tryd.call57 xs w
theorem C58 (xs : Array Value) (w : World) : (callFunc 58 xs).run Tryd.prog w = .ok (.enter 58 xs) w := Tryd.call58 xs w
theorem C59 (xs : Array Value) (w : World) : (callFunc 59 xs).run Tryd.prog w = .ok (.enter 59 xs) w := Tryd.call59 xs w
theorem C60 (xs : Array Value) (w : World) : (callFunc 60 xs).run Tryd.prog w = .ok (.enter 60 xs) w := Tryd.call60 xs w
theorem C61 (xs : Array Value) (w : World) : (callFunc 61 xs).run Tryd.prog w = .ok (.enter 61 xs) w := Tryd.call61 xs w
theorem C70 (xs : Array Value) (w : World) : (callFunc 70 xs).run Tryd.prog w = .ok (.enter 70 xs) w := Tryd.call70 xs w
theorem C71 (xs : Array Value) (w : World) : (callFunc 71 xs).run Tryd.prog w = .ok (.enter 71 xs) w := Tryd.call71 xs w
theorem J3 (w : World) : ∃ m, (sizeOf 3).run Tryd.prog w = .ok (m + 1) w := ⟨0, Tryd.sizeOf3 w⟩
theorem J24 (w : World) : ∃ m, (sizeOf 24).run Tryd.prog w = .ok (m + 1) w := ⟨2, Tryd.sizeOf24 w⟩
theorem J72 (w : World) : ∃ m, (sizeOf 72).run Tryd.prog w = .ok (m + 1) w := ⟨0, Tryd.sizeOf72 w⟩
theorem U3 : Tryd.prog.underlying 3 = some (.int .i64) := Tryd.underlying3
theorem U5 : Tryd.prog.underlying 5 = some (.int .u8) := Tryd.underlying5
theorem U9 : Tryd.prog.underlying 9 = some (.string) := Tryd.underlying9
theorem U22 : Tryd.prog.underlying 22 = some (.slice 36) := Tryd.underlying22
theorem U24 : Tryd.prog.underlying 24 = some (.struct #[⟨ "Act", 3, 0, false, "", "", 0⟩, ⟨ "Item", 3, 1, false, "", "", 8⟩, ⟨ "N", 3, 2, false, "", "", 16⟩]) := Tryd.underlying24
theorem U36 : Tryd.prog.underlying 36 = some (.struct #[⟨ "From", 24, 0, false, "", "", 0⟩, ⟨ "To", 24, 3, false, "", "", 24⟩]) := Tryd.underlying36
theorem U46 : Tryd.prog.underlying 46 = some (.slice 9) := Tryd.underlying46
theorem U61 : Tryd.prog.underlying 61 = some (.map 24 4) := Tryd.underlying61
theorem U72 : Tryd.prog.underlying 72 = some (.slice 5) := Tryd.underlying72
theorem U92 : Tryd.prog.underlying 92 = some (.array 7 3) := Tryd.underlying92
theorem U96 : Tryd.prog.underlying 96 = some (.pointer 5) := Tryd.underlying96
theorem Y24 (w : World) : (isAgg 24).run Tryd.prog w = .ok true w := Tryd.isAgg24 w
theorem Y36 (w : World) : (isAgg 36).run Tryd.prog w = .ok true w := Tryd.isAgg36 w
theorem Y72 (w : World) : (isAgg 72).run Tryd.prog w = .ok false w := Tryd.isAgg72 w
theorem Z3 (w : World) : (sizeOf 3).run Tryd.prog w = .ok 1 w := Tryd.sizeOf3 w
theorem Z9 (w : World) : (sizeOf 9).run Tryd.prog w = .ok 1 w := Tryd.sizeOf9 w
theorem Z24 (w : World) : (sizeOf 24).run Tryd.prog w = .ok 3 w := Tryd.sizeOf24 w
theorem Z36 (w : World) : (sizeOf 36).run Tryd.prog w = .ok 6 w := Tryd.sizeOf36 w
theorem Z72 (w : World) : (sizeOf 72).run Tryd.prog w = .ok 1 w := Tryd.sizeOf72 w

end Go.Proofs.YtdnemlcoeecbjaaDoor
