/-
  How the types of the program are read.
-/
import Derived.Test.YtdnemlcoeecbjaaDoorDec20
import Derived.Test.YtdnemlcoeecbjaaDoorMdl
import Derived.Test.YtdnemlcoeecbjaaDoorProg
import Derived.KernelRfl
set_option maxRecDepth 100000
namespace Go.Proofs.YtdnemlcoeecbjaaDoor
open Go Go.Dec

theorem Tryd.mixed : Tryd.prog.follows .mixedOrders = true := by kernel_rfl

def tapi_Id : Ty api_Id := tMap (tP (tI .i64) (tP (tI .i64) (tOne (tI .i64)))) (fun x : api_Id => (x.Act, x.Item, x.N))
theorem fapi_Id_0 : Fld tapi_Id 0 (tI .i64) (fun x => x.Act) := (Fld.map (m := (fun x : api_Id => (x.Act, x.Item, x.N))) (Fld.here (tI .i64) (tP (tI .i64) (tOne (tI .i64))))).cast rfl rfl
theorem sapi_Id_0 : FldSet tapi_Id 0 (tI .i64) (fun x y => { x with Act := y }) := (FldSet.map (m := (fun x : api_Id => (x.Act, x.Item, x.N))) (f' := fun x y => { x with Act := y }) (FldSet.here (tI .i64) (tP (tI .i64) (tOne (tI .i64)))) (fun _ _ => rfl)).cast rfl rfl
theorem fapi_Id_1 : Fld tapi_Id 1 (tI .i64) (fun x => x.Item) := (Fld.map (m := (fun x : api_Id => (x.Act, x.Item, x.N))) (Fld.next (s := (tI .i64)) (Fld.here (tI .i64) (tOne (tI .i64))))).cast rfl rfl
theorem sapi_Id_1 : FldSet tapi_Id 1 (tI .i64) (fun x y => { x with Item := y }) := (FldSet.map (m := (fun x : api_Id => (x.Act, x.Item, x.N))) (f' := fun x y => { x with Item := y }) (FldSet.next (s := (tI .i64)) (FldSet.here (tI .i64) (tOne (tI .i64)))) (fun _ _ => rfl)).cast rfl rfl
theorem fapi_Id_2 : Fld tapi_Id 2 (tI .i64) (fun x => x.N) := (Fld.map (m := (fun x : api_Id => (x.Act, x.Item, x.N))) (Fld.next (s := (tI .i64)) (Fld.next (s := (tI .i64)) (Fld.one (tI .i64))))).cast rfl rfl
theorem sapi_Id_2 : FldSet tapi_Id 2 (tI .i64) (fun x y => { x with N := y }) := (FldSet.map (m := (fun x : api_Id => (x.Act, x.Item, x.N))) (f' := fun x y => { x with N := y }) (FldSet.next (s := (tI .i64)) (FldSet.next (s := (tI .i64)) (FldSet.one (tI .i64)))) (fun _ _ => rfl)).cast rfl rfl
def zapi_Id_f (fd : Field) : Nat := if fd.type = 3 then 1 else 0
theorem zapi_Id_sz : ∀ fs, Tryd.prog.underlying 24 = some (.struct fs) → ∀ fd, fd ∈ fs → ∀ w, (sizeOf fd.type).run Tryd.prog w = .ok (zapi_Id_f fd) w := by
  intro fs h
  rw [Tryd.underlying24] at h
  cases h
  intro fd hfd w
  simp only [List.mem_toArray, List.mem_cons, List.not_mem_nil, or_false] at hfd
  rcases hfd with rfl | rfl | rfl
  · exact Tryd.sizeOf3 w
  · exact Tryd.sizeOf3 w
  · exact Tryd.sizeOf3 w

def tapi_Destination : Ty api_Destination := tMap (tP tapi_Id (tOne tapi_Id)) (fun x : api_Destination => (x.From, x.To))
theorem fapi_Destination_0 : Fld tapi_Destination 0 tapi_Id (fun x => x.From) := (Fld.map (m := (fun x : api_Destination => (x.From, x.To))) (Fld.here tapi_Id (tOne tapi_Id))).cast rfl rfl
theorem sapi_Destination_0 : FldSet tapi_Destination 0 tapi_Id (fun x y => { x with From := y }) := (FldSet.map (m := (fun x : api_Destination => (x.From, x.To))) (f' := fun x y => { x with From := y }) (FldSet.here tapi_Id (tOne tapi_Id)) (fun _ _ => rfl)).cast rfl rfl
theorem fapi_Destination_1 : Fld tapi_Destination 3 tapi_Id (fun x => x.To) := (Fld.map (m := (fun x : api_Destination => (x.From, x.To))) (Fld.next (s := tapi_Id) (Fld.one tapi_Id))).cast rfl rfl
theorem sapi_Destination_1 : FldSet tapi_Destination 3 tapi_Id (fun x y => { x with To := y }) := (FldSet.map (m := (fun x : api_Destination => (x.From, x.To))) (f' := fun x y => { x with To := y }) (FldSet.next (s := tapi_Id) (FldSet.one tapi_Id)) (fun _ _ => rfl)).cast rfl rfl
def zapi_Destination_f (fd : Field) : Nat := if fd.type = 24 then 3 else 0
theorem zapi_Destination_sz : ∀ fs, Tryd.prog.underlying 36 = some (.struct fs) → ∀ fd, fd ∈ fs → ∀ w, (sizeOf fd.type).run Tryd.prog w = .ok (zapi_Destination_f fd) w := by
  intro fs h
  rw [Tryd.underlying36] at h
  cases h
  intro fd hfd w
  simp only [List.mem_toArray, List.mem_cons, List.not_mem_nil, or_false] at hfd
  rcases hfd with rfl | rfl
  · exact Tryd.sizeOf24 w
  · exact Tryd.sizeOf24 w


theorem ty3 : TyAt Tryd.prog 3 (tI .i64) := ⟨Tryd.isAgg3, Tryd.sizeOf3⟩
theorem el3 : ElAt Tryd.prog 3 (tI .i64) := ⟨⟨Tryd.t3, _, Tryd.type3, rfl, rfl, by decide, rfl⟩, by decide⟩
theorem ze3 : ZeroAt Tryd.prog 3 (tI .i64) (0 : Int) := ⟨_, Tryd.zeroValue3, fun _ => ⟨_, ⟨rfl, inR64.2 ⟨by decide, by decide⟩⟩, rfl⟩⟩
theorem ty4 : TyAt Tryd.prog 4 tB := ⟨Tryd.isAgg4, Tryd.sizeOf4⟩
theorem el4 : ElAt Tryd.prog 4 tB := ⟨⟨Tryd.t4, _, Tryd.type4, rfl, rfl, by decide, rfl⟩, by decide⟩
theorem ze4 : ZeroAt Tryd.prog 4 tB false := ⟨_, Tryd.zeroValue4, fun _ => ⟨_, rfl, rfl⟩⟩
theorem ty5 : TyAt Tryd.prog 5 (tI .u8) := ⟨Tryd.isAgg5, Tryd.sizeOf5⟩
theorem el5 : ElAt Tryd.prog 5 (tI .u8) := ⟨⟨Tryd.t5, _, Tryd.type5, rfl, rfl, by decide, rfl⟩, by decide⟩
theorem ze5 : ZeroAt Tryd.prog 5 (tI .u8) (0 : Int) := ⟨_, Tryd.zeroValue5, fun _ => ⟨_, ⟨rfl, by decide⟩, rfl⟩⟩
theorem ty24 : TyAt Tryd.prog 24 tapi_Id := ⟨Tryd.isAgg24, Tryd.sizeOf24⟩
theorem el24 : ElAt Tryd.prog 24 tapi_Id := ⟨⟨Tryd.t24, _, Tryd.type24, rfl, rfl, by decide, rfl⟩, by decide⟩
theorem ze24 : ZeroAt Tryd.prog 24 tapi_Id zapi_Id := ⟨_, Tryd.zeroValue24, fun _ => ⟨_, ⟨_, _, rfl, ⟨rfl, inR64.2 ⟨by decide, by decide⟩⟩, ⟨_, _, rfl, ⟨rfl, inR64.2 ⟨by decide, by decide⟩⟩, ⟨rfl, inR64.2 ⟨by decide, by decide⟩⟩⟩⟩, rfl⟩⟩
theorem ty36 : TyAt Tryd.prog 36 tapi_Destination := ⟨Tryd.isAgg36, Tryd.sizeOf36⟩
theorem el36 : ElAt Tryd.prog 36 tapi_Destination := ⟨⟨Tryd.t36, _, Tryd.type36, rfl, rfl, by decide, rfl⟩, by decide⟩
theorem ze36 : ZeroAt Tryd.prog 36 tapi_Destination zapi_Destination := ⟨_, Tryd.zeroValue36, fun _ => ⟨_, ⟨_, _, rfl, ⟨_, _, rfl, ⟨rfl, inR64.2 ⟨by decide, by decide⟩⟩, ⟨_, _, rfl, ⟨rfl, inR64.2 ⟨by decide, by decide⟩⟩, ⟨rfl, inR64.2 ⟨by decide, by decide⟩⟩⟩⟩, ⟨_, _, rfl, ⟨rfl, inR64.2 ⟨by decide, by decide⟩⟩, ⟨_, _, rfl, ⟨rfl, inR64.2 ⟨by decide, by decide⟩⟩, ⟨rfl, inR64.2 ⟨by decide, by decide⟩⟩⟩⟩⟩, rfl⟩⟩
theorem ty139 : TyAt Tryd.prog 139 (tA 24 (tI .u8)) := ⟨Tryd.isAgg139, Tryd.sizeOf139⟩
theorem ze139 : ZeroAt Tryd.prog 139 (tA 24 (tI .u8)) (List.replicate 24 (0 : Int)) := ZeroAt.array ze5 Tryd.zeroValue5 Tryd.zeroValue139 rfl default
theorem eq24 : EqT (α := api_Id) (P := Tryd.prog) (T := 24) (t := tapi_Id) (D := 2) := EqT.struct (D := 1) rfl Tryd.underlying24 (by kernel_rfl) ⟨_, inferInstance, _, _, _, by decide, ty3, fapi_Id_0, ((EqT.int Tryd.underlying3).up (by decide)), ⟨_, inferInstance, _, _, _, by decide, ty3, fapi_Id_1, ((EqT.int Tryd.underlying3).up (by decide)), ⟨_, inferInstance, _, _, _, by decide, ty3, fapi_Id_2, ((EqT.int Tryd.underlying3).up (by decide)), rfl, rfl⟩, rfl⟩, rfl⟩ (fun x y => by cases x; cases y; simp)
theorem eg24 : Tryd.prog.eqGuardType Tryd.prog.depth 24 = false := by kernel_rfl
theorem eq36 : EqT (α := api_Destination) (P := Tryd.prog) (T := 36) (t := tapi_Destination) (D := 3) := EqT.struct (D := 2) rfl Tryd.underlying36 (by kernel_rfl) ⟨_, inferInstance, _, _, _, by decide, ty24, fapi_Destination_0, ((eq24).up (by decide)), ⟨_, inferInstance, _, _, _, by decide, ty24, fapi_Destination_1, ((eq24).up (by decide)), rfl, rfl⟩, rfl⟩ (fun x y => by cases x; cases y; simp)
theorem eg36 : Tryd.prog.eqGuardType Tryd.prog.depth 36 = false := by kernel_rfl
theorem kt24 : KeyT Tryd.prog 24 tapi_Id := KeyT.struct eq24 (by decide) rfl Tryd.underlying24 ⟨⟨_, _, _, ty3, fapi_Id_0, (fun h e w => ck_int Tryd.underlying3 9998 h e w)⟩, ⟨⟨_, _, _, ty3, fapi_Id_1, (fun h e w => ck_int Tryd.underlying3 9998 h e w)⟩, ⟨⟨_, _, _, ty3, fapi_Id_2, (fun h e w => ck_int Tryd.underlying3 9998 h e w)⟩, trivial⟩⟩⟩

end Go.Proofs.YtdnemlcoeecbjaaDoor
