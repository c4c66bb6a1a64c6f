/-
  How the types of the program are read.
-/
import Derived.Test.YtalogjkalmkpjaaDoorDec21
import Derived.Test.YtalogjkalmkpjaaDoorDec19
import Derived.Test.YtalogjkalmkpjaaDoorDec24
import Derived.Test.YtalogjkalmkpjaaDoorSh
import Derived.Test.YtalogjkalmkpjaaDoorDec28
import Derived.Test.YtalogjkalmkpjaaDoorDec29
import Derived.Test.YtalogjkalmkpjaaDoorDec31
import Derived.Test.YtalogjkalmkpjaaDoorMdl
import Derived.Test.YtalogjkalmkpjaaDoorProg
import Derived.KernelRfl
set_option maxRecDepth 100000
namespace Go.Proofs.YtalogjkalmkpjaaDoor
open Go Go.Dec
theorem Tryd.mixed : Tryd.prog.follows .mixedOrders = true := by kernel_rfl
def tapi_TrackedWord : Ty api_TrackedWord := tMap (tP (tI .i64) (tOne tS)) (fun x : api_TrackedWord => (x.State, x.Text))
theorem fapi_TrackedWord_0 : Fld tapi_TrackedWord 0 (tI .i64) (fun x => x.State) := (Fld.map (m := (fun x : api_TrackedWord => (x.State, x.Text))) (Fld.here (tI .i64) (tOne tS))).cast rfl rfl
theorem sapi_TrackedWord_0 : FldSet tapi_TrackedWord 0 (tI .i64) (fun x y => { x with State := y }) := (FldSet.map (m := (fun x : api_TrackedWord => (x.State, x.Text))) (f' := fun x y => { x with State := y }) (FldSet.here (tI .i64) (tOne tS)) (fun _ _ => rfl)).cast rfl rfl
theorem fapi_TrackedWord_1 : Fld tapi_TrackedWord 1 tS (fun x => x.Text) := (Fld.map (m := (fun x : api_TrackedWord => (x.State, x.Text))) (Fld.next (s := (tI .i64)) (Fld.one tS))).cast rfl rfl
theorem sapi_TrackedWord_1 : FldSet tapi_TrackedWord 1 tS (fun x y => { x with Text := y }) := (FldSet.map (m := (fun x : api_TrackedWord => (x.State, x.Text))) (f' := fun x y => { x with Text := y }) (FldSet.next (s := (tI .i64)) (FldSet.one tS)) (fun _ _ => rfl)).cast rfl rfl
def zapi_TrackedWord_f (fd : Field) : Nat := if fd.type = 3 then 1 else if fd.type = 9 then 1 else 0
theorem zapi_TrackedWord_sz : ∀ fs, Tryd.prog.underlying 38 = some (.struct fs) → ∀ fd, fd ∈ fs → ∀ w, (sizeOf fd.type).run Tryd.prog w = .ok (zapi_TrackedWord_f fd) w := by
  intro fs h
  rw [Tryd.underlying38] at h
  cases h
  intro fd hfd w
  simp only [List.mem_toArray, List.mem_cons, List.not_mem_nil, or_false] at hfd
  rcases hfd with rfl | rfl
  · exact Tryd.sizeOf3 w
  · exact Tryd.sizeOf9 w
def tapi_Id : Ty api_Id := tMap (tP (tI .i64) (tP (tI .i64) (tOne (tI .i64)))) (fun x : api_Id => (x.Act, x.Item, x.N))
theorem fapi_Id_0 : Fld tapi_Id 0 (tI .i64) (fun x => x.Act) := (Fld.map (m := (fun x : api_Id => (x.Act, x.Item, x.N))) (Fld.here (tI .i64) (tP (tI .i64) (tOne (tI .i64))))).cast rfl rfl
theorem sapi_Id_0 : FldSet tapi_Id 0 (tI .i64) (fun x y => { x with Act := y }) := (FldSet.map (m := (fun x : api_Id => (x.Act, x.Item, x.N))) (f' := fun x y => { x with Act := y }) (FldSet.here (tI .i64) (tP (tI .i64) (tOne (tI .i64)))) (fun _ _ => rfl)).cast rfl rfl
theorem fapi_Id_1 : Fld tapi_Id 1 (tI .i64) (fun x => x.Item) := (Fld.map (m := (fun x : api_Id => (x.Act, x.Item, x.N))) (Fld.next (s := (tI .i64)) (Fld.here (tI .i64) (tOne (tI .i64))))).cast rfl rfl
theorem fapi_Id_2 : Fld tapi_Id 2 (tI .i64) (fun x => x.N) := (Fld.map (m := (fun x : api_Id => (x.Act, x.Item, x.N))) (Fld.next (s := (tI .i64)) (Fld.next (s := (tI .i64)) (Fld.one (tI .i64))))).cast rfl rfl
theorem sapi_Id_2 : FldSet tapi_Id 2 (tI .i64) (fun x y => { x with N := y }) := (FldSet.map (m := (fun x : api_Id => (x.Act, x.Item, x.N))) (f' := fun x y => { x with N := y }) (FldSet.next (s := (tI .i64)) (FldSet.next (s := (tI .i64)) (FldSet.one (tI .i64)))) (fun _ _ => rfl)).cast rfl rfl
def zapi_Id_f (fd : Field) : Nat := if fd.type = 3 then 1 else 0
theorem zapi_Id_sz : ∀ fs, Tryd.prog.underlying 26 = some (.struct fs) → ∀ fd, fd ∈ fs → ∀ w, (sizeOf fd.type).run Tryd.prog w = .ok (zapi_Id_f fd) w := by
  intro fs h
  rw [Tryd.underlying26] at h
  cases h
  intro fd hfd w
  simp only [List.mem_toArray, List.mem_cons, List.not_mem_nil, or_false] at hfd
  rcases hfd with rfl | rfl | rfl
  · exact Tryd.sizeOf3 w
  · exact Tryd.sizeOf3 w
  · exact Tryd.sizeOf3 w
def Fapi_TrackedUnit (X : Ty api_TrackedUnit) : Ty api_TrackedUnit := tMap (tP (tI .i64) (tP (tI .i64) (tP tapi_Id (tP tS (tP tS (tP tB (tP (tL tapi_TrackedWord) (tP (tL tapi_TrackedWord) (tOne (tL X)))))))))) (fun x : api_TrackedUnit => (x.State, x.Kind, x.Id, x.Label, x.Was, x.Moved, x.Head, x.Words, x.Kids))
theorem capi_TrackedUnit : Cont Fapi_TrackedUnit := Cont.map (fun x : api_TrackedUnit => (x.State, x.Kind, x.Id, x.Label, x.Was, x.Moved, x.Head, x.Words, x.Kids)) (Cont.pair (Cont.const _) (Cont.pair (Cont.const _) (Cont.pair (Cont.const _) (Cont.pair (Cont.const _) (Cont.pair (Cont.const _) (Cont.pair (Cont.const _) (Cont.pair (Cont.const _) (Cont.pair (Cont.const _) (Cont.one ((Cont.list Cont.id)))))))))))
theorem rapi_TrackedUnit : Rec Fapi_TrackedUnit 11 := ⟨capi_TrackedUnit, rfl, rfl⟩
def tapi_TrackedUnit : Ty api_TrackedUnit := tFix rapi_TrackedUnit
theorem fapi_TrackedUnit_0 : Fld tapi_TrackedUnit 0 (tI .i64) (fun x => x.State) := Fld.le rapi_TrackedUnit.out ((Fld.map (m := (fun x : api_TrackedUnit => (x.State, x.Kind, x.Id, x.Label, x.Was, x.Moved, x.Head, x.Words, x.Kids))) (Fld.here (tI .i64) (tP (tI .i64) (tP tapi_Id (tP tS (tP tS (tP tB (tP (tL tapi_TrackedWord) (tP (tL tapi_TrackedWord) (tOne (tL tapi_TrackedUnit))))))))))).cast rfl rfl)
theorem fapi_TrackedUnit_1 : Fld tapi_TrackedUnit 1 (tI .i64) (fun x => x.Kind) := Fld.le rapi_TrackedUnit.out ((Fld.map (m := (fun x : api_TrackedUnit => (x.State, x.Kind, x.Id, x.Label, x.Was, x.Moved, x.Head, x.Words, x.Kids))) (Fld.next (s := (tI .i64)) (Fld.here (tI .i64) (tP tapi_Id (tP tS (tP tS (tP tB (tP (tL tapi_TrackedWord) (tP (tL tapi_TrackedWord) (tOne (tL tapi_TrackedUnit))))))))))).cast rfl rfl)
theorem sapi_TrackedUnit_1 : FldSet tapi_TrackedUnit 1 (tI .i64) (fun x y => { x with Kind := y }) := FldSet.le rapi_TrackedUnit.out rapi_TrackedUnit.into ((FldSet.map (m := (fun x : api_TrackedUnit => (x.State, x.Kind, x.Id, x.Label, x.Was, x.Moved, x.Head, x.Words, x.Kids))) (f' := fun x y => { x with Kind := y }) (FldSet.next (s := (tI .i64)) (FldSet.here (tI .i64) (tP tapi_Id (tP tS (tP tS (tP tB (tP (tL tapi_TrackedWord) (tP (tL tapi_TrackedWord) (tOne (tL tapi_TrackedUnit)))))))))) (fun _ _ => rfl)).cast rfl rfl)
theorem fapi_TrackedUnit_2 : Fld tapi_TrackedUnit 2 tapi_Id (fun x => x.Id) := Fld.le rapi_TrackedUnit.out ((Fld.map (m := (fun x : api_TrackedUnit => (x.State, x.Kind, x.Id, x.Label, x.Was, x.Moved, x.Head, x.Words, x.Kids))) (Fld.next (s := (tI .i64)) (Fld.next (s := (tI .i64)) (Fld.here tapi_Id (tP tS (tP tS (tP tB (tP (tL tapi_TrackedWord) (tP (tL tapi_TrackedWord) (tOne (tL tapi_TrackedUnit))))))))))).cast rfl rfl)
theorem sapi_TrackedUnit_2 : FldSet tapi_TrackedUnit 2 tapi_Id (fun x y => { x with Id := y }) := FldSet.le rapi_TrackedUnit.out rapi_TrackedUnit.into ((FldSet.map (m := (fun x : api_TrackedUnit => (x.State, x.Kind, x.Id, x.Label, x.Was, x.Moved, x.Head, x.Words, x.Kids))) (f' := fun x y => { x with Id := y }) (FldSet.next (s := (tI .i64)) (FldSet.next (s := (tI .i64)) (FldSet.here tapi_Id (tP tS (tP tS (tP tB (tP (tL tapi_TrackedWord) (tP (tL tapi_TrackedWord) (tOne (tL tapi_TrackedUnit)))))))))) (fun _ _ => rfl)).cast rfl rfl)
theorem fapi_TrackedUnit_3 : Fld tapi_TrackedUnit 5 tS (fun x => x.Label) := Fld.le rapi_TrackedUnit.out ((Fld.map (m := (fun x : api_TrackedUnit => (x.State, x.Kind, x.Id, x.Label, x.Was, x.Moved, x.Head, x.Words, x.Kids))) (Fld.next (s := (tI .i64)) (Fld.next (s := (tI .i64)) (Fld.next (s := tapi_Id) (Fld.here tS (tP tS (tP tB (tP (tL tapi_TrackedWord) (tP (tL tapi_TrackedWord) (tOne (tL tapi_TrackedUnit))))))))))).cast rfl rfl)
theorem sapi_TrackedUnit_3 : FldSet tapi_TrackedUnit 5 tS (fun x y => { x with Label := y }) := FldSet.le rapi_TrackedUnit.out rapi_TrackedUnit.into ((FldSet.map (m := (fun x : api_TrackedUnit => (x.State, x.Kind, x.Id, x.Label, x.Was, x.Moved, x.Head, x.Words, x.Kids))) (f' := fun x y => { x with Label := y }) (FldSet.next (s := (tI .i64)) (FldSet.next (s := (tI .i64)) (FldSet.next (s := tapi_Id) (FldSet.here tS (tP tS (tP tB (tP (tL tapi_TrackedWord) (tP (tL tapi_TrackedWord) (tOne (tL tapi_TrackedUnit)))))))))) (fun _ _ => rfl)).cast rfl rfl)
theorem fapi_TrackedUnit_4 : Fld tapi_TrackedUnit 6 tS (fun x => x.Was) := Fld.le rapi_TrackedUnit.out ((Fld.map (m := (fun x : api_TrackedUnit => (x.State, x.Kind, x.Id, x.Label, x.Was, x.Moved, x.Head, x.Words, x.Kids))) (Fld.next (s := (tI .i64)) (Fld.next (s := (tI .i64)) (Fld.next (s := tapi_Id) (Fld.next (s := tS) (Fld.here tS (tP tB (tP (tL tapi_TrackedWord) (tP (tL tapi_TrackedWord) (tOne (tL tapi_TrackedUnit))))))))))).cast rfl rfl)
theorem sapi_TrackedUnit_4 : FldSet tapi_TrackedUnit 6 tS (fun x y => { x with Was := y }) := FldSet.le rapi_TrackedUnit.out rapi_TrackedUnit.into ((FldSet.map (m := (fun x : api_TrackedUnit => (x.State, x.Kind, x.Id, x.Label, x.Was, x.Moved, x.Head, x.Words, x.Kids))) (f' := fun x y => { x with Was := y }) (FldSet.next (s := (tI .i64)) (FldSet.next (s := (tI .i64)) (FldSet.next (s := tapi_Id) (FldSet.next (s := tS) (FldSet.here tS (tP tB (tP (tL tapi_TrackedWord) (tP (tL tapi_TrackedWord) (tOne (tL tapi_TrackedUnit)))))))))) (fun _ _ => rfl)).cast rfl rfl)
theorem fapi_TrackedUnit_5 : Fld tapi_TrackedUnit 7 tB (fun x => x.Moved) := Fld.le rapi_TrackedUnit.out ((Fld.map (m := (fun x : api_TrackedUnit => (x.State, x.Kind, x.Id, x.Label, x.Was, x.Moved, x.Head, x.Words, x.Kids))) (Fld.next (s := (tI .i64)) (Fld.next (s := (tI .i64)) (Fld.next (s := tapi_Id) (Fld.next (s := tS) (Fld.next (s := tS) (Fld.here tB (tP (tL tapi_TrackedWord) (tP (tL tapi_TrackedWord) (tOne (tL tapi_TrackedUnit))))))))))).cast rfl rfl)
theorem fapi_TrackedUnit_6 : Fld tapi_TrackedUnit 8 (tL tapi_TrackedWord) (fun x => x.Head) := Fld.le rapi_TrackedUnit.out ((Fld.map (m := (fun x : api_TrackedUnit => (x.State, x.Kind, x.Id, x.Label, x.Was, x.Moved, x.Head, x.Words, x.Kids))) (Fld.next (s := (tI .i64)) (Fld.next (s := (tI .i64)) (Fld.next (s := tapi_Id) (Fld.next (s := tS) (Fld.next (s := tS) (Fld.next (s := tB) (Fld.here (tL tapi_TrackedWord) (tP (tL tapi_TrackedWord) (tOne (tL tapi_TrackedUnit))))))))))).cast rfl rfl)
theorem fapi_TrackedUnit_7 : Fld tapi_TrackedUnit 9 (tL tapi_TrackedWord) (fun x => x.Words) := Fld.le rapi_TrackedUnit.out ((Fld.map (m := (fun x : api_TrackedUnit => (x.State, x.Kind, x.Id, x.Label, x.Was, x.Moved, x.Head, x.Words, x.Kids))) (Fld.next (s := (tI .i64)) (Fld.next (s := (tI .i64)) (Fld.next (s := tapi_Id) (Fld.next (s := tS) (Fld.next (s := tS) (Fld.next (s := tB) (Fld.next (s := (tL tapi_TrackedWord)) (Fld.here (tL tapi_TrackedWord) (tOne (tL tapi_TrackedUnit))))))))))).cast rfl rfl)
theorem sapi_TrackedUnit_7 : FldSet tapi_TrackedUnit 9 (tL tapi_TrackedWord) (fun x y => { x with Words := y }) := FldSet.le rapi_TrackedUnit.out rapi_TrackedUnit.into ((FldSet.map (m := (fun x : api_TrackedUnit => (x.State, x.Kind, x.Id, x.Label, x.Was, x.Moved, x.Head, x.Words, x.Kids))) (f' := fun x y => { x with Words := y }) (FldSet.next (s := (tI .i64)) (FldSet.next (s := (tI .i64)) (FldSet.next (s := tapi_Id) (FldSet.next (s := tS) (FldSet.next (s := tS) (FldSet.next (s := tB) (FldSet.next (s := (tL tapi_TrackedWord)) (FldSet.here (tL tapi_TrackedWord) (tOne (tL tapi_TrackedUnit)))))))))) (fun _ _ => rfl)).cast rfl rfl)
theorem fapi_TrackedUnit_8 : Fld tapi_TrackedUnit 10 (tL tapi_TrackedUnit) (fun x => x.Kids) := Fld.le rapi_TrackedUnit.out ((Fld.map (m := (fun x : api_TrackedUnit => (x.State, x.Kind, x.Id, x.Label, x.Was, x.Moved, x.Head, x.Words, x.Kids))) (Fld.next (s := (tI .i64)) (Fld.next (s := (tI .i64)) (Fld.next (s := tapi_Id) (Fld.next (s := tS) (Fld.next (s := tS) (Fld.next (s := tB) (Fld.next (s := (tL tapi_TrackedWord)) (Fld.next (s := (tL tapi_TrackedWord)) (Fld.one (tL tapi_TrackedUnit))))))))))).cast rfl rfl)
def zapi_TrackedUnit_f (fd : Field) : Nat := if fd.type = 3 then 1 else if fd.type = 4 then 1 else if fd.type = 9 then 1 else if fd.type = 22 then 1 else if fd.type = 26 then 3 else if fd.type = 27 then 1 else 0
theorem zapi_TrackedUnit_sz : ∀ fs, Tryd.prog.underlying 29 = some (.struct fs) → ∀ fd, fd ∈ fs → ∀ w, (sizeOf fd.type).run Tryd.prog w = .ok (zapi_TrackedUnit_f fd) w := by
  intro fs h
  rw [Tryd.underlying29] at h
  cases h
  intro fd hfd w
  simp only [List.mem_toArray, List.mem_cons, List.not_mem_nil, or_false] at hfd
  rcases hfd with rfl | rfl | rfl | rfl | rfl | rfl | rfl | rfl | rfl
  · exact Tryd.sizeOf3 w
  · exact Tryd.sizeOf3 w
  · exact Tryd.sizeOf26 w
  · exact Tryd.sizeOf9 w
  · exact Tryd.sizeOf9 w
  · exact Tryd.sizeOf4 w
  · exact Tryd.sizeOf22 w
  · exact Tryd.sizeOf22 w
  · exact Tryd.sizeOf27 w
theorem ty3 : TyAt Tryd.prog 3 (tI .i64) := ⟨Tryd.isAgg3, Tryd.sizeOf3⟩
theorem el3 : ElAt Tryd.prog 3 (tI .i64) := ⟨⟨Tryd.t3, _, Tryd.type3, rfl, rfl, by decide, rfl⟩, by decide⟩
theorem ze3 : ZeroAt Tryd.prog 3 (tI .i64) (0 : Int) := ⟨_, Tryd.zeroValue3, fun _ => ⟨_, ⟨rfl, inR64.2 ⟨by decide, by decide⟩⟩, rfl⟩⟩
theorem ty4 : TyAt Tryd.prog 4 tB := ⟨Tryd.isAgg4, Tryd.sizeOf4⟩
theorem ty5 : TyAt Tryd.prog 5 (tI .u8) := ⟨Tryd.isAgg5, Tryd.sizeOf5⟩
theorem el5 : ElAt Tryd.prog 5 (tI .u8) := ⟨⟨Tryd.t5, _, Tryd.type5, rfl, rfl, by decide, rfl⟩, by decide⟩
theorem ze5 : ZeroAt Tryd.prog 5 (tI .u8) (0 : Int) := ⟨_, Tryd.zeroValue5, fun _ => ⟨_, ⟨rfl, by decide⟩, rfl⟩⟩
theorem ty9 : TyAt Tryd.prog 9 tS := ⟨Tryd.isAgg9, Tryd.sizeOf9⟩
theorem el9 : ElAt Tryd.prog 9 tS := ⟨⟨Tryd.t9, _, Tryd.type9, rfl, rfl, by decide, rfl⟩, by decide⟩
theorem ze9 : ZeroAt Tryd.prog 9 tS ([] : Str) := ⟨_, Tryd.zeroValue9, fun _ => ⟨_, ⟨rfl, by decide⟩, rfl⟩⟩
theorem ty22 : TyAt Tryd.prog 22 (tL tapi_TrackedWord) := ⟨Tryd.isAgg22, Tryd.sizeOf22⟩
theorem ty26 : TyAt Tryd.prog 26 tapi_Id := ⟨Tryd.isAgg26, Tryd.sizeOf26⟩
theorem ze26 : ZeroAt Tryd.prog 26 tapi_Id zapi_Id := ⟨_, Tryd.zeroValue26, fun _ => ⟨_, ⟨_, _, rfl, ⟨rfl, inR64.2 ⟨by decide, by decide⟩⟩, ⟨_, _, rfl, ⟨rfl, inR64.2 ⟨by decide, by decide⟩⟩, ⟨rfl, inR64.2 ⟨by decide, by decide⟩⟩⟩⟩, rfl⟩⟩
theorem ty27 : TyAt Tryd.prog 27 (tL tapi_TrackedUnit) := ⟨Tryd.isAgg27, Tryd.sizeOf27⟩
theorem ty29 : TyAt Tryd.prog 29 tapi_TrackedUnit := ⟨Tryd.isAgg29, Tryd.sizeOf29⟩
theorem ze29 : ZeroAt Tryd.prog 29 tapi_TrackedUnit zapi_TrackedUnit := ⟨_, Tryd.zeroValue29, fun _ => ⟨_, (rapi_TrackedUnit.into.rep _ _ _ ⟨_, _, rfl, ⟨rfl, inR64.2 ⟨by decide, by decide⟩⟩, ⟨_, _, rfl, ⟨rfl, inR64.2 ⟨by decide, by decide⟩⟩, ⟨_, _, rfl, ⟨_, _, rfl, ⟨rfl, inR64.2 ⟨by decide, by decide⟩⟩, ⟨_, _, rfl, ⟨rfl, inR64.2 ⟨by decide, by decide⟩⟩, ⟨rfl, inR64.2 ⟨by decide, by decide⟩⟩⟩⟩, ⟨_, _, rfl, ⟨rfl, by decide⟩, ⟨_, _, rfl, ⟨rfl, by decide⟩, ⟨_, _, rfl, rfl, ⟨_, _, rfl, ⟨none, 0, rfl, Nat.le_refl _, Nat.zero_le _, fun _ => rfl, rfl⟩, ⟨_, _, rfl, ⟨none, 0, rfl, Nat.le_refl _, Nat.zero_le _, fun _ => rfl, rfl⟩, ⟨none, 0, rfl, Nat.le_refl _, Nat.zero_le _, fun _ => rfl, rfl⟩⟩⟩⟩⟩⟩⟩⟩⟩), rfl⟩⟩
theorem ty38 : TyAt Tryd.prog 38 tapi_TrackedWord := ⟨Tryd.isAgg38, Tryd.sizeOf38⟩
theorem el38 : ElAt Tryd.prog 38 tapi_TrackedWord := ⟨⟨Tryd.t38, _, Tryd.type38, rfl, rfl, by decide, rfl⟩, by decide⟩
theorem ze38 : ZeroAt Tryd.prog 38 tapi_TrackedWord zapi_TrackedWord := ⟨_, Tryd.zeroValue38, fun _ => ⟨_, ⟨_, _, rfl, ⟨rfl, inR64.2 ⟨by decide, by decide⟩⟩, ⟨rfl, by decide⟩⟩, rfl⟩⟩
theorem eq38 : EqT (α := api_TrackedWord) (P := Tryd.prog) (T := 38) (t := tapi_TrackedWord) (D := 2) := EqT.struct (D := 1) rfl Tryd.underlying38 (by kernel_rfl) ⟨_, inferInstance, _, _, _, by decide, ty3, fapi_TrackedWord_0, ((EqT.int Tryd.underlying3).up (by decide)), ⟨_, inferInstance, _, _, _, by decide, ty9, fapi_TrackedWord_1, ((EqT.string Tryd.underlying9).up (by decide)), rfl, rfl⟩, rfl⟩ (fun x y => by cases x; cases y; simp)
theorem eg38 : Tryd.prog.eqGuardType Tryd.prog.depth 38 = false := by kernel_rfl
abbrev I6 : Ty Int := tI .i64
theorem Mx : Tryd.prog.follows .mixedOrders = true := Tryd.mixed
theorem C5 (xs : Array Value) (w : World) : (callFunc 5 xs).run Tryd.prog w = .ok (.enter 5 xs) w := Tryd.call5 xs w
theorem C6 (xs : Array Value) (w : World) : (callFunc 6 xs).run Tryd.prog w = .ok (.enter 6 xs) w := Tryd.call6 xs w
theorem C7 (xs : Array Value) (w : World) : (callFunc 7 xs).run Tryd.prog w = .ok (.enter 7 xs) w := Tryd.call7 xs w
theorem C8 (xs : Array Value) (w : World) : (callFunc 8 xs).run Tryd.prog w = .ok (.enter 8 xs) w := Tryd.call8 xs w
theorem C9 (xs : Array Value) (w : World) : (callFunc 9 xs).run Tryd.prog w = .ok (.enter 9 xs) w := Tryd.call9 xs w
theorem C10 (xs : Array Value) (w : World) : (callFunc 10 xs).run Tryd.prog w = .ok (.enter 10 xs) w := Tryd.call10 xs w
theorem C11 (xs : Array Value) (w : World) : (callFunc 11 xs).run Tryd.prog w = .ok (.enter 11 xs) w := Tryd.call11 xs w
theorem C12 (xs : Array Value) (w : World) : (callFunc 12 xs).run Tryd.prog w = .ok (.enter 12 xs) w := Tryd.call12 xs w
theorem C13 (xs : Array Value) (w : World) : (callFunc 13 xs).run Tryd.prog w = .ok (.enter 13 xs) w := Tryd.call13 xs w
theorem C14 (xs : Array Value) (w : World) : (callFunc 14 xs).run Tryd.prog w = .ok (.enter 14 xs) w := Tryd.call14 xs w
theorem C15 (xs : Array Value) (w : World) : (callFunc 15 xs).run Tryd.prog w = .ok (.enter 15 xs) w := Tryd.call15 xs w
theorem C16 (xs : Array Value) (w : World) : (callFunc 16 xs).run Tryd.prog w = .ok (.enter 16 xs) w := Tryd.call16 xs w
theorem C17 (xs : Array Value) (w : World) : (callFunc 17 xs).run Tryd.prog w = .ok (.enter 17 xs) w := Tryd.call17 xs w
theorem C18 (xs : Array Value) (w : World) : (callFunc 18 xs).run Tryd.prog w = .ok (.enter 18 xs) w := Tryd.call18 xs w
theorem C19 (xs : Array Value) (w : World) : (callFunc 19 xs).run Tryd.prog w = .ok (.enter 19 xs) w := Tryd.call19 xs w
theorem C20 (xs : Array Value) (w : World) : (callFunc 20 xs).run Tryd.prog w = .ok (.enter 20 xs) w := Tryd.call20 xs w
theorem C21 (xs : Array Value) (w : World) : (callFunc 21 xs).run Tryd.prog w = .ok (.enter 21 xs) w := Tryd.call21 xs w
theorem C22 (xs : Array Value) (w : World) : (callFunc 22 xs).run Tryd.prog w = .ok (.enter 22 xs) w := Tryd.call22 xs w
theorem C23 (xs : Array Value) (w : World) : (callFunc 23 xs).run Tryd.prog w = .ok (.enter 23 xs) w := Tryd.call23 xs w
theorem C24 (xs : Array Value) (w : World) : (callFunc 24 xs).run Tryd.prog w = .ok (.enter 24 xs) w := Tryd.call24 xs w
theorem C25 (xs : Array Value) (w : World) : (callFunc 25 xs).run Tryd.prog w = .ok (.enter 25 xs) w := Tryd.call25 xs w
theorem C26 (xs : Array Value) (w : World) : (callFunc 26 xs).run Tryd.prog w = .ok (.enter 26 xs) w := Tryd.call26 xs w
theorem C27 (xs : Array Value) (w : World) : (callFunc 27 xs).run Tryd.prog w = .ok (.enter 27 xs) w := Tryd.call27 xs w
theorem C28 (xs : Array Value) (w : World) : (callFunc 28 xs).run Tryd.prog w = .ok (.enter 28 xs) w := Tryd.call28 xs w
theorem C29 (xs : Array Value) (w : World) : (callFunc 29 xs).run Tryd.prog w = .ok (.enter 29 xs) w := Tryd.call29 xs w
theorem C30 (xs : Array Value) (w : World) : (callFunc 30 xs).run Tryd.prog w = .ok (.enter 30 xs) w := Tryd.call30 xs w
theorem C31 (xs : Array Value) (w : World) : (callFunc 31 xs).run Tryd.prog w = .ok (.enter 31 xs) w := Tryd.call31 xs w
theorem C32 (xs : Array Value) (w : World) : (callFunc 32 xs).run Tryd.prog w = .ok (.enter 32 xs) w := Tryd.call32 xs w
theorem C34 (xs : Array Value) (w : World) : (callFunc 34 xs).run Tryd.prog w = .ok (.enter 34 xs) w := Tryd.call34 xs w
theorem C35 (xs : Array Value) (w : World) : (callFunc 35 xs).run Tryd.prog w = .ok (.enter 35 xs) w := Tryd.call35 xs w
theorem C36 (xs : Array Value) (w : World) : (callFunc 36 xs).run Tryd.prog w = .ok (.enter 36 xs) w := Tryd.call36 xs w
theorem C37 (xs : Array Value) (w : World) : (callFunc 37 xs).run Tryd.prog w = .ok (.enter 37 xs) w := Tryd.call37 xs w
theorem C38 (xs : Array Value) (w : World) : (callFunc 38 xs).run Tryd.prog w = .ok (.enter 38 xs) w := Tryd.call38 xs w
theorem C39 (xs : Array Value) (w : World) : (callFunc 39 xs).run Tryd.prog w = .ok (.enter 39 xs) w := Tryd.call39 xs w
theorem C40 (xs : Array Value) (w : World) : (callFunc 40 xs).run Tryd.prog w = .ok (.enter 40 xs) w := Tryd.call40 xs w
theorem C45 (xs : Array Value) (w : World) : (callFunc 45 xs).run Tryd.prog w = .ok (.enter 45 xs) w := Tryd.call45 xs w
theorem C46 (xs : Array Value) (w : World) : (callFunc 46 xs).run Tryd.prog w = .ok (.enter 46 xs) w := Tryd.call46 xs w
theorem C47 (xs : Array Value) (w : World) : (callFunc 47 xs).run Tryd.prog w = .ok (.enter 47 xs) w := Tryd.call47 xs w
theorem C48 (xs : Array Value) (w : World) : (callFunc 48 xs).run Tryd.prog w = .ok (.enter 48 xs) w := Tryd.call48 xs w
theorem C49 (xs : Array Value) (w : World) : (callFunc 49 xs).run Tryd.prog w = .ok (.enter 49 xs) w := Tryd.call49 xs w
theorem C50 (xs : Array Value) (w : World) : (callFunc 50 xs).run Tryd.prog w = .ok (.enter 50 xs) w := Tryd.call50 xs w
theorem C51 (xs : Array Value) (w : World) : (callFunc 51 xs).run Tryd.prog w = .ok (.enter 51 xs) w := Tryd.call51 xs w
theorem C52 (xs : Array Value) (w : World) : (callFunc 52 xs).run Tryd.prog w = .ok (.enter 52 xs) w := Tryd.call52 xs w
theorem C53 (xs : Array Value) (w : World) : (callFunc 53 xs).run Tryd.prog w = .ok (.enter 53 xs) w := Tryd.call53 xs w
theorem C54 (xs : Array Value) (w : World) : (callFunc 54 xs).run Tryd.prog w = .ok (.enter 54 xs) w := Tryd.call54 xs w
theorem C55 (xs : Array Value) (w : World) : (callFunc 55 xs).run Tryd.prog w = .ok (.enter 55 xs) w := Tryd.call55 xs w
theorem C62 (xs : Array Value) (w : World) : (callFunc 62 xs).run Tryd.prog w = .ok (.enter 62 xs) w := Tryd.call62 xs w
theorem C63 (xs : Array Value) (w : World) : (callFunc 63 xs).run Tryd.prog w = .ok (.enter 63 xs) w := Tryd.call63 xs w
theorem C64 (xs : Array Value) (w : World) : (callFunc 64 xs).run Tryd.prog w = .ok (.enter 64 xs) w := Tryd.call64 xs w
theorem C68 (xs : Array Value) (w : World) : (callFunc 68 xs).run Tryd.prog w = .ok (.enter 68 xs) w := Tryd.call68 xs w
theorem C69 (xs : Array Value) (w : World) : (callFunc 69 xs).run Tryd.prog w = .ok (.enter 69 xs) w := Tryd.call69 xs w
theorem C70 (xs : Array Value) (w : World) : (callFunc 70 xs).run Tryd.prog w = .ok (.enter 70 xs) w := Tryd.call70 xs w
theorem C71 (xs : Array Value) (w : World) : (callFunc 71 xs).run Tryd.prog w = .ok (.enter 71 xs) w := Tryd.call71 xs w
theorem C77 (xs : Array Value) (w : World) : (callFunc 77 xs).run Tryd.prog w = .ok (.enter 77 xs) w := Tryd.call77 xs w
theorem C78 (xs : Array Value) (w : World) : (callFunc 78 xs).run Tryd.prog w = .ok (.enter 78 xs) w := Tryd.call78 xs w
theorem C79 (xs : Array Value) (w : World) : (callFunc 79 xs).run Tryd.prog w = .ok (.enter 79 xs) w := Tryd.call79 xs w
theorem C84 (xs : Array Value) (w : World) : (callFunc 84 xs).run Tryd.prog w = .ok (.enter 84 xs) w := Tryd.call84 xs w
theorem C87 (xs : Array Value) (w : World) : (callFunc 87 xs).run Tryd.prog w = .ok (.enter 87 xs) w := Tryd.call87 xs w
theorem C88 (xs : Array Value) (w : World) : (callFunc 88 xs).run Tryd.prog w = .ok (.enter 88 xs) w := Tryd.call88 xs w
theorem C90 (xs : Array Value) (w : World) : (callFunc 90 xs).run Tryd.prog w = .ok (.enter 90 xs) w := Tryd.call90 xs w
theorem J3 (w : World) : ∃ m, (sizeOf 3).run Tryd.prog w = .ok (m + 1) w := ⟨0, Tryd.sizeOf3 w⟩
theorem J4 (w : World) : ∃ m, (sizeOf 4).run Tryd.prog w = .ok (m + 1) w := ⟨0, Tryd.sizeOf4 w⟩
theorem J9 (w : World) : ∃ m, (sizeOf 9).run Tryd.prog w = .ok (m + 1) w := ⟨0, Tryd.sizeOf9 w⟩
theorem J22 (w : World) : ∃ m, (sizeOf 22).run Tryd.prog w = .ok (m + 1) w := ⟨0, Tryd.sizeOf22 w⟩
theorem J26 (w : World) : ∃ m, (sizeOf 26).run Tryd.prog w = .ok (m + 1) w := ⟨2, Tryd.sizeOf26 w⟩
theorem J27 (w : World) : ∃ m, (sizeOf 27).run Tryd.prog w = .ok (m + 1) w := ⟨0, Tryd.sizeOf27 w⟩
theorem J48 (w : World) : ∃ m, (sizeOf 48).run Tryd.prog w = .ok (m + 1) w := ⟨0, Tryd.sizeOf48 w⟩
theorem U4 : Tryd.prog.underlying 4 = some (.bool) := Tryd.underlying4
theorem U5 : Tryd.prog.underlying 5 = some (.int .u8) := Tryd.underlying5
theorem U9 : Tryd.prog.underlying 9 = some (.string) := Tryd.underlying9
theorem U22 : Tryd.prog.underlying 22 = some (.slice 38) := Tryd.underlying22
theorem U26 : Tryd.prog.underlying 26 = some (.struct #[⟨ "Act", 3, 0, false, "", "", 0⟩, ⟨ "Item", 3, 1, false, "", "", 8⟩, ⟨ "N", 3, 2, false, "", "", 16⟩]) := Tryd.underlying26
theorem U27 : Tryd.prog.underlying 27 = some (.slice 29) := Tryd.underlying27
theorem U29 : Tryd.prog.underlying 29 = some (.struct #[⟨ "State", 3, 0, false, "", "", 0⟩, ⟨ "Kind", 3, 1, false, "", "", 8⟩, ⟨ "Id", 26, 2, false, "", "", 16⟩, ⟨ "Label", 9, 5, false, "", "", 40⟩, ⟨ "Was", 9, 6, false, "", "", 56⟩, ⟨ "Moved", 4, 7, false, "", "", 72⟩, ⟨ "Head", 22, 8, false, "", "", 80⟩, ⟨ "Words", 22, 9, false, "", "", 104⟩, ⟨ "Kids", 27, 10, false, "", "", 128⟩]) := Tryd.underlying29
theorem U38 : Tryd.prog.underlying 38 = some (.struct #[⟨ "State", 3, 0, false, "", "", 0⟩, ⟨ "Text", 9, 1, false, "", "", 8⟩]) := Tryd.underlying38
theorem U43 : Tryd.prog.underlying 43 = some (.slice 9) := Tryd.underlying43
theorem U45 : Tryd.prog.underlying 45 = some (.array 3 9) := Tryd.underlying45
theorem U48 : Tryd.prog.underlying 48 = some (.slice 5) := Tryd.underlying48
theorem U72 : Tryd.prog.underlying 72 = some (.pointer 5) := Tryd.underlying72
theorem U95 : Tryd.prog.underlying 95 = some (.array 8 9) := Tryd.underlying95
theorem U100 : Tryd.prog.underlying 100 = some (.slice 3) := Tryd.underlying100
theorem Y43 (w : World) : (isAgg 43).run Tryd.prog w = .ok false w := Tryd.isAgg43 w
theorem Y48 (w : World) : (isAgg 48).run Tryd.prog w = .ok false w := Tryd.isAgg48 w
theorem Y68 (w : World) : (isAgg 68).run Tryd.prog w = .ok false w := Tryd.isAgg68 w
theorem Z3 (w : World) : (sizeOf 3).run Tryd.prog w = .ok 1 w := Tryd.sizeOf3 w
theorem Z5 (w : World) : (sizeOf 5).run Tryd.prog w = .ok 1 w := Tryd.sizeOf5 w
theorem Z9 (w : World) : (sizeOf 9).run Tryd.prog w = .ok 1 w := Tryd.sizeOf9 w
theorem Z22 (w : World) : (sizeOf 22).run Tryd.prog w = .ok 1 w := Tryd.sizeOf22 w
theorem Z26 (w : World) : (sizeOf 26).run Tryd.prog w = .ok 3 w := Tryd.sizeOf26 w
theorem Z29 (w : World) : (sizeOf 29).run Tryd.prog w = .ok 11 w := Tryd.sizeOf29 w
theorem Z38 (w : World) : (sizeOf 38).run Tryd.prog w = .ok 2 w := Tryd.sizeOf38 w
theorem Z43 (w : World) : (sizeOf 43).run Tryd.prog w = .ok 1 w := Tryd.sizeOf43 w
theorem Z48 (w : World) : (sizeOf 48).run Tryd.prog w = .ok 1 w := Tryd.sizeOf48 w
theorem Z68 (w : World) : (sizeOf 68).run Tryd.prog w = .ok 1 w := Tryd.sizeOf68 w
end Go.Proofs.YtalogjkalmkpjaaDoor
