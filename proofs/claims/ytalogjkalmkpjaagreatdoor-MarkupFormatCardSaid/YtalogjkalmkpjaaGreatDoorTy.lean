/-
  How the types of the program are read.
-/
import Derived.Test.YtalogjkalmkpjaaGreatDoorDec21
import Derived.Test.YtalogjkalmkpjaaGreatDoorDec19
import Derived.Test.YtalogjkalmkpjaaGreatDoorDec24
import Derived.Test.YtalogjkalmkpjaaGreatDoorSh
import Derived.Test.YtalogjkalmkpjaaGreatDoorDec26
import Derived.Test.YtalogjkalmkpjaaGreatDoorDec27
import Derived.Test.YtalogjkalmkpjaaGreatDoorDec28
import Derived.Test.YtalogjkalmkpjaaGreatDoorDec29
import Derived.Test.YtalogjkalmkpjaaGreatDoorDec31
import Derived.Test.YtalogjkalmkpjaaGreatDoorDec34
import Derived.Test.YtalogjkalmkpjaaGreatDoorDec35
import Derived.Test.YtalogjkalmkpjaaGreatDoorDec36
import Derived.Test.YtalogjkalmkpjaaGreatDoorDec39
import Derived.Test.YtalogjkalmkpjaaGreatDoorMdl
import Derived.Test.YtalogjkalmkpjaaGreatDoorProg
import Derived.KernelRfl
set_option maxRecDepth 100000
namespace Go.Proofs.YtalogjkalmkpjaaGreatDoor
open Go Go.Dec
theorem Tryz.mixed : Tryz.prog.follows .mixedOrders = true := by kernel_rfl
def tapi_Id : Ty api_Id := tMap (tP (tI .i64) (tP (tI .i64) (tOne (tI .i64)))) (fun x : api_Id => (x.Act, x.Item, x.N))
theorem fapi_Id_0 : Fld tapi_Id 0 (tI .i64) (fun x => x.Act) := (Fld.map (m := (fun x : api_Id => (x.Act, x.Item, x.N))) (Fld.here (tI .i64) (tP (tI .i64) (tOne (tI .i64))))).cast rfl rfl
theorem sapi_Id_0 : FldSet tapi_Id 0 (tI .i64) (fun x y => { x with Act := y }) := (FldSet.map (m := (fun x : api_Id => (x.Act, x.Item, x.N))) (f' := fun x y => { x with Act := y }) (FldSet.here (tI .i64) (tP (tI .i64) (tOne (tI .i64)))) (fun _ _ => rfl)).cast rfl rfl
theorem fapi_Id_1 : Fld tapi_Id 1 (tI .i64) (fun x => x.Item) := (Fld.map (m := (fun x : api_Id => (x.Act, x.Item, x.N))) (Fld.next (s := (tI .i64)) (Fld.here (tI .i64) (tOne (tI .i64))))).cast rfl rfl
theorem sapi_Id_1 : FldSet tapi_Id 1 (tI .i64) (fun x y => { x with Item := y }) := (FldSet.map (m := (fun x : api_Id => (x.Act, x.Item, x.N))) (f' := fun x y => { x with Item := y }) (FldSet.next (s := (tI .i64)) (FldSet.here (tI .i64) (tOne (tI .i64)))) (fun _ _ => rfl)).cast rfl rfl
theorem fapi_Id_2 : Fld tapi_Id 2 (tI .i64) (fun x => x.N) := (Fld.map (m := (fun x : api_Id => (x.Act, x.Item, x.N))) (Fld.next (s := (tI .i64)) (Fld.next (s := (tI .i64)) (Fld.one (tI .i64))))).cast rfl rfl
theorem sapi_Id_2 : FldSet tapi_Id 2 (tI .i64) (fun x y => { x with N := y }) := (FldSet.map (m := (fun x : api_Id => (x.Act, x.Item, x.N))) (f' := fun x y => { x with N := y }) (FldSet.next (s := (tI .i64)) (FldSet.next (s := (tI .i64)) (FldSet.one (tI .i64)))) (fun _ _ => rfl)).cast rfl rfl
def zapi_Id_f (fd : Field) : Nat := if fd.type = 3 then 1 else 0
theorem zapi_Id_sz : ∀ fs, Tryz.prog.underlying 23 = some (.struct fs) → ∀ fd, fd ∈ fs → ∀ w, (sizeOf fd.type).run Tryz.prog w = .ok (zapi_Id_f fd) w := by
  intro fs h
  rw [Tryz.underlying23] at h
  cases h
  intro fd hfd w
  simp only [List.mem_toArray, List.mem_cons, List.not_mem_nil, or_false] at hfd
  rcases hfd with rfl | rfl | rfl
  · exact Tryz.sizeOf3 w
  · exact Tryz.sizeOf3 w
  · exact Tryz.sizeOf3 w
def tapi_TrackedWord : Ty api_TrackedWord := tMap (tP (tI .i64) (tOne tS)) (fun x : api_TrackedWord => (x.State, x.Text))
theorem fapi_TrackedWord_0 : Fld tapi_TrackedWord 0 (tI .i64) (fun x => x.State) := (Fld.map (m := (fun x : api_TrackedWord => (x.State, x.Text))) (Fld.here (tI .i64) (tOne tS))).cast rfl rfl
theorem sapi_TrackedWord_0 : FldSet tapi_TrackedWord 0 (tI .i64) (fun x y => { x with State := y }) := (FldSet.map (m := (fun x : api_TrackedWord => (x.State, x.Text))) (f' := fun x y => { x with State := y }) (FldSet.here (tI .i64) (tOne tS)) (fun _ _ => rfl)).cast rfl rfl
theorem fapi_TrackedWord_1 : Fld tapi_TrackedWord 1 tS (fun x => x.Text) := (Fld.map (m := (fun x : api_TrackedWord => (x.State, x.Text))) (Fld.next (s := (tI .i64)) (Fld.one tS))).cast rfl rfl
theorem sapi_TrackedWord_1 : FldSet tapi_TrackedWord 1 tS (fun x y => { x with Text := y }) := (FldSet.map (m := (fun x : api_TrackedWord => (x.State, x.Text))) (f' := fun x y => { x with Text := y }) (FldSet.next (s := (tI .i64)) (FldSet.one tS)) (fun _ _ => rfl)).cast rfl rfl
def zapi_TrackedWord_f (fd : Field) : Nat := if fd.type = 3 then 1 else if fd.type = 9 then 1 else 0
theorem zapi_TrackedWord_sz : ∀ fs, Tryz.prog.underlying 53 = some (.struct fs) → ∀ fd, fd ∈ fs → ∀ w, (sizeOf fd.type).run Tryz.prog w = .ok (zapi_TrackedWord_f fd) w := by
  intro fs h
  rw [Tryz.underlying53] at h
  cases h
  intro fd hfd w
  simp only [List.mem_toArray, List.mem_cons, List.not_mem_nil, or_false] at hfd
  rcases hfd with rfl | rfl
  · exact Tryz.sizeOf3 w
  · exact Tryz.sizeOf9 w
def Fapi_TrackedUnit (X : Ty api_TrackedUnit) : Ty api_TrackedUnit := tMap (tP (tI .i64) (tP (tI .i64) (tP tapi_Id (tP tS (tP tS (tP tB (tP (tL tapi_TrackedWord) (tP (tL tapi_TrackedWord) (tOne (tL X)))))))))) (fun x : api_TrackedUnit => (x.State, x.Kind, x.Id, x.Label, x.Was, x.Moved, x.Head, x.Words, x.Kids))
theorem capi_TrackedUnit : Cont Fapi_TrackedUnit := Cont.map (fun x : api_TrackedUnit => (x.State, x.Kind, x.Id, x.Label, x.Was, x.Moved, x.Head, x.Words, x.Kids)) (Cont.pair (Cont.const _) (Cont.pair (Cont.const _) (Cont.pair (Cont.const _) (Cont.pair (Cont.const _) (Cont.pair (Cont.const _) (Cont.pair (Cont.const _) (Cont.pair (Cont.const _) (Cont.pair (Cont.const _) (Cont.one ((Cont.list Cont.id)))))))))))
theorem rapi_TrackedUnit : Rec Fapi_TrackedUnit 11 := ⟨capi_TrackedUnit, rfl, rfl⟩
def tapi_TrackedUnit : Ty api_TrackedUnit := tFix rapi_TrackedUnit
theorem fapi_TrackedUnit_0 : Fld tapi_TrackedUnit 0 (tI .i64) (fun x => x.State) := Fld.le rapi_TrackedUnit.out ((Fld.map (m := (fun x : api_TrackedUnit => (x.State, x.Kind, x.Id, x.Label, x.Was, x.Moved, x.Head, x.Words, x.Kids))) (Fld.here (tI .i64) (tP (tI .i64) (tP tapi_Id (tP tS (tP tS (tP tB (tP (tL tapi_TrackedWord) (tP (tL tapi_TrackedWord) (tOne (tL tapi_TrackedUnit))))))))))).cast rfl rfl)
theorem fapi_TrackedUnit_1 : Fld tapi_TrackedUnit 1 (tI .i64) (fun x => x.Kind) := Fld.le rapi_TrackedUnit.out ((Fld.map (m := (fun x : api_TrackedUnit => (x.State, x.Kind, x.Id, x.Label, x.Was, x.Moved, x.Head, x.Words, x.Kids))) (Fld.next (s := (tI .i64)) (Fld.here (tI .i64) (tP tapi_Id (tP tS (tP tS (tP tB (tP (tL tapi_TrackedWord) (tP (tL tapi_TrackedWord) (tOne (tL tapi_TrackedUnit))))))))))).cast rfl rfl)
theorem sapi_TrackedUnit_1 : FldSet tapi_TrackedUnit 1 (tI .i64) (fun x y => { x with Kind := y }) := FldSet.le rapi_TrackedUnit.out rapi_TrackedUnit.into ((FldSet.map (m := (fun x : api_TrackedUnit => (x.State, x.Kind, x.Id, x.Label, x.Was, x.Moved, x.Head, x.Words, x.Kids))) (f' := fun x y => { x with Kind := y }) (FldSet.next (s := (tI .i64)) (FldSet.here (tI .i64) (tP tapi_Id (tP tS (tP tS (tP tB (tP (tL tapi_TrackedWord) (tP (tL tapi_TrackedWord) (tOne (tL tapi_TrackedUnit)))))))))) (fun _ _ => rfl)).cast rfl rfl)
theorem fapi_TrackedUnit_2 : Fld tapi_TrackedUnit 2 tapi_Id (fun x => x.Id) := Fld.le rapi_TrackedUnit.out ((Fld.map (m := (fun x : api_TrackedUnit => (x.State, x.Kind, x.Id, x.Label, x.Was, x.Moved, x.Head, x.Words, x.Kids))) (Fld.next (s := (tI .i64)) (Fld.next (s := (tI .i64)) (Fld.here tapi_Id (tP tS (tP tS (tP tB (tP (tL tapi_TrackedWord) (tP (tL tapi_TrackedWord) (tOne (tL tapi_TrackedUnit))))))))))).cast rfl rfl)
theorem sapi_TrackedUnit_2 : FldSet tapi_TrackedUnit 2 tapi_Id (fun x y => { x with Id := y }) := FldSet.le rapi_TrackedUnit.out rapi_TrackedUnit.into ((FldSet.map (m := (fun x : api_TrackedUnit => (x.State, x.Kind, x.Id, x.Label, x.Was, x.Moved, x.Head, x.Words, x.Kids))) (f' := fun x y => { x with Id := y }) (FldSet.next (s := (tI .i64)) (FldSet.next (s := (tI .i64)) (FldSet.here tapi_Id (tP tS (tP tS (tP tB (tP (tL tapi_TrackedWord) (tP (tL tapi_TrackedWord) (tOne (tL tapi_TrackedUnit)))))))))) (fun _ _ => rfl)).cast rfl rfl)
theorem fapi_TrackedUnit_3 : Fld tapi_TrackedUnit 5 tS (fun x => x.Label) := Fld.le rapi_TrackedUnit.out ((Fld.map (m := (fun x : api_TrackedUnit => (x.State, x.Kind, x.Id, x.Label, x.Was, x.Moved, x.Head, x.Words, x.Kids))) (Fld.next (s := (tI .i64)) (Fld.next (s := (tI .i64)) (Fld.next (s := tapi_Id) (Fld.here tS (tP tS (tP tB (tP (tL tapi_TrackedWord) (tP (tL tapi_TrackedWord) (tOne (tL tapi_TrackedUnit))))))))))).cast rfl rfl)
theorem sapi_TrackedUnit_3 : FldSet tapi_TrackedUnit 5 tS (fun x y => { x with Label := y }) := FldSet.le rapi_TrackedUnit.out rapi_TrackedUnit.into ((FldSet.map (m := (fun x : api_TrackedUnit => (x.State, x.Kind, x.Id, x.Label, x.Was, x.Moved, x.Head, x.Words, x.Kids))) (f' := fun x y => { x with Label := y }) (FldSet.next (s := (tI .i64)) (FldSet.next (s := (tI .i64)) (FldSet.next (s := tapi_Id) (FldSet.here tS (tP tS (tP tB (tP (tL tapi_TrackedWord) (tP (tL tapi_TrackedWord) (tOne (tL tapi_TrackedUnit)))))))))) (fun _ _ => rfl)).cast rfl rfl)
theorem fapi_TrackedUnit_4 : Fld tapi_TrackedUnit 6 tS (fun x => x.Was) := Fld.le rapi_TrackedUnit.out ((Fld.map (m := (fun x : api_TrackedUnit => (x.State, x.Kind, x.Id, x.Label, x.Was, x.Moved, x.Head, x.Words, x.Kids))) (Fld.next (s := (tI .i64)) (Fld.next (s := (tI .i64)) (Fld.next (s := tapi_Id) (Fld.next (s := tS) (Fld.here tS (tP tB (tP (tL tapi_TrackedWord) (tP (tL tapi_TrackedWord) (tOne (tL tapi_TrackedUnit))))))))))).cast rfl rfl)
theorem sapi_TrackedUnit_4 : FldSet tapi_TrackedUnit 6 tS (fun x y => { x with Was := y }) := FldSet.le rapi_TrackedUnit.out rapi_TrackedUnit.into ((FldSet.map (m := (fun x : api_TrackedUnit => (x.State, x.Kind, x.Id, x.Label, x.Was, x.Moved, x.Head, x.Words, x.Kids))) (f' := fun x y => { x with Was := y }) (FldSet.next (s := (tI .i64)) (FldSet.next (s := (tI .i64)) (FldSet.next (s := tapi_Id) (FldSet.next (s := tS) (FldSet.here tS (tP tB (tP (tL tapi_TrackedWord) (tP (tL tapi_TrackedWord) (tOne (tL tapi_TrackedUnit)))))))))) (fun _ _ => rfl)).cast rfl rfl)
theorem fapi_TrackedUnit_5 : Fld tapi_TrackedUnit 7 tB (fun x => x.Moved) := Fld.le rapi_TrackedUnit.out ((Fld.map (m := (fun x : api_TrackedUnit => (x.State, x.Kind, x.Id, x.Label, x.Was, x.Moved, x.Head, x.Words, x.Kids))) (Fld.next (s := (tI .i64)) (Fld.next (s := (tI .i64)) (Fld.next (s := tapi_Id) (Fld.next (s := tS) (Fld.next (s := tS) (Fld.here tB (tP (tL tapi_TrackedWord) (tP (tL tapi_TrackedWord) (tOne (tL tapi_TrackedUnit))))))))))).cast rfl rfl)
theorem fapi_TrackedUnit_6 : Fld tapi_TrackedUnit 8 (tL tapi_TrackedWord) (fun x => x.Head) := Fld.le rapi_TrackedUnit.out ((Fld.map (m := (fun x : api_TrackedUnit => (x.State, x.Kind, x.Id, x.Label, x.Was, x.Moved, x.Head, x.Words, x.Kids))) (Fld.next (s := (tI .i64)) (Fld.next (s := (tI .i64)) (Fld.next (s := tapi_Id) (Fld.next (s := tS) (Fld.next (s := tS) (Fld.next (s := tB) (Fld.here (tL tapi_TrackedWord) (tP (tL tapi_TrackedWord) (tOne (tL tapi_TrackedUnit))))))))))).cast rfl rfl)
theorem fapi_TrackedUnit_7 : Fld tapi_TrackedUnit 9 (tL tapi_TrackedWord) (fun x => x.Words) := Fld.le rapi_TrackedUnit.out ((Fld.map (m := (fun x : api_TrackedUnit => (x.State, x.Kind, x.Id, x.Label, x.Was, x.Moved, x.Head, x.Words, x.Kids))) (Fld.next (s := (tI .i64)) (Fld.next (s := (tI .i64)) (Fld.next (s := tapi_Id) (Fld.next (s := tS) (Fld.next (s := tS) (Fld.next (s := tB) (Fld.next (s := (tL tapi_TrackedWord)) (Fld.here (tL tapi_TrackedWord) (tOne (tL tapi_TrackedUnit))))))))))).cast rfl rfl)
theorem sapi_TrackedUnit_7 : FldSet tapi_TrackedUnit 9 (tL tapi_TrackedWord) (fun x y => { x with Words := y }) := FldSet.le rapi_TrackedUnit.out rapi_TrackedUnit.into ((FldSet.map (m := (fun x : api_TrackedUnit => (x.State, x.Kind, x.Id, x.Label, x.Was, x.Moved, x.Head, x.Words, x.Kids))) (f' := fun x y => { x with Words := y }) (FldSet.next (s := (tI .i64)) (FldSet.next (s := (tI .i64)) (FldSet.next (s := tapi_Id) (FldSet.next (s := tS) (FldSet.next (s := tS) (FldSet.next (s := tB) (FldSet.next (s := (tL tapi_TrackedWord)) (FldSet.here (tL tapi_TrackedWord) (tOne (tL tapi_TrackedUnit)))))))))) (fun _ _ => rfl)).cast rfl rfl)
theorem fapi_TrackedUnit_8 : Fld tapi_TrackedUnit 10 (tL tapi_TrackedUnit) (fun x => x.Kids) := Fld.le rapi_TrackedUnit.out ((Fld.map (m := (fun x : api_TrackedUnit => (x.State, x.Kind, x.Id, x.Label, x.Was, x.Moved, x.Head, x.Words, x.Kids))) (Fld.next (s := (tI .i64)) (Fld.next (s := (tI .i64)) (Fld.next (s := tapi_Id) (Fld.next (s := tS) (Fld.next (s := tS) (Fld.next (s := tB) (Fld.next (s := (tL tapi_TrackedWord)) (Fld.next (s := (tL tapi_TrackedWord)) (Fld.one (tL tapi_TrackedUnit))))))))))).cast rfl rfl)
def zapi_TrackedUnit_f (fd : Field) : Nat := if fd.type = 3 then 1 else if fd.type = 4 then 1 else if fd.type = 9 then 1 else if fd.type = 23 then 3 else if fd.type = 30 then 1 else if fd.type = 31 then 1 else 0
theorem zapi_TrackedUnit_sz : ∀ fs, Tryz.prog.underlying 33 = some (.struct fs) → ∀ fd, fd ∈ fs → ∀ w, (sizeOf fd.type).run Tryz.prog w = .ok (zapi_TrackedUnit_f fd) w := by
  intro fs h
  rw [Tryz.underlying33] at h
  cases h
  intro fd hfd w
  simp only [List.mem_toArray, List.mem_cons, List.not_mem_nil, or_false] at hfd
  rcases hfd with rfl | rfl | rfl | rfl | rfl | rfl | rfl | rfl | rfl
  · exact Tryz.sizeOf3 w
  · exact Tryz.sizeOf3 w
  · exact Tryz.sizeOf23 w
  · exact Tryz.sizeOf9 w
  · exact Tryz.sizeOf9 w
  · exact Tryz.sizeOf4 w
  · exact Tryz.sizeOf30 w
  · exact Tryz.sizeOf30 w
  · exact Tryz.sizeOf31 w
def tapi_TrackedUnit_k8 (k : Tok) : Ty api_TrackedUnit := tMap (tP (tI .i64) (tP (tI .i64) (tP tapi_Id (tP tS (tP tS (tP tB (tP (tL tapi_TrackedWord) (tP (tL tapi_TrackedWord) (tOne (tOT tapi_TrackedUnit k)))))))))) (fun x : api_TrackedUnit => (x.State, x.Kind, x.Id, x.Label, x.Was, x.Moved, x.Head, x.Words, x.Kids))
theorem sapi_TrackedUnit_k8_0 (k : Tok) : FldSet (tapi_TrackedUnit_k8 k) 0 (tI .i64) (fun x y => { x with State := y }) := (FldSet.map (m := (fun x : api_TrackedUnit => (x.State, x.Kind, x.Id, x.Label, x.Was, x.Moved, x.Head, x.Words, x.Kids))) (f' := fun x y => { x with State := y }) (FldSet.here (tI .i64) (tP (tI .i64) (tP tapi_Id (tP tS (tP tS (tP tB (tP (tL tapi_TrackedWord) (tP (tL tapi_TrackedWord) (tOne (tOT tapi_TrackedUnit k)))))))))) (fun _ _ => rfl)).cast rfl rfl
theorem sapi_TrackedUnit_k8_1 (k : Tok) : FldSet (tapi_TrackedUnit_k8 k) 1 (tI .i64) (fun x y => { x with Kind := y }) := (FldSet.map (m := (fun x : api_TrackedUnit => (x.State, x.Kind, x.Id, x.Label, x.Was, x.Moved, x.Head, x.Words, x.Kids))) (f' := fun x y => { x with Kind := y }) (FldSet.next (s := (tI .i64)) (FldSet.here (tI .i64) (tP tapi_Id (tP tS (tP tS (tP tB (tP (tL tapi_TrackedWord) (tP (tL tapi_TrackedWord) (tOne (tOT tapi_TrackedUnit k)))))))))) (fun _ _ => rfl)).cast rfl rfl
theorem sapi_TrackedUnit_k8_2 (k : Tok) : FldSet (tapi_TrackedUnit_k8 k) 2 tapi_Id (fun x y => { x with Id := y }) := (FldSet.map (m := (fun x : api_TrackedUnit => (x.State, x.Kind, x.Id, x.Label, x.Was, x.Moved, x.Head, x.Words, x.Kids))) (f' := fun x y => { x with Id := y }) (FldSet.next (s := (tI .i64)) (FldSet.next (s := (tI .i64)) (FldSet.here tapi_Id (tP tS (tP tS (tP tB (tP (tL tapi_TrackedWord) (tP (tL tapi_TrackedWord) (tOne (tOT tapi_TrackedUnit k)))))))))) (fun _ _ => rfl)).cast rfl rfl
theorem sapi_TrackedUnit_k8_3 (k : Tok) : FldSet (tapi_TrackedUnit_k8 k) 5 tS (fun x y => { x with Label := y }) := (FldSet.map (m := (fun x : api_TrackedUnit => (x.State, x.Kind, x.Id, x.Label, x.Was, x.Moved, x.Head, x.Words, x.Kids))) (f' := fun x y => { x with Label := y }) (FldSet.next (s := (tI .i64)) (FldSet.next (s := (tI .i64)) (FldSet.next (s := tapi_Id) (FldSet.here tS (tP tS (tP tB (tP (tL tapi_TrackedWord) (tP (tL tapi_TrackedWord) (tOne (tOT tapi_TrackedUnit k)))))))))) (fun _ _ => rfl)).cast rfl rfl
theorem sapi_TrackedUnit_k8_4 (k : Tok) : FldSet (tapi_TrackedUnit_k8 k) 6 tS (fun x y => { x with Was := y }) := (FldSet.map (m := (fun x : api_TrackedUnit => (x.State, x.Kind, x.Id, x.Label, x.Was, x.Moved, x.Head, x.Words, x.Kids))) (f' := fun x y => { x with Was := y }) (FldSet.next (s := (tI .i64)) (FldSet.next (s := (tI .i64)) (FldSet.next (s := tapi_Id) (FldSet.next (s := tS) (FldSet.here tS (tP tB (tP (tL tapi_TrackedWord) (tP (tL tapi_TrackedWord) (tOne (tOT tapi_TrackedUnit k)))))))))) (fun _ _ => rfl)).cast rfl rfl
theorem sapi_TrackedUnit_k8_5 (k : Tok) : FldSet (tapi_TrackedUnit_k8 k) 7 tB (fun x y => { x with Moved := y }) := (FldSet.map (m := (fun x : api_TrackedUnit => (x.State, x.Kind, x.Id, x.Label, x.Was, x.Moved, x.Head, x.Words, x.Kids))) (f' := fun x y => { x with Moved := y }) (FldSet.next (s := (tI .i64)) (FldSet.next (s := (tI .i64)) (FldSet.next (s := tapi_Id) (FldSet.next (s := tS) (FldSet.next (s := tS) (FldSet.here tB (tP (tL tapi_TrackedWord) (tP (tL tapi_TrackedWord) (tOne (tOT tapi_TrackedUnit k)))))))))) (fun _ _ => rfl)).cast rfl rfl
theorem sapi_TrackedUnit_k8_6 (k : Tok) : FldSet (tapi_TrackedUnit_k8 k) 8 (tL tapi_TrackedWord) (fun x y => { x with Head := y }) := (FldSet.map (m := (fun x : api_TrackedUnit => (x.State, x.Kind, x.Id, x.Label, x.Was, x.Moved, x.Head, x.Words, x.Kids))) (f' := fun x y => { x with Head := y }) (FldSet.next (s := (tI .i64)) (FldSet.next (s := (tI .i64)) (FldSet.next (s := tapi_Id) (FldSet.next (s := tS) (FldSet.next (s := tS) (FldSet.next (s := tB) (FldSet.here (tL tapi_TrackedWord) (tP (tL tapi_TrackedWord) (tOne (tOT tapi_TrackedUnit k)))))))))) (fun _ _ => rfl)).cast rfl rfl
theorem sapi_TrackedUnit_k8_7 (k : Tok) : FldSet (tapi_TrackedUnit_k8 k) 9 (tL tapi_TrackedWord) (fun x y => { x with Words := y }) := (FldSet.map (m := (fun x : api_TrackedUnit => (x.State, x.Kind, x.Id, x.Label, x.Was, x.Moved, x.Head, x.Words, x.Kids))) (f' := fun x y => { x with Words := y }) (FldSet.next (s := (tI .i64)) (FldSet.next (s := (tI .i64)) (FldSet.next (s := tapi_Id) (FldSet.next (s := tS) (FldSet.next (s := tS) (FldSet.next (s := tB) (FldSet.next (s := (tL tapi_TrackedWord)) (FldSet.here (tL tapi_TrackedWord) (tOne (tOT tapi_TrackedUnit k)))))))))) (fun _ _ => rfl)).cast rfl rfl
theorem fapi_TrackedUnit_k8_8 (k : Tok) : Fld (tapi_TrackedUnit_k8 k) 10 (tOT tapi_TrackedUnit k) (fun x => x.Kids) := (Fld.map (m := (fun x : api_TrackedUnit => (x.State, x.Kind, x.Id, x.Label, x.Was, x.Moved, x.Head, x.Words, x.Kids))) (Fld.next (s := (tI .i64)) (Fld.next (s := (tI .i64)) (Fld.next (s := tapi_Id) (Fld.next (s := tS) (Fld.next (s := tS) (Fld.next (s := tB) (Fld.next (s := (tL tapi_TrackedWord)) (Fld.next (s := (tL tapi_TrackedWord)) (Fld.one (tOT tapi_TrackedUnit k))))))))))).cast rfl rfl
theorem leapi_TrackedUnit_k8 (k : Tok) : Le (tapi_TrackedUnit_k8 k) tapi_TrackedUnit := Le.trans (Le.mapT (Le.pair (Le.refl _) (Le.pair (Le.refl _) (Le.pair (Le.refl _) (Le.pair (Le.refl _) (Le.pair (Le.refl _) (Le.pair (Le.refl _) (Le.pair (Le.refl _) (Le.pair (Le.refl _) (Le.one (tOT_le _ _)))))))))) _) rapi_TrackedUnit.into
theorem zeapi_TrackedUnit_k8 : ZeroAt Tryz.prog 33 (tapi_TrackedUnit_k8 none) zapi_TrackedUnit := ⟨_, Tryz.zeroValue33, fun _ => ⟨_, ⟨_, _, rfl, ⟨rfl, inR64.2 ⟨by decide, by decide⟩⟩, ⟨_, _, rfl, ⟨rfl, inR64.2 ⟨by decide, by decide⟩⟩, ⟨_, _, rfl, ⟨_, _, rfl, ⟨rfl, inR64.2 ⟨by decide, by decide⟩⟩, ⟨_, _, rfl, ⟨rfl, inR64.2 ⟨by decide, by decide⟩⟩, ⟨rfl, inR64.2 ⟨by decide, by decide⟩⟩⟩⟩, ⟨_, _, rfl, ⟨rfl, by decide⟩, ⟨_, _, rfl, ⟨rfl, by decide⟩, ⟨_, _, rfl, rfl, ⟨_, _, rfl, ⟨none, 0, rfl, Nat.le_refl _, Nat.zero_le _, fun _ => rfl, rfl⟩, ⟨_, _, rfl, ⟨none, 0, rfl, Nat.le_refl _, Nat.zero_le _, fun _ => rfl, rfl⟩, ⟨_, rfl, ⟨rfl, Nat.le_refl _, Nat.zero_le _, rfl⟩⟩⟩⟩⟩⟩⟩⟩⟩⟩, rfl⟩⟩
theorem ty3 : TyAt Tryz.prog 3 (tI .i64) := ⟨Tryz.isAgg3, Tryz.sizeOf3⟩
theorem el3 : ElAt Tryz.prog 3 (tI .i64) := ⟨⟨Tryz.t3, _, Tryz.type3, rfl, rfl, by decide, rfl⟩, by decide⟩
theorem ze3 : ZeroAt Tryz.prog 3 (tI .i64) (0 : Int) := ⟨_, Tryz.zeroValue3, fun _ => ⟨_, ⟨rfl, inR64.2 ⟨by decide, by decide⟩⟩, rfl⟩⟩
theorem ty4 : TyAt Tryz.prog 4 tB := ⟨Tryz.isAgg4, Tryz.sizeOf4⟩
theorem ze4 : ZeroAt Tryz.prog 4 tB false := ⟨_, Tryz.zeroValue4, fun _ => ⟨_, rfl, rfl⟩⟩
theorem ty5 : TyAt Tryz.prog 5 (tI .u8) := ⟨Tryz.isAgg5, Tryz.sizeOf5⟩
theorem el5 : ElAt Tryz.prog 5 (tI .u8) := ⟨⟨Tryz.t5, _, Tryz.type5, rfl, rfl, by decide, rfl⟩, by decide⟩
theorem ze5 : ZeroAt Tryz.prog 5 (tI .u8) (0 : Int) := ⟨_, Tryz.zeroValue5, fun _ => ⟨_, ⟨rfl, by decide⟩, rfl⟩⟩
theorem ty9 : TyAt Tryz.prog 9 tS := ⟨Tryz.isAgg9, Tryz.sizeOf9⟩
theorem el9 : ElAt Tryz.prog 9 tS := ⟨⟨Tryz.t9, _, Tryz.type9, rfl, rfl, by decide, rfl⟩, by decide⟩
theorem ze9 : ZeroAt Tryz.prog 9 tS ([] : Str) := ⟨_, Tryz.zeroValue9, fun _ => ⟨_, ⟨rfl, by decide⟩, rfl⟩⟩
theorem ty23 : TyAt Tryz.prog 23 tapi_Id := ⟨Tryz.isAgg23, Tryz.sizeOf23⟩
theorem ze23 : ZeroAt Tryz.prog 23 tapi_Id zapi_Id := ⟨_, Tryz.zeroValue23, fun _ => ⟨_, ⟨_, _, rfl, ⟨rfl, inR64.2 ⟨by decide, by decide⟩⟩, ⟨_, _, rfl, ⟨rfl, inR64.2 ⟨by decide, by decide⟩⟩, ⟨rfl, inR64.2 ⟨by decide, by decide⟩⟩⟩⟩, rfl⟩⟩
theorem ty30 : TyAt Tryz.prog 30 (tL tapi_TrackedWord) := ⟨Tryz.isAgg30, Tryz.sizeOf30⟩
theorem ty31 : TyAt Tryz.prog 31 (tL tapi_TrackedUnit) := ⟨Tryz.isAgg31, Tryz.sizeOf31⟩
theorem ty33 : TyAt Tryz.prog 33 tapi_TrackedUnit := ⟨Tryz.isAgg33, Tryz.sizeOf33⟩
theorem el33 : ElAt Tryz.prog 33 tapi_TrackedUnit := ⟨⟨Tryz.t33, _, Tryz.type33, rfl, rfl, by decide, rfl⟩, by decide⟩
theorem ze33 : ZeroAt Tryz.prog 33 tapi_TrackedUnit zapi_TrackedUnit := ⟨_, Tryz.zeroValue33, fun _ => ⟨_, (rapi_TrackedUnit.into.rep _ _ _ ⟨_, _, rfl, ⟨rfl, inR64.2 ⟨by decide, by decide⟩⟩, ⟨_, _, rfl, ⟨rfl, inR64.2 ⟨by decide, by decide⟩⟩, ⟨_, _, rfl, ⟨_, _, rfl, ⟨rfl, inR64.2 ⟨by decide, by decide⟩⟩, ⟨_, _, rfl, ⟨rfl, inR64.2 ⟨by decide, by decide⟩⟩, ⟨rfl, inR64.2 ⟨by decide, by decide⟩⟩⟩⟩, ⟨_, _, rfl, ⟨rfl, by decide⟩, ⟨_, _, rfl, ⟨rfl, by decide⟩, ⟨_, _, rfl, rfl, ⟨_, _, rfl, ⟨none, 0, rfl, Nat.le_refl _, Nat.zero_le _, fun _ => rfl, rfl⟩, ⟨_, _, rfl, ⟨none, 0, rfl, Nat.le_refl _, Nat.zero_le _, fun _ => rfl, rfl⟩, ⟨none, 0, rfl, Nat.le_refl _, Nat.zero_le _, fun _ => rfl, rfl⟩⟩⟩⟩⟩⟩⟩⟩⟩), rfl⟩⟩
theorem ty53 : TyAt Tryz.prog 53 tapi_TrackedWord := ⟨Tryz.isAgg53, Tryz.sizeOf53⟩
theorem el53 : ElAt Tryz.prog 53 tapi_TrackedWord := ⟨⟨Tryz.t53, _, Tryz.type53, rfl, rfl, by decide, rfl⟩, by decide⟩
theorem ze53 : ZeroAt Tryz.prog 53 tapi_TrackedWord zapi_TrackedWord := ⟨_, Tryz.zeroValue53, fun _ => ⟨_, ⟨_, _, rfl, ⟨rfl, inR64.2 ⟨by decide, by decide⟩⟩, ⟨rfl, by decide⟩⟩, rfl⟩⟩
theorem ze151 : ZeroAt Tryz.prog 151 (tA 256 tB) (List.replicate 256 false) := ZeroAt.array ze4 Tryz.zeroValue4 Tryz.zeroValue151 rfl default
theorem ze202 : ZeroAt Tryz.prog 202 (tA 3 (tI .i64)) (List.replicate 3 (0 : Int)) := ZeroAt.array ze3 Tryz.zeroValue3 Tryz.zeroValue202 rfl default
theorem eq23 : EqT (α := api_Id) (P := Tryz.prog) (T := 23) (t := tapi_Id) (D := 2) := EqT.struct (D := 1) rfl Tryz.underlying23 (by kernel_rfl) ⟨_, inferInstance, _, _, _, by decide, ty3, fapi_Id_0, ((EqT.int Tryz.underlying3).up (by decide)), ⟨_, inferInstance, _, _, _, by decide, ty3, fapi_Id_1, ((EqT.int Tryz.underlying3).up (by decide)), ⟨_, inferInstance, _, _, _, by decide, ty3, fapi_Id_2, ((EqT.int Tryz.underlying3).up (by decide)), rfl, rfl⟩, rfl⟩, rfl⟩ (fun x y => by cases x; cases y; simp)
theorem eg23 : Tryz.prog.eqGuardType Tryz.prog.depth 23 = false := by kernel_rfl
theorem eq53 : EqT (α := api_TrackedWord) (P := Tryz.prog) (T := 53) (t := tapi_TrackedWord) (D := 2) := EqT.struct (D := 1) rfl Tryz.underlying53 (by kernel_rfl) ⟨_, inferInstance, _, _, _, by decide, ty3, fapi_TrackedWord_0, ((EqT.int Tryz.underlying3).up (by decide)), ⟨_, inferInstance, _, _, _, by decide, ty9, fapi_TrackedWord_1, ((EqT.string Tryz.underlying9).up (by decide)), rfl, rfl⟩, rfl⟩ (fun x y => by cases x; cases y; simp)
theorem eg53 : Tryz.prog.eqGuardType Tryz.prog.depth 53 = false := by kernel_rfl
abbrev I6 : Ty Int := tI .i64
theorem Mx : Tryz.prog.follows .mixedOrders = true := Tryz.mixed
theorem C6 (xs : Array Value) (w : World) : (callFunc 6 xs).run Tryz.prog w = .ok (.enter 6 xs) w := Tryz.call6 xs w
theorem C9 (xs : Array Value) (w : World) : (callFunc 9 xs).run Tryz.prog w = .ok (.enter 9 xs) w := Tryz.call9 xs w
theorem C10 (xs : Array Value) (w : World) : (callFunc 10 xs).run Tryz.prog w = .ok (.enter 10 xs) w := Tryz.call10 xs w
theorem C13 (xs : Array Value) (w : World) : (callFunc 13 xs).run Tryz.prog w = .ok (.enter 13 xs) w := Tryz.call13 xs w
theorem C14 (xs : Array Value) (w : World) : (callFunc 14 xs).run Tryz.prog w = .ok (.enter 14 xs) w := Tryz.call14 xs w
theorem C15 (xs : Array Value) (w : World) : (callFunc 15 xs).run Tryz.prog w = .ok (.enter 15 xs) w := Tryz.call15 xs w
theorem C16 (xs : Array Value) (w : World) : (callFunc 16 xs).run Tryz.prog w = .ok (.enter 16 xs) w := Tryz.call16 xs w
theorem C17 (xs : Array Value) (w : World) : (callFunc 17 xs).run Tryz.prog w = .ok (.enter 17 xs) w := Tryz.call17 xs w
theorem C18 (xs : Array Value) (w : World) : (callFunc 18 xs).run Tryz.prog w = .ok (.enter 18 xs) w := Tryz.call18 xs w
theorem C19 (xs : Array Value) (w : World) : (callFunc 19 xs).run Tryz.prog w = .ok (.enter 19 xs) w := Tryz.call19 xs w
theorem C23 (xs : Array Value) (w : World) : (callFunc 23 xs).run Tryz.prog w = .ok (.enter 23 xs) w := Tryz.call23 xs w
theorem C28 (xs : Array Value) (w : World) : (callFunc 28 xs).run Tryz.prog w = .ok (.enter 28 xs) w := Tryz.call28 xs w
theorem C29 (xs : Array Value) (w : World) : (callFunc 29 xs).run Tryz.prog w = .ok (.enter 29 xs) w := Tryz.call29 xs w
theorem C30 (xs : Array Value) (w : World) : (callFunc 30 xs).run Tryz.prog w = .ok (.enter 30 xs) w := Tryz.call30 xs w
theorem C31 (xs : Array Value) (w : World) : (callFunc 31 xs).run Tryz.prog w = .ok (.enter 31 xs) w := Tryz.call31 xs w
theorem C32 (xs : Array Value) (w : World) : (callFunc 32 xs).run Tryz.prog w = .ok (.enter 32 xs) w := Tryz.call32 xs w
theorem C33 (xs : Array Value) (w : World) : (callFunc 33 xs).run Tryz.prog w = .ok (.enter 33 xs) w := Tryz.call33 xs w
theorem C34 (xs : Array Value) (w : World) : (callFunc 34 xs).run Tryz.prog w = .ok (.enter 34 xs) w := Tryz.call34 xs w
theorem C35 (xs : Array Value) (w : World) : (callFunc 35 xs).run Tryz.prog w = .ok (.enter 35 xs) w := Tryz.call35 xs w
theorem C37 (xs : Array Value) (w : World) : (callFunc 37 xs).run Tryz.prog w = .ok (.enter 37 xs) w := Tryz.call37 xs w
theorem C38 (xs : Array Value) (w : World) : (callFunc 38 xs).run Tryz.prog w = .ok (.enter 38 xs) w := Tryz.call38 xs w
theorem C43 (xs : Array Value) (w : World) : (callFunc 43 xs).run Tryz.prog w = .ok (.enter 43 xs) w := Tryz.call43 xs w
theorem C44 (xs : Array Value) (w : World) : (callFunc 44 xs).run Tryz.prog w = .ok (.enter 44 xs) w := Tryz.call44 xs w
theorem C45 (xs : Array Value) (w : World) : (callFunc 45 xs).run Tryz.prog w = .ok (.enter 45 xs) w := Tryz.call45 xs w
theorem C57 (xs : Array Value) (w : World) : (callFunc 57 xs).run Tryz.prog w = .ok (.enter 57 xs) w := Tryz.call57 xs w
theorem C58 (xs : Array Value) (w : World) : (callFunc 58 xs).run Tryz.prog w = .ok (.enter 58 xs) w := Tryz.call58 xs w
theorem C59 (xs : Array Value) (w : World) : (callFunc 59 xs).run Tryz.prog w = .ok (.enter 59 xs) w := Tryz.call59 xs w
theorem C60 (xs : Array Value) (w : World) : (callFunc 60 xs).run Tryz.prog w = .ok (.enter 60 xs) w := Tryz.call60 xs w
theorem C61 (xs : Array Value) (w : World) : (callFunc 61 xs).run Tryz.prog w = .ok (.enter 61 xs) w := Tryz.call61 xs w
theorem C62 (xs : Array Value) (w : World) : (callFunc 62 xs).run Tryz.prog w = .ok (.enter 62 xs) w := Tryz.call62 xs w
theorem C63 (xs : Array Value) (w : World) : (callFunc 63 xs).run Tryz.prog w = .ok (.enter 63 xs) w := Tryz.call63 xs w
theorem C64 (xs : Array Value) (w : World) : (callFunc 64 xs).run Tryz.prog w = .ok (.enter 64 xs) w := Tryz.call64 xs w
theorem C65 (xs : Array Value) (w : World) : (callFunc 65 xs).run Tryz.prog w = .ok (.enter 65 xs) w := Tryz.call65 xs w
theorem C66 (xs : Array Value) (w : World) : (callFunc 66 xs).run Tryz.prog w = .ok (.enter 66 xs) w := Tryz.call66 xs w
theorem C67 (xs : Array Value) (w : World) : (callFunc 67 xs).run Tryz.prog w = .ok (.enter 67 xs) w := Tryz.call67 xs w
theorem C68 (xs : Array Value) (w : World) : (callFunc 68 xs).run Tryz.prog w = .ok (.enter 68 xs) w := Tryz.call68 xs w
theorem C69 (xs : Array Value) (w : World) : (callFunc 69 xs).run Tryz.prog w = .ok (.enter 69 xs) w := Tryz.call69 xs w
theorem C71 (xs : Array Value) (w : World) : (callFunc 71 xs).run Tryz.prog w = .ok (.enter 71 xs) w := Tryz.call71 xs w
theorem C72 (xs : Array Value) (w : World) : (callFunc 72 xs).run Tryz.prog w = .ok (.enter 72 xs) w := Tryz.call72 xs w
theorem C73 (xs : Array Value) (w : World) : (callFunc 73 xs).run Tryz.prog w = .ok (.enter 73 xs) w := Tryz.call73 xs w
theorem C74 (xs : Array Value) (w : World) : (callFunc 74 xs).run Tryz.prog w = .ok (.enter 74 xs) w := Tryz.call74 xs w
theorem C75 (xs : Array Value) (w : World) : (callFunc 75 xs).run Tryz.prog w = .ok (.enter 75 xs) w := Tryz.call75 xs w
theorem C76 (xs : Array Value) (w : World) : (callFunc 76 xs).run Tryz.prog w = .ok (.enter 76 xs) w := Tryz.call76 xs w
theorem C77 (xs : Array Value) (w : World) : (callFunc 77 xs).run Tryz.prog w = .ok (.enter 77 xs) w := Tryz.call77 xs w
theorem C78 (xs : Array Value) (w : World) : (callFunc 78 xs).run Tryz.prog w = .ok (.enter 78 xs) w := Tryz.call78 xs w
theorem C92 (xs : Array Value) (w : World) : (callFunc 92 xs).run Tryz.prog w = .ok (.enter 92 xs) w := Tryz.call92 xs w
theorem C93 (xs : Array Value) (w : World) : (callFunc 93 xs).run Tryz.prog w = .ok (.enter 93 xs) w := Tryz.call93 xs w
theorem C94 (xs : Array Value) (w : World) : (callFunc 94 xs).run Tryz.prog w = .ok (.enter 94 xs) w := Tryz.call94 xs w
theorem C95 (xs : Array Value) (w : World) : (callFunc 95 xs).run Tryz.prog w = .ok (.enter 95 xs) w := Tryz.call95 xs w
theorem C96 (xs : Array Value) (w : World) : (callFunc 96 xs).run Tryz.prog w = .ok (.enter 96 xs) w := Tryz.call96 xs w
theorem C100 (xs : Array Value) (w : World) : (callFunc 100 xs).run Tryz.prog w = .ok (.enter 100 xs) w := Tryz.call100 xs w
theorem C101 (xs : Array Value) (w : World) : (callFunc 101 xs).run Tryz.prog w = .ok (.enter 101 xs) w := Tryz.call101 xs w
theorem C103 (xs : Array Value) (w : World) : (callFunc 103 xs).run Tryz.prog w = .ok (.enter 103 xs) w := Tryz.call103 xs w
theorem C104 (xs : Array Value) (w : World) : (callFunc 104 xs).run Tryz.prog w = .ok (.enter 104 xs) w := Tryz.call104 xs w
theorem C105 (xs : Array Value) (w : World) : (callFunc 105 xs).run Tryz.prog w = .ok (.enter 105 xs) w := Tryz.call105 xs w
theorem C106 (xs : Array Value) (w : World) : (callFunc 106 xs).run Tryz.prog w = .ok (.enter 106 xs) w := Tryz.call106 xs w
theorem C108 (xs : Array Value) (w : World) : (callFunc 108 xs).run Tryz.prog w = .ok (.enter 108 xs) w := Tryz.call108 xs w
theorem C109 (xs : Array Value) (w : World) : (callFunc 109 xs).run Tryz.prog w = .ok (.enter 109 xs) w := Tryz.call109 xs w
theorem C110 (xs : Array Value) (w : World) : (callFunc 110 xs).run Tryz.prog w = .ok (.enter 110 xs) w := Tryz.call110 xs w
theorem C112 (xs : Array Value) (w : World) : (callFunc 112 xs).run Tryz.prog w = .ok (.enter 112 xs) w := Tryz.call112 xs w
theorem C113 (xs : Array Value) (w : World) : (callFunc 113 xs).run Tryz.prog w = .ok (.enter 113 xs) w := Tryz.call113 xs w
theorem C114 (xs : Array Value) (w : World) : (callFunc 114 xs).run Tryz.prog w = .ok (.enter 114 xs) w := Tryz.call114 xs w
theorem C115 (xs : Array Value) (w : World) : (callFunc 115 xs).run Tryz.prog w = .ok (.enter 115 xs) w := Tryz.call115 xs w
theorem C116 (xs : Array Value) (w : World) : (callFunc 116 xs).run Tryz.prog w = .ok (.enter 116 xs) w := Tryz.call116 xs w
theorem C117 (xs : Array Value) (w : World) : (callFunc 117 xs).run Tryz.prog w = .ok (.enter 117 xs) w := Tryz.call117 xs w
theorem C130 (xs : Array Value) (w : World) : (callFunc 130 xs).run Tryz.prog w = .ok (.enter 130 xs) w := Tryz.call130 xs w
theorem C131 (xs : Array Value) (w : World) : (callFunc 131 xs).run Tryz.prog w = .ok (.enter 131 xs) w := Tryz.call131 xs w
theorem C132 (xs : Array Value) (w : World) : (callFunc 132 xs).run Tryz.prog w = .ok (.enter 132 xs) w := Tryz.call132 xs w
theorem C133 (xs : Array Value) (w : World) : (callFunc 133 xs).run Tryz.prog w = .ok (.enter 133 xs) w := Tryz.call133 xs w
theorem C134 (xs : Array Value) (w : World) : (callFunc 134 xs).run Tryz.prog w = .ok (.enter 134 xs) w := Tryz.call134 xs w
theorem C135 (xs : Array Value) (w : World) : (callFunc 135 xs).run Tryz.prog w = .ok (.enter 135 xs) w := Tryz.call135 xs w
theorem C138 (xs : Array Value) (w : World) : (callFunc 138 xs).run Tryz.prog w = .ok (.enter 138 xs) w := Tryz.call138 xs w
theorem C142 (xs : Array Value) (w : World) : (callFunc 142 xs).run Tryz.prog w = .ok (.enter 142 xs) w := Tryz.call142 xs w
theorem C143 (xs : Array Value) (w : World) : (callFunc 143 xs).run Tryz.prog w = .ok (.enter 143 xs) w := Tryz.call143 xs w
theorem C148 (xs : Array Value) (w : World) : (callFunc 148 xs).run Tryz.prog w = .ok (.enter 148 xs) w := Tryz.call148 xs w
theorem C152 (xs : Array Value) (w : World) : (callFunc 152 xs).run Tryz.prog w = .ok (.enter 152 xs) w := Tryz.call152 xs w
theorem C153 (xs : Array Value) (w : World) : (callFunc 153 xs).run Tryz.prog w = .ok (.enter 153 xs) w := Tryz.call153 xs w
theorem C154 (xs : Array Value) (w : World) : (callFunc 154 xs).run Tryz.prog w = .ok (.enter 154 xs) w := Tryz.call154 xs w
theorem C155 (xs : Array Value) (w : World) : (callFunc 155 xs).run Tryz.prog w = .ok (.enter 155 xs) w := Tryz.call155 xs w
theorem C156 (xs : Array Value) (w : World) : (callFunc 156 xs).run Tryz.prog w = .ok (.enter 156 xs) w := Tryz.call156 xs w
theorem C166 (xs : Array Value) (w : World) : (callFunc 166 xs).run Tryz.prog w = .ok (.enter 166 xs) w := Tryz.call166 xs w
theorem C167 (xs : Array Value) (w : World) : (callFunc 167 xs).run Tryz.prog w = .ok (.enter 167 xs) w := Tryz.call167 xs w
theorem C175 (xs : Array Value) (w : World) : (callFunc 175 xs).run Tryz.prog w = .ok (.enter 175 xs) w := Tryz.call175 xs w
theorem C178 (xs : Array Value) (w : World) : (callFunc 178 xs).run Tryz.prog w = .ok (.enter 178 xs) w := Tryz.call178 xs w
theorem C179 (xs : Array Value) (w : World) : (callFunc 179 xs).run Tryz.prog w = .ok (.enter 179 xs) w := Tryz.call179 xs w
theorem C180 (xs : Array Value) (w : World) : (callFunc 180 xs).run Tryz.prog w = .ok (.enter 180 xs) w := Tryz.call180 xs w
theorem C183 (xs : Array Value) (w : World) : (callFunc 183 xs).run Tryz.prog w = .ok (.enter 183 xs) w := Tryz.call183 xs w
theorem C197 (xs : Array Value) (w : World) : (callFunc 197 xs).run Tryz.prog w = .ok (.enter 197 xs) w := Tryz.call197 xs w
theorem J3 (w : World) : ∃ m, (sizeOf 3).run Tryz.prog w = .ok (m + 1) w := ⟨0, Tryz.sizeOf3 w⟩
theorem J4 (w : World) : ∃ m, (sizeOf 4).run Tryz.prog w = .ok (m + 1) w := ⟨0, Tryz.sizeOf4 w⟩
theorem J9 (w : World) : ∃ m, (sizeOf 9).run Tryz.prog w = .ok (m + 1) w := ⟨0, Tryz.sizeOf9 w⟩
theorem J23 (w : World) : ∃ m, (sizeOf 23).run Tryz.prog w = .ok (m + 1) w := ⟨2, Tryz.sizeOf23 w⟩
theorem J30 (w : World) : ∃ m, (sizeOf 30).run Tryz.prog w = .ok (m + 1) w := ⟨0, Tryz.sizeOf30 w⟩
theorem J31 (w : World) : ∃ m, (sizeOf 31).run Tryz.prog w = .ok (m + 1) w := ⟨0, Tryz.sizeOf31 w⟩
theorem J103 (w : World) : ∃ m, (sizeOf 103).run Tryz.prog w = .ok (m + 1) w := ⟨0, Tryz.sizeOf103 w⟩
theorem U3 : Tryz.prog.underlying 3 = some (.int .i64) := Tryz.underlying3
theorem U4 : Tryz.prog.underlying 4 = some (.bool) := Tryz.underlying4
theorem U5 : Tryz.prog.underlying 5 = some (.int .u8) := Tryz.underlying5
theorem U9 : Tryz.prog.underlying 9 = some (.string) := Tryz.underlying9
theorem U23 : Tryz.prog.underlying 23 = some (.struct #[⟨ "Act", 3, 0, false, "", "", 0⟩, ⟨ "Item", 3, 1, false, "", "", 8⟩, ⟨ "N", 3, 2, false, "", "", 16⟩]) := Tryz.underlying23
theorem U30 : Tryz.prog.underlying 30 = some (.slice 53) := Tryz.underlying30
theorem U31 : Tryz.prog.underlying 31 = some (.slice 33) := Tryz.underlying31
theorem U33 : Tryz.prog.underlying 33 = some (.struct #[⟨ "State", 3, 0, false, "", "", 0⟩, ⟨ "Kind", 3, 1, false, "", "", 8⟩, ⟨ "Id", 23, 2, false, "", "", 16⟩, ⟨ "Label", 9, 5, false, "", "", 40⟩, ⟨ "Was", 9, 6, false, "", "", 56⟩, ⟨ "Moved", 4, 7, false, "", "", 72⟩, ⟨ "Head", 30, 8, false, "", "", 80⟩, ⟨ "Words", 30, 9, false, "", "", 104⟩, ⟨ "Kids", 31, 10, false, "", "", 128⟩]) := Tryz.underlying33
theorem U38 : Tryz.prog.underlying 38 = some (.slice 9) := Tryz.underlying38
theorem U53 : Tryz.prog.underlying 53 = some (.struct #[⟨ "State", 3, 0, false, "", "", 0⟩, ⟨ "Text", 9, 1, false, "", "", 8⟩]) := Tryz.underlying53
theorem U83 : Tryz.prog.underlying 83 = some (.array 3 9) := Tryz.underlying83
theorem U103 : Tryz.prog.underlying 103 = some (.slice 5) := Tryz.underlying103
theorem U145 : Tryz.prog.underlying 145 = some (.array 8 9) := Tryz.underlying145
theorem U146 : Tryz.prog.underlying 146 = some (.pointer 5) := Tryz.underlying146
theorem U151 : Tryz.prog.underlying 151 = some (.array 256 4) := Tryz.underlying151
theorem U161 : Tryz.prog.underlying 161 = some (.slice 3) := Tryz.underlying161
theorem U202 : Tryz.prog.underlying 202 = some (.array 3 3) := Tryz.underlying202
theorem Y23 (w : World) : (isAgg 23).run Tryz.prog w = .ok true w := Tryz.isAgg23 w
theorem Y33 (w : World) : (isAgg 33).run Tryz.prog w = .ok true w := Tryz.isAgg33 w
theorem Y38 (w : World) : (isAgg 38).run Tryz.prog w = .ok false w := Tryz.isAgg38 w
theorem Y63 (w : World) : (isAgg 63).run Tryz.prog w = .ok false w := Tryz.isAgg63 w
theorem Y103 (w : World) : (isAgg 103).run Tryz.prog w = .ok false w := Tryz.isAgg103 w
theorem Y151 (w : World) : (isAgg 151).run Tryz.prog w = .ok true w := Tryz.isAgg151 w
theorem Z3 (w : World) : (sizeOf 3).run Tryz.prog w = .ok 1 w := Tryz.sizeOf3 w
theorem Z4 (w : World) : (sizeOf 4).run Tryz.prog w = .ok 1 w := Tryz.sizeOf4 w
theorem Z5 (w : World) : (sizeOf 5).run Tryz.prog w = .ok 1 w := Tryz.sizeOf5 w
theorem Z9 (w : World) : (sizeOf 9).run Tryz.prog w = .ok 1 w := Tryz.sizeOf9 w
theorem Z23 (w : World) : (sizeOf 23).run Tryz.prog w = .ok 3 w := Tryz.sizeOf23 w
theorem Z30 (w : World) : (sizeOf 30).run Tryz.prog w = .ok 1 w := Tryz.sizeOf30 w
theorem Z33 (w : World) : (sizeOf 33).run Tryz.prog w = .ok 11 w := Tryz.sizeOf33 w
theorem Z38 (w : World) : (sizeOf 38).run Tryz.prog w = .ok 1 w := Tryz.sizeOf38 w
theorem Z53 (w : World) : (sizeOf 53).run Tryz.prog w = .ok 2 w := Tryz.sizeOf53 w
theorem Z63 (w : World) : (sizeOf 63).run Tryz.prog w = .ok 1 w := Tryz.sizeOf63 w
theorem Z103 (w : World) : (sizeOf 103).run Tryz.prog w = .ok 1 w := Tryz.sizeOf103 w
theorem Z151 (w : World) : (sizeOf 151).run Tryz.prog w = .ok 256 w := Tryz.sizeOf151 w
end Go.Proofs.YtalogjkalmkpjaaGreatDoor
