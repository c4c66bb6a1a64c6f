/-
  How the types of the program are read.
-/
import Derived.Test.YtfclekegoleiaaaDoorDec23
import Derived.Test.YtfclekegoleiaaaDoorDec19
import Derived.Test.YtfclekegoleiaaaDoorDec24
import Derived.Test.YtfclekegoleiaaaDoorSh
import Derived.Test.YtfclekegoleiaaaDoorMdl
import Derived.Test.YtfclekegoleiaaaDoorProg
import Derived.KernelRfl
set_option maxRecDepth 100000
namespace Go.Proofs.YtfclekegoleiaaaDoor
open Go Go.Dec

theorem Tryd.mixed : Tryd.prog.follows .mixedOrders = true := by kernel_rfl

def tapi_Step : Ty api_Step := tMap (tP (tI .i64) (tOne tS)) (fun x : api_Step => (x.Kind, x.Label))
theorem fapi_Step_0 : Fld tapi_Step 0 (tI .i64) (fun x => x.Kind) := (Fld.map (m := (fun x : api_Step => (x.Kind, x.Label))) (Fld.here (tI .i64) (tOne tS))).cast rfl rfl
theorem sapi_Step_0 : FldSet tapi_Step 0 (tI .i64) (fun x y => { x with Kind := y }) := (FldSet.map (m := (fun x : api_Step => (x.Kind, x.Label))) (f' := fun x y => { x with Kind := y }) (FldSet.here (tI .i64) (tOne tS)) (fun _ _ => rfl)).cast rfl rfl
theorem fapi_Step_1 : Fld tapi_Step 1 tS (fun x => x.Label) := (Fld.map (m := (fun x : api_Step => (x.Kind, x.Label))) (Fld.next (s := (tI .i64)) (Fld.one tS))).cast rfl rfl
theorem sapi_Step_1 : FldSet tapi_Step 1 tS (fun x y => { x with Label := y }) := (FldSet.map (m := (fun x : api_Step => (x.Kind, x.Label))) (f' := fun x y => { x with Label := y }) (FldSet.next (s := (tI .i64)) (FldSet.one tS)) (fun _ _ => rfl)).cast rfl rfl
def zapi_Step_f (fd : Field) : Nat := if fd.type = 3 then 1 else if fd.type = 9 then 1 else 0
theorem zapi_Step_sz : ∀ fs, Tryd.prog.underlying 41 = some (.struct fs) → ∀ fd, fd ∈ fs → ∀ w, (sizeOf fd.type).run Tryd.prog w = .ok (zapi_Step_f fd) w := by
  intro fs h
  rw [Tryd.underlying41] at h
  cases h
  intro fd hfd w
  simp only [List.mem_toArray, List.mem_cons, List.not_mem_nil, or_false] at hfd
  rcases hfd with rfl | rfl
  · exact Tryd.sizeOf3 w
  · exact Tryd.sizeOf9 w

def tapi_Id : Ty api_Id := tMap (tP (tI .i64) (tP (tI .i64) (tOne (tI .i64)))) (fun x : api_Id => (x.Act, x.Item, x.N))
theorem fapi_Id_0 : Fld tapi_Id 0 (tI .i64) (fun x => x.Act) := (Fld.map (m := (fun x : api_Id => (x.Act, x.Item, x.N))) (Fld.here (tI .i64) (tP (tI .i64) (tOne (tI .i64))))).cast rfl rfl
theorem sapi_Id_0 : FldSet tapi_Id 0 (tI .i64) (fun x y => { x with Act := y }) := (FldSet.map (m := (fun x : api_Id => (x.Act, x.Item, x.N))) (f' := fun x y => { x with Act := y }) (FldSet.here (tI .i64) (tP (tI .i64) (tOne (tI .i64)))) (fun _ _ => rfl)).cast rfl rfl
theorem fapi_Id_1 : Fld tapi_Id 1 (tI .i64) (fun x => x.Item) := (Fld.map (m := (fun x : api_Id => (x.Act, x.Item, x.N))) (Fld.next (s := (tI .i64)) (Fld.here (tI .i64) (tOne (tI .i64))))).cast rfl rfl
theorem sapi_Id_1 : FldSet tapi_Id 1 (tI .i64) (fun x y => { x with Item := y }) := (FldSet.map (m := (fun x : api_Id => (x.Act, x.Item, x.N))) (f' := fun x y => { x with Item := y }) (FldSet.next (s := (tI .i64)) (FldSet.here (tI .i64) (tOne (tI .i64)))) (fun _ _ => rfl)).cast rfl rfl
theorem fapi_Id_2 : Fld tapi_Id 2 (tI .i64) (fun x => x.N) := (Fld.map (m := (fun x : api_Id => (x.Act, x.Item, x.N))) (Fld.next (s := (tI .i64)) (Fld.next (s := (tI .i64)) (Fld.one (tI .i64))))).cast rfl rfl
theorem sapi_Id_2 : FldSet tapi_Id 2 (tI .i64) (fun x y => { x with N := y }) := (FldSet.map (m := (fun x : api_Id => (x.Act, x.Item, x.N))) (f' := fun x y => { x with N := y }) (FldSet.next (s := (tI .i64)) (FldSet.next (s := (tI .i64)) (FldSet.one (tI .i64)))) (fun _ _ => rfl)).cast rfl rfl
def zapi_Id_f (fd : Field) : Nat := if fd.type = 3 then 1 else 0
theorem zapi_Id_sz : ∀ fs, Tryd.prog.underlying 23 = some (.struct fs) → ∀ fd, fd ∈ fs → ∀ w, (sizeOf fd.type).run Tryd.prog w = .ok (zapi_Id_f fd) w := by
  intro fs h
  rw [Tryd.underlying23] at h
  cases h
  intro fd hfd w
  simp only [List.mem_toArray, List.mem_cons, List.not_mem_nil, or_false] at hfd
  rcases hfd with rfl | rfl | rfl
  · exact Tryd.sizeOf3 w
  · exact Tryd.sizeOf3 w
  · exact Tryd.sizeOf3 w

def tapi_Mark : Ty api_Mark := tMap (tP (tI .i64) (tP (tI .i64) (tOne (tI .i64)))) (fun x : api_Mark => (x.Act, x.Item, x.At))
theorem fapi_Mark_0 : Fld tapi_Mark 0 (tI .i64) (fun x => x.Act) := (Fld.map (m := (fun x : api_Mark => (x.Act, x.Item, x.At))) (Fld.here (tI .i64) (tP (tI .i64) (tOne (tI .i64))))).cast rfl rfl
theorem sapi_Mark_0 : FldSet tapi_Mark 0 (tI .i64) (fun x y => { x with Act := y }) := (FldSet.map (m := (fun x : api_Mark => (x.Act, x.Item, x.At))) (f' := fun x y => { x with Act := y }) (FldSet.here (tI .i64) (tP (tI .i64) (tOne (tI .i64)))) (fun _ _ => rfl)).cast rfl rfl
theorem fapi_Mark_1 : Fld tapi_Mark 1 (tI .i64) (fun x => x.Item) := (Fld.map (m := (fun x : api_Mark => (x.Act, x.Item, x.At))) (Fld.next (s := (tI .i64)) (Fld.here (tI .i64) (tOne (tI .i64))))).cast rfl rfl
theorem sapi_Mark_1 : FldSet tapi_Mark 1 (tI .i64) (fun x y => { x with Item := y }) := (FldSet.map (m := (fun x : api_Mark => (x.Act, x.Item, x.At))) (f' := fun x y => { x with Item := y }) (FldSet.next (s := (tI .i64)) (FldSet.here (tI .i64) (tOne (tI .i64)))) (fun _ _ => rfl)).cast rfl rfl
theorem fapi_Mark_2 : Fld tapi_Mark 2 (tI .i64) (fun x => x.At) := (Fld.map (m := (fun x : api_Mark => (x.Act, x.Item, x.At))) (Fld.next (s := (tI .i64)) (Fld.next (s := (tI .i64)) (Fld.one (tI .i64))))).cast rfl rfl
theorem sapi_Mark_2 : FldSet tapi_Mark 2 (tI .i64) (fun x y => { x with At := y }) := (FldSet.map (m := (fun x : api_Mark => (x.Act, x.Item, x.At))) (f' := fun x y => { x with At := y }) (FldSet.next (s := (tI .i64)) (FldSet.next (s := (tI .i64)) (FldSet.one (tI .i64)))) (fun _ _ => rfl)).cast rfl rfl
def zapi_Mark_f (fd : Field) : Nat := if fd.type = 3 then 1 else 0
theorem zapi_Mark_sz : ∀ fs, Tryd.prog.underlying 90 = some (.struct fs) → ∀ fd, fd ∈ fs → ∀ w, (sizeOf fd.type).run Tryd.prog w = .ok (zapi_Mark_f fd) w := by
  intro fs h
  rw [Tryd.underlying90] at h
  cases h
  intro fd hfd w
  simp only [List.mem_toArray, List.mem_cons, List.not_mem_nil, or_false] at hfd
  rcases hfd with rfl | rfl | rfl
  · exact Tryd.sizeOf3 w
  · exact Tryd.sizeOf3 w
  · exact Tryd.sizeOf3 w

def tapi_Word : Ty api_Word := tMap (tP tS (tOne tapi_Mark)) (fun x : api_Word => (x.Text, x.By))
theorem fapi_Word_0 : Fld tapi_Word 0 tS (fun x => x.Text) := (Fld.map (m := (fun x : api_Word => (x.Text, x.By))) (Fld.here tS (tOne tapi_Mark))).cast rfl rfl
theorem sapi_Word_0 : FldSet tapi_Word 0 tS (fun x y => { x with Text := y }) := (FldSet.map (m := (fun x : api_Word => (x.Text, x.By))) (f' := fun x y => { x with Text := y }) (FldSet.here tS (tOne tapi_Mark)) (fun _ _ => rfl)).cast rfl rfl
theorem fapi_Word_1 : Fld tapi_Word 1 tapi_Mark (fun x => x.By) := (Fld.map (m := (fun x : api_Word => (x.Text, x.By))) (Fld.next (s := tS) (Fld.one tapi_Mark))).cast rfl rfl
theorem sapi_Word_1 : FldSet tapi_Word 1 tapi_Mark (fun x y => { x with By := y }) := (FldSet.map (m := (fun x : api_Word => (x.Text, x.By))) (f' := fun x y => { x with By := y }) (FldSet.next (s := tS) (FldSet.one tapi_Mark)) (fun _ _ => rfl)).cast rfl rfl
def zapi_Word_f (fd : Field) : Nat := if fd.type = 9 then 1 else if fd.type = 90 then 3 else 0
theorem zapi_Word_sz : ∀ fs, Tryd.prog.underlying 92 = some (.struct fs) → ∀ fd, fd ∈ fs → ∀ w, (sizeOf fd.type).run Tryd.prog w = .ok (zapi_Word_f fd) w := by
  intro fs h
  rw [Tryd.underlying92] at h
  cases h
  intro fd hfd w
  simp only [List.mem_toArray, List.mem_cons, List.not_mem_nil, or_false] at hfd
  rcases hfd with rfl | rfl
  · exact Tryd.sizeOf9 w
  · exact Tryd.sizeOf90 w

def Fapi_Unit (X : Ty api_Unit) : Ty api_Unit := tMap (tP tapi_Id (tP (tI .i64) (tP tS (tP (tL tapi_Word) (tP (tL tapi_Word) (tOne (tL X))))))) (fun x : api_Unit => (x.Id, x.Kind, x.Label, x.Head, x.Words, x.Kids))
theorem capi_Unit : Cont Fapi_Unit := Cont.map (fun x : api_Unit => (x.Id, x.Kind, x.Label, x.Head, x.Words, x.Kids)) (Cont.pair (Cont.const _) (Cont.pair (Cont.const _) (Cont.pair (Cont.const _) (Cont.pair (Cont.const _) (Cont.pair (Cont.const _) (Cont.one ((Cont.list Cont.id))))))))
theorem rapi_Unit : Rec Fapi_Unit 8 := ⟨capi_Unit, rfl, rfl⟩
def tapi_Unit : Ty api_Unit := tFix rapi_Unit
theorem fapi_Unit_0 : Fld tapi_Unit 0 tapi_Id (fun x => x.Id) := Fld.le rapi_Unit.out ((Fld.map (m := (fun x : api_Unit => (x.Id, x.Kind, x.Label, x.Head, x.Words, x.Kids))) (Fld.here tapi_Id (tP (tI .i64) (tP tS (tP (tL tapi_Word) (tP (tL tapi_Word) (tOne (tL tapi_Unit)))))))).cast rfl rfl)
theorem sapi_Unit_0 : FldSet tapi_Unit 0 tapi_Id (fun x y => { x with Id := y }) := FldSet.le rapi_Unit.out rapi_Unit.into ((FldSet.map (m := (fun x : api_Unit => (x.Id, x.Kind, x.Label, x.Head, x.Words, x.Kids))) (f' := fun x y => { x with Id := y }) (FldSet.here tapi_Id (tP (tI .i64) (tP tS (tP (tL tapi_Word) (tP (tL tapi_Word) (tOne (tL tapi_Unit))))))) (fun _ _ => rfl)).cast rfl rfl)
theorem fapi_Unit_1 : Fld tapi_Unit 3 (tI .i64) (fun x => x.Kind) := Fld.le rapi_Unit.out ((Fld.map (m := (fun x : api_Unit => (x.Id, x.Kind, x.Label, x.Head, x.Words, x.Kids))) (Fld.next (s := tapi_Id) (Fld.here (tI .i64) (tP tS (tP (tL tapi_Word) (tP (tL tapi_Word) (tOne (tL tapi_Unit)))))))).cast rfl rfl)
theorem sapi_Unit_1 : FldSet tapi_Unit 3 (tI .i64) (fun x y => { x with Kind := y }) := FldSet.le rapi_Unit.out rapi_Unit.into ((FldSet.map (m := (fun x : api_Unit => (x.Id, x.Kind, x.Label, x.Head, x.Words, x.Kids))) (f' := fun x y => { x with Kind := y }) (FldSet.next (s := tapi_Id) (FldSet.here (tI .i64) (tP tS (tP (tL tapi_Word) (tP (tL tapi_Word) (tOne (tL tapi_Unit))))))) (fun _ _ => rfl)).cast rfl rfl)
theorem fapi_Unit_2 : Fld tapi_Unit 4 tS (fun x => x.Label) := Fld.le rapi_Unit.out ((Fld.map (m := (fun x : api_Unit => (x.Id, x.Kind, x.Label, x.Head, x.Words, x.Kids))) (Fld.next (s := tapi_Id) (Fld.next (s := (tI .i64)) (Fld.here tS (tP (tL tapi_Word) (tP (tL tapi_Word) (tOne (tL tapi_Unit)))))))).cast rfl rfl)
theorem sapi_Unit_2 : FldSet tapi_Unit 4 tS (fun x y => { x with Label := y }) := FldSet.le rapi_Unit.out rapi_Unit.into ((FldSet.map (m := (fun x : api_Unit => (x.Id, x.Kind, x.Label, x.Head, x.Words, x.Kids))) (f' := fun x y => { x with Label := y }) (FldSet.next (s := tapi_Id) (FldSet.next (s := (tI .i64)) (FldSet.here tS (tP (tL tapi_Word) (tP (tL tapi_Word) (tOne (tL tapi_Unit))))))) (fun _ _ => rfl)).cast rfl rfl)
theorem fapi_Unit_3 : Fld tapi_Unit 5 (tL tapi_Word) (fun x => x.Head) := Fld.le rapi_Unit.out ((Fld.map (m := (fun x : api_Unit => (x.Id, x.Kind, x.Label, x.Head, x.Words, x.Kids))) (Fld.next (s := tapi_Id) (Fld.next (s := (tI .i64)) (Fld.next (s := tS) (Fld.here (tL tapi_Word) (tP (tL tapi_Word) (tOne (tL tapi_Unit)))))))).cast rfl rfl)
theorem sapi_Unit_3 : FldSet tapi_Unit 5 (tL tapi_Word) (fun x y => { x with Head := y }) := FldSet.le rapi_Unit.out rapi_Unit.into ((FldSet.map (m := (fun x : api_Unit => (x.Id, x.Kind, x.Label, x.Head, x.Words, x.Kids))) (f' := fun x y => { x with Head := y }) (FldSet.next (s := tapi_Id) (FldSet.next (s := (tI .i64)) (FldSet.next (s := tS) (FldSet.here (tL tapi_Word) (tP (tL tapi_Word) (tOne (tL tapi_Unit))))))) (fun _ _ => rfl)).cast rfl rfl)
theorem fapi_Unit_4 : Fld tapi_Unit 6 (tL tapi_Word) (fun x => x.Words) := Fld.le rapi_Unit.out ((Fld.map (m := (fun x : api_Unit => (x.Id, x.Kind, x.Label, x.Head, x.Words, x.Kids))) (Fld.next (s := tapi_Id) (Fld.next (s := (tI .i64)) (Fld.next (s := tS) (Fld.next (s := (tL tapi_Word)) (Fld.here (tL tapi_Word) (tOne (tL tapi_Unit)))))))).cast rfl rfl)
theorem sapi_Unit_4 : FldSet tapi_Unit 6 (tL tapi_Word) (fun x y => { x with Words := y }) := FldSet.le rapi_Unit.out rapi_Unit.into ((FldSet.map (m := (fun x : api_Unit => (x.Id, x.Kind, x.Label, x.Head, x.Words, x.Kids))) (f' := fun x y => { x with Words := y }) (FldSet.next (s := tapi_Id) (FldSet.next (s := (tI .i64)) (FldSet.next (s := tS) (FldSet.next (s := (tL tapi_Word)) (FldSet.here (tL tapi_Word) (tOne (tL tapi_Unit))))))) (fun _ _ => rfl)).cast rfl rfl)
theorem fapi_Unit_5 : Fld tapi_Unit 7 (tL tapi_Unit) (fun x => x.Kids) := Fld.le rapi_Unit.out ((Fld.map (m := (fun x : api_Unit => (x.Id, x.Kind, x.Label, x.Head, x.Words, x.Kids))) (Fld.next (s := tapi_Id) (Fld.next (s := (tI .i64)) (Fld.next (s := tS) (Fld.next (s := (tL tapi_Word)) (Fld.next (s := (tL tapi_Word)) (Fld.one (tL tapi_Unit)))))))).cast rfl rfl)
theorem sapi_Unit_5 : FldSet tapi_Unit 7 (tL tapi_Unit) (fun x y => { x with Kids := y }) := FldSet.le rapi_Unit.out rapi_Unit.into ((FldSet.map (m := (fun x : api_Unit => (x.Id, x.Kind, x.Label, x.Head, x.Words, x.Kids))) (f' := fun x y => { x with Kids := y }) (FldSet.next (s := tapi_Id) (FldSet.next (s := (tI .i64)) (FldSet.next (s := tS) (FldSet.next (s := (tL tapi_Word)) (FldSet.next (s := (tL tapi_Word)) (FldSet.one (tL tapi_Unit))))))) (fun _ _ => rfl)).cast rfl rfl)
def zapi_Unit_f (fd : Field) : Nat := if fd.type = 3 then 1 else if fd.type = 9 then 1 else if fd.type = 23 then 3 else if fd.type = 24 then 1 else if fd.type = 25 then 1 else 0
theorem zapi_Unit_sz : ∀ fs, Tryd.prog.underlying 27 = some (.struct fs) → ∀ fd, fd ∈ fs → ∀ w, (sizeOf fd.type).run Tryd.prog w = .ok (zapi_Unit_f fd) w := by
  intro fs h
  rw [Tryd.underlying27] at h
  cases h
  intro fd hfd w
  simp only [List.mem_toArray, List.mem_cons, List.not_mem_nil, or_false] at hfd
  rcases hfd with rfl | rfl | rfl | rfl | rfl | rfl
  · exact Tryd.sizeOf23 w
  · exact Tryd.sizeOf3 w
  · exact Tryd.sizeOf9 w
  · exact Tryd.sizeOf24 w
  · exact Tryd.sizeOf24 w
  · exact Tryd.sizeOf25 w


theorem ty3 : TyAt Tryd.prog 3 (tI .i64) := ⟨Tryd.isAgg3, Tryd.sizeOf3⟩
theorem el3 : ElAt Tryd.prog 3 (tI .i64) := ⟨⟨Tryd.t3, _, Tryd.type3, rfl, rfl, by decide, rfl⟩, by decide⟩
theorem ze3 : ZeroAt Tryd.prog 3 (tI .i64) (0 : Int) := ⟨_, Tryd.zeroValue3, fun _ => ⟨_, ⟨rfl, inR64.2 ⟨by decide, by decide⟩⟩, rfl⟩⟩
theorem ty5 : TyAt Tryd.prog 5 (tI .u8) := ⟨Tryd.isAgg5, Tryd.sizeOf5⟩
theorem el5 : ElAt Tryd.prog 5 (tI .u8) := ⟨⟨Tryd.t5, _, Tryd.type5, rfl, rfl, by decide, rfl⟩, by decide⟩
theorem ze5 : ZeroAt Tryd.prog 5 (tI .u8) (0 : Int) := ⟨_, Tryd.zeroValue5, fun _ => ⟨_, ⟨rfl, by decide⟩, rfl⟩⟩
theorem ty9 : TyAt Tryd.prog 9 tS := ⟨Tryd.isAgg9, Tryd.sizeOf9⟩
theorem el9 : ElAt Tryd.prog 9 tS := ⟨⟨Tryd.t9, _, Tryd.type9, rfl, rfl, by decide, rfl⟩, by decide⟩
theorem ze9 : ZeroAt Tryd.prog 9 tS ([] : Str) := ⟨_, Tryd.zeroValue9, fun _ => ⟨_, ⟨rfl, by decide⟩, rfl⟩⟩
theorem ty23 : TyAt Tryd.prog 23 tapi_Id := ⟨Tryd.isAgg23, Tryd.sizeOf23⟩
theorem el23 : ElAt Tryd.prog 23 tapi_Id := ⟨⟨Tryd.t23, _, Tryd.type23, rfl, rfl, by decide, rfl⟩, by decide⟩
theorem ze23 : ZeroAt Tryd.prog 23 tapi_Id zapi_Id := ⟨_, Tryd.zeroValue23, fun _ => ⟨_, ⟨_, _, rfl, ⟨rfl, inR64.2 ⟨by decide, by decide⟩⟩, ⟨_, _, rfl, ⟨rfl, inR64.2 ⟨by decide, by decide⟩⟩, ⟨rfl, inR64.2 ⟨by decide, by decide⟩⟩⟩⟩, rfl⟩⟩
theorem ty24 : TyAt Tryd.prog 24 (tL tapi_Word) := ⟨Tryd.isAgg24, Tryd.sizeOf24⟩
theorem el24 : ElAt Tryd.prog 24 (tL tapi_Word) := ⟨⟨Tryd.t24, _, Tryd.type24, rfl, rfl, by decide, rfl⟩, by decide⟩
theorem ze24 : ZeroAt Tryd.prog 24 (tL tapi_Word) ([] : List api_Word) := ⟨_, Tryd.zeroValue24, fun _ => ⟨_, ⟨none, 0, rfl, Nat.le_refl _, Nat.zero_le _, fun _ => rfl, rfl⟩, rfl⟩⟩
theorem ty25 : TyAt Tryd.prog 25 (tL tapi_Unit) := ⟨Tryd.isAgg25, Tryd.sizeOf25⟩
theorem el25 : ElAt Tryd.prog 25 (tL tapi_Unit) := ⟨⟨Tryd.t25, _, Tryd.type25, rfl, rfl, by decide, rfl⟩, by decide⟩
theorem ze25 : ZeroAt Tryd.prog 25 (tL tapi_Unit) ([] : List api_Unit) := ⟨_, Tryd.zeroValue25, fun _ => ⟨_, ⟨none, 0, rfl, Nat.le_refl _, Nat.zero_le _, fun _ => rfl, rfl⟩, rfl⟩⟩
theorem ty27 : TyAt Tryd.prog 27 tapi_Unit := ⟨Tryd.isAgg27, Tryd.sizeOf27⟩
theorem el27 : ElAt Tryd.prog 27 tapi_Unit := ⟨⟨Tryd.t27, _, Tryd.type27, rfl, rfl, by decide, rfl⟩, by decide⟩
theorem ze27 : ZeroAt Tryd.prog 27 tapi_Unit zapi_Unit := ⟨_, Tryd.zeroValue27, fun _ => ⟨_, (rapi_Unit.into.rep _ _ _ ⟨_, _, rfl, ⟨_, _, rfl, ⟨rfl, inR64.2 ⟨by decide, by decide⟩⟩, ⟨_, _, rfl, ⟨rfl, inR64.2 ⟨by decide, by decide⟩⟩, ⟨rfl, inR64.2 ⟨by decide, by decide⟩⟩⟩⟩, ⟨_, _, rfl, ⟨rfl, inR64.2 ⟨by decide, by decide⟩⟩, ⟨_, _, rfl, ⟨rfl, by decide⟩, ⟨_, _, rfl, ⟨none, 0, rfl, Nat.le_refl _, Nat.zero_le _, fun _ => rfl, rfl⟩, ⟨_, _, rfl, ⟨none, 0, rfl, Nat.le_refl _, Nat.zero_le _, fun _ => rfl, rfl⟩, ⟨none, 0, rfl, Nat.le_refl _, Nat.zero_le _, fun _ => rfl, rfl⟩⟩⟩⟩⟩⟩), rfl⟩⟩
theorem ty33 : TyAt Tryd.prog 33 (tL tapi_Step) := ⟨Tryd.isAgg33, Tryd.sizeOf33⟩
theorem el33 : ElAt Tryd.prog 33 (tL tapi_Step) := ⟨⟨Tryd.t33, _, Tryd.type33, rfl, rfl, by decide, rfl⟩, by decide⟩
theorem ze33 : ZeroAt Tryd.prog 33 (tL tapi_Step) ([] : List api_Step) := ⟨_, Tryd.zeroValue33, fun _ => ⟨_, ⟨none, 0, rfl, Nat.le_refl _, Nat.zero_le _, fun _ => rfl, rfl⟩, rfl⟩⟩
theorem ty41 : TyAt Tryd.prog 41 tapi_Step := ⟨Tryd.isAgg41, Tryd.sizeOf41⟩
theorem el41 : ElAt Tryd.prog 41 tapi_Step := ⟨⟨Tryd.t41, _, Tryd.type41, rfl, rfl, by decide, rfl⟩, by decide⟩
theorem ze41 : ZeroAt Tryd.prog 41 tapi_Step zapi_Step := ⟨_, Tryd.zeroValue41, fun _ => ⟨_, ⟨_, _, rfl, ⟨rfl, inR64.2 ⟨by decide, by decide⟩⟩, ⟨rfl, by decide⟩⟩, rfl⟩⟩
theorem ty90 : TyAt Tryd.prog 90 tapi_Mark := ⟨Tryd.isAgg90, Tryd.sizeOf90⟩
theorem el90 : ElAt Tryd.prog 90 tapi_Mark := ⟨⟨Tryd.t90, _, Tryd.type90, rfl, rfl, by decide, rfl⟩, by decide⟩
theorem ze90 : ZeroAt Tryd.prog 90 tapi_Mark zapi_Mark := ⟨_, Tryd.zeroValue90, fun _ => ⟨_, ⟨_, _, rfl, ⟨rfl, inR64.2 ⟨by decide, by decide⟩⟩, ⟨_, _, rfl, ⟨rfl, inR64.2 ⟨by decide, by decide⟩⟩, ⟨rfl, inR64.2 ⟨by decide, by decide⟩⟩⟩⟩, rfl⟩⟩
theorem ty92 : TyAt Tryd.prog 92 tapi_Word := ⟨Tryd.isAgg92, Tryd.sizeOf92⟩
theorem el92 : ElAt Tryd.prog 92 tapi_Word := ⟨⟨Tryd.t92, _, Tryd.type92, rfl, rfl, by decide, rfl⟩, by decide⟩
theorem ze92 : ZeroAt Tryd.prog 92 tapi_Word zapi_Word := ⟨_, Tryd.zeroValue92, fun _ => ⟨_, ⟨_, _, rfl, ⟨rfl, by decide⟩, ⟨_, _, rfl, ⟨rfl, inR64.2 ⟨by decide, by decide⟩⟩, ⟨_, _, rfl, ⟨rfl, inR64.2 ⟨by decide, by decide⟩⟩, ⟨rfl, inR64.2 ⟨by decide, by decide⟩⟩⟩⟩⟩, rfl⟩⟩
theorem ty93 : TyAt Tryd.prog 93 (tA 8 tS) := ⟨Tryd.isAgg93, Tryd.sizeOf93⟩
theorem ze93 : ZeroAt Tryd.prog 93 (tA 8 tS) (List.replicate 8 ([] : Str)) := ZeroAt.array ze9 Tryd.zeroValue9 Tryd.zeroValue93 rfl default
theorem eq23 : EqT (α := api_Id) (P := Tryd.prog) (T := 23) (t := tapi_Id) (D := 2) := EqT.struct (D := 1) rfl Tryd.underlying23 (by kernel_rfl) ⟨_, inferInstance, _, _, _, by decide, ty3, fapi_Id_0, ((EqT.int Tryd.underlying3).up (by decide)), ⟨_, inferInstance, _, _, _, by decide, ty3, fapi_Id_1, ((EqT.int Tryd.underlying3).up (by decide)), ⟨_, inferInstance, _, _, _, by decide, ty3, fapi_Id_2, ((EqT.int Tryd.underlying3).up (by decide)), rfl, rfl⟩, rfl⟩, rfl⟩ (fun x y => by cases x; cases y; simp)
theorem eg23 : Tryd.prog.eqGuardType Tryd.prog.depth 23 = false := by kernel_rfl
theorem eq41 : EqT (α := api_Step) (P := Tryd.prog) (T := 41) (t := tapi_Step) (D := 2) := EqT.struct (D := 1) rfl Tryd.underlying41 (by kernel_rfl) ⟨_, inferInstance, _, _, _, by decide, ty3, fapi_Step_0, ((EqT.int Tryd.underlying3).up (by decide)), ⟨_, inferInstance, _, _, _, by decide, ty9, fapi_Step_1, ((EqT.string Tryd.underlying9).up (by decide)), rfl, rfl⟩, rfl⟩ (fun x y => by cases x; cases y; simp)
theorem eg41 : Tryd.prog.eqGuardType Tryd.prog.depth 41 = false := by kernel_rfl

end Go.Proofs.YtfclekegoleiaaaDoor
