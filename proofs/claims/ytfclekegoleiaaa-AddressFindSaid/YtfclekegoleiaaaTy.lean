/-
  How the types of the program are read.
-/
import Derived.Test.YtfclekegoleiaaaDec19
import Derived.Test.YtfclekegoleiaaaMdl
import Derived.Test.YtfclekegoleiaaaProg
import Derived.KernelRfl
set_option maxRecDepth 100000
namespace Go.Proofs.Ytfclekegoleiaaa
open Go Go.Dec

theorem Try.mixed : Try.prog.follows .mixedOrders = true := by kernel_rfl

def tapi_Id : Ty api_Id := tMap (tP (tI .i64) (tP (tI .i64) (tOne (tI .i64)))) (fun x : api_Id => (x.Act, x.Item, x.N))
theorem fapi_Id_0 : Fld tapi_Id 0 (tI .i64) (fun x => x.Act) := (Fld.map (m := (fun x : api_Id => (x.Act, x.Item, x.N))) (Fld.here (tI .i64) (tP (tI .i64) (tOne (tI .i64))))).cast rfl rfl
theorem sapi_Id_0 : FldSet tapi_Id 0 (tI .i64) (fun x y => { x with Act := y }) := (FldSet.map (m := (fun x : api_Id => (x.Act, x.Item, x.N))) (f' := fun x y => { x with Act := y }) (FldSet.here (tI .i64) (tP (tI .i64) (tOne (tI .i64)))) (fun _ _ => rfl)).cast rfl rfl
theorem fapi_Id_1 : Fld tapi_Id 1 (tI .i64) (fun x => x.Item) := (Fld.map (m := (fun x : api_Id => (x.Act, x.Item, x.N))) (Fld.next (s := (tI .i64)) (Fld.here (tI .i64) (tOne (tI .i64))))).cast rfl rfl
theorem sapi_Id_1 : FldSet tapi_Id 1 (tI .i64) (fun x y => { x with Item := y }) := (FldSet.map (m := (fun x : api_Id => (x.Act, x.Item, x.N))) (f' := fun x y => { x with Item := y }) (FldSet.next (s := (tI .i64)) (FldSet.here (tI .i64) (tOne (tI .i64)))) (fun _ _ => rfl)).cast rfl rfl
theorem fapi_Id_2 : Fld tapi_Id 2 (tI .i64) (fun x => x.N) := (Fld.map (m := (fun x : api_Id => (x.Act, x.Item, x.N))) (Fld.next (s := (tI .i64)) (Fld.next (s := (tI .i64)) (Fld.one (tI .i64))))).cast rfl rfl
theorem sapi_Id_2 : FldSet tapi_Id 2 (tI .i64) (fun x y => { x with N := y }) := (FldSet.map (m := (fun x : api_Id => (x.Act, x.Item, x.N))) (f' := fun x y => { x with N := y }) (FldSet.next (s := (tI .i64)) (FldSet.next (s := (tI .i64)) (FldSet.one (tI .i64)))) (fun _ _ => rfl)).cast rfl rfl
def zapi_Id_f (fd : Field) : Nat := if fd.type = 3 then 1 else 0
theorem zapi_Id_sz : ∀ fs, Try.prog.underlying 23 = some (.struct fs) → ∀ fd, fd ∈ fs → ∀ w, (sizeOf fd.type).run Try.prog w = .ok (zapi_Id_f fd) w := by
  intro fs h
  rw [Try.underlying23] at h
  cases h
  intro fd hfd w
  simp only [List.mem_toArray, List.mem_cons, List.not_mem_nil, or_false] at hfd
  rcases hfd with rfl | rfl | rfl
  · exact Try.sizeOf3 w
  · exact Try.sizeOf3 w
  · exact Try.sizeOf3 w

def tapi_Mark : Ty api_Mark := tMap (tP (tI .i64) (tP (tI .i64) (tOne (tI .i64)))) (fun x : api_Mark => (x.Act, x.Item, x.At))
theorem fapi_Mark_0 : Fld tapi_Mark 0 (tI .i64) (fun x => x.Act) := (Fld.map (m := (fun x : api_Mark => (x.Act, x.Item, x.At))) (Fld.here (tI .i64) (tP (tI .i64) (tOne (tI .i64))))).cast rfl rfl
theorem sapi_Mark_0 : FldSet tapi_Mark 0 (tI .i64) (fun x y => { x with Act := y }) := (FldSet.map (m := (fun x : api_Mark => (x.Act, x.Item, x.At))) (f' := fun x y => { x with Act := y }) (FldSet.here (tI .i64) (tP (tI .i64) (tOne (tI .i64)))) (fun _ _ => rfl)).cast rfl rfl
theorem fapi_Mark_1 : Fld tapi_Mark 1 (tI .i64) (fun x => x.Item) := (Fld.map (m := (fun x : api_Mark => (x.Act, x.Item, x.At))) (Fld.next (s := (tI .i64)) (Fld.here (tI .i64) (tOne (tI .i64))))).cast rfl rfl
theorem sapi_Mark_1 : FldSet tapi_Mark 1 (tI .i64) (fun x y => { x with Item := y }) := (FldSet.map (m := (fun x : api_Mark => (x.Act, x.Item, x.At))) (f' := fun x y => { x with Item := y }) (FldSet.next (s := (tI .i64)) (FldSet.here (tI .i64) (tOne (tI .i64)))) (fun _ _ => rfl)).cast rfl rfl
theorem fapi_Mark_2 : Fld tapi_Mark 2 (tI .i64) (fun x => x.At) := (Fld.map (m := (fun x : api_Mark => (x.Act, x.Item, x.At))) (Fld.next (s := (tI .i64)) (Fld.next (s := (tI .i64)) (Fld.one (tI .i64))))).cast rfl rfl
theorem sapi_Mark_2 : FldSet tapi_Mark 2 (tI .i64) (fun x y => { x with At := y }) := (FldSet.map (m := (fun x : api_Mark => (x.Act, x.Item, x.At))) (f' := fun x y => { x with At := y }) (FldSet.next (s := (tI .i64)) (FldSet.next (s := (tI .i64)) (FldSet.one (tI .i64)))) (fun _ _ => rfl)).cast rfl rfl
def zapi_Mark_f (fd : Field) : Nat := if fd.type = 3 then 1 else 0
theorem zapi_Mark_sz : ∀ fs, Try.prog.underlying 109 = some (.struct fs) → ∀ fd, fd ∈ fs → ∀ w, (sizeOf fd.type).run Try.prog w = .ok (zapi_Mark_f fd) w := by
  intro fs h
  rw [Try.underlying109] at h
  cases h
  intro fd hfd w
  simp only [List.mem_toArray, List.mem_cons, List.not_mem_nil, or_false] at hfd
  rcases hfd with rfl | rfl | rfl
  · exact Try.sizeOf3 w
  · exact Try.sizeOf3 w
  · exact Try.sizeOf3 w

def tapi_Word : Ty api_Word := tMap (tP tS (tOne tapi_Mark)) (fun x : api_Word => (x.Text, x.By))
theorem fapi_Word_0 : Fld tapi_Word 0 tS (fun x => x.Text) := (Fld.map (m := (fun x : api_Word => (x.Text, x.By))) (Fld.here tS (tOne tapi_Mark))).cast rfl rfl
theorem sapi_Word_0 : FldSet tapi_Word 0 tS (fun x y => { x with Text := y }) := (FldSet.map (m := (fun x : api_Word => (x.Text, x.By))) (f' := fun x y => { x with Text := y }) (FldSet.here tS (tOne tapi_Mark)) (fun _ _ => rfl)).cast rfl rfl
theorem fapi_Word_1 : Fld tapi_Word 1 tapi_Mark (fun x => x.By) := (Fld.map (m := (fun x : api_Word => (x.Text, x.By))) (Fld.next (s := tS) (Fld.one tapi_Mark))).cast rfl rfl
theorem sapi_Word_1 : FldSet tapi_Word 1 tapi_Mark (fun x y => { x with By := y }) := (FldSet.map (m := (fun x : api_Word => (x.Text, x.By))) (f' := fun x y => { x with By := y }) (FldSet.next (s := tS) (FldSet.one tapi_Mark)) (fun _ _ => rfl)).cast rfl rfl
def zapi_Word_f (fd : Field) : Nat := if fd.type = 9 then 1 else if fd.type = 109 then 3 else 0
theorem zapi_Word_sz : ∀ fs, Try.prog.underlying 111 = some (.struct fs) → ∀ fd, fd ∈ fs → ∀ w, (sizeOf fd.type).run Try.prog w = .ok (zapi_Word_f fd) w := by
  intro fs h
  rw [Try.underlying111] at h
  cases h
  intro fd hfd w
  simp only [List.mem_toArray, List.mem_cons, List.not_mem_nil, or_false] at hfd
  rcases hfd with rfl | rfl
  · exact Try.sizeOf9 w
  · exact Try.sizeOf109 w

def Fapi_Unit (X : Ty api_Unit) : Ty api_Unit := tMap (tP tapi_Id (tP (tI .i64) (tP tS (tP (tL tapi_Word) (tP (tL tapi_Word) (tOne (tL X))))))) (fun x : api_Unit => (x.Id, x.Kind, x.Label, x.Head, x.Words, x.Kids))
theorem capi_Unit : Cont Fapi_Unit := Cont.map (fun x : api_Unit => (x.Id, x.Kind, x.Label, x.Head, x.Words, x.Kids)) (Cont.pair (Cont.const _) (Cont.pair (Cont.const _) (Cont.pair (Cont.const _) (Cont.pair (Cont.const _) (Cont.pair (Cont.const _) (Cont.one ((Cont.list Cont.id))))))))
theorem rapi_Unit : Rec Fapi_Unit 8 := ⟨capi_Unit, rfl, rfl⟩
def tapi_Unit : Ty api_Unit := tFix rapi_Unit
theorem fapi_Unit_0 : Fld tapi_Unit 0 tapi_Id (fun x => x.Id) := Fld.le rapi_Unit.out ((Fld.map (m := (fun x : api_Unit => (x.Id, x.Kind, x.Label, x.Head, x.Words, x.Kids))) (Fld.here tapi_Id (tP (tI .i64) (tP tS (tP (tL tapi_Word) (tP (tL tapi_Word) (tOne (tL tapi_Unit)))))))).cast rfl rfl)
theorem sapi_Unit_0 : FldSet tapi_Unit 0 tapi_Id (fun x y => { x with Id := y }) := FldSet.le rapi_Unit.out rapi_Unit.into ((FldSet.map (m := (fun x : api_Unit => (x.Id, x.Kind, x.Label, x.Head, x.Words, x.Kids))) (f' := fun x y => { x with Id := y }) (FldSet.here tapi_Id (tP (tI .i64) (tP tS (tP (tL tapi_Word) (tP (tL tapi_Word) (tOne (tL tapi_Unit))))))) (fun _ _ => rfl)).cast rfl rfl)
theorem fapi_Unit_1 : Fld tapi_Unit 3 (tI .i64) (fun x => x.Kind) := Fld.le rapi_Unit.out ((Fld.map (m := (fun x : api_Unit => (x.Id, x.Kind, x.Label, x.Head, x.Words, x.Kids))) (Fld.next (s := tapi_Id) (Fld.here (tI .i64) (tP tS (tP (tL tapi_Word) (tP (tL tapi_Word) (tOne (tL tapi_Unit)))))))).cast rfl rfl)
theorem sapi_Unit_1 : FldSet tapi_Unit 3 (tI .i64) (fun x y => { x with Kind := y }) := FldSet.le rapi_Unit.out rapi_Unit.into ((FldSet.map (m := (fun x : api_Unit => (x.Id, x.Kind, x.Label, x.Head, x.Words, x.Kids))) (f' := fun x y => { x with Kind := y }) (FldSet.next (s := tapi_Id) (FldSet.here (tI .i64) (tP tS (tP (tL tapi_Word) (tP (tL tapi_Word) (tOne (tL tapi_Unit))))))) (fun _ _ => rfl)).cast rfl rfl)
theorem fapi_Unit_2 : Fld tapi_Unit 4 tS (fun x => x.Label) := Fld.le rapi_Unit.out ((Fld.map (m := (fun x : api_Unit => (x.Id, x.Kind, x.Label, x.Head, x.Words, x.Kids))) (Fld.next (s := tapi_Id) (Fld.next (s := (tI .i64)) (Fld.here tS (tP (tL tapi_Word) (tP (tL tapi_Word) (tOne (tL tapi_Unit)))))))).cast rfl rfl)
theorem sapi_Unit_2 : FldSet tapi_Unit 4 tS (fun x y => { x with Label := y }) := FldSet.le rapi_Unit.out rapi_Unit.into ((FldSet.map (m := (fun x : api_Unit => (x.Id, x.Kind, x.Label, x.Head, x.Words, x.Kids))) (f' := fun x y => { x with Label := y }) (FldSet.next (s := tapi_Id) (FldSet.next (s := (tI .i64)) (FldSet.here tS (tP (tL tapi_Word) (tP (tL tapi_Word) (tOne (tL tapi_Unit))))))) (fun _ _ => rfl)).cast rfl rfl)
theorem fapi_Unit_3 : Fld tapi_Unit 5 (tL tapi_Word) (fun x => x.Head) := Fld.le rapi_Unit.out ((Fld.map (m := (fun x : api_Unit => (x.Id, x.Kind, x.Label, x.Head, x.Words, x.Kids))) (Fld.next (s := tapi_Id) (Fld.next (s := (tI .i64)) (Fld.next (s := tS) (Fld.here (tL tapi_Word) (tP (tL tapi_Word) (tOne (tL tapi_Unit)))))))).cast rfl rfl)
theorem sapi_Unit_3 : FldSet tapi_Unit 5 (tL tapi_Word) (fun x y => { x with Head := y }) := FldSet.le rapi_Unit.out rapi_Unit.into ((FldSet.map (m := (fun x : api_Unit => (x.Id, x.Kind, x.Label, x.Head, x.Words, x.Kids))) (f' := fun x y => { x with Head := y }) (FldSet.next (s := tapi_Id) (FldSet.next (s := (tI .i64)) (FldSet.next (s := tS) (FldSet.here (tL tapi_Word) (tP (tL tapi_Word) (tOne (tL tapi_Unit))))))) (fun _ _ => rfl)).cast rfl rfl)
theorem fapi_Unit_4 : Fld tapi_Unit 6 (tL tapi_Word) (fun x => x.Words) := Fld.le rapi_Unit.out ((Fld.map (m := (fun x : api_Unit => (x.Id, x.Kind, x.Label, x.Head, x.Words, x.Kids))) (Fld.next (s := tapi_Id) (Fld.next (s := (tI .i64)) (Fld.next (s := tS) (Fld.next (s := (tL tapi_Word)) (Fld.here (tL tapi_Word) (tOne (tL tapi_Unit)))))))).cast rfl rfl)
theorem sapi_Unit_4 : FldSet tapi_Unit 6 (tL tapi_Word) (fun x y => { x with Words := y }) := FldSet.le rapi_Unit.out rapi_Unit.into ((FldSet.map (m := (fun x : api_Unit => (x.Id, x.Kind, x.Label, x.Head, x.Words, x.Kids))) (f' := fun x y => { x with Words := y }) (FldSet.next (s := tapi_Id) (FldSet.next (s := (tI .i64)) (FldSet.next (s := tS) (FldSet.next (s := (tL tapi_Word)) (FldSet.here (tL tapi_Word) (tOne (tL tapi_Unit))))))) (fun _ _ => rfl)).cast rfl rfl)
theorem fapi_Unit_5 : Fld tapi_Unit 7 (tL tapi_Unit) (fun x => x.Kids) := Fld.le rapi_Unit.out ((Fld.map (m := (fun x : api_Unit => (x.Id, x.Kind, x.Label, x.Head, x.Words, x.Kids))) (Fld.next (s := tapi_Id) (Fld.next (s := (tI .i64)) (Fld.next (s := tS) (Fld.next (s := (tL tapi_Word)) (Fld.next (s := (tL tapi_Word)) (Fld.one (tL tapi_Unit)))))))).cast rfl rfl)
theorem sapi_Unit_5 : FldSet tapi_Unit 7 (tL tapi_Unit) (fun x y => { x with Kids := y }) := FldSet.le rapi_Unit.out rapi_Unit.into ((FldSet.map (m := (fun x : api_Unit => (x.Id, x.Kind, x.Label, x.Head, x.Words, x.Kids))) (f' := fun x y => { x with Kids := y }) (FldSet.next (s := tapi_Id) (FldSet.next (s := (tI .i64)) (FldSet.next (s := tS) (FldSet.next (s := (tL tapi_Word)) (FldSet.next (s := (tL tapi_Word)) (FldSet.one (tL tapi_Unit))))))) (fun _ _ => rfl)).cast rfl rfl)
def zapi_Unit_f (fd : Field) : Nat := if fd.type = 3 then 1 else if fd.type = 9 then 1 else if fd.type = 23 then 3 else if fd.type = 24 then 1 else if fd.type = 25 then 1 else 0
theorem zapi_Unit_sz : ∀ fs, Try.prog.underlying 27 = some (.struct fs) → ∀ fd, fd ∈ fs → ∀ w, (sizeOf fd.type).run Try.prog w = .ok (zapi_Unit_f fd) w := by
  intro fs h
  rw [Try.underlying27] at h
  cases h
  intro fd hfd w
  simp only [List.mem_toArray, List.mem_cons, List.not_mem_nil, or_false] at hfd
  rcases hfd with rfl | rfl | rfl | rfl | rfl | rfl
  · exact Try.sizeOf23 w
  · exact Try.sizeOf3 w
  · exact Try.sizeOf9 w
  · exact Try.sizeOf24 w
  · exact Try.sizeOf24 w
  · exact Try.sizeOf25 w

def tapi_Step : Ty api_Step := tMap (tP (tI .i64) (tOne tS)) (fun x : api_Step => (x.Kind, x.Label))
theorem fapi_Step_0 : Fld tapi_Step 0 (tI .i64) (fun x => x.Kind) := (Fld.map (m := (fun x : api_Step => (x.Kind, x.Label))) (Fld.here (tI .i64) (tOne tS))).cast rfl rfl
theorem sapi_Step_0 : FldSet tapi_Step 0 (tI .i64) (fun x y => { x with Kind := y }) := (FldSet.map (m := (fun x : api_Step => (x.Kind, x.Label))) (f' := fun x y => { x with Kind := y }) (FldSet.here (tI .i64) (tOne tS)) (fun _ _ => rfl)).cast rfl rfl
theorem fapi_Step_1 : Fld tapi_Step 1 tS (fun x => x.Label) := (Fld.map (m := (fun x : api_Step => (x.Kind, x.Label))) (Fld.next (s := (tI .i64)) (Fld.one tS))).cast rfl rfl
theorem sapi_Step_1 : FldSet tapi_Step 1 tS (fun x y => { x with Label := y }) := (FldSet.map (m := (fun x : api_Step => (x.Kind, x.Label))) (f' := fun x y => { x with Label := y }) (FldSet.next (s := (tI .i64)) (FldSet.one tS)) (fun _ _ => rfl)).cast rfl rfl
def zapi_Step_f (fd : Field) : Nat := if fd.type = 3 then 1 else if fd.type = 9 then 1 else 0
theorem zapi_Step_sz : ∀ fs, Try.prog.underlying 63 = some (.struct fs) → ∀ fd, fd ∈ fs → ∀ w, (sizeOf fd.type).run Try.prog w = .ok (zapi_Step_f fd) w := by
  intro fs h
  rw [Try.underlying63] at h
  cases h
  intro fd hfd w
  simp only [List.mem_toArray, List.mem_cons, List.not_mem_nil, or_false] at hfd
  rcases hfd with rfl | rfl
  · exact Try.sizeOf3 w
  · exact Try.sizeOf9 w

def ttarget_spot : Ty target_spot := tMap (tP tapi_Id (tOne (tI .i64))) (fun x : target_spot => (x.parent_, x.at_))
theorem ftarget_spot_0 : Fld ttarget_spot 0 tapi_Id (fun x => x.parent_) := (Fld.map (m := (fun x : target_spot => (x.parent_, x.at_))) (Fld.here tapi_Id (tOne (tI .i64)))).cast rfl rfl
theorem starget_spot_0 : FldSet ttarget_spot 0 tapi_Id (fun x y => { x with parent_ := y }) := (FldSet.map (m := (fun x : target_spot => (x.parent_, x.at_))) (f' := fun x y => { x with parent_ := y }) (FldSet.here tapi_Id (tOne (tI .i64))) (fun _ _ => rfl)).cast rfl rfl
theorem ftarget_spot_1 : Fld ttarget_spot 3 (tI .i64) (fun x => x.at_) := (Fld.map (m := (fun x : target_spot => (x.parent_, x.at_))) (Fld.next (s := tapi_Id) (Fld.one (tI .i64)))).cast rfl rfl
theorem starget_spot_1 : FldSet ttarget_spot 3 (tI .i64) (fun x y => { x with at_ := y }) := (FldSet.map (m := (fun x : target_spot => (x.parent_, x.at_))) (f' := fun x y => { x with at_ := y }) (FldSet.next (s := tapi_Id) (FldSet.one (tI .i64))) (fun _ _ => rfl)).cast rfl rfl
def ztarget_spot_f (fd : Field) : Nat := if fd.type = 3 then 1 else if fd.type = 23 then 3 else 0
theorem ztarget_spot_sz : ∀ fs, Try.prog.underlying 66 = some (.struct fs) → ∀ fd, fd ∈ fs → ∀ w, (sizeOf fd.type).run Try.prog w = .ok (ztarget_spot_f fd) w := by
  intro fs h
  rw [Try.underlying66] at h
  cases h
  intro fd hfd w
  simp only [List.mem_toArray, List.mem_cons, List.not_mem_nil, or_false] at hfd
  rcases hfd with rfl | rfl
  · exact Try.sizeOf23 w
  · exact Try.sizeOf3 w

def tapi_Start : Ty api_Start := tMap (tP (tI .i64) (tP (tI .i64) (tOne tS))) (fun x : api_Start => (x.Kind, x.Day, x.Event))
theorem fapi_Start_0 : Fld tapi_Start 0 (tI .i64) (fun x => x.Kind) := (Fld.map (m := (fun x : api_Start => (x.Kind, x.Day, x.Event))) (Fld.here (tI .i64) (tP (tI .i64) (tOne tS)))).cast rfl rfl
theorem sapi_Start_0 : FldSet tapi_Start 0 (tI .i64) (fun x y => { x with Kind := y }) := (FldSet.map (m := (fun x : api_Start => (x.Kind, x.Day, x.Event))) (f' := fun x y => { x with Kind := y }) (FldSet.here (tI .i64) (tP (tI .i64) (tOne tS))) (fun _ _ => rfl)).cast rfl rfl
theorem fapi_Start_1 : Fld tapi_Start 1 (tI .i64) (fun x => x.Day) := (Fld.map (m := (fun x : api_Start => (x.Kind, x.Day, x.Event))) (Fld.next (s := (tI .i64)) (Fld.here (tI .i64) (tOne tS)))).cast rfl rfl
theorem sapi_Start_1 : FldSet tapi_Start 1 (tI .i64) (fun x y => { x with Day := y }) := (FldSet.map (m := (fun x : api_Start => (x.Kind, x.Day, x.Event))) (f' := fun x y => { x with Day := y }) (FldSet.next (s := (tI .i64)) (FldSet.here (tI .i64) (tOne tS))) (fun _ _ => rfl)).cast rfl rfl
theorem fapi_Start_2 : Fld tapi_Start 2 tS (fun x => x.Event) := (Fld.map (m := (fun x : api_Start => (x.Kind, x.Day, x.Event))) (Fld.next (s := (tI .i64)) (Fld.next (s := (tI .i64)) (Fld.one tS)))).cast rfl rfl
theorem sapi_Start_2 : FldSet tapi_Start 2 tS (fun x y => { x with Event := y }) := (FldSet.map (m := (fun x : api_Start => (x.Kind, x.Day, x.Event))) (f' := fun x y => { x with Event := y }) (FldSet.next (s := (tI .i64)) (FldSet.next (s := (tI .i64)) (FldSet.one tS))) (fun _ _ => rfl)).cast rfl rfl
def zapi_Start_f (fd : Field) : Nat := if fd.type = 3 then 1 else if fd.type = 9 then 1 else 0
theorem zapi_Start_sz : ∀ fs, Try.prog.underlying 34 = some (.struct fs) → ∀ fd, fd ∈ fs → ∀ w, (sizeOf fd.type).run Try.prog w = .ok (zapi_Start_f fd) w := by
  intro fs h
  rw [Try.underlying34] at h
  cases h
  intro fd hfd w
  simp only [List.mem_toArray, List.mem_cons, List.not_mem_nil, or_false] at hfd
  rcases hfd with rfl | rfl | rfl
  · exact Try.sizeOf3 w
  · exact Try.sizeOf3 w
  · exact Try.sizeOf9 w

def Fapi_Item (X : Ty api_Item) : Ty api_Item := tMap (tP (tI .i64) (tP (tL tapi_Step) (tP (tL tapi_Step) (tP (tI .i64) (tP (tI .i64) (tP tapi_Unit (tP (tL tS) (tP (tL tS) (tP tS (tP tS (tP tapi_Start (tP (tI .i64) (tP (tI .i64) (tP (tI .i64) (tP tS (tOne (tL X))))))))))))))))) (fun x : api_Item => (x.Kind, x.At, x.To, x.Where, x.Nth, x.Unit, x.Old, x.New, x.Label, x.For, x.Start, x.Act, x.Item, x.Day, x.Event, x.By))
theorem capi_Item : Cont Fapi_Item := Cont.map (fun x : api_Item => (x.Kind, x.At, x.To, x.Where, x.Nth, x.Unit, x.Old, x.New, x.Label, x.For, x.Start, x.Act, x.Item, x.Day, x.Event, x.By)) (Cont.pair (Cont.const _) (Cont.pair (Cont.const _) (Cont.pair (Cont.const _) (Cont.pair (Cont.const _) (Cont.pair (Cont.const _) (Cont.pair (Cont.const _) (Cont.pair (Cont.const _) (Cont.pair (Cont.const _) (Cont.pair (Cont.const _) (Cont.pair (Cont.const _) (Cont.pair (Cont.const _) (Cont.pair (Cont.const _) (Cont.pair (Cont.const _) (Cont.pair (Cont.const _) (Cont.pair (Cont.const _) (Cont.one ((Cont.list Cont.id))))))))))))))))))
theorem rapi_Item : Rec Fapi_Item 25 := ⟨capi_Item, rfl, rfl⟩
def tapi_Item : Ty api_Item := tFix rapi_Item
theorem fapi_Item_0 : Fld tapi_Item 0 (tI .i64) (fun x => x.Kind) := Fld.le rapi_Item.out ((Fld.map (m := (fun x : api_Item => (x.Kind, x.At, x.To, x.Where, x.Nth, x.Unit, x.Old, x.New, x.Label, x.For, x.Start, x.Act, x.Item, x.Day, x.Event, x.By))) (Fld.here (tI .i64) (tP (tL tapi_Step) (tP (tL tapi_Step) (tP (tI .i64) (tP (tI .i64) (tP tapi_Unit (tP (tL tS) (tP (tL tS) (tP tS (tP tS (tP tapi_Start (tP (tI .i64) (tP (tI .i64) (tP (tI .i64) (tP tS (tOne (tL tapi_Item)))))))))))))))))).cast rfl rfl)
theorem sapi_Item_0 : FldSet tapi_Item 0 (tI .i64) (fun x y => { x with Kind := y }) := FldSet.le rapi_Item.out rapi_Item.into ((FldSet.map (m := (fun x : api_Item => (x.Kind, x.At, x.To, x.Where, x.Nth, x.Unit, x.Old, x.New, x.Label, x.For, x.Start, x.Act, x.Item, x.Day, x.Event, x.By))) (f' := fun x y => { x with Kind := y }) (FldSet.here (tI .i64) (tP (tL tapi_Step) (tP (tL tapi_Step) (tP (tI .i64) (tP (tI .i64) (tP tapi_Unit (tP (tL tS) (tP (tL tS) (tP tS (tP tS (tP tapi_Start (tP (tI .i64) (tP (tI .i64) (tP (tI .i64) (tP tS (tOne (tL tapi_Item))))))))))))))))) (fun _ _ => rfl)).cast rfl rfl)
theorem fapi_Item_1 : Fld tapi_Item 1 (tL tapi_Step) (fun x => x.At) := Fld.le rapi_Item.out ((Fld.map (m := (fun x : api_Item => (x.Kind, x.At, x.To, x.Where, x.Nth, x.Unit, x.Old, x.New, x.Label, x.For, x.Start, x.Act, x.Item, x.Day, x.Event, x.By))) (Fld.next (s := (tI .i64)) (Fld.here (tL tapi_Step) (tP (tL tapi_Step) (tP (tI .i64) (tP (tI .i64) (tP tapi_Unit (tP (tL tS) (tP (tL tS) (tP tS (tP tS (tP tapi_Start (tP (tI .i64) (tP (tI .i64) (tP (tI .i64) (tP tS (tOne (tL tapi_Item)))))))))))))))))).cast rfl rfl)
theorem sapi_Item_1 : FldSet tapi_Item 1 (tL tapi_Step) (fun x y => { x with At := y }) := FldSet.le rapi_Item.out rapi_Item.into ((FldSet.map (m := (fun x : api_Item => (x.Kind, x.At, x.To, x.Where, x.Nth, x.Unit, x.Old, x.New, x.Label, x.For, x.Start, x.Act, x.Item, x.Day, x.Event, x.By))) (f' := fun x y => { x with At := y }) (FldSet.next (s := (tI .i64)) (FldSet.here (tL tapi_Step) (tP (tL tapi_Step) (tP (tI .i64) (tP (tI .i64) (tP tapi_Unit (tP (tL tS) (tP (tL tS) (tP tS (tP tS (tP tapi_Start (tP (tI .i64) (tP (tI .i64) (tP (tI .i64) (tP tS (tOne (tL tapi_Item))))))))))))))))) (fun _ _ => rfl)).cast rfl rfl)
theorem fapi_Item_2 : Fld tapi_Item 2 (tL tapi_Step) (fun x => x.To) := Fld.le rapi_Item.out ((Fld.map (m := (fun x : api_Item => (x.Kind, x.At, x.To, x.Where, x.Nth, x.Unit, x.Old, x.New, x.Label, x.For, x.Start, x.Act, x.Item, x.Day, x.Event, x.By))) (Fld.next (s := (tI .i64)) (Fld.next (s := (tL tapi_Step)) (Fld.here (tL tapi_Step) (tP (tI .i64) (tP (tI .i64) (tP tapi_Unit (tP (tL tS) (tP (tL tS) (tP tS (tP tS (tP tapi_Start (tP (tI .i64) (tP (tI .i64) (tP (tI .i64) (tP tS (tOne (tL tapi_Item)))))))))))))))))).cast rfl rfl)
theorem sapi_Item_2 : FldSet tapi_Item 2 (tL tapi_Step) (fun x y => { x with To := y }) := FldSet.le rapi_Item.out rapi_Item.into ((FldSet.map (m := (fun x : api_Item => (x.Kind, x.At, x.To, x.Where, x.Nth, x.Unit, x.Old, x.New, x.Label, x.For, x.Start, x.Act, x.Item, x.Day, x.Event, x.By))) (f' := fun x y => { x with To := y }) (FldSet.next (s := (tI .i64)) (FldSet.next (s := (tL tapi_Step)) (FldSet.here (tL tapi_Step) (tP (tI .i64) (tP (tI .i64) (tP tapi_Unit (tP (tL tS) (tP (tL tS) (tP tS (tP tS (tP tapi_Start (tP (tI .i64) (tP (tI .i64) (tP (tI .i64) (tP tS (tOne (tL tapi_Item))))))))))))))))) (fun _ _ => rfl)).cast rfl rfl)
theorem fapi_Item_3 : Fld tapi_Item 3 (tI .i64) (fun x => x.Where) := Fld.le rapi_Item.out ((Fld.map (m := (fun x : api_Item => (x.Kind, x.At, x.To, x.Where, x.Nth, x.Unit, x.Old, x.New, x.Label, x.For, x.Start, x.Act, x.Item, x.Day, x.Event, x.By))) (Fld.next (s := (tI .i64)) (Fld.next (s := (tL tapi_Step)) (Fld.next (s := (tL tapi_Step)) (Fld.here (tI .i64) (tP (tI .i64) (tP tapi_Unit (tP (tL tS) (tP (tL tS) (tP tS (tP tS (tP tapi_Start (tP (tI .i64) (tP (tI .i64) (tP (tI .i64) (tP tS (tOne (tL tapi_Item)))))))))))))))))).cast rfl rfl)
theorem sapi_Item_3 : FldSet tapi_Item 3 (tI .i64) (fun x y => { x with Where := y }) := FldSet.le rapi_Item.out rapi_Item.into ((FldSet.map (m := (fun x : api_Item => (x.Kind, x.At, x.To, x.Where, x.Nth, x.Unit, x.Old, x.New, x.Label, x.For, x.Start, x.Act, x.Item, x.Day, x.Event, x.By))) (f' := fun x y => { x with Where := y }) (FldSet.next (s := (tI .i64)) (FldSet.next (s := (tL tapi_Step)) (FldSet.next (s := (tL tapi_Step)) (FldSet.here (tI .i64) (tP (tI .i64) (tP tapi_Unit (tP (tL tS) (tP (tL tS) (tP tS (tP tS (tP tapi_Start (tP (tI .i64) (tP (tI .i64) (tP (tI .i64) (tP tS (tOne (tL tapi_Item))))))))))))))))) (fun _ _ => rfl)).cast rfl rfl)
theorem fapi_Item_4 : Fld tapi_Item 4 (tI .i64) (fun x => x.Nth) := Fld.le rapi_Item.out ((Fld.map (m := (fun x : api_Item => (x.Kind, x.At, x.To, x.Where, x.Nth, x.Unit, x.Old, x.New, x.Label, x.For, x.Start, x.Act, x.Item, x.Day, x.Event, x.By))) (Fld.next (s := (tI .i64)) (Fld.next (s := (tL tapi_Step)) (Fld.next (s := (tL tapi_Step)) (Fld.next (s := (tI .i64)) (Fld.here (tI .i64) (tP tapi_Unit (tP (tL tS) (tP (tL tS) (tP tS (tP tS (tP tapi_Start (tP (tI .i64) (tP (tI .i64) (tP (tI .i64) (tP tS (tOne (tL tapi_Item)))))))))))))))))).cast rfl rfl)
theorem sapi_Item_4 : FldSet tapi_Item 4 (tI .i64) (fun x y => { x with Nth := y }) := FldSet.le rapi_Item.out rapi_Item.into ((FldSet.map (m := (fun x : api_Item => (x.Kind, x.At, x.To, x.Where, x.Nth, x.Unit, x.Old, x.New, x.Label, x.For, x.Start, x.Act, x.Item, x.Day, x.Event, x.By))) (f' := fun x y => { x with Nth := y }) (FldSet.next (s := (tI .i64)) (FldSet.next (s := (tL tapi_Step)) (FldSet.next (s := (tL tapi_Step)) (FldSet.next (s := (tI .i64)) (FldSet.here (tI .i64) (tP tapi_Unit (tP (tL tS) (tP (tL tS) (tP tS (tP tS (tP tapi_Start (tP (tI .i64) (tP (tI .i64) (tP (tI .i64) (tP tS (tOne (tL tapi_Item))))))))))))))))) (fun _ _ => rfl)).cast rfl rfl)
theorem fapi_Item_5 : Fld tapi_Item 5 tapi_Unit (fun x => x.Unit) := Fld.le rapi_Item.out ((Fld.map (m := (fun x : api_Item => (x.Kind, x.At, x.To, x.Where, x.Nth, x.Unit, x.Old, x.New, x.Label, x.For, x.Start, x.Act, x.Item, x.Day, x.Event, x.By))) (Fld.next (s := (tI .i64)) (Fld.next (s := (tL tapi_Step)) (Fld.next (s := (tL tapi_Step)) (Fld.next (s := (tI .i64)) (Fld.next (s := (tI .i64)) (Fld.here tapi_Unit (tP (tL tS) (tP (tL tS) (tP tS (tP tS (tP tapi_Start (tP (tI .i64) (tP (tI .i64) (tP (tI .i64) (tP tS (tOne (tL tapi_Item)))))))))))))))))).cast rfl rfl)
theorem sapi_Item_5 : FldSet tapi_Item 5 tapi_Unit (fun x y => { x with Unit := y }) := FldSet.le rapi_Item.out rapi_Item.into ((FldSet.map (m := (fun x : api_Item => (x.Kind, x.At, x.To, x.Where, x.Nth, x.Unit, x.Old, x.New, x.Label, x.For, x.Start, x.Act, x.Item, x.Day, x.Event, x.By))) (f' := fun x y => { x with Unit := y }) (FldSet.next (s := (tI .i64)) (FldSet.next (s := (tL tapi_Step)) (FldSet.next (s := (tL tapi_Step)) (FldSet.next (s := (tI .i64)) (FldSet.next (s := (tI .i64)) (FldSet.here tapi_Unit (tP (tL tS) (tP (tL tS) (tP tS (tP tS (tP tapi_Start (tP (tI .i64) (tP (tI .i64) (tP (tI .i64) (tP tS (tOne (tL tapi_Item))))))))))))))))) (fun _ _ => rfl)).cast rfl rfl)
theorem fapi_Item_6 : Fld tapi_Item 13 (tL tS) (fun x => x.Old) := Fld.le rapi_Item.out ((Fld.map (m := (fun x : api_Item => (x.Kind, x.At, x.To, x.Where, x.Nth, x.Unit, x.Old, x.New, x.Label, x.For, x.Start, x.Act, x.Item, x.Day, x.Event, x.By))) (Fld.next (s := (tI .i64)) (Fld.next (s := (tL tapi_Step)) (Fld.next (s := (tL tapi_Step)) (Fld.next (s := (tI .i64)) (Fld.next (s := (tI .i64)) (Fld.next (s := tapi_Unit) (Fld.here (tL tS) (tP (tL tS) (tP tS (tP tS (tP tapi_Start (tP (tI .i64) (tP (tI .i64) (tP (tI .i64) (tP tS (tOne (tL tapi_Item)))))))))))))))))).cast rfl rfl)
theorem sapi_Item_6 : FldSet tapi_Item 13 (tL tS) (fun x y => { x with Old := y }) := FldSet.le rapi_Item.out rapi_Item.into ((FldSet.map (m := (fun x : api_Item => (x.Kind, x.At, x.To, x.Where, x.Nth, x.Unit, x.Old, x.New, x.Label, x.For, x.Start, x.Act, x.Item, x.Day, x.Event, x.By))) (f' := fun x y => { x with Old := y }) (FldSet.next (s := (tI .i64)) (FldSet.next (s := (tL tapi_Step)) (FldSet.next (s := (tL tapi_Step)) (FldSet.next (s := (tI .i64)) (FldSet.next (s := (tI .i64)) (FldSet.next (s := tapi_Unit) (FldSet.here (tL tS) (tP (tL tS) (tP tS (tP tS (tP tapi_Start (tP (tI .i64) (tP (tI .i64) (tP (tI .i64) (tP tS (tOne (tL tapi_Item))))))))))))))))) (fun _ _ => rfl)).cast rfl rfl)
theorem fapi_Item_7 : Fld tapi_Item 14 (tL tS) (fun x => x.New) := Fld.le rapi_Item.out ((Fld.map (m := (fun x : api_Item => (x.Kind, x.At, x.To, x.Where, x.Nth, x.Unit, x.Old, x.New, x.Label, x.For, x.Start, x.Act, x.Item, x.Day, x.Event, x.By))) (Fld.next (s := (tI .i64)) (Fld.next (s := (tL tapi_Step)) (Fld.next (s := (tL tapi_Step)) (Fld.next (s := (tI .i64)) (Fld.next (s := (tI .i64)) (Fld.next (s := tapi_Unit) (Fld.next (s := (tL tS)) (Fld.here (tL tS) (tP tS (tP tS (tP tapi_Start (tP (tI .i64) (tP (tI .i64) (tP (tI .i64) (tP tS (tOne (tL tapi_Item)))))))))))))))))).cast rfl rfl)
theorem sapi_Item_7 : FldSet tapi_Item 14 (tL tS) (fun x y => { x with New := y }) := FldSet.le rapi_Item.out rapi_Item.into ((FldSet.map (m := (fun x : api_Item => (x.Kind, x.At, x.To, x.Where, x.Nth, x.Unit, x.Old, x.New, x.Label, x.For, x.Start, x.Act, x.Item, x.Day, x.Event, x.By))) (f' := fun x y => { x with New := y }) (FldSet.next (s := (tI .i64)) (FldSet.next (s := (tL tapi_Step)) (FldSet.next (s := (tL tapi_Step)) (FldSet.next (s := (tI .i64)) (FldSet.next (s := (tI .i64)) (FldSet.next (s := tapi_Unit) (FldSet.next (s := (tL tS)) (FldSet.here (tL tS) (tP tS (tP tS (tP tapi_Start (tP (tI .i64) (tP (tI .i64) (tP (tI .i64) (tP tS (tOne (tL tapi_Item))))))))))))))))) (fun _ _ => rfl)).cast rfl rfl)
theorem fapi_Item_8 : Fld tapi_Item 15 tS (fun x => x.Label) := Fld.le rapi_Item.out ((Fld.map (m := (fun x : api_Item => (x.Kind, x.At, x.To, x.Where, x.Nth, x.Unit, x.Old, x.New, x.Label, x.For, x.Start, x.Act, x.Item, x.Day, x.Event, x.By))) (Fld.next (s := (tI .i64)) (Fld.next (s := (tL tapi_Step)) (Fld.next (s := (tL tapi_Step)) (Fld.next (s := (tI .i64)) (Fld.next (s := (tI .i64)) (Fld.next (s := tapi_Unit) (Fld.next (s := (tL tS)) (Fld.next (s := (tL tS)) (Fld.here tS (tP tS (tP tapi_Start (tP (tI .i64) (tP (tI .i64) (tP (tI .i64) (tP tS (tOne (tL tapi_Item)))))))))))))))))).cast rfl rfl)
theorem sapi_Item_8 : FldSet tapi_Item 15 tS (fun x y => { x with Label := y }) := FldSet.le rapi_Item.out rapi_Item.into ((FldSet.map (m := (fun x : api_Item => (x.Kind, x.At, x.To, x.Where, x.Nth, x.Unit, x.Old, x.New, x.Label, x.For, x.Start, x.Act, x.Item, x.Day, x.Event, x.By))) (f' := fun x y => { x with Label := y }) (FldSet.next (s := (tI .i64)) (FldSet.next (s := (tL tapi_Step)) (FldSet.next (s := (tL tapi_Step)) (FldSet.next (s := (tI .i64)) (FldSet.next (s := (tI .i64)) (FldSet.next (s := tapi_Unit) (FldSet.next (s := (tL tS)) (FldSet.next (s := (tL tS)) (FldSet.here tS (tP tS (tP tapi_Start (tP (tI .i64) (tP (tI .i64) (tP (tI .i64) (tP tS (tOne (tL tapi_Item))))))))))))))))) (fun _ _ => rfl)).cast rfl rfl)
theorem fapi_Item_9 : Fld tapi_Item 16 tS (fun x => x.For) := Fld.le rapi_Item.out ((Fld.map (m := (fun x : api_Item => (x.Kind, x.At, x.To, x.Where, x.Nth, x.Unit, x.Old, x.New, x.Label, x.For, x.Start, x.Act, x.Item, x.Day, x.Event, x.By))) (Fld.next (s := (tI .i64)) (Fld.next (s := (tL tapi_Step)) (Fld.next (s := (tL tapi_Step)) (Fld.next (s := (tI .i64)) (Fld.next (s := (tI .i64)) (Fld.next (s := tapi_Unit) (Fld.next (s := (tL tS)) (Fld.next (s := (tL tS)) (Fld.next (s := tS) (Fld.here tS (tP tapi_Start (tP (tI .i64) (tP (tI .i64) (tP (tI .i64) (tP tS (tOne (tL tapi_Item)))))))))))))))))).cast rfl rfl)
theorem sapi_Item_9 : FldSet tapi_Item 16 tS (fun x y => { x with For := y }) := FldSet.le rapi_Item.out rapi_Item.into ((FldSet.map (m := (fun x : api_Item => (x.Kind, x.At, x.To, x.Where, x.Nth, x.Unit, x.Old, x.New, x.Label, x.For, x.Start, x.Act, x.Item, x.Day, x.Event, x.By))) (f' := fun x y => { x with For := y }) (FldSet.next (s := (tI .i64)) (FldSet.next (s := (tL tapi_Step)) (FldSet.next (s := (tL tapi_Step)) (FldSet.next (s := (tI .i64)) (FldSet.next (s := (tI .i64)) (FldSet.next (s := tapi_Unit) (FldSet.next (s := (tL tS)) (FldSet.next (s := (tL tS)) (FldSet.next (s := tS) (FldSet.here tS (tP tapi_Start (tP (tI .i64) (tP (tI .i64) (tP (tI .i64) (tP tS (tOne (tL tapi_Item))))))))))))))))) (fun _ _ => rfl)).cast rfl rfl)
theorem fapi_Item_10 : Fld tapi_Item 17 tapi_Start (fun x => x.Start) := Fld.le rapi_Item.out ((Fld.map (m := (fun x : api_Item => (x.Kind, x.At, x.To, x.Where, x.Nth, x.Unit, x.Old, x.New, x.Label, x.For, x.Start, x.Act, x.Item, x.Day, x.Event, x.By))) (Fld.next (s := (tI .i64)) (Fld.next (s := (tL tapi_Step)) (Fld.next (s := (tL tapi_Step)) (Fld.next (s := (tI .i64)) (Fld.next (s := (tI .i64)) (Fld.next (s := tapi_Unit) (Fld.next (s := (tL tS)) (Fld.next (s := (tL tS)) (Fld.next (s := tS) (Fld.next (s := tS) (Fld.here tapi_Start (tP (tI .i64) (tP (tI .i64) (tP (tI .i64) (tP tS (tOne (tL tapi_Item)))))))))))))))))).cast rfl rfl)
theorem sapi_Item_10 : FldSet tapi_Item 17 tapi_Start (fun x y => { x with Start := y }) := FldSet.le rapi_Item.out rapi_Item.into ((FldSet.map (m := (fun x : api_Item => (x.Kind, x.At, x.To, x.Where, x.Nth, x.Unit, x.Old, x.New, x.Label, x.For, x.Start, x.Act, x.Item, x.Day, x.Event, x.By))) (f' := fun x y => { x with Start := y }) (FldSet.next (s := (tI .i64)) (FldSet.next (s := (tL tapi_Step)) (FldSet.next (s := (tL tapi_Step)) (FldSet.next (s := (tI .i64)) (FldSet.next (s := (tI .i64)) (FldSet.next (s := tapi_Unit) (FldSet.next (s := (tL tS)) (FldSet.next (s := (tL tS)) (FldSet.next (s := tS) (FldSet.next (s := tS) (FldSet.here tapi_Start (tP (tI .i64) (tP (tI .i64) (tP (tI .i64) (tP tS (tOne (tL tapi_Item))))))))))))))))) (fun _ _ => rfl)).cast rfl rfl)
theorem fapi_Item_11 : Fld tapi_Item 20 (tI .i64) (fun x => x.Act) := Fld.le rapi_Item.out ((Fld.map (m := (fun x : api_Item => (x.Kind, x.At, x.To, x.Where, x.Nth, x.Unit, x.Old, x.New, x.Label, x.For, x.Start, x.Act, x.Item, x.Day, x.Event, x.By))) (Fld.next (s := (tI .i64)) (Fld.next (s := (tL tapi_Step)) (Fld.next (s := (tL tapi_Step)) (Fld.next (s := (tI .i64)) (Fld.next (s := (tI .i64)) (Fld.next (s := tapi_Unit) (Fld.next (s := (tL tS)) (Fld.next (s := (tL tS)) (Fld.next (s := tS) (Fld.next (s := tS) (Fld.next (s := tapi_Start) (Fld.here (tI .i64) (tP (tI .i64) (tP (tI .i64) (tP tS (tOne (tL tapi_Item)))))))))))))))))).cast rfl rfl)
theorem sapi_Item_11 : FldSet tapi_Item 20 (tI .i64) (fun x y => { x with Act := y }) := FldSet.le rapi_Item.out rapi_Item.into ((FldSet.map (m := (fun x : api_Item => (x.Kind, x.At, x.To, x.Where, x.Nth, x.Unit, x.Old, x.New, x.Label, x.For, x.Start, x.Act, x.Item, x.Day, x.Event, x.By))) (f' := fun x y => { x with Act := y }) (FldSet.next (s := (tI .i64)) (FldSet.next (s := (tL tapi_Step)) (FldSet.next (s := (tL tapi_Step)) (FldSet.next (s := (tI .i64)) (FldSet.next (s := (tI .i64)) (FldSet.next (s := tapi_Unit) (FldSet.next (s := (tL tS)) (FldSet.next (s := (tL tS)) (FldSet.next (s := tS) (FldSet.next (s := tS) (FldSet.next (s := tapi_Start) (FldSet.here (tI .i64) (tP (tI .i64) (tP (tI .i64) (tP tS (tOne (tL tapi_Item))))))))))))))))) (fun _ _ => rfl)).cast rfl rfl)
theorem fapi_Item_12 : Fld tapi_Item 21 (tI .i64) (fun x => x.Item) := Fld.le rapi_Item.out ((Fld.map (m := (fun x : api_Item => (x.Kind, x.At, x.To, x.Where, x.Nth, x.Unit, x.Old, x.New, x.Label, x.For, x.Start, x.Act, x.Item, x.Day, x.Event, x.By))) (Fld.next (s := (tI .i64)) (Fld.next (s := (tL tapi_Step)) (Fld.next (s := (tL tapi_Step)) (Fld.next (s := (tI .i64)) (Fld.next (s := (tI .i64)) (Fld.next (s := tapi_Unit) (Fld.next (s := (tL tS)) (Fld.next (s := (tL tS)) (Fld.next (s := tS) (Fld.next (s := tS) (Fld.next (s := tapi_Start) (Fld.next (s := (tI .i64)) (Fld.here (tI .i64) (tP (tI .i64) (tP tS (tOne (tL tapi_Item)))))))))))))))))).cast rfl rfl)
theorem sapi_Item_12 : FldSet tapi_Item 21 (tI .i64) (fun x y => { x with Item := y }) := FldSet.le rapi_Item.out rapi_Item.into ((FldSet.map (m := (fun x : api_Item => (x.Kind, x.At, x.To, x.Where, x.Nth, x.Unit, x.Old, x.New, x.Label, x.For, x.Start, x.Act, x.Item, x.Day, x.Event, x.By))) (f' := fun x y => { x with Item := y }) (FldSet.next (s := (tI .i64)) (FldSet.next (s := (tL tapi_Step)) (FldSet.next (s := (tL tapi_Step)) (FldSet.next (s := (tI .i64)) (FldSet.next (s := (tI .i64)) (FldSet.next (s := tapi_Unit) (FldSet.next (s := (tL tS)) (FldSet.next (s := (tL tS)) (FldSet.next (s := tS) (FldSet.next (s := tS) (FldSet.next (s := tapi_Start) (FldSet.next (s := (tI .i64)) (FldSet.here (tI .i64) (tP (tI .i64) (tP tS (tOne (tL tapi_Item))))))))))))))))) (fun _ _ => rfl)).cast rfl rfl)
theorem fapi_Item_13 : Fld tapi_Item 22 (tI .i64) (fun x => x.Day) := Fld.le rapi_Item.out ((Fld.map (m := (fun x : api_Item => (x.Kind, x.At, x.To, x.Where, x.Nth, x.Unit, x.Old, x.New, x.Label, x.For, x.Start, x.Act, x.Item, x.Day, x.Event, x.By))) (Fld.next (s := (tI .i64)) (Fld.next (s := (tL tapi_Step)) (Fld.next (s := (tL tapi_Step)) (Fld.next (s := (tI .i64)) (Fld.next (s := (tI .i64)) (Fld.next (s := tapi_Unit) (Fld.next (s := (tL tS)) (Fld.next (s := (tL tS)) (Fld.next (s := tS) (Fld.next (s := tS) (Fld.next (s := tapi_Start) (Fld.next (s := (tI .i64)) (Fld.next (s := (tI .i64)) (Fld.here (tI .i64) (tP tS (tOne (tL tapi_Item)))))))))))))))))).cast rfl rfl)
theorem sapi_Item_13 : FldSet tapi_Item 22 (tI .i64) (fun x y => { x with Day := y }) := FldSet.le rapi_Item.out rapi_Item.into ((FldSet.map (m := (fun x : api_Item => (x.Kind, x.At, x.To, x.Where, x.Nth, x.Unit, x.Old, x.New, x.Label, x.For, x.Start, x.Act, x.Item, x.Day, x.Event, x.By))) (f' := fun x y => { x with Day := y }) (FldSet.next (s := (tI .i64)) (FldSet.next (s := (tL tapi_Step)) (FldSet.next (s := (tL tapi_Step)) (FldSet.next (s := (tI .i64)) (FldSet.next (s := (tI .i64)) (FldSet.next (s := tapi_Unit) (FldSet.next (s := (tL tS)) (FldSet.next (s := (tL tS)) (FldSet.next (s := tS) (FldSet.next (s := tS) (FldSet.next (s := tapi_Start) (FldSet.next (s := (tI .i64)) (FldSet.next (s := (tI .i64)) (FldSet.here (tI .i64) (tP tS (tOne (tL tapi_Item))))))))))))))))) (fun _ _ => rfl)).cast rfl rfl)
theorem fapi_Item_14 : Fld tapi_Item 23 tS (fun x => x.Event) := Fld.le rapi_Item.out ((Fld.map (m := (fun x : api_Item => (x.Kind, x.At, x.To, x.Where, x.Nth, x.Unit, x.Old, x.New, x.Label, x.For, x.Start, x.Act, x.Item, x.Day, x.Event, x.By))) (Fld.next (s := (tI .i64)) (Fld.next (s := (tL tapi_Step)) (Fld.next (s := (tL tapi_Step)) (Fld.next (s := (tI .i64)) (Fld.next (s := (tI .i64)) (Fld.next (s := tapi_Unit) (Fld.next (s := (tL tS)) (Fld.next (s := (tL tS)) (Fld.next (s := tS) (Fld.next (s := tS) (Fld.next (s := tapi_Start) (Fld.next (s := (tI .i64)) (Fld.next (s := (tI .i64)) (Fld.next (s := (tI .i64)) (Fld.here tS (tOne (tL tapi_Item)))))))))))))))))).cast rfl rfl)
theorem sapi_Item_14 : FldSet tapi_Item 23 tS (fun x y => { x with Event := y }) := FldSet.le rapi_Item.out rapi_Item.into ((FldSet.map (m := (fun x : api_Item => (x.Kind, x.At, x.To, x.Where, x.Nth, x.Unit, x.Old, x.New, x.Label, x.For, x.Start, x.Act, x.Item, x.Day, x.Event, x.By))) (f' := fun x y => { x with Event := y }) (FldSet.next (s := (tI .i64)) (FldSet.next (s := (tL tapi_Step)) (FldSet.next (s := (tL tapi_Step)) (FldSet.next (s := (tI .i64)) (FldSet.next (s := (tI .i64)) (FldSet.next (s := tapi_Unit) (FldSet.next (s := (tL tS)) (FldSet.next (s := (tL tS)) (FldSet.next (s := tS) (FldSet.next (s := tS) (FldSet.next (s := tapi_Start) (FldSet.next (s := (tI .i64)) (FldSet.next (s := (tI .i64)) (FldSet.next (s := (tI .i64)) (FldSet.here tS (tOne (tL tapi_Item))))))))))))))))) (fun _ _ => rfl)).cast rfl rfl)
theorem fapi_Item_15 : Fld tapi_Item 24 (tL tapi_Item) (fun x => x.By) := Fld.le rapi_Item.out ((Fld.map (m := (fun x : api_Item => (x.Kind, x.At, x.To, x.Where, x.Nth, x.Unit, x.Old, x.New, x.Label, x.For, x.Start, x.Act, x.Item, x.Day, x.Event, x.By))) (Fld.next (s := (tI .i64)) (Fld.next (s := (tL tapi_Step)) (Fld.next (s := (tL tapi_Step)) (Fld.next (s := (tI .i64)) (Fld.next (s := (tI .i64)) (Fld.next (s := tapi_Unit) (Fld.next (s := (tL tS)) (Fld.next (s := (tL tS)) (Fld.next (s := tS) (Fld.next (s := tS) (Fld.next (s := tapi_Start) (Fld.next (s := (tI .i64)) (Fld.next (s := (tI .i64)) (Fld.next (s := (tI .i64)) (Fld.next (s := tS) (Fld.one (tL tapi_Item)))))))))))))))))).cast rfl rfl)
theorem sapi_Item_15 : FldSet tapi_Item 24 (tL tapi_Item) (fun x y => { x with By := y }) := FldSet.le rapi_Item.out rapi_Item.into ((FldSet.map (m := (fun x : api_Item => (x.Kind, x.At, x.To, x.Where, x.Nth, x.Unit, x.Old, x.New, x.Label, x.For, x.Start, x.Act, x.Item, x.Day, x.Event, x.By))) (f' := fun x y => { x with By := y }) (FldSet.next (s := (tI .i64)) (FldSet.next (s := (tL tapi_Step)) (FldSet.next (s := (tL tapi_Step)) (FldSet.next (s := (tI .i64)) (FldSet.next (s := (tI .i64)) (FldSet.next (s := tapi_Unit) (FldSet.next (s := (tL tS)) (FldSet.next (s := (tL tS)) (FldSet.next (s := tS) (FldSet.next (s := tS) (FldSet.next (s := tapi_Start) (FldSet.next (s := (tI .i64)) (FldSet.next (s := (tI .i64)) (FldSet.next (s := (tI .i64)) (FldSet.next (s := tS) (FldSet.one (tL tapi_Item))))))))))))))))) (fun _ _ => rfl)).cast rfl rfl)
def zapi_Item_f (fd : Field) : Nat := if fd.type = 3 then 1 else if fd.type = 9 then 1 else if fd.type = 27 then 8 else if fd.type = 28 then 1 else if fd.type = 32 then 1 else if fd.type = 34 then 3 else if fd.type = 35 then 1 else 0
theorem zapi_Item_sz : ∀ fs, Try.prog.underlying 37 = some (.struct fs) → ∀ fd, fd ∈ fs → ∀ w, (sizeOf fd.type).run Try.prog w = .ok (zapi_Item_f fd) w := by
  intro fs h
  rw [Try.underlying37] at h
  cases h
  intro fd hfd w
  simp only [List.mem_toArray, List.mem_cons, List.not_mem_nil, or_false] at hfd
  rcases hfd with rfl | rfl | rfl | rfl | rfl | rfl | rfl | rfl | rfl | rfl | rfl | rfl | rfl | rfl | rfl | rfl
  · exact Try.sizeOf3 w
  · exact Try.sizeOf28 w
  · exact Try.sizeOf28 w
  · exact Try.sizeOf3 w
  · exact Try.sizeOf3 w
  · exact Try.sizeOf27 w
  · exact Try.sizeOf32 w
  · exact Try.sizeOf32 w
  · exact Try.sizeOf9 w
  · exact Try.sizeOf9 w
  · exact Try.sizeOf34 w
  · exact Try.sizeOf3 w
  · exact Try.sizeOf3 w
  · exact Try.sizeOf3 w
  · exact Try.sizeOf9 w
  · exact Try.sizeOf35 w


theorem ty3 : TyAt Try.prog 3 (tI .i64) := ⟨Try.isAgg3, Try.sizeOf3⟩
theorem el3 : ElAt Try.prog 3 (tI .i64) := ⟨⟨Try.t3, _, Try.type3, rfl, rfl, by decide, rfl⟩, by decide⟩
theorem ze3 : ZeroAt Try.prog 3 (tI .i64) (0 : Int) := ⟨_, Try.zeroValue3, fun _ => ⟨_, ⟨rfl, inR64.2 ⟨by decide, by decide⟩⟩, rfl⟩⟩
theorem ty5 : TyAt Try.prog 5 (tI .u8) := ⟨Try.isAgg5, Try.sizeOf5⟩
theorem el5 : ElAt Try.prog 5 (tI .u8) := ⟨⟨Try.t5, _, Try.type5, rfl, rfl, by decide, rfl⟩, by decide⟩
theorem ze5 : ZeroAt Try.prog 5 (tI .u8) (0 : Int) := ⟨_, Try.zeroValue5, fun _ => ⟨_, ⟨rfl, by decide⟩, rfl⟩⟩
theorem ty9 : TyAt Try.prog 9 tS := ⟨Try.isAgg9, Try.sizeOf9⟩
theorem el9 : ElAt Try.prog 9 tS := ⟨⟨Try.t9, _, Try.type9, rfl, rfl, by decide, rfl⟩, by decide⟩
theorem ze9 : ZeroAt Try.prog 9 tS ([] : Str) := ⟨_, Try.zeroValue9, fun _ => ⟨_, ⟨rfl, by decide⟩, rfl⟩⟩
theorem ty23 : TyAt Try.prog 23 tapi_Id := ⟨Try.isAgg23, Try.sizeOf23⟩
theorem el23 : ElAt Try.prog 23 tapi_Id := ⟨⟨Try.t23, _, Try.type23, rfl, rfl, by decide, rfl⟩, by decide⟩
theorem ze23 : ZeroAt Try.prog 23 tapi_Id zapi_Id := ⟨_, Try.zeroValue23, fun _ => ⟨_, ⟨_, _, rfl, ⟨rfl, inR64.2 ⟨by decide, by decide⟩⟩, ⟨_, _, rfl, ⟨rfl, inR64.2 ⟨by decide, by decide⟩⟩, ⟨rfl, inR64.2 ⟨by decide, by decide⟩⟩⟩⟩, rfl⟩⟩
theorem ty24 : TyAt Try.prog 24 (tL tapi_Word) := ⟨Try.isAgg24, Try.sizeOf24⟩
theorem el24 : ElAt Try.prog 24 (tL tapi_Word) := ⟨⟨Try.t24, _, Try.type24, rfl, rfl, by decide, rfl⟩, by decide⟩
theorem ze24 : ZeroAt Try.prog 24 (tL tapi_Word) ([] : List api_Word) := ⟨_, Try.zeroValue24, fun _ => ⟨_, ⟨none, 0, rfl, Nat.le_refl _, Nat.zero_le _, fun _ => rfl, rfl⟩, rfl⟩⟩
theorem ty25 : TyAt Try.prog 25 (tL tapi_Unit) := ⟨Try.isAgg25, Try.sizeOf25⟩
theorem el25 : ElAt Try.prog 25 (tL tapi_Unit) := ⟨⟨Try.t25, _, Try.type25, rfl, rfl, by decide, rfl⟩, by decide⟩
theorem ze25 : ZeroAt Try.prog 25 (tL tapi_Unit) ([] : List api_Unit) := ⟨_, Try.zeroValue25, fun _ => ⟨_, ⟨none, 0, rfl, Nat.le_refl _, Nat.zero_le _, fun _ => rfl, rfl⟩, rfl⟩⟩
theorem ty27 : TyAt Try.prog 27 tapi_Unit := ⟨Try.isAgg27, Try.sizeOf27⟩
theorem el27 : ElAt Try.prog 27 tapi_Unit := ⟨⟨Try.t27, _, Try.type27, rfl, rfl, by decide, rfl⟩, by decide⟩
theorem ze27 : ZeroAt Try.prog 27 tapi_Unit zapi_Unit := ⟨_, Try.zeroValue27, fun _ => ⟨_, (rapi_Unit.into.rep _ _ _ ⟨_, _, rfl, ⟨_, _, rfl, ⟨rfl, inR64.2 ⟨by decide, by decide⟩⟩, ⟨_, _, rfl, ⟨rfl, inR64.2 ⟨by decide, by decide⟩⟩, ⟨rfl, inR64.2 ⟨by decide, by decide⟩⟩⟩⟩, ⟨_, _, rfl, ⟨rfl, inR64.2 ⟨by decide, by decide⟩⟩, ⟨_, _, rfl, ⟨rfl, by decide⟩, ⟨_, _, rfl, ⟨none, 0, rfl, Nat.le_refl _, Nat.zero_le _, fun _ => rfl, rfl⟩, ⟨_, _, rfl, ⟨none, 0, rfl, Nat.le_refl _, Nat.zero_le _, fun _ => rfl, rfl⟩, ⟨none, 0, rfl, Nat.le_refl _, Nat.zero_le _, fun _ => rfl, rfl⟩⟩⟩⟩⟩⟩), rfl⟩⟩
theorem ty28 : TyAt Try.prog 28 (tL tapi_Step) := ⟨Try.isAgg28, Try.sizeOf28⟩
theorem el28 : ElAt Try.prog 28 (tL tapi_Step) := ⟨⟨Try.t28, _, Try.type28, rfl, rfl, by decide, rfl⟩, by decide⟩
theorem ze28 : ZeroAt Try.prog 28 (tL tapi_Step) ([] : List api_Step) := ⟨_, Try.zeroValue28, fun _ => ⟨_, ⟨none, 0, rfl, Nat.le_refl _, Nat.zero_le _, fun _ => rfl, rfl⟩, rfl⟩⟩
theorem ty32 : TyAt Try.prog 32 (tL tS) := ⟨Try.isAgg32, Try.sizeOf32⟩
theorem el32 : ElAt Try.prog 32 (tL tS) := ⟨⟨Try.t32, _, Try.type32, rfl, rfl, by decide, rfl⟩, by decide⟩
theorem ze32 : ZeroAt Try.prog 32 (tL tS) ([] : List Str) := ⟨_, Try.zeroValue32, fun _ => ⟨_, ⟨none, 0, rfl, Nat.le_refl _, Nat.zero_le _, fun _ => rfl, rfl⟩, rfl⟩⟩
theorem ty34 : TyAt Try.prog 34 tapi_Start := ⟨Try.isAgg34, Try.sizeOf34⟩
theorem el34 : ElAt Try.prog 34 tapi_Start := ⟨⟨Try.t34, _, Try.type34, rfl, rfl, by decide, rfl⟩, by decide⟩
theorem ze34 : ZeroAt Try.prog 34 tapi_Start zapi_Start := ⟨_, Try.zeroValue34, fun _ => ⟨_, ⟨_, _, rfl, ⟨rfl, inR64.2 ⟨by decide, by decide⟩⟩, ⟨_, _, rfl, ⟨rfl, inR64.2 ⟨by decide, by decide⟩⟩, ⟨rfl, by decide⟩⟩⟩, rfl⟩⟩
theorem ty35 : TyAt Try.prog 35 (tL tapi_Item) := ⟨Try.isAgg35, Try.sizeOf35⟩
theorem el35 : ElAt Try.prog 35 (tL tapi_Item) := ⟨⟨Try.t35, _, Try.type35, rfl, rfl, by decide, rfl⟩, by decide⟩
theorem ze35 : ZeroAt Try.prog 35 (tL tapi_Item) ([] : List api_Item) := ⟨_, Try.zeroValue35, fun _ => ⟨_, ⟨none, 0, rfl, Nat.le_refl _, Nat.zero_le _, fun _ => rfl, rfl⟩, rfl⟩⟩
theorem ty37 : TyAt Try.prog 37 tapi_Item := ⟨Try.isAgg37, Try.sizeOf37⟩
theorem el37 : ElAt Try.prog 37 tapi_Item := ⟨⟨Try.t37, _, Try.type37, rfl, rfl, by decide, rfl⟩, by decide⟩
theorem ze37 : ZeroAt Try.prog 37 tapi_Item zapi_Item := ⟨_, Try.zeroValue37, fun _ => ⟨_, (rapi_Item.into.rep _ _ _ ⟨_, _, rfl, ⟨rfl, inR64.2 ⟨by decide, by decide⟩⟩, ⟨_, _, rfl, ⟨none, 0, rfl, Nat.le_refl _, Nat.zero_le _, fun _ => rfl, rfl⟩, ⟨_, _, rfl, ⟨none, 0, rfl, Nat.le_refl _, Nat.zero_le _, fun _ => rfl, rfl⟩, ⟨_, _, rfl, ⟨rfl, inR64.2 ⟨by decide, by decide⟩⟩, ⟨_, _, rfl, ⟨rfl, inR64.2 ⟨by decide, by decide⟩⟩, ⟨_, _, rfl, (rapi_Unit.into.rep _ _ _ ⟨_, _, rfl, ⟨_, _, rfl, ⟨rfl, inR64.2 ⟨by decide, by decide⟩⟩, ⟨_, _, rfl, ⟨rfl, inR64.2 ⟨by decide, by decide⟩⟩, ⟨rfl, inR64.2 ⟨by decide, by decide⟩⟩⟩⟩, ⟨_, _, rfl, ⟨rfl, inR64.2 ⟨by decide, by decide⟩⟩, ⟨_, _, rfl, ⟨rfl, by decide⟩, ⟨_, _, rfl, ⟨none, 0, rfl, Nat.le_refl _, Nat.zero_le _, fun _ => rfl, rfl⟩, ⟨_, _, rfl, ⟨none, 0, rfl, Nat.le_refl _, Nat.zero_le _, fun _ => rfl, rfl⟩, ⟨none, 0, rfl, Nat.le_refl _, Nat.zero_le _, fun _ => rfl, rfl⟩⟩⟩⟩⟩⟩), ⟨_, _, rfl, ⟨none, 0, rfl, Nat.le_refl _, Nat.zero_le _, fun _ => rfl, rfl⟩, ⟨_, _, rfl, ⟨none, 0, rfl, Nat.le_refl _, Nat.zero_le _, fun _ => rfl, rfl⟩, ⟨_, _, rfl, ⟨rfl, by decide⟩, ⟨_, _, rfl, ⟨rfl, by decide⟩, ⟨_, _, rfl, ⟨_, _, rfl, ⟨rfl, inR64.2 ⟨by decide, by decide⟩⟩, ⟨_, _, rfl, ⟨rfl, inR64.2 ⟨by decide, by decide⟩⟩, ⟨rfl, by decide⟩⟩⟩, ⟨_, _, rfl, ⟨rfl, inR64.2 ⟨by decide, by decide⟩⟩, ⟨_, _, rfl, ⟨rfl, inR64.2 ⟨by decide, by decide⟩⟩, ⟨_, _, rfl, ⟨rfl, inR64.2 ⟨by decide, by decide⟩⟩, ⟨_, _, rfl, ⟨rfl, by decide⟩, ⟨none, 0, rfl, Nat.le_refl _, Nat.zero_le _, fun _ => rfl, rfl⟩⟩⟩⟩⟩⟩⟩⟩⟩⟩⟩⟩⟩⟩⟩⟩), rfl⟩⟩
theorem ty63 : TyAt Try.prog 63 tapi_Step := ⟨Try.isAgg63, Try.sizeOf63⟩
theorem el63 : ElAt Try.prog 63 tapi_Step := ⟨⟨Try.t63, _, Try.type63, rfl, rfl, by decide, rfl⟩, by decide⟩
theorem ze63 : ZeroAt Try.prog 63 tapi_Step zapi_Step := ⟨_, Try.zeroValue63, fun _ => ⟨_, ⟨_, _, rfl, ⟨rfl, inR64.2 ⟨by decide, by decide⟩⟩, ⟨rfl, by decide⟩⟩, rfl⟩⟩
theorem ty66 : TyAt Try.prog 66 ttarget_spot := ⟨Try.isAgg66, Try.sizeOf66⟩
theorem el66 : ElAt Try.prog 66 ttarget_spot := ⟨⟨Try.t66, _, Try.type66, rfl, rfl, by decide, rfl⟩, by decide⟩
theorem ze66 : ZeroAt Try.prog 66 ttarget_spot ztarget_spot := ⟨_, Try.zeroValue66, fun _ => ⟨_, ⟨_, _, rfl, ⟨_, _, rfl, ⟨rfl, inR64.2 ⟨by decide, by decide⟩⟩, ⟨_, _, rfl, ⟨rfl, inR64.2 ⟨by decide, by decide⟩⟩, ⟨rfl, inR64.2 ⟨by decide, by decide⟩⟩⟩⟩, ⟨rfl, inR64.2 ⟨by decide, by decide⟩⟩⟩, rfl⟩⟩
theorem ty68 : TyAt Try.prog 68 (tFun Try.prog (fun (f : api_Unit → api_Id → Option (target_spot × Int)) => (fun s : api_Unit × api_Id × (target_spot × Int) => f s.1 s.2.1 = some s.2.2)) (fun s : api_Unit × api_Id × (target_spot × Int) => [tapi_Unit.is s.1, tapi_Id.is s.2.1]) (fun s : api_Unit × api_Id × (target_spot × Int) => (Asn.tuple2 (ttarget_spot.is s.2.2.1) ((tI .i64).is s.2.2.2)))) := ⟨Try.isAgg68, Try.sizeOf68⟩
theorem el68 : ElAt Try.prog 68 (tFun Try.prog (fun (f : api_Unit → api_Id → Option (target_spot × Int)) => (fun s : api_Unit × api_Id × (target_spot × Int) => f s.1 s.2.1 = some s.2.2)) (fun s : api_Unit × api_Id × (target_spot × Int) => [tapi_Unit.is s.1, tapi_Id.is s.2.1]) (fun s : api_Unit × api_Id × (target_spot × Int) => (Asn.tuple2 (ttarget_spot.is s.2.2.1) ((tI .i64).is s.2.2.2)))) := ⟨⟨Try.t68, _, Try.type68, rfl, rfl, by decide, rfl⟩, by decide⟩
theorem ze68 : ZeroAt Try.prog 68 (tFun Try.prog (fun (f : api_Unit → api_Id → Option (target_spot × Int)) => (fun s : api_Unit × api_Id × (target_spot × Int) => f s.1 s.2.1 = some s.2.2)) (fun s : api_Unit × api_Id × (target_spot × Int) => [tapi_Unit.is s.1, tapi_Id.is s.2.1]) (fun s : api_Unit × api_Id × (target_spot × Int) => (Asn.tuple2 (ttarget_spot.is s.2.2.1) ((tI .i64).is s.2.2.2)))) (fun _ _ => none : api_Unit → api_Id → Option (target_spot × Int)) := ⟨_, Try.zeroValue68, fun _ => ⟨_, ⟨_, rfl, .inr ⟨rfl, fun s h => by cases h⟩⟩, rfl⟩⟩
theorem ty109 : TyAt Try.prog 109 tapi_Mark := ⟨Try.isAgg109, Try.sizeOf109⟩
theorem el109 : ElAt Try.prog 109 tapi_Mark := ⟨⟨Try.t109, _, Try.type109, rfl, rfl, by decide, rfl⟩, by decide⟩
theorem ze109 : ZeroAt Try.prog 109 tapi_Mark zapi_Mark := ⟨_, Try.zeroValue109, fun _ => ⟨_, ⟨_, _, rfl, ⟨rfl, inR64.2 ⟨by decide, by decide⟩⟩, ⟨_, _, rfl, ⟨rfl, inR64.2 ⟨by decide, by decide⟩⟩, ⟨rfl, inR64.2 ⟨by decide, by decide⟩⟩⟩⟩, rfl⟩⟩
theorem ty111 : TyAt Try.prog 111 tapi_Word := ⟨Try.isAgg111, Try.sizeOf111⟩
theorem el111 : ElAt Try.prog 111 tapi_Word := ⟨⟨Try.t111, _, Try.type111, rfl, rfl, by decide, rfl⟩, by decide⟩
theorem ze111 : ZeroAt Try.prog 111 tapi_Word zapi_Word := ⟨_, Try.zeroValue111, fun _ => ⟨_, ⟨_, _, rfl, ⟨rfl, by decide⟩, ⟨_, _, rfl, ⟨rfl, inR64.2 ⟨by decide, by decide⟩⟩, ⟨_, _, rfl, ⟨rfl, inR64.2 ⟨by decide, by decide⟩⟩, ⟨rfl, inR64.2 ⟨by decide, by decide⟩⟩⟩⟩⟩, rfl⟩⟩
theorem ty69 : TyAt Try.prog 69 (tA 4 (tFun Try.prog (fun (f : api_Unit → api_Id → Option (target_spot × Int)) => (fun s : api_Unit × api_Id × (target_spot × Int) => f s.1 s.2.1 = some s.2.2)) (fun s : api_Unit × api_Id × (target_spot × Int) => [tapi_Unit.is s.1, tapi_Id.is s.2.1]) (fun s : api_Unit × api_Id × (target_spot × Int) => (Asn.tuple2 (ttarget_spot.is s.2.2.1) ((tI .i64).is s.2.2.2))))) := ⟨Try.isAgg69, Try.sizeOf69⟩
theorem ze69 : ZeroAt Try.prog 69 (tA 4 (tFun Try.prog (fun (f : api_Unit → api_Id → Option (target_spot × Int)) => (fun s : api_Unit × api_Id × (target_spot × Int) => f s.1 s.2.1 = some s.2.2)) (fun s : api_Unit × api_Id × (target_spot × Int) => [tapi_Unit.is s.1, tapi_Id.is s.2.1]) (fun s : api_Unit × api_Id × (target_spot × Int) => (Asn.tuple2 (ttarget_spot.is s.2.2.1) ((tI .i64).is s.2.2.2))))) (List.replicate 4 (fun _ _ => none : api_Unit → api_Id → Option (target_spot × Int))) := ZeroAt.array ze68 Try.zeroValue68 Try.zeroValue69 rfl default
theorem ty94 : TyAt Try.prog 94 (tA 8 tS) := ⟨Try.isAgg94, Try.sizeOf94⟩
theorem ze94 : ZeroAt Try.prog 94 (tA 8 tS) (List.replicate 8 ([] : Str)) := ZeroAt.array ze9 Try.zeroValue9 Try.zeroValue94 rfl default
theorem eq23 : EqT (α := api_Id) (P := Try.prog) (T := 23) (t := tapi_Id) (D := 2) := EqT.struct (D := 1) rfl Try.underlying23 (by kernel_rfl) ⟨_, inferInstance, _, _, _, by decide, ty3, fapi_Id_0, ((EqT.int Try.underlying3).up (by decide)), ⟨_, inferInstance, _, _, _, by decide, ty3, fapi_Id_1, ((EqT.int Try.underlying3).up (by decide)), ⟨_, inferInstance, _, _, _, by decide, ty3, fapi_Id_2, ((EqT.int Try.underlying3).up (by decide)), rfl, rfl⟩, rfl⟩, rfl⟩ (fun x y => by cases x; cases y; simp)
theorem eg23 : Try.prog.eqGuardType Try.prog.depth 23 = false := by kernel_rfl

end Go.Proofs.Ytfclekegoleiaaa
