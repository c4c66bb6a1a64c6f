/-
  How the types of the program are read.
-/
import Derived.Test.YtlegkjbldofkmaaDec23
import Derived.Test.YtlegkjbldofkmaaMdl
import Derived.Test.YtlegkjbldofkmaaProg
import Derived.KernelRfl
set_option maxRecDepth 100000
namespace Go.Proofs.Ytlegkjbldofkmaa
open Go Go.Dec

theorem Try.mixed : Try.prog.follows .mixedOrders = true := by kernel_rfl

def tapi_Id : Ty api_Id := tMap (tP (tI .i64) (tP (tI .i64) (tOne (tI .i64)))) (fun x : api_Id => (x.Act, x.Item, x.N))
theorem fapi_Id_0 : Fld tapi_Id 0 (tI .i64) (fun x => x.Act) := (Fld.map (m := (fun x : api_Id => (x.Act, x.Item, x.N))) (Fld.here (tI .i64) (tP (tI .i64) (tOne (tI .i64))))).cast rfl rfl
theorem sapi_Id_0 : FldSet tapi_Id 0 (tI .i64) (fun x y => { x with Act := y }) := (FldSet.map (m := (fun x : api_Id => (x.Act, x.Item, x.N))) (f' := fun x y => { x with Act := y }) (FldSet.here (tI .i64) (tP (tI .i64) (tOne (tI .i64)))) (fun _ _ => rfl)).cast rfl rfl
theorem fapi_Id_1 : Fld tapi_Id 1 (tI .i64) (fun x => x.Item) := (Fld.map (m := (fun x : api_Id => (x.Act, x.Item, x.N))) (Fld.next (s := (tI .i64)) (Fld.here (tI .i64) (tOne (tI .i64))))).cast rfl rfl
theorem sapi_Id_1 : FldSet tapi_Id 1 (tI .i64) (fun x y => { x with Item := y }) := (FldSet.map (m := (fun x : api_Id => (x.Act, x.Item, x.N))) (f' := fun x y => { x with Item := y }) (FldSet.next (s := (tI .i64)) (FldSet.here (tI .i64) (tOne (tI .i64)))) (fun _ _ => rfl)).cast rfl rfl
theorem fapi_Id_2 : Fld tapi_Id 2 (tI .i64) (fun x => x.N) := (Fld.map (m := (fun x : api_Id => (x.Act, x.Item, x.N))) (Fld.next (s := (tI .i64)) (Fld.next (s := (tI .i64)) (Fld.one (tI .i64))))).cast rfl rfl
theorem sapi_Id_2 : FldSet tapi_Id 2 (tI .i64) (fun x y => { x with N := y }) := (FldSet.map (m := (fun x : api_Id => (x.Act, x.Item, x.N))) (f' := fun x y => { x with N := y }) (FldSet.next (s := (tI .i64)) (FldSet.next (s := (tI .i64)) (FldSet.one (tI .i64)))) (fun _ _ => rfl)).cast rfl rfl
def zapi_Id_f (fd : Field) : Nat := if fd.type = 3 then 1 else 0
theorem zapi_Id_sz : ∀ fs, Try.prog.underlying 23 = some (.struct fs) → ∀ fd, fd ∈ fs → ∀ w, (sizeOf fd.type).run Try.prog w = .ok (zapi_Id_f fd) w := by
  intro fs h
  rw [Try.underlying23] at h
  cases h
  intro fd hfd w
  simp only [List.mem_toArray, List.mem_cons, List.not_mem_nil, or_false] at hfd
  rcases hfd with rfl | rfl | rfl
  · exact Try.sizeOf3 w
  · exact Try.sizeOf3 w
  · exact Try.sizeOf3 w

def tapi_Mark : Ty api_Mark := tMap (tP (tI .i64) (tP (tI .i64) (tOne (tI .i64)))) (fun x : api_Mark => (x.Act, x.Item, x.At))
theorem fapi_Mark_0 : Fld tapi_Mark 0 (tI .i64) (fun x => x.Act) := (Fld.map (m := (fun x : api_Mark => (x.Act, x.Item, x.At))) (Fld.here (tI .i64) (tP (tI .i64) (tOne (tI .i64))))).cast rfl rfl
theorem sapi_Mark_0 : FldSet tapi_Mark 0 (tI .i64) (fun x y => { x with Act := y }) := (FldSet.map (m := (fun x : api_Mark => (x.Act, x.Item, x.At))) (f' := fun x y => { x with Act := y }) (FldSet.here (tI .i64) (tP (tI .i64) (tOne (tI .i64)))) (fun _ _ => rfl)).cast rfl rfl
theorem fapi_Mark_1 : Fld tapi_Mark 1 (tI .i64) (fun x => x.Item) := (Fld.map (m := (fun x : api_Mark => (x.Act, x.Item, x.At))) (Fld.next (s := (tI .i64)) (Fld.here (tI .i64) (tOne (tI .i64))))).cast rfl rfl
theorem sapi_Mark_1 : FldSet tapi_Mark 1 (tI .i64) (fun x y => { x with Item := y }) := (FldSet.map (m := (fun x : api_Mark => (x.Act, x.Item, x.At))) (f' := fun x y => { x with Item := y }) (FldSet.next (s := (tI .i64)) (FldSet.here (tI .i64) (tOne (tI .i64)))) (fun _ _ => rfl)).cast rfl rfl
theorem fapi_Mark_2 : Fld tapi_Mark 2 (tI .i64) (fun x => x.At) := (Fld.map (m := (fun x : api_Mark => (x.Act, x.Item, x.At))) (Fld.next (s := (tI .i64)) (Fld.next (s := (tI .i64)) (Fld.one (tI .i64))))).cast rfl rfl
theorem sapi_Mark_2 : FldSet tapi_Mark 2 (tI .i64) (fun x y => { x with At := y }) := (FldSet.map (m := (fun x : api_Mark => (x.Act, x.Item, x.At))) (f' := fun x y => { x with At := y }) (FldSet.next (s := (tI .i64)) (FldSet.next (s := (tI .i64)) (FldSet.one (tI .i64)))) (fun _ _ => rfl)).cast rfl rfl
def zapi_Mark_f (fd : Field) : Nat := if fd.type = 3 then 1 else 0
theorem zapi_Mark_sz : ∀ fs, Try.prog.underlying 98 = some (.struct fs) → ∀ fd, fd ∈ fs → ∀ w, (sizeOf fd.type).run Try.prog w = .ok (zapi_Mark_f fd) w := by
  intro fs h
  rw [Try.underlying98] at h
  cases h
  intro fd hfd w
  simp only [List.mem_toArray, List.mem_cons, List.not_mem_nil, or_false] at hfd
  rcases hfd with rfl | rfl | rfl
  · exact Try.sizeOf3 w
  · exact Try.sizeOf3 w
  · exact Try.sizeOf3 w

def tapi_Word : Ty api_Word := tMap (tP tS (tOne tapi_Mark)) (fun x : api_Word => (x.Text, x.By))
theorem fapi_Word_0 : Fld tapi_Word 0 tS (fun x => x.Text) := (Fld.map (m := (fun x : api_Word => (x.Text, x.By))) (Fld.here tS (tOne tapi_Mark))).cast rfl rfl
theorem sapi_Word_0 : FldSet tapi_Word 0 tS (fun x y => { x with Text := y }) := (FldSet.map (m := (fun x : api_Word => (x.Text, x.By))) (f' := fun x y => { x with Text := y }) (FldSet.here tS (tOne tapi_Mark)) (fun _ _ => rfl)).cast rfl rfl
theorem fapi_Word_1 : Fld tapi_Word 1 tapi_Mark (fun x => x.By) := (Fld.map (m := (fun x : api_Word => (x.Text, x.By))) (Fld.next (s := tS) (Fld.one tapi_Mark))).cast rfl rfl
theorem sapi_Word_1 : FldSet tapi_Word 1 tapi_Mark (fun x y => { x with By := y }) := (FldSet.map (m := (fun x : api_Word => (x.Text, x.By))) (f' := fun x y => { x with By := y }) (FldSet.next (s := tS) (FldSet.one tapi_Mark)) (fun _ _ => rfl)).cast rfl rfl
def zapi_Word_f (fd : Field) : Nat := if fd.type = 9 then 1 else if fd.type = 98 then 3 else 0
theorem zapi_Word_sz : ∀ fs, Try.prog.underlying 100 = some (.struct fs) → ∀ fd, fd ∈ fs → ∀ w, (sizeOf fd.type).run Try.prog w = .ok (zapi_Word_f fd) w := by
  intro fs h
  rw [Try.underlying100] at h
  cases h
  intro fd hfd w
  simp only [List.mem_toArray, List.mem_cons, List.not_mem_nil, or_false] at hfd
  rcases hfd with rfl | rfl
  · exact Try.sizeOf9 w
  · exact Try.sizeOf98 w

def Fapi_Unit (X : Ty api_Unit) : Ty api_Unit := tMap (tP tapi_Id (tP (tI .i64) (tP tS (tP (tL tapi_Word) (tP (tL tapi_Word) (tOne (tL X))))))) (fun x : api_Unit => (x.Id, x.Kind, x.Label, x.Head, x.Words, x.Kids))
theorem capi_Unit : Cont Fapi_Unit := Cont.map (fun x : api_Unit => (x.Id, x.Kind, x.Label, x.Head, x.Words, x.Kids)) (Cont.pair (Cont.const _) (Cont.pair (Cont.const _) (Cont.pair (Cont.const _) (Cont.pair (Cont.const _) (Cont.pair (Cont.const _) (Cont.one ((Cont.list Cont.id))))))))
theorem rapi_Unit : Rec Fapi_Unit 8 := ⟨capi_Unit, rfl, rfl⟩
def tapi_Unit : Ty api_Unit := tFix rapi_Unit
theorem fapi_Unit_0 : Fld tapi_Unit 0 tapi_Id (fun x => x.Id) := Fld.le rapi_Unit.out ((Fld.map (m := (fun x : api_Unit => (x.Id, x.Kind, x.Label, x.Head, x.Words, x.Kids))) (Fld.here tapi_Id (tP (tI .i64) (tP tS (tP (tL tapi_Word) (tP (tL tapi_Word) (tOne (tL tapi_Unit)))))))).cast rfl rfl)
theorem sapi_Unit_0 : FldSet tapi_Unit 0 tapi_Id (fun x y => { x with Id := y }) := FldSet.le rapi_Unit.out rapi_Unit.into ((FldSet.map (m := (fun x : api_Unit => (x.Id, x.Kind, x.Label, x.Head, x.Words, x.Kids))) (f' := fun x y => { x with Id := y }) (FldSet.here tapi_Id (tP (tI .i64) (tP tS (tP (tL tapi_Word) (tP (tL tapi_Word) (tOne (tL tapi_Unit))))))) (fun _ _ => rfl)).cast rfl rfl)
theorem fapi_Unit_1 : Fld tapi_Unit 3 (tI .i64) (fun x => x.Kind) := Fld.le rapi_Unit.out ((Fld.map (m := (fun x : api_Unit => (x.Id, x.Kind, x.Label, x.Head, x.Words, x.Kids))) (Fld.next (s := tapi_Id) (Fld.here (tI .i64) (tP tS (tP (tL tapi_Word) (tP (tL tapi_Word) (tOne (tL tapi_Unit)))))))).cast rfl rfl)
theorem sapi_Unit_1 : FldSet tapi_Unit 3 (tI .i64) (fun x y => { x with Kind := y }) := FldSet.le rapi_Unit.out rapi_Unit.into ((FldSet.map (m := (fun x : api_Unit => (x.Id, x.Kind, x.Label, x.Head, x.Words, x.Kids))) (f' := fun x y => { x with Kind := y }) (FldSet.next (s := tapi_Id) (FldSet.here (tI .i64) (tP tS (tP (tL tapi_Word) (tP (tL tapi_Word) (tOne (tL tapi_Unit))))))) (fun _ _ => rfl)).cast rfl rfl)
theorem fapi_Unit_2 : Fld tapi_Unit 4 tS (fun x => x.Label) := Fld.le rapi_Unit.out ((Fld.map (m := (fun x : api_Unit => (x.Id, x.Kind, x.Label, x.Head, x.Words, x.Kids))) (Fld.next (s := tapi_Id) (Fld.next (s := (tI .i64)) (Fld.here tS (tP (tL tapi_Word) (tP (tL tapi_Word) (tOne (tL tapi_Unit)))))))).cast rfl rfl)
theorem sapi_Unit_2 : FldSet tapi_Unit 4 tS (fun x y => { x with Label := y }) := FldSet.le rapi_Unit.out rapi_Unit.into ((FldSet.map (m := (fun x : api_Unit => (x.Id, x.Kind, x.Label, x.Head, x.Words, x.Kids))) (f' := fun x y => { x with Label := y }) (FldSet.next (s := tapi_Id) (FldSet.next (s := (tI .i64)) (FldSet.here tS (tP (tL tapi_Word) (tP (tL tapi_Word) (tOne (tL tapi_Unit))))))) (fun _ _ => rfl)).cast rfl rfl)
theorem fapi_Unit_3 : Fld tapi_Unit 5 (tL tapi_Word) (fun x => x.Head) := Fld.le rapi_Unit.out ((Fld.map (m := (fun x : api_Unit => (x.Id, x.Kind, x.Label, x.Head, x.Words, x.Kids))) (Fld.next (s := tapi_Id) (Fld.next (s := (tI .i64)) (Fld.next (s := tS) (Fld.here (tL tapi_Word) (tP (tL tapi_Word) (tOne (tL tapi_Unit)))))))).cast rfl rfl)
theorem sapi_Unit_3 : FldSet tapi_Unit 5 (tL tapi_Word) (fun x y => { x with Head := y }) := FldSet.le rapi_Unit.out rapi_Unit.into ((FldSet.map (m := (fun x : api_Unit => (x.Id, x.Kind, x.Label, x.Head, x.Words, x.Kids))) (f' := fun x y => { x with Head := y }) (FldSet.next (s := tapi_Id) (FldSet.next (s := (tI .i64)) (FldSet.next (s := tS) (FldSet.here (tL tapi_Word) (tP (tL tapi_Word) (tOne (tL tapi_Unit))))))) (fun _ _ => rfl)).cast rfl rfl)
theorem fapi_Unit_4 : Fld tapi_Unit 6 (tL tapi_Word) (fun x => x.Words) := Fld.le rapi_Unit.out ((Fld.map (m := (fun x : api_Unit => (x.Id, x.Kind, x.Label, x.Head, x.Words, x.Kids))) (Fld.next (s := tapi_Id) (Fld.next (s := (tI .i64)) (Fld.next (s := tS) (Fld.next (s := (tL tapi_Word)) (Fld.here (tL tapi_Word) (tOne (tL tapi_Unit)))))))).cast rfl rfl)
theorem sapi_Unit_4 : FldSet tapi_Unit 6 (tL tapi_Word) (fun x y => { x with Words := y }) := FldSet.le rapi_Unit.out rapi_Unit.into ((FldSet.map (m := (fun x : api_Unit => (x.Id, x.Kind, x.Label, x.Head, x.Words, x.Kids))) (f' := fun x y => { x with Words := y }) (FldSet.next (s := tapi_Id) (FldSet.next (s := (tI .i64)) (FldSet.next (s := tS) (FldSet.next (s := (tL tapi_Word)) (FldSet.here (tL tapi_Word) (tOne (tL tapi_Unit))))))) (fun _ _ => rfl)).cast rfl rfl)
theorem fapi_Unit_5 : Fld tapi_Unit 7 (tL tapi_Unit) (fun x => x.Kids) := Fld.le rapi_Unit.out ((Fld.map (m := (fun x : api_Unit => (x.Id, x.Kind, x.Label, x.Head, x.Words, x.Kids))) (Fld.next (s := tapi_Id) (Fld.next (s := (tI .i64)) (Fld.next (s := tS) (Fld.next (s := (tL tapi_Word)) (Fld.next (s := (tL tapi_Word)) (Fld.one (tL tapi_Unit)))))))).cast rfl rfl)
theorem sapi_Unit_5 : FldSet tapi_Unit 7 (tL tapi_Unit) (fun x y => { x with Kids := y }) := FldSet.le rapi_Unit.out rapi_Unit.into ((FldSet.map (m := (fun x : api_Unit => (x.Id, x.Kind, x.Label, x.Head, x.Words, x.Kids))) (f' := fun x y => { x with Kids := y }) (FldSet.next (s := tapi_Id) (FldSet.next (s := (tI .i64)) (FldSet.next (s := tS) (FldSet.next (s := (tL tapi_Word)) (FldSet.next (s := (tL tapi_Word)) (FldSet.one (tL tapi_Unit))))))) (fun _ _ => rfl)).cast rfl rfl)
def zapi_Unit_f (fd : Field) : Nat := if fd.type = 3 then 1 else if fd.type = 9 then 1 else if fd.type = 23 then 3 else if fd.type = 24 then 1 else if fd.type = 25 then 1 else 0
theorem zapi_Unit_sz : ∀ fs, Try.prog.underlying 27 = some (.struct fs) → ∀ fd, fd ∈ fs → ∀ w, (sizeOf fd.type).run Try.prog w = .ok (zapi_Unit_f fd) w := by
  intro fs h
  rw [Try.underlying27] at h
  cases h
  intro fd hfd w
  simp only [List.mem_toArray, List.mem_cons, List.not_mem_nil, or_false] at hfd
  rcases hfd with rfl | rfl | rfl | rfl | rfl | rfl
  · exact Try.sizeOf23 w
  · exact Try.sizeOf3 w
  · exact Try.sizeOf9 w
  · exact Try.sizeOf24 w
  · exact Try.sizeOf24 w
  · exact Try.sizeOf25 w

def tapi_Step : Ty api_Step := tMap (tP (tI .i64) (tOne tS)) (fun x : api_Step => (x.Kind, x.Label))
theorem fapi_Step_0 : Fld tapi_Step 0 (tI .i64) (fun x => x.Kind) := (Fld.map (m := (fun x : api_Step => (x.Kind, x.Label))) (Fld.here (tI .i64) (tOne tS))).cast rfl rfl
theorem sapi_Step_0 : FldSet tapi_Step 0 (tI .i64) (fun x y => { x with Kind := y }) := (FldSet.map (m := (fun x : api_Step => (x.Kind, x.Label))) (f' := fun x y => { x with Kind := y }) (FldSet.here (tI .i64) (tOne tS)) (fun _ _ => rfl)).cast rfl rfl
theorem fapi_Step_1 : Fld tapi_Step 1 tS (fun x => x.Label) := (Fld.map (m := (fun x : api_Step => (x.Kind, x.Label))) (Fld.next (s := (tI .i64)) (Fld.one tS))).cast rfl rfl
theorem sapi_Step_1 : FldSet tapi_Step 1 tS (fun x y => { x with Label := y }) := (FldSet.map (m := (fun x : api_Step => (x.Kind, x.Label))) (f' := fun x y => { x with Label := y }) (FldSet.next (s := (tI .i64)) (FldSet.one tS)) (fun _ _ => rfl)).cast rfl rfl
def zapi_Step_f (fd : Field) : Nat := if fd.type = 3 then 1 else if fd.type = 9 then 1 else 0
theorem zapi_Step_sz : ∀ fs, Try.prog.underlying 55 = some (.struct fs) → ∀ fd, fd ∈ fs → ∀ w, (sizeOf fd.type).run Try.prog w = .ok (zapi_Step_f fd) w := by
  intro fs h
  rw [Try.underlying55] at h
  cases h
  intro fd hfd w
  simp only [List.mem_toArray, List.mem_cons, List.not_mem_nil, or_false] at hfd
  rcases hfd with rfl | rfl
  · exact Try.sizeOf3 w
  · exact Try.sizeOf9 w

def tapi_Cite : Ty api_Cite := tMap (tP (tI .i64) (tP (tL tapi_Step) (tP tS (tP (tI .i64) (tOne (tI .i64)))))) (fun x : api_Cite => (x.Kind, x.Path, x.To, x.From, x.At))
theorem fapi_Cite_0 : Fld tapi_Cite 0 (tI .i64) (fun x => x.Kind) := (Fld.map (m := (fun x : api_Cite => (x.Kind, x.Path, x.To, x.From, x.At))) (Fld.here (tI .i64) (tP (tL tapi_Step) (tP tS (tP (tI .i64) (tOne (tI .i64))))))).cast rfl rfl
theorem sapi_Cite_0 : FldSet tapi_Cite 0 (tI .i64) (fun x y => { x with Kind := y }) := (FldSet.map (m := (fun x : api_Cite => (x.Kind, x.Path, x.To, x.From, x.At))) (f' := fun x y => { x with Kind := y }) (FldSet.here (tI .i64) (tP (tL tapi_Step) (tP tS (tP (tI .i64) (tOne (tI .i64)))))) (fun _ _ => rfl)).cast rfl rfl
theorem fapi_Cite_1 : Fld tapi_Cite 1 (tL tapi_Step) (fun x => x.Path) := (Fld.map (m := (fun x : api_Cite => (x.Kind, x.Path, x.To, x.From, x.At))) (Fld.next (s := (tI .i64)) (Fld.here (tL tapi_Step) (tP tS (tP (tI .i64) (tOne (tI .i64))))))).cast rfl rfl
theorem sapi_Cite_1 : FldSet tapi_Cite 1 (tL tapi_Step) (fun x y => { x with Path := y }) := (FldSet.map (m := (fun x : api_Cite => (x.Kind, x.Path, x.To, x.From, x.At))) (f' := fun x y => { x with Path := y }) (FldSet.next (s := (tI .i64)) (FldSet.here (tL tapi_Step) (tP tS (tP (tI .i64) (tOne (tI .i64)))))) (fun _ _ => rfl)).cast rfl rfl
theorem fapi_Cite_2 : Fld tapi_Cite 2 tS (fun x => x.To) := (Fld.map (m := (fun x : api_Cite => (x.Kind, x.Path, x.To, x.From, x.At))) (Fld.next (s := (tI .i64)) (Fld.next (s := (tL tapi_Step)) (Fld.here tS (tP (tI .i64) (tOne (tI .i64))))))).cast rfl rfl
theorem sapi_Cite_2 : FldSet tapi_Cite 2 tS (fun x y => { x with To := y }) := (FldSet.map (m := (fun x : api_Cite => (x.Kind, x.Path, x.To, x.From, x.At))) (f' := fun x y => { x with To := y }) (FldSet.next (s := (tI .i64)) (FldSet.next (s := (tL tapi_Step)) (FldSet.here tS (tP (tI .i64) (tOne (tI .i64)))))) (fun _ _ => rfl)).cast rfl rfl
theorem fapi_Cite_3 : Fld tapi_Cite 3 (tI .i64) (fun x => x.From) := (Fld.map (m := (fun x : api_Cite => (x.Kind, x.Path, x.To, x.From, x.At))) (Fld.next (s := (tI .i64)) (Fld.next (s := (tL tapi_Step)) (Fld.next (s := tS) (Fld.here (tI .i64) (tOne (tI .i64))))))).cast rfl rfl
theorem sapi_Cite_3 : FldSet tapi_Cite 3 (tI .i64) (fun x y => { x with From := y }) := (FldSet.map (m := (fun x : api_Cite => (x.Kind, x.Path, x.To, x.From, x.At))) (f' := fun x y => { x with From := y }) (FldSet.next (s := (tI .i64)) (FldSet.next (s := (tL tapi_Step)) (FldSet.next (s := tS) (FldSet.here (tI .i64) (tOne (tI .i64)))))) (fun _ _ => rfl)).cast rfl rfl
theorem fapi_Cite_4 : Fld tapi_Cite 4 (tI .i64) (fun x => x.At) := (Fld.map (m := (fun x : api_Cite => (x.Kind, x.Path, x.To, x.From, x.At))) (Fld.next (s := (tI .i64)) (Fld.next (s := (tL tapi_Step)) (Fld.next (s := tS) (Fld.next (s := (tI .i64)) (Fld.one (tI .i64))))))).cast rfl rfl
theorem sapi_Cite_4 : FldSet tapi_Cite 4 (tI .i64) (fun x y => { x with At := y }) := (FldSet.map (m := (fun x : api_Cite => (x.Kind, x.Path, x.To, x.From, x.At))) (f' := fun x y => { x with At := y }) (FldSet.next (s := (tI .i64)) (FldSet.next (s := (tL tapi_Step)) (FldSet.next (s := tS) (FldSet.next (s := (tI .i64)) (FldSet.one (tI .i64)))))) (fun _ _ => rfl)).cast rfl rfl
def zapi_Cite_f (fd : Field) : Nat := if fd.type = 3 then 1 else if fd.type = 9 then 1 else if fd.type = 28 then 1 else 0
theorem zapi_Cite_sz : ∀ fs, Try.prog.underlying 30 = some (.struct fs) → ∀ fd, fd ∈ fs → ∀ w, (sizeOf fd.type).run Try.prog w = .ok (zapi_Cite_f fd) w := by
  intro fs h
  rw [Try.underlying30] at h
  cases h
  intro fd hfd w
  simp only [List.mem_toArray, List.mem_cons, List.not_mem_nil, or_false] at hfd
  rcases hfd with rfl | rfl | rfl | rfl | rfl
  · exact Try.sizeOf3 w
  · exact Try.sizeOf28 w
  · exact Try.sizeOf9 w
  · exact Try.sizeOf3 w
  · exact Try.sizeOf3 w

def tresolve_scene : Ty resolve_scene := tMap (tP tapi_Unit (tP tapi_Id (tOne (tL tapi_Id)))) (fun x : resolve_scene => (x.u_, x.at_, x.said_))
theorem fresolve_scene_0 : Fld tresolve_scene 0 tapi_Unit (fun x => x.u_) := (Fld.map (m := (fun x : resolve_scene => (x.u_, x.at_, x.said_))) (Fld.here tapi_Unit (tP tapi_Id (tOne (tL tapi_Id))))).cast rfl rfl
theorem sresolve_scene_0 : FldSet tresolve_scene 0 tapi_Unit (fun x y => { x with u_ := y }) := (FldSet.map (m := (fun x : resolve_scene => (x.u_, x.at_, x.said_))) (f' := fun x y => { x with u_ := y }) (FldSet.here tapi_Unit (tP tapi_Id (tOne (tL tapi_Id)))) (fun _ _ => rfl)).cast rfl rfl
theorem fresolve_scene_1 : Fld tresolve_scene 8 tapi_Id (fun x => x.at_) := (Fld.map (m := (fun x : resolve_scene => (x.u_, x.at_, x.said_))) (Fld.next (s := tapi_Unit) (Fld.here tapi_Id (tOne (tL tapi_Id))))).cast rfl rfl
theorem sresolve_scene_1 : FldSet tresolve_scene 8 tapi_Id (fun x y => { x with at_ := y }) := (FldSet.map (m := (fun x : resolve_scene => (x.u_, x.at_, x.said_))) (f' := fun x y => { x with at_ := y }) (FldSet.next (s := tapi_Unit) (FldSet.here tapi_Id (tOne (tL tapi_Id)))) (fun _ _ => rfl)).cast rfl rfl
theorem fresolve_scene_2 : Fld tresolve_scene 11 (tL tapi_Id) (fun x => x.said_) := (Fld.map (m := (fun x : resolve_scene => (x.u_, x.at_, x.said_))) (Fld.next (s := tapi_Unit) (Fld.next (s := tapi_Id) (Fld.one (tL tapi_Id))))).cast rfl rfl
theorem sresolve_scene_2 : FldSet tresolve_scene 11 (tL tapi_Id) (fun x y => { x with said_ := y }) := (FldSet.map (m := (fun x : resolve_scene => (x.u_, x.at_, x.said_))) (f' := fun x y => { x with said_ := y }) (FldSet.next (s := tapi_Unit) (FldSet.next (s := tapi_Id) (FldSet.one (tL tapi_Id)))) (fun _ _ => rfl)).cast rfl rfl
def zresolve_scene_f (fd : Field) : Nat := if fd.type = 23 then 3 else if fd.type = 27 then 8 else if fd.type = 31 then 1 else 0
theorem zresolve_scene_sz : ∀ fs, Try.prog.underlying 62 = some (.struct fs) → ∀ fd, fd ∈ fs → ∀ w, (sizeOf fd.type).run Try.prog w = .ok (zresolve_scene_f fd) w := by
  intro fs h
  rw [Try.underlying62] at h
  cases h
  intro fd hfd w
  simp only [List.mem_toArray, List.mem_cons, List.not_mem_nil, or_false] at hfd
  rcases hfd with rfl | rfl | rfl
  · exact Try.sizeOf27 w
  · exact Try.sizeOf23 w
  · exact Try.sizeOf31 w


theorem ty3 : TyAt Try.prog 3 (tI .i64) := ⟨Try.isAgg3, Try.sizeOf3⟩
theorem el3 : ElAt Try.prog 3 (tI .i64) := ⟨⟨Try.t3, _, Try.type3, rfl, rfl, by decide, rfl⟩, by decide⟩
theorem ze3 : ZeroAt Try.prog 3 (tI .i64) (0 : Int) := ⟨_, Try.zeroValue3, fun _ => ⟨_, ⟨rfl, inR64.2 ⟨by decide, by decide⟩⟩, rfl⟩⟩
theorem ty9 : TyAt Try.prog 9 tS := ⟨Try.isAgg9, Try.sizeOf9⟩
theorem el9 : ElAt Try.prog 9 tS := ⟨⟨Try.t9, _, Try.type9, rfl, rfl, by decide, rfl⟩, by decide⟩
theorem ze9 : ZeroAt Try.prog 9 tS ([] : Str) := ⟨_, Try.zeroValue9, fun _ => ⟨_, ⟨rfl, by decide⟩, rfl⟩⟩
theorem ty23 : TyAt Try.prog 23 tapi_Id := ⟨Try.isAgg23, Try.sizeOf23⟩
theorem el23 : ElAt Try.prog 23 tapi_Id := ⟨⟨Try.t23, _, Try.type23, rfl, rfl, by decide, rfl⟩, by decide⟩
theorem ze23 : ZeroAt Try.prog 23 tapi_Id zapi_Id := ⟨_, Try.zeroValue23, fun _ => ⟨_, ⟨_, _, rfl, ⟨rfl, inR64.2 ⟨by decide, by decide⟩⟩, ⟨_, _, rfl, ⟨rfl, inR64.2 ⟨by decide, by decide⟩⟩, ⟨rfl, inR64.2 ⟨by decide, by decide⟩⟩⟩⟩, rfl⟩⟩
theorem ty24 : TyAt Try.prog 24 (tL tapi_Word) := ⟨Try.isAgg24, Try.sizeOf24⟩
theorem el24 : ElAt Try.prog 24 (tL tapi_Word) := ⟨⟨Try.t24, _, Try.type24, rfl, rfl, by decide, rfl⟩, by decide⟩
theorem ze24 : ZeroAt Try.prog 24 (tL tapi_Word) ([] : List api_Word) := ⟨_, Try.zeroValue24, fun _ => ⟨_, ⟨none, 0, rfl, Nat.le_refl _, Nat.zero_le _, fun _ => rfl, rfl⟩, rfl⟩⟩
theorem ty25 : TyAt Try.prog 25 (tL tapi_Unit) := ⟨Try.isAgg25, Try.sizeOf25⟩
theorem el25 : ElAt Try.prog 25 (tL tapi_Unit) := ⟨⟨Try.t25, _, Try.type25, rfl, rfl, by decide, rfl⟩, by decide⟩
theorem ze25 : ZeroAt Try.prog 25 (tL tapi_Unit) ([] : List api_Unit) := ⟨_, Try.zeroValue25, fun _ => ⟨_, ⟨none, 0, rfl, Nat.le_refl _, Nat.zero_le _, fun _ => rfl, rfl⟩, rfl⟩⟩
theorem ty27 : TyAt Try.prog 27 tapi_Unit := ⟨Try.isAgg27, Try.sizeOf27⟩
theorem el27 : ElAt Try.prog 27 tapi_Unit := ⟨⟨Try.t27, _, Try.type27, rfl, rfl, by decide, rfl⟩, by decide⟩
theorem ze27 : ZeroAt Try.prog 27 tapi_Unit zapi_Unit := ⟨_, Try.zeroValue27, fun _ => ⟨_, (rapi_Unit.into.rep _ _ _ ⟨_, _, rfl, ⟨_, _, rfl, ⟨rfl, inR64.2 ⟨by decide, by decide⟩⟩, ⟨_, _, rfl, ⟨rfl, inR64.2 ⟨by decide, by decide⟩⟩, ⟨rfl, inR64.2 ⟨by decide, by decide⟩⟩⟩⟩, ⟨_, _, rfl, ⟨rfl, inR64.2 ⟨by decide, by decide⟩⟩, ⟨_, _, rfl, ⟨rfl, by decide⟩, ⟨_, _, rfl, ⟨none, 0, rfl, Nat.le_refl _, Nat.zero_le _, fun _ => rfl, rfl⟩, ⟨_, _, rfl, ⟨none, 0, rfl, Nat.le_refl _, Nat.zero_le _, fun _ => rfl, rfl⟩, ⟨none, 0, rfl, Nat.le_refl _, Nat.zero_le _, fun _ => rfl, rfl⟩⟩⟩⟩⟩⟩), rfl⟩⟩
theorem ty28 : TyAt Try.prog 28 (tL tapi_Step) := ⟨Try.isAgg28, Try.sizeOf28⟩
theorem el28 : ElAt Try.prog 28 (tL tapi_Step) := ⟨⟨Try.t28, _, Try.type28, rfl, rfl, by decide, rfl⟩, by decide⟩
theorem ze28 : ZeroAt Try.prog 28 (tL tapi_Step) ([] : List api_Step) := ⟨_, Try.zeroValue28, fun _ => ⟨_, ⟨none, 0, rfl, Nat.le_refl _, Nat.zero_le _, fun _ => rfl, rfl⟩, rfl⟩⟩
theorem ty30 : TyAt Try.prog 30 tapi_Cite := ⟨Try.isAgg30, Try.sizeOf30⟩
theorem el30 : ElAt Try.prog 30 tapi_Cite := ⟨⟨Try.t30, _, Try.type30, rfl, rfl, by decide, rfl⟩, by decide⟩
theorem ze30 : ZeroAt Try.prog 30 tapi_Cite zapi_Cite := ⟨_, Try.zeroValue30, fun _ => ⟨_, ⟨_, _, rfl, ⟨rfl, inR64.2 ⟨by decide, by decide⟩⟩, ⟨_, _, rfl, ⟨none, 0, rfl, Nat.le_refl _, Nat.zero_le _, fun _ => rfl, rfl⟩, ⟨_, _, rfl, ⟨rfl, by decide⟩, ⟨_, _, rfl, ⟨rfl, inR64.2 ⟨by decide, by decide⟩⟩, ⟨rfl, inR64.2 ⟨by decide, by decide⟩⟩⟩⟩⟩⟩, rfl⟩⟩
theorem ty31 : TyAt Try.prog 31 (tL tapi_Id) := ⟨Try.isAgg31, Try.sizeOf31⟩
theorem el31 : ElAt Try.prog 31 (tL tapi_Id) := ⟨⟨Try.t31, _, Try.type31, rfl, rfl, by decide, rfl⟩, by decide⟩
theorem ze31 : ZeroAt Try.prog 31 (tL tapi_Id) ([] : List api_Id) := ⟨_, Try.zeroValue31, fun _ => ⟨_, ⟨none, 0, rfl, Nat.le_refl _, Nat.zero_le _, fun _ => rfl, rfl⟩, rfl⟩⟩
theorem ty35 : TyAt Try.prog 35 (tI .i64) := ⟨Try.isAgg35, Try.sizeOf35⟩
theorem el35 : ElAt Try.prog 35 (tI .i64) := ⟨⟨Try.t35, _, Try.type35, rfl, rfl, by decide, rfl⟩, by decide⟩
theorem ze35 : ZeroAt Try.prog 35 (tI .i64) (0 : Int) := ⟨_, Try.zeroValue35, fun _ => ⟨_, ⟨rfl, inR64.2 ⟨by decide, by decide⟩⟩, rfl⟩⟩
theorem ty55 : TyAt Try.prog 55 tapi_Step := ⟨Try.isAgg55, Try.sizeOf55⟩
theorem el55 : ElAt Try.prog 55 tapi_Step := ⟨⟨Try.t55, _, Try.type55, rfl, rfl, by decide, rfl⟩, by decide⟩
theorem ze55 : ZeroAt Try.prog 55 tapi_Step zapi_Step := ⟨_, Try.zeroValue55, fun _ => ⟨_, ⟨_, _, rfl, ⟨rfl, inR64.2 ⟨by decide, by decide⟩⟩, ⟨rfl, by decide⟩⟩, rfl⟩⟩
theorem ty57 : TyAt Try.prog 57 (tFun Try.prog (fun (f : resolve_scene → api_Cite → Option ((List api_Id) × Int)) => (fun s : resolve_scene × api_Cite × ((List api_Id) × Int) => f s.1 s.2.1 = some s.2.2)) (fun s : resolve_scene × api_Cite × ((List api_Id) × Int) => [tresolve_scene.is s.1, tapi_Cite.is s.2.1]) (fun s : resolve_scene × api_Cite × ((List api_Id) × Int) => (Asn.tuple2 ((tL tapi_Id).is s.2.2.1) ((tI .i64).is s.2.2.2)))) := ⟨Try.isAgg57, Try.sizeOf57⟩
theorem el57 : ElAt Try.prog 57 (tFun Try.prog (fun (f : resolve_scene → api_Cite → Option ((List api_Id) × Int)) => (fun s : resolve_scene × api_Cite × ((List api_Id) × Int) => f s.1 s.2.1 = some s.2.2)) (fun s : resolve_scene × api_Cite × ((List api_Id) × Int) => [tresolve_scene.is s.1, tapi_Cite.is s.2.1]) (fun s : resolve_scene × api_Cite × ((List api_Id) × Int) => (Asn.tuple2 ((tL tapi_Id).is s.2.2.1) ((tI .i64).is s.2.2.2)))) := ⟨⟨Try.t57, _, Try.type57, rfl, rfl, by decide, rfl⟩, by decide⟩
theorem ze57 : ZeroAt Try.prog 57 (tFun Try.prog (fun (f : resolve_scene → api_Cite → Option ((List api_Id) × Int)) => (fun s : resolve_scene × api_Cite × ((List api_Id) × Int) => f s.1 s.2.1 = some s.2.2)) (fun s : resolve_scene × api_Cite × ((List api_Id) × Int) => [tresolve_scene.is s.1, tapi_Cite.is s.2.1]) (fun s : resolve_scene × api_Cite × ((List api_Id) × Int) => (Asn.tuple2 ((tL tapi_Id).is s.2.2.1) ((tI .i64).is s.2.2.2)))) (fun _ _ => none : resolve_scene → api_Cite → Option ((List api_Id) × Int)) := ⟨_, Try.zeroValue57, fun _ => ⟨_, ⟨_, rfl, .inr ⟨rfl, fun s h => by cases h⟩⟩, rfl⟩⟩
theorem ty62 : TyAt Try.prog 62 tresolve_scene := ⟨Try.isAgg62, Try.sizeOf62⟩
theorem el62 : ElAt Try.prog 62 tresolve_scene := ⟨⟨Try.t62, _, Try.type62, rfl, rfl, by decide, rfl⟩, by decide⟩
theorem ze62 : ZeroAt Try.prog 62 tresolve_scene zresolve_scene := ⟨_, Try.zeroValue62, fun _ => ⟨_, ⟨_, _, rfl, (rapi_Unit.into.rep _ _ _ ⟨_, _, rfl, ⟨_, _, rfl, ⟨rfl, inR64.2 ⟨by decide, by decide⟩⟩, ⟨_, _, rfl, ⟨rfl, inR64.2 ⟨by decide, by decide⟩⟩, ⟨rfl, inR64.2 ⟨by decide, by decide⟩⟩⟩⟩, ⟨_, _, rfl, ⟨rfl, inR64.2 ⟨by decide, by decide⟩⟩, ⟨_, _, rfl, ⟨rfl, by decide⟩, ⟨_, _, rfl, ⟨none, 0, rfl, Nat.le_refl _, Nat.zero_le _, fun _ => rfl, rfl⟩, ⟨_, _, rfl, ⟨none, 0, rfl, Nat.le_refl _, Nat.zero_le _, fun _ => rfl, rfl⟩, ⟨none, 0, rfl, Nat.le_refl _, Nat.zero_le _, fun _ => rfl, rfl⟩⟩⟩⟩⟩⟩), ⟨_, _, rfl, ⟨_, _, rfl, ⟨rfl, inR64.2 ⟨by decide, by decide⟩⟩, ⟨_, _, rfl, ⟨rfl, inR64.2 ⟨by decide, by decide⟩⟩, ⟨rfl, inR64.2 ⟨by decide, by decide⟩⟩⟩⟩, ⟨none, 0, rfl, Nat.le_refl _, Nat.zero_le _, fun _ => rfl, rfl⟩⟩⟩, rfl⟩⟩
theorem ty98 : TyAt Try.prog 98 tapi_Mark := ⟨Try.isAgg98, Try.sizeOf98⟩
theorem el98 : ElAt Try.prog 98 tapi_Mark := ⟨⟨Try.t98, _, Try.type98, rfl, rfl, by decide, rfl⟩, by decide⟩
theorem ze98 : ZeroAt Try.prog 98 tapi_Mark zapi_Mark := ⟨_, Try.zeroValue98, fun _ => ⟨_, ⟨_, _, rfl, ⟨rfl, inR64.2 ⟨by decide, by decide⟩⟩, ⟨_, _, rfl, ⟨rfl, inR64.2 ⟨by decide, by decide⟩⟩, ⟨rfl, inR64.2 ⟨by decide, by decide⟩⟩⟩⟩, rfl⟩⟩
theorem ty100 : TyAt Try.prog 100 tapi_Word := ⟨Try.isAgg100, Try.sizeOf100⟩
theorem el100 : ElAt Try.prog 100 tapi_Word := ⟨⟨Try.t100, _, Try.type100, rfl, rfl, by decide, rfl⟩, by decide⟩
theorem ze100 : ZeroAt Try.prog 100 tapi_Word zapi_Word := ⟨_, Try.zeroValue100, fun _ => ⟨_, ⟨_, _, rfl, ⟨rfl, by decide⟩, ⟨_, _, rfl, ⟨rfl, inR64.2 ⟨by decide, by decide⟩⟩, ⟨_, _, rfl, ⟨rfl, inR64.2 ⟨by decide, by decide⟩⟩, ⟨rfl, inR64.2 ⟨by decide, by decide⟩⟩⟩⟩⟩, rfl⟩⟩
theorem eq23 : EqT (α := api_Id) (P := Try.prog) (T := 23) (t := tapi_Id) (D := 2) := EqT.struct (D := 1) rfl Try.underlying23 (by kernel_rfl) ⟨_, inferInstance, _, _, _, by decide, ty3, fapi_Id_0, ((EqT.int Try.underlying3).up (by decide)), ⟨_, inferInstance, _, _, _, by decide, ty3, fapi_Id_1, ((EqT.int Try.underlying3).up (by decide)), ⟨_, inferInstance, _, _, _, by decide, ty3, fapi_Id_2, ((EqT.int Try.underlying3).up (by decide)), rfl, rfl⟩, rfl⟩, rfl⟩ (fun x y => by cases x; cases y; simp)
theorem eg23 : Try.prog.eqGuardType Try.prog.depth 23 = false := by kernel_rfl
theorem eq55 : EqT (α := api_Step) (P := Try.prog) (T := 55) (t := tapi_Step) (D := 2) := EqT.struct (D := 1) rfl Try.underlying55 (by kernel_rfl) ⟨_, inferInstance, _, _, _, by decide, ty3, fapi_Step_0, ((EqT.int Try.underlying3).up (by decide)), ⟨_, inferInstance, _, _, _, by decide, ty9, fapi_Step_1, ((EqT.string Try.underlying9).up (by decide)), rfl, rfl⟩, rfl⟩ (fun x y => by cases x; cases y; simp)
theorem eg55 : Try.prog.eqGuardType Try.prog.depth 55 = false := by kernel_rfl
theorem kt3 : KeyT Try.prog 3 (tI .i64) := KeyT.int Try.underlying3

end Go.Proofs.Ytlegkjbldofkmaa
