/-
  How the types of the program are read.
-/
import Derived.Test.YtkobngongonplaaDoorDec21
import Derived.Test.YtkobngongonplaaDoorDec19
import Derived.Test.YtkobngongonplaaDoorDec24
import Derived.Test.YtkobngongonplaaDoorSh
import Derived.Test.YtkobngongonplaaDoorDec26
import Derived.Test.YtkobngongonplaaDoorDec27
import Derived.Test.YtkobngongonplaaDoorDec28
import Derived.Test.YtkobngongonplaaDoorDec29
import Derived.Test.YtkobngongonplaaDoorDec31
import Derived.Test.YtkobngongonplaaDoorDec32
import Derived.Test.YtkobngongonplaaDoorDec33
import Derived.Test.YtkobngongonplaaDoorDec36
import Derived.Test.YtkobngongonplaaDoorDec37
import Derived.Test.YtkobngongonplaaDoorMdl
import Derived.Test.YtkobngongonplaaDoorProg
import Derived.KernelRfl
set_option maxRecDepth 100000
namespace Go.Proofs.YtkobngongonplaaDoor
open Go Go.Dec
theorem Tryd.mixed : Tryd.prog.follows .mixedOrders = true := by kernel_rfl
def zpagestore_Store_f (fd : Field) : Nat := if fd.type = 3 then 1 else if fd.type = 4 then 1 else if fd.type = 34 then 1 else 0
theorem zpagestore_Store_sz : ∀ fs, Tryd.prog.underlying 46 = some (.struct fs) → ∀ fd, fd ∈ fs → ∀ w, (sizeOf fd.type).run Tryd.prog w = .ok (zpagestore_Store_f fd) w := by
  intro fs h
  rw [Tryd.underlying46] at h
  cases h
  intro fd hfd w
  simp only [List.mem_toArray, List.mem_cons, List.not_mem_nil, or_false] at hfd
  rcases hfd with rfl | rfl | rfl | rfl | rfl
  · exact Tryd.sizeOf34 w
  · exact Tryd.sizeOf3 w
  · exact Tryd.sizeOf3 w
  · exact Tryd.sizeOf3 w
  · exact Tryd.sizeOf4 w
def tpagestore_Store_k0 (k : Tok) : Ty pagestore_Store := tMap (tP (tOT tS k) (tP (tI .i64) (tP (tI .i64) (tP (tI .i64) (tOne tB))))) (fun x : pagestore_Store => (x.pages_, x.lasting_, x.root_, x.fuse_, x.down_))
theorem fpagestore_Store_k0_0 (k : Tok) : Fld (tpagestore_Store_k0 k) 0 (tOT tS k) (fun x => x.pages_) := (Fld.map (m := (fun x : pagestore_Store => (x.pages_, x.lasting_, x.root_, x.fuse_, x.down_))) (Fld.here (tOT tS k) (tP (tI .i64) (tP (tI .i64) (tP (tI .i64) (tOne tB)))))).cast rfl rfl
theorem fpagestore_Store_k0_1 (k : Tok) : Fld (tpagestore_Store_k0 k) 1 (tI .i64) (fun x => x.lasting_) := (Fld.map (m := (fun x : pagestore_Store => (x.pages_, x.lasting_, x.root_, x.fuse_, x.down_))) (Fld.next (s := (tOT tS k)) (Fld.here (tI .i64) (tP (tI .i64) (tP (tI .i64) (tOne tB)))))).cast rfl rfl
theorem spagestore_Store_k0_1 (k : Tok) : FldSet (tpagestore_Store_k0 k) 1 (tI .i64) (fun x y => { x with lasting_ := y }) := (FldSet.map (m := (fun x : pagestore_Store => (x.pages_, x.lasting_, x.root_, x.fuse_, x.down_))) (f' := fun x y => { x with lasting_ := y }) (FldSet.next (s := (tOT tS k)) (FldSet.here (tI .i64) (tP (tI .i64) (tP (tI .i64) (tOne tB))))) (fun _ _ => rfl)).cast rfl rfl
theorem fpagestore_Store_k0_2 (k : Tok) : Fld (tpagestore_Store_k0 k) 2 (tI .i64) (fun x => x.root_) := (Fld.map (m := (fun x : pagestore_Store => (x.pages_, x.lasting_, x.root_, x.fuse_, x.down_))) (Fld.next (s := (tOT tS k)) (Fld.next (s := (tI .i64)) (Fld.here (tI .i64) (tP (tI .i64) (tOne tB)))))).cast rfl rfl
theorem spagestore_Store_k0_2 (k : Tok) : FldSet (tpagestore_Store_k0 k) 2 (tI .i64) (fun x y => { x with root_ := y }) := (FldSet.map (m := (fun x : pagestore_Store => (x.pages_, x.lasting_, x.root_, x.fuse_, x.down_))) (f' := fun x y => { x with root_ := y }) (FldSet.next (s := (tOT tS k)) (FldSet.next (s := (tI .i64)) (FldSet.here (tI .i64) (tP (tI .i64) (tOne tB))))) (fun _ _ => rfl)).cast rfl rfl
theorem fpagestore_Store_k0_3 (k : Tok) : Fld (tpagestore_Store_k0 k) 3 (tI .i64) (fun x => x.fuse_) := (Fld.map (m := (fun x : pagestore_Store => (x.pages_, x.lasting_, x.root_, x.fuse_, x.down_))) (Fld.next (s := (tOT tS k)) (Fld.next (s := (tI .i64)) (Fld.next (s := (tI .i64)) (Fld.here (tI .i64) (tOne tB)))))).cast rfl rfl
theorem spagestore_Store_k0_3 (k : Tok) : FldSet (tpagestore_Store_k0 k) 3 (tI .i64) (fun x y => { x with fuse_ := y }) := (FldSet.map (m := (fun x : pagestore_Store => (x.pages_, x.lasting_, x.root_, x.fuse_, x.down_))) (f' := fun x y => { x with fuse_ := y }) (FldSet.next (s := (tOT tS k)) (FldSet.next (s := (tI .i64)) (FldSet.next (s := (tI .i64)) (FldSet.here (tI .i64) (tOne tB))))) (fun _ _ => rfl)).cast rfl rfl
theorem fpagestore_Store_k0_4 (k : Tok) : Fld (tpagestore_Store_k0 k) 4 tB (fun x => x.down_) := (Fld.map (m := (fun x : pagestore_Store => (x.pages_, x.lasting_, x.root_, x.fuse_, x.down_))) (Fld.next (s := (tOT tS k)) (Fld.next (s := (tI .i64)) (Fld.next (s := (tI .i64)) (Fld.next (s := (tI .i64)) (Fld.one tB)))))).cast rfl rfl
theorem spagestore_Store_k0_4 (k : Tok) : FldSet (tpagestore_Store_k0 k) 4 tB (fun x y => { x with down_ := y }) := (FldSet.map (m := (fun x : pagestore_Store => (x.pages_, x.lasting_, x.root_, x.fuse_, x.down_))) (f' := fun x y => { x with down_ := y }) (FldSet.next (s := (tOT tS k)) (FldSet.next (s := (tI .i64)) (FldSet.next (s := (tI .i64)) (FldSet.next (s := (tI .i64)) (FldSet.one tB))))) (fun _ _ => rfl)).cast rfl rfl
theorem sTpagestore_Store_k0 (k k2 : Tok) : FldSetT (tpagestore_Store_k0 k) (tpagestore_Store_k0 k2) 0 (tOT tS k2) (fun x y => { x with pages_ := y }) := (FldSetT.map (m := (fun x : pagestore_Store => (x.pages_, x.lasting_, x.root_, x.fuse_, x.down_))) (f' := fun x y => { x with pages_ := y }) (FldSetT.here (tOT tS k) (tOT tS k2) (tP (tI .i64) (tP (tI .i64) (tP (tI .i64) (tOne tB)))) rfl) (fun _ _ => rfl)).cast rfl rfl
theorem zepagestore_Store_k0 : ZeroAt Tryd.prog 46 (tpagestore_Store_k0 none) zpagestore_Store := ⟨_, Tryd.zeroValue46, fun _ => ⟨_, ⟨_, _, rfl, ⟨_, rfl, ⟨rfl, Nat.le_refl _, Nat.zero_le _, rfl⟩⟩, ⟨_, _, rfl, ⟨rfl, inR64.2 ⟨by decide, by decide⟩⟩, ⟨_, _, rfl, ⟨rfl, inR64.2 ⟨by decide, by decide⟩⟩, ⟨_, _, rfl, ⟨rfl, inR64.2 ⟨by decide, by decide⟩⟩, rfl⟩⟩⟩⟩, rfl⟩⟩
def tjournal_mark : Ty journal_mark := tMap (tP (tI .i64) (tOne tS)) (fun x : journal_mark => (x.page_, x.sum_))
theorem fjournal_mark_0 : Fld tjournal_mark 0 (tI .i64) (fun x => x.page_) := (Fld.map (m := (fun x : journal_mark => (x.page_, x.sum_))) (Fld.here (tI .i64) (tOne tS))).cast rfl rfl
theorem sjournal_mark_0 : FldSet tjournal_mark 0 (tI .i64) (fun x y => { x with page_ := y }) := (FldSet.map (m := (fun x : journal_mark => (x.page_, x.sum_))) (f' := fun x y => { x with page_ := y }) (FldSet.here (tI .i64) (tOne tS)) (fun _ _ => rfl)).cast rfl rfl
theorem fjournal_mark_1 : Fld tjournal_mark 1 tS (fun x => x.sum_) := (Fld.map (m := (fun x : journal_mark => (x.page_, x.sum_))) (Fld.next (s := (tI .i64)) (Fld.one tS))).cast rfl rfl
theorem sjournal_mark_1 : FldSet tjournal_mark 1 tS (fun x y => { x with sum_ := y }) := (FldSet.map (m := (fun x : journal_mark => (x.page_, x.sum_))) (f' := fun x y => { x with sum_ := y }) (FldSet.next (s := (tI .i64)) (FldSet.one tS)) (fun _ _ => rfl)).cast rfl rfl
def zjournal_mark_f (fd : Field) : Nat := if fd.type = 3 then 1 else if fd.type = 9 then 1 else 0
theorem zjournal_mark_sz : ∀ fs, Tryd.prog.underlying 48 = some (.struct fs) → ∀ fd, fd ∈ fs → ∀ w, (sizeOf fd.type).run Tryd.prog w = .ok (zjournal_mark_f fd) w := by
  intro fs h
  rw [Tryd.underlying48] at h
  cases h
  intro fd hfd w
  simp only [List.mem_toArray, List.mem_cons, List.not_mem_nil, or_false] at hfd
  rcases hfd with rfl | rfl
  · exact Tryd.sizeOf3 w
  · exact Tryd.sizeOf9 w
def tjournal_Journal : Ty journal_Journal := tMap (tP tPa (tP (tL tS) (tP (tI .i64) (tOne tjournal_mark)))) (fun x : journal_Journal => (x.Store, x.texts_, x.lasting_, x.last_))
def zjournal_Journal_f (fd : Field) : Nat := if fd.type = 3 then 1 else if fd.type = 23 then 1 else if fd.type = 34 then 1 else if fd.type = 48 then 2 else 0
theorem zjournal_Journal_sz : ∀ fs, Tryd.prog.underlying 52 = some (.struct fs) → ∀ fd, fd ∈ fs → ∀ w, (sizeOf fd.type).run Tryd.prog w = .ok (zjournal_Journal_f fd) w := by
  intro fs h
  rw [Tryd.underlying52] at h
  cases h
  intro fd hfd w
  simp only [List.mem_toArray, List.mem_cons, List.not_mem_nil, or_false] at hfd
  rcases hfd with rfl | rfl | rfl | rfl
  · exact Tryd.sizeOf23 w
  · exact Tryd.sizeOf34 w
  · exact Tryd.sizeOf3 w
  · exact Tryd.sizeOf48 w
def tjournal_read : Ty journal_read := tMap (tP (tI .i64) (tP (tI .i64) (tP tS (tP tS (tOne tS))))) (fun x : journal_read => (x.at_, x.ahead_, x.sign_, x.text_, x.whole_))
theorem fjournal_read_0 : Fld tjournal_read 0 (tI .i64) (fun x => x.at_) := (Fld.map (m := (fun x : journal_read => (x.at_, x.ahead_, x.sign_, x.text_, x.whole_))) (Fld.here (tI .i64) (tP (tI .i64) (tP tS (tP tS (tOne tS)))))).cast rfl rfl
theorem sjournal_read_0 : FldSet tjournal_read 0 (tI .i64) (fun x y => { x with at_ := y }) := (FldSet.map (m := (fun x : journal_read => (x.at_, x.ahead_, x.sign_, x.text_, x.whole_))) (f' := fun x y => { x with at_ := y }) (FldSet.here (tI .i64) (tP (tI .i64) (tP tS (tP tS (tOne tS))))) (fun _ _ => rfl)).cast rfl rfl
theorem fjournal_read_1 : Fld tjournal_read 1 (tI .i64) (fun x => x.ahead_) := (Fld.map (m := (fun x : journal_read => (x.at_, x.ahead_, x.sign_, x.text_, x.whole_))) (Fld.next (s := (tI .i64)) (Fld.here (tI .i64) (tP tS (tP tS (tOne tS)))))).cast rfl rfl
theorem sjournal_read_1 : FldSet tjournal_read 1 (tI .i64) (fun x y => { x with ahead_ := y }) := (FldSet.map (m := (fun x : journal_read => (x.at_, x.ahead_, x.sign_, x.text_, x.whole_))) (f' := fun x y => { x with ahead_ := y }) (FldSet.next (s := (tI .i64)) (FldSet.here (tI .i64) (tP tS (tP tS (tOne tS))))) (fun _ _ => rfl)).cast rfl rfl
theorem fjournal_read_2 : Fld tjournal_read 2 tS (fun x => x.sign_) := (Fld.map (m := (fun x : journal_read => (x.at_, x.ahead_, x.sign_, x.text_, x.whole_))) (Fld.next (s := (tI .i64)) (Fld.next (s := (tI .i64)) (Fld.here tS (tP tS (tOne tS)))))).cast rfl rfl
theorem sjournal_read_2 : FldSet tjournal_read 2 tS (fun x y => { x with sign_ := y }) := (FldSet.map (m := (fun x : journal_read => (x.at_, x.ahead_, x.sign_, x.text_, x.whole_))) (f' := fun x y => { x with sign_ := y }) (FldSet.next (s := (tI .i64)) (FldSet.next (s := (tI .i64)) (FldSet.here tS (tP tS (tOne tS))))) (fun _ _ => rfl)).cast rfl rfl
theorem fjournal_read_3 : Fld tjournal_read 3 tS (fun x => x.text_) := (Fld.map (m := (fun x : journal_read => (x.at_, x.ahead_, x.sign_, x.text_, x.whole_))) (Fld.next (s := (tI .i64)) (Fld.next (s := (tI .i64)) (Fld.next (s := tS) (Fld.here tS (tOne tS)))))).cast rfl rfl
theorem sjournal_read_3 : FldSet tjournal_read 3 tS (fun x y => { x with text_ := y }) := (FldSet.map (m := (fun x : journal_read => (x.at_, x.ahead_, x.sign_, x.text_, x.whole_))) (f' := fun x y => { x with text_ := y }) (FldSet.next (s := (tI .i64)) (FldSet.next (s := (tI .i64)) (FldSet.next (s := tS) (FldSet.here tS (tOne tS))))) (fun _ _ => rfl)).cast rfl rfl
theorem fjournal_read_4 : Fld tjournal_read 4 tS (fun x => x.whole_) := (Fld.map (m := (fun x : journal_read => (x.at_, x.ahead_, x.sign_, x.text_, x.whole_))) (Fld.next (s := (tI .i64)) (Fld.next (s := (tI .i64)) (Fld.next (s := tS) (Fld.next (s := tS) (Fld.one tS)))))).cast rfl rfl
theorem sjournal_read_4 : FldSet tjournal_read 4 tS (fun x y => { x with whole_ := y }) := (FldSet.map (m := (fun x : journal_read => (x.at_, x.ahead_, x.sign_, x.text_, x.whole_))) (f' := fun x y => { x with whole_ := y }) (FldSet.next (s := (tI .i64)) (FldSet.next (s := (tI .i64)) (FldSet.next (s := tS) (FldSet.next (s := tS) (FldSet.one tS))))) (fun _ _ => rfl)).cast rfl rfl
def zjournal_read_f (fd : Field) : Nat := if fd.type = 3 then 1 else if fd.type = 9 then 1 else 0
theorem zjournal_read_sz : ∀ fs, Tryd.prog.underlying 62 = some (.struct fs) → ∀ fd, fd ∈ fs → ∀ w, (sizeOf fd.type).run Tryd.prog w = .ok (zjournal_read_f fd) w := by
  intro fs h
  rw [Tryd.underlying62] at h
  cases h
  intro fd hfd w
  simp only [List.mem_toArray, List.mem_cons, List.not_mem_nil, or_false] at hfd
  rcases hfd with rfl | rfl | rfl | rfl | rfl
  · exact Tryd.sizeOf3 w
  · exact Tryd.sizeOf3 w
  · exact Tryd.sizeOf9 w
  · exact Tryd.sizeOf9 w
  · exact Tryd.sizeOf9 w
theorem ty3 : TyAt Tryd.prog 3 (tI .i64) := ⟨Tryd.isAgg3, Tryd.sizeOf3⟩
theorem ze3 : ZeroAt Tryd.prog 3 (tI .i64) (0 : Int) := ⟨_, Tryd.zeroValue3, fun _ => ⟨_, ⟨rfl, inR64.2 ⟨by decide, by decide⟩⟩, rfl⟩⟩
theorem ty4 : TyAt Tryd.prog 4 tB := ⟨Tryd.isAgg4, Tryd.sizeOf4⟩
theorem ty5 : TyAt Tryd.prog 5 (tI .u8) := ⟨Tryd.isAgg5, Tryd.sizeOf5⟩
theorem el5 : ElAt Tryd.prog 5 (tI .u8) := ⟨⟨Tryd.t5, _, Tryd.type5, rfl, rfl, by decide, rfl⟩, by decide⟩
theorem ze5 : ZeroAt Tryd.prog 5 (tI .u8) (0 : Int) := ⟨_, Tryd.zeroValue5, fun _ => ⟨_, ⟨rfl, by decide⟩, rfl⟩⟩
theorem ty9 : TyAt Tryd.prog 9 tS := ⟨Tryd.isAgg9, Tryd.sizeOf9⟩
theorem el9 : ElAt Tryd.prog 9 tS := ⟨⟨Tryd.t9, _, Tryd.type9, rfl, rfl, by decide, rfl⟩, by decide⟩
theorem ze9 : ZeroAt Tryd.prog 9 tS ([] : Str) := ⟨_, Tryd.zeroValue9, fun _ => ⟨_, ⟨rfl, by decide⟩, rfl⟩⟩
theorem ty34 : TyAt Tryd.prog 34 (tL tS) := ⟨Tryd.isAgg34, Tryd.sizeOf34⟩
theorem ty48 : TyAt Tryd.prog 48 tjournal_mark := ⟨Tryd.isAgg48, Tryd.sizeOf48⟩
theorem ze48 : ZeroAt Tryd.prog 48 tjournal_mark zjournal_mark := ⟨_, Tryd.zeroValue48, fun _ => ⟨_, ⟨_, _, rfl, ⟨rfl, inR64.2 ⟨by decide, by decide⟩⟩, ⟨rfl, by decide⟩⟩, rfl⟩⟩
theorem ze52 : ZeroAt Tryd.prog 52 tjournal_Journal zjournal_Journal := ⟨_, Tryd.zeroValue52, fun _ => ⟨_, ⟨_, _, rfl, ⟨_, rfl⟩, ⟨_, _, rfl, ⟨none, 0, rfl, Nat.le_refl _, Nat.zero_le _, fun _ => rfl, rfl⟩, ⟨_, _, rfl, ⟨rfl, inR64.2 ⟨by decide, by decide⟩⟩, ⟨_, _, rfl, ⟨rfl, inR64.2 ⟨by decide, by decide⟩⟩, ⟨rfl, by decide⟩⟩⟩⟩⟩, rfl⟩⟩
theorem ty62 : TyAt Tryd.prog 62 tjournal_read := ⟨Tryd.isAgg62, Tryd.sizeOf62⟩
theorem el62 : ElAt Tryd.prog 62 tjournal_read := ⟨⟨Tryd.t62, _, Tryd.type62, rfl, rfl, by decide, rfl⟩, by decide⟩
theorem ze62 : ZeroAt Tryd.prog 62 tjournal_read zjournal_read := ⟨_, Tryd.zeroValue62, fun _ => ⟨_, ⟨_, _, rfl, ⟨rfl, inR64.2 ⟨by decide, by decide⟩⟩, ⟨_, _, rfl, ⟨rfl, inR64.2 ⟨by decide, by decide⟩⟩, ⟨_, _, rfl, ⟨rfl, by decide⟩, ⟨_, _, rfl, ⟨rfl, by decide⟩, ⟨rfl, by decide⟩⟩⟩⟩⟩, rfl⟩⟩
theorem ze126 : ZeroAt Tryd.prog 126 (tA 65 (tI .u8)) (List.replicate 65 (0 : Int)) := ZeroAt.array ze5 Tryd.zeroValue5 Tryd.zeroValue126 rfl default
theorem fl5 : Flat (tI .u8) := Flat.I
theorem fl62 : Flat tjournal_read := (Flat.map (Flat.pair Flat.I (Flat.pair Flat.I (Flat.pair Flat.S (Flat.pair Flat.S (Flat.one Flat.S))))) _)
abbrev I6 : Ty Int := tI .i64
theorem Mx : Tryd.prog.follows .mixedOrders = true := Tryd.mixed
theorem C6 (xs : Array Value) (w : World) : (callFunc 6 xs).run Tryd.prog w = .ok (.enter 6 xs) w := Tryd.call6 xs w
theorem C7 (xs : Array Value) (w : World) : (callFunc 7 xs).run Tryd.prog w = .ok (.enter 7 xs) w := Tryd.call7 xs w
theorem C8 (xs : Array Value) (w : World) : (callFunc 8 xs).run Tryd.prog w = .ok (.enter 8 xs) w := Tryd.call8 xs w
theorem C9 (xs : Array Value) (w : World) : (callFunc 9 xs).run Tryd.prog w = .ok (.enter 9 xs) w := Tryd.call9 xs w
theorem C10 (xs : Array Value) (w : World) : (callFunc 10 xs).run Tryd.prog w = .ok (.enter 10 xs) w := Tryd.call10 xs w
theorem C11 (xs : Array Value) (w : World) : (callFunc 11 xs).run Tryd.prog w = .ok (.enter 11 xs) w := Tryd.call11 xs w
theorem C12 (xs : Array Value) (w : World) : (callFunc 12 xs).run Tryd.prog w = .ok (.enter 12 xs) w := Tryd.call12 xs w
theorem C13 (xs : Array Value) (w : World) : (callFunc 13 xs).run Tryd.prog w = .ok (.enter 13 xs) w := Tryd.call13 xs w
theorem C14 (xs : Array Value) (w : World) : (callFunc 14 xs).run Tryd.prog w = .ok (.enter 14 xs) w := Tryd.call14 xs w
theorem C15 (xs : Array Value) (w : World) : (callFunc 15 xs).run Tryd.prog w = .ok (.enter 15 xs) w := Tryd.call15 xs w
theorem C16 (xs : Array Value) (w : World) : (callFunc 16 xs).run Tryd.prog w = .ok (.enter 16 xs) w := Tryd.call16 xs w
theorem C17 (xs : Array Value) (w : World) : (callFunc 17 xs).run Tryd.prog w = .ok (.enter 17 xs) w := Tryd.call17 xs w
theorem C18 (xs : Array Value) (w : World) : (callFunc 18 xs).run Tryd.prog w = .ok (.enter 18 xs) w := Tryd.call18 xs w
theorem C19 (xs : Array Value) (w : World) : (callFunc 19 xs).run Tryd.prog w = .ok (.enter 19 xs) w := Tryd.call19 xs w
theorem C20 (xs : Array Value) (w : World) : (callFunc 20 xs).run Tryd.prog w = .ok (.enter 20 xs) w := Tryd.call20 xs w
theorem C21 (xs : Array Value) (w : World) : (callFunc 21 xs).run Tryd.prog w = .ok (.enter 21 xs) w := Tryd.call21 xs w
theorem C22 (xs : Array Value) (w : World) : (callFunc 22 xs).run Tryd.prog w = .ok (.enter 22 xs) w := Tryd.call22 xs w
theorem C23 (xs : Array Value) (w : World) : (callFunc 23 xs).run Tryd.prog w = .ok (.enter 23 xs) w := Tryd.call23 xs w
theorem C24 (xs : Array Value) (w : World) : (callFunc 24 xs).run Tryd.prog w = .ok (.enter 24 xs) w := Tryd.call24 xs w
theorem C25 (xs : Array Value) (w : World) : (callFunc 25 xs).run Tryd.prog w = .ok (.enter 25 xs) w := Tryd.call25 xs w
theorem C26 (xs : Array Value) (w : World) : (callFunc 26 xs).run Tryd.prog w = .ok (.enter 26 xs) w := Tryd.call26 xs w
theorem C27 (xs : Array Value) (w : World) : (callFunc 27 xs).run Tryd.prog w = .ok (.enter 27 xs) w := Tryd.call27 xs w
theorem C28 (xs : Array Value) (w : World) : (callFunc 28 xs).run Tryd.prog w = .ok (.enter 28 xs) w := Tryd.call28 xs w
theorem C29 (xs : Array Value) (w : World) : (callFunc 29 xs).run Tryd.prog w = .ok (.enter 29 xs) w := Tryd.call29 xs w
theorem C30 (xs : Array Value) (w : World) : (callFunc 30 xs).run Tryd.prog w = .ok (.enter 30 xs) w := Tryd.call30 xs w
theorem C31 (xs : Array Value) (w : World) : (callFunc 31 xs).run Tryd.prog w = .ok (.enter 31 xs) w := Tryd.call31 xs w
theorem C32 (xs : Array Value) (w : World) : (callFunc 32 xs).run Tryd.prog w = .ok (.enter 32 xs) w := Tryd.call32 xs w
theorem C33 (xs : Array Value) (w : World) : (callFunc 33 xs).run Tryd.prog w = .ok (.enter 33 xs) w := Tryd.call33 xs w
theorem C34 (xs : Array Value) (w : World) : (callFunc 34 xs).run Tryd.prog w = .ok (.enter 34 xs) w := Tryd.call34 xs w
theorem C35 (xs : Array Value) (w : World) : (callFunc 35 xs).run Tryd.prog w = .ok (.enter 35 xs) w := Tryd.call35 xs w
theorem C36 (xs : Array Value) (w : World) : (callFunc 36 xs).run Tryd.prog w = .ok (.enter 36 xs) w := Tryd.call36 xs w
theorem C37 (xs : Array Value) (w : World) : (callFunc 37 xs).run Tryd.prog w = .ok (.enter 37 xs) w := Tryd.call37 xs w
theorem C38 (xs : Array Value) (w : World) : (callFunc 38 xs).run Tryd.prog w = .ok (.enter 38 xs) w := Tryd.call38 xs w
theorem C39 (xs : Array Value) (w : World) : (callFunc 39 xs).run Tryd.prog w = .ok (.enter 39 xs) w := Tryd.call39 xs w
theorem C40 (xs : Array Value) (w : World) : (callFunc 40 xs).run Tryd.prog w = .ok (.enter 40 xs) w := Tryd.call40 xs w
theorem C41 (xs : Array Value) (w : World) : (callFunc 41 xs).run Tryd.prog w = .ok (.enter 41 xs) w := Tryd.call41 xs w
theorem C42 (xs : Array Value) (w : World) : (callFunc 42 xs).run Tryd.prog w = .ok (.enter 42 xs) w := Tryd.call42 xs w
theorem C43 (xs : Array Value) (w : World) : (callFunc 43 xs).run Tryd.prog w = .ok (.enter 43 xs) w := Tryd.call43 xs w
theorem C44 (xs : Array Value) (w : World) : (callFunc 44 xs).run Tryd.prog w = .ok (.enter 44 xs) w := Tryd.call44 xs w
theorem C45 (xs : Array Value) (w : World) : (callFunc 45 xs).run Tryd.prog w = .ok (.enter 45 xs) w := Tryd.call45 xs w
theorem C46 (xs : Array Value) (w : World) : (callFunc 46 xs).run Tryd.prog w = .ok (.enter 46 xs) w := Tryd.call46 xs w
theorem C47 (xs : Array Value) (w : World) : (callFunc 47 xs).run Tryd.prog w = .ok (.enter 47 xs) w := Tryd.call47 xs w
theorem C48 (xs : Array Value) (w : World) : (callFunc 48 xs).run Tryd.prog w = .ok (.enter 48 xs) w := Tryd.call48 xs w
theorem C49 (xs : Array Value) (w : World) : (callFunc 49 xs).run Tryd.prog w = .ok (.enter 49 xs) w := Tryd.call49 xs w
theorem C51 (xs : Array Value) (w : World) : (callFunc 51 xs).run Tryd.prog w = .ok (.enter 51 xs) w := Tryd.call51 xs w
theorem C52 (xs : Array Value) (w : World) : (callFunc 52 xs).run Tryd.prog w = .ok (.enter 52 xs) w := Tryd.call52 xs w
theorem C60 (xs : Array Value) (w : World) : (callFunc 60 xs).run Tryd.prog w = .ok (.enter 60 xs) w := Tryd.call60 xs w
theorem C74 (xs : Array Value) (w : World) : (callFunc 74 xs).run Tryd.prog w = .ok (.enter 74 xs) w := Tryd.call74 xs w
theorem C77 (xs : Array Value) (w : World) : (callFunc 77 xs).run Tryd.prog w = .ok (.enter 77 xs) w := Tryd.call77 xs w
theorem C94 (xs : Array Value) (w : World) : (callFunc 94 xs).run Tryd.prog w = .ok (.enter 94 xs) w := Tryd.call94 xs w
theorem C95 (xs : Array Value) (w : World) : (callFunc 95 xs).run Tryd.prog w = .ok (.enter 95 xs) w := Tryd.call95 xs w
theorem C102 (xs : Array Value) (w : World) : (callFunc 102 xs).run Tryd.prog w = .ok (.enter 102 xs) w := Tryd.call102 xs w
theorem J3 (w : World) : ∃ m, (sizeOf 3).run Tryd.prog w = .ok (m + 1) w := ⟨0, Tryd.sizeOf3 w⟩
theorem J4 (w : World) : ∃ m, (sizeOf 4).run Tryd.prog w = .ok (m + 1) w := ⟨0, Tryd.sizeOf4 w⟩
theorem J9 (w : World) : ∃ m, (sizeOf 9).run Tryd.prog w = .ok (m + 1) w := ⟨0, Tryd.sizeOf9 w⟩
theorem J23 (w : World) : ∃ m, (sizeOf 23).run Tryd.prog w = .ok (m + 1) w := ⟨0, Tryd.sizeOf23 w⟩
theorem J32 (w : World) : ∃ m, (sizeOf 32).run Tryd.prog w = .ok (m + 1) w := ⟨0, Tryd.sizeOf32 w⟩
theorem J34 (w : World) : ∃ m, (sizeOf 34).run Tryd.prog w = .ok (m + 1) w := ⟨0, Tryd.sizeOf34 w⟩
theorem J48 (w : World) : ∃ m, (sizeOf 48).run Tryd.prog w = .ok (m + 1) w := ⟨1, Tryd.sizeOf48 w⟩
theorem U3 : Tryd.prog.underlying 3 = some (.int .i64) := Tryd.underlying3
theorem U4 : Tryd.prog.underlying 4 = some (.bool) := Tryd.underlying4
theorem U5 : Tryd.prog.underlying 5 = some (.int .u8) := Tryd.underlying5
theorem U9 : Tryd.prog.underlying 9 = some (.string) := Tryd.underlying9
theorem U23 : Tryd.prog.underlying 23 = some (.pointer 46) := Tryd.underlying23
theorem U25 : Tryd.prog.underlying 25 = some (.pointer 52) := Tryd.underlying25
theorem U32 : Tryd.prog.underlying 32 = some (.slice 5) := Tryd.underlying32
theorem U34 : Tryd.prog.underlying 34 = some (.slice 9) := Tryd.underlying34
theorem U58 : Tryd.prog.underlying 58 = some (.slice 62) := Tryd.underlying58
theorem U82 : Tryd.prog.underlying 82 = some (.pointer 5) := Tryd.underlying82
theorem U83 : Tryd.prog.underlying 83 = some (.int .u64) := Tryd.underlying83
theorem U84 : Tryd.prog.underlying 84 = some (.int .u64) := Tryd.underlying84
theorem U126 : Tryd.prog.underlying 126 = some (.array 65 5) := Tryd.underlying126
theorem U140 : Tryd.prog.underlying 140 = some (.array 64 5) := Tryd.underlying140
theorem Y3 (w : World) : (isAgg 3).run Tryd.prog w = .ok false w := Tryd.isAgg3 w
theorem Y23 (w : World) : (isAgg 23).run Tryd.prog w = .ok false w := Tryd.isAgg23 w
theorem Y32 (w : World) : (isAgg 32).run Tryd.prog w = .ok false w := Tryd.isAgg32 w
theorem Y48 (w : World) : (isAgg 48).run Tryd.prog w = .ok true w := Tryd.isAgg48 w
theorem Y62 (w : World) : (isAgg 62).run Tryd.prog w = .ok true w := Tryd.isAgg62 w
theorem Z3 (w : World) : (sizeOf 3).run Tryd.prog w = .ok 1 w := Tryd.sizeOf3 w
theorem Z5 (w : World) : (sizeOf 5).run Tryd.prog w = .ok 1 w := Tryd.sizeOf5 w
theorem Z9 (w : World) : (sizeOf 9).run Tryd.prog w = .ok 1 w := Tryd.sizeOf9 w
theorem Z23 (w : World) : (sizeOf 23).run Tryd.prog w = .ok 1 w := Tryd.sizeOf23 w
theorem Z32 (w : World) : (sizeOf 32).run Tryd.prog w = .ok 1 w := Tryd.sizeOf32 w
theorem Z34 (w : World) : (sizeOf 34).run Tryd.prog w = .ok 1 w := Tryd.sizeOf34 w
theorem Z48 (w : World) : (sizeOf 48).run Tryd.prog w = .ok 2 w := Tryd.sizeOf48 w
theorem Z62 (w : World) : (sizeOf 62).run Tryd.prog w = .ok 5 w := Tryd.sizeOf62 w
end Go.Proofs.YtkobngongonplaaDoor
