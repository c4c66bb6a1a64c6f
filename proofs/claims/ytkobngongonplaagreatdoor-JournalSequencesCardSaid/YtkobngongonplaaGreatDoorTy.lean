/-
  How the types of the program are read.
-/
import Derived.Test.YtkobngongonplaaGreatDoorDec21
import Derived.Test.YtkobngongonplaaGreatDoorDec19
import Derived.Test.YtkobngongonplaaGreatDoorDec24
import Derived.Test.YtkobngongonplaaGreatDoorSh
import Derived.Test.YtkobngongonplaaGreatDoorDec26
import Derived.Test.YtkobngongonplaaGreatDoorDec27
import Derived.Test.YtkobngongonplaaGreatDoorDec28
import Derived.Test.YtkobngongonplaaGreatDoorDec29
import Derived.Test.YtkobngongonplaaGreatDoorDec31
import Derived.Test.YtkobngongonplaaGreatDoorDec32
import Derived.Test.YtkobngongonplaaGreatDoorDec36
import Derived.Test.YtkobngongonplaaGreatDoorDec37
import Derived.Test.YtkobngongonplaaGreatDoorDec38
import Derived.Test.YtkobngongonplaaGreatDoorMdl
import Derived.Test.YtkobngongonplaaGreatDoorProg
import Derived.KernelRfl
set_option maxRecDepth 100000
namespace Go.Proofs.YtkobngongonplaaGreatDoor
open Go Go.Dec
theorem Tryz.mixed : Tryz.prog.follows .mixedOrders = true := by kernel_rfl
def tpandectlaw14_Call : Ty pandectlaw14_Call := tMap (tP (tI .i64) (tP (tI .i64) (tOne tS))) (fun x : pandectlaw14_Call => (x.Kind, x.N, x.Text))
theorem fpandectlaw14_Call_0 : Fld tpandectlaw14_Call 0 (tI .i64) (fun x => x.Kind) := (Fld.map (m := (fun x : pandectlaw14_Call => (x.Kind, x.N, x.Text))) (Fld.here (tI .i64) (tP (tI .i64) (tOne tS)))).cast rfl rfl
theorem fpandectlaw14_Call_1 : Fld tpandectlaw14_Call 1 (tI .i64) (fun x => x.N) := (Fld.map (m := (fun x : pandectlaw14_Call => (x.Kind, x.N, x.Text))) (Fld.next (s := (tI .i64)) (Fld.here (tI .i64) (tOne tS)))).cast rfl rfl
theorem fpandectlaw14_Call_2 : Fld tpandectlaw14_Call 2 tS (fun x => x.Text) := (Fld.map (m := (fun x : pandectlaw14_Call => (x.Kind, x.N, x.Text))) (Fld.next (s := (tI .i64)) (Fld.next (s := (tI .i64)) (Fld.one tS)))).cast rfl rfl
def zpagestore_Store_f (fd : Field) : Nat := if fd.type = 3 then 1 else if fd.type = 4 then 1 else if fd.type = 26 then 1 else 0
theorem zpagestore_Store_sz : ∀ fs, Tryz.prog.underlying 56 = some (.struct fs) → ∀ fd, fd ∈ fs → ∀ w, (sizeOf fd.type).run Tryz.prog w = .ok (zpagestore_Store_f fd) w := by
  intro fs h
  rw [Tryz.underlying56] at h
  cases h
  intro fd hfd w
  simp only [List.mem_toArray, List.mem_cons, List.not_mem_nil, or_false] at hfd
  rcases hfd with rfl | rfl | rfl | rfl | rfl
  · exact Tryz.sizeOf26 w
  · exact Tryz.sizeOf3 w
  · exact Tryz.sizeOf3 w
  · exact Tryz.sizeOf3 w
  · exact Tryz.sizeOf4 w
def tpagestore_Store_k0 (k : Tok) : Ty pagestore_Store := tMap (tP (tOT tS k) (tP (tI .i64) (tP (tI .i64) (tP (tI .i64) (tOne tB))))) (fun x : pagestore_Store => (x.pages_, x.lasting_, x.root_, x.fuse_, x.down_))
theorem fpagestore_Store_k0_0 (k : Tok) : Fld (tpagestore_Store_k0 k) 0 (tOT tS k) (fun x => x.pages_) := (Fld.map (m := (fun x : pagestore_Store => (x.pages_, x.lasting_, x.root_, x.fuse_, x.down_))) (Fld.here (tOT tS k) (tP (tI .i64) (tP (tI .i64) (tP (tI .i64) (tOne tB)))))).cast rfl rfl
theorem fpagestore_Store_k0_1 (k : Tok) : Fld (tpagestore_Store_k0 k) 1 (tI .i64) (fun x => x.lasting_) := (Fld.map (m := (fun x : pagestore_Store => (x.pages_, x.lasting_, x.root_, x.fuse_, x.down_))) (Fld.next (s := (tOT tS k)) (Fld.here (tI .i64) (tP (tI .i64) (tP (tI .i64) (tOne tB)))))).cast rfl rfl
theorem spagestore_Store_k0_1 (k : Tok) : FldSet (tpagestore_Store_k0 k) 1 (tI .i64) (fun x y => { x with lasting_ := y }) := (FldSet.map (m := (fun x : pagestore_Store => (x.pages_, x.lasting_, x.root_, x.fuse_, x.down_))) (f' := fun x y => { x with lasting_ := y }) (FldSet.next (s := (tOT tS k)) (FldSet.here (tI .i64) (tP (tI .i64) (tP (tI .i64) (tOne tB))))) (fun _ _ => rfl)).cast rfl rfl
theorem fpagestore_Store_k0_2 (k : Tok) : Fld (tpagestore_Store_k0 k) 2 (tI .i64) (fun x => x.root_) := (Fld.map (m := (fun x : pagestore_Store => (x.pages_, x.lasting_, x.root_, x.fuse_, x.down_))) (Fld.next (s := (tOT tS k)) (Fld.next (s := (tI .i64)) (Fld.here (tI .i64) (tP (tI .i64) (tOne tB)))))).cast rfl rfl
theorem spagestore_Store_k0_2 (k : Tok) : FldSet (tpagestore_Store_k0 k) 2 (tI .i64) (fun x y => { x with root_ := y }) := (FldSet.map (m := (fun x : pagestore_Store => (x.pages_, x.lasting_, x.root_, x.fuse_, x.down_))) (f' := fun x y => { x with root_ := y }) (FldSet.next (s := (tOT tS k)) (FldSet.next (s := (tI .i64)) (FldSet.here (tI .i64) (tP (tI .i64) (tOne tB))))) (fun _ _ => rfl)).cast rfl rfl
theorem fpagestore_Store_k0_3 (k : Tok) : Fld (tpagestore_Store_k0 k) 3 (tI .i64) (fun x => x.fuse_) := (Fld.map (m := (fun x : pagestore_Store => (x.pages_, x.lasting_, x.root_, x.fuse_, x.down_))) (Fld.next (s := (tOT tS k)) (Fld.next (s := (tI .i64)) (Fld.next (s := (tI .i64)) (Fld.here (tI .i64) (tOne tB)))))).cast rfl rfl
theorem spagestore_Store_k0_3 (k : Tok) : FldSet (tpagestore_Store_k0 k) 3 (tI .i64) (fun x y => { x with fuse_ := y }) := (FldSet.map (m := (fun x : pagestore_Store => (x.pages_, x.lasting_, x.root_, x.fuse_, x.down_))) (f' := fun x y => { x with fuse_ := y }) (FldSet.next (s := (tOT tS k)) (FldSet.next (s := (tI .i64)) (FldSet.next (s := (tI .i64)) (FldSet.here (tI .i64) (tOne tB))))) (fun _ _ => rfl)).cast rfl rfl
theorem fpagestore_Store_k0_4 (k : Tok) : Fld (tpagestore_Store_k0 k) 4 tB (fun x => x.down_) := (Fld.map (m := (fun x : pagestore_Store => (x.pages_, x.lasting_, x.root_, x.fuse_, x.down_))) (Fld.next (s := (tOT tS k)) (Fld.next (s := (tI .i64)) (Fld.next (s := (tI .i64)) (Fld.next (s := (tI .i64)) (Fld.one tB)))))).cast rfl rfl
theorem spagestore_Store_k0_4 (k : Tok) : FldSet (tpagestore_Store_k0 k) 4 tB (fun x y => { x with down_ := y }) := (FldSet.map (m := (fun x : pagestore_Store => (x.pages_, x.lasting_, x.root_, x.fuse_, x.down_))) (f' := fun x y => { x with down_ := y }) (FldSet.next (s := (tOT tS k)) (FldSet.next (s := (tI .i64)) (FldSet.next (s := (tI .i64)) (FldSet.next (s := (tI .i64)) (FldSet.one tB))))) (fun _ _ => rfl)).cast rfl rfl
theorem sTpagestore_Store_k0 (k k2 : Tok) : FldSetT (tpagestore_Store_k0 k) (tpagestore_Store_k0 k2) 0 (tOT tS k2) (fun x y => { x with pages_ := y }) := (FldSetT.map (m := (fun x : pagestore_Store => (x.pages_, x.lasting_, x.root_, x.fuse_, x.down_))) (f' := fun x y => { x with pages_ := y }) (FldSetT.here (tOT tS k) (tOT tS k2) (tP (tI .i64) (tP (tI .i64) (tP (tI .i64) (tOne tB)))) rfl) (fun _ _ => rfl)).cast rfl rfl
theorem zepagestore_Store_k0 : ZeroAt Tryz.prog 56 (tpagestore_Store_k0 none) zpagestore_Store := ⟨_, Tryz.zeroValue56, fun _ => ⟨_, ⟨_, _, rfl, ⟨_, rfl, ⟨rfl, Nat.le_refl _, Nat.zero_le _, rfl⟩⟩, ⟨_, _, rfl, ⟨rfl, inR64.2 ⟨by decide, by decide⟩⟩, ⟨_, _, rfl, ⟨rfl, inR64.2 ⟨by decide, by decide⟩⟩, ⟨_, _, rfl, ⟨rfl, inR64.2 ⟨by decide, by decide⟩⟩, rfl⟩⟩⟩⟩, rfl⟩⟩
def tjournal_mark : Ty journal_mark := tMap (tP (tI .i64) (tOne tS)) (fun x : journal_mark => (x.page_, x.sum_))
theorem fjournal_mark_0 : Fld tjournal_mark 0 (tI .i64) (fun x => x.page_) := (Fld.map (m := (fun x : journal_mark => (x.page_, x.sum_))) (Fld.here (tI .i64) (tOne tS))).cast rfl rfl
theorem sjournal_mark_0 : FldSet tjournal_mark 0 (tI .i64) (fun x y => { x with page_ := y }) := (FldSet.map (m := (fun x : journal_mark => (x.page_, x.sum_))) (f' := fun x y => { x with page_ := y }) (FldSet.here (tI .i64) (tOne tS)) (fun _ _ => rfl)).cast rfl rfl
theorem fjournal_mark_1 : Fld tjournal_mark 1 tS (fun x => x.sum_) := (Fld.map (m := (fun x : journal_mark => (x.page_, x.sum_))) (Fld.next (s := (tI .i64)) (Fld.one tS))).cast rfl rfl
theorem sjournal_mark_1 : FldSet tjournal_mark 1 tS (fun x y => { x with sum_ := y }) := (FldSet.map (m := (fun x : journal_mark => (x.page_, x.sum_))) (f' := fun x y => { x with sum_ := y }) (FldSet.next (s := (tI .i64)) (FldSet.one tS)) (fun _ _ => rfl)).cast rfl rfl
def zjournal_mark_f (fd : Field) : Nat := if fd.type = 3 then 1 else if fd.type = 9 then 1 else 0
theorem zjournal_mark_sz : ∀ fs, Tryz.prog.underlying 58 = some (.struct fs) → ∀ fd, fd ∈ fs → ∀ w, (sizeOf fd.type).run Tryz.prog w = .ok (zjournal_mark_f fd) w := by
  intro fs h
  rw [Tryz.underlying58] at h
  cases h
  intro fd hfd w
  simp only [List.mem_toArray, List.mem_cons, List.not_mem_nil, or_false] at hfd
  rcases hfd with rfl | rfl
  · exact Tryz.sizeOf3 w
  · exact Tryz.sizeOf9 w
def tjournal_Journal : Ty journal_Journal := tMap (tP tPa (tP (tL tS) (tP (tI .i64) (tOne tjournal_mark)))) (fun x : journal_Journal => (x.Store, x.texts_, x.lasting_, x.last_))
def zjournal_Journal_f (fd : Field) : Nat := if fd.type = 3 then 1 else if fd.type = 26 then 1 else if fd.type = 29 then 1 else if fd.type = 58 then 2 else 0
theorem zjournal_Journal_sz : ∀ fs, Tryz.prog.underlying 60 = some (.struct fs) → ∀ fd, fd ∈ fs → ∀ w, (sizeOf fd.type).run Tryz.prog w = .ok (zjournal_Journal_f fd) w := by
  intro fs h
  rw [Tryz.underlying60] at h
  cases h
  intro fd hfd w
  simp only [List.mem_toArray, List.mem_cons, List.not_mem_nil, or_false] at hfd
  rcases hfd with rfl | rfl | rfl | rfl
  · exact Tryz.sizeOf29 w
  · exact Tryz.sizeOf26 w
  · exact Tryz.sizeOf3 w
  · exact Tryz.sizeOf58 w
def tjournal_read : Ty journal_read := tMap (tP (tI .i64) (tP (tI .i64) (tP tS (tP tS (tOne tS))))) (fun x : journal_read => (x.at_, x.ahead_, x.sign_, x.text_, x.whole_))
theorem fjournal_read_0 : Fld tjournal_read 0 (tI .i64) (fun x => x.at_) := (Fld.map (m := (fun x : journal_read => (x.at_, x.ahead_, x.sign_, x.text_, x.whole_))) (Fld.here (tI .i64) (tP (tI .i64) (tP tS (tP tS (tOne tS)))))).cast rfl rfl
theorem sjournal_read_0 : FldSet tjournal_read 0 (tI .i64) (fun x y => { x with at_ := y }) := (FldSet.map (m := (fun x : journal_read => (x.at_, x.ahead_, x.sign_, x.text_, x.whole_))) (f' := fun x y => { x with at_ := y }) (FldSet.here (tI .i64) (tP (tI .i64) (tP tS (tP tS (tOne tS))))) (fun _ _ => rfl)).cast rfl rfl
theorem fjournal_read_1 : Fld tjournal_read 1 (tI .i64) (fun x => x.ahead_) := (Fld.map (m := (fun x : journal_read => (x.at_, x.ahead_, x.sign_, x.text_, x.whole_))) (Fld.next (s := (tI .i64)) (Fld.here (tI .i64) (tP tS (tP tS (tOne tS)))))).cast rfl rfl
theorem sjournal_read_1 : FldSet tjournal_read 1 (tI .i64) (fun x y => { x with ahead_ := y }) := (FldSet.map (m := (fun x : journal_read => (x.at_, x.ahead_, x.sign_, x.text_, x.whole_))) (f' := fun x y => { x with ahead_ := y }) (FldSet.next (s := (tI .i64)) (FldSet.here (tI .i64) (tP tS (tP tS (tOne tS))))) (fun _ _ => rfl)).cast rfl rfl
theorem fjournal_read_2 : Fld tjournal_read 2 tS (fun x => x.sign_) := (Fld.map (m := (fun x : journal_read => (x.at_, x.ahead_, x.sign_, x.text_, x.whole_))) (Fld.next (s := (tI .i64)) (Fld.next (s := (tI .i64)) (Fld.here tS (tP tS (tOne tS)))))).cast rfl rfl
theorem sjournal_read_2 : FldSet tjournal_read 2 tS (fun x y => { x with sign_ := y }) := (FldSet.map (m := (fun x : journal_read => (x.at_, x.ahead_, x.sign_, x.text_, x.whole_))) (f' := fun x y => { x with sign_ := y }) (FldSet.next (s := (tI .i64)) (FldSet.next (s := (tI .i64)) (FldSet.here tS (tP tS (tOne tS))))) (fun _ _ => rfl)).cast rfl rfl
theorem fjournal_read_3 : Fld tjournal_read 3 tS (fun x => x.text_) := (Fld.map (m := (fun x : journal_read => (x.at_, x.ahead_, x.sign_, x.text_, x.whole_))) (Fld.next (s := (tI .i64)) (Fld.next (s := (tI .i64)) (Fld.next (s := tS) (Fld.here tS (tOne tS)))))).cast rfl rfl
theorem sjournal_read_3 : FldSet tjournal_read 3 tS (fun x y => { x with text_ := y }) := (FldSet.map (m := (fun x : journal_read => (x.at_, x.ahead_, x.sign_, x.text_, x.whole_))) (f' := fun x y => { x with text_ := y }) (FldSet.next (s := (tI .i64)) (FldSet.next (s := (tI .i64)) (FldSet.next (s := tS) (FldSet.here tS (tOne tS))))) (fun _ _ => rfl)).cast rfl rfl
theorem fjournal_read_4 : Fld tjournal_read 4 tS (fun x => x.whole_) := (Fld.map (m := (fun x : journal_read => (x.at_, x.ahead_, x.sign_, x.text_, x.whole_))) (Fld.next (s := (tI .i64)) (Fld.next (s := (tI .i64)) (Fld.next (s := tS) (Fld.next (s := tS) (Fld.one tS)))))).cast rfl rfl
theorem sjournal_read_4 : FldSet tjournal_read 4 tS (fun x y => { x with whole_ := y }) := (FldSet.map (m := (fun x : journal_read => (x.at_, x.ahead_, x.sign_, x.text_, x.whole_))) (f' := fun x y => { x with whole_ := y }) (FldSet.next (s := (tI .i64)) (FldSet.next (s := (tI .i64)) (FldSet.next (s := tS) (FldSet.next (s := tS) (FldSet.one tS))))) (fun _ _ => rfl)).cast rfl rfl
def zjournal_read_f (fd : Field) : Nat := if fd.type = 3 then 1 else if fd.type = 9 then 1 else 0
theorem zjournal_read_sz : ∀ fs, Tryz.prog.underlying 81 = some (.struct fs) → ∀ fd, fd ∈ fs → ∀ w, (sizeOf fd.type).run Tryz.prog w = .ok (zjournal_read_f fd) w := by
  intro fs h
  rw [Tryz.underlying81] at h
  cases h
  intro fd hfd w
  simp only [List.mem_toArray, List.mem_cons, List.not_mem_nil, or_false] at hfd
  rcases hfd with rfl | rfl | rfl | rfl | rfl
  · exact Tryz.sizeOf3 w
  · exact Tryz.sizeOf3 w
  · exact Tryz.sizeOf9 w
  · exact Tryz.sizeOf9 w
  · exact Tryz.sizeOf9 w
theorem ty3 : TyAt Tryz.prog 3 (tI .i64) := ⟨Tryz.isAgg3, Tryz.sizeOf3⟩
theorem el3 : ElAt Tryz.prog 3 (tI .i64) := ⟨⟨Tryz.t3, _, Tryz.type3, rfl, rfl, by decide, rfl⟩, by decide⟩
theorem ze3 : ZeroAt Tryz.prog 3 (tI .i64) (0 : Int) := ⟨_, Tryz.zeroValue3, fun _ => ⟨_, ⟨rfl, inR64.2 ⟨by decide, by decide⟩⟩, rfl⟩⟩
theorem ty4 : TyAt Tryz.prog 4 tB := ⟨Tryz.isAgg4, Tryz.sizeOf4⟩
theorem ty5 : TyAt Tryz.prog 5 (tI .u8) := ⟨Tryz.isAgg5, Tryz.sizeOf5⟩
theorem el5 : ElAt Tryz.prog 5 (tI .u8) := ⟨⟨Tryz.t5, _, Tryz.type5, rfl, rfl, by decide, rfl⟩, by decide⟩
theorem ze5 : ZeroAt Tryz.prog 5 (tI .u8) (0 : Int) := ⟨_, Tryz.zeroValue5, fun _ => ⟨_, ⟨rfl, by decide⟩, rfl⟩⟩
theorem ty9 : TyAt Tryz.prog 9 tS := ⟨Tryz.isAgg9, Tryz.sizeOf9⟩
theorem el9 : ElAt Tryz.prog 9 tS := ⟨⟨Tryz.t9, _, Tryz.type9, rfl, rfl, by decide, rfl⟩, by decide⟩
theorem ze9 : ZeroAt Tryz.prog 9 tS ([] : Str) := ⟨_, Tryz.zeroValue9, fun _ => ⟨_, ⟨rfl, by decide⟩, rfl⟩⟩
theorem ty26 : TyAt Tryz.prog 26 (tL tS) := ⟨Tryz.isAgg26, Tryz.sizeOf26⟩
theorem ty58 : TyAt Tryz.prog 58 tjournal_mark := ⟨Tryz.isAgg58, Tryz.sizeOf58⟩
theorem ze58 : ZeroAt Tryz.prog 58 tjournal_mark zjournal_mark := ⟨_, Tryz.zeroValue58, fun _ => ⟨_, ⟨_, _, rfl, ⟨rfl, inR64.2 ⟨by decide, by decide⟩⟩, ⟨rfl, by decide⟩⟩, rfl⟩⟩
theorem ze60 : ZeroAt Tryz.prog 60 tjournal_Journal zjournal_Journal := ⟨_, Tryz.zeroValue60, fun _ => ⟨_, ⟨_, _, rfl, ⟨_, rfl⟩, ⟨_, _, rfl, ⟨none, 0, rfl, Nat.le_refl _, Nat.zero_le _, fun _ => rfl, rfl⟩, ⟨_, _, rfl, ⟨rfl, inR64.2 ⟨by decide, by decide⟩⟩, ⟨_, _, rfl, ⟨rfl, inR64.2 ⟨by decide, by decide⟩⟩, ⟨rfl, by decide⟩⟩⟩⟩⟩, rfl⟩⟩
theorem ty81 : TyAt Tryz.prog 81 tjournal_read := ⟨Tryz.isAgg81, Tryz.sizeOf81⟩
theorem el81 : ElAt Tryz.prog 81 tjournal_read := ⟨⟨Tryz.t81, _, Tryz.type81, rfl, rfl, by decide, rfl⟩, by decide⟩
theorem ze81 : ZeroAt Tryz.prog 81 tjournal_read zjournal_read := ⟨_, Tryz.zeroValue81, fun _ => ⟨_, ⟨_, _, rfl, ⟨rfl, inR64.2 ⟨by decide, by decide⟩⟩, ⟨_, _, rfl, ⟨rfl, inR64.2 ⟨by decide, by decide⟩⟩, ⟨_, _, rfl, ⟨rfl, by decide⟩, ⟨_, _, rfl, ⟨rfl, by decide⟩, ⟨rfl, by decide⟩⟩⟩⟩⟩, rfl⟩⟩
theorem ze141 : ZeroAt Tryz.prog 141 (tA 65 (tI .u8)) (List.replicate 65 (0 : Int)) := ZeroAt.array ze5 Tryz.zeroValue5 Tryz.zeroValue141 rfl default
theorem fl9 : Flat tS := Flat.S
theorem fl81 : Flat tjournal_read := (Flat.map (Flat.pair Flat.I (Flat.pair Flat.I (Flat.pair Flat.S (Flat.pair Flat.S (Flat.one Flat.S))))) _)
abbrev I6 : Ty Int := tI .i64
theorem Mx : Tryz.prog.follows .mixedOrders = true := Tryz.mixed
theorem C5 (xs : Array Value) (w : World) : (callFunc 5 xs).run Tryz.prog w = .ok (.enter 5 xs) w := Tryz.call5 xs w
theorem C6 (xs : Array Value) (w : World) : (callFunc 6 xs).run Tryz.prog w = .ok (.enter 6 xs) w := Tryz.call6 xs w
theorem C7 (xs : Array Value) (w : World) : (callFunc 7 xs).run Tryz.prog w = .ok (.enter 7 xs) w := Tryz.call7 xs w
theorem C8 (xs : Array Value) (w : World) : (callFunc 8 xs).run Tryz.prog w = .ok (.enter 8 xs) w := Tryz.call8 xs w
theorem C9 (xs : Array Value) (w : World) : (callFunc 9 xs).run Tryz.prog w = .ok (.enter 9 xs) w := Tryz.call9 xs w
theorem C10 (xs : Array Value) (w : World) : (callFunc 10 xs).run Tryz.prog w = .ok (.enter 10 xs) w := Tryz.call10 xs w
theorem C11 (xs : Array Value) (w : World) : (callFunc 11 xs).run Tryz.prog w = .ok (.enter 11 xs) w := Tryz.call11 xs w
theorem C12 (xs : Array Value) (w : World) : (callFunc 12 xs).run Tryz.prog w = .ok (.enter 12 xs) w := Tryz.call12 xs w
theorem C13 (xs : Array Value) (w : World) : (callFunc 13 xs).run Tryz.prog w = .ok (.enter 13 xs) w := Tryz.call13 xs w
theorem C14 (xs : Array Value) (w : World) : (callFunc 14 xs).run Tryz.prog w = .ok (.enter 14 xs) w := Tryz.call14 xs w
theorem C15 (xs : Array Value) (w : World) : (callFunc 15 xs).run Tryz.prog w = .ok (.enter 15 xs) w := Tryz.call15 xs w
theorem C16 (xs : Array Value) (w : World) : (callFunc 16 xs).run Tryz.prog w = .ok (.enter 16 xs) w := Tryz.call16 xs w
theorem C17 (xs : Array Value) (w : World) : (callFunc 17 xs).run Tryz.prog w = .ok (.enter 17 xs) w := Tryz.call17 xs w
theorem C18 (xs : Array Value) (w : World) : (callFunc 18 xs).run Tryz.prog w = .ok (.enter 18 xs) w := Tryz.call18 xs w
theorem C19 (xs : Array Value) (w : World) : (callFunc 19 xs).run Tryz.prog w = .ok (.enter 19 xs) w := Tryz.call19 xs w
theorem C20 (xs : Array Value) (w : World) : (callFunc 20 xs).run Tryz.prog w = .ok (.enter 20 xs) w := Tryz.call20 xs w
theorem C21 (xs : Array Value) (w : World) : (callFunc 21 xs).run Tryz.prog w = .ok (.enter 21 xs) w := Tryz.call21 xs w
theorem C22 (xs : Array Value) (w : World) : (callFunc 22 xs).run Tryz.prog w = .ok (.enter 22 xs) w := Tryz.call22 xs w
theorem C23 (xs : Array Value) (w : World) : (callFunc 23 xs).run Tryz.prog w = .ok (.enter 23 xs) w := Tryz.call23 xs w
theorem C24 (xs : Array Value) (w : World) : (callFunc 24 xs).run Tryz.prog w = .ok (.enter 24 xs) w := Tryz.call24 xs w
theorem C25 (xs : Array Value) (w : World) : (callFunc 25 xs).run Tryz.prog w = .ok (.enter 25 xs) w := Tryz.call25 xs w
theorem C26 (xs : Array Value) (w : World) : (callFunc 26 xs).run Tryz.prog w = .ok (.enter 26 xs) w := Tryz.call26 xs w
theorem C27 (xs : Array Value) (w : World) : (callFunc 27 xs).run Tryz.prog w = .ok (.enter 27 xs) w := Tryz.call27 xs w
theorem C28 (xs : Array Value) (w : World) : (callFunc 28 xs).run Tryz.prog w = .ok (.enter 28 xs) w := Tryz.call28 xs w
theorem C29 (xs : Array Value) (w : World) : (callFunc 29 xs).run Tryz.prog w = .ok (.enter 29 xs) w := Tryz.call29 xs w
theorem C30 (xs : Array Value) (w : World) : (callFunc 30 xs).run Tryz.prog w = .ok (.enter 30 xs) w := Tryz.call30 xs w
theorem C31 (xs : Array Value) (w : World) : (callFunc 31 xs).run Tryz.prog w = .ok (.enter 31 xs) w := Tryz.call31 xs w
theorem C32 (xs : Array Value) (w : World) : (callFunc 32 xs).run Tryz.prog w = .ok (.enter 32 xs) w := Tryz.call32 xs w
theorem C33 (xs : Array Value) (w : World) : (callFunc 33 xs).run Tryz.prog w = .ok (.enter 33 xs) w := Tryz.call33 xs w
theorem C34 (xs : Array Value) (w : World) : (callFunc 34 xs).run Tryz.prog w = .ok (.enter 34 xs) w := Tryz.call34 xs w
theorem C35 (xs : Array Value) (w : World) : (callFunc 35 xs).run Tryz.prog w = .ok (.enter 35 xs) w := Tryz.call35 xs w
theorem C36 (xs : Array Value) (w : World) : (callFunc 36 xs).run Tryz.prog w = .ok (.enter 36 xs) w := Tryz.call36 xs w
theorem C37 (xs : Array Value) (w : World) : (callFunc 37 xs).run Tryz.prog w = .ok (.enter 37 xs) w := Tryz.call37 xs w
theorem C38 (xs : Array Value) (w : World) : (callFunc 38 xs).run Tryz.prog w = .ok (.enter 38 xs) w := Tryz.call38 xs w
theorem C39 (xs : Array Value) (w : World) : (callFunc 39 xs).run Tryz.prog w = .ok (.enter 39 xs) w := Tryz.call39 xs w
theorem C40 (xs : Array Value) (w : World) : (callFunc 40 xs).run Tryz.prog w = .ok (.enter 40 xs) w := Tryz.call40 xs w
theorem C41 (xs : Array Value) (w : World) : (callFunc 41 xs).run Tryz.prog w = .ok (.enter 41 xs) w := Tryz.call41 xs w
theorem C42 (xs : Array Value) (w : World) : (callFunc 42 xs).run Tryz.prog w = .ok (.enter 42 xs) w := Tryz.call42 xs w
theorem C43 (xs : Array Value) (w : World) : (callFunc 43 xs).run Tryz.prog w = .ok (.enter 43 xs) w := Tryz.call43 xs w
theorem C44 (xs : Array Value) (w : World) : (callFunc 44 xs).run Tryz.prog w = .ok (.enter 44 xs) w := Tryz.call44 xs w
theorem C45 (xs : Array Value) (w : World) : (callFunc 45 xs).run Tryz.prog w = .ok (.enter 45 xs) w := Tryz.call45 xs w
theorem C46 (xs : Array Value) (w : World) : (callFunc 46 xs).run Tryz.prog w = .ok (.enter 46 xs) w := Tryz.call46 xs w
theorem C47 (xs : Array Value) (w : World) : (callFunc 47 xs).run Tryz.prog w = .ok (.enter 47 xs) w := Tryz.call47 xs w
theorem C48 (xs : Array Value) (w : World) : (callFunc 48 xs).run Tryz.prog w = .ok (.enter 48 xs) w := Tryz.call48 xs w
theorem C49 (xs : Array Value) (w : World) : (callFunc 49 xs).run Tryz.prog w = .ok (.enter 49 xs) w := Tryz.call49 xs w
theorem C50 (xs : Array Value) (w : World) : (callFunc 50 xs).run Tryz.prog w = .ok (.enter 50 xs) w := Tryz.call50 xs w
theorem C51 (xs : Array Value) (w : World) : (callFunc 51 xs).run Tryz.prog w = .ok (.enter 51 xs) w := Tryz.call51 xs w
theorem C52 (xs : Array Value) (w : World) : (callFunc 52 xs).run Tryz.prog w = .ok (.enter 52 xs) w := Tryz.call52 xs w
theorem C53 (xs : Array Value) (w : World) : (callFunc 53 xs).run Tryz.prog w = .ok (.enter 53 xs) w := Tryz.call53 xs w
theorem C54 (xs : Array Value) (w : World) : (callFunc 54 xs).run Tryz.prog w = .ok (.enter 54 xs) w := Tryz.call54 xs w
theorem C55 (xs : Array Value) (w : World) : (callFunc 55 xs).run Tryz.prog w = .ok (.enter 55 xs) w := Tryz.call55 xs w
theorem C56 (xs : Array Value) (w : World) : (callFunc 56 xs).run Tryz.prog w = .ok (.enter 56 xs) w := Tryz.call56 xs w
theorem C57 (xs : Array Value) (w : World) : (callFunc 57 xs).run Tryz.prog w = .ok (.enter 57 xs) w := Tryz.call57 xs w
theorem C58 (xs : Array Value) (w : World) : (callFunc 58 xs).run Tryz.prog w = .ok (.enter 58 xs) w := Tryz.call58 xs w
theorem C59 (xs : Array Value) (w : World) : (callFunc 59 xs).run Tryz.prog w = .ok (.enter 59 xs) w := Tryz.call59 xs w
theorem C60 (xs : Array Value) (w : World) : (callFunc 60 xs).run Tryz.prog w = .ok (.enter 60 xs) w := Tryz.call60 xs w
theorem C61 (xs : Array Value) (w : World) : (callFunc 61 xs).run Tryz.prog w = .ok (.enter 61 xs) w := Tryz.call61 xs w
theorem C63 (xs : Array Value) (w : World) : (callFunc 63 xs).run Tryz.prog w = .ok (.enter 63 xs) w := Tryz.call63 xs w
theorem C64 (xs : Array Value) (w : World) : (callFunc 64 xs).run Tryz.prog w = .ok (.enter 64 xs) w := Tryz.call64 xs w
theorem C72 (xs : Array Value) (w : World) : (callFunc 72 xs).run Tryz.prog w = .ok (.enter 72 xs) w := Tryz.call72 xs w
theorem C86 (xs : Array Value) (w : World) : (callFunc 86 xs).run Tryz.prog w = .ok (.enter 86 xs) w := Tryz.call86 xs w
theorem C89 (xs : Array Value) (w : World) : (callFunc 89 xs).run Tryz.prog w = .ok (.enter 89 xs) w := Tryz.call89 xs w
theorem C106 (xs : Array Value) (w : World) : (callFunc 106 xs).run Tryz.prog w = .ok (.enter 106 xs) w := Tryz.call106 xs w
theorem C107 (xs : Array Value) (w : World) : (callFunc 107 xs).run Tryz.prog w = .ok (.enter 107 xs) w := Tryz.call107 xs w
theorem C114 (xs : Array Value) (w : World) : (callFunc 114 xs).run Tryz.prog w = .ok (.enter 114 xs) w := Tryz.call114 xs w
theorem J3 (w : World) : ∃ m, (sizeOf 3).run Tryz.prog w = .ok (m + 1) w := ⟨0, Tryz.sizeOf3 w⟩
theorem J4 (w : World) : ∃ m, (sizeOf 4).run Tryz.prog w = .ok (m + 1) w := ⟨0, Tryz.sizeOf4 w⟩
theorem J9 (w : World) : ∃ m, (sizeOf 9).run Tryz.prog w = .ok (m + 1) w := ⟨0, Tryz.sizeOf9 w⟩
theorem J26 (w : World) : ∃ m, (sizeOf 26).run Tryz.prog w = .ok (m + 1) w := ⟨0, Tryz.sizeOf26 w⟩
theorem J29 (w : World) : ∃ m, (sizeOf 29).run Tryz.prog w = .ok (m + 1) w := ⟨0, Tryz.sizeOf29 w⟩
theorem J38 (w : World) : ∃ m, (sizeOf 38).run Tryz.prog w = .ok (m + 1) w := ⟨0, Tryz.sizeOf38 w⟩
theorem J58 (w : World) : ∃ m, (sizeOf 58).run Tryz.prog w = .ok (m + 1) w := ⟨1, Tryz.sizeOf58 w⟩
theorem U3 : Tryz.prog.underlying 3 = some (.int .i64) := Tryz.underlying3
theorem U5 : Tryz.prog.underlying 5 = some (.int .u8) := Tryz.underlying5
theorem U9 : Tryz.prog.underlying 9 = some (.string) := Tryz.underlying9
theorem U22 : Tryz.prog.underlying 22 = some (.slice 52) := Tryz.underlying22
theorem U25 : Tryz.prog.underlying 25 = some (.pointer 60) := Tryz.underlying25
theorem U26 : Tryz.prog.underlying 26 = some (.slice 9) := Tryz.underlying26
theorem U29 : Tryz.prog.underlying 29 = some (.pointer 56) := Tryz.underlying29
theorem U38 : Tryz.prog.underlying 38 = some (.slice 5) := Tryz.underlying38
theorem U52 : Tryz.prog.underlying 52 = some (.struct #[⟨ "Kind", 3, 0, false, "", "", 0⟩, ⟨ "N", 3, 1, false, "", "", 8⟩, ⟨ "Text", 9, 2, false, "", "", 16⟩]) := Tryz.underlying52
theorem U64 : Tryz.prog.underlying 64 = some (.slice 3) := Tryz.underlying64
theorem U77 : Tryz.prog.underlying 77 = some (.slice 81) := Tryz.underlying77
theorem U95 : Tryz.prog.underlying 95 = some (.int .u64) := Tryz.underlying95
theorem U96 : Tryz.prog.underlying 96 = some (.int .u64) := Tryz.underlying96
theorem U100 : Tryz.prog.underlying 100 = some (.pointer 5) := Tryz.underlying100
theorem U141 : Tryz.prog.underlying 141 = some (.array 65 5) := Tryz.underlying141
theorem U155 : Tryz.prog.underlying 155 = some (.array 64 5) := Tryz.underlying155
theorem Y3 (w : World) : (isAgg 3).run Tryz.prog w = .ok false w := Tryz.isAgg3 w
theorem Y29 (w : World) : (isAgg 29).run Tryz.prog w = .ok false w := Tryz.isAgg29 w
theorem Y38 (w : World) : (isAgg 38).run Tryz.prog w = .ok false w := Tryz.isAgg38 w
theorem Y58 (w : World) : (isAgg 58).run Tryz.prog w = .ok true w := Tryz.isAgg58 w
theorem Y81 (w : World) : (isAgg 81).run Tryz.prog w = .ok true w := Tryz.isAgg81 w
theorem Z3 (w : World) : (sizeOf 3).run Tryz.prog w = .ok 1 w := Tryz.sizeOf3 w
theorem Z5 (w : World) : (sizeOf 5).run Tryz.prog w = .ok 1 w := Tryz.sizeOf5 w
theorem Z9 (w : World) : (sizeOf 9).run Tryz.prog w = .ok 1 w := Tryz.sizeOf9 w
theorem Z26 (w : World) : (sizeOf 26).run Tryz.prog w = .ok 1 w := Tryz.sizeOf26 w
theorem Z29 (w : World) : (sizeOf 29).run Tryz.prog w = .ok 1 w := Tryz.sizeOf29 w
theorem Z38 (w : World) : (sizeOf 38).run Tryz.prog w = .ok 1 w := Tryz.sizeOf38 w
theorem Z52 (w : World) : (sizeOf 52).run Tryz.prog w = .ok 3 w := Tryz.sizeOf52 w
theorem Z58 (w : World) : (sizeOf 58).run Tryz.prog w = .ok 2 w := Tryz.sizeOf58 w
theorem Z81 (w : World) : (sizeOf 81).run Tryz.prog w = .ok 5 w := Tryz.sizeOf81 w
end Go.Proofs.YtkobngongonplaaGreatDoor
