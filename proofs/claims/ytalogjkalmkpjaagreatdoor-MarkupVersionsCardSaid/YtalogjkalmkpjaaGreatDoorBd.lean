/-
  The inner functions of builders of strings: written by program.
-/
import Derived.Test.YtalogjkalmkpjaaGreatDoorTy
import Derived.Shelf.RegionOpenPlain
import Derived.Lib.Strings
import Derived.Lib.Walk
import Derived.Lib.Builder
import Derived.Lib.UnsafeStr
import Derived.Lib.MakeNoZero
import Derived.Laws.IdiomCopy
import Derived.WalkKit
import Derived.Laws.Externs
import Derived.KernelRfl
set_option linter.unusedVariables false
set_option maxRecDepth 100000
namespace Go.Proofs.YtalogjkalmkpjaaGreatDoor
open Go Go.RowKit
theorem CE(b:Nat)(w:World)(h0:w.cell? ⟨b,0,none⟩=some (.pointer (some ⟨b,0,none⟩))) :
  Calls Tryz.prog 101 #[.pointer (some ⟨b,0,none⟩)] w fun e w'=>e= .returned (.tuple #[])∧w'=w:=by
 obtain ⟨j,hj,_⟩:∃ j,Tryz.prog.info? 105=some j∧j.size=2:=⟨Tryz.t105,Tryz.type105,rfl⟩
 go_enter Tryz.func101,Tryz.ntmps101
 go_wp2
 rw [Lib.run_neq_ptr_same w _ Tryz.underlying102 hj]
 go_wp2
 go_end0
 exact ⟨rfl,rfl⟩
theorem zY(b:Nat)(w:World)(h0:w.cell? ⟨b,0,none⟩=some (.pointer none))(hsh:w.shape? b=some (105,2))(hfz:w.frozen? ⟨b,0,none⟩=false) :
  Calls Tryz.prog 101 #[.pointer (some ⟨b,0,none⟩)] w fun e w'=>e= .returned (.tuple #[])∧w'=w.setCell ⟨b,0,none⟩ (.pointer (some ⟨b,0,none⟩)):=by
 obtain ⟨j,hj,hjs⟩:∃ j,Tryz.prog.info? 105=some j∧j.size=2:=⟨Tryz.t105,Tryz.type105,rfl⟩
 go_enter Tryz.func101,Tryz.ntmps101
 go_wp2
 rw [Lib.run_to_unsafe w ⟨b,0,none⟩ Tryz.underlying102 Tryz.underlying192 hj (by rw [hjs];decide) hsh (Nat.zero_lt_succ 1)];simp only [Result.andThen];rw [Oper.upon_value]
 go_wp2
 rw [run_callFunc_extern Tryz.func140 (by kernel_rfl) (by kernel_rfl) (by kernel_rfl) (e:=Extern.AbiNoEscape.same) (by kernel_rfl)];rw [Lib.run_noEscape];simp only [Result.andThen];rw [Oper.upon_value]
 go_wp2
 rw [Lib.run_from_unsafe w ⟨b,0,none⟩ Tryz.underlying192 Tryz.underlying102 hj hsh (by kernel_rfl)];simp only [Result.andThen];rw [Oper.upon_value]
 go_wp2
 go_end0
 exact ⟨rfl,rfl⟩
set_option maxHeartbeats 2000000 in
theorem H5(b:Nat)(p v:Value)(n:Int)(q:Option Addr)(r:ByteArray)(w w1 w2:World)(hbk:w.heap[b]? =some (.cells #[p,v] 105 (0,0)))
  (hv:∃ ao m c,v= .slice ao m c∧n=(m:Int)) (hlt:w1.heap[b]? =w.heap[b]?)
  (hSD:(Builtin.unsafeSliceData_ #[103] 146 #[v]).run Tryz.prog w.drew= .ok (.pointer q) w1)
  (hUS:(Builtin.unsafeString_ #[146,3] 9 #[.pointer q,.int .i64 n]).run Tryz.prog w1= .ok (.string r) w2) :
  Calls Tryz.prog 68 #[.pointer (some ⟨b,0,none⟩)] w fun e w'=>e= .returned (.string r)∧w'=w2:=by
 obtain ⟨ao,m,c,rfl,rfl⟩:=hv;have c1:w.drew.cell? ⟨b,1,none⟩=some (.slice ao m c):=by
  have:w.drew.heap[b]? =some (.cells #[p,.slice ao m c] 105 (0,0)):=hbk;rw [Lib.cell_of_heap this];rfl
 have c2:w1.cell? ⟨b,1,none⟩=some (.slice ao m c):=by
  have:w1.heap[b]? =some (.cells #[p,.slice ao m c] 105 (0,0)):=hlt.trans hbk;rw [Lib.cell_of_heap this];rfl
 go_enter Tryz.func68,Tryz.ntmps68
 go_wp2
 go_region
 all_goals (go_wp2;go_ret;exact ⟨rfl,rfl⟩)
set_option maxHeartbeats 2000000 in
theorem Gh(b n:Nat)(w:World)(hbk:w.heap[b]? =some (.cells #[.pointer (some ⟨b,0,none⟩),.slice none 0 0] 105 (0,0)))(hn:n≤281474976710656) :
  Calls Tryz.prog 102 #[.pointer (some ⟨b,0,none⟩),.int .i64 n] w fun e w'=>e= .returned (.tuple #[])∧ ∃ cs:Array Value,n≤cs.size∧(n≤maxLen→cs.size≤maxLen)∧
   w'=((w.setCell ⟨b,1,none⟩ (.slice (some ⟨w.heap.size,0,none⟩) 0 cs.size)).alloc (.cells cs 5)).drew.drew.drew:=by
 obtain ⟨cs,hrun,hle,hmax⟩:=Lib.run_makeNoZero (P:=Tryz.prog) w.drew #[3] 103 5 Tryz.underlying103 n hn;have hw:IntKind.i64.wrap (IntKind.i64.wrap 0+(n:Int))=n:=by
  rw [IntKind.wrap_i64,IntKind.wrap_i64];omega
 have hcall:(callFunc 141 #[.int .i64 (IntKind.i64.wrap (IntKind.i64.wrap 0+(n:Int)))]).run Tryz.prog w.drew= .ok (.value (.slice (some ⟨w.drew.heap.size,0,none⟩) n cs.size)) (w.drew.drew.drew.alloc (.cells cs 5)):=by
  rw [hw,run_callFunc_extern Tryz.func141 (by kernel_rfl) (by kernel_rfl) (by kernel_rfl) (e:=Extern.BytealgMakeNoZero.makeNoZero #[3] #[103]) (by kernel_rfl),hrun];rfl
 have hlt:b<w.heap.size:=by
  rcases Nat.lt_or_ge b w.heap.size with h' | h'
  ·exact h'
  ·simp [Array.getElem?_eq_none h'] at hbk
 have c1:w.drew.cell? ⟨b,1,none⟩=some (.slice none 0 0):=by
  have:w.drew.heap[b]? =_:=hbk;rw [Lib.cell_of_heap this];rfl
 have c2:(w.alloc (.cells cs 5)).cell? ⟨b,1,none⟩=some (.slice none 0 0):=by
  have:(w.alloc (.cells cs 5)).heap[b]? =_:=(Lib.alloc_old w _ b hlt).trans hbk;rw [Lib.cell_of_heap this];rfl
 have f2:(w.alloc (.cells cs 5)).frozen? ⟨b,1,none⟩=false:=Lib.frozen_of_heap ((Lib.alloc_old w _ b hlt).trans hbk) 1;have hcopy:∀ W:World,(Builtin.copy_ #[103,103] 3 #[.slice (some ⟨w.heap.size,0,none⟩) 0 cs.size,.slice none 0 0]).run Tryz.prog W= .ok (goInt 0) W:=
  fun W=>run_copy_none W 103 103 3 5 _ _ 0 cs.size 0 0 Tryz.underlying103 (by kernel_rfl) rfl
 clear hw
 go_enter Tryz.func102,Tryz.ntmps102
 go_wp2
 go_region
 all_goals (go_wp2;go_end0;exact ⟨rfl,cs,hle,hmax,rfl⟩)
set_option maxHeartbeats 2000000 in
theorem Gi(b n:Nat)(w w1:World)(hchk:Calls Tryz.prog 101 #[.pointer (some ⟨b,0,none⟩)] w fun e w'=>e= .returned (.tuple #[])∧w'=w1)
  (hbk:w1.heap[b]? =some (.cells #[.pointer (some ⟨b,0,none⟩),.slice none 0 0] 105 (0,0))) (hn:n≤281474976710656) :
  Calls Tryz.prog 66 #[.pointer (some ⟨b,0,none⟩),.int .i64 n] w fun e w'=>e= .returned (.tuple #[])∧(w'=w1.drew∨ ∃ cs:Array Value,n≤cs.size∧(n≤maxLen→cs.size≤maxLen)∧
   w'=((w1.setCell ⟨b,1,none⟩ (.slice (some ⟨w1.heap.size,0,none⟩) 0 cs.size)).alloc (.cells cs 5)).drew.drew.drew.drew):=by
 have c1:w1.cell? ⟨b,1,none⟩=some (.slice none 0 0):=by rw [Lib.cell_of_heap hbk];rfl
 have c1':w1.drew.cell? ⟨b,1,none⟩=some (.slice none 0 0):=c1
 go_enter Tryz.func66,Tryz.ntmps66
 go_wp2_with (go_at_call 101;refine hchk.mono ?_;rintro e w' ⟨rfl,h⟩;rw [h])
 go_region
 all_goals go_wp2_with (go_at_call 102;refine (Gh b n w1.drew hbk hn).mono ?_;rintro e w' ⟨rfl,cs,h1,h2,rfl⟩)
 all_goals first
  | (go_end0;exact ⟨rfl,.inr ⟨cs,h1,h2,rfl⟩⟩)
  | (go_end0;exact ⟨rfl,.inl rfl⟩)
end Go.Proofs.YtalogjkalmkpjaaGreatDoor
