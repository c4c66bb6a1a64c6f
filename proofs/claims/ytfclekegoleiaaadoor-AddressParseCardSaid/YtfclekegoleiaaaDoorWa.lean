/-
  The code does what the models say: written by program.
-/
import Derived.Test.YtfclekegoleiaaaDoorBd
set_option linter.unusedVariables false
set_option linter.unusedSimpArgs false
namespace Go.Proofs.YtfclekegoleiaaaDoor
open Go Go.Dec

set_option maxRecDepth 100000
set_option maxHeartbeats 4000000
theorem law07_book_spec  (r : api_Unit) (hm : M.law07_book  = some r) : FSpec Tryd.prog 26 [] (tapi_Unit.is r) := by
 unfold M.law07_book at hm
 refine FSpec.of Tryd.func26 rfl rfl rfl (fun g0 => ?_)
 refine W.sr ?_
 refine WL.opR rfl (OpR.alloc 0 ze27) (fun b => ?_)
 refine WL.nr ?_
 refine WL.op rfl (.build (s := tapi_Id) (x := (⟨(1 : Int), (0 : Int), (2 : Int)⟩ : api_Id)) zapi_Id_f rfl Tryd.underlying23 (zapi_Id_sz _ Tryd.underlying23) ze23 ⟨_, (tI .i64), (1 : Int), _, _, rfl, Tryd.sizeOf3, .i64, sapi_Id_0, ⟨_, (tI .i64), (2 : Int), _, _, rfl, Tryd.sizeOf3, .i64, sapi_Id_2, rfl⟩⟩) ?_
 refine WL.op rfl (.build (s := tapi_Unit) (x := (⟨(⟨(1 : Int), (0 : Int), (2 : Int)⟩ : api_Id), (3 : Int), ([50] : Str), ([] : List api_Word), ([] : List api_Word), ([] : List api_Unit)⟩ : api_Unit)) zapi_Unit_f rfl Tryd.underlying27 (zapi_Unit_sz _ Tryd.underlying27) ze27 ⟨_, tapi_Id, (⟨(1 : Int), (0 : Int), (2 : Int)⟩ : api_Id), _, _, rfl, Tryd.sizeOf23, (.tmp rfl), sapi_Unit_0, ⟨_, (tI .i64), (3 : Int), _, _, rfl, Tryd.sizeOf3, .i64, sapi_Unit_1, ⟨_, tS, ([50] : Str), _, _, rfl, Tryd.sizeOf9, (.str rfl (by decide)), sapi_Unit_2, rfl⟩⟩⟩) ?_
 refine WL.opR rfl (OpR.alloc 1 ze27) (fun b1 => ?_)
 refine WL.opU (OpR.storeB (b := b1) 1 Tryd.sizeOf27 (Cellable.is tapi_Unit (⟨(⟨(1 : Int), (0 : Int), (2 : Int)⟩ : api_Id), (3 : Int), ([50] : Str), ([] : List api_Word), ([] : List api_Word), ([] : List api_Unit)⟩ : api_Unit)) rfl (.tmp rfl) (.tmp rfl)) (fun _ => ?_)
 refine WL.sealed (t := tapi_Unit) (u := (⟨(⟨(1 : Int), (0 : Int), (2 : Int)⟩ : api_Id), (3 : Int), ([50] : Str), ([] : List api_Word), ([] : List api_Word), ([] : List api_Unit)⟩ : api_Unit)) 1 1 rfl rfl ?_
 refine WL.nr ?_
 refine WL.op rfl (.build (s := tapi_Id) (x := (⟨(1 : Int), (0 : Int), (4 : Int)⟩ : api_Id)) zapi_Id_f rfl Tryd.underlying23 (zapi_Id_sz _ Tryd.underlying23) ze23 ⟨_, (tI .i64), (1 : Int), _, _, rfl, Tryd.sizeOf3, .i64, sapi_Id_0, ⟨_, (tI .i64), (4 : Int), _, _, rfl, Tryd.sizeOf3, .i64, sapi_Id_2, rfl⟩⟩) ?_
 refine WL.op rfl (.build (s := tapi_Unit) (x := (⟨(⟨(1 : Int), (0 : Int), (4 : Int)⟩ : api_Id), (2 : Int), ([54] : Str), ([] : List api_Word), ([] : List api_Word), ([] : List api_Unit)⟩ : api_Unit)) zapi_Unit_f rfl Tryd.underlying27 (zapi_Unit_sz _ Tryd.underlying27) ze27 ⟨_, tapi_Id, (⟨(1 : Int), (0 : Int), (4 : Int)⟩ : api_Id), _, _, rfl, Tryd.sizeOf23, (.tmp rfl), sapi_Unit_0, ⟨_, (tI .i64), (2 : Int), _, _, rfl, Tryd.sizeOf3, .i64, sapi_Unit_1, ⟨_, tS, ([54] : Str), _, _, rfl, Tryd.sizeOf9, (.str rfl (by decide)), sapi_Unit_2, rfl⟩⟩⟩) ?_
 refine WL.opR rfl (OpR.alloc 2 ze27) (fun b2 => ?_)
 refine WL.opU (OpR.storeB (b := b2) 2 Tryd.sizeOf27 (Cellable.is tapi_Unit (⟨(⟨(1 : Int), (0 : Int), (4 : Int)⟩ : api_Id), (2 : Int), ([54] : Str), ([] : List api_Word), ([] : List api_Word), ([] : List api_Unit)⟩ : api_Unit)) rfl (.tmp rfl) (.tmp rfl)) (fun _ => ?_)
 refine WL.sealed (t := tapi_Unit) (u := (⟨(⟨(1 : Int), (0 : Int), (4 : Int)⟩ : api_Id), (2 : Int), ([54] : Str), ([] : List api_Word), ([] : List api_Word), ([] : List api_Unit)⟩ : api_Unit)) 2 2 rfl rfl ?_
 refine WL.nr ?_
 refine WL.op rfl (.build (s := tapi_Id) (x := (⟨(1 : Int), (0 : Int), (1 : Int)⟩ : api_Id)) zapi_Id_f rfl Tryd.underlying23 (zapi_Id_sz _ Tryd.underlying23) ze23 ⟨_, (tI .i64), (1 : Int), _, _, rfl, Tryd.sizeOf3, .i64, sapi_Id_0, ⟨_, (tI .i64), (1 : Int), _, _, rfl, Tryd.sizeOf3, .i64, sapi_Id_2, rfl⟩⟩) ?_
 refine WL.op rfl (.load ty27 (.tmp rfl)) ?_
 refine WL.op rfl (.buildSlice (n := 1) (ys := [(0, (⟨(⟨(1 : Int), (0 : Int), (2 : Int)⟩ : api_Id), (3 : Int), ([50] : Str), ([] : List api_Word), ([] : List api_Word), ([] : List api_Unit)⟩ : api_Unit))]) (z := zapi_Unit) (xs := [(⟨(⟨(1 : Int), (0 : Int), (2 : Int)⟩ : api_Id), (3 : Int), ([50] : Str), ([] : List api_Word), ([] : List api_Word), ([] : List api_Unit)⟩ : api_Unit)]) Tryd.underlying25 el27 ze27 ⟨rfl, (.tmp rfl), trivial⟩ (by simp) (by decide) rfl) ?_
 refine WL.op rfl (.build (s := tapi_Unit) (x := (⟨(⟨(1 : Int), (0 : Int), (1 : Int)⟩ : api_Id), (2 : Int), ([53] : Str), ([] : List api_Word), ([] : List api_Word), [(⟨(⟨(1 : Int), (0 : Int), (2 : Int)⟩ : api_Id), (3 : Int), ([50] : Str), ([] : List api_Word), ([] : List api_Word), ([] : List api_Unit)⟩ : api_Unit)]⟩ : api_Unit)) zapi_Unit_f rfl Tryd.underlying27 (zapi_Unit_sz _ Tryd.underlying27) ze27 ⟨_, tapi_Id, (⟨(1 : Int), (0 : Int), (1 : Int)⟩ : api_Id), _, _, rfl, Tryd.sizeOf23, (.tmp rfl), sapi_Unit_0, ⟨_, (tI .i64), (2 : Int), _, _, rfl, Tryd.sizeOf3, .i64, sapi_Unit_1, ⟨_, tS, ([53] : Str), _, _, rfl, Tryd.sizeOf9, (.str rfl (by decide)), sapi_Unit_2, ⟨_, (tL tapi_Unit), ([(⟨(⟨(1 : Int), (0 : Int), (2 : Int)⟩ : api_Id), (3 : Int), ([50] : Str), ([] : List api_Word), ([] : List api_Word), ([] : List api_Unit)⟩ : api_Unit)]), _, _, rfl, Tryd.sizeOf25, (.tmp rfl), sapi_Unit_5, rfl⟩⟩⟩⟩) ?_
 refine WL.op rfl (.build (s := tapi_Id) (x := (⟨(1 : Int), (0 : Int), (3 : Int)⟩ : api_Id)) zapi_Id_f rfl Tryd.underlying23 (zapi_Id_sz _ Tryd.underlying23) ze23 ⟨_, (tI .i64), (1 : Int), _, _, rfl, Tryd.sizeOf3, .i64, sapi_Id_0, ⟨_, (tI .i64), (3 : Int), _, _, rfl, Tryd.sizeOf3, .i64, sapi_Id_2, rfl⟩⟩) ?_
 refine WL.op rfl (.load ty27 (.tmp rfl)) ?_
 refine WL.op rfl (.buildSlice (n := 1) (ys := [(0, (⟨(⟨(1 : Int), (0 : Int), (4 : Int)⟩ : api_Id), (2 : Int), ([54] : Str), ([] : List api_Word), ([] : List api_Word), ([] : List api_Unit)⟩ : api_Unit))]) (z := zapi_Unit) (xs := [(⟨(⟨(1 : Int), (0 : Int), (4 : Int)⟩ : api_Id), (2 : Int), ([54] : Str), ([] : List api_Word), ([] : List api_Word), ([] : List api_Unit)⟩ : api_Unit)]) Tryd.underlying25 el27 ze27 ⟨rfl, (.tmp rfl), trivial⟩ (by simp) (by decide) rfl) ?_
 refine WL.op rfl (.build (s := tapi_Unit) (x := (⟨(⟨(1 : Int), (0 : Int), (3 : Int)⟩ : api_Id), (1 : Int), ([49] : Str), ([] : List api_Word), ([] : List api_Word), [(⟨(⟨(1 : Int), (0 : Int), (4 : Int)⟩ : api_Id), (2 : Int), ([54] : Str), ([] : List api_Word), ([] : List api_Word), ([] : List api_Unit)⟩ : api_Unit)]⟩ : api_Unit)) zapi_Unit_f rfl Tryd.underlying27 (zapi_Unit_sz _ Tryd.underlying27) ze27 ⟨_, tapi_Id, (⟨(1 : Int), (0 : Int), (3 : Int)⟩ : api_Id), _, _, rfl, Tryd.sizeOf23, (.tmp rfl), sapi_Unit_0, ⟨_, (tI .i64), (1 : Int), _, _, rfl, Tryd.sizeOf3, .i64, sapi_Unit_1, ⟨_, tS, ([49] : Str), _, _, rfl, Tryd.sizeOf9, (.str rfl (by decide)), sapi_Unit_2, ⟨_, (tL tapi_Unit), ([(⟨(⟨(1 : Int), (0 : Int), (4 : Int)⟩ : api_Id), (2 : Int), ([54] : Str), ([] : List api_Word), ([] : List api_Word), ([] : List api_Unit)⟩ : api_Unit)]), _, _, rfl, Tryd.sizeOf25, (.tmp rfl), sapi_Unit_5, rfl⟩⟩⟩⟩) ?_
 refine WL.op rfl (.buildSlice (n := 2) (ys := [(0, (⟨(⟨(1 : Int), (0 : Int), (1 : Int)⟩ : api_Id), (2 : Int), ([53] : Str), ([] : List api_Word), ([] : List api_Word), [(⟨(⟨(1 : Int), (0 : Int), (2 : Int)⟩ : api_Id), (3 : Int), ([50] : Str), ([] : List api_Word), ([] : List api_Word), ([] : List api_Unit)⟩ : api_Unit)]⟩ : api_Unit)), (1, (⟨(⟨(1 : Int), (0 : Int), (3 : Int)⟩ : api_Id), (1 : Int), ([49] : Str), ([] : List api_Word), ([] : List api_Word), [(⟨(⟨(1 : Int), (0 : Int), (4 : Int)⟩ : api_Id), (2 : Int), ([54] : Str), ([] : List api_Word), ([] : List api_Word), ([] : List api_Unit)⟩ : api_Unit)]⟩ : api_Unit))]) (z := zapi_Unit) (xs := [(⟨(⟨(1 : Int), (0 : Int), (1 : Int)⟩ : api_Id), (2 : Int), ([53] : Str), ([] : List api_Word), ([] : List api_Word), [(⟨(⟨(1 : Int), (0 : Int), (2 : Int)⟩ : api_Id), (3 : Int), ([50] : Str), ([] : List api_Word), ([] : List api_Word), ([] : List api_Unit)⟩ : api_Unit)]⟩ : api_Unit), (⟨(⟨(1 : Int), (0 : Int), (3 : Int)⟩ : api_Id), (1 : Int), ([49] : Str), ([] : List api_Word), ([] : List api_Word), [(⟨(⟨(1 : Int), (0 : Int), (4 : Int)⟩ : api_Id), (2 : Int), ([54] : Str), ([] : List api_Word), ([] : List api_Word), ([] : List api_Unit)⟩ : api_Unit)]⟩ : api_Unit)]) Tryd.underlying25 el27 ze27 ⟨rfl, (.tmp rfl), rfl, (.tmp rfl), trivial⟩ (by simp) (by decide) rfl) ?_
 refine WL.op rfl (.build (s := tapi_Unit) (x := (⟨zapi_Id, (0 : Int), ([] : Str), ([] : List api_Word), ([] : List api_Word), [(⟨(⟨(1 : Int), (0 : Int), (1 : Int)⟩ : api_Id), (2 : Int), ([53] : Str), ([] : List api_Word), ([] : List api_Word), [(⟨(⟨(1 : Int), (0 : Int), (2 : Int)⟩ : api_Id), (3 : Int), ([50] : Str), ([] : List api_Word), ([] : List api_Word), ([] : List api_Unit)⟩ : api_Unit)]⟩ : api_Unit), (⟨(⟨(1 : Int), (0 : Int), (3 : Int)⟩ : api_Id), (1 : Int), ([49] : Str), ([] : List api_Word), ([] : List api_Word), [(⟨(⟨(1 : Int), (0 : Int), (4 : Int)⟩ : api_Id), (2 : Int), ([54] : Str), ([] : List api_Word), ([] : List api_Word), ([] : List api_Unit)⟩ : api_Unit)]⟩ : api_Unit)]⟩ : api_Unit)) zapi_Unit_f rfl Tryd.underlying27 (zapi_Unit_sz _ Tryd.underlying27) ze27 ⟨_, (tL tapi_Unit), ([(⟨(⟨(1 : Int), (0 : Int), (1 : Int)⟩ : api_Id), (2 : Int), ([53] : Str), ([] : List api_Word), ([] : List api_Word), [(⟨(⟨(1 : Int), (0 : Int), (2 : Int)⟩ : api_Id), (3 : Int), ([50] : Str), ([] : List api_Word), ([] : List api_Word), ([] : List api_Unit)⟩ : api_Unit)]⟩ : api_Unit), (⟨(⟨(1 : Int), (0 : Int), (3 : Int)⟩ : api_Id), (1 : Int), ([49] : Str), ([] : List api_Word), ([] : List api_Word), [(⟨(⟨(1 : Int), (0 : Int), (4 : Int)⟩ : api_Id), (2 : Int), ([54] : Str), ([] : List api_Word), ([] : List api_Word), ([] : List api_Unit)⟩ : api_Unit)]⟩ : api_Unit)]), _, _, rfl, Tryd.sizeOf25, (.tmp rfl), sapi_Unit_5, rfl⟩) ?_
 refine WL.opU (OpR.storeB (b := b) 0 Tryd.sizeOf27 (Cellable.is tapi_Unit (⟨zapi_Id, (0 : Int), ([] : Str), ([] : List api_Word), ([] : List api_Word), [(⟨(⟨(1 : Int), (0 : Int), (1 : Int)⟩ : api_Id), (2 : Int), ([53] : Str), ([] : List api_Word), ([] : List api_Word), [(⟨(⟨(1 : Int), (0 : Int), (2 : Int)⟩ : api_Id), (3 : Int), ([50] : Str), ([] : List api_Word), ([] : List api_Word), ([] : List api_Unit)⟩ : api_Unit)]⟩ : api_Unit), (⟨(⟨(1 : Int), (0 : Int), (3 : Int)⟩ : api_Id), (1 : Int), ([49] : Str), ([] : List api_Word), ([] : List api_Word), [(⟨(⟨(1 : Int), (0 : Int), (4 : Int)⟩ : api_Id), (2 : Int), ([54] : Str), ([] : List api_Word), ([] : List api_Word), ([] : List api_Unit)⟩ : api_Unit)]⟩ : api_Unit)]⟩ : api_Unit)) rfl (.tmp rfl) (.tmp rfl)) (fun _ => ?_)
 refine WL.ns ?_
 cases hm
 exact W.retQ1 () rfl (ResAt.cell 0 Tryd.isAgg27 Tryd.sizeOf27 rfl (.tmp rfl)) trivial

theorem address_book_spec (s0_ : api_Step) (r : Bool) (hm : M.address_book s0_ = some r) : FSpec Tryd.prog 36 [(tapi_Step.is s0_)] (tB.is r) := by
 unfold M.address_book at hm
 refine FSpec.of Tryd.func36 rfl rfl rfl (fun g0 => ?_)
 refine W.sr ?_
 refine WL.op rfl (.box (.tmp rfl)) ?_
 refine WL.op rfl (.assign .bool) ?_
 refine WL.nr ?_
 refine WL.op rfl (.fieldAddr Tryd.underlying41 rfl (fun w => ⟨0, Tryd.sizeOf3 w⟩) fapi_Step_0 (.tmp rfl)) ?_
 refine WL.op rfl (.load ty3 (.tmp rfl)) ?_
 refine WL.op rfl (.eqI (.tmp rfl) .i64) ?_
 refine WL.mv rfl rfl ?_
 rcases bcases (decide (s0_.Kind = (0 : Int))) with hb1 | hb1
 ·have hp2 := of_decide_eq_true hb1
  rw [if_pos hp2] at hm
  refine WL.run rfl rfl rfl rfl hb1 rfl rfl (Op1.fieldAddr Tryd.underlying41 rfl (fun w => ⟨0, Tryd.sizeOf9 w⟩) fapi_Step_1 (.tmp rfl)) ?_
  refine WL.run rfl rfl rfl rfl hb1 rfl rfl (Op1.load ty9 (.tmp rfl)) ?_
  refine WL.run rfl rfl rfl rfl hb1 rfl rfl (Op1.eqS (.tmp rfl) (.str rfl (by decide))) ?_
  refine WL.op rfl (.pickT (.tmp rfl) hb1 (.tmp rfl)) ?_
  refine WL.gv rfl rfl ?_
  refine WL.ns ?_
  cases hm
  exact W.ret1 () rfl (.tmp rfl) trivial
 ·have hp2 := of_decide_eq_false hb1
  rw [if_neg hp2] at hm
  iterate 3 refine WL.pass rfl rfl rfl rfl hb1 rfl rfl ?_
  refine WL.op rfl (.pickF (.tmp rfl) hb1 .bool) ?_
  refine WL.gv rfl rfl ?_
  refine WL.ns ?_
  cases hm
  exact W.ret1 () rfl (.tmp rfl) trivial

theorem strings_indexFunc_spec (n : Nat) (s0_ : Str) (f : Int → Option Bool) (truth : Bool) (r : Int) (hm : M.strings_indexFunc n s0_ f truth = some r) : FSpec Tryd.prog 79 [(tS.is s0_), (tF Tryd.prog (fun s : Int × Bool => f s.1 = some s.2) (fun s : Int × Bool => [(tI .i32).is s.1]) (fun s : Int × Bool => (tB.is s.2))), (tB.is truth)] ((tI .i64).is r) := by
 unfold M.strings_indexFunc at hm
 refine FSpec.of Tryd.func79 rfl rfl rfl (fun g0 => ?_)
 refine W.sr ?_
 refine WL.op rfl (.assign .i64) ?_
 refine WL.ns ?_
 refine W.seq ?_
 refine W.sr ?_
 refine WL.mv rfl rfl ?_
 refine WL.opR rfl (OpR.range 10 Tryd.underlying9 (.tmp rfl)) (fun b => ?_)
 refine WL.ns ?_
 refine W.block ?_
 obtain ⟨s1, hs2, hk3⟩ := bind_some hm
 clear hm
 refine W.loop (fun m (s : Nat) => M.strings_indexFunc_loop1 s0_ f truth m s = some s1) (fun s => [(1, (tF Tryd.prog (fun s : Int × Bool => f s.1 = some s.2) (fun s : Int × Bool => [(tI .i32).is s.1]) (fun s : Int × Bool => (tB.is s.2)))), (2, (tB.is truth)), (10, (Bp b 0))]) (fun s => [(10, It s0_ s b)]) _ 0 hs2 ⟨Ent.q rfl, Ent.q rfl, Ent.q rfl, trivial⟩ ⟨rfl, rfl, trivial⟩ ?_
 rintro n4 v hm
 try dsimp only at hm
 change W _ _ _ _ _ _ _ [(1, (tF Tryd.prog (fun s : Int × Bool => f s.1 = some s.2) (fun s : Int × Bool => [(tI .i32).is s.1]) (fun s : Int × Bool => (tB.is s.2)))), (2, (tB.is truth)), (10, (Bp b 0))] [(10, It s0_ v b)]
 cases n4 with
 | zero => rw [M.strings_indexFunc_loop1.eq_1] at hm; cases hm
 | succ n4 =>
  rw [M.strings_indexFunc_loop1.eq_2] at hm
  refine W.sr ?_
  by_cases hp5 : v < s0_.length
  ·rw [if_pos hp5] at hm
   refine WL.opR rfl (OpR.nextT (b := b) 10 hp5 rfl (.tmp rfl)) (fun _ => ?_)
   refine WL.op rfl (.extract30 (.tmp rfl)) ?_
   refine WL.ns ?_
   refine W.seq ?_
   refine W.condT (.tmp rfl) ?_
   refine W.skip ?_
   refine WN.seq ?_
   refine W.block ?_
   refine W.sr ?_
   refine WL.op rfl (.extract31 (.tmp rfl)) ?_
   refine WL.op rfl (.extract32 (.tmp rfl)) ?_
   refine WL.gv rfl rfl ?_
   refine WL.gv rfl rfl ?_
   refine WL.nr ?_
   refine WL.mv rfl rfl ?_
   refine WL.mv rfl rfl ?_
   obtain ⟨v1, hv6, hm⟩ := bind_some hm
   refine WL.op rfl (.callF (ok := (fun s : Int × Bool => f s.1 = some s.2)) (As := (fun s : Int × Bool => [(tI .i32).is s.1])) (A := (fun s : Int × Bool => (tB.is s.2))) (s := (((runeAt s0_ v).1 : Int), v1)) (.tmp rfl) hv6 ⟨(.tmp rfl), trivial⟩) ?_
   refine WL.mv rfl rfl ?_
   refine WL.op rfl (.eqB Tryd.underlying4 (.tmp rfl) (.tmp rfl)) ?_
   refine WL.ns ?_
   refine W.cond (.tmp rfl) (fun hc7 => ?_) (fun hc7 => ?_)
   ·have hp8 := hc7
    rw [if_pos hp8] at hm
    refine W.sr ?_
    refine WL.mv rfl rfl ?_
    refine WL.gv rfl rfl ?_
    refine WL.ns ?_
    have hr9 := Option.some.inj hm
    clear hm
    subst hr9
    have hm := hk3
    try dsimp only at hm
    cases hm
    exact W.ret1 () rfl (.tmp rfl) trivial
   ·have hp8 := ne_of_false hc7
    rw [if_neg hp8] at hm
    refine W.skip ?_
    refine WN.block ?_
    exact WN.again n4 (v + (runeAt s0_ v).2) (Nat.lt_succ_self n4) hm ⟨Ent.q rfl, Ent.q rfl, Ent.q rfl, trivial⟩ ⟨rfl, rfl, trivial⟩
  ·rw [if_neg hp5] at hm
   refine WL.op rfl (.nextF 10 hp5 rfl (.tmp rfl)) ?_
   refine WL.op rfl (.extract10 (.tmp rfl)) ?_
   refine WL.ns ?_
   refine W.seq ?_
   refine W.condF (.tmp rfl) ?_
   refine W.exit rfl ?_
   have hr10 := Option.some.inj hm
   clear hm
   subst hr10
   have hm := hk3
   try dsimp only at hm
   refine WN.seq ?_
   refine W.sr ?_
   refine WL.op rfl (.assign .i64) ?_
   refine WL.ns ?_
   cases hm
   exact W.ret1 () rfl (.tmp rfl) trivial

theorem strings_IndexFunc_spec (n : Nat) (s0_ : Str) (f : Int → Option Bool) (r : Int) (hm : M.strings_IndexFunc n s0_ f = some r) : FSpec Tryd.prog 68 [(tS.is s0_), (tF Tryd.prog (fun s : Int × Bool => f s.1 = some s.2) (fun s : Int × Bool => [(tI .i32).is s.1]) (fun s : Int × Bool => (tB.is s.2)))] ((tI .i64).is r) := by
 unfold M.strings_IndexFunc at hm
 refine FSpec.of Tryd.func68 rfl rfl rfl (fun g0 => ?_)
 refine W.sr ?_
 refine WL.op rfl (.assign .i64) ?_
 refine WL.nr ?_
 refine WL.mv rfl rfl ?_
 refine WL.mv rfl rfl ?_
 obtain ⟨indexf, hv1, hm⟩ := bind_some hm
 refine WL.op rfl (.call Tryd.call79 (strings_indexFunc_spec _ _ _ _ _ hv1) ⟨(.tmp rfl), (.tmp rfl), .bool, trivial⟩) ?_
 refine WL.gv rfl rfl ?_
 refine WL.ns ?_
 cases hm
 exact W.ret1 () rfl (.tmp rfl) trivial

theorem label_parted_1_spec (b : Int) (r : Bool) (hm : M.label_parted_1 b = some r) : FSpec Tryd.prog 69 [((tI .i32).is b)] (tB.is r) := by
 unfold M.label_parted_1 at hm
 refine FSpec.of Tryd.func69 rfl rfl rfl (fun g0 => ?_)
 refine W.sr ?_
 refine WL.op rfl (.assign .bool) ?_
 refine WL.nr ?_
 refine WL.mv rfl rfl ?_
 refine WL.op rfl (.ltI (.tmp rfl) (.int (inR32.2 (by omega)))) ?_
 refine WL.mv rfl rfl ?_
 rcases bcases (decide (b < (48 : Int))) with hb1 | hb1
 ·have hp2 := of_decide_eq_true hb1
  rw [if_pos hp2] at hm
  iterate 2 refine WL.pass rfl rfl rfl rfl hb1 rfl rfl ?_
  refine WL.op rfl (.pickT (.tmp rfl) hb1 .bool) ?_
  refine WL.gv rfl rfl ?_
  refine WL.ns ?_
  cases hm
  exact W.ret1 () rfl (.tmp rfl) trivial
 ·have hp2 := of_decide_eq_false hb1
  rw [if_neg hp2] at hm
  refine WL.run rfl rfl rfl rfl hb1 rfl rfl (Op1.move (.tmp rfl)) ?_
  refine WL.run rfl rfl rfl rfl hb1 rfl rfl (Op1.gtI (.tmp rfl) (.int (inR32.2 (by omega)))) ?_
  refine WL.op rfl (.pickF (.tmp rfl) hb1 (.tmp rfl)) ?_
  refine WL.gv rfl rfl ?_
  refine WL.ns ?_
  cases hm
  exact W.ret1 () rfl (.tmp rfl) trivial

theorem label_parted_spec (n : Nat) (s0_ : Str) (r : Str × Str) (hm : M.label_parted n s0_ = some r) : FSpec Tryd.prog 54 [(tS.is s0_)] (Asn.tuple2 (tS.is r.1) (tS.is r.2)) := by
 unfold M.label_parted at hm
 refine FSpec.of Tryd.func54 rfl rfl rfl (fun g0 => ?_)
 refine W.sr ?_
 refine WL.op rfl (.assign (.str rfl (by decide))) ?_
 refine WL.op rfl (.assign (.str rfl (by decide))) ?_
 refine WL.nr ?_
 refine WL.mv rfl rfl ?_
 obtain ⟨indexf, hv1, hm⟩ := bind_some hm
 refine WL.op rfl (.call Tryd.call68 (strings_IndexFunc_spec _ _ _ _ hv1) ⟨(.tmp rfl), (Opd.fn Tryd.call69 (fun s hs => label_parted_1_spec _ _ hs)), trivial⟩) ?_
 refine WL.gv rfl rfl ?_
 refine WL.ns ?_
 refine W.seq ?_
 refine W.sr ?_
 refine WL.mv rfl rfl ?_
 refine WL.op rfl (.ltI (.tmp rfl) .i64) ?_
 refine WL.ns ?_
 refine W.cond (.tmp rfl) (fun hc2 => ?_) (fun hc2 => ?_)
 ·have hp3 := of_decide_eq_true hc2
  rw [if_pos hp3] at hm
  refine W.sr ?_
  refine WL.mv rfl rfl ?_
  refine WL.gv rfl rfl ?_
  refine WL.op rfl (.assign (.str rfl (by decide))) ?_
  refine WL.ns ?_
  cases hm
  exact W.ret2 () rfl rfl (.tmp rfl) (.tmp rfl) trivial
 ·have hp3 := of_decide_eq_false hc2
  rw [if_neg hp3] at hm
  refine W.skip ?_
  refine WN.seq ?_
  refine W.seq ?_
  obtain ⟨v, hv4, hm⟩ := bind_some hm
  obtain ⟨v1, hv5, hm⟩ := bind_some hm
  refine W.draw [.c (tS.is s0_), .c ((tI .i64).is indexf), .c (tS.is v), .c (tS.is s0_), .c ((tI .i64).is indexf), .c (tS.is v1), .c (tS.is v), .c (tS.is v1)] [([], [0]), ([], [4]), ([0, 1], []), ([], [0]), ([], [4]), ([3, 4], []), ([2], []), ([5], [])] Tryd.mixed rfl rfl rfl rfl ⟨.inr (Op1.move (.tmp rfl)), .inr (Op1.move (.tmp rfl)), .inr (Op1.sslcHi hv4 Tryd.underlying9 (.tmp rfl) (.tmp rfl)), .inr (Op1.move (.tmp rfl)), .inr (Op1.move (.tmp rfl)), .inr (Op1.sslcLo hv5 Tryd.underlying9 (.tmp rfl) (.tmp rfl)), .inr (Op1.assign (.tmp rfl)), .inr (Op1.assign (.tmp rfl)), trivial⟩ ?_
  refine WN.seq ?_
  cases hm
  exact W.ret2 () rfl rfl (.tmp rfl) (.tmp rfl) trivial

theorem strings_ContainsFunc_spec (n : Nat) (s0_ : Str) (f : Int → Option Bool) (r : Bool) (hm : M.strings_ContainsFunc n s0_ f = some r) : FSpec Tryd.prog 56 [(tS.is s0_), (tF Tryd.prog (fun s : Int × Bool => f s.1 = some s.2) (fun s : Int × Bool => [(tI .i32).is s.1]) (fun s : Int × Bool => (tB.is s.2)))] (tB.is r) := by
 unfold M.strings_ContainsFunc at hm
 refine FSpec.of Tryd.func56 rfl rfl rfl (fun g0 => ?_)
 refine W.sr ?_
 refine WL.op rfl (.assign .bool) ?_
 refine WL.nr ?_
 refine WL.mv rfl rfl ?_
 refine WL.mv rfl rfl ?_
 obtain ⟨indexf, hv1, hm⟩ := bind_some hm
 refine WL.op rfl (.call Tryd.call68 (strings_IndexFunc_spec _ _ _ _ hv1) ⟨(.tmp rfl), (.tmp rfl), trivial⟩) ?_
 refine WL.op rfl (.geI (.tmp rfl) .i64) ?_
 refine WL.gv rfl rfl ?_
 refine WL.ns ?_
 cases hm
 exact W.ret1 () rfl (.tmp rfl) trivial

theorem label_Valid_1_spec (b : Int) (r : Bool) (hm : M.label_Valid_1 b = some r) : FSpec Tryd.prog 55 [((tI .i32).is b)] (tB.is r) := by
 unfold M.label_Valid_1 at hm
 refine FSpec.of Tryd.func55 rfl rfl rfl (fun g0 => ?_)
 refine W.sr ?_
 refine WL.op rfl (.assign .bool) ?_
 refine WL.nr ?_
 refine WL.mv rfl rfl ?_
 refine WL.op rfl (.ltI (.tmp rfl) (.int (inR32.2 (by omega)))) ?_
 refine WL.mv rfl rfl ?_
 rcases bcases (decide (b < (65 : Int))) with hb1 | hb1
 ·have hp2 := of_decide_eq_true hb1
  rw [if_pos hp2] at hm
  iterate 2 refine WL.pass rfl rfl rfl rfl hb1 rfl rfl ?_
  refine WL.op rfl (.pickT (.tmp rfl) hb1 .bool) ?_
  refine WL.gv rfl rfl ?_
  refine WL.ns ?_
  cases hm
  exact W.ret1 () rfl (.tmp rfl) trivial
 ·have hp2 := of_decide_eq_false hb1
  rw [if_neg hp2] at hm
  refine WL.run rfl rfl rfl rfl hb1 rfl rfl (Op1.move (.tmp rfl)) ?_
  refine WL.run rfl rfl rfl rfl hb1 rfl rfl (Op1.gtI (.tmp rfl) (.int (inR32.2 (by omega)))) ?_
  refine WL.op rfl (.pickF (.tmp rfl) hb1 (.tmp rfl)) ?_
  refine WL.gv rfl rfl ?_
  refine WL.ns ?_
  cases hm
  exact W.ret1 () rfl (.tmp rfl) trivial

theorem label_Valid_spec (n : Nat) (s0_ : Str) (r : Bool) (hm : M.label_Valid n s0_ = some r) : FSpec Tryd.prog 37 [(tS.is s0_)] (tB.is r) := by
 unfold M.label_Valid at hm
 refine FSpec.of Tryd.func37 rfl rfl rfl (fun g0 => ?_)
 refine W.sr ?_
 refine WL.op rfl (.assign .bool) ?_
 refine WL.nr ?_
 refine WL.mv rfl rfl ?_
 obtain ⟨parted, hv1, hm⟩ := bind_some hm
 refine WL.op rfl (.call Tryd.call54 (label_parted_spec _ _ _ hv1) ⟨(.tmp rfl), trivial⟩) ?_
 refine WL.mv rfl rfl ?_
 refine WL.op rfl (.extract0 (.tmp rfl)) ?_
 refine WL.op rfl (.extract1 (.tmp rfl)) ?_
 refine WL.gv rfl rfl ?_
 refine WL.gv rfl rfl ?_
 refine WL.nr ?_
 refine WL.op rfl (.assign .func) ?_
 refine WL.nr ?_
 refine WL.mv rfl rfl ?_
 refine WL.op rfl (.lenS Tryd.underlying9 (.tmp rfl)) ?_
 refine WL.op rfl (.geI (.tmp rfl) .i64) ?_
 refine WL.mv rfl rfl ?_
 rcases bcases (decide ((1 : Int) ≤ (parted.1.length : Int))) with hb2 | hb2
 ·have hp3 := of_decide_eq_true hb2
  rw [if_pos hp3] at hm
  refine WL.run rfl rfl rfl rfl hb2 rfl rfl (Op1.move (.tmp rfl)) ?_
  refine WL.run rfl rfl rfl rfl hb2 rfl rfl (Op1.lenS Tryd.underlying9 (.tmp rfl)) ?_
  refine WL.run rfl rfl rfl rfl hb2 rfl rfl (Op1.leI (.tmp rfl) .i64) ?_
  refine WL.op rfl (.pickT (.tmp rfl) hb2 (.tmp rfl)) ?_
  refine WL.mv rfl rfl ?_
  rcases bcases (decide ((parted.1.length : Int) ≤ (4 : Int))) with hb4 | hb4
  ·have hp5 := of_decide_eq_true hb4
   rw [if_pos hp5] at hm
   refine WL.run rfl rfl rfl rfl hb4 rfl rfl (Op1.move (.tmp rfl)) ?_
   obtain ⟨b, hv6, hm⟩ := bind_some hm
   refine WL.run rfl rfl rfl rfl hb4 rfl rfl (Op1.sidx hv6 Tryd.underlying9 (.tmp rfl) .i64) ?_
   refine WL.run rfl rfl rfl rfl hb4 rfl rfl (Op1.neI (.tmp rfl) (.int (inR8.2 (by omega)))) ?_
   refine WL.op rfl (.pickT (.tmp rfl) hb4 (.tmp rfl)) ?_
   refine WL.mv rfl rfl ?_
   rcases bcases (decide ((b.toNat : Int) ≠ (48 : Int))) with hb7 | hb7
   ·have hp8 := of_decide_eq_true hb7
    rw [if_pos hp8] at hm
    refine WL.run rfl rfl rfl rfl hb7 rfl rfl (Op1.move (.tmp rfl)) ?_
    refine WL.run rfl rfl rfl rfl hb7 rfl rfl (Op1.lenS Tryd.underlying9 (.tmp rfl)) ?_
    refine WL.run rfl rfl rfl rfl hb7 rfl rfl (Op1.leI (.tmp rfl) .i64) ?_
    refine WL.op rfl (.pickT (.tmp rfl) hb7 (.tmp rfl)) ?_
    refine WL.mv rfl rfl ?_
    rcases bcases (decide ((parted.2.length : Int) ≤ (3 : Int))) with hb9 | hb9
    ·have hp10 := of_decide_eq_true hb9
     rw [if_pos hp10] at hm
     refine WL.run rfl rfl rfl rfl hb9 rfl rfl (Op1.move (.tmp rfl)) ?_
     refine WL.run rfl rfl rfl rfl hb9 rfl rfl (Op1.move (.tmp rfl)) ?_
     obtain ⟨contai, hv11, hm⟩ := bind_some hm
     refine WL.run rfl rfl rfl rfl hb9 rfl rfl (Op1.call Tryd.call56 (strings_ContainsFunc_spec _ _ _ _ hv11) ⟨(.tmp rfl), (Opd.fnE (.tmp rfl) Tryd.call55 (fun s hs => label_Valid_1_spec _ _ hs)), trivial⟩) ?_
     refine WL.run rfl rfl rfl rfl hb9 rfl rfl (Op1.notB (.tmp rfl)) ?_
     refine WL.op rfl (.pickT (.tmp rfl) hb9 (.tmp rfl)) ?_
     refine WL.gv rfl rfl ?_
     refine WL.ns ?_
     cases hm
     exact W.ret1 () rfl (.tmp rfl) trivial
    ·have hp10 := of_decide_eq_false hb9
     rw [if_neg hp10] at hm
     iterate 4 refine WL.pass rfl rfl rfl rfl hb9 rfl rfl ?_
     refine WL.op rfl (.pickF (.tmp rfl) hb9 .bool) ?_
     refine WL.gv rfl rfl ?_
     refine WL.ns ?_
     cases hm
     exact W.ret1 () rfl (.tmp rfl) trivial
   ·have hp8 := of_decide_eq_false hb7
    rw [if_neg hp8] at hm
    iterate 3 refine WL.pass rfl rfl rfl rfl hb7 rfl rfl ?_
    refine WL.op rfl (.pickF (.tmp rfl) hb7 .bool) ?_
    refine WL.mv rfl rfl ?_
    iterate 4 refine WL.pass rfl rfl rfl rfl rfl rfl rfl ?_
    refine WL.op rfl (.pickF (.tmp rfl) rfl .bool) ?_
    refine WL.gv rfl rfl ?_
    refine WL.ns ?_
    cases hm
    exact W.ret1 () rfl (.tmp rfl) trivial
  ·have hp5 := of_decide_eq_false hb4
   rw [if_neg hp5] at hm
   iterate 3 refine WL.pass rfl rfl rfl rfl hb4 rfl rfl ?_
   refine WL.op rfl (.pickF (.tmp rfl) hb4 .bool) ?_
   refine WL.mv rfl rfl ?_
   iterate 3 refine WL.pass rfl rfl rfl rfl rfl rfl rfl ?_
   refine WL.op rfl (.pickF (.tmp rfl) rfl .bool) ?_
   refine WL.mv rfl rfl ?_
   iterate 4 refine WL.pass rfl rfl rfl rfl rfl rfl rfl ?_
   refine WL.op rfl (.pickF (.tmp rfl) rfl .bool) ?_
   refine WL.gv rfl rfl ?_
   refine WL.ns ?_
   cases hm
   exact W.ret1 () rfl (.tmp rfl) trivial
 ·have hp3 := of_decide_eq_false hb2
  rw [if_neg hp3] at hm
  iterate 3 refine WL.pass rfl rfl rfl rfl hb2 rfl rfl ?_
  refine WL.op rfl (.pickF (.tmp rfl) hb2 .bool) ?_
  refine WL.mv rfl rfl ?_
  iterate 3 refine WL.pass rfl rfl rfl rfl rfl rfl rfl ?_
  refine WL.op rfl (.pickF (.tmp rfl) rfl .bool) ?_
  refine WL.mv rfl rfl ?_
  iterate 3 refine WL.pass rfl rfl rfl rfl rfl rfl rfl ?_
  refine WL.op rfl (.pickF (.tmp rfl) rfl .bool) ?_
  refine WL.mv rfl rfl ?_
  iterate 4 refine WL.pass rfl rfl rfl rfl rfl rfl rfl ?_
  refine WL.op rfl (.pickF (.tmp rfl) rfl .bool) ?_
  refine WL.gv rfl rfl ?_
  refine WL.ns ?_
  cases hm
  exact W.ret1 () rfl (.tmp rfl) trivial

theorem address_Valid_spec (n : Nat) (p : List api_Step) (r : Bool) (hm : M.address_Valid n p = some r) : FSpec Tryd.prog 17 [((tL tapi_Step).is p)] (tB.is r) := by
 unfold M.address_Valid at hm
 refine FSpec.of Tryd.func17 rfl rfl rfl (fun g0 => ?_)
 refine W.sr ?_
 refine WL.op rfl (.assign .bool) ?_
 refine WL.ns ?_
 refine W.seq ?_
 refine W.sr ?_
 refine WL.mv rfl rfl ?_
 refine WL.op rfl (.lenL Tryd.underlying33 (.tmp rfl)) ?_
 refine WL.op rfl (.move .i64) ?_
 refine WL.ns ?_
 refine W.block ?_
 obtain ⟨s1, hs2, hk3⟩ := bind_some hm
 clear hm
 refine W.loop (fun m (s : Int × List api_Step × List api_Step × Unit) => m = s.2.2.1.length ∧ p = s.2.1 ++ s.2.2.1 ∧ s.1 = (s.2.1.length : Int) ∧ M.address_Valid_loop1 n s.2.2.1 s.1 = some s1) (fun s => [(7, ((tI .i64).is s.1)), (0, ((tL tapi_Step).is p)), (5, ((tL tapi_Step).is p)), (6, ((tI .i64).is (p.length : Int)))]) (fun s => []) p.length ((0 : Int), [], p, ()) ⟨rfl, rfl, rfl, hs2⟩ ⟨Ent.q rfl, Ent.q rfl, Ent.q rfl, Ent.q rfl, trivial⟩ trivial ?_
 rintro m ⟨i, pre, rest1, _⟩ ⟨hn7, hxs4, hi5, hm⟩
 try dsimp only at hn7 hxs4 hi5 hm
 change W _ _ _ _ _ _ _ [(7, ((tI .i64).is i)), (0, ((tL tapi_Step).is p)), (5, ((tL tapi_Step).is p)), (6, ((tI .i64).is (p.length : Int)))] []
 refine W.lenL (s := 5) (.tmp rfl) fun hlen6 => ?_
 refine W.sr ?_
 refine WL.op rfl (.ltI (.tmp rfl) (.tmp rfl)) ?_
 refine WL.ns ?_
 refine W.seq ?_
 refine W.cond (.tmp rfl) (fun hc9 => ?_) (fun hc9 => ?_)
 ·have hp10 := of_decide_eq_true hc9
  obtain ⟨e, es, hrest12⟩ := range_more hxs4 hi5 hp10
  subst hrest12
  rw [M.address_Valid_loop1.eq_2] at hm
  refine W.skip ?_
  refine WN.seq ?_
  refine W.seq ?_
  refine W.block ?_
  refine W.sr ?_
  refine WL.mv rfl rfl ?_
  refine WL.op rfl (.idxPre hxs4 hi5 Tryd.underlying33 Tryd.sizeOf41 (.tmp rfl) (.tmp rfl)) ?_
  refine WL.op rfl (.load ty41 (.tmp rfl)) ?_
  refine WL.opR rfl (OpR.alloc 4 ze41) (fun b => ?_)
  refine WL.gv rfl rfl ?_
  refine WL.opU (OpR.storeB (b := b) 4 Tryd.sizeOf41 (Cellable.is tapi_Step e) rfl (.tmp rfl) (.tmp rfl)) (fun _ => ?_)
  refine WL.sealed (t := tapi_Step) (u := e) 4 4 rfl rfl ?_
  refine WL.ns ?_
  refine W.seq ?_
  obtain ⟨s13, hs14, hk15⟩ := bind_some hm
  clear hm
  refine W.join (fun s : Bool => s = s13) (fun s => [(17, (tB.is s)), (0, ((tL tapi_Step).is p)), (4, (tapi_Step.ptr e)), (5, ((tL tapi_Step).is p)), (6, ((tI .i64).is (p.length : Int))), (7, ((tI .i64).is i))]) (fun s => []) ?_ ?_
  ·rintro v hj31
   try dsimp only at hj31
   subst hj31
   have hm := hk15
   clear hk15
   try dsimp only at hm
   change W _ _ _ _ _ _ _ [(17, (tB.is v)), (0, ((tL tapi_Step).is p)), (4, (tapi_Step.ptr e)), (5, ((tL tapi_Step).is p)), (6, ((tI .i64).is (p.length : Int))), (7, ((tI .i64).is i))] []
   refine W.cond (.tmp rfl) (fun hc19 => ?_) (fun hc19 => ?_)
   ·have hp20 := hc19
    rw [if_pos hp20] at hm
    refine W.exit rfl ?_
    refine WN.seq ?_
    refine W.region ?_
    refine WL.op rfl (.addI (.tmp rfl) .i64 (range_inR hi5 hp10 hlen6)) ?_
    refine WL.mv rfl rfl ?_
    refine WL.nil ?_
    exact WN.again es.length (i + 1, pre ++ [e], es, ()) (range_lt hn7) ⟨rfl, range_step hxs4, range_idx hi5, hm⟩ ⟨Ent.q rfl, Ent.q rfl, Ent.q rfl, Ent.q rfl, trivial⟩ trivial
   ·have hp20 := ne_of_false hc19
    rw [if_neg hp20] at hm
    refine W.skip ?_
    refine WN.seq ?_
    refine W.sr ?_
    refine WL.op rfl (.fieldAddr Tryd.underlying41 rfl (fun w => ⟨0, Tryd.sizeOf3 w⟩) fapi_Step_0 (.tmp rfl)) ?_
    refine WL.op rfl (.load ty3 (.tmp rfl)) ?_
    refine WL.op rfl (.leI (.tmp rfl) .i64) ?_
    refine WL.mv rfl rfl ?_
    rcases bcases (decide (e.Kind ≤ (0 : Int))) with hb21 | hb21
    ·have hp22 := of_decide_eq_true hb21
     rw [if_pos hp22] at hm
     iterate 3 refine WL.pass rfl rfl rfl rfl hb21 rfl rfl ?_
     refine WL.op rfl (.pickT (.tmp rfl) hb21 .bool) ?_
     refine WL.mv rfl rfl ?_
     iterate 4 refine WL.pass rfl rfl rfl rfl rfl rfl rfl ?_
     refine WL.op rfl (.pickT (.tmp rfl) rfl .bool) ?_
     refine WL.ns ?_
     refine W.condT (.tmp rfl) ?_
     refine W.sr ?_
     refine WL.op rfl (.assign .bool) ?_
     refine WL.ns ?_
     have hr23 := Option.some.inj hm
     clear hm
     subst hr23
     have hm := hk3
     try dsimp only at hm
     cases hm
     exact W.ret1 () rfl (.tmp rfl) trivial
    ·have hp22 := of_decide_eq_false hb21
     rw [if_neg hp22] at hm
     refine WL.run rfl rfl rfl rfl hb21 rfl rfl (Op1.fieldAddr Tryd.underlying41 rfl (fun w => ⟨0, Tryd.sizeOf3 w⟩) fapi_Step_0 (.tmp rfl)) ?_
     refine WL.run rfl rfl rfl rfl hb21 rfl rfl (Op1.load ty3 (.tmp rfl)) ?_
     refine WL.run rfl rfl rfl rfl hb21 rfl rfl (Op1.gtI (.tmp rfl) .i64) ?_
     refine WL.op rfl (.pickF (.tmp rfl) hb21 (.tmp rfl)) ?_
     refine WL.mv rfl rfl ?_
     rcases bcases (decide ((7 : Int) < e.Kind)) with hb24 | hb24
     ·have hp25 := of_decide_eq_true hb24
      rw [if_pos hp25] at hm
      iterate 4 refine WL.pass rfl rfl rfl rfl hb24 rfl rfl ?_
      refine WL.op rfl (.pickT (.tmp rfl) hb24 .bool) ?_
      refine WL.ns ?_
      refine W.condT (.tmp rfl) ?_
      refine W.sr ?_
      refine WL.op rfl (.assign .bool) ?_
      refine WL.ns ?_
      have hr26 := Option.some.inj hm
      clear hm
      subst hr26
      have hm := hk3
      try dsimp only at hm
      cases hm
      exact W.ret1 () rfl (.tmp rfl) trivial
     ·have hp25 := of_decide_eq_false hb24
      rw [if_neg hp25] at hm
      refine WL.run rfl rfl rfl rfl hb24 rfl rfl (Op1.fieldAddr Tryd.underlying41 rfl (fun w => ⟨0, Tryd.sizeOf9 w⟩) fapi_Step_1 (.tmp rfl)) ?_
      refine WL.run rfl rfl rfl rfl hb24 rfl rfl (Op1.load ty9 (.tmp rfl)) ?_
      obtain ⟨valid, hv27, hm⟩ := bind_some hm
      refine WL.run rfl rfl rfl rfl hb24 rfl rfl (Op1.call Tryd.call37 (label_Valid_spec _ _ _ hv27) ⟨(.tmp rfl), trivial⟩) ?_
      refine WL.run rfl rfl rfl rfl hb24 rfl rfl (Op1.notB (.tmp rfl)) ?_
      refine WL.op rfl (.pickF (.tmp rfl) hb24 (.tmp rfl)) ?_
      refine WL.ns ?_
      refine W.cond (.tmp rfl) (fun hc28 => ?_) (fun hc28 => ?_)
      ·have hp29 := not_pos hc28
       rw [if_pos hp29] at hm
       refine W.sr ?_
       refine WL.op rfl (.assign .bool) ?_
       refine WL.ns ?_
       have hr30 := Option.some.inj hm
       clear hm
       subst hr30
       have hm := hk3
       try dsimp only at hm
       cases hm
       exact W.ret1 () rfl (.tmp rfl) trivial
      ·have hp29 := not_neg hc28
       rw [if_neg hp29] at hm
       refine W.skip ?_
       refine WN.block ?_
       refine WN.seq ?_
       refine W.region ?_
       refine WL.op rfl (.addI (.tmp rfl) .i64 (range_inR hi5 hp10 hlen6)) ?_
       refine WL.mv rfl rfl ?_
       refine WL.nil ?_
       exact WN.again es.length (i + 1, pre ++ [e], es, ()) (range_lt hn7) ⟨rfl, range_step hxs4, range_idx hi5, hm⟩ ⟨Ent.q rfl, Ent.q rfl, Ent.q rfl, Ent.q rfl, trivial⟩ trivial
  ·have hm := hs14
   clear hs14
   refine W.region ?_
   refine WL.mv rfl rfl ?_
   refine WL.op rfl (.eqI (.tmp rfl) .i64) ?_
   refine WL.mv rfl rfl ?_
   rcases bcases (decide (i = (0 : Int))) with hb16 | hb16
   ·have hp17 := of_decide_eq_true hb16
    rw [if_pos hp17] at hm
    refine WL.run rfl rfl rfl rfl hb16 rfl rfl (Op1.load ty41 (.tmp rfl)) ?_
    obtain ⟨book, hv18, hm⟩ := bind_some hm
    refine WL.run rfl rfl rfl rfl hb16 rfl rfl (Op1.call Tryd.call36 (address_book_spec _ _ hv18) ⟨(.tmp rfl), trivial⟩) ?_
    refine WL.op rfl (.pickT (.tmp rfl) hb16 (.tmp rfl)) ?_
    refine WL.nil ?_
    exact WN.meet book (Option.some.inj hm) ⟨Ent.q rfl, Ent.q rfl, Ent.q rfl, Ent.q rfl, Ent.q rfl, Ent.q rfl, trivial⟩ trivial
   ·have hp17 := of_decide_eq_false hb16
    rw [if_neg hp17] at hm
    iterate 2 refine WL.pass rfl rfl rfl rfl hb16 rfl rfl ?_
    refine WL.op rfl (.pickF (.tmp rfl) hb16 .bool) ?_
    refine WL.nil ?_
    exact WN.meet false (Option.some.inj hm) ⟨Ent.q rfl, Ent.q rfl, Ent.q rfl, Ent.q rfl, Ent.q rfl, Ent.q rfl, trivial⟩ trivial
 ·have hrest12 := range_end hxs4 hi5 (of_decide_eq_false hc9)
  subst hrest12
  rw [M.address_Valid_loop1.eq_1] at hm
  refine W.exit rfl ?_
  have hr32 := Option.some.inj hm
  clear hm
  subst hr32
  have hm := hk3
  try dsimp only at hm
  refine WN.seq ?_
  refine W.sr ?_
  refine WL.mv rfl rfl ?_
  refine WL.op rfl (.lenL Tryd.underlying33 (.tmp rfl)) ?_
  refine WL.op rfl (.leI (.tmp rfl) .i64) ?_
  refine WL.gv rfl rfl ?_
  refine WL.ns ?_
  cases hm
  exact W.ret1 () rfl (.tmp rfl) trivial

theorem address_called_spec (u : api_Unit) (s0_ : api_Step) (r : Bool) (hm : M.address_called u s0_ = some r) : FSpec Tryd.prog 59 [(tapi_Unit.is u), (tapi_Step.is s0_)] (tB.is r) := by
 unfold M.address_called at hm
 refine FSpec.of Tryd.func59 rfl rfl rfl (fun g0 => ?_)
 refine W.sr ?_
 refine WL.op rfl (.box (.tmp rfl)) ?_
 refine WL.op rfl (.box (.tmp rfl)) ?_
 refine WL.op rfl (.assign .bool) ?_
 refine WL.nr ?_
 refine WL.op rfl (.fieldAddr Tryd.underlying27 rfl (fun w => ⟨0, Tryd.sizeOf3 w⟩) fapi_Unit_1 (.tmp rfl)) ?_
 refine WL.op rfl (.load ty3 (.tmp rfl)) ?_
 refine WL.op rfl (.fieldAddr Tryd.underlying41 rfl (fun w => ⟨0, Tryd.sizeOf3 w⟩) fapi_Step_0 (.tmp rfl)) ?_
 refine WL.op rfl (.load ty3 (.tmp rfl)) ?_
 refine WL.op rfl (.eqI (.tmp rfl) (.tmp rfl)) ?_
 refine WL.mv rfl rfl ?_
 rcases bcases (decide (u.Kind = s0_.Kind)) with hb1 | hb1
 ·have hp2 := of_decide_eq_true hb1
  rw [if_pos hp2] at hm
  refine WL.run rfl rfl rfl rfl hb1 rfl rfl (Op1.fieldAddr Tryd.underlying27 rfl (fun w => ⟨0, Tryd.sizeOf9 w⟩) fapi_Unit_2 (.tmp rfl)) ?_
  refine WL.run rfl rfl rfl rfl hb1 rfl rfl (Op1.load ty9 (.tmp rfl)) ?_
  refine WL.run rfl rfl rfl rfl hb1 rfl rfl (Op1.fieldAddr Tryd.underlying41 rfl (fun w => ⟨0, Tryd.sizeOf9 w⟩) fapi_Step_1 (.tmp rfl)) ?_
  refine WL.run rfl rfl rfl rfl hb1 rfl rfl (Op1.load ty9 (.tmp rfl)) ?_
  refine WL.run rfl rfl rfl rfl hb1 rfl rfl (Op1.eqS (.tmp rfl) (.tmp rfl)) ?_
  refine WL.op rfl (.pickT (.tmp rfl) hb1 (.tmp rfl)) ?_
  refine WL.gv rfl rfl ?_
  refine WL.ns ?_
  cases hm
  exact W.ret1 () rfl (.tmp rfl) trivial
 ·have hp2 := of_decide_eq_false hb1
  rw [if_neg hp2] at hm
  iterate 5 refine WL.pass rfl rfl rfl rfl hb1 rfl rfl ?_
  refine WL.op rfl (.pickF (.tmp rfl) hb1 .bool) ?_
  refine WL.gv rfl rfl ?_
  refine WL.ns ?_
  cases hm
  exact W.ret1 () rfl (.tmp rfl) trivial

theorem address_found_1_spec (x : api_Unit) (c : List api_Step) (c1 : List api_Unit) (b : Nat) (k : Tok) (r : List api_Unit) (hm : M.address_found_1 x c c1 = some r) : FSpecR Tryd.prog 58 [(tapi_Unit.is x), ((tL tapi_Step).ptr c), (Bp b 0)] [(2, (Bx 1 false 25 (tO tapi_Unit k c1) b)), (1000002, Dec.Own tapi_Unit 27 k c1.length)] (fun kx : Tok => (Asn.eq (.tuple #[]))) (fun kx : Tok => [(2, (Bx 1 false 25 (tO tapi_Unit kx r) b)), (1000002, Dec.Own tapi_Unit 27 kx r.length)]) := by
 unfold M.address_found_1 at hm
 refine FSpecR.of Tryd.func58 rfl rfl rfl (fun g0 => ?_)
 refine W.sr ?_
 refine WL.op rfl (.box (.tmp rfl)) ?_
 refine WL.ns ?_
 refine W.seq ?_
 obtain ⟨v, hv1, hm⟩ := bind_some hm
 obtain ⟨called, hv2, hm⟩ := bind_some hm
 refine W.draw [.c (tapi_Unit.is x), .c ((tL tapi_Step).is c), .c (tapi_Step.ptr v), .c (tapi_Step.is v), .c (tB.is called)] [([], [3]), ([], [1]), ([1], []), ([2], []), ([0, 3], [])] Tryd.mixed rfl rfl rfl rfl ⟨.inr (Op1.load ty27 (.tmp rfl)), .inr (Op1.load ty33 (.tmp rfl)), .inr (Op1.idx hv1 Tryd.underlying33 Tryd.sizeOf41 (.tmp rfl) .i64), .inr (Op1.load ty41 (.tmp rfl)), .inr (Op1.call Tryd.call59 (address_called_spec _ _ _ hv2) ⟨(.tmp rfl), (.tmp rfl), trivial⟩), trivial⟩ ?_
 refine WN.seq ?_
 refine W.cond (.tmp rfl) (fun hc3 => ?_) (fun hc3 => ?_)
 ·have hp4 := hc3
  rw [if_pos hp4] at hm
  obtain ⟨out, hv5, hm⟩ := bind_some hm
  refine W.weakR (res' := [(1000002, Dec.Own tapi_Unit 27 k c1.length), (2, (Bx 1 false 25 (tO tapi_Unit k c1) b))]) ⟨rfl, rfl, ⟨rfl, rfl, trivial⟩⟩ ?_
  refine W.drawS [.c (tO tapi_Unit k c1), .c (tapi_Unit.is x), .c ((tI .i64).is (c1.length : Int)), .c ((tL tapi_Unit).is ([(⟨(⟨(0 : Int), (0 : Int), (0 : Int)⟩ : api_Id), (0 : Int), ([] : Str), ([] : List api_Word), ([] : List api_Word), ([] : List api_Unit)⟩ : api_Unit)])), .f (fun cv => (rawS (cv 0) (c1.length + 1))), .f (fun cv => (Bp (bk (cv 0)) (c1.length * tapi_Unit.size))), .c Asn.any, .c Asn.any] [([], [2]), ([], [3]), ([0], []), ([], []), ([0, 3], []), ([2, 4], []), ([1, 5], []), ([4], [2])] [4, 6, 7] [[], [], [], [], [true], [true], [], []] (fun mk cv => match mk with | [false, false, false] => [(1000002, Dec.Own tapi_Unit 27 k c1.length), (2, (Bx 1 false 25 (tO tapi_Unit k c1) b))] | [true, false, false] => [(1000002, Resv tapi_Unit 27 (cv 0) c1), (2, (Bx 1 false 25 (tO tapi_Unit k c1) b))] | [true, true, false] => [(1000002, Grown tapi_Unit 27 (cv 0) out), (2, (Bx 1 false 25 (tO tapi_Unit k c1) b))] | [true, false, true] => [(1000002, Resv tapi_Unit 27 (cv 0) c1), (2, (Bx 1 false 25 (rawS (cv 0) (c1.length + 1)) b))] | _ => [(1000002, Grown tapi_Unit 27 (cv 0) out), (2, (Bx 1 false 25 (rawS (cv 0) (c1.length + 1)) b))]) (fun _ => none) Tryd.mixed rfl rfl rfl rfl rfl ⟨fun _ _ _ _ => rfl, ⟨fun _ _ _ _ => rfl, ⟨fun _ _ _ _ => rfl, ⟨fun _ _ _ _ => rfl, ⟨fun m hm c t => by simp only [DA.at, upd_dep (r := [true]) (j := 0) rfl hm], ⟨fun m hm c t => by simp only [DA.at, upd_dep (r := [true]) (j := 0) rfl hm], ⟨fun _ _ _ _ => rfl, ⟨fun _ _ _ _ => rfl, trivial⟩⟩⟩⟩⟩⟩⟩⟩ rfl ⟨.inr ⟨fun cv => [(2, (Bx 1 false 25 (tO tapi_Unit k c1) b))], ⟨fun _ _ => ⟨rfl, rfl, trivial⟩, fun hw => absurd hw (by decide), fun hw => absurd hw (by decide), fun hw => absurd hw (by decide), fun hw => absurd hw (by decide), fun hw => absurd hw (by decide), fun hw => absurd hw (by decide), fun hw => absurd hw (by decide), trivial⟩, fun cv => Op1.loadB 2 Tryd.isAgg25 Tryd.sizeOf25 rfl (.tmp rfl)⟩, ⟨.inr ⟨fun cv => [], (AllIn.all (fun _ _ _ => trivial) _), fun cv => Op1.load ty27 (.tmp rfl)⟩, ⟨.inr ⟨fun cv => [], (AllIn.all (fun _ _ _ => trivial) _), fun cv => Op1.lenL Tryd.underlying25 (Opd.own (.tmp rfl))⟩, ⟨.inr ⟨fun cv => [], (AllIn.all (fun _ _ _ => trivial) _), fun cv => Op1.buildSlice (n := 1) (ys := [(0, (⟨(⟨(0 : Int), (0 : Int), (0 : Int)⟩ : api_Id), (0 : Int), ([] : Str), ([] : List api_Word), ([] : List api_Word), ([] : List api_Unit)⟩ : api_Unit))]) (z := zapi_Unit) (xs := [(⟨(⟨(0 : Int), (0 : Int), (0 : Int)⟩ : api_Id), (0 : Int), ([] : Str), ([] : List api_Word), ([] : List api_Word), ([] : List api_Unit)⟩ : api_Unit)]) Tryd.underlying25 el27 ze27 ⟨rfl, (fun _ _ _ => ⟨_, (rapi_Unit.into.rep _ _ _ ⟨_, _, rfl, ⟨_, _, rfl, ⟨rfl, inR64.2 ⟨by decide, by decide⟩⟩, ⟨_, _, rfl, ⟨rfl, inR64.2 ⟨by decide, by decide⟩⟩, ⟨rfl, inR64.2 ⟨by decide, by decide⟩⟩⟩⟩, ⟨_, _, rfl, ⟨rfl, inR64.2 ⟨by decide, by decide⟩⟩, ⟨_, _, rfl, ⟨rfl, by decide⟩, ⟨_, _, rfl, ⟨none, 0, rfl, Nat.le_refl _, Nat.zero_le _, fun _ => rfl, rfl⟩, ⟨_, _, rfl, ⟨none, 0, rfl, Nat.le_refl _, Nat.zero_le _, fun _ => rfl, rfl⟩, ⟨none, 0, rfl, Nat.le_refl _, Nat.zero_le _, fun _ => rfl, rfl⟩⟩⟩⟩⟩⟩), rfl⟩), trivial⟩ (by simp) (by decide) rfl⟩, ⟨.inl rfl, ⟨.inr ⟨fun cv => [], (AllIn.all (fun _ _ _ => trivial) _), fun cv => Op1.rawIdx (t := tapi_Unit) Tryd.underlying25 Tryd.sizeOf27 (.tmp rfl) (.tmp rfl)⟩, ⟨.inl rfl, ⟨.inl rfl, trivial⟩⟩⟩⟩⟩⟩⟩⟩ ⟨⟨_, _, _, rfl, rfl, rfl, rfl, ⟨fun _ _ => ⟨[1000002], (fun cv => [(1000002, Resv tapi_Unit 27 (cv 0) c1)]), (fun cv => ⟨rfl, rfl, ⟨rfl, rfl, trivial⟩⟩), (fun _ _ => rfl), fun cv => OpR.appendZC (key := 1000002) hv5 Tryd.underlying25 el27 (.tmp rfl) (.tmp rfl) rfl⟩, fun h _ => absurd h (by decide), fun _ h => absurd h (by decide), fun h _ => absurd h (by decide), fun _ h => absurd h (by decide), fun h _ => absurd h (by decide), fun _ h => absurd h (by decide), fun h _ => absurd h (by decide), trivial⟩⟩, ⟨⟨_, _, _, rfl, rfl, rfl, rfl, ⟨fun _ h => absurd h (by decide), fun _ _ => ⟨[1000002], (fun cv => [(1000002, Grown tapi_Unit 27 (cv 0) out)]), (fun cv => ⟨rfl, rfl, ⟨rfl, rfl, trivial⟩⟩), (fun _ _ => rfl), fun cv => OpR.viaU (OpR.storeEl (k := (cv 0)) (key := 1000002) hv5 ty27 (.tmp rfl) (.tmp rfl) rfl)⟩, fun h _ => absurd h (by decide), fun h _ => absurd h (by decide), fun _ h => absurd h (by decide), fun _ _ => ⟨[1000002], (fun cv => [(1000002, Grown tapi_Unit 27 (cv 0) out)]), (fun cv => ⟨rfl, rfl, ⟨rfl, rfl, trivial⟩⟩), (fun _ _ => rfl), fun cv => OpR.viaU (OpR.storeEl (k := (cv 0)) (key := 1000002) hv5 ty27 (.tmp rfl) (.tmp rfl) rfl)⟩, fun h _ => absurd h (by decide), fun h _ => absurd h (by decide), trivial⟩⟩, ⟨⟨_, _, _, rfl, rfl, rfl, rfl, ⟨fun _ h => absurd h (by decide), fun _ _ => ⟨[2], (fun cv => [(2, (Bx 1 false 25 (rawS (cv 0) (c1.length + 1)) b))]), (fun cv => ⟨rfl, rfl, ⟨rfl, rfl, trivial⟩⟩), (fun _ _ => rfl), fun cv => OpR.viaU (OpR.storeB (b := b) 2 Tryd.sizeOf25 (Cellable.raw (cv 0) _) rfl (.tmp rfl) (.tmp rfl))⟩, fun _ h => absurd h (by decide), fun _ _ => ⟨[2], (fun cv => [(2, (Bx 1 false 25 (rawS (cv 0) (c1.length + 1)) b))]), (fun cv => ⟨rfl, rfl, ⟨rfl, rfl, trivial⟩⟩), (fun _ _ => rfl), fun cv => OpR.viaU (OpR.storeB (b := b) 2 Tryd.sizeOf25 (Cellable.raw (cv 0) _) rfl (.tmp rfl) (.tmp rfl))⟩, fun h _ => absurd h (by decide), fun h _ => absurd h (by decide), fun h _ => absurd h (by decide), fun h _ => absurd h (by decide), trivial⟩⟩, trivial⟩⟩⟩ (fun cv => ?_)
  refine WN.grown 2 1000002 (by decide) rfl rfl (appC_len hv5) ?_
  have hr := Option.some.inj hm
  clear hm
  subst hr
  exact WN.fin (cv 0) rfl (fun _ => rfl) ⟨rfl, rfl, ⟨rfl, rfl, trivial⟩⟩
 ·have hp4 := ne_of_false hc3
  rw [if_neg hp4] at hm
  refine W.skip ?_
  have hr := Option.some.inj hm
  clear hm
  subst hr
  exact WN.fin k rfl (fun _ => rfl) ⟨rfl, rfl, ⟨rfl, rfl, trivial⟩⟩

theorem address_each_i0_spec : ∀ (n : Nat) (u : api_Unit) (c : List api_Step) (c1 : List api_Unit) (b : Nat) (k : Tok) (r : List api_Unit), M.address_each_i0 n u c c1 = some r → FSpecR Tryd.prog 57 [(tapi_Unit.is u), (cloA 58 [((tL tapi_Step).ptr c), (Bp b 0)])] [(500101, (Bx 1 false 25 (tO tapi_Unit k c1) b)), (1500101, Dec.Own tapi_Unit 27 k c1.length)] (fun kx : Tok => (Asn.eq (.tuple #[]))) (fun kx : Tok => [(500101, (Bx 1 false 25 (tO tapi_Unit kx r) b)), (1500101, Dec.Own tapi_Unit 27 kx r.length)]) := by
 intro n
 induction n with
 | zero => intro u c c1 b k r hm; cases hm
 | succ n ih =>
  intro u c c1 b k r hm
  rw [M.address_each_i0.eq_2] at hm
  refine FSpecR.of Tryd.func57 rfl rfl rfl (fun g0 => ?_)
  refine W.sr ?_
  refine WL.op rfl (.box (.tmp rfl)) ?_
  refine WL.nr ?_
  refine WL.mv rfl rfl ?_
  refine WL.op rfl (.load ty27 (.tmp rfl)) ?_
  obtain ⟨w, hv1, hm⟩ := bind_some hm
  refine WL.weakR (res' := [(500101, (Bx 1 false 25 (tO tapi_Unit k c1) b)), (1500101, Dec.Own tapi_Unit 27 k c1.length)]) ⟨rfl, rfl, ⟨rfl, rfl, trivial⟩⟩ ?_
  refine WL.opR rfl (OpR.callClo (us := [500101, 1500101]) (A := fun kx : Tok => (Asn.eq (.tuple #[]))) (As := [tapi_Unit.is u]) Tryd.call58 (.tmp rfl) (FSpecR.keys (rin' := [(500101, (Bx 1 false 25 (tO tapi_Unit k c1) b)), (1500101, Dec.Own tapi_Unit 27 k c1.length)]) (out' := fun kx : Tok => [(500101, (Bx 1 false 25 (tO tapi_Unit kx w) b)), (1500101, Dec.Own tapi_Unit 27 kx w.length)]) (address_found_1_spec _ _ _ _ _ _ hv1) rfl (fun _ => rfl)) rfl ⟨(.tmp rfl), trivial⟩) (fun k1 => ?_)
  refine WL.nr ?_
  refine WL.op rfl (.fieldAddr Tryd.underlying27 rfl (fun w => ⟨0, Tryd.sizeOf25 w⟩) fapi_Unit_5 (.tmp rfl)) ?_
  refine WL.op rfl (.load ty25 (.tmp rfl)) ?_
  refine WL.op rfl (.lenL Tryd.underlying25 (.tmp rfl)) ?_
  refine WL.op rfl (.move .i64) ?_
  refine WL.ns ?_
  refine W.block ?_
  obtain ⟨s2, hs3, hk4⟩ := bind_some hm
  clear hm
  refine W.loop (fun m (s : Int × List api_Unit × List api_Unit × (((List api_Unit)) × Tok)) => m = s.2.2.1.length ∧ u.Kids = s.2.1 ++ s.2.2.1 ∧ s.1 = (s.2.1.length : Int) ∧ M.address_each_i0_loop1 c (M.address_each_i0 n) s.2.2.1 s.2.2.2.1 = some s2) (fun s => [(12, ((tI .i64).is s.1)), (1, (cloA 58 [((tL tapi_Step).ptr c), (Bp b 0)])), (10, ((tL tapi_Unit).is u.Kids)), (11, ((tI .i64).is (u.Kids.length : Int)))]) (fun s => [(1500101, Dec.Own tapi_Unit 27 s.2.2.2.2 s.2.2.2.1.length), (500101, (Bx 1 false 25 (tO tapi_Unit s.2.2.2.2 s.2.2.2.1) b))]) u.Kids.length ((0 : Int), [], u.Kids, (w, k1)) ⟨rfl, rfl, rfl, hs3⟩ ⟨Ent.q rfl, Ent.q rfl, Ent.q rfl, Ent.q rfl, trivial⟩ ⟨rfl, rfl, ⟨rfl, rfl, trivial⟩⟩ ?_
  rintro m ⟨i, pre, rest1, ⟨v, k2⟩⟩ ⟨hn8, hxs5, hi6, hm⟩
  try dsimp only at hn8 hxs5 hi6 hm
  change W _ _ _ _ _ _ _ [(12, ((tI .i64).is i)), (1, (cloA 58 [((tL tapi_Step).ptr c), (Bp b 0)])), (10, ((tL tapi_Unit).is u.Kids)), (11, ((tI .i64).is (u.Kids.length : Int)))] [(1500101, Dec.Own tapi_Unit 27 k2 v.length), (500101, (Bx 1 false 25 (tO tapi_Unit k2 v) b))]
  refine W.lenL (s := 10) (.tmp rfl) fun hlen7 => ?_
  refine W.sr ?_
  refine WL.op rfl (.ltI (.tmp rfl) (.tmp rfl)) ?_
  refine WL.ns ?_
  refine W.seq ?_
  refine W.cond (.tmp rfl) (fun hc10 => ?_) (fun hc10 => ?_)
  ·have hp11 := of_decide_eq_true hc10
   obtain ⟨e, es, hrest13⟩ := range_more hxs5 hi6 hp11
   subst hrest13
   rw [M.address_each_i0_loop1.eq_2] at hm
   refine W.skip ?_
   refine WN.seq ?_
   refine W.seq ?_
   refine W.block ?_
   refine W.sr ?_
   refine WL.op rfl (.idxPre hxs5 hi6 Tryd.underlying25 Tryd.sizeOf27 (.tmp rfl) (.tmp rfl)) ?_
   refine WL.op rfl (.load ty27 (.tmp rfl)) ?_
   refine WL.opR rfl (OpR.alloc 5 ze27) (fun b1 => ?_)
   refine WL.opU (OpR.storeB (b := b1) 5 Tryd.sizeOf27 (Cellable.is tapi_Unit e) rfl (.tmp rfl) (.tmp rfl)) (fun _ => ?_)
   refine WL.sealed (t := tapi_Unit) (u := e) 5 5 rfl rfl ?_
   refine WL.nr1 ?_
   refine WL.op rfl (.load ty27 (.tmp rfl)) ?_
   refine WL.mv rfl rfl ?_
   obtain ⟨w1, hv14, hm⟩ := bind_some hm
   refine WL.weakR (res' := [(500101, (Bx 1 false 25 (tO tapi_Unit k2 v) b)), (1500101, Dec.Own tapi_Unit 27 k2 v.length)]) ⟨rfl, rfl, ⟨rfl, rfl, trivial⟩⟩ ?_
   refine WL.opR rfl (OpR.call (us := [500101, 1500101]) (A := fun kx : Tok => (Asn.eq (.tuple #[]))) Tryd.call57 (FSpecR.keys (rin' := [(500101, (Bx 1 false 25 (tO tapi_Unit k2 v) b)), (1500101, Dec.Own tapi_Unit 27 k2 v.length)]) (out' := fun kx : Tok => [(500101, (Bx 1 false 25 (tO tapi_Unit kx w1) b)), (1500101, Dec.Own tapi_Unit 27 kx w1.length)]) (ih _ _ _ _ _ _ hv14) rfl (fun _ => rfl)) rfl ⟨(.tmp rfl), (.tmp rfl), trivial⟩) (fun k3 => ?_)
   refine WL.nil ?_
   refine WN.block ?_
   refine WN.seq ?_
   refine W.region ?_
   refine WL.op rfl (.addI (.tmp rfl) .i64 (range_inR hi6 hp11 hlen7)) ?_
   refine WL.mv rfl rfl ?_
   refine WL.nil ?_
   exact WN.again es.length (i + 1, pre ++ [e], es, (w1, k3)) (range_lt hn8) ⟨rfl, range_step hxs5, range_idx hi6, hm⟩ ⟨Ent.q rfl, Ent.q rfl, Ent.q rfl, Ent.q rfl, trivial⟩ ⟨rfl, rfl, ⟨rfl, rfl, trivial⟩⟩
  ·have hrest13 := range_end hxs5 hi6 (of_decide_eq_false hc10)
   subst hrest13
   rw [M.address_each_i0_loop1.eq_1] at hm
   refine W.exit rfl ?_
   have hr15 := Option.some.inj hm
   clear hm
   subst hr15
   have hm := hk4
   try dsimp only at hm
   have hr := Option.some.inj hm
   clear hm
   subst hr
   exact WN.fin k2 rfl (fun _ => rfl) ⟨rfl, rfl, ⟨rfl, rfl, trivial⟩⟩

theorem address_found_spec (n : Nat) (u : api_Unit) (p : List api_Step) (r : (List api_Unit)) (hm : M.address_found n u p = some r) : FSpec Tryd.prog 38 [(tapi_Unit.is u), ((tL tapi_Step).is p)] ((tL tapi_Unit).is r) := by
 unfold M.address_found at hm
 refine FSpec.of Tryd.func38 rfl rfl rfl (fun g0 => ?_)
 refine W.sr ?_
 refine WL.op rfl (.box (.tmp rfl)) ?_
 refine WL.op rfl (.box (.tmp rfl)) ?_
 refine WL.op rfl (.assign (.nil (t := tapi_Unit))) ?_
 refine WL.ns ?_
 refine W.seq ?_
 refine W.sr ?_
 refine WL.op rfl (.load ty33 (.tmp rfl)) ?_
 obtain ⟨valid, hv1, hm⟩ := bind_some hm
 refine WL.op rfl (.call Tryd.call17 (address_Valid_spec _ _ _ hv1) ⟨(.tmp rfl), trivial⟩) ?_
 refine WL.op rfl (.notB (.tmp rfl)) ?_
 refine WL.ns ?_
 refine W.cond (.tmp rfl) (fun hc2 => ?_) (fun hc2 => ?_)
 ·have hp3 := not_pos hc2
  rw [if_pos hp3] at hm
  refine W.sr ?_
  refine WL.op rfl (.assign (.nil (t := tapi_Unit))) ?_
  refine WL.ns ?_
  cases hm
  exact W.ret1 () rfl (.tmp rfl) trivial
 ·have hp3 := not_neg hc2
  rw [if_neg hp3] at hm
  refine W.skip ?_
  refine WN.seq ?_
  refine W.sr ?_
  refine WL.addNil (t := tapi_Unit) (E := 27) 1000005 ?_
  refine WL.opR rfl (OpR.allocO (t := tapi_Unit) 5 Tryd.zeroValue25) (fun b => ?_)
  refine WL.ns ?_
  obtain ⟨s4, hs5, hk6⟩ := bind_some hm
  clear hm
  refine W.join (fun s : (List api_Unit) => (Sum.inl s : ((List api_Unit)) ⊕ ((List api_Unit))) = s4) (fun s => [(3, ((tL tapi_Step).ptr p)), (5, (Bp b 0))]) (fun s => [(5, (Bx 1 false 25 ((tL tapi_Unit).is s) b))]) ?_ ?_
  ·rintro at0_ hj59
   try dsimp only at hj59
   subst hj59
   have hm := hk6
   clear hk6
   try dsimp only at hm
   change W _ _ _ _ _ _ _ [(3, ((tL tapi_Step).ptr p)), (5, (Bp b 0))] [(5, (Bx 1 false 25 ((tL tapi_Unit).is at0_) b))]
   refine W.seq ?_
   refine W.sr ?_
   refine WL.op rfl (.load ty33 (.tmp rfl)) ?_
   obtain ⟨v1, hv15, hm⟩ := bind_some hm
   refine WL.op rfl (.slcLo hv15 Tryd.underlying33 Tryd.sizeOf41 (.tmp rfl) .i64) ?_
   refine WL.op rfl (.lenL Tryd.underlying33 (.tmp rfl)) ?_
   refine WL.op rfl (.move .i64) ?_
   refine WL.ns ?_
   refine W.block ?_
   obtain ⟨s16, hs17, hk18⟩ := bind_some hm
   clear hm
   refine W.loop (fun m (s : Int × List api_Step × List api_Step × ((List api_Unit))) => m = s.2.2.1.length ∧ v1 = s.2.1 ++ s.2.2.1 ∧ s.1 = (s.2.1.length : Int) ∧ M.address_found_loop1 s.2.2.1 s.2.2.2 = some s16) (fun s => [(35, ((tI .i64).is s.1)), (5, (Bp b 0)), (33, ((tL tapi_Step).is v1)), (34, ((tI .i64).is (v1.length : Int)))]) (fun s => [(5, (Bx 1 false 25 ((tL tapi_Unit).is s.2.2.2) b))]) v1.length ((0 : Int), [], v1, at0_) ⟨rfl, rfl, rfl, hs17⟩ ⟨Ent.q rfl, Ent.q rfl, Ent.q rfl, Ent.q rfl, trivial⟩ ⟨rfl, rfl, trivial⟩ ?_
   rintro m ⟨i, pre, rest5, at0_2⟩ ⟨hn22, hxs19, hi20, hm⟩
   try dsimp only at hn22 hxs19 hi20 hm
   change W _ _ _ _ _ _ _ [(35, ((tI .i64).is i)), (5, (Bp b 0)), (33, ((tL tapi_Step).is v1)), (34, ((tI .i64).is (v1.length : Int)))] [(5, (Bx 1 false 25 ((tL tapi_Unit).is at0_2) b))]
   refine W.lenL (s := 33) (.tmp rfl) fun hlen21 => ?_
   refine W.sr ?_
   refine WL.op rfl (.ltI (.tmp rfl) (.tmp rfl)) ?_
   refine WL.ns ?_
   refine W.seq ?_
   refine W.cond (.tmp rfl) (fun hc24 => ?_) (fun hc24 => ?_)
   ·have hp25 := of_decide_eq_true hc24
    obtain ⟨e, es, hrest27⟩ := range_more hxs19 hi20 hp25
    subst hrest27
    rw [M.address_found_loop1.eq_2] at hm
    refine W.skip ?_
    refine WN.seq ?_
    refine W.seq ?_
    refine W.block ?_
    refine W.sr ?_
    refine WL.op rfl (.idxPre hxs19 hi20 Tryd.underlying33 Tryd.sizeOf41 (.tmp rfl) (.tmp rfl)) ?_
    refine WL.op rfl (.load ty41 (.tmp rfl)) ?_
    refine WL.opR rfl (OpR.alloc 7 ze41) (fun b1 => ?_)
    refine WL.opU (OpR.storeB (b := b1) 7 Tryd.sizeOf41 (Cellable.is tapi_Step e) rfl (.tmp rfl) (.tmp rfl)) (fun _ => ?_)
    refine WL.sealed (t := tapi_Step) (u := e) 7 7 rfl rfl ?_
    refine WL.nr ?_
    refine WL.addNil (t := tapi_Unit) (E := 27) 8 ?_
    refine WL.op rfl (.assign (Opd.nilO (t := tapi_Unit))) ?_
    refine WL.ns ?_
    refine W.seq ?_
    refine W.sr ?_
    refine WL.op rfl (.loadB 5 Tryd.isAgg25 Tryd.sizeOf25 rfl (.tmp rfl)) ?_
    refine WL.op rfl (.lenL Tryd.underlying25 (.tmp rfl)) ?_
    refine WL.op rfl (.move .i64) ?_
    refine WL.ns ?_
    refine W.block ?_
    obtain ⟨s28, hs29, hk30⟩ := bind_some hm
    clear hm
    refine W.loop (fun m (s : Int × List api_Unit × List api_Unit × (((List api_Unit)) × Tok)) => m = s.2.2.1.length ∧ at0_2 = s.2.1 ++ s.2.2.1 ∧ s.1 = (s.2.1.length : Int) ∧ M.address_found_loop2 e s.2.2.1 s.2.2.2.1 = some s28) (fun s => [(41, ((tI .i64).is s.1)), (8, (tO tapi_Unit s.2.2.2.2 s.2.2.2.1)), (5, (Bp b 0)), (7, (tapi_Step.ptr e)), (33, ((tL tapi_Step).is v1)), (34, ((tI .i64).is (v1.length : Int))), (35, ((tI .i64).is i)), (39, ((tL tapi_Unit).is at0_2)), (40, ((tI .i64).is (at0_2.length : Int)))]) (fun s => [(8, Dec.Own tapi_Unit 27 s.2.2.2.2 s.2.2.2.1.length), (5, (Bx 1 false 25 ((tL tapi_Unit).is at0_2) b))]) at0_2.length ((0 : Int), [], at0_2, (([] : List api_Unit), (none : Tok))) ⟨rfl, rfl, rfl, hs29⟩ ⟨Ent.q rfl, Ent.q rfl, Ent.q rfl, Ent.q rfl, Ent.q rfl, Ent.q rfl, Ent.q rfl, Ent.q rfl, Ent.q rfl, trivial⟩ ⟨rfl, rfl, ⟨rfl, rfl, trivial⟩⟩ ?_
    rintro m ⟨i1, pre1, rest4, ⟨next, k2⟩⟩ ⟨hn34, hxs31, hi32, hm⟩
    try dsimp only at hn34 hxs31 hi32 hm
    change W _ _ _ _ _ _ _ [(41, ((tI .i64).is i1)), (8, (tO tapi_Unit k2 next)), (5, (Bp b 0)), (7, (tapi_Step.ptr e)), (33, ((tL tapi_Step).is v1)), (34, ((tI .i64).is (v1.length : Int))), (35, ((tI .i64).is i)), (39, ((tL tapi_Unit).is at0_2)), (40, ((tI .i64).is (at0_2.length : Int)))] [(8, Dec.Own tapi_Unit 27 k2 next.length), (5, (Bx 1 false 25 ((tL tapi_Unit).is at0_2) b))]
    refine W.lenL (s := 39) (.tmp rfl) fun hlen33 => ?_
    refine W.sr ?_
    refine WL.op rfl (.ltI (.tmp rfl) (.tmp rfl)) ?_
    refine WL.ns ?_
    refine W.seq ?_
    refine W.cond (.tmp rfl) (fun hc36 => ?_) (fun hc36 => ?_)
    ·have hp37 := of_decide_eq_true hc36
     obtain ⟨e1, es1, hrest39⟩ := range_more hxs31 hi32 hp37
     subst hrest39
     rw [M.address_found_loop2.eq_2] at hm
     refine W.skip ?_
     refine WN.seq ?_
     refine W.seq ?_
     refine W.block ?_
     refine W.sr ?_
     refine WL.op rfl (.idxPre hxs31 hi32 Tryd.underlying25 Tryd.sizeOf27 (.tmp rfl) (.tmp rfl)) ?_
     refine WL.op rfl (.load ty27 (.tmp rfl)) ?_
     refine WL.opR rfl (OpR.alloc 10 ze27) (fun b2 => ?_)
     refine WL.opU (OpR.storeB (b := b2) 10 Tryd.sizeOf27 (Cellable.is tapi_Unit e1) rfl (.tmp rfl) (.tmp rfl)) (fun _ => ?_)
     refine WL.sealed (t := tapi_Unit) (u := e1) 10 10 rfl rfl ?_
     refine WL.nr ?_
     refine WL.op rfl (.fieldAddr Tryd.underlying27 rfl (fun w => ⟨0, Tryd.sizeOf25 w⟩) fapi_Unit_5 (.tmp rfl)) ?_
     refine WL.op rfl (.load ty25 (.tmp rfl)) ?_
     refine WL.op rfl (.lenL Tryd.underlying25 (.tmp rfl)) ?_
     refine WL.op rfl (.move .i64) ?_
     refine WL.ns ?_
     refine W.block ?_
     obtain ⟨s40, hs41, hk42⟩ := bind_some hm
     clear hm
     refine W.loop (fun m (s : Int × List api_Unit × List api_Unit × (((List api_Unit)) × Tok)) => m = s.2.2.1.length ∧ e1.Kids = s.2.1 ++ s.2.2.1 ∧ s.1 = (s.2.1.length : Int) ∧ M.address_found_loop3 e s.2.2.1 s.2.2.2.1 = some s40) (fun s => [(48, ((tI .i64).is s.1)), (8, (tO tapi_Unit s.2.2.2.2 s.2.2.2.1)), (5, (Bp b 0)), (7, (tapi_Step.ptr e)), (33, ((tL tapi_Step).is v1)), (34, ((tI .i64).is (v1.length : Int))), (35, ((tI .i64).is i)), (39, ((tL tapi_Unit).is at0_2)), (40, ((tI .i64).is (at0_2.length : Int))), (41, ((tI .i64).is i1)), (46, ((tL tapi_Unit).is e1.Kids)), (47, ((tI .i64).is (e1.Kids.length : Int)))]) (fun s => [(8, Dec.Own tapi_Unit 27 s.2.2.2.2 s.2.2.2.1.length), (5, (Bx 1 false 25 ((tL tapi_Unit).is at0_2) b))]) e1.Kids.length ((0 : Int), [], e1.Kids, (next, k2)) ⟨rfl, rfl, rfl, hs41⟩ ⟨Ent.q rfl, Ent.q rfl, Ent.q rfl, Ent.q rfl, Ent.q rfl, Ent.q rfl, Ent.q rfl, Ent.q rfl, Ent.q rfl, Ent.q rfl, Ent.q rfl, Ent.q rfl, trivial⟩ ⟨rfl, rfl, ⟨rfl, rfl, trivial⟩⟩ ?_
     rintro m ⟨i2, pre2, rest3, ⟨next1, k3⟩⟩ ⟨hn46, hxs43, hi44, hm⟩
     try dsimp only at hn46 hxs43 hi44 hm
     change W _ _ _ _ _ _ _ [(48, ((tI .i64).is i2)), (8, (tO tapi_Unit k3 next1)), (5, (Bp b 0)), (7, (tapi_Step.ptr e)), (33, ((tL tapi_Step).is v1)), (34, ((tI .i64).is (v1.length : Int))), (35, ((tI .i64).is i)), (39, ((tL tapi_Unit).is at0_2)), (40, ((tI .i64).is (at0_2.length : Int))), (41, ((tI .i64).is i1)), (46, ((tL tapi_Unit).is e1.Kids)), (47, ((tI .i64).is (e1.Kids.length : Int)))] [(8, Dec.Own tapi_Unit 27 k3 next1.length), (5, (Bx 1 false 25 ((tL tapi_Unit).is at0_2) b))]
     refine W.lenL (s := 46) (.tmp rfl) fun hlen45 => ?_
     refine W.sr ?_
     refine WL.op rfl (.ltI (.tmp rfl) (.tmp rfl)) ?_
     refine WL.ns ?_
     refine W.seq ?_
     refine W.cond (.tmp rfl) (fun hc48 => ?_) (fun hc48 => ?_)
     ·have hp49 := of_decide_eq_true hc48
      obtain ⟨e2, es2, hrest51⟩ := range_more hxs43 hi44 hp49
      subst hrest51
      rw [M.address_found_loop3.eq_2] at hm
      refine W.skip ?_
      refine WN.seq ?_
      refine W.seq ?_
      refine W.block ?_
      refine W.sr ?_
      refine WL.op rfl (.idxPre hxs43 hi44 Tryd.underlying25 Tryd.sizeOf27 (.tmp rfl) (.tmp rfl)) ?_
      refine WL.op rfl (.load ty27 (.tmp rfl)) ?_
      refine WL.opR rfl (OpR.alloc 12 ze27) (fun b3 => ?_)
      refine WL.opU (OpR.storeB (b := b3) 12 Tryd.sizeOf27 (Cellable.is tapi_Unit e2) rfl (.tmp rfl) (.tmp rfl)) (fun _ => ?_)
      refine WL.sealed (t := tapi_Unit) (u := e2) 12 12 rfl rfl ?_
      refine WL.nr ?_
      refine WL.op rfl (.load ty27 (.tmp rfl)) ?_
      refine WL.op rfl (.load ty41 (.tmp rfl)) ?_
      obtain ⟨called, hv52, hm⟩ := bind_some hm
      refine WL.op rfl (.call Tryd.call59 (address_called_spec _ _ _ hv52) ⟨(.tmp rfl), (.tmp rfl), trivial⟩) ?_
      refine WL.ns ?_
      refine W.cond (.tmp rfl) (fun hc53 => ?_) (fun hc53 => ?_)
      ·have hp54 := hc53
       rw [if_pos hp54] at hm
       refine W.region ?_
       refine WL.mv rfl rfl ?_
       refine WL.op rfl (.load ty27 (.tmp rfl)) ?_
       refine WL.op rfl (.buildSlice (n := 1) (ys := [(0, e2)]) (z := zapi_Unit) (xs := [e2]) Tryd.underlying25 el27 ze27 ⟨rfl, (.tmp rfl), trivial⟩ (by simp) (by decide) rfl) ?_
       obtain ⟨next2, hv55, hm⟩ := bind_some hm
       refine WL.opR rfl (OpR.appC (key := 8) hv55 Tryd.underlying25 el27 (.tmp rfl) (.tmp rfl) rfl) (fun k4 => ?_)
       refine WL.gv rfl rfl ?_
       refine WL.nil ?_
       refine WN.block ?_
       refine WN.seq ?_
       refine W.region ?_
       refine WL.op rfl (.addI (.tmp rfl) .i64 (range_inR hi44 hp49 hlen45)) ?_
       refine WL.mv rfl rfl ?_
       refine WL.nil ?_
       exact WN.again es2.length (i2 + 1, pre2 ++ [e2], es2, (next2, k4)) (range_lt hn46) ⟨rfl, range_step hxs43, range_idx hi44, hm⟩ ⟨Ent.q rfl, Ent.q rfl, Ent.q rfl, Ent.q rfl, Ent.q rfl, Ent.q rfl, Ent.q rfl, Ent.q rfl, Ent.q rfl, Ent.q rfl, Ent.q rfl, Ent.q rfl, trivial⟩ ⟨rfl, rfl, ⟨rfl, rfl, trivial⟩⟩
      ·have hp54 := ne_of_false hc53
       rw [if_neg hp54] at hm
       refine W.skip ?_
       refine WN.block ?_
       refine WN.seq ?_
       refine W.region ?_
       refine WL.op rfl (.addI (.tmp rfl) .i64 (range_inR hi44 hp49 hlen45)) ?_
       refine WL.mv rfl rfl ?_
       refine WL.nil ?_
       exact WN.again es2.length (i2 + 1, pre2 ++ [e2], es2, (next1, k3)) (range_lt hn46) ⟨rfl, range_step hxs43, range_idx hi44, hm⟩ ⟨Ent.q rfl, Ent.q rfl, Ent.q rfl, Ent.q rfl, Ent.q rfl, Ent.q rfl, Ent.q rfl, Ent.q rfl, Ent.q rfl, Ent.q rfl, Ent.q rfl, Ent.q rfl, trivial⟩ ⟨rfl, rfl, ⟨rfl, rfl, trivial⟩⟩
     ·have hrest51 := range_end hxs43 hi44 (of_decide_eq_false hc48)
      subst hrest51
      rw [M.address_found_loop3.eq_1] at hm
      refine W.exit rfl ?_
      have hr56 := Option.some.inj hm
      clear hm
      subst hr56
      have hm := hk42
      try dsimp only at hm
      refine WN.block ?_
      refine WN.seq ?_
      refine W.region ?_
      refine WL.op rfl (.addI (.tmp rfl) .i64 (range_inR hi32 hp37 hlen33)) ?_
      refine WL.mv rfl rfl ?_
      refine WL.nil ?_
      exact WN.again es1.length (i1 + 1, pre1 ++ [e1], es1, (next1, k3)) (range_lt hn34) ⟨rfl, range_step hxs31, range_idx hi32, hm⟩ ⟨Ent.q rfl, Ent.q rfl, Ent.q rfl, Ent.q rfl, Ent.q rfl, Ent.q rfl, Ent.q rfl, Ent.q rfl, Ent.q rfl, trivial⟩ ⟨rfl, rfl, ⟨rfl, rfl, trivial⟩⟩
    ·have hrest39 := range_end hxs31 hi32 (of_decide_eq_false hc36)
     subst hrest39
     rw [M.address_found_loop2.eq_1] at hm
     refine W.exit rfl ?_
     have hr57 := Option.some.inj hm
     clear hm
     subst hr57
     have hm := hk30
     try dsimp only at hm
     refine WN.seq ?_
     refine W.region ?_
     refine WL.mv rfl rfl ?_
     refine WL.opU (OpR.storeB (b := b) 5 Tryd.sizeOf25 (Cellable.o tapi_Unit k2 next) rfl (.tmp rfl) (.tmp rfl)) (fun _ => ?_)
     refine WL.nil ?_
     refine WN.block ?_
     refine WN.seq ?_
     refine W.region ?_
     refine WL.op rfl (.addI (.tmp rfl) .i64 (range_inR hi20 hp25 hlen21)) ?_
     refine WL.mv rfl rfl ?_
     refine WL.nil ?_
     refine WN.boxV (A' := ((tL tapi_Unit).is next)) 5 rfl (fun _ _ => tO_tL) ?_
     exact WN.again es.length (i + 1, pre ++ [e], es, next) (range_lt hn22) ⟨rfl, range_step hxs19, range_idx hi20, hm⟩ ⟨Ent.q rfl, Ent.q rfl, Ent.q rfl, Ent.q rfl, trivial⟩ ⟨rfl, rfl, trivial⟩
   ·have hrest27 := range_end hxs19 hi20 (of_decide_eq_false hc24)
    subst hrest27
    rw [M.address_found_loop1.eq_1] at hm
    refine W.exit rfl ?_
    have hr58 := Option.some.inj hm
    clear hm
    subst hr58
    have hm := hk18
    try dsimp only at hm
    refine WN.seq ?_
    refine W.sr ?_
    refine WL.op rfl (.loadB 5 Tryd.isAgg25 Tryd.sizeOf25 rfl (.tmp rfl)) ?_
    refine WL.gv rfl rfl ?_
    refine WL.ns ?_
    cases hm
    exact W.ret1 () rfl (.tmp rfl) trivial
  ·have hm := hs5
   clear hs5
   refine W.block ?_
   refine W.sr ?_
   refine WL.op rfl (.load ty33 (.tmp rfl)) ?_
   refine WL.op rfl (.lenL Tryd.underlying33 (.tmp rfl)) ?_
   refine WL.op rfl (.eqI (.tmp rfl) .i64) ?_
   refine WL.gv rfl rfl ?_
   refine WL.ns ?_
   refine W.cond (.tmp rfl) (fun hc7 => ?_) (fun hc7 => ?_)
   ·have hp8 := of_decide_eq_true hc7
    rw [if_pos hp8] at hm
    refine W.sr ?_
    refine WL.op rfl (.load ty27 (.tmp rfl)) ?_
    refine WL.op rfl (.buildSlice (n := 1) (ys := [(0, u)]) (z := zapi_Unit) (xs := [u]) Tryd.underlying25 el27 ze27 ⟨rfl, (.tmp rfl), trivial⟩ (by simp) (by decide) rfl) ?_
    refine WL.gv rfl rfl ?_
    refine WL.ns ?_
    have hr9 := Option.some.inj hm
    clear hm
    subst hr9
    have hm := hk6
    try dsimp only at hm
    cases hm
    exact W.ret1 () rfl (.tmp rfl) trivial
   ·have hp8 := of_decide_eq_false hc7
    rw [if_neg hp8] at hm
    refine W.sr ?_
    refine WL.op rfl (.load ty33 (.tmp rfl)) ?_
    obtain ⟨v, hv10, hm⟩ := bind_some hm
    refine WL.op rfl (.idx hv10 Tryd.underlying33 Tryd.sizeOf41 (.tmp rfl) .i64) ?_
    refine WL.op rfl (.load ty41 (.tmp rfl)) ?_
    obtain ⟨book, hv11, hm⟩ := bind_some hm
    refine WL.op rfl (.call Tryd.call36 (address_book_spec _ _ hv11) ⟨(.tmp rfl), trivial⟩) ?_
    refine WL.gv rfl rfl ?_
    refine WL.ns ?_
    refine W.cond (.tmp rfl) (fun hc12 => ?_) (fun hc12 => ?_)
    ·have hp13 := hc12
     rw [if_pos hp13] at hm
     refine W.region ?_
     refine WL.op rfl (.load ty27 (.tmp rfl)) ?_
     refine WL.opR rfl (OpR.buildSlice (n := 1) (ys := [(0, u)]) (z := zapi_Unit) (xs := [u]) 31 Tryd.underlying25 el27 ze27 ⟨rfl, (.tmp rfl), trivial⟩ (by simp) (by decide) rfl) (fun k => ?_)
     refine WL.opU (OpR.storeB (b := b) 5 Tryd.sizeOf25 (Cellable.o tapi_Unit k [u]) rfl (.tmp rfl) (.tmp rfl)) (fun _ => ?_)
     refine WL.nil ?_
     refine WN.block ?_
     refine WN.boxV (A' := ((tL tapi_Unit).is [u])) 5 rfl (fun _ _ => tO_tL) ?_
     exact WN.meet [u] (Option.some.inj hm) ⟨Ent.q rfl, Ent.q rfl, trivial⟩ ⟨rfl, rfl, trivial⟩
    ·have hp13 := ne_of_false hc12
     rw [if_neg hp13] at hm
     refine W.region ?_
     refine WL.op rfl (.load ty27 (.tmp rfl)) ?_
     refine WL.op rfl (.makeClo (Cs := [((tL tapi_Step).ptr p), (Bp b 0)]) (cap := [.tmp 3, .tmp 5]) ⟨(.tmp rfl), (.tmp rfl), trivial⟩) ?_
     obtain ⟨at0_1, hv14, hm⟩ := bind_some hm
     refine WL.weakR (res' := [(5, (Bx 1 false 25 (tO tapi_Unit (none : Tok) ([] : List api_Unit)) b)), (1000005, Dec.Own tapi_Unit 27 (none : Tok) ([] : List api_Unit).length)]) ⟨rfl, rfl, ⟨rfl, rfl, trivial⟩⟩ ?_
     refine WL.opR rfl (OpR.call (us := [5, 1000005]) (A := fun kx : Tok => (Asn.eq (.tuple #[]))) Tryd.call57 (FSpecR.keys (rin' := [(5, (Bx 1 false 25 (tO tapi_Unit (none : Tok) ([] : List api_Unit)) b)), (1000005, Dec.Own tapi_Unit 27 (none : Tok) ([] : List api_Unit).length)]) (out' := fun kx : Tok => [(5, (Bx 1 false 25 (tO tapi_Unit kx at0_1) b)), (1000005, Dec.Own tapi_Unit 27 kx at0_1.length)]) (address_each_i0_spec _ _ _ _ _ _ _ hv14) rfl (fun _ => rfl)) rfl ⟨(.tmp rfl), (.tmp rfl), trivial⟩) (fun k1 => ?_)
     refine WL.nil ?_
     refine WN.block ?_
     refine WN.boxV (A' := ((tL tapi_Unit).is at0_1)) 5 rfl (fun _ _ => tO_tL) ?_
     exact WN.meet at0_1 (Option.some.inj hm) ⟨Ent.q rfl, Ent.q rfl, trivial⟩ ⟨rfl, rfl, trivial⟩

theorem address_FindAll_spec (n : Nat) (u : api_Unit) (p : List api_Step) (r : (List api_Id)) (hm : M.address_FindAll n u p = some r) : FSpec Tryd.prog 18 [(tapi_Unit.is u), ((tL tapi_Step).is p)] ((tL tapi_Id).is r) := by
 unfold M.address_FindAll at hm
 refine FSpec.of Tryd.func18 rfl rfl rfl (fun g0 => ?_)
 refine W.sr ?_
 refine WL.op rfl (.box (.tmp rfl)) ?_
 refine WL.op rfl (.assign (.nil (t := tapi_Id))) ?_
 refine WL.nr ?_
 refine WL.addNil (t := tapi_Id) (E := 23) 5 ?_
 refine WL.op rfl (.assign (Opd.nilO (t := tapi_Id))) ?_
 refine WL.ns ?_
 refine W.seq ?_
 refine W.sr ?_
 refine WL.op rfl (.load ty27 (.tmp rfl)) ?_
 refine WL.mv rfl rfl ?_
 obtain ⟨found, hv1, hm⟩ := bind_some hm
 refine WL.op rfl (.call Tryd.call38 (address_found_spec _ _ _ _ hv1) ⟨(.tmp rfl), (.tmp rfl), trivial⟩) ?_
 refine WL.op rfl (.lenL Tryd.underlying25 (.tmp rfl)) ?_
 refine WL.op rfl (.move .i64) ?_
 refine WL.ns ?_
 refine W.block ?_
 obtain ⟨s2, hs3, hk4⟩ := bind_some hm
 clear hm
 refine W.loop (fun m (s : Int × List api_Unit × List api_Unit × (((List api_Id)) × Tok)) => m = s.2.2.1.length ∧ found = s.2.1 ++ s.2.2.1 ∧ s.1 = (s.2.1.length : Int) ∧ M.address_FindAll_loop1 s.2.2.1 s.2.2.2.1 = some s2) (fun s => [(12, ((tI .i64).is s.1)), (5, (tO tapi_Id s.2.2.2.2 s.2.2.2.1)), (10, ((tL tapi_Unit).is found)), (11, ((tI .i64).is (found.length : Int)))]) (fun s => [(5, Dec.Own tapi_Id 23 s.2.2.2.2 s.2.2.2.1.length)]) found.length ((0 : Int), [], found, (([] : List api_Id), (none : Tok))) ⟨rfl, rfl, rfl, hs3⟩ ⟨Ent.q rfl, Ent.q rfl, Ent.q rfl, Ent.q rfl, trivial⟩ ⟨rfl, rfl, trivial⟩ ?_
 rintro m ⟨i, pre, rest1, ⟨out, k⟩⟩ ⟨hn8, hxs5, hi6, hm⟩
 try dsimp only at hn8 hxs5 hi6 hm
 change W _ _ _ _ _ _ _ [(12, ((tI .i64).is i)), (5, (tO tapi_Id k out)), (10, ((tL tapi_Unit).is found)), (11, ((tI .i64).is (found.length : Int)))] [(5, Dec.Own tapi_Id 23 k out.length)]
 refine W.lenL (s := 10) (.tmp rfl) fun hlen7 => ?_
 refine W.sr ?_
 refine WL.op rfl (.ltI (.tmp rfl) (.tmp rfl)) ?_
 refine WL.ns ?_
 refine W.seq ?_
 refine W.cond (.tmp rfl) (fun hc10 => ?_) (fun hc10 => ?_)
 ·have hp11 := of_decide_eq_true hc10
  obtain ⟨e, es, hrest13⟩ := range_more hxs5 hi6 hp11
  subst hrest13
  rw [M.address_FindAll_loop1.eq_2] at hm
  refine W.skip ?_
  refine WN.seq ?_
  refine W.seq ?_
  refine W.block ?_
  refine W.sr ?_
  refine WL.op rfl (.idxPre hxs5 hi6 Tryd.underlying25 Tryd.sizeOf27 (.tmp rfl) (.tmp rfl)) ?_
  refine WL.op rfl (.load ty27 (.tmp rfl)) ?_
  refine WL.opR rfl (OpR.alloc 7 ze27) (fun b => ?_)
  refine WL.opU (OpR.storeB (b := b) 7 Tryd.sizeOf27 (Cellable.is tapi_Unit e) rfl (.tmp rfl) (.tmp rfl)) (fun _ => ?_)
  refine WL.sealed (t := tapi_Unit) (u := e) 7 7 rfl rfl ?_
  refine WL.nr1 ?_
  refine WL.mv rfl rfl ?_
  refine WL.op rfl (.fieldAddr Tryd.underlying27 rfl (fun w => ⟨2, Tryd.sizeOf23 w⟩) fapi_Unit_0 (.tmp rfl)) ?_
  refine WL.op rfl (.load ty23 (.tmp rfl)) ?_
  refine WL.op rfl (.buildSlice (n := 1) (ys := [(0, e.Id)]) (z := zapi_Id) (xs := [e.Id]) Tryd.underlying31 el23 ze23 ⟨rfl, (.tmp rfl), trivial⟩ (by simp) (by decide) rfl) ?_
  obtain ⟨out1, hv14, hm⟩ := bind_some hm
  refine WL.opR rfl (OpR.appC (key := 5) hv14 Tryd.underlying31 el23 (.tmp rfl) (.tmp rfl) rfl) (fun k1 => ?_)
  refine WL.gv rfl rfl ?_
  refine WL.nil ?_
  refine WN.block ?_
  refine WN.seq ?_
  refine W.region ?_
  refine WL.op rfl (.addI (.tmp rfl) .i64 (range_inR hi6 hp11 hlen7)) ?_
  refine WL.mv rfl rfl ?_
  refine WL.nil ?_
  exact WN.again es.length (i + 1, pre ++ [e], es, (out1, k1)) (range_lt hn8) ⟨rfl, range_step hxs5, range_idx hi6, hm⟩ ⟨Ent.q rfl, Ent.q rfl, Ent.q rfl, Ent.q rfl, trivial⟩ ⟨rfl, rfl, trivial⟩
 ·have hrest13 := range_end hxs5 hi6 (of_decide_eq_false hc10)
  subst hrest13
  rw [M.address_FindAll_loop1.eq_1] at hm
  refine W.exit rfl ?_
  have hr15 := Option.some.inj hm
  clear hm
  subst hr15
  have hm := hk4
  try dsimp only at hm
  refine WN.seq ?_
  refine W.sr ?_
  refine WL.mv rfl rfl ?_
  refine WL.gv rfl rfl ?_
  refine WL.ns ?_
  cases hm
  exact W.ret1 () rfl (Opd.own (.tmp rfl)) trivial

theorem address_FindOne_spec (n : Nat) (u : api_Unit) (p : List api_Step) (r : api_Id × Int) (hm : M.address_FindOne n u p = some r) : FSpec Tryd.prog 14 [(tapi_Unit.is u), ((tL tapi_Step).is p)] (Asn.tuple2 (tapi_Id.is r.1) ((tI .i64).is r.2)) := by
 unfold M.address_FindOne at hm
 refine FSpec.of Tryd.func14 rfl rfl rfl (fun g0 => ?_)
 refine W.sr ?_
 refine WL.op rfl (.box (.tmp rfl)) ?_
 refine WL.opR rfl (OpR.alloc 4 ze23) (fun b => ?_)
 refine WL.op rfl (.assign .i64) ?_
 refine WL.nr ?_
 refine WL.op rfl (.load ty27 (.tmp rfl)) ?_
 refine WL.mv rfl rfl ?_
 obtain ⟨findal, hv1, hm⟩ := bind_some hm
 refine WL.op rfl (.call Tryd.call18 (address_FindAll_spec _ _ _ _ hv1) ⟨(.tmp rfl), (.tmp rfl), trivial⟩) ?_
 refine WL.gv rfl rfl ?_
 refine WL.ns ?_
 refine W.seq ?_
 refine W.sr ?_
 refine WL.mv rfl rfl ?_
 refine WL.op rfl (.lenL Tryd.underlying31 (.tmp rfl)) ?_
 refine WL.ns ?_
 refine W.block ?_
 refine W.sr ?_
 refine WL.op rfl (.eqI (.tmp rfl) .i64) ?_
 refine WL.gv rfl rfl ?_
 refine WL.ns ?_
 refine W.cond (.tmp rfl) (fun hc2 => ?_) (fun hc2 => ?_)
 ·have hp3 := of_decide_eq_true hc2
  rw [if_pos hp3] at hm
  refine W.sr ?_
  refine WL.op rfl (.build (s := tapi_Id) (x := (⟨(0 : Int), (0 : Int), (0 : Int)⟩ : api_Id)) zapi_Id_f rfl Tryd.underlying23 (zapi_Id_sz _ Tryd.underlying23) ze23 rfl) ?_
  refine WL.opU (OpR.storeB (b := b) 4 Tryd.sizeOf23 (Cellable.is tapi_Id (⟨(0 : Int), (0 : Int), (0 : Int)⟩ : api_Id)) rfl (.tmp rfl) (.tmp rfl)) (fun _ => ?_)
  refine WL.op rfl (.assign .i64) ?_
  refine WL.ns ?_
  cases hm
  exact W.retQ2 () rfl rfl (ResAt.cell 4 Tryd.isAgg23 Tryd.sizeOf23 rfl (.tmp rfl)) (ResAt.tmp (.tmp rfl)) trivial
 ·have hp3 := of_decide_eq_false hc2
  rw [if_neg hp3] at hm
  refine W.sr ?_
  refine WL.op rfl (.eqI (.tmp rfl) .i64) ?_
  refine WL.gv rfl rfl ?_
  refine WL.ns ?_
  refine W.cond (.tmp rfl) (fun hc4 => ?_) (fun hc4 => ?_)
  ·have hp5 := of_decide_eq_true hc4
   rw [if_pos hp5] at hm
   refine W.sr ?_
   refine WL.mv rfl rfl ?_
   obtain ⟨v, hv6, hm⟩ := bind_some hm
   refine WL.op rfl (.idx hv6 Tryd.underlying31 Tryd.sizeOf23 (.tmp rfl) .i64) ?_
   refine WL.op rfl (.load ty23 (.tmp rfl)) ?_
   refine WL.opU (OpR.storeB (b := b) 4 Tryd.sizeOf23 (Cellable.is tapi_Id v) rfl (.tmp rfl) (.tmp rfl)) (fun _ => ?_)
   refine WL.op rfl (.assign .i64) ?_
   refine WL.ns ?_
   cases hm
   exact W.retQ2 () rfl rfl (ResAt.cell 4 Tryd.isAgg23 Tryd.sizeOf23 rfl (.tmp rfl)) (ResAt.tmp (.tmp rfl)) trivial
  ·have hp5 := of_decide_eq_false hc4
   rw [if_neg hp5] at hm
   refine W.skip ?_
   refine WN.block ?_
   refine WN.seq ?_
   refine W.sr ?_
   refine WL.op rfl (.build (s := tapi_Id) (x := (⟨(0 : Int), (0 : Int), (0 : Int)⟩ : api_Id)) zapi_Id_f rfl Tryd.underlying23 (zapi_Id_sz _ Tryd.underlying23) ze23 rfl) ?_
   refine WL.opU (OpR.storeB (b := b) 4 Tryd.sizeOf23 (Cellable.is tapi_Id (⟨(0 : Int), (0 : Int), (0 : Int)⟩ : api_Id)) rfl (.tmp rfl) (.tmp rfl)) (fun _ => ?_)
   refine WL.op rfl (.assign .i64) ?_
   refine WL.ns ?_
   cases hm
   exact W.retQ2 () rfl rfl (ResAt.cell 4 Tryd.isAgg23 Tryd.sizeOf23 rfl (.tmp rfl)) (ResAt.tmp (.tmp rfl)) trivial

theorem address_way_spec : ∀ (n : Nat) (u : api_Unit) (id : api_Id) (r : (List api_Step) × Bool), M.address_way n u id = some r → FSpec Tryd.prog 34 [(tapi_Unit.is u), (tapi_Id.is id)] (Asn.tuple2 ((tL tapi_Step).is r.1) (tB.is r.2)) := by
 intro n
 induction n with
 | zero => intro u id r hm; cases hm
 | succ n ih =>
  intro u id r hm
  rw [M.address_way.eq_2] at hm
  refine FSpec.of Tryd.func34 rfl rfl rfl (fun g0 => ?_)
  refine W.sr ?_
  refine WL.op rfl (.box (.tmp rfl)) ?_
  refine WL.op rfl (.box (.tmp rfl)) ?_
  refine WL.op rfl (.assign (.nil (t := tapi_Step))) ?_
  refine WL.op rfl (.assign .bool) ?_
  refine WL.ns ?_
  refine W.seq ?_
  refine W.sr ?_
  refine WL.op rfl (.fieldAddr Tryd.underlying27 rfl (fun w => ⟨2, Tryd.sizeOf23 w⟩) fapi_Unit_0 (.tmp rfl)) ?_
  refine WL.op rfl (.load ty23 (.tmp rfl)) ?_
  refine WL.op rfl (.load ty23 (.tmp rfl)) ?_
  refine WL.op rfl (.eqSt (D := 2) rfl (by decide) eg23 eq23 (.tmp rfl) (.tmp rfl)) ?_
  refine WL.ns ?_
  refine W.cond (.tmp rfl) (fun hc1 => ?_) (fun hc1 => ?_)
  ·have hp2 := of_decide_eq_true hc1
   rw [if_pos hp2] at hm
   refine W.sr ?_
   refine WL.op rfl (.assign (.nil (t := tapi_Step))) ?_
   refine WL.op rfl (.assign .bool) ?_
   refine WL.ns ?_
   cases hm
   exact W.ret2 () rfl rfl (.tmp rfl) (.tmp rfl) trivial
  ·have hp2 := of_decide_eq_false hc1
   rw [if_neg hp2] at hm
   refine W.skip ?_
   refine WN.seq ?_
   refine W.seq ?_
   refine W.sr ?_
   refine WL.op rfl (.fieldAddr Tryd.underlying27 rfl (fun w => ⟨0, Tryd.sizeOf25 w⟩) fapi_Unit_5 (.tmp rfl)) ?_
   refine WL.op rfl (.load ty25 (.tmp rfl)) ?_
   refine WL.op rfl (.lenL Tryd.underlying25 (.tmp rfl)) ?_
   refine WL.op rfl (.move .i64) ?_
   refine WL.ns ?_
   refine W.block ?_
   obtain ⟨s3, hs4, hk5⟩ := bind_some hm
   clear hm
   refine W.loop (fun m (s : Int × List api_Unit × List api_Unit × Unit) => m = s.2.2.1.length ∧ u.Kids = s.2.1 ++ s.2.2.1 ∧ s.1 = (s.2.1.length : Int) ∧ M.address_way_loop1 id (M.address_way n) s.2.2.1 = some s3) (fun s => [(17, ((tI .i64).is s.1)), (3, (tapi_Id.ptr id)), (15, ((tL tapi_Unit).is u.Kids)), (16, ((tI .i64).is (u.Kids.length : Int)))]) (fun s => []) u.Kids.length ((0 : Int), [], u.Kids, ()) ⟨rfl, rfl, rfl, hs4⟩ ⟨Ent.q rfl, Ent.q rfl, Ent.q rfl, Ent.q rfl, trivial⟩ trivial ?_
   rintro m ⟨i, pre, rest1, _⟩ ⟨hn9, hxs6, hi7, hm⟩
   try dsimp only at hn9 hxs6 hi7 hm
   change W _ _ _ _ _ _ _ [(17, ((tI .i64).is i)), (3, (tapi_Id.ptr id)), (15, ((tL tapi_Unit).is u.Kids)), (16, ((tI .i64).is (u.Kids.length : Int)))] []
   refine W.lenL (s := 15) (.tmp rfl) fun hlen8 => ?_
   refine W.sr ?_
   refine WL.op rfl (.ltI (.tmp rfl) (.tmp rfl)) ?_
   refine WL.ns ?_
   refine W.seq ?_
   refine W.cond (.tmp rfl) (fun hc11 => ?_) (fun hc11 => ?_)
   ·have hp12 := of_decide_eq_true hc11
    obtain ⟨e, es, hrest14⟩ := range_more hxs6 hi7 hp12
    subst hrest14
    rw [M.address_way_loop1.eq_2] at hm
    refine W.skip ?_
    refine WN.seq ?_
    refine W.seq ?_
    refine W.block ?_
    refine W.sr ?_
    refine WL.op rfl (.idxPre hxs6 hi7 Tryd.underlying25 Tryd.sizeOf27 (.tmp rfl) (.tmp rfl)) ?_
    refine WL.op rfl (.load ty27 (.tmp rfl)) ?_
    refine WL.opR rfl (OpR.alloc 7 ze27) (fun b => ?_)
    refine WL.opU (OpR.storeB (b := b) 7 Tryd.sizeOf27 (Cellable.is tapi_Unit e) rfl (.tmp rfl) (.tmp rfl)) (fun _ => ?_)
    refine WL.sealed (t := tapi_Unit) (u := e) 7 7 rfl rfl ?_
    refine WL.nr ?_
    refine WL.op rfl (.load ty27 (.tmp rfl)) ?_
    refine WL.op rfl (.load ty23 (.tmp rfl)) ?_
    obtain ⟨way, hv15, hm⟩ := bind_some hm
    refine WL.op rfl (.call Tryd.call34 (ih _ _ _ hv15) ⟨(.tmp rfl), (.tmp rfl), trivial⟩) ?_
    refine WL.mv rfl rfl ?_
    refine WL.op rfl (.extract0 (.tmp rfl)) ?_
    refine WL.op rfl (.extract1 (.tmp rfl)) ?_
    refine WL.gv rfl rfl ?_
    refine WL.gv rfl rfl ?_
    refine WL.nr ?_
    refine WL.mv rfl rfl ?_
    refine WL.ns ?_
    refine W.cond (.tmp rfl) (fun hc16 => ?_) (fun hc16 => ?_)
    ·have hp17 := hc16
     rw [if_pos hp17] at hm
     refine W.sr ?_
     refine WL.op rfl (.fieldAddr Tryd.underlying27 rfl (fun w => ⟨0, Tryd.sizeOf3 w⟩) fapi_Unit_1 (.tmp rfl)) ?_
     refine WL.op rfl (.load ty3 (.tmp rfl)) ?_
     refine WL.op rfl (.fieldAddr Tryd.underlying27 rfl (fun w => ⟨0, Tryd.sizeOf9 w⟩) fapi_Unit_2 (.tmp rfl)) ?_
     refine WL.op rfl (.load ty9 (.tmp rfl)) ?_
     refine WL.op rfl (.build (s := tapi_Step) (x := (⟨e.Kind, e.Label⟩ : api_Step)) zapi_Step_f rfl Tryd.underlying41 (zapi_Step_sz _ Tryd.underlying41) ze41 ⟨_, (tI .i64), e.Kind, _, _, rfl, Tryd.sizeOf3, (.tmp rfl), sapi_Step_0, ⟨_, tS, e.Label, _, _, rfl, Tryd.sizeOf9, (.tmp rfl), sapi_Step_1, rfl⟩⟩) ?_
     refine WL.opR rfl (OpR.buildSlice (n := 1) (ys := [(0, (⟨e.Kind, e.Label⟩ : api_Step))]) (z := zapi_Step) (xs := [(⟨e.Kind, e.Label⟩ : api_Step)]) 33 Tryd.underlying33 el41 ze41 ⟨rfl, (.tmp rfl), trivial⟩ (by simp) (by decide) rfl) (fun k => ?_)
     refine WL.mv rfl rfl ?_
     obtain ⟨out, hv18, hm⟩ := bind_some hm
     refine WL.opR rfl (OpR.appC (key := 33) hv18 Tryd.underlying33 el41 (.tmp rfl) (.tmp rfl) rfl) (fun k1 => ?_)
     refine WL.gv rfl rfl ?_
     refine WL.op rfl (.assign .bool) ?_
     refine WL.ns ?_
     have hr19 := Option.some.inj hm
     clear hm
     subst hr19
     have hm := hk5
     try dsimp only at hm
     cases hm
     exact W.ret2 () rfl rfl (Opd.own (.tmp rfl)) (.tmp rfl) trivial
    ·have hp17 := ne_of_false hc16
     rw [if_neg hp17] at hm
     refine W.skip ?_
     refine WN.block ?_
     refine WN.seq ?_
     refine W.region ?_
     refine WL.op rfl (.addI (.tmp rfl) .i64 (range_inR hi7 hp12 hlen8)) ?_
     refine WL.mv rfl rfl ?_
     refine WL.nil ?_
     exact WN.again es.length (i + 1, pre ++ [e], es, ()) (range_lt hn9) ⟨rfl, range_step hxs6, range_idx hi7, hm⟩ ⟨Ent.q rfl, Ent.q rfl, Ent.q rfl, Ent.q rfl, trivial⟩ trivial
   ·have hrest14 := range_end hxs6 hi7 (of_decide_eq_false hc11)
    subst hrest14
    rw [M.address_way_loop1.eq_1] at hm
    refine W.exit rfl ?_
    have hr20 := Option.some.inj hm
    clear hm
    subst hr20
    have hm := hk5
    try dsimp only at hm
    refine WN.seq ?_
    refine W.sr ?_
    refine WL.op rfl (.assign (.nil (t := tapi_Step))) ?_
    refine WL.op rfl (.assign .bool) ?_
    refine WL.ns ?_
    cases hm
    exact W.ret2 () rfl rfl (.tmp rfl) (.tmp rfl) trivial

theorem address_Full_spec (n : Nat) (u : api_Unit) (id : api_Id) (r : (List api_Step) × Bool) (hm : M.address_Full n u id = some r) : FSpec Tryd.prog 12 [(tapi_Unit.is u), (tapi_Id.is id)] (Asn.tuple2 ((tL tapi_Step).is r.1) (tB.is r.2)) := by
 unfold M.address_Full at hm
 refine FSpec.of Tryd.func12 rfl rfl rfl (fun g0 => ?_)
 refine W.sr ?_
 refine WL.op rfl (.box (.tmp rfl)) ?_
 refine WL.op rfl (.box (.tmp rfl)) ?_
 refine WL.op rfl (.assign (.nil (t := tapi_Step))) ?_
 refine WL.op rfl (.assign .bool) ?_
 refine WL.nr ?_
 refine WL.op rfl (.load ty27 (.tmp rfl)) ?_
 refine WL.op rfl (.load ty23 (.tmp rfl)) ?_
 obtain ⟨way, hv1, hm⟩ := bind_some hm
 refine WL.op rfl (.call Tryd.call34 (address_way_spec _ _ _ _ hv1) ⟨(.tmp rfl), (.tmp rfl), trivial⟩) ?_
 refine WL.mv rfl rfl ?_
 refine WL.op rfl (.extract0 (.tmp rfl)) ?_
 refine WL.op rfl (.extract1 (.tmp rfl)) ?_
 refine WL.gv rfl rfl ?_
 refine WL.gv rfl rfl ?_
 refine WL.ns ?_
 refine W.seq ?_
 refine W.sr ?_
 refine WL.mv rfl rfl ?_
 refine WL.op rfl (.notB (.tmp rfl)) ?_
 refine WL.ns ?_
 refine W.cond (.tmp rfl) (fun hc2 => ?_) (fun hc2 => ?_)
 ·have hp3 := not_pos hc2
  rw [if_pos hp3] at hm
  refine W.sr ?_
  refine WL.op rfl (.assign (.nil (t := tapi_Step))) ?_
  refine WL.op rfl (.assign .bool) ?_
  refine WL.ns ?_
  cases hm
  exact W.ret2 () rfl rfl (.tmp rfl) (.tmp rfl) trivial
 ·have hp3 := not_neg hc2
  rw [if_neg hp3] at hm
  refine W.skip ?_
  refine WN.seq ?_
  refine W.sr ?_
  refine WL.op rfl (.build (s := tapi_Step) (x := (⟨(0 : Int), ([] : Str)⟩ : api_Step)) zapi_Step_f rfl Tryd.underlying41 (zapi_Step_sz _ Tryd.underlying41) ze41 ⟨_, (tI .i64), (0 : Int), _, _, rfl, Tryd.sizeOf3, .i64, sapi_Step_0, rfl⟩) ?_
  refine WL.opR rfl (OpR.buildSlice (n := 1) (ys := [(0, (⟨(0 : Int), ([] : Str)⟩ : api_Step))]) (z := zapi_Step) (xs := [(⟨(0 : Int), ([] : Str)⟩ : api_Step)]) 17 Tryd.underlying33 el41 ze41 ⟨rfl, (.tmp rfl), trivial⟩ (by simp) (by decide) rfl) (fun k => ?_)
  refine WL.mv rfl rfl ?_
  obtain ⟨out, hv4, hm⟩ := bind_some hm
  refine WL.opR rfl (OpR.appC (key := 17) hv4 Tryd.underlying33 el41 (.tmp rfl) (.tmp rfl) rfl) (fun k1 => ?_)
  refine WL.gv rfl rfl ?_
  refine WL.op rfl (.assign .bool) ?_
  refine WL.ns ?_
  cases hm
  exact W.ret2 () rfl rfl (Opd.own (.tmp rfl)) (.tmp rfl) trivial

theorem slices_Clone_api_Step_api_Step_spec (l : List api_Step) (r : List api_Step) (hm : M.slices_Clone_api_Step_api_Step l = some r) : FSpecR Tryd.prog 35 [(tL tapi_Step).is l] [] (fun k : Tok => tO tapi_Step k r) (fun k => [(5, Dec.Own tapi_Step 41 k r.length)]) := by
 unfold M.slices_Clone_api_Step_api_Step at hm
 refine FSpecR.of Tryd.func35 rfl rfl rfl (fun g0 => ?_)
 refine W.seq ?_
 refine W.region ?_
 refine WL.op rfl (.assign (.nil (t := tapi_Step))) ?_
 refine WL.nil ?_
 refine WN.seq ?_
 refine W.seq ?_
 refine W.seq ?_
 refine W.region ?_
 refine WL.op rfl (.move (.tmp rfl)) ?_
 refine WL.opR rfl (OpR.eqNil Tryd.underlying33 (.tmp rfl)) (fun b => ?_)
 refine WL.nil ?_
 refine WN.seq ?_
 refine W.cond (.tmp rfl) (fun hc => ?_) (fun hc => ?_)
 ·have hl := b.2 hc
  subst hl
  have hr : [] = r := by simpa [appC] using hm
  subst hr
  refine W.seq ?_
  refine W.region ?_
  refine WL.addNil (t := tapi_Step) (E := 41) 5 ?_
  refine WL.op rfl (.assign (Opd.nilO (t := tapi_Step))) ?_
  refine WL.nil ?_
  refine WN.seq ?_
  exact W.ret1 (none : Tok) rfl (.tmp rfl) ⟨rfl, rfl, trivial⟩
 ·refine W.skip ?_
  refine WN.seq ?_
  refine W.seq ?_
  refine W.region ?_
  refine WL.opR rfl (OpR.buildSlice (n := 0) (ys := []) (z := zapi_Step) (xs := []) 5 Tryd.underlying33 el41 ze41 trivial (by simp) (by decide) rfl) (fun k5 => ?_)
  refine WL.op rfl (.move (.tmp rfl)) ?_
  refine WL.opR rfl (OpR.appC (key := 5) hm Tryd.underlying33 el41 (.tmp rfl) (.tmp rfl) rfl) (fun k7 => ?_)
  refine WL.op rfl (.assign (.tmp rfl)) ?_
  refine WL.nil ?_
  refine WN.seq ?_
  exact W.ret1 k7 rfl (.tmp rfl) ⟨rfl, rfl, trivial⟩

theorem address_Shortest_spec (n : Nat) (u : api_Unit) (id : api_Id) (r : (List api_Step) × Bool) (hm : M.address_Shortest n u id = some r) : FSpec Tryd.prog 13 [(tapi_Unit.is u), (tapi_Id.is id)] (Asn.tuple2 ((tL tapi_Step).is r.1) (tB.is r.2)) := by
 unfold M.address_Shortest at hm
 refine FSpec.of Tryd.func13 rfl rfl rfl (fun g0 => ?_)
 refine W.sr ?_
 refine WL.op rfl (.box (.tmp rfl)) ?_
 refine WL.op rfl (.box (.tmp rfl)) ?_
 refine WL.op rfl (.assign (.nil (t := tapi_Step))) ?_
 refine WL.op rfl (.assign .bool) ?_
 refine WL.nr ?_
 refine WL.op rfl (.load ty27 (.tmp rfl)) ?_
 refine WL.op rfl (.load ty23 (.tmp rfl)) ?_
 obtain ⟨full, hv1, hm⟩ := bind_some hm
 refine WL.op rfl (.call Tryd.call12 (address_Full_spec _ _ _ _ hv1) ⟨(.tmp rfl), (.tmp rfl), trivial⟩) ?_
 refine WL.mv rfl rfl ?_
 refine WL.op rfl (.extract0 (.tmp rfl)) ?_
 refine WL.op rfl (.extract1 (.tmp rfl)) ?_
 refine WL.gv rfl rfl ?_
 refine WL.gv rfl rfl ?_
 refine WL.ns ?_
 refine W.seq ?_
 refine W.sr ?_
 refine WL.op rfl (.assign .i64) ?_
 refine WL.ns ?_
 refine W.block ?_
 obtain ⟨s2, hs3, hk4⟩ := bind_some hm
 clear hm
 refine W.loop (fun m (s : Int) => M.address_Shortest_loop1 u id full m s = some s2) (fun s => [(8, ((tI .i64).is s)), (2, (tapi_Unit.ptr u)), (3, (tapi_Id.ptr id)), (6, ((tL tapi_Step).is full.1)), (7, (tB.is full.2))]) (fun s => []) _ (1 : Int) hs3 ⟨Ent.q rfl, Ent.q rfl, Ent.q rfl, Ent.q rfl, Ent.q rfl, trivial⟩ trivial ?_
 rintro n5 n0_ hm
 try dsimp only at hm
 change W _ _ _ _ _ _ _ [(8, ((tI .i64).is n0_)), (2, (tapi_Unit.ptr u)), (3, (tapi_Id.ptr id)), (6, ((tL tapi_Step).is full.1)), (7, (tB.is full.2))] []
 cases n5 with
 | zero => rw [M.address_Shortest_loop1.eq_1] at hm; cases hm
 | succ n5 =>
  rw [M.address_Shortest_loop1.eq_2] at hm
  refine W.seq ?_
  refine W.sr ?_
  refine WL.mv rfl rfl ?_
  refine WL.mv rfl rfl ?_
  refine WL.op rfl (.lenL Tryd.underlying33 (.tmp rfl)) ?_
  refine WL.op rfl (.ltI (.tmp rfl) (.tmp rfl)) ?_
  refine WL.ns ?_
  refine W.cond (.tmp rfl) (fun hc6 => ?_) (fun hc6 => ?_)
  ·have hp7 := of_decide_eq_true hc6
   rw [if_pos hp7] at hm
   refine W.skip ?_
   refine WN.seq ?_
   refine W.seq ?_
   refine W.block ?_
   refine W.sr ?_
   refine WL.mv rfl rfl ?_
   refine WL.mv rfl rfl ?_
   refine WL.op rfl (.lenL Tryd.underlying33 (.tmp rfl)) ?_
   refine WL.mv rfl rfl ?_
   obtain ⟨v, hv8, hm⟩ := bind_some hm
   refine WL.op rfl (.subC hv8 (.tmp rfl) (.tmp rfl)) ?_
   obtain ⟨v1, hv9, hm⟩ := bind_some hm
   refine WL.op rfl (.slcLo hv9 Tryd.underlying33 Tryd.sizeOf41 (.tmp rfl) (.tmp rfl)) ?_
   refine WL.gv rfl rfl ?_
   refine WL.nr ?_
   refine WL.op rfl (.load ty27 (.tmp rfl)) ?_
   refine WL.mv rfl rfl ?_
   obtain ⟨findal, hv10, hm⟩ := bind_some hm
   refine WL.op rfl (.call Tryd.call18 (address_FindAll_spec _ _ _ _ hv10) ⟨(.tmp rfl), (.tmp rfl), trivial⟩) ?_
   refine WL.gv rfl rfl ?_
   refine WL.ns ?_
   refine W.seq ?_
   rcases bcases (decide ((findal.length : Int) = (1 : Int))) with hb11 | hb11
   ·have hp12 := of_decide_eq_true hb11
    rw [if_pos hp12] at hm
    obtain ⟨v2, hv13, hm⟩ := bind_some hm
    refine W.draw [.c ((tL tapi_Id).is findal), .c ((tI .i64).is (findal.length : Int)), .c (tB.is (decide ((findal.length : Int) = (1 : Int)))), .c (tB.is (decide ((findal.length : Int) = (1 : Int)))), .c ((tL tapi_Id).is findal), .c (tapi_Id.ptr v2), .c (tapi_Id.is v2), .c (tapi_Id.is id), .c (tB.is (decide (v2 = id))), .c (tB.is (decide (v2 = id)))] [([], [10]), ([0], []), ([1], []), ([2], []), ([3], [10]), ([3, 4], []), ([3, 5], []), ([3], [3]), ([3, 6, 7], []), ([3, 8], [])] Tryd.mixed rfl rfl rfl rfl ⟨.inr (Op1.move (.tmp rfl)), .inr (Op1.lenL Tryd.underlying31 (.tmp rfl)), .inr (Op1.eqI (.tmp rfl) .i64), .inr (Op1.move (.tmp rfl)), .inr (dr rfl rfl rfl hb11 (Op1.move (.tmp rfl))), .inr (dr rfl rfl rfl hb11 (Op1.idx hv13 Tryd.underlying31 Tryd.sizeOf23 (.tmp rfl) .i64)), .inr (dr rfl rfl rfl hb11 (Op1.load ty23 (.tmp rfl))), .inr (dr rfl rfl rfl hb11 (Op1.load ty23 (.tmp rfl))), .inr (dr rfl rfl rfl hb11 (Op1.eqSt (D := 2) rfl (by decide) eg23 eq23 (.tmp rfl) (.tmp rfl))), .inr (Op1.pickT (.tmp rfl) hb11 (.tmp rfl)), trivial⟩ ?_
    refine WN.seq ?_
    refine W.cond (.tmp rfl) (fun hc14 => ?_) (fun hc14 => ?_)
    ·have hp15 := of_decide_eq_true hc14
     rw [if_pos hp15] at hm
     refine W.sr ?_
     refine WL.mv rfl rfl ?_
     obtain ⟨step, hv16, hm⟩ := bind_some hm
     refine WL.op rfl (.call Tryd.call35 ((slices_Clone_api_Step_api_Step_spec _ _ hv16).read fun _ _ _ => tO_tL) ⟨(.tmp rfl), trivial⟩) ?_
     refine WL.gv rfl rfl ?_
     refine WL.op rfl (.assign .bool) ?_
     refine WL.ns ?_
     have hr17 := Option.some.inj hm
     clear hm
     subst hr17
     have hm := hk4
     try dsimp only at hm
     cases hm
     exact W.ret2 () rfl rfl (.tmp rfl) (.tmp rfl) trivial
    ·have hp15 := of_decide_eq_false hc14
     rw [if_neg hp15] at hm
     refine W.skip ?_
     refine WN.block ?_
     refine WN.seq ?_
     refine W.region ?_
     refine WL.mv rfl rfl ?_
     refine WL.lenL (s := 6) (.tmp rfl) fun hl18 => ?_
     refine WL.op rfl (.addI1 (.tmp rfl) .i64 hp7 hl18) ?_
     refine WL.gv rfl rfl ?_
     refine WL.nil ?_
     exact WN.again n5 (n0_ + 1) (Nat.lt_succ_self n5) hm ⟨Ent.q rfl, Ent.q rfl, Ent.q rfl, Ent.q rfl, Ent.q rfl, trivial⟩ trivial
   ·have hp12 := of_decide_eq_false hb11
    rw [if_neg hp12] at hm
    refine W.draw [.c ((tL tapi_Id).is findal), .c ((tI .i64).is (findal.length : Int)), .c (tB.is (decide ((findal.length : Int) = (1 : Int)))), .c (tB.is (decide ((findal.length : Int) = (1 : Int)))), .c (Asn.eq undef), .c (Asn.eq undef), .c (Asn.eq undef), .c (Asn.eq undef), .c (Asn.eq undef), .c (tB.is false)] [([], [10]), ([0], []), ([1], []), ([2], []), ([3], [10]), ([3, 4], []), ([3, 5], []), ([3], [3]), ([3, 6, 7], []), ([3, 8], [])] Tryd.mixed rfl rfl rfl rfl ⟨.inr (Op1.move (.tmp rfl)), .inr (Op1.lenL Tryd.underlying31 (.tmp rfl)), .inr (Op1.eqI (.tmp rfl) .i64), .inr (Op1.move (.tmp rfl)), .inr (dp rfl rfl rfl hb11), .inr (dp rfl rfl rfl hb11), .inr (dp rfl rfl rfl hb11), .inr (dp rfl rfl rfl hb11), .inr (dp rfl rfl rfl hb11), .inr (Op1.pickF (.tmp rfl) hb11 .bool), trivial⟩ ?_
    refine WN.seq ?_
    refine W.condF (.tmp rfl) ?_
    refine W.skip ?_
    refine WN.block ?_
    refine WN.seq ?_
    refine W.region ?_
    refine WL.mv rfl rfl ?_
    refine WL.lenL (s := 6) (.tmp rfl) fun hl19 => ?_
    refine WL.op rfl (.addI1 (.tmp rfl) .i64 hp7 hl19) ?_
    refine WL.gv rfl rfl ?_
    refine WL.nil ?_
    exact WN.again n5 (n0_ + 1) (Nat.lt_succ_self n5) hm ⟨Ent.q rfl, Ent.q rfl, Ent.q rfl, Ent.q rfl, Ent.q rfl, trivial⟩ trivial
  ·have hp7 := of_decide_eq_false hc6
   rw [if_neg hp7] at hm
   refine W.exit rfl ?_
   have hr20 := Option.some.inj hm
   clear hm
   subst hr20
   have hm := hk4
   try dsimp only at hm
   refine WN.seq ?_
   refine W.sr ?_
   refine WL.mv rfl rfl ?_
   refine WL.mv rfl rfl ?_
   refine WL.gv rfl rfl ?_
   refine WL.gv rfl rfl ?_
   refine WL.ns ?_
   cases hm
   exact W.ret2 () rfl rfl (.tmp rfl) (.tmp rfl) trivial

theorem address_name_spec (kind : Int) (r : Str × Bool) (hm : M.address_name kind = some r) : FSpec Tryd.prog 41 [((tI .i64).is kind)] (Asn.tuple2 (tS.is r.1) (tB.is r.2)) := by
 unfold M.address_name at hm
 refine FSpec.of Tryd.func41 rfl rfl rfl (fun g0 => ?_)
 refine W.sr ?_
 refine WL.op rfl (.assign (.str rfl (by decide))) ?_
 refine WL.op rfl (.assign .bool) ?_
 refine WL.nr ?_
 refine WL.op rfl (.buildA (ys := [(0, ([98, 111, 111, 107] : Str)), (1, ([112, 97, 114, 116] : Str)), (2, ([115, 101, 99, 116, 105, 111, 110] : Str)), (3, ([112, 97, 114, 97, 103, 114, 97, 112, 104] : Str)), (4, ([116, 97, 98, 108, 101] : Str)), (5, ([114, 111, 119] : Str)), (6, ([99, 101, 108, 108] : Str)), (7, ([110, 111, 116, 101] : Str))]) (z := ([] : Str)) (xs := [([98, 111, 111, 107] : Str), ([112, 97, 114, 116] : Str), ([115, 101, 99, 116, 105, 111, 110] : Str), ([112, 97, 114, 97, 103, 114, 97, 112, 104] : Str), ([116, 97, 98, 108, 101] : Str), ([114, 111, 119] : Str), ([99, 101, 108, 108] : Str), ([110, 111, 116, 101] : Str)]) Tryd.underlying93 Tryd.sizeOf9 ze93 ⟨rfl, (.str rfl (by decide)), rfl, (.str rfl (by decide)), rfl, (.str rfl (by decide)), rfl, (.str rfl (by decide)), rfl, (.str rfl (by decide)), rfl, (.str rfl (by decide)), rfl, (.str rfl (by decide)), rfl, (.str rfl (by decide)), trivial⟩ (by simp) rfl) ?_
 refine WL.opR rfl (OpR.alloc 4 ze93) (fun b => ?_)
 refine WL.opU (OpR.storeB (b := b) 4 Tryd.sizeOf93 (Cellable.is (tA 8 tS) ([([98, 111, 111, 107] : Str), ([112, 97, 114, 116] : Str), ([115, 101, 99, 116, 105, 111, 110] : Str), ([112, 97, 114, 97, 103, 114, 97, 112, 104] : Str), ([116, 97, 98, 108, 101] : Str), ([114, 111, 119] : Str), ([99, 101, 108, 108] : Str), ([110, 111, 116, 101] : Str)])) rfl (.tmp rfl) (.tmp rfl)) (fun _ => ?_)
 refine WL.sealed (t := (tA 8 tS)) (u := ([([98, 111, 111, 107] : Str), ([112, 97, 114, 116] : Str), ([115, 101, 99, 116, 105, 111, 110] : Str), ([112, 97, 114, 97, 103, 114, 97, 112, 104] : Str), ([116, 97, 98, 108, 101] : Str), ([114, 111, 119] : Str), ([99, 101, 108, 108] : Str), ([110, 111, 116, 101] : Str)])) 4 4 rfl rfl ?_
 refine WL.ns ?_
 refine W.seq ?_
 refine W.sr ?_
 refine WL.mv rfl rfl ?_
 refine WL.op rfl (.ltI (.tmp rfl) .i64) ?_
 refine WL.mv rfl rfl ?_
 rcases bcases (decide (kind < (0 : Int))) with hb1 | hb1
 ·have hp2 := of_decide_eq_true hb1
  rw [if_pos hp2] at hm
  iterate 2 refine WL.pass rfl rfl rfl rfl hb1 rfl rfl ?_
  refine WL.op rfl (.pickT (.tmp rfl) hb1 .bool) ?_
  refine WL.ns ?_
  refine W.condT (.tmp rfl) ?_
  refine W.sr ?_
  refine WL.op rfl (.assign (.str rfl (by decide))) ?_
  refine WL.op rfl (.assign .bool) ?_
  refine WL.ns ?_
  cases hm
  exact W.ret2 () rfl rfl (.tmp rfl) (.tmp rfl) trivial
 ·have hp2 := of_decide_eq_false hb1
  rw [if_neg hp2] at hm
  refine WL.run rfl rfl rfl rfl hb1 rfl rfl (Op1.move (.tmp rfl)) ?_
  refine WL.run rfl rfl rfl rfl hb1 rfl rfl (Op1.geI (.tmp rfl) .i64) ?_
  refine WL.op rfl (.pickF (.tmp rfl) hb1 (.tmp rfl)) ?_
  refine WL.ns ?_
  refine W.cond (.tmp rfl) (fun hc3 => ?_) (fun hc3 => ?_)
  ·have hp4 := of_decide_eq_true hc3
   rw [if_pos hp4] at hm
   refine W.sr ?_
   refine WL.op rfl (.assign (.str rfl (by decide))) ?_
   refine WL.op rfl (.assign .bool) ?_
   refine WL.ns ?_
   cases hm
   exact W.ret2 () rfl rfl (.tmp rfl) (.tmp rfl) trivial
  ·have hp4 := of_decide_eq_false hc3
   rw [if_neg hp4] at hm
   refine W.skip ?_
   refine WN.seq ?_
   refine W.sr ?_
   refine WL.mv rfl rfl ?_
   obtain ⟨v, hv5, hm⟩ := bind_some hm
   refine WL.op rfl (.idxA hv5 Tryd.underlying93 Tryd.sizeOf9 (.tmp rfl) (.tmp rfl)) ?_
   refine WL.op rfl (.load ty9 (.tmp rfl)) ?_
   refine WL.gv rfl rfl ?_
   refine WL.op rfl (.assign .bool) ?_
   refine WL.ns ?_
   cases hm
   exact W.ret2 () rfl rfl (.tmp rfl) (.tmp rfl) trivial

theorem strings_Builder_Grow_spec (n : Int) (b : Nat) {u : Unit} (hm : growC n = some u) : FSpecR Tryd.prog 61 [Bp b 0, (tI .i64).is n] [(0, Bx 2 true 97 (bldA none [] b) b), (1, Dec.Own (tI .u8) 5 none 0)] (fun _ : Tok => Asn.eq (.tuple #[])) (fun k => [(0, Bx 2 true 97 (bldA k [] b) b), (1, Dec.Own (tI .u8) 5 k 0)]) :=
 FSpecR.bldGrow bld_used bld_fresh bld_Grow 0 1 n b hm

theorem strings_Builder_WriteString_spec (l m r : Str) (k : Tok) (b : Nat) (hm : appC l m = some r) : FSpecR Tryd.prog 62 [Bp b 0, tS.is m] [(0, Bx 2 true 97 (bldA k l b) b), (1, Dec.Own (tI .u8) 5 k l.length)] (fun _ : Tok => Asn.any) (fun kx => [(0, Bx 2 true 97 (bldA kx r b) b), (1, Dec.Own (tI .u8) 5 kx r.length)]) := by
 refine FSpecR.of Tryd.func62 rfl rfl rfl (fun g0 => ?_)
 refine W.sr ?_
 refine WL.op rfl (.assign Opd.const) ?_
 refine WL.op rfl (.assign Opd.const) ?_
 refine WL.nr ?_
 refine WL.mv rfl rfl ?_
 refine WL.opR rfl (OpR.call (us := [0]) Tryd.call70 (FSpecR.bldCheck bld_used bld_fresh 0 k l b) rfl ⟨(.tmp rfl), trivial⟩) (fun _ => ?_)
 refine WL.nr ?_
 refine WL.mv rfl rfl ?_
 refine WL.mv rfl rfl ?_
 refine WL.op rfl (.nilCheckB (.tmp rfl)) ?_
 refine WL.op rfl (.fieldAddrB (o := 0) Tryd.underlying97 rfl (fun w => ⟨0, Tryd.sizeOf95 w⟩) (.tmp rfl) rfl) ?_
 refine WL.op rfl (.loadBld 0 Tryd.isAgg95 Tryd.sizeOf95 rfl (.tmp rfl)) ?_
 refine WL.mv rfl rfl ?_
 refine WL.opR rfl (OpR.appendS (key := 1) hm Tryd.underlying95 Tryd.underlying9 el5 (.tmp rfl) (.tmp rfl) rfl) (fun k2 => ?_)
 refine WL.op rfl (.nilCheckB (.tmp rfl)) ?_
 refine WL.op rfl (.fieldAddrB (o := 0) Tryd.underlying97 rfl (fun w => ⟨0, Tryd.sizeOf95 w⟩) (.tmp rfl) rfl) ?_
 refine WL.opU (OpR.storeBld (b := b) 0 Tryd.sizeOf95 rfl (.tmp rfl) (.tmp rfl)) (fun _ => ?_)
 refine WL.nr ?_
 refine WL.mv rfl rfl ?_
 refine WL.op rfl (.lenS Tryd.underlying9 (.tmp rfl)) ?_
 refine WL.gv rfl rfl ?_
 refine WL.op rfl (.assign Opd.const) ?_
 refine WL.nil ?_
 refine WN.seq ?_
 refine W.boxV (A' := bldA k2 r b) 0 rfl (fun _ _ => bldU_A) ?_
 exact W.retAny2 k2 rfl rfl ⟨rfl, rfl, rfl, rfl, trivial⟩

theorem strings_Builder_String_spec (k : Tok) (l : Str) (b : Nat) : FSpecR Tryd.prog 63 [Bp b 0] [(0, Bx 2 true 97 (bldA k l b) b), (1, Dec.Own (tI .u8) 5 k l.length)] (fun _ : Unit => tS.is l) (fun _ => []) :=
 FSpecR.bldString Tryd.underlying110 (by kernel_rfl) bld_str 0 1 k l b

theorem strings_Join_spec (elems : List Str) (sep : Str) (r : Str) (hm : M.strings_Join elems sep = some r) : FSpec Tryd.prog 42 [((tL tS).is elems), (tS.is sep)] (tS.is r) := by
 unfold M.strings_Join at hm
 refine FSpec.of Tryd.func42 rfl rfl rfl (fun g0 => ?_)
 refine W.sr ?_
 refine WL.op rfl (.assign (.str rfl (by decide))) ?_
 refine WL.ns ?_
 refine W.seq ?_
 refine W.sr ?_
 refine WL.mv rfl rfl ?_
 refine WL.op rfl (.lenL Tryd.underlying65 (.tmp rfl)) ?_
 refine WL.ns ?_
 refine W.block ?_
 refine W.sr ?_
 refine WL.op rfl (.eqI (.tmp rfl) .i64) ?_
 refine WL.gv rfl rfl ?_
 refine WL.ns ?_
 refine W.cond (.tmp rfl) (fun hc1 => ?_) (fun hc1 => ?_)
 ·have hp2 := of_decide_eq_true hc1
  rw [if_pos hp2] at hm
  refine W.sr ?_
  refine WL.op rfl (.assign (.str rfl (by decide))) ?_
  refine WL.ns ?_
  cases hm
  exact W.ret1 () rfl (.tmp rfl) trivial
 ·have hp2 := of_decide_eq_false hc1
  rw [if_neg hp2] at hm
  refine W.sr ?_
  refine WL.op rfl (.eqI (.tmp rfl) .i64) ?_
  refine WL.gv rfl rfl ?_
  refine WL.ns ?_
  refine W.cond (.tmp rfl) (fun hc3 => ?_) (fun hc3 => ?_)
  ·have hp4 := of_decide_eq_true hc3
   rw [if_pos hp4] at hm
   refine W.sr ?_
   refine WL.mv rfl rfl ?_
   obtain ⟨v, hv5, hm⟩ := bind_some hm
   refine WL.op rfl (.idx hv5 Tryd.underlying65 Tryd.sizeOf9 (.tmp rfl) .i64) ?_
   refine WL.op rfl (.load ty9 (.tmp rfl)) ?_
   refine WL.gv rfl rfl ?_
   refine WL.ns ?_
   cases hm
   exact W.ret1 () rfl (.tmp rfl) trivial
  ·have hp4 := of_decide_eq_false hc3
   rw [if_neg hp4] at hm
   refine W.skip ?_
   refine WN.block ?_
   refine WN.seq ?_
   refine W.sr ?_
   refine WL.op rfl (.assign .i64) ?_
   refine WL.ns ?_
   obtain ⟨s6, hs7, hk8⟩ := bind_some hm
   clear hm
   refine W.join (fun s : Int => s = s6) (fun s => [(5, ((tI .i64).is s)), (0, ((tL tS).is elems)), (1, (tS.is sep))]) (fun s => []) ?_ ?_
   ·rintro n0_ hj58
    try dsimp only at hj58
    subst hj58
    have hm := hk8
    clear hk8
    try dsimp only at hm
    change W _ _ _ _ _ _ _ [(5, ((tI .i64).is n0_)), (0, ((tL tS).is elems)), (1, (tS.is sep))] []
    refine W.seq ?_
    refine W.sr ?_
    refine WL.mv rfl rfl ?_
    refine WL.op rfl (.lenL Tryd.underlying65 (.tmp rfl)) ?_
    refine WL.op rfl (.move .i64) ?_
    refine WL.ns ?_
    refine W.block ?_
    obtain ⟨s22, hs23, hk24⟩ := bind_some hm
    clear hm
    refine W.loop (fun m (s : Int × List Str × List Str × Int) => m = s.2.2.1.length ∧ elems = s.2.1 ++ s.2.2.1 ∧ s.1 = (s.2.1.length : Int) ∧ M.strings_Join_loop1 s.2.2.1 s.2.2.2 = some s22) (fun s => [(41, ((tI .i64).is s.1)), (5, ((tI .i64).is s.2.2.2)), (0, ((tL tS).is elems)), (1, (tS.is sep)), (39, ((tL tS).is elems)), (40, ((tI .i64).is (elems.length : Int)))]) (fun s => []) elems.length ((0 : Int), [], elems, n0_) ⟨rfl, rfl, rfl, hs23⟩ ⟨Ent.q rfl, Ent.q rfl, Ent.q rfl, Ent.q rfl, Ent.q rfl, Ent.q rfl, trivial⟩ trivial ?_
    rintro m ⟨i, pre, rest3, n0_1⟩ ⟨hn28, hxs25, hi26, hm⟩
    try dsimp only at hn28 hxs25 hi26 hm
    change W _ _ _ _ _ _ _ [(41, ((tI .i64).is i)), (5, ((tI .i64).is n0_1)), (0, ((tL tS).is elems)), (1, (tS.is sep)), (39, ((tL tS).is elems)), (40, ((tI .i64).is (elems.length : Int)))] []
    refine W.lenL (s := 39) (.tmp rfl) fun hlen27 => ?_
    refine W.sr ?_
    refine WL.op rfl (.ltI (.tmp rfl) (.tmp rfl)) ?_
    refine WL.ns ?_
    refine W.seq ?_
    refine W.cond (.tmp rfl) (fun hc30 => ?_) (fun hc30 => ?_)
    ·have hp31 := of_decide_eq_true hc30
     obtain ⟨e, es, hrest33⟩ := range_more hxs25 hi26 hp31
     subst hrest33
     rw [M.strings_Join_loop1.eq_2] at hm
     refine W.skip ?_
     refine WN.seq ?_
     refine W.seq ?_
     refine W.block ?_
     refine W.sr ?_
     refine WL.op rfl (.idxPre hxs25 hi26 Tryd.underlying65 Tryd.sizeOf9 (.tmp rfl) (.tmp rfl)) ?_
     refine WL.op rfl (.load ty9 (.tmp rfl)) ?_
     refine WL.gv rfl rfl ?_
     refine WL.ns ?_
     refine W.seq ?_
     refine W.sr ?_
     refine WL.mv rfl rfl ?_
     refine WL.op rfl (.lenS Tryd.underlying9 (.tmp rfl)) ?_
     refine WL.mv rfl rfl ?_
     obtain ⟨v6, hv34, hm⟩ := bind_some hm
     refine WL.op rfl (.subC hv34 .i64 (.tmp rfl)) ?_
     refine WL.op rfl (.gtI (.tmp rfl) (.tmp rfl)) ?_
     refine WL.ns ?_
     refine W.cond (.tmp rfl) (fun hc35 => ?_) (fun hc35 => ?_)
     ·have hp36 := of_decide_eq_true hc35
      rw [if_pos hp36] at hm
      cases hm
     ·have hp36 := of_decide_eq_false hc35
      rw [if_neg hp36] at hm
      refine W.skip ?_
      refine WN.seq ?_
      refine W.region ?_
      refine WL.mv rfl rfl ?_
      refine WL.mv rfl rfl ?_
      refine WL.op rfl (.lenS Tryd.underlying9 (.tmp rfl)) ?_
      obtain ⟨v7, hv37, hm⟩ := bind_some hm
      refine WL.op rfl (.addC hv37 (.tmp rfl) (.tmp rfl)) ?_
      refine WL.gv rfl rfl ?_
      refine WL.nil ?_
      refine WN.block ?_
      refine WN.seq ?_
      refine W.region ?_
      refine WL.op rfl (.addI (.tmp rfl) .i64 (range_inR hi26 hp31 hlen27)) ?_
      refine WL.mv rfl rfl ?_
      refine WL.nil ?_
      exact WN.again es.length (i + 1, pre ++ [e], es, v7) (range_lt hn28) ⟨rfl, range_step hxs25, range_idx hi26, hm⟩ ⟨Ent.q rfl, Ent.q rfl, Ent.q rfl, Ent.q rfl, Ent.q rfl, Ent.q rfl, trivial⟩ trivial
    ·have hrest33 := range_end hxs25 hi26 (of_decide_eq_false hc30)
     subst hrest33
     rw [M.strings_Join_loop1.eq_1] at hm
     refine W.exit rfl ?_
     have hr38 := Option.some.inj hm
     clear hm
     subst hr38
     have hm := hk24
     try dsimp only at hm
     refine WN.seq ?_
     refine W.sr ?_
     refine WL.addNil (t := (tI .u8)) (E := 5) 1000008 ?_
     refine WL.opR rfl (OpR.allocBld 8 Tryd.zeroValue97) (fun b => ?_)
     refine WL.nr ?_
     refine WL.mv rfl rfl ?_
     obtain ⟨_, hv39, hm⟩ := bind_some hm
     refine WL.weakR (res' := [(8, (Bx 2 true 97 (bldA (none : Tok) ([] : Str) b) b)), (1000008, Dec.Own (tI .u8) 5 (none : Tok) ([] : Str).length)]) ⟨rfl, rfl, ⟨rfl, rfl, trivial⟩⟩ ?_
     refine WL.opR rfl (OpR.call (us := [8, 1000008]) (A := fun kx : Tok => (Asn.eq (.tuple #[]))) Tryd.call61 (FSpecR.keys (rin' := [(8, (Bx 2 true 97 (bldA (none : Tok) ([] : Str) b) b)), (1000008, Dec.Own (tI .u8) 5 (none : Tok) ([] : Str).length)]) (out' := fun kx : Tok => [(8, (Bx 2 true 97 (bldA kx ([] : Str) b) b)), (1000008, Dec.Own (tI .u8) 5 kx ([] : Str).length)]) (strings_Builder_Grow_spec _ _ hv39) rfl (fun _ => rfl)) rfl ⟨(.tmp rfl), (.tmp rfl), trivial⟩) (fun k => ?_)
     refine WL.nr ?_
     refine WL.mv rfl rfl ?_
     obtain ⟨v8, hv40, hm⟩ := bind_some hm
     refine WL.op rfl (.idx hv40 Tryd.underlying65 Tryd.sizeOf9 (.tmp rfl) .i64) ?_
     refine WL.op rfl (.load ty9 (.tmp rfl)) ?_
     obtain ⟨b1, hv41, hm⟩ := bind_some hm
     refine WL.weakR (res' := [(8, (Bx 2 true 97 (bldA k ([] : Str) b) b)), (1000008, Dec.Own (tI .u8) 5 k ([] : Str).length)]) ⟨rfl, rfl, ⟨rfl, rfl, trivial⟩⟩ ?_
     refine WL.opR rfl (OpR.call (us := [8, 1000008]) (A := fun kx : Tok => Asn.any) Tryd.call62 (FSpecR.keys (rin' := [(8, (Bx 2 true 97 (bldA k ([] : Str) b) b)), (1000008, Dec.Own (tI .u8) 5 k ([] : Str).length)]) (out' := fun kx : Tok => [(8, (Bx 2 true 97 (bldA kx b1 b) b)), (1000008, Dec.Own (tI .u8) 5 kx b1.length)]) (strings_Builder_WriteString_spec _ _ _ _ _ hv41) rfl (fun _ => rfl)) rfl ⟨(.tmp rfl), (.tmp rfl), trivial⟩) (fun k1 => ?_)
     refine WL.ns ?_
     refine W.seq ?_
     refine W.sr ?_
     refine WL.mv rfl rfl ?_
     obtain ⟨v9, hv42, hm⟩ := bind_some hm
     refine WL.op rfl (.slcLo hv42 Tryd.underlying65 Tryd.sizeOf9 (.tmp rfl) .i64) ?_
     refine WL.op rfl (.lenL Tryd.underlying65 (.tmp rfl)) ?_
     refine WL.op rfl (.move .i64) ?_
     refine WL.ns ?_
     refine W.block ?_
     obtain ⟨s43, hs44, hk45⟩ := bind_some hm
     clear hm
     refine W.loop (fun m (s : Int × List Str × List Str × ((Str) × Tok)) => m = s.2.2.1.length ∧ v9 = s.2.1 ++ s.2.2.1 ∧ s.1 = (s.2.1.length : Int) ∧ M.strings_Join_loop2 sep s.2.2.1 s.2.2.2.1 = some s43) (fun s => [(65, ((tI .i64).is s.1)), (1, (tS.is sep)), (8, (Bp b 0)), (63, ((tL tS).is v9)), (64, ((tI .i64).is (v9.length : Int)))]) (fun s => [(1000008, Dec.Own (tI .u8) 5 s.2.2.2.2 s.2.2.2.1.length), (8, (Bx 2 true 97 (bldA s.2.2.2.2 s.2.2.2.1 b) b))]) v9.length ((0 : Int), [], v9, (b1, k1)) ⟨rfl, rfl, rfl, hs44⟩ ⟨Ent.q rfl, Ent.q rfl, Ent.q rfl, Ent.q rfl, Ent.q rfl, trivial⟩ ⟨rfl, rfl, ⟨rfl, rfl, trivial⟩⟩ ?_
     rintro m ⟨i1, pre1, rest2, ⟨b2, k2⟩⟩ ⟨hn49, hxs46, hi47, hm⟩
     try dsimp only at hn49 hxs46 hi47 hm
     change W _ _ _ _ _ _ _ [(65, ((tI .i64).is i1)), (1, (tS.is sep)), (8, (Bp b 0)), (63, ((tL tS).is v9)), (64, ((tI .i64).is (v9.length : Int)))] [(1000008, Dec.Own (tI .u8) 5 k2 b2.length), (8, (Bx 2 true 97 (bldA k2 b2 b) b))]
     refine W.lenL (s := 63) (.tmp rfl) fun hlen48 => ?_
     refine W.sr ?_
     refine WL.op rfl (.ltI (.tmp rfl) (.tmp rfl)) ?_
     refine WL.ns ?_
     refine W.seq ?_
     refine W.cond (.tmp rfl) (fun hc51 => ?_) (fun hc51 => ?_)
     ·have hp52 := of_decide_eq_true hc51
      obtain ⟨e1, es1, hrest54⟩ := range_more hxs46 hi47 hp52
      subst hrest54
      rw [M.strings_Join_loop2.eq_2] at hm
      refine W.skip ?_
      refine WN.seq ?_
      refine W.seq ?_
      refine W.block ?_
      refine W.sr ?_
      refine WL.op rfl (.idxPre hxs46 hi47 Tryd.underlying65 Tryd.sizeOf9 (.tmp rfl) (.tmp rfl)) ?_
      refine WL.op rfl (.load ty9 (.tmp rfl)) ?_
      refine WL.gv rfl rfl ?_
      refine WL.nr ?_
      refine WL.mv rfl rfl ?_
      obtain ⟨b3, hv55, hm⟩ := bind_some hm
      refine WL.weakR (res' := [(8, (Bx 2 true 97 (bldA k2 b2 b) b)), (1000008, Dec.Own (tI .u8) 5 k2 b2.length)]) ⟨rfl, rfl, ⟨rfl, rfl, trivial⟩⟩ ?_
      refine WL.opR rfl (OpR.call (us := [8, 1000008]) (A := fun kx : Tok => Asn.any) Tryd.call62 (FSpecR.keys (rin' := [(8, (Bx 2 true 97 (bldA k2 b2 b) b)), (1000008, Dec.Own (tI .u8) 5 k2 b2.length)]) (out' := fun kx : Tok => [(8, (Bx 2 true 97 (bldA kx b3 b) b)), (1000008, Dec.Own (tI .u8) 5 kx b3.length)]) (strings_Builder_WriteString_spec _ _ _ _ _ hv55) rfl (fun _ => rfl)) rfl ⟨(.tmp rfl), (.tmp rfl), trivial⟩) (fun k3 => ?_)
      refine WL.nr1 ?_
      refine WL.mv rfl rfl ?_
      obtain ⟨b4, hv56, hm⟩ := bind_some hm
      refine WL.weakR (res' := [(8, (Bx 2 true 97 (bldA k3 b3 b) b)), (1000008, Dec.Own (tI .u8) 5 k3 b3.length)]) ⟨rfl, rfl, ⟨rfl, rfl, trivial⟩⟩ ?_
      refine WL.opR rfl (OpR.call (us := [8, 1000008]) (A := fun kx : Tok => Asn.any) Tryd.call62 (FSpecR.keys (rin' := [(8, (Bx 2 true 97 (bldA k3 b3 b) b)), (1000008, Dec.Own (tI .u8) 5 k3 b3.length)]) (out' := fun kx : Tok => [(8, (Bx 2 true 97 (bldA kx b4 b) b)), (1000008, Dec.Own (tI .u8) 5 kx b4.length)]) (strings_Builder_WriteString_spec _ _ _ _ _ hv56) rfl (fun _ => rfl)) rfl ⟨(.tmp rfl), (.tmp rfl), trivial⟩) (fun k4 => ?_)
      refine WL.nil ?_
      refine WN.block ?_
      refine WN.seq ?_
      refine W.region ?_
      refine WL.op rfl (.addI (.tmp rfl) .i64 (range_inR hi47 hp52 hlen48)) ?_
      refine WL.mv rfl rfl ?_
      refine WL.nil ?_
      exact WN.again es1.length (i1 + 1, pre1 ++ [e1], es1, (b4, k4)) (range_lt hn49) ⟨rfl, range_step hxs46, range_idx hi47, hm⟩ ⟨Ent.q rfl, Ent.q rfl, Ent.q rfl, Ent.q rfl, Ent.q rfl, trivial⟩ ⟨rfl, rfl, ⟨rfl, rfl, trivial⟩⟩
     ·have hrest54 := range_end hxs46 hi47 (of_decide_eq_false hc51)
      subst hrest54
      rw [M.strings_Join_loop2.eq_1] at hm
      refine W.exit rfl ?_
      have hr57 := Option.some.inj hm
      clear hm
      subst hr57
      have hm := hk45
      try dsimp only at hm
      refine WN.seq ?_
      refine W.sr ?_
      refine WL.weakR (res' := [(8, (Bx 2 true 97 (bldA k2 b2 b) b)), (1000008, Dec.Own (tI .u8) 5 k2 b2.length)]) ⟨rfl, rfl, ⟨rfl, rfl, trivial⟩⟩ ?_
      refine WL.opR rfl (OpR.call (us := [8, 1000008]) (A := fun kx : Unit => tS.is b2) Tryd.call63 (FSpecR.keys (rin' := [(8, (Bx 2 true 97 (bldA k2 b2 b) b)), (1000008, Dec.Own (tI .u8) 5 k2 b2.length)]) (out' := fun kx : Unit => []) (strings_Builder_String_spec _ _ _) rfl (fun _ => rfl)) rfl ⟨(.tmp rfl), trivial⟩) (fun _ => ?_)
      refine WL.gv rfl rfl ?_
      refine WL.ns ?_
      cases hm
      exact W.ret1 () rfl (.tmp rfl) trivial
   ·have hm := hs7
    clear hs7
    refine W.sr ?_
    refine WL.mv rfl rfl ?_
    refine WL.op rfl (.lenS Tryd.underlying9 (.tmp rfl)) ?_
    refine WL.op rfl (.gtI (.tmp rfl) .i64) ?_
    refine WL.ns ?_
    refine W.cond (.tmp rfl) (fun hc9 => ?_) (fun hc9 => ?_)
    ·have hp10 := of_decide_eq_true hc9
     rw [if_pos hp10] at hm
     obtain ⟨s11, hs12, hk13⟩ := bind_some hm
     clear hm
     refine W.join (fun s : Unit => s = s11) (fun s => [(0, ((tL tS).is elems)), (1, (tS.is sep)), (5, ((tI .i64).is (0 : Int)))]) (fun s => []) ?_ ?_
     ·rintro _ hj21
      try dsimp only at hj21
      subst hj21
      have hm := hk13
      clear hk13
      try dsimp only at hm
      change W _ _ _ _ _ _ _ [(0, ((tL tS).is elems)), (1, (tS.is sep)), (5, ((tI .i64).is (0 : Int)))] []
      refine W.region ?_
      refine WL.mv rfl rfl ?_
      refine WL.mv rfl rfl ?_
      refine WL.op rfl (.lenS Tryd.underlying9 (.tmp rfl)) ?_
      refine WL.mv rfl rfl ?_
      refine WL.op rfl (.lenL Tryd.underlying65 (.tmp rfl)) ?_
      obtain ⟨v3, hv18, hm⟩ := bind_some hm
      refine WL.op rfl (.subC hv18 (.tmp rfl) .i64) ?_
      obtain ⟨v4, hv19, hm⟩ := bind_some hm
      refine WL.op rfl (.mulC hv19 (.tmp rfl) (.tmp rfl)) ?_
      obtain ⟨v5, hv20, hm⟩ := bind_some hm
      refine WL.op rfl (.addC hv20 (.tmp rfl) (.tmp rfl)) ?_
      refine WL.gv rfl rfl ?_
      refine WL.nil ?_
      exact WN.meet v5 (Option.some.inj hm) ⟨Ent.q rfl, Ent.q rfl, Ent.q rfl, trivial⟩ trivial
     ·have hm := hs12
      clear hs12
      refine W.sr ?_
      refine WL.mv rfl rfl ?_
      refine WL.op rfl (.lenS Tryd.underlying9 (.tmp rfl)) ?_
      refine WL.mv rfl rfl ?_
      refine WL.op rfl (.lenL Tryd.underlying65 (.tmp rfl)) ?_
      obtain ⟨v1, hv14, hm⟩ := bind_some hm
      refine WL.op rfl (.subC hv14 (.tmp rfl) .i64) ?_
      obtain ⟨v2, hv15, hm⟩ := bind_some hm
      refine WL.op rfl (.quoC hv15 .i64 (.tmp rfl)) ?_
      refine WL.op rfl (.geI (.tmp rfl) (.tmp rfl)) ?_
      refine WL.ns ?_
      refine W.cond (.tmp rfl) (fun hc16 => ?_) (fun hc16 => ?_)
      ·have hp17 := of_decide_eq_true hc16
       rw [if_pos hp17] at hm
       cases hm
      ·have hp17 := of_decide_eq_false hc16
       rw [if_neg hp17] at hm
       refine W.skip ?_
       exact WN.meet () (Option.some.inj hm) ⟨Ent.q rfl, Ent.q rfl, Ent.q rfl, trivial⟩ trivial
    ·have hp10 := of_decide_eq_false hc9
     rw [if_neg hp10] at hm
     refine W.skip ?_
     exact WN.meet (0 : Int) (Option.some.inj hm) ⟨Ent.q rfl, Ent.q rfl, Ent.q rfl, trivial⟩ trivial

theorem address_Format_spec (n : Nat) (p : List api_Step) (r : Str) (hm : M.address_Format n p = some r) : FSpec Tryd.prog 21 [((tL tapi_Step).is p)] (tS.is r) := by
 unfold M.address_Format at hm
 refine FSpec.of Tryd.func21 rfl rfl rfl (fun g0 => ?_)
 refine W.sr ?_
 refine WL.op rfl (.assign (.str rfl (by decide))) ?_
 refine WL.ns ?_
 refine W.seq ?_
 refine W.sr ?_
 refine WL.mv rfl rfl ?_
 obtain ⟨valid, hv1, hm⟩ := bind_some hm
 refine WL.op rfl (.call Tryd.call17 (address_Valid_spec _ _ _ hv1) ⟨(.tmp rfl), trivial⟩) ?_
 refine WL.op rfl (.notB (.tmp rfl)) ?_
 refine WL.ns ?_
 refine W.cond (.tmp rfl) (fun hc2 => ?_) (fun hc2 => ?_)
 ·have hp3 := not_pos hc2
  rw [if_pos hp3] at hm
  refine W.sr ?_
  refine WL.op rfl (.assign (.str rfl (by decide))) ?_
  refine WL.ns ?_
  cases hm
  exact W.ret1 () rfl (.tmp rfl) trivial
 ·have hp3 := not_neg hc2
  rw [if_neg hp3] at hm
  refine W.skip ?_
  refine WN.seq ?_
  refine W.sr ?_
  refine WL.addNil (t := tS) (E := 9) 3 ?_
  refine WL.op rfl (.assign (Opd.nilO (t := tS))) ?_
  refine WL.ns ?_
  refine W.seq ?_
  refine W.sr ?_
  refine WL.mv rfl rfl ?_
  refine WL.op rfl (.lenL Tryd.underlying33 (.tmp rfl)) ?_
  refine WL.op rfl (.move .i64) ?_
  refine WL.ns ?_
  refine W.block ?_
  obtain ⟨s4, hs5, hk6⟩ := bind_some hm
  clear hm
  refine W.loop (fun m (s : Int × List api_Step × List api_Step × (((List Str)) × Tok)) => m = s.2.2.1.length ∧ p = s.2.1 ++ s.2.2.1 ∧ s.1 = (s.2.1.length : Int) ∧ M.address_Format_loop1 s.2.2.1 s.2.2.2.1 = some s4) (fun s => [(13, ((tI .i64).is s.1)), (3, (tO tS s.2.2.2.2 s.2.2.2.1)), (11, ((tL tapi_Step).is p)), (12, ((tI .i64).is (p.length : Int)))]) (fun s => [(3, Dec.Own tS 9 s.2.2.2.2 s.2.2.2.1.length)]) p.length ((0 : Int), [], p, (([] : List Str), (none : Tok))) ⟨rfl, rfl, rfl, hs5⟩ ⟨Ent.q rfl, Ent.q rfl, Ent.q rfl, Ent.q rfl, trivial⟩ ⟨rfl, rfl, trivial⟩ ?_
  rintro m ⟨i, pre, rest1, ⟨words, k⟩⟩ ⟨hn10, hxs7, hi8, hm⟩
  try dsimp only at hn10 hxs7 hi8 hm
  change W _ _ _ _ _ _ _ [(13, ((tI .i64).is i)), (3, (tO tS k words)), (11, ((tL tapi_Step).is p)), (12, ((tI .i64).is (p.length : Int)))] [(3, Dec.Own tS 9 k words.length)]
  refine W.lenL (s := 11) (.tmp rfl) fun hlen9 => ?_
  refine W.sr ?_
  refine WL.op rfl (.ltI (.tmp rfl) (.tmp rfl)) ?_
  refine WL.ns ?_
  refine W.seq ?_
  refine W.cond (.tmp rfl) (fun hc12 => ?_) (fun hc12 => ?_)
  ·have hp13 := of_decide_eq_true hc12
   obtain ⟨e, es, hrest15⟩ := range_more hxs7 hi8 hp13
   subst hrest15
   rw [M.address_Format_loop1.eq_2] at hm
   refine W.skip ?_
   refine WN.seq ?_
   refine W.seq ?_
   refine W.block ?_
   refine W.sr ?_
   refine WL.op rfl (.idxPre hxs7 hi8 Tryd.underlying33 Tryd.sizeOf41 (.tmp rfl) (.tmp rfl)) ?_
   refine WL.op rfl (.load ty41 (.tmp rfl)) ?_
   refine WL.opR rfl (OpR.alloc 5 ze41) (fun b => ?_)
   refine WL.opU (OpR.storeB (b := b) 5 Tryd.sizeOf41 (Cellable.is tapi_Step e) rfl (.tmp rfl) (.tmp rfl)) (fun _ => ?_)
   refine WL.sealed (t := tapi_Step) (u := e) 5 5 rfl rfl ?_
   refine WL.nr ?_
   refine WL.op rfl (.fieldAddr Tryd.underlying41 rfl (fun w => ⟨0, Tryd.sizeOf3 w⟩) fapi_Step_0 (.tmp rfl)) ?_
   refine WL.op rfl (.load ty3 (.tmp rfl)) ?_
   obtain ⟨name, hv16, hm⟩ := bind_some hm
   refine WL.op rfl (.call Tryd.call41 (address_name_spec _ _ hv16) ⟨(.tmp rfl), trivial⟩) ?_
   refine WL.mv rfl rfl ?_
   refine WL.op rfl (.extract0 (.tmp rfl)) ?_
   refine WL.op rfl (.extract1 (.tmp rfl)) ?_
   refine WL.gv rfl rfl ?_
   refine WL.gv rfl rfl ?_
   refine WL.nr ?_
   refine WL.mv rfl rfl ?_
   refine WL.mv rfl rfl ?_
   refine WL.op rfl (.buildSlice (n := 1) (ys := [(0, name.1)]) (z := ([] : Str)) (xs := [name.1]) Tryd.underlying65 el9 ze9 ⟨rfl, (.tmp rfl), trivial⟩ (by simp) (by decide) rfl) ?_
   obtain ⟨words1, hv17, hm⟩ := bind_some hm
   refine WL.opR rfl (OpR.appC (key := 3) hv17 Tryd.underlying65 el9 (.tmp rfl) (.tmp rfl) rfl) (fun k1 => ?_)
   refine WL.gv rfl rfl ?_
   refine WL.nr ?_
   refine WL.op rfl (.load ty41 (.tmp rfl)) ?_
   obtain ⟨book, hv18, hm⟩ := bind_some hm
   refine WL.op rfl (.call Tryd.call36 (address_book_spec _ _ hv18) ⟨(.tmp rfl), trivial⟩) ?_
   refine WL.op rfl (.notB (.tmp rfl)) ?_
   refine WL.ns ?_
   refine W.cond (.tmp rfl) (fun hc19 => ?_) (fun hc19 => ?_)
   ·have hp20 := not_pos hc19
    rw [if_pos hp20] at hm
    refine W.region ?_
    refine WL.mv rfl rfl ?_
    refine WL.op rfl (.fieldAddr Tryd.underlying41 rfl (fun w => ⟨0, Tryd.sizeOf9 w⟩) fapi_Step_1 (.tmp rfl)) ?_
    refine WL.op rfl (.load ty9 (.tmp rfl)) ?_
    refine WL.op rfl (.buildSlice (n := 1) (ys := [(0, e.Label)]) (z := ([] : Str)) (xs := [e.Label]) Tryd.underlying65 el9 ze9 ⟨rfl, (.tmp rfl), trivial⟩ (by simp) (by decide) rfl) ?_
    obtain ⟨words2, hv21, hm⟩ := bind_some hm
    refine WL.opR rfl (OpR.appC (key := 3) hv21 Tryd.underlying65 el9 (.tmp rfl) (.tmp rfl) rfl) (fun k2 => ?_)
    refine WL.gv rfl rfl ?_
    refine WL.nil ?_
    refine WN.block ?_
    refine WN.seq ?_
    refine W.region ?_
    refine WL.op rfl (.addI (.tmp rfl) .i64 (range_inR hi8 hp13 hlen9)) ?_
    refine WL.mv rfl rfl ?_
    refine WL.nil ?_
    exact WN.again es.length (i + 1, pre ++ [e], es, (words2, k2)) (range_lt hn10) ⟨rfl, range_step hxs7, range_idx hi8, hm⟩ ⟨Ent.q rfl, Ent.q rfl, Ent.q rfl, Ent.q rfl, trivial⟩ ⟨rfl, rfl, trivial⟩
   ·have hp20 := not_neg hc19
    rw [if_neg hp20] at hm
    refine W.skip ?_
    refine WN.block ?_
    refine WN.seq ?_
    refine W.region ?_
    refine WL.op rfl (.addI (.tmp rfl) .i64 (range_inR hi8 hp13 hlen9)) ?_
    refine WL.mv rfl rfl ?_
    refine WL.nil ?_
    exact WN.again es.length (i + 1, pre ++ [e], es, (words1, k1)) (range_lt hn10) ⟨rfl, range_step hxs7, range_idx hi8, hm⟩ ⟨Ent.q rfl, Ent.q rfl, Ent.q rfl, Ent.q rfl, trivial⟩ ⟨rfl, rfl, trivial⟩
  ·have hrest15 := range_end hxs7 hi8 (of_decide_eq_false hc12)
   subst hrest15
   rw [M.address_Format_loop1.eq_1] at hm
   refine W.exit rfl ?_
   have hr22 := Option.some.inj hm
   clear hm
   subst hr22
   have hm := hk6
   try dsimp only at hm
   refine WN.seq ?_
   refine W.sr ?_
   refine WL.mv rfl rfl ?_
   obtain ⟨join, hv23, hm⟩ := bind_some hm
   refine WL.op rfl (.call Tryd.call42 (strings_Join_spec _ _ _ hv23) ⟨(Opd.own (.tmp rfl)), (.str rfl (by decide)), trivial⟩) ?_
   refine WL.gv rfl rfl ?_
   refine WL.ns ?_
   cases hm
   exact W.ret1 () rfl (.tmp rfl) trivial

theorem law07_awake_spec (n : Nat)  (r : Bool) (hm : M.law07_awake n  = some r) : FSpec Tryd.prog 7 [] (tB.is r) := by
 unfold M.law07_awake at hm
 refine FSpec.of Tryd.func7 rfl rfl rfl (fun g0 => ?_)
 refine W.sr ?_
 refine WL.op rfl (.assign .bool) ?_
 refine WL.nr ?_
 obtain ⟨book, hv1, hm⟩ := bind_some hm
 refine WL.op rfl (.call Tryd.call26 (law07_book_spec _ hv1) trivial) ?_
 refine WL.op rfl (.build (s := tapi_Step) (x := (⟨(2 : Int), ([53] : Str)⟩ : api_Step)) zapi_Step_f rfl Tryd.underlying41 (zapi_Step_sz _ Tryd.underlying41) ze41 ⟨_, (tI .i64), (2 : Int), _, _, rfl, Tryd.sizeOf3, .i64, sapi_Step_0, ⟨_, tS, ([53] : Str), _, _, rfl, Tryd.sizeOf9, (.str rfl (by decide)), sapi_Step_1, rfl⟩⟩) ?_
 refine WL.op rfl (.build (s := tapi_Step) (x := (⟨(3 : Int), ([50] : Str)⟩ : api_Step)) zapi_Step_f rfl Tryd.underlying41 (zapi_Step_sz _ Tryd.underlying41) ze41 ⟨_, (tI .i64), (3 : Int), _, _, rfl, Tryd.sizeOf3, .i64, sapi_Step_0, ⟨_, tS, ([50] : Str), _, _, rfl, Tryd.sizeOf9, (.str rfl (by decide)), sapi_Step_1, rfl⟩⟩) ?_
 refine WL.op rfl (.buildSlice (n := 2) (ys := [(0, (⟨(2 : Int), ([53] : Str)⟩ : api_Step)), (1, (⟨(3 : Int), ([50] : Str)⟩ : api_Step))]) (z := zapi_Step) (xs := [(⟨(2 : Int), ([53] : Str)⟩ : api_Step), (⟨(3 : Int), ([50] : Str)⟩ : api_Step)]) Tryd.underlying33 el41 ze41 ⟨rfl, (.tmp rfl), rfl, (.tmp rfl), trivial⟩ (by simp) (by decide) rfl) ?_
 obtain ⟨findon, hv2, hm⟩ := bind_some hm
 refine WL.op rfl (.call Tryd.call14 (address_FindOne_spec _ _ _ _ hv2) ⟨(.tmp rfl), (.tmp rfl), trivial⟩) ?_
 refine WL.mv rfl rfl ?_
 refine WL.op rfl (.extract0 (.tmp rfl)) ?_
 refine WL.op rfl (.extract1 (.tmp rfl)) ?_
 refine WL.opR rfl (OpR.alloc 1 ze23) (fun b => ?_)
 refine WL.opU (OpR.storeB (b := b) 1 Tryd.sizeOf23 (Cellable.is tapi_Id findon.1) rfl (.tmp rfl) (.tmp rfl)) (fun _ => ?_)
 refine WL.sealed (t := tapi_Id) (u := findon.1) 1 1 rfl rfl ?_
 refine WL.gv rfl rfl ?_
 refine WL.ns ?_
 refine W.seq ?_
 obtain ⟨book1, hv3, hm⟩ := bind_some hm
 obtain ⟨shorte, hv4, hm⟩ := bind_some hm
 refine W.weakR (res' := []) trivial ?_
 refine W.drawM [.c (tapi_Unit.is book1), .c (tapi_Id.is findon.1), .c (Asn.tuple2 ((tL tapi_Step).is shorte.1) (tB.is shorte.2)), .c (Asn.tuple2 ((tL tapi_Step).is shorte.1) (tB.is shorte.2)), .c ((tL tapi_Step).is shorte.1), .c (tB.is shorte.2), .c ((tL tapi_Step).is shorte.1), .c (tB.is shorte.2)] [([], []), ([], [1]), ([0, 1], []), ([2], []), ([3], []), ([3], []), ([4], []), ([5], [])] [] [[], [], [], [], [], [], [], []] (fun m cv => match m with  | _ => []) (fun _ => none) Tryd.mixed rfl rfl rfl rfl rfl ⟨fun _ _ _ _ => rfl, ⟨fun _ _ _ _ => rfl, ⟨fun _ _ _ _ => rfl, ⟨fun _ _ _ _ => rfl, ⟨fun _ _ _ _ => rfl, ⟨fun _ _ _ _ => rfl, ⟨fun _ _ _ _ => rfl, ⟨fun _ _ _ _ => rfl, trivial⟩⟩⟩⟩⟩⟩⟩⟩ rfl ⟨mo fun cv => Op1.call Tryd.call26 (law07_book_spec _ hv3) trivial, ⟨mo fun cv => Op1.load ty23 (.tmp rfl), ⟨mo fun cv => Op1.call Tryd.call13 (address_Shortest_spec _ _ _ _ hv4) ⟨(.tmp rfl), (.tmp rfl), trivial⟩, ⟨mo fun cv => Op1.move (.tmp rfl), ⟨mo fun cv => Op1.extract0 (.tmp rfl), ⟨mo fun cv => Op1.extract1 (.tmp rfl), ⟨mo fun cv => Op1.assign (.tmp rfl), ⟨mo fun cv => Op1.assign (.tmp rfl), trivial⟩⟩⟩⟩⟩⟩⟩⟩ trivial (fun cv => ?_)
 refine WN.seq ?_
 refine W.seq ?_
 obtain ⟨book2, hv5, hm⟩ := bind_some hm
 obtain ⟨full, hv6, hm⟩ := bind_some hm
 refine W.weakR (res' := []) trivial ?_
 refine W.drawM [.c (tapi_Unit.is book2), .c (tapi_Id.is findon.1), .c (Asn.tuple2 ((tL tapi_Step).is full.1) (tB.is full.2)), .c (Asn.tuple2 ((tL tapi_Step).is full.1) (tB.is full.2)), .c ((tL tapi_Step).is full.1), .c (tB.is full.2), .c ((tL tapi_Step).is full.1), .c (tB.is full.2)] [([], []), ([], [1]), ([0, 1], []), ([2], []), ([3], []), ([3], []), ([4], []), ([5], [])] [] [[], [], [], [], [], [], [], []] (fun m cv1 => match m with  | _ => []) (fun _ => none) Tryd.mixed rfl rfl rfl rfl rfl ⟨fun _ _ _ _ => rfl, ⟨fun _ _ _ _ => rfl, ⟨fun _ _ _ _ => rfl, ⟨fun _ _ _ _ => rfl, ⟨fun _ _ _ _ => rfl, ⟨fun _ _ _ _ => rfl, ⟨fun _ _ _ _ => rfl, ⟨fun _ _ _ _ => rfl, trivial⟩⟩⟩⟩⟩⟩⟩⟩ rfl ⟨mo fun cv1 => Op1.call Tryd.call26 (law07_book_spec _ hv5) trivial, ⟨mo fun cv1 => Op1.load ty23 (.tmp rfl), ⟨mo fun cv1 => Op1.call Tryd.call12 (address_Full_spec _ _ _ _ hv6) ⟨(.tmp rfl), (.tmp rfl), trivial⟩, ⟨mo fun cv1 => Op1.move (.tmp rfl), ⟨mo fun cv1 => Op1.extract0 (.tmp rfl), ⟨mo fun cv1 => Op1.extract1 (.tmp rfl), ⟨mo fun cv1 => Op1.assign (.tmp rfl), ⟨mo fun cv1 => Op1.assign (.tmp rfl), trivial⟩⟩⟩⟩⟩⟩⟩⟩ trivial (fun cv1 => ?_)
 refine WN.seq ?_
 refine W.sr ?_
 refine WL.mv rfl rfl ?_
 refine WL.op rfl (.eqI (.tmp rfl) .i64) ?_
 refine WL.mv rfl rfl ?_
 rcases bcases (decide (findon.2 = (0 : Int))) with hb7 | hb7
 ·have hp8 := of_decide_eq_true hb7
  rw [if_pos hp8] at hm
  refine WL.run rfl rfl rfl rfl hb7 rfl rfl (Op1.load ty23 (.tmp rfl)) ?_
  refine WL.run rfl rfl rfl rfl hb7 rfl rfl (Op1.build (s := tapi_Id) (x := (⟨(1 : Int), (0 : Int), (2 : Int)⟩ : api_Id)) zapi_Id_f rfl Tryd.underlying23 (zapi_Id_sz _ Tryd.underlying23) ze23 ⟨_, (tI .i64), (1 : Int), _, _, rfl, Tryd.sizeOf3, .i64, sapi_Id_0, ⟨_, (tI .i64), (2 : Int), _, _, rfl, Tryd.sizeOf3, .i64, sapi_Id_2, rfl⟩⟩) ?_
  refine WL.run rfl rfl rfl rfl hb7 rfl rfl (Op1.eqSt (D := 2) rfl (by decide) eg23 eq23 (.tmp rfl) (.tmp rfl)) ?_
  refine WL.op rfl (.pickT (.tmp rfl) hb7 (.tmp rfl)) ?_
  refine WL.mv rfl rfl ?_
  rcases bcases (decide (findon.1 = (⟨(1 : Int), (0 : Int), (2 : Int)⟩ : api_Id))) with hb9 | hb9
  ·have hp10 := of_decide_eq_true hb9
   rw [if_pos hp10] at hm
   refine WL.run rfl rfl rfl rfl hb9 rfl rfl (Op1.move (.tmp rfl)) ?_
   refine WL.op rfl (.pickT (.tmp rfl) hb9 (.tmp rfl)) ?_
   refine WL.mv rfl rfl ?_
   rcases bcases (shorte.2) with hb11 | hb11
   ·have hp12 := hb11
    rw [if_pos hp12] at hm
    refine WL.run rfl rfl rfl rfl hb11 rfl rfl (Op1.move (.tmp rfl)) ?_
    refine WL.op rfl (.pickT (.tmp rfl) hb11 (.tmp rfl)) ?_
    refine WL.mv rfl rfl ?_
    rcases bcases (full.2) with hb13 | hb13
    ·have hp14 := hb13
     rw [if_pos hp14] at hm
     refine WL.run rfl rfl rfl rfl hb13 rfl rfl (Op1.move (.tmp rfl)) ?_
     obtain ⟨format, hv15, hm⟩ := bind_some hm
     refine WL.run rfl rfl rfl rfl hb13 rfl rfl (Op1.call Tryd.call21 (address_Format_spec _ _ _ hv15) ⟨(.tmp rfl), trivial⟩) ?_
     refine WL.run rfl rfl rfl rfl hb13 rfl rfl (Op1.eqS (.tmp rfl) (.str rfl (by decide))) ?_
     refine WL.op rfl (.pickT (.tmp rfl) hb13 (.tmp rfl)) ?_
     refine WL.mv rfl rfl ?_
     rcases bcases (format == ([112, 97, 114, 97, 103, 114, 97, 112, 104, 32, 50] : Str)) with hb16 | hb16
     ·have hp17 := hb16
      rw [if_pos hp17] at hm
      refine WL.run rfl rfl rfl rfl hb16 rfl rfl (Op1.move (.tmp rfl)) ?_
      obtain ⟨format1, hv18, hm⟩ := bind_some hm
      refine WL.run rfl rfl rfl rfl hb16 rfl rfl (Op1.call Tryd.call21 (address_Format_spec _ _ _ hv18) ⟨(.tmp rfl), trivial⟩) ?_
      refine WL.run rfl rfl rfl rfl hb16 rfl rfl (Op1.eqS (.tmp rfl) (.str rfl (by decide))) ?_
      refine WL.op rfl (.pickT (.tmp rfl) hb16 (.tmp rfl)) ?_
      refine WL.gv rfl rfl ?_
      refine WL.ns ?_
      cases hm
      exact W.ret1 () rfl (.tmp rfl) trivial
     ·have hp17 := ne_of_false hb16
      rw [if_neg hp17] at hm
      iterate 3 refine WL.pass rfl rfl rfl rfl hb16 rfl rfl ?_
      refine WL.op rfl (.pickF (.tmp rfl) hb16 .bool) ?_
      refine WL.gv rfl rfl ?_
      refine WL.ns ?_
      cases hm
      exact W.ret1 () rfl (.tmp rfl) trivial
    ·have hp14 := ne_of_false hb13
     rw [if_neg hp14] at hm
     iterate 3 refine WL.pass rfl rfl rfl rfl hb13 rfl rfl ?_
     refine WL.op rfl (.pickF (.tmp rfl) hb13 .bool) ?_
     refine WL.mv rfl rfl ?_
     iterate 3 refine WL.pass rfl rfl rfl rfl rfl rfl rfl ?_
     refine WL.op rfl (.pickF (.tmp rfl) rfl .bool) ?_
     refine WL.gv rfl rfl ?_
     refine WL.ns ?_
     cases hm
     exact W.ret1 () rfl (.tmp rfl) trivial
   ·have hp12 := ne_of_false hb11
    rw [if_neg hp12] at hm
    refine WL.pass rfl rfl rfl rfl hb11 rfl rfl ?_
    refine WL.op rfl (.pickF (.tmp rfl) hb11 .bool) ?_
    refine WL.mv rfl rfl ?_
    iterate 3 refine WL.pass rfl rfl rfl rfl rfl rfl rfl ?_
    refine WL.op rfl (.pickF (.tmp rfl) rfl .bool) ?_
    refine WL.mv rfl rfl ?_
    iterate 3 refine WL.pass rfl rfl rfl rfl rfl rfl rfl ?_
    refine WL.op rfl (.pickF (.tmp rfl) rfl .bool) ?_
    refine WL.gv rfl rfl ?_
    refine WL.ns ?_
    cases hm
    exact W.ret1 () rfl (.tmp rfl) trivial
  ·have hp10 := of_decide_eq_false hb9
   rw [if_neg hp10] at hm
   refine WL.pass rfl rfl rfl rfl hb9 rfl rfl ?_
   refine WL.op rfl (.pickF (.tmp rfl) hb9 .bool) ?_
   refine WL.mv rfl rfl ?_
   refine WL.pass rfl rfl rfl rfl rfl rfl rfl ?_
   refine WL.op rfl (.pickF (.tmp rfl) rfl .bool) ?_
   refine WL.mv rfl rfl ?_
   iterate 3 refine WL.pass rfl rfl rfl rfl rfl rfl rfl ?_
   refine WL.op rfl (.pickF (.tmp rfl) rfl .bool) ?_
   refine WL.mv rfl rfl ?_
   iterate 3 refine WL.pass rfl rfl rfl rfl rfl rfl rfl ?_
   refine WL.op rfl (.pickF (.tmp rfl) rfl .bool) ?_
   refine WL.gv rfl rfl ?_
   refine WL.ns ?_
   cases hm
   exact W.ret1 () rfl (.tmp rfl) trivial
 ·have hp8 := of_decide_eq_false hb7
  rw [if_neg hp8] at hm
  iterate 3 refine WL.pass rfl rfl rfl rfl hb7 rfl rfl ?_
  refine WL.op rfl (.pickF (.tmp rfl) hb7 .bool) ?_
  refine WL.mv rfl rfl ?_
  refine WL.pass rfl rfl rfl rfl rfl rfl rfl ?_
  refine WL.op rfl (.pickF (.tmp rfl) rfl .bool) ?_
  refine WL.mv rfl rfl ?_
  refine WL.pass rfl rfl rfl rfl rfl rfl rfl ?_
  refine WL.op rfl (.pickF (.tmp rfl) rfl .bool) ?_
  refine WL.mv rfl rfl ?_
  iterate 3 refine WL.pass rfl rfl rfl rfl rfl rfl rfl ?_
  refine WL.op rfl (.pickF (.tmp rfl) rfl .bool) ?_
  refine WL.mv rfl rfl ?_
  iterate 3 refine WL.pass rfl rfl rfl rfl rfl rfl rfl ?_
  refine WL.op rfl (.pickF (.tmp rfl) rfl .bool) ?_
  refine WL.gv rfl rfl ?_
  refine WL.ns ?_
  cases hm
  exact W.ret1 () rfl (.tmp rfl) trivial

theorem law07_short_spec (n : Nat) (p : List api_Step) (r : Bool) (hm : M.law07_short n p = some r) : FSpec Tryd.prog 16 [((tL tapi_Step).is p)] (tB.is r) := by
 unfold M.law07_short at hm
 refine FSpec.of Tryd.func16 rfl rfl rfl (fun g0 => ?_)
 refine W.sr ?_
 refine WL.op rfl (.assign .bool) ?_
 refine WL.ns ?_
 refine W.seq ?_
 refine W.sr ?_
 refine WL.op rfl (.assign .i64) ?_
 refine WL.ns ?_
 refine W.block ?_
 obtain ⟨s1, hs2, hk3⟩ := bind_some hm
 clear hm
 refine W.loop (fun m (s : Int) => M.law07_short_loop1 p m s = some s1) (fun s => [(3, ((tI .i64).is s)), (0, ((tL tapi_Step).is p))]) (fun s => []) _ (0 : Int) hs2 ⟨Ent.q rfl, Ent.q rfl, trivial⟩ trivial ?_
 rintro n4 i hm
 try dsimp only at hm
 change W _ _ _ _ _ _ _ [(3, ((tI .i64).is i)), (0, ((tL tapi_Step).is p))] []
 cases n4 with
 | zero => rw [M.law07_short_loop1.eq_1] at hm; cases hm
 | succ n4 =>
  rw [M.law07_short_loop1.eq_2] at hm
  refine W.seq ?_
  refine W.sr ?_
  refine WL.mv rfl rfl ?_
  refine WL.mv rfl rfl ?_
  refine WL.op rfl (.lenL Tryd.underlying33 (.tmp rfl)) ?_
  refine WL.op rfl (.ltI (.tmp rfl) (.tmp rfl)) ?_
  refine WL.ns ?_
  refine W.cond (.tmp rfl) (fun hc5 => ?_) (fun hc5 => ?_)
  ·have hp6 := of_decide_eq_true hc5
   rw [if_pos hp6] at hm
   refine W.skip ?_
   refine WN.seq ?_
   refine W.seq ?_
   refine W.block ?_
   refine W.sr ?_
   refine WL.mv rfl rfl ?_
   refine WL.mv rfl rfl ?_
   obtain ⟨v, hv7, hm⟩ := bind_some hm
   refine WL.op rfl (.idx hv7 Tryd.underlying33 Tryd.sizeOf41 (.tmp rfl) (.tmp rfl)) ?_
   refine WL.op rfl (.fieldAddr Tryd.underlying41 rfl (fun w => ⟨0, Tryd.sizeOf9 w⟩) fapi_Step_1 (.tmp rfl)) ?_
   refine WL.op rfl (.load ty9 (.tmp rfl)) ?_
   refine WL.op rfl (.lenS Tryd.underlying9 (.tmp rfl)) ?_
   refine WL.op rfl (.gtI (.tmp rfl) .i64) ?_
   refine WL.ns ?_
   refine W.cond (.tmp rfl) (fun hc8 => ?_) (fun hc8 => ?_)
   ·have hp9 := of_decide_eq_true hc8
    rw [if_pos hp9] at hm
    refine W.sr ?_
    refine WL.op rfl (.assign .bool) ?_
    refine WL.ns ?_
    have hr10 := Option.some.inj hm
    clear hm
    subst hr10
    have hm := hk3
    try dsimp only at hm
    cases hm
    exact W.ret1 () rfl (.tmp rfl) trivial
   ·have hp9 := of_decide_eq_false hc8
    rw [if_neg hp9] at hm
    refine W.skip ?_
    refine WN.block ?_
    refine WN.seq ?_
    refine W.region ?_
    refine WL.mv rfl rfl ?_
    refine WL.lenL (s := 0) (.tmp rfl) fun hl11 => ?_
    refine WL.op rfl (.addI1 (.tmp rfl) .i64 hp6 hl11) ?_
    refine WL.gv rfl rfl ?_
    refine WL.nil ?_
    exact WN.again n4 (i + 1) (Nat.lt_succ_self n4) hm ⟨Ent.q rfl, Ent.q rfl, trivial⟩ trivial
  ·have hp6 := of_decide_eq_false hc5
   rw [if_neg hp6] at hm
   refine W.exit rfl ?_
   have hr12 := Option.some.inj hm
   clear hm
   subst hr12
   have hm := hk3
   try dsimp only at hm
   refine WN.seq ?_
   refine W.sr ?_
   refine WL.mv rfl rfl ?_
   refine WL.op rfl (.lenL Tryd.underlying33 (.tmp rfl)) ?_
   refine WL.op rfl (.leI (.tmp rfl) .i64) ?_
   refine WL.gv rfl rfl ?_
   refine WL.ns ?_
   cases hm
   exact W.ret1 () rfl (.tmp rfl) trivial

theorem r07_book_spec (s0_ : api_Step) (r : Bool) (hm : M.r07_book s0_ = some r) : FSpec Tryd.prog 43 [(tapi_Step.is s0_)] (tB.is r) := by
 unfold M.r07_book at hm
 refine FSpec.of Tryd.func43 rfl rfl rfl (fun g0 => ?_)
 refine W.sr ?_
 refine WL.op rfl (.box (.tmp rfl)) ?_
 refine WL.op rfl (.assign .bool) ?_
 refine WL.nr ?_
 refine WL.op rfl (.fieldAddr Tryd.underlying41 rfl (fun w => ⟨0, Tryd.sizeOf3 w⟩) fapi_Step_0 (.tmp rfl)) ?_
 refine WL.op rfl (.load ty3 (.tmp rfl)) ?_
 refine WL.op rfl (.eqI (.tmp rfl) .i64) ?_
 refine WL.mv rfl rfl ?_
 rcases bcases (decide (s0_.Kind = (0 : Int))) with hb1 | hb1
 ·have hp2 := of_decide_eq_true hb1
  rw [if_pos hp2] at hm
  refine WL.run rfl rfl rfl rfl hb1 rfl rfl (Op1.fieldAddr Tryd.underlying41 rfl (fun w => ⟨0, Tryd.sizeOf9 w⟩) fapi_Step_1 (.tmp rfl)) ?_
  refine WL.run rfl rfl rfl rfl hb1 rfl rfl (Op1.load ty9 (.tmp rfl)) ?_
  refine WL.run rfl rfl rfl rfl hb1 rfl rfl (Op1.eqS (.tmp rfl) (.str rfl (by decide))) ?_
  refine WL.op rfl (.pickT (.tmp rfl) hb1 (.tmp rfl)) ?_
  refine WL.gv rfl rfl ?_
  refine WL.ns ?_
  cases hm
  exact W.ret1 () rfl (.tmp rfl) trivial
 ·have hp2 := of_decide_eq_false hb1
  rw [if_neg hp2] at hm
  iterate 3 refine WL.pass rfl rfl rfl rfl hb1 rfl rfl ?_
  refine WL.op rfl (.pickF (.tmp rfl) hb1 .bool) ?_
  refine WL.gv rfl rfl ?_
  refine WL.ns ?_
  cases hm
  exact W.ret1 () rfl (.tmp rfl) trivial

theorem r03_digits_spec (n : Nat) (s0_ : Str) (r : Int) (hm : M.r03_digits n s0_ = some r) : FSpec Tryd.prog 64 [(tS.is s0_)] ((tI .i64).is r) := by
 unfold M.r03_digits at hm
 refine FSpec.of Tryd.func64 rfl rfl rfl (fun g0 => ?_)
 refine W.sr ?_
 refine WL.op rfl (.assign .i64) ?_
 refine WL.nr ?_
 refine WL.op rfl (.assign .i64) ?_
 refine WL.ns ?_
 refine W.seq ?_
 refine W.block ?_
 obtain ⟨s1, hs2, hk3⟩ := bind_some hm
 clear hm
 refine W.loop (fun m (s : Int) => M.r03_digits_loop1 s0_ m s = some s1) (fun s => [(3, ((tI .i64).is s)), (0, (tS.is s0_))]) (fun s => []) _ (0 : Int) hs2 ⟨Ent.q rfl, Ent.q rfl, trivial⟩ trivial ?_
 rintro n4 n0_ hm
 try dsimp only at hm
 change W _ _ _ _ _ _ _ [(3, ((tI .i64).is n0_)), (0, (tS.is s0_))] []
 cases n4 with
 | zero => rw [M.r03_digits_loop1.eq_1] at hm; cases hm
 | succ n4 =>
  rw [M.r03_digits_loop1.eq_2] at hm
  refine W.seq ?_
  refine W.sr ?_
  refine WL.mv rfl rfl ?_
  refine WL.mv rfl rfl ?_
  refine WL.op rfl (.lenS Tryd.underlying9 (.tmp rfl)) ?_
  refine WL.op rfl (.ltI (.tmp rfl) (.tmp rfl)) ?_
  refine WL.mv rfl rfl ?_
  rcases bcases (decide (n0_ < (s0_.length : Int))) with hb5 | hb5
  ·have hp6 := of_decide_eq_true hb5
   rw [if_pos hp6] at hm
   refine WL.run rfl rfl rfl rfl hb5 rfl rfl (Op1.move (.tmp rfl)) ?_
   refine WL.run rfl rfl rfl rfl hb5 rfl rfl (Op1.move (.tmp rfl)) ?_
   obtain ⟨b, hv7, hm⟩ := bind_some hm
   refine WL.run rfl rfl rfl rfl hb5 rfl rfl (Op1.sidx hv7 Tryd.underlying9 (.tmp rfl) (.tmp rfl)) ?_
   refine WL.run rfl rfl rfl rfl hb5 rfl rfl (Op1.geI (.tmp rfl) (.int (inR8.2 (by omega)))) ?_
   refine WL.op rfl (.pickT (.tmp rfl) hb5 (.tmp rfl)) ?_
   refine WL.mv rfl rfl ?_
   rcases bcases (decide ((48 : Int) ≤ (b.toNat : Int))) with hb8 | hb8
   ·have hp9 := of_decide_eq_true hb8
    rw [if_pos hp9] at hm
    refine WL.run rfl rfl rfl rfl hb8 rfl rfl (Op1.move (.tmp rfl)) ?_
    refine WL.run rfl rfl rfl rfl hb8 rfl rfl (Op1.move (.tmp rfl)) ?_
    obtain ⟨b1, hv10, hm⟩ := bind_some hm
    refine WL.run rfl rfl rfl rfl hb8 rfl rfl (Op1.sidx hv10 Tryd.underlying9 (.tmp rfl) (.tmp rfl)) ?_
    refine WL.run rfl rfl rfl rfl hb8 rfl rfl (Op1.leI (.tmp rfl) (.int (inR8.2 (by omega)))) ?_
    refine WL.op rfl (.pickT (.tmp rfl) hb8 (.tmp rfl)) ?_
    refine WL.ns ?_
    refine W.cond (.tmp rfl) (fun hc11 => ?_) (fun hc11 => ?_)
    ·have hp12 := of_decide_eq_true hc11
     rw [if_pos hp12] at hm
     refine W.skip ?_
     refine WN.seq ?_
     refine W.block ?_
     refine W.region ?_
     refine WL.mv rfl rfl ?_
     refine WL.lenS (s := 0) (.tmp rfl) fun hl13 => ?_
     refine WL.op rfl (.addI1 (.tmp rfl) .i64 hp6 hl13) ?_
     refine WL.gv rfl rfl ?_
     refine WL.nil ?_
     refine WN.block ?_
     exact WN.again n4 (n0_ + 1) (Nat.lt_succ_self n4) hm ⟨Ent.q rfl, Ent.q rfl, trivial⟩ trivial
    ·have hp12 := of_decide_eq_false hc11
     rw [if_neg hp12] at hm
     refine W.exit rfl ?_
     have hr14 := Option.some.inj hm
     clear hm
     subst hr14
     have hm := hk3
     try dsimp only at hm
     refine WN.seq ?_
     refine W.sr ?_
     refine WL.mv rfl rfl ?_
     refine WL.gv rfl rfl ?_
     refine WL.ns ?_
     cases hm
     exact W.ret1 () rfl (.tmp rfl) trivial
   ·have hp9 := of_decide_eq_false hb8
    rw [if_neg hp9] at hm
    iterate 4 refine WL.pass rfl rfl rfl rfl hb8 rfl rfl ?_
    refine WL.op rfl (.pickF (.tmp rfl) hb8 .bool) ?_
    refine WL.ns ?_
    refine W.condF (.tmp rfl) ?_
    refine W.exit rfl ?_
    have hr15 := Option.some.inj hm
    clear hm
    subst hr15
    have hm := hk3
    try dsimp only at hm
    refine WN.seq ?_
    refine W.sr ?_
    refine WL.mv rfl rfl ?_
    refine WL.gv rfl rfl ?_
    refine WL.ns ?_
    cases hm
    exact W.ret1 () rfl (.tmp rfl) trivial
  ·have hp6 := of_decide_eq_false hb5
   rw [if_neg hp6] at hm
   iterate 4 refine WL.pass rfl rfl rfl rfl hb5 rfl rfl ?_
   refine WL.op rfl (.pickF (.tmp rfl) hb5 .bool) ?_
   refine WL.mv rfl rfl ?_
   iterate 4 refine WL.pass rfl rfl rfl rfl rfl rfl rfl ?_
   refine WL.op rfl (.pickF (.tmp rfl) rfl .bool) ?_
   refine WL.ns ?_
   refine W.condF (.tmp rfl) ?_
   refine W.exit rfl ?_
   have hr16 := Option.some.inj hm
   clear hm
   subst hr16
   have hm := hk3
   try dsimp only at hm
   refine WN.seq ?_
   refine W.sr ?_
   refine WL.mv rfl rfl ?_
   refine WL.gv rfl rfl ?_
   refine WL.ns ?_
   cases hm
   exact W.ret1 () rfl (.tmp rfl) trivial

theorem r03_May_spec (n : Nat) (s0_ : Str) (r : Bool) (hm : M.r03_May n s0_ = some r) : FSpec Tryd.prog 44 [(tS.is s0_)] (tB.is r) := by
 unfold M.r03_May at hm
 refine FSpec.of Tryd.func44 rfl rfl rfl (fun g0 => ?_)
 refine W.sr ?_
 refine WL.op rfl (.assign .bool) ?_
 refine WL.nr ?_
 refine WL.mv rfl rfl ?_
 obtain ⟨digits, hv1, hm⟩ := bind_some hm
 refine WL.op rfl (.call Tryd.call64 (r03_digits_spec _ _ _ hv1) ⟨(.tmp rfl), trivial⟩) ?_
 refine WL.gv rfl rfl ?_
 refine WL.ns ?_
 refine W.seq ?_
 obtain ⟨s2, hs3, hk4⟩ := bind_some hm
 clear hm
 refine W.join (fun s : Bool => s = s2) (fun s => [(24, (tB.is s)), (0, (tS.is s0_)), (3, ((tI .i64).is digits))]) (fun s => []) ?_ ?_
 ·rintro v hj31
  try dsimp only at hj31
  subst hj31
  have hm := hk4
  clear hk4
  try dsimp only at hm
  change W _ _ _ _ _ _ _ [(24, (tB.is v)), (0, (tS.is s0_)), (3, ((tI .i64).is digits))] []
  refine W.cond (.tmp rfl) (fun hc13 => ?_) (fun hc13 => ?_)
  ·have hp14 := hc13
   rw [if_pos hp14] at hm
   refine W.sr ?_
   refine WL.op rfl (.assign .bool) ?_
   refine WL.ns ?_
   cases hm
   exact W.ret1 () rfl (.tmp rfl) trivial
  ·have hp14 := ne_of_false hc13
   rw [if_neg hp14] at hm
   refine W.skip ?_
   refine WN.seq ?_
   refine W.seq ?_
   refine W.sr ?_
   refine WL.mv rfl rfl ?_
   refine WL.gv rfl rfl ?_
   refine WL.ns ?_
   refine W.block ?_
   obtain ⟨s15, hs16, hk17⟩ := bind_some hm
   clear hm
   refine W.loop (fun m (s : Int) => M.r03_May_loop1 s0_ m s = some s15) (fun s => [(4, ((tI .i64).is s)), (0, (tS.is s0_))]) (fun s => []) _ digits hs16 ⟨Ent.q rfl, Ent.q rfl, trivial⟩ trivial ?_
   rintro n18 i hm
   try dsimp only at hm
   change W _ _ _ _ _ _ _ [(4, ((tI .i64).is i)), (0, (tS.is s0_))] []
   cases n18 with
   | zero => rw [M.r03_May_loop1.eq_1] at hm; cases hm
   | succ n18 =>
    rw [M.r03_May_loop1.eq_2] at hm
    refine W.seq ?_
    refine W.sr ?_
    refine WL.mv rfl rfl ?_
    refine WL.mv rfl rfl ?_
    refine WL.op rfl (.lenS Tryd.underlying9 (.tmp rfl)) ?_
    refine WL.op rfl (.ltI (.tmp rfl) (.tmp rfl)) ?_
    refine WL.ns ?_
    refine W.cond (.tmp rfl) (fun hc19 => ?_) (fun hc19 => ?_)
    ·have hp20 := of_decide_eq_true hc19
     rw [if_pos hp20] at hm
     refine W.skip ?_
     refine WN.seq ?_
     refine W.seq ?_
     refine W.block ?_
     refine W.sr ?_
     refine WL.mv rfl rfl ?_
     refine WL.mv rfl rfl ?_
     obtain ⟨b1, hv21, hm⟩ := bind_some hm
     refine WL.op rfl (.sidx hv21 Tryd.underlying9 (.tmp rfl) (.tmp rfl)) ?_
     refine WL.op rfl (.ltI (.tmp rfl) (.int (inR8.2 (by omega)))) ?_
     refine WL.mv rfl rfl ?_
     rcases bcases (decide ((b1.toNat : Int) < (65 : Int))) with hb22 | hb22
     ·have hp23 := of_decide_eq_true hb22
      rw [if_pos hp23] at hm
      iterate 4 refine WL.pass rfl rfl rfl rfl hb22 rfl rfl ?_
      refine WL.op rfl (.pickT (.tmp rfl) hb22 .bool) ?_
      refine WL.ns ?_
      refine W.condT (.tmp rfl) ?_
      refine W.sr ?_
      refine WL.op rfl (.assign .bool) ?_
      refine WL.ns ?_
      have hr24 := Option.some.inj hm
      clear hm
      subst hr24
      have hm := hk17
      try dsimp only at hm
      cases hm
      exact W.ret1 () rfl (.tmp rfl) trivial
     ·have hp23 := of_decide_eq_false hb22
      rw [if_neg hp23] at hm
      refine WL.run rfl rfl rfl rfl hb22 rfl rfl (Op1.move (.tmp rfl)) ?_
      refine WL.run rfl rfl rfl rfl hb22 rfl rfl (Op1.move (.tmp rfl)) ?_
      obtain ⟨b2, hv25, hm⟩ := bind_some hm
      refine WL.run rfl rfl rfl rfl hb22 rfl rfl (Op1.sidx hv25 Tryd.underlying9 (.tmp rfl) (.tmp rfl)) ?_
      refine WL.run rfl rfl rfl rfl hb22 rfl rfl (Op1.gtI (.tmp rfl) (.int (inR8.2 (by omega)))) ?_
      refine WL.op rfl (.pickF (.tmp rfl) hb22 (.tmp rfl)) ?_
      refine WL.ns ?_
      refine W.cond (.tmp rfl) (fun hc26 => ?_) (fun hc26 => ?_)
      ·have hp27 := of_decide_eq_true hc26
       rw [if_pos hp27] at hm
       refine W.sr ?_
       refine WL.op rfl (.assign .bool) ?_
       refine WL.ns ?_
       have hr28 := Option.some.inj hm
       clear hm
       subst hr28
       have hm := hk17
       try dsimp only at hm
       cases hm
       exact W.ret1 () rfl (.tmp rfl) trivial
      ·have hp27 := of_decide_eq_false hc26
       rw [if_neg hp27] at hm
       refine W.skip ?_
       refine WN.block ?_
       refine WN.seq ?_
       refine W.region ?_
       refine WL.mv rfl rfl ?_
       refine WL.lenS (s := 0) (.tmp rfl) fun hl29 => ?_
       refine WL.op rfl (.addI1 (.tmp rfl) .i64 hp20 hl29) ?_
       refine WL.gv rfl rfl ?_
       refine WL.nil ?_
       exact WN.again n18 (i + 1) (Nat.lt_succ_self n18) hm ⟨Ent.q rfl, Ent.q rfl, trivial⟩ trivial
    ·have hp20 := of_decide_eq_false hc19
     rw [if_neg hp20] at hm
     refine W.exit rfl ?_
     have hr30 := Option.some.inj hm
     clear hm
     subst hr30
     have hm := hk17
     try dsimp only at hm
     refine WN.seq ?_
     refine W.sr ?_
     refine WL.op rfl (.assign .bool) ?_
     refine WL.ns ?_
     cases hm
     exact W.ret1 () rfl (.tmp rfl) trivial
 ·have hm := hs3
  clear hs3
  refine W.region ?_
  refine WL.mv rfl rfl ?_
  refine WL.op rfl (.ltI (.tmp rfl) .i64) ?_
  refine WL.mv rfl rfl ?_
  rcases bcases (decide (digits < (1 : Int))) with hb5 | hb5
  ·have hp6 := of_decide_eq_true hb5
   rw [if_pos hp6] at hm
   iterate 2 refine WL.pass rfl rfl rfl rfl hb5 rfl rfl ?_
   refine WL.op rfl (.pickT (.tmp rfl) hb5 .bool) ?_
   refine WL.mv rfl rfl ?_
   iterate 3 refine WL.pass rfl rfl rfl rfl rfl rfl rfl ?_
   refine WL.op rfl (.pickT (.tmp rfl) rfl .bool) ?_
   refine WL.mv rfl rfl ?_
   iterate 5 refine WL.pass rfl rfl rfl rfl rfl rfl rfl ?_
   refine WL.op rfl (.pickT (.tmp rfl) rfl .bool) ?_
   refine WL.nil ?_
   exact WN.meet true (Option.some.inj hm) ⟨Ent.q rfl, Ent.q rfl, Ent.q rfl, trivial⟩ trivial
  ·have hp6 := of_decide_eq_false hb5
   rw [if_neg hp6] at hm
   refine WL.run rfl rfl rfl rfl hb5 rfl rfl (Op1.move (.tmp rfl)) ?_
   refine WL.run rfl rfl rfl rfl hb5 rfl rfl (Op1.gtI (.tmp rfl) .i64) ?_
   refine WL.op rfl (.pickF (.tmp rfl) hb5 (.tmp rfl)) ?_
   refine WL.mv rfl rfl ?_
   rcases bcases (decide ((4 : Int) < digits)) with hb7 | hb7
   ·have hp8 := of_decide_eq_true hb7
    rw [if_pos hp8] at hm
    iterate 3 refine WL.pass rfl rfl rfl rfl hb7 rfl rfl ?_
    refine WL.op rfl (.pickT (.tmp rfl) hb7 .bool) ?_
    refine WL.mv rfl rfl ?_
    iterate 5 refine WL.pass rfl rfl rfl rfl rfl rfl rfl ?_
    refine WL.op rfl (.pickT (.tmp rfl) rfl .bool) ?_
    refine WL.nil ?_
    exact WN.meet true (Option.some.inj hm) ⟨Ent.q rfl, Ent.q rfl, Ent.q rfl, trivial⟩ trivial
   ·have hp8 := of_decide_eq_false hb7
    rw [if_neg hp8] at hm
    refine WL.run rfl rfl rfl rfl hb7 rfl rfl (Op1.move (.tmp rfl)) ?_
    obtain ⟨b, hv9, hm⟩ := bind_some hm
    refine WL.run rfl rfl rfl rfl hb7 rfl rfl (Op1.sidx hv9 Tryd.underlying9 (.tmp rfl) .i64) ?_
    refine WL.run rfl rfl rfl rfl hb7 rfl rfl (Op1.eqI (.tmp rfl) (.int (inR8.2 (by omega)))) ?_
    refine WL.op rfl (.pickF (.tmp rfl) hb7 (.tmp rfl)) ?_
    refine WL.mv rfl rfl ?_
    rcases bcases (decide ((b.toNat : Int) = (48 : Int))) with hb10 | hb10
    ·have hp11 := of_decide_eq_true hb10
     rw [if_pos hp11] at hm
     iterate 5 refine WL.pass rfl rfl rfl rfl hb10 rfl rfl ?_
     refine WL.op rfl (.pickT (.tmp rfl) hb10 .bool) ?_
     refine WL.nil ?_
     exact WN.meet true (Option.some.inj hm) ⟨Ent.q rfl, Ent.q rfl, Ent.q rfl, trivial⟩ trivial
    ·have hp11 := of_decide_eq_false hb10
     rw [if_neg hp11] at hm
     refine WL.run rfl rfl rfl rfl hb10 rfl rfl (Op1.move (.tmp rfl)) ?_
     refine WL.run rfl rfl rfl rfl hb10 rfl rfl (Op1.lenS Tryd.underlying9 (.tmp rfl)) ?_
     refine WL.run rfl rfl rfl rfl hb10 rfl rfl (Op1.move (.tmp rfl)) ?_
     obtain ⟨v1, hv12, hm⟩ := bind_some hm
     refine WL.run rfl rfl rfl rfl hb10 rfl rfl (Op1.subC hv12 (.tmp rfl) (.tmp rfl)) ?_
     refine WL.run rfl rfl rfl rfl hb10 rfl rfl (Op1.gtI (.tmp rfl) .i64) ?_
     refine WL.op rfl (.pickF (.tmp rfl) hb10 (.tmp rfl)) ?_
     refine WL.nil ?_
     exact WN.meet (decide ((3 : Int) < v1)) (Option.some.inj hm) ⟨Ent.q rfl, Ent.q rfl, Ent.q rfl, trivial⟩ trivial

theorem r07_May_spec (n : Nat) (p : List api_Step) (r : Bool) (hm : M.r07_May n p = some r) : FSpec Tryd.prog 22 [((tL tapi_Step).is p)] (tB.is r) := by
 unfold M.r07_May at hm
 refine FSpec.of Tryd.func22 rfl rfl rfl (fun g0 => ?_)
 refine W.sr ?_
 refine WL.op rfl (.assign .bool) ?_
 refine WL.ns ?_
 refine W.seq ?_
 refine W.sr ?_
 refine WL.mv rfl rfl ?_
 refine WL.op rfl (.lenL Tryd.underlying33 (.tmp rfl)) ?_
 refine WL.op rfl (.gtI (.tmp rfl) .i64) ?_
 refine WL.ns ?_
 refine W.cond (.tmp rfl) (fun hc1 => ?_) (fun hc1 => ?_)
 ·have hp2 := of_decide_eq_true hc1
  rw [if_pos hp2] at hm
  refine W.sr ?_
  refine WL.op rfl (.assign .bool) ?_
  refine WL.ns ?_
  cases hm
  exact W.ret1 () rfl (.tmp rfl) trivial
 ·have hp2 := of_decide_eq_false hc1
  rw [if_neg hp2] at hm
  refine W.skip ?_
  refine WN.seq ?_
  refine W.seq ?_
  refine W.sr ?_
  refine WL.op rfl (.assign .i64) ?_
  refine WL.ns ?_
  refine W.block ?_
  obtain ⟨s3, hs4, hk5⟩ := bind_some hm
  clear hm
  refine W.loop (fun m (s : Int) => M.r07_May_loop1 p m s = some s3) (fun s => [(3, ((tI .i64).is s)), (0, ((tL tapi_Step).is p))]) (fun s => []) _ (0 : Int) hs4 ⟨Ent.q rfl, Ent.q rfl, trivial⟩ trivial ?_
  rintro n6 i hm
  try dsimp only at hm
  change W _ _ _ _ _ _ _ [(3, ((tI .i64).is i)), (0, ((tL tapi_Step).is p))] []
  cases n6 with
  | zero => rw [M.r07_May_loop1.eq_1] at hm; cases hm
  | succ n6 =>
   rw [M.r07_May_loop1.eq_2] at hm
   refine W.seq ?_
   refine W.sr ?_
   refine WL.mv rfl rfl ?_
   refine WL.mv rfl rfl ?_
   refine WL.op rfl (.lenL Tryd.underlying33 (.tmp rfl)) ?_
   refine WL.op rfl (.ltI (.tmp rfl) (.tmp rfl)) ?_
   refine WL.ns ?_
   refine W.cond (.tmp rfl) (fun hc7 => ?_) (fun hc7 => ?_)
   ·have hp8 := of_decide_eq_true hc7
    rw [if_pos hp8] at hm
    refine W.skip ?_
    refine WN.seq ?_
    refine W.seq ?_
    refine W.block ?_
    refine W.seq ?_
    obtain ⟨s9, hs10, hk11⟩ := bind_some hm
    clear hm
    refine W.join (fun s : Bool => s = s9) (fun s => [(21, (tB.is s)), (0, ((tL tapi_Step).is p)), (3, ((tI .i64).is i))]) (fun s => []) ?_ ?_
    ·rintro v hj33
     try dsimp only at hj33
     subst hj33
     have hm := hk11
     clear hk11
     try dsimp only at hm
     change W _ _ _ _ _ _ _ [(21, (tB.is v)), (0, ((tL tapi_Step).is p)), (3, ((tI .i64).is i))] []
     refine W.cond (.tmp rfl) (fun hc16 => ?_) (fun hc16 => ?_)
     ·have hp17 := hc16
      rw [if_pos hp17] at hm
      refine W.exit rfl ?_
      refine WN.seq ?_
      refine W.region ?_
      refine WL.mv rfl rfl ?_
      refine WL.lenL (s := 0) (.tmp rfl) fun hl18 => ?_
      refine WL.op rfl (.addI1 (.tmp rfl) .i64 hp8 hl18) ?_
      refine WL.gv rfl rfl ?_
      refine WL.nil ?_
      exact WN.again n6 (i + 1) (Nat.lt_succ_self n6) hm ⟨Ent.q rfl, Ent.q rfl, trivial⟩ trivial
     ·have hp17 := ne_of_false hc16
      rw [if_neg hp17] at hm
      refine W.skip ?_
      refine WN.seq ?_
      refine W.sr ?_
      refine WL.mv rfl rfl ?_
      refine WL.mv rfl rfl ?_
      obtain ⟨v2, hv19, hm⟩ := bind_some hm
      refine WL.op rfl (.idx hv19 Tryd.underlying33 Tryd.sizeOf41 (.tmp rfl) (.tmp rfl)) ?_
      refine WL.op rfl (.fieldAddr Tryd.underlying41 rfl (fun w => ⟨0, Tryd.sizeOf3 w⟩) fapi_Step_0 (.tmp rfl)) ?_
      refine WL.op rfl (.load ty3 (.tmp rfl)) ?_
      refine WL.op rfl (.ltI (.tmp rfl) .i64) ?_
      refine WL.mv rfl rfl ?_
      rcases bcases (decide (v2.Kind < (1 : Int))) with hb20 | hb20
      ·have hp21 := of_decide_eq_true hb20
       rw [if_pos hp21] at hm
       iterate 6 refine WL.pass rfl rfl rfl rfl hb20 rfl rfl ?_
       refine WL.op rfl (.pickT (.tmp rfl) hb20 .bool) ?_
       refine WL.mv rfl rfl ?_
       iterate 7 refine WL.pass rfl rfl rfl rfl rfl rfl rfl ?_
       refine WL.op rfl (.pickT (.tmp rfl) rfl .bool) ?_
       refine WL.ns ?_
       refine W.condT (.tmp rfl) ?_
       refine W.sr ?_
       refine WL.op rfl (.assign .bool) ?_
       refine WL.ns ?_
       have hr22 := Option.some.inj hm
       clear hm
       subst hr22
       have hm := hk5
       try dsimp only at hm
       cases hm
       exact W.ret1 () rfl (.tmp rfl) trivial
      ·have hp21 := of_decide_eq_false hb20
       rw [if_neg hp21] at hm
       refine WL.run rfl rfl rfl rfl hb20 rfl rfl (Op1.move (.tmp rfl)) ?_
       refine WL.run rfl rfl rfl rfl hb20 rfl rfl (Op1.move (.tmp rfl)) ?_
       obtain ⟨v3, hv23, hm⟩ := bind_some hm
       refine WL.run rfl rfl rfl rfl hb20 rfl rfl (Op1.idx hv23 Tryd.underlying33 Tryd.sizeOf41 (.tmp rfl) (.tmp rfl)) ?_
       refine WL.run rfl rfl rfl rfl hb20 rfl rfl (Op1.fieldAddr Tryd.underlying41 rfl (fun w => ⟨0, Tryd.sizeOf3 w⟩) fapi_Step_0 (.tmp rfl)) ?_
       refine WL.run rfl rfl rfl rfl hb20 rfl rfl (Op1.load ty3 (.tmp rfl)) ?_
       refine WL.run rfl rfl rfl rfl hb20 rfl rfl (Op1.gtI (.tmp rfl) .i64) ?_
       refine WL.op rfl (.pickF (.tmp rfl) hb20 (.tmp rfl)) ?_
       refine WL.mv rfl rfl ?_
       rcases bcases (decide ((7 : Int) < v3.Kind)) with hb24 | hb24
       ·have hp25 := of_decide_eq_true hb24
        rw [if_pos hp25] at hm
        iterate 7 refine WL.pass rfl rfl rfl rfl hb24 rfl rfl ?_
        refine WL.op rfl (.pickT (.tmp rfl) hb24 .bool) ?_
        refine WL.ns ?_
        refine W.condT (.tmp rfl) ?_
        refine W.sr ?_
        refine WL.op rfl (.assign .bool) ?_
        refine WL.ns ?_
        have hr26 := Option.some.inj hm
        clear hm
        subst hr26
        have hm := hk5
        try dsimp only at hm
        cases hm
        exact W.ret1 () rfl (.tmp rfl) trivial
       ·have hp25 := of_decide_eq_false hb24
        rw [if_neg hp25] at hm
        refine WL.run rfl rfl rfl rfl hb24 rfl rfl (Op1.move (.tmp rfl)) ?_
        refine WL.run rfl rfl rfl rfl hb24 rfl rfl (Op1.move (.tmp rfl)) ?_
        obtain ⟨v4, hv27, hm⟩ := bind_some hm
        refine WL.run rfl rfl rfl rfl hb24 rfl rfl (Op1.idx hv27 Tryd.underlying33 Tryd.sizeOf41 (.tmp rfl) (.tmp rfl)) ?_
        refine WL.run rfl rfl rfl rfl hb24 rfl rfl (Op1.fieldAddr Tryd.underlying41 rfl (fun w => ⟨0, Tryd.sizeOf9 w⟩) fapi_Step_1 (.tmp rfl)) ?_
        refine WL.run rfl rfl rfl rfl hb24 rfl rfl (Op1.load ty9 (.tmp rfl)) ?_
        obtain ⟨may, hv28, hm⟩ := bind_some hm
        refine WL.run rfl rfl rfl rfl hb24 rfl rfl (Op1.call Tryd.call44 (r03_May_spec _ _ _ hv28) ⟨(.tmp rfl), trivial⟩) ?_
        refine WL.run rfl rfl rfl rfl hb24 rfl rfl (Op1.notB (.tmp rfl)) ?_
        refine WL.op rfl (.pickF (.tmp rfl) hb24 (.tmp rfl)) ?_
        refine WL.ns ?_
        refine W.cond (.tmp rfl) (fun hc29 => ?_) (fun hc29 => ?_)
        ·have hp30 := not_pos hc29
         rw [if_pos hp30] at hm
         refine W.sr ?_
         refine WL.op rfl (.assign .bool) ?_
         refine WL.ns ?_
         have hr31 := Option.some.inj hm
         clear hm
         subst hr31
         have hm := hk5
         try dsimp only at hm
         cases hm
         exact W.ret1 () rfl (.tmp rfl) trivial
        ·have hp30 := not_neg hc29
         rw [if_neg hp30] at hm
         refine W.skip ?_
         refine WN.block ?_
         refine WN.seq ?_
         refine W.region ?_
         refine WL.mv rfl rfl ?_
         refine WL.lenL (s := 0) (.tmp rfl) fun hl32 => ?_
         refine WL.op rfl (.addI1 (.tmp rfl) .i64 hp8 hl32) ?_
         refine WL.gv rfl rfl ?_
         refine WL.nil ?_
         exact WN.again n6 (i + 1) (Nat.lt_succ_self n6) hm ⟨Ent.q rfl, Ent.q rfl, trivial⟩ trivial
    ·have hm := hs10
     clear hs10
     refine W.region ?_
     refine WL.mv rfl rfl ?_
     refine WL.op rfl (.eqI (.tmp rfl) .i64) ?_
     refine WL.mv rfl rfl ?_
     rcases bcases (decide (i = (0 : Int))) with hb12 | hb12
     ·have hp13 := of_decide_eq_true hb12
      rw [if_pos hp13] at hm
      refine WL.run rfl rfl rfl rfl hb12 rfl rfl (Op1.move (.tmp rfl)) ?_
      refine WL.run rfl rfl rfl rfl hb12 rfl rfl (Op1.move (.tmp rfl)) ?_
      obtain ⟨v1, hv14, hm⟩ := bind_some hm
      refine WL.run rfl rfl rfl rfl hb12 rfl rfl (Op1.idx hv14 Tryd.underlying33 Tryd.sizeOf41 (.tmp rfl) (.tmp rfl)) ?_
      refine WL.run rfl rfl rfl rfl hb12 rfl rfl (Op1.load ty41 (.tmp rfl)) ?_
      obtain ⟨book, hv15, hm⟩ := bind_some hm
      refine WL.run rfl rfl rfl rfl hb12 rfl rfl (Op1.call Tryd.call43 (r07_book_spec _ _ hv15) ⟨(.tmp rfl), trivial⟩) ?_
      refine WL.op rfl (.pickT (.tmp rfl) hb12 (.tmp rfl)) ?_
      refine WL.nil ?_
      exact WN.meet book (Option.some.inj hm) ⟨Ent.q rfl, Ent.q rfl, Ent.q rfl, trivial⟩ trivial
     ·have hp13 := of_decide_eq_false hb12
      rw [if_neg hp13] at hm
      iterate 5 refine WL.pass rfl rfl rfl rfl hb12 rfl rfl ?_
      refine WL.op rfl (.pickF (.tmp rfl) hb12 .bool) ?_
      refine WL.nil ?_
      exact WN.meet false (Option.some.inj hm) ⟨Ent.q rfl, Ent.q rfl, Ent.q rfl, trivial⟩ trivial
   ·have hp8 := of_decide_eq_false hc7
    rw [if_neg hp8] at hm
    refine W.exit rfl ?_
    have hr34 := Option.some.inj hm
    clear hm
    subst hr34
    have hm := hk5
    try dsimp only at hm
    refine WN.seq ?_
    refine W.sr ?_
    refine WL.op rfl (.assign .bool) ?_
    refine WL.ns ?_
    cases hm
    exact W.ret1 () rfl (.tmp rfl) trivial

theorem r07_Names_spec  (r : (List Str)) (hm : M.r07_Names  = some r) : FSpec Tryd.prog 45 [] ((tL tS).is r) := by
 unfold M.r07_Names at hm
 refine FSpec.of Tryd.func45 rfl rfl rfl (fun g0 => ?_)
 refine W.sr ?_
 refine WL.op rfl (.assign (.nil (t := tS))) ?_
 refine WL.nr ?_
 refine WL.op rfl (.buildSlice (n := 8) (ys := [(0, ([98, 111, 111, 107] : Str)), (1, ([112, 97, 114, 116] : Str)), (2, ([115, 101, 99, 116, 105, 111, 110] : Str)), (3, ([112, 97, 114, 97, 103, 114, 97, 112, 104] : Str)), (4, ([116, 97, 98, 108, 101] : Str)), (5, ([114, 111, 119] : Str)), (6, ([99, 101, 108, 108] : Str)), (7, ([110, 111, 116, 101] : Str))]) (z := ([] : Str)) (xs := [([98, 111, 111, 107] : Str), ([112, 97, 114, 116] : Str), ([115, 101, 99, 116, 105, 111, 110] : Str), ([112, 97, 114, 97, 103, 114, 97, 112, 104] : Str), ([116, 97, 98, 108, 101] : Str), ([114, 111, 119] : Str), ([99, 101, 108, 108] : Str), ([110, 111, 116, 101] : Str)]) Tryd.underlying65 el9 ze9 ⟨rfl, (.str rfl (by decide)), rfl, (.str rfl (by decide)), rfl, (.str rfl (by decide)), rfl, (.str rfl (by decide)), rfl, (.str rfl (by decide)), rfl, (.str rfl (by decide)), rfl, (.str rfl (by decide)), rfl, (.str rfl (by decide)), trivial⟩ (by simp) (by decide) rfl) ?_
 refine WL.gv rfl rfl ?_
 refine WL.ns ?_
 cases hm
 exact W.ret1 () rfl (.tmp rfl) trivial

theorem r07_Text_spec (n : Nat) (p : List api_Step) (r : Str) (hm : M.r07_Text n p = some r) : FSpec Tryd.prog 23 [((tL tapi_Step).is p)] (tS.is r) := by
 unfold M.r07_Text at hm
 refine FSpec.of Tryd.func23 rfl rfl rfl (fun g0 => ?_)
 refine W.sr ?_
 refine WL.op rfl (.assign (.str rfl (by decide))) ?_
 refine WL.ns ?_
 refine W.seq ?_
 refine W.sr ?_
 refine WL.mv rfl rfl ?_
 obtain ⟨may, hv1, hm⟩ := bind_some hm
 refine WL.op rfl (.call Tryd.call22 (r07_May_spec _ _ _ hv1) ⟨(.tmp rfl), trivial⟩) ?_
 refine WL.op rfl (.notB (.tmp rfl)) ?_
 refine WL.ns ?_
 refine W.cond (.tmp rfl) (fun hc2 => ?_) (fun hc2 => ?_)
 ·have hp3 := not_pos hc2
  rw [if_pos hp3] at hm
  refine W.sr ?_
  refine WL.op rfl (.assign (.str rfl (by decide))) ?_
  refine WL.ns ?_
  cases hm
  exact W.ret1 () rfl (.tmp rfl) trivial
 ·have hp3 := not_neg hc2
  rw [if_neg hp3] at hm
  refine W.skip ?_
  refine WN.seq ?_
  refine W.sr ?_
  refine WL.op rfl (.assign (.str rfl (by decide))) ?_
  refine WL.ns ?_
  refine W.seq ?_
  refine W.sr ?_
  refine WL.op rfl (.assign .i64) ?_
  refine WL.ns ?_
  refine W.block ?_
  obtain ⟨s4, hs5, hk6⟩ := bind_some hm
  clear hm
  refine W.loop (fun m (s : Str × Int) => M.r07_Text_loop1 p m s.1 s.2 = some s4) (fun s => [(3, (tS.is s.1)), (4, ((tI .i64).is s.2)), (0, ((tL tapi_Step).is p))]) (fun s => []) _ (([] : Str), (0 : Int)) hs5 ⟨Ent.q rfl, Ent.q rfl, Ent.q rfl, trivial⟩ trivial ?_
  rintro n7 ⟨s0_, i⟩ hm
  try dsimp only at hm
  change W _ _ _ _ _ _ _ [(3, (tS.is s0_)), (4, ((tI .i64).is i)), (0, ((tL tapi_Step).is p))] []
  cases n7 with
  | zero => rw [M.r07_Text_loop1.eq_1] at hm; cases hm
  | succ n7 =>
   rw [M.r07_Text_loop1.eq_2] at hm
   refine W.seq ?_
   refine W.sr ?_
   refine WL.mv rfl rfl ?_
   refine WL.mv rfl rfl ?_
   refine WL.op rfl (.lenL Tryd.underlying33 (.tmp rfl)) ?_
   refine WL.op rfl (.ltI (.tmp rfl) (.tmp rfl)) ?_
   refine WL.ns ?_
   refine W.cond (.tmp rfl) (fun hc8 => ?_) (fun hc8 => ?_)
   ·have hp9 := of_decide_eq_true hc8
    rw [if_pos hp9] at hm
    refine W.skip ?_
    refine WN.seq ?_
    refine W.seq ?_
    refine W.block ?_
    obtain ⟨s10, hs11, hk12⟩ := bind_some hm
    clear hm
    refine W.join (fun s : Str => s = s10) (fun s => [(3, (tS.is s)), (0, ((tL tapi_Step).is p)), (4, ((tI .i64).is i))]) (fun s => []) ?_ ?_
    ·rintro s0_1 hj29
     try dsimp only at hj29
     subst hj29
     have hm := hk12
     clear hk12
     try dsimp only at hm
     change W _ _ _ _ _ _ _ [(3, (tS.is s0_1)), (0, ((tL tapi_Step).is p)), (4, ((tI .i64).is i))] []
     refine W.seq ?_
     obtain ⟨names, hv16, hm⟩ := bind_some hm
     obtain ⟨v1, hv17, hm⟩ := bind_some hm
     obtain ⟨v2, hv18, hm⟩ := bind_some hm
     obtain ⟨v3, hv19, hm⟩ := bind_some hm
     refine W.draw [.c (tS.is s0_1), .c ((tL tS).is names), .c ((tL tapi_Step).is p), .c ((tI .i64).is i), .c (tapi_Step.ptr v1), .c ((tI .i64).ptr v1.Kind), .c ((tI .i64).is v1.Kind), .c (tS.ptr v2), .c (tS.is v2), .c (tS.is v3), .c (tS.is v3)] [([], [3]), ([], []), ([], [0]), ([], [4]), ([2, 3], []), ([4], []), ([5], []), ([1, 6], []), ([7], []), ([0, 8], []), ([9], [])] Tryd.mixed rfl rfl rfl rfl ⟨.inr (Op1.move (.tmp rfl)), .inr (Op1.call Tryd.call45 (r07_Names_spec _ hv16) trivial), .inr (Op1.move (.tmp rfl)), .inr (Op1.move (.tmp rfl)), .inr (Op1.idx hv17 Tryd.underlying33 Tryd.sizeOf41 (.tmp rfl) (.tmp rfl)), .inr (Op1.fieldAddr Tryd.underlying41 rfl (fun w => ⟨0, Tryd.sizeOf3 w⟩) fapi_Step_0 (.tmp rfl)), .inr (Op1.load ty3 (.tmp rfl)), .inr (Op1.idx hv18 Tryd.underlying65 Tryd.sizeOf9 (.tmp rfl) (.tmp rfl)), .inr (Op1.load ty9 (.tmp rfl)), .inr (Op1.catC hv19 (.tmp rfl) (.tmp rfl)), .inr (Op1.assign (.tmp rfl)), trivial⟩ ?_
     refine WN.seq ?_
     refine W.sr ?_
     refine WL.mv rfl rfl ?_
     refine WL.mv rfl rfl ?_
     obtain ⟨v4, hv20, hm⟩ := bind_some hm
     refine WL.op rfl (.idx hv20 Tryd.underlying33 Tryd.sizeOf41 (.tmp rfl) (.tmp rfl)) ?_
     refine WL.op rfl (.load ty41 (.tmp rfl)) ?_
     obtain ⟨book, hv21, hm⟩ := bind_some hm
     refine WL.op rfl (.call Tryd.call43 (r07_book_spec _ _ hv21) ⟨(.tmp rfl), trivial⟩) ?_
     refine WL.op rfl (.notB (.tmp rfl)) ?_
     refine WL.ns ?_
     refine W.cond (.tmp rfl) (fun hc22 => ?_) (fun hc22 => ?_)
     ·have hp23 := not_pos hc22
      rw [if_pos hp23] at hm
      refine W.region ?_
      refine WL.mv rfl rfl ?_
      obtain ⟨v5, hv24, hm⟩ := bind_some hm
      refine WL.op rfl (.catC hv24 (.tmp rfl) (.str rfl (by decide))) ?_
      refine WL.mv rfl rfl ?_
      refine WL.mv rfl rfl ?_
      obtain ⟨v6, hv25, hm⟩ := bind_some hm
      refine WL.op rfl (.idx hv25 Tryd.underlying33 Tryd.sizeOf41 (.tmp rfl) (.tmp rfl)) ?_
      refine WL.op rfl (.fieldAddr Tryd.underlying41 rfl (fun w => ⟨0, Tryd.sizeOf9 w⟩) fapi_Step_1 (.tmp rfl)) ?_
      refine WL.op rfl (.load ty9 (.tmp rfl)) ?_
      obtain ⟨v7, hv26, hm⟩ := bind_some hm
      refine WL.op rfl (.catC hv26 (.tmp rfl) (.tmp rfl)) ?_
      refine WL.gv rfl rfl ?_
      refine WL.nil ?_
      refine WN.block ?_
      refine WN.seq ?_
      refine W.region ?_
      refine WL.mv rfl rfl ?_
      refine WL.lenL (s := 0) (.tmp rfl) fun hl27 => ?_
      refine WL.op rfl (.addI1 (.tmp rfl) .i64 hp9 hl27) ?_
      refine WL.gv rfl rfl ?_
      refine WL.nil ?_
      exact WN.again n7 (v7, i + 1) (Nat.lt_succ_self n7) hm ⟨Ent.q rfl, Ent.q rfl, Ent.q rfl, trivial⟩ trivial
     ·have hp23 := not_neg hc22
      rw [if_neg hp23] at hm
      refine W.skip ?_
      refine WN.block ?_
      refine WN.seq ?_
      refine W.region ?_
      refine WL.mv rfl rfl ?_
      refine WL.lenL (s := 0) (.tmp rfl) fun hl28 => ?_
      refine WL.op rfl (.addI1 (.tmp rfl) .i64 hp9 hl28) ?_
      refine WL.gv rfl rfl ?_
      refine WL.nil ?_
      exact WN.again n7 (v3, i + 1) (Nat.lt_succ_self n7) hm ⟨Ent.q rfl, Ent.q rfl, Ent.q rfl, trivial⟩ trivial
    ·have hm := hs11
     clear hs11
     refine W.sr ?_
     refine WL.mv rfl rfl ?_
     refine WL.op rfl (.gtI (.tmp rfl) .i64) ?_
     refine WL.ns ?_
     refine W.cond (.tmp rfl) (fun hc13 => ?_) (fun hc13 => ?_)
     ·have hp14 := of_decide_eq_true hc13
      rw [if_pos hp14] at hm
      refine W.region ?_
      refine WL.mv rfl rfl ?_
      obtain ⟨v, hv15, hm⟩ := bind_some hm
      refine WL.op rfl (.catC hv15 (.tmp rfl) (.str rfl (by decide))) ?_
      refine WL.gv rfl rfl ?_
      refine WL.nil ?_
      exact WN.meet v (Option.some.inj hm) ⟨Ent.q rfl, Ent.q rfl, Ent.q rfl, trivial⟩ trivial
     ·have hp14 := of_decide_eq_false hc13
      rw [if_neg hp14] at hm
      refine W.skip ?_
      exact WN.meet s0_ (Option.some.inj hm) ⟨Ent.q rfl, Ent.q rfl, Ent.q rfl, trivial⟩ trivial
   ·have hp9 := of_decide_eq_false hc8
    rw [if_neg hp9] at hm
    refine W.exit rfl ?_
    have hr30 := Option.some.inj hm
    clear hm
    subst hr30
    have hm := hk6
    try dsimp only at hm
    refine WN.seq ?_
    refine W.sr ?_
    refine WL.mv rfl rfl ?_
    refine WL.gv rfl rfl ?_
    refine WL.ns ?_
    cases hm
    exact W.ret1 () rfl (.tmp rfl) trivial

theorem strings_Split_spec (s sep : Str) (r : List Str) (hm : splitM s sep = some r) : FSpecR Tryd.prog 46 [tS.is s, tS.is sep] [(700002, GlE 2)] (fun _ : Unit => (tL tS).is r) (fun _ => []) :=
 split_spec (fun s sep m w hs hm h1 => Tryd.strings_Split s sep m w hs hm h1) _ s sep r hm

theorem address_kind_spec (n : Nat) (s0_ : Str) (r : Int × Bool) (hm : M.address_kind n s0_ = some r) : FSpec Tryd.prog 47 [(tS.is s0_)] (Asn.tuple2 ((tI .i64).is r.1) (tB.is r.2)) := by
 unfold M.address_kind at hm
 refine FSpec.of Tryd.func47 rfl rfl rfl (fun g0 => ?_)
 refine W.sr ?_
 refine WL.op rfl (.assign .i64) ?_
 refine WL.op rfl (.assign .bool) ?_
 refine WL.ns ?_
 refine W.seq ?_
 refine W.sr ?_
 refine WL.op rfl (.move .i64) ?_
 refine WL.ns ?_
 refine W.block ?_
 obtain ⟨s1, hs2, hk3⟩ := bind_some hm
 clear hm
 refine W.loop (fun m (s : Int) => M.address_kind_loop1 s0_ m s = some s1) (fun s => [(7, ((tI .i64).is s)), (0, (tS.is s0_))]) (fun s => []) _ (0 : Int) hs2 ⟨Ent.q rfl, Ent.q rfl, trivial⟩ trivial ?_
 rintro n4 v hm
 try dsimp only at hm
 change W _ _ _ _ _ _ _ [(7, ((tI .i64).is v)), (0, (tS.is s0_))] []
 cases n4 with
 | zero => rw [M.address_kind_loop1.eq_1] at hm; cases hm
 | succ n4 =>
  rw [M.address_kind_loop1.eq_2] at hm
  refine W.sr ?_
  refine WL.op rfl (.ltI (.tmp rfl) .i64) ?_
  refine WL.ns ?_
  refine W.seq ?_
  refine W.cond (.tmp rfl) (fun hc5 => ?_) (fun hc5 => ?_)
  ·have hp6 := of_decide_eq_true hc5
   rw [if_pos hp6] at hm
   refine W.skip ?_
   refine WN.seq ?_
   refine W.seq ?_
   refine W.block ?_
   refine W.sr ?_
   refine WL.mv rfl rfl ?_
   refine WL.gv rfl rfl ?_
   refine WL.nr ?_
   refine WL.mv rfl rfl ?_
   obtain ⟨name, hv7, hm⟩ := bind_some hm
   refine WL.op rfl (.call Tryd.call41 (address_name_spec _ _ hv7) ⟨(.tmp rfl), trivial⟩) ?_
   refine WL.mv rfl rfl ?_
   refine WL.op rfl (.extract0 (.tmp rfl)) ?_
   refine WL.op rfl (.extract1 (.tmp rfl)) ?_
   refine WL.gv rfl rfl ?_
   refine WL.gv rfl rfl ?_
   refine WL.nr ?_
   refine WL.mv rfl rfl ?_
   refine WL.mv rfl rfl ?_
   refine WL.op rfl (.eqS (.tmp rfl) (.tmp rfl)) ?_
   refine WL.ns ?_
   refine W.cond (.tmp rfl) (fun hc8 => ?_) (fun hc8 => ?_)
   ·have hp9 := hc8
    rw [if_pos hp9] at hm
    refine W.sr ?_
    refine WL.mv rfl rfl ?_
    refine WL.gv rfl rfl ?_
    refine WL.op rfl (.assign .bool) ?_
    refine WL.ns ?_
    have hr10 := Option.some.inj hm
    clear hm
    subst hr10
    have hm := hk3
    try dsimp only at hm
    cases hm
    exact W.ret2 () rfl rfl (.tmp rfl) (.tmp rfl) trivial
   ·have hp9 := ne_of_false hc8
    rw [if_neg hp9] at hm
    refine W.skip ?_
    refine WN.block ?_
    refine WN.seq ?_
    refine W.region ?_
    obtain ⟨v1, hv11, hm⟩ := bind_some hm
    refine WL.op rfl (.addC hv11 (.tmp rfl) .i64) ?_
    refine WL.mv rfl rfl ?_
    refine WL.nil ?_
    exact WN.again n4 v1 (Nat.lt_succ_self n4) hm ⟨Ent.q rfl, Ent.q rfl, trivial⟩ trivial
  ·have hp6 := of_decide_eq_false hc5
   rw [if_neg hp6] at hm
   refine W.exit rfl ?_
   have hr12 := Option.some.inj hm
   clear hm
   subst hr12
   have hm := hk3
   try dsimp only at hm
   refine WN.seq ?_
   refine W.sr ?_
   refine WL.op rfl (.assign .i64) ?_
   refine WL.op rfl (.assign .bool) ?_
   refine WL.ns ?_
   cases hm
   exact W.ret2 () rfl rfl (.tmp rfl) (.tmp rfl) trivial

theorem address_Parse_spec (n : Nat) (s0_ : Str) (r : (List api_Step) × Int) (hm : M.address_Parse n s0_ = some r) : FSpecR Tryd.prog 24 [(tS.is s0_)] [(700002, GlE 2)] (fun _ : Unit => (Asn.tuple2 ((tL tapi_Step).is r.1) ((tI .i64).is r.2))) (fun _ => []) := by
 unfold M.address_Parse at hm
 refine FSpecR.of Tryd.func24 rfl rfl rfl (fun g0 => ?_)
 refine W.sr ?_
 refine WL.op rfl (.assign (.nil (t := tapi_Step))) ?_
 refine WL.op rfl (.assign .i64) ?_
 refine WL.nr ?_
 refine WL.addNil (t := tapi_Step) (E := 41) 4 ?_
 refine WL.op rfl (.assign (Opd.nilO (t := tapi_Step))) ?_
 refine WL.ns ?_
 refine W.seq ?_
 refine W.sr ?_
 refine WL.mv rfl rfl ?_
 refine WL.op rfl (.eqS (.tmp rfl) (.str rfl (by decide))) ?_
 refine WL.ns ?_
 refine W.cond (.tmp rfl) (fun hc1 => ?_) (fun hc1 => ?_)
 ·have hp2 := hc1
  rw [if_pos hp2] at hm
  refine W.sr ?_
  refine WL.op rfl (.assign (.nil (t := tapi_Step))) ?_
  refine WL.op rfl (.assign .i64) ?_
  refine WL.ns ?_
  cases hm
  exact W.ret2 () rfl rfl (.tmp rfl) (.tmp rfl) trivial
 ·have hp2 := ne_of_false hc1
  rw [if_neg hp2] at hm
  refine W.skip ?_
  refine WN.seq ?_
  refine W.sr ?_
  refine WL.mv rfl rfl ?_
  obtain ⟨split, hv3, hm⟩ := bind_some hm
  refine WL.op rfl (.callG (rin := [(700002, GlE 2)]) Tryd.call46 (strings_Split_spec _ _ _ hv3) ⟨rfl, trivial⟩ ⟨rfl, rfl, trivial⟩ ⟨(.tmp rfl), (.str rfl (by decide)), trivial⟩) ?_
  refine WL.gv rfl rfl ?_
  refine WL.ns ?_
  refine W.seq ?_
  refine W.block ?_
  obtain ⟨s4, hs5, hk6⟩ := bind_some hm
  clear hm
  refine W.loop (fun m (s : ((List api_Step) × (List Str)) × Tok) => M.address_Parse_loop1 m s.1.1 s.1.2 = some s4) (fun s => [(4, (tO tapi_Step s.2 s.1.1)), (5, ((tL tS).is s.1.2)), (0, (tS.is s0_))]) (fun s => [(4, Dec.Own tapi_Step 41 s.2 s.1.1.length), (700002, GlE 2)]) _ ((([] : List api_Step), split), (none : Tok)) hs5 ⟨Ent.q rfl, Ent.q rfl, Ent.q rfl, trivial⟩ ⟨rfl, rfl, ⟨rfl, rfl, trivial⟩⟩ ?_
  rintro n7 ⟨⟨p, words⟩, k⟩ hm
  try dsimp only at hm
  change W _ _ _ _ _ _ _ [(4, (tO tapi_Step k p)), (5, ((tL tS).is words)), (0, (tS.is s0_))] [(4, Dec.Own tapi_Step 41 k p.length), (700002, GlE 2)]
  cases n7 with
  | zero => rw [M.address_Parse_loop1.eq_1] at hm; cases hm
  | succ n7 =>
   rw [M.address_Parse_loop1.eq_2] at hm
   refine W.seq ?_
   refine W.sr ?_
   refine WL.mv rfl rfl ?_
   refine WL.op rfl (.lenL Tryd.underlying65 (.tmp rfl)) ?_
   refine WL.op rfl (.gtI (.tmp rfl) .i64) ?_
   refine WL.ns ?_
   refine W.cond (.tmp rfl) (fun hc8 => ?_) (fun hc8 => ?_)
   ·have hp9 := of_decide_eq_true hc8
    rw [if_pos hp9] at hm
    refine W.skip ?_
    refine WN.seq ?_
    refine W.block ?_
    refine W.sr ?_
    refine WL.mv rfl rfl ?_
    obtain ⟨v, hv10, hm⟩ := bind_some hm
    refine WL.op rfl (.idx hv10 Tryd.underlying65 Tryd.sizeOf9 (.tmp rfl) .i64) ?_
    refine WL.op rfl (.load ty9 (.tmp rfl)) ?_
    obtain ⟨kind, hv11, hm⟩ := bind_some hm
    refine WL.op rfl (.call Tryd.call47 (address_kind_spec _ _ _ hv11) ⟨(.tmp rfl), trivial⟩) ?_
    refine WL.mv rfl rfl ?_
    refine WL.op rfl (.extract0 (.tmp rfl)) ?_
    refine WL.op rfl (.extract1 (.tmp rfl)) ?_
    refine WL.gv rfl rfl ?_
    refine WL.gv rfl rfl ?_
    refine WL.ns ?_
    refine W.seq ?_
    refine W.sr ?_
    refine WL.mv rfl rfl ?_
    refine WL.op rfl (.notB (.tmp rfl)) ?_
    refine WL.ns ?_
    refine W.cond (.tmp rfl) (fun hc12 => ?_) (fun hc12 => ?_)
    ·have hp13 := not_pos hc12
     rw [if_pos hp13] at hm
     refine W.sr ?_
     refine WL.op rfl (.assign (.nil (t := tapi_Step))) ?_
     refine WL.op rfl (.assign .i64) ?_
     refine WL.ns ?_
     have hr14 := Option.some.inj hm
     clear hm
     subst hr14
     have hm := hk6
     try dsimp only at hm
     cases hm
     exact W.ret2 () rfl rfl (.tmp rfl) (.tmp rfl) trivial
    ·have hp13 := not_neg hc12
     rw [if_neg hp13] at hm
     refine W.skip ?_
     refine WN.seq ?_
     refine W.sr ?_
     refine WL.mv rfl rfl ?_
     obtain ⟨v1, hv15, hm⟩ := bind_some hm
     refine WL.op rfl (.slcLo hv15 Tryd.underlying65 Tryd.sizeOf9 (.tmp rfl) .i64) ?_
     refine WL.gv rfl rfl ?_
     refine WL.nr ?_
     refine WL.mv rfl rfl ?_
     refine WL.op rfl (.build (s := tapi_Step) (x := (⟨kind.1, ([] : Str)⟩ : api_Step)) zapi_Step_f rfl Tryd.underlying41 (zapi_Step_sz _ Tryd.underlying41) ze41 ⟨_, (tI .i64), kind.1, _, _, rfl, Tryd.sizeOf3, (.tmp rfl), sapi_Step_0, rfl⟩) ?_
     refine WL.opR rfl (OpR.alloc 8 ze41) (fun b => ?_)
     refine WL.opU (OpR.storeB (b := b) 8 Tryd.sizeOf41 (Cellable.is tapi_Step (⟨kind.1, ([] : Str)⟩ : api_Step)) rfl (.tmp rfl) (.tmp rfl)) (fun _ => ?_)
     refine WL.ns ?_
     refine W.seq ?_
     refine W.sr ?_
     refine WL.mv rfl rfl ?_
     refine WL.op rfl (.neI (.tmp rfl) .i64) ?_
     refine WL.ns ?_
     refine W.cond (.tmp rfl) (fun hc16 => ?_) (fun hc16 => ?_)
     ·have hp17 := of_decide_eq_true hc16
      rw [if_pos hp17] at hm
      refine W.seq ?_
      refine W.sr ?_
      refine WL.mv rfl rfl ?_
      refine WL.op rfl (.lenL Tryd.underlying65 (.tmp rfl)) ?_
      refine WL.op rfl (.eqI (.tmp rfl) .i64) ?_
      refine WL.ns ?_
      refine W.cond (.tmp rfl) (fun hc18 => ?_) (fun hc18 => ?_)
      ·have hp19 := of_decide_eq_true hc18
       rw [if_pos hp19] at hm
       refine W.sr ?_
       refine WL.op rfl (.assign (.nil (t := tapi_Step))) ?_
       refine WL.op rfl (.assign .i64) ?_
       refine WL.ns ?_
       have hr20 := Option.some.inj hm
       clear hm
       subst hr20
       have hm := hk6
       try dsimp only at hm
       cases hm
       exact W.ret2 () rfl rfl (.tmp rfl) (.tmp rfl) trivial
      ·have hp19 := of_decide_eq_false hc18
       rw [if_neg hp19] at hm
       refine W.skip ?_
       refine WN.seq ?_
       obtain ⟨v2, hv21, hm⟩ := bind_some hm
       obtain ⟨v3, hv22, hm⟩ := bind_some hm
       refine W.weakR (res' := [(4, Dec.Own tapi_Step 41 k p.length), (700002, GlE 2), (8, (Bx 2 true 41 (tapi_Step.is (⟨kind.1, ([] : Str)⟩ : api_Step)) b))]) ⟨rfl, rfl, ⟨rfl, rfl, ⟨rfl, rfl, trivial⟩⟩⟩ ?_
       refine W.drawM [.c ((tL tS).is v1), .c (tS.ptr v2), .c (tS.is v2), .c ((tL tS).is v1), .c ((tL tS).is v3), .c (Bp b 1), .c Asn.any, .c ((tL tS).is v3)] [([], [5]), ([0], []), ([1], []), ([], [5]), ([3], []), ([], [8]), ([2, 5], []), ([4], [])] [6] [[], [], [], [], [], [], [], []] (fun m cv => match m with | 0 => [(4, Dec.Own tapi_Step 41 k p.length), (700002, GlE 2), (8, (Bx 2 true 41 (tapi_Step.is (⟨kind.1, ([] : Str)⟩ : api_Step)) b))] | _ => [(8, (Bx 2 true 41 (tapi_Step.is ({ (⟨kind.1, ([] : Str)⟩ : api_Step) with Label := v2 } : api_Step)) b)), (4, Dec.Own tapi_Step 41 k p.length), (700002, GlE 2)]) (fun _ => none) Tryd.mixed rfl rfl rfl rfl rfl ⟨fun _ _ _ _ => rfl, ⟨fun _ _ _ _ => rfl, ⟨fun _ _ _ _ => rfl, ⟨fun _ _ _ _ => rfl, ⟨fun _ _ _ _ => rfl, ⟨fun _ _ _ _ => rfl, ⟨fun _ _ _ _ => rfl, ⟨fun _ _ _ _ => rfl, trivial⟩⟩⟩⟩⟩⟩⟩⟩ rfl ⟨mo fun cv => Op1.move (.tmp rfl), ⟨mo fun cv => Op1.idx hv21 Tryd.underlying65 Tryd.sizeOf9 (.tmp rfl) .i64, ⟨mo fun cv => Op1.load ty9 (.tmp rfl), ⟨mo fun cv => Op1.move (.tmp rfl), ⟨mo fun cv => Op1.slcLo hv22 Tryd.underlying65 Tryd.sizeOf9 (.tmp rfl) .i64, ⟨mo fun cv => Op1.fieldAddrB (o := 0) Tryd.underlying41 rfl (fun w => ⟨0, Tryd.sizeOf9 w⟩) (.tmp rfl) rfl, ⟨.inl rfl, ⟨mo fun cv => Op1.assign (.tmp rfl), trivial⟩⟩⟩⟩⟩⟩⟩⟩ ⟨⟨_, _, _, [8], (fun cv => [(8, (Bx 2 true 41 (tapi_Step.is ({ (⟨kind.1, ([] : Str)⟩ : api_Step) with Label := v2 } : api_Step)) b))]), rfl, rfl, rfl, rfl, fun _ => rfl, fun _ _ => rfl, fun cv => OpR.viaU (OpR.storeBF (b := b) 8 rfl ty9 sapi_Step_1 rfl (by decide) (.tmp rfl) (.tmp rfl))⟩, trivial⟩ (fun cv => ?_)
       refine WN.seq ?_
       refine W.region ?_
       refine WL.mv rfl rfl ?_
       refine WL.op rfl (.loadB 8 Tryd.isAgg41 Tryd.sizeOf41 rfl (.tmp rfl)) ?_
       refine WL.op rfl (.buildSlice (n := 1) (ys := [(0, ({ (⟨kind.1, ([] : Str)⟩ : api_Step) with Label := v2 } : api_Step))]) (z := zapi_Step) (xs := [({ (⟨kind.1, ([] : Str)⟩ : api_Step) with Label := v2 } : api_Step)]) Tryd.underlying33 el41 ze41 ⟨rfl, (.tmp rfl), trivial⟩ (by simp) (by decide) rfl) ?_
       obtain ⟨p1, hv23, hm⟩ := bind_some hm
       refine WL.opR rfl (OpR.appC (key := 4) hv23 Tryd.underlying33 el41 (.tmp rfl) (.tmp rfl) rfl) (fun k1 => ?_)
       refine WL.gv rfl rfl ?_
       refine WL.nil ?_
       refine WN.block ?_
       exact WN.again n7 ((p1, v3), k1) (Nat.lt_succ_self n7) hm ⟨Ent.q rfl, Ent.q rfl, Ent.q rfl, trivial⟩ ⟨rfl, rfl, ⟨rfl, rfl, trivial⟩⟩
     ·have hp17 := of_decide_eq_false hc16
      rw [if_neg hp17] at hm
      refine W.skip ?_
      refine WN.seq ?_
      refine W.region ?_
      refine WL.mv rfl rfl ?_
      refine WL.op rfl (.loadB 8 Tryd.isAgg41 Tryd.sizeOf41 rfl (.tmp rfl)) ?_
      refine WL.op rfl (.buildSlice (n := 1) (ys := [(0, (⟨kind.1, ([] : Str)⟩ : api_Step))]) (z := zapi_Step) (xs := [(⟨kind.1, ([] : Str)⟩ : api_Step)]) Tryd.underlying33 el41 ze41 ⟨rfl, (.tmp rfl), trivial⟩ (by simp) (by decide) rfl) ?_
      obtain ⟨p2, hv24, hm⟩ := bind_some hm
      refine WL.opR rfl (OpR.appC (key := 4) hv24 Tryd.underlying33 el41 (.tmp rfl) (.tmp rfl) rfl) (fun k2 => ?_)
      refine WL.gv rfl rfl ?_
      refine WL.nil ?_
      refine WN.block ?_
      exact WN.again n7 ((p2, v1), k2) (Nat.lt_succ_self n7) hm ⟨Ent.q rfl, Ent.q rfl, Ent.q rfl, trivial⟩ ⟨rfl, rfl, ⟨rfl, rfl, trivial⟩⟩
   ·have hp9 := of_decide_eq_false hc8
    rw [if_neg hp9] at hm
    refine W.exit rfl ?_
    have hr25 := Option.some.inj hm
    clear hm
    subst hr25
    have hm := hk6
    try dsimp only at hm
    refine WN.seq ?_
    refine W.seq ?_
    refine W.sr ?_
    refine WL.mv rfl rfl ?_
    obtain ⟨format, hv26, hm⟩ := bind_some hm
    refine WL.op rfl (.call Tryd.call21 (address_Format_spec _ _ _ hv26) ⟨(Opd.own (.tmp rfl)), trivial⟩) ?_
    refine WL.mv rfl rfl ?_
    refine WL.op rfl (.neS (.tmp rfl) (.tmp rfl)) ?_
    refine WL.ns ?_
    refine W.cond (.tmp rfl) (fun hc27 => ?_) (fun hc27 => ?_)
    ·have hp28 := hc27
     rw [if_pos hp28] at hm
     refine W.sr ?_
     refine WL.op rfl (.assign (.nil (t := tapi_Step))) ?_
     refine WL.op rfl (.assign .i64) ?_
     refine WL.ns ?_
     cases hm
     exact W.ret2 () rfl rfl (.tmp rfl) (.tmp rfl) trivial
    ·have hp28 := ne_of_false hc27
     rw [if_neg hp28] at hm
     refine W.skip ?_
     refine WN.seq ?_
     refine W.sr ?_
     refine WL.mv rfl rfl ?_
     refine WL.gv rfl rfl ?_
     refine WL.op rfl (.assign .i64) ?_
     refine WL.ns ?_
     cases hm
     exact W.ret2 () rfl rfl (Opd.own (.tmp rfl)) (.tmp rfl) trivial

end Go.Proofs.YtfclekegoleiaaaDoor
