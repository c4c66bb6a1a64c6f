/-
  The code does what the models say: written by program.
-/
import Derived.Test.YtlegkjbldofkmaaWa
set_option linter.unusedVariables false
set_option linter.unusedSimpArgs false
namespace Go.Proofs.Ytlegkjbldofkmaa
open Go Go.Dec

set_option maxRecDepth 100000
set_option maxHeartbeats 4000000
theorem resolve_meanings_spec (n : Nat)  (r : (List (Int × (resolve_scene → api_Cite → Option ((List api_Id) × Int))))) (hm : M.resolve_meanings n  = some r) : FSpecR Try.prog 24 [] [] (fun b : Nat => Mv b) (fun b => [(77777, Mp (tI .i64) (tFun Try.prog (fun (f : resolve_scene → api_Cite → Option ((List api_Id) × Int)) => (fun s : resolve_scene × api_Cite × ((List api_Id) × Int) => f s.1 s.2.1 = some s.2.2)) (fun s : resolve_scene × api_Cite × ((List api_Id) × Int) => [tresolve_scene.is s.1, tapi_Cite.is s.2.1]) (fun s : resolve_scene × api_Cite × ((List api_Id) × Int) => (Asn.tuple2 ((tL tapi_Id).is s.2.2.1) ((tI .i64).is s.2.2.2)))) r b)]) := by
 unfold M.resolve_meanings at hm
 refine FSpecR.of Try.func24 rfl rfl rfl (fun g0 => ?_)
 refine W.sr ?_
 refine WL.op rfl (.assign .const) ?_
 refine WL.nr ?_
 refine WL.opR rfl (OpR.makeMap (tI .i64) (tFun Try.prog (fun (f : resolve_scene → api_Cite → Option ((List api_Id) × Int)) => (fun s : resolve_scene × api_Cite × ((List api_Id) × Int) => f s.1 s.2.1 = some s.2.2)) (fun s : resolve_scene × api_Cite × ((List api_Id) × Int) => [tresolve_scene.is s.1, tapi_Cite.is s.2.1]) (fun s : resolve_scene × api_Cite × ((List api_Id) × Int) => (Asn.tuple2 ((tL tapi_Id).is s.2.2.1) ((tI .i64).is s.2.2.2)))) 1) (fun b => ?_)
 refine WL.opU (OpR.insert (b := b) (v := (fun s0 s1 => M.resolve_plain n s0 s1)) 1 Try.underlying59 kt3 rfl (.tmp rfl) .i64 (Opd.tFun (Opd.fn Try.call41 (fun s hs => resolve_plain_spec _ _ _ _ hs)))) (fun _ => ?_)
 refine WL.opU (OpR.insert (b := b) (v := (fun s0 s1 => M.resolve_through n s0 s1)) 1 Try.underlying59 kt3 rfl (.tmp rfl) .i64 (Opd.tFun (Opd.fn Try.call42 (fun s hs => resolve_through_spec _ _ _ _ hs)))) (fun _ => ?_)
 refine WL.opU (OpR.insert (b := b) (v := (fun s0 s1 => M.resolve_this n s0 s1)) 1 Try.underlying59 kt3 rfl (.tmp rfl) .i64 (Opd.tFun (Opd.fn Try.call43 (fun s hs => resolve_this_spec _ _ _ _ hs)))) (fun _ => ?_)
 refine WL.opU (OpR.insert (b := b) (v := (fun s0 s1 => M.resolve_said n s0 s1)) 1 Try.underlying59 kt3 rfl (.tmp rfl) .i64 (Opd.tFun (Opd.fn Try.call44 (fun s hs => resolve_said_spec _ _ _ _ hs)))) (fun _ => ?_)
 refine WL.opU (OpR.insert (b := b) (v := (fun s0 s1 => M.resolve_meanings_1 s0 s1)) 1 Try.underlying59 kt3 rfl (.tmp rfl) .i64 (Opd.tFun (Opd.fn Try.call45 (fun s hs => resolve_meanings_1_spec _ _ _ hs)))) (fun _ => ?_)
 refine WL.mv rfl rfl ?_
 refine WL.gv rfl rfl ?_
 refine WL.ns ?_
 have hr := Option.some.inj hm
 clear hm
 subst hr
 refine W.weakR (res' := [(1, Mp (tI .i64) (tFun Try.prog (fun (f : resolve_scene → api_Cite → Option ((List api_Id) × Int)) => (fun s : resolve_scene × api_Cite × ((List api_Id) × Int) => f s.1 s.2.1 = some s.2.2)) (fun s : resolve_scene × api_Cite × ((List api_Id) × Int) => [tresolve_scene.is s.1, tapi_Cite.is s.2.1]) (fun s : resolve_scene × api_Cite × ((List api_Id) × Int) => (Asn.tuple2 ((tL tapi_Id).is s.2.2.1) ((tI .i64).is s.2.2.2)))) (mset (mset (mset (mset (mset ([] : List (Int × (resolve_scene → api_Cite → Option ((List api_Id) × Int)))) (0 : Int) (fun s0 s1 => M.resolve_plain n s0 s1)) (1 : Int) (fun s0 s1 => M.resolve_through n s0 s1)) (2 : Int) (fun s0 s1 => M.resolve_this n s0 s1)) (3 : Int) (fun s0 s1 => M.resolve_said n s0 s1)) (4 : Int) (fun s0 s1 => M.resolve_meanings_1 s0 s1)) b)]) ⟨rfl, rfl, trivial⟩ ?_
 refine W.rekey (res' := [(77777, Mp (tI .i64) (tFun Try.prog (fun (f : resolve_scene → api_Cite → Option ((List api_Id) × Int)) => (fun s : resolve_scene × api_Cite × ((List api_Id) × Int) => f s.1 s.2.1 = some s.2.2)) (fun s : resolve_scene × api_Cite × ((List api_Id) × Int) => [tresolve_scene.is s.1, tapi_Cite.is s.2.1]) (fun s : resolve_scene × api_Cite × ((List api_Id) × Int) => (Asn.tuple2 ((tL tapi_Id).is s.2.2.1) ((tI .i64).is s.2.2.2)))) (mset (mset (mset (mset (mset ([] : List (Int × (resolve_scene → api_Cite → Option ((List api_Id) × Int)))) (0 : Int) (fun s0 s1 => M.resolve_plain n s0 s1)) (1 : Int) (fun s0 s1 => M.resolve_through n s0 s1)) (2 : Int) (fun s0 s1 => M.resolve_this n s0 s1)) (3 : Int) (fun s0 s1 => M.resolve_said n s0 s1)) (4 : Int) (fun s0 s1 => M.resolve_meanings_1 s0 s1)) b)]) rfl ?_
 exact W.ret1 b rfl (.tmp rfl) ⟨rfl, rfl, trivial⟩

theorem citation_book_spec (s0_ : api_Step) (r : Bool) (hm : M.citation_book s0_ = some r) : FSpec Try.prog 67 [(tapi_Step.is s0_)] (tB.is r) := by
 unfold M.citation_book at hm
 refine FSpec.of Try.func67 rfl rfl rfl (fun g0 => ?_)
 refine W.sr ?_
 refine WL.op rfl (.box (.tmp rfl)) ?_
 refine WL.op rfl (.assign .bool) ?_
 refine WL.nr ?_
 refine WL.op rfl (.load ty55 (.tmp rfl)) ?_
 refine WL.op rfl (.build (s := tapi_Step) (x := (⟨(0 : Int), ([] : Str)⟩ : api_Step)) zapi_Step_f rfl Try.underlying55 (zapi_Step_sz _ Try.underlying55) ze55 ⟨_, (tI .i64), (0 : Int), _, _, rfl, Try.sizeOf3, .i64, sapi_Step_0, rfl⟩) ?_
 refine WL.op rfl (.eqSt (D := 2) rfl (by decide) eg55 eq55 (.tmp rfl) (.tmp rfl)) ?_
 refine WL.gv rfl rfl ?_
 refine WL.ns ?_
 cases hm
 exact W.ret1 () rfl (.tmp rfl) trivial

theorem slices_IndexFunc_api_Step_api_Step_spec (n : Nat) (s0_ : List api_Step) (f : api_Step → Option Bool) (r : Int) (hm : M.slices_IndexFunc_api_Step_api_Step n s0_ f = some r) : FSpec Try.prog 88 [((tL tapi_Step).is s0_), (tF Try.prog (fun s : api_Step × Bool => f s.1 = some s.2) (fun s : api_Step × Bool => [tapi_Step.is s.1]) (fun s : api_Step × Bool => (tB.is s.2)))] ((tI .i64).is r) := by
 unfold M.slices_IndexFunc_api_Step_api_Step at hm
 refine FSpec.of Try.func88 rfl rfl rfl (fun g0 => ?_)
 refine W.sr ?_
 refine WL.op rfl (.assign .i64) ?_
 refine WL.ns ?_
 refine W.seq ?_
 refine W.sr ?_
 refine WL.mv rfl rfl ?_
 refine WL.op rfl (.lenL Try.underlying28 (.tmp rfl)) ?_
 refine WL.op rfl (.move .i64) ?_
 refine WL.ns ?_
 refine W.block ?_
 obtain ⟨s1, hs2, hk3⟩ := bind_some hm
 clear hm
 refine W.loop (fun m (s : Int) => M.slices_IndexFunc_api_Step_api_Step_loop1 s0_ f m s = some s1) (fun s => [(8, ((tI .i64).is s)), (0, ((tL tapi_Step).is s0_)), (1, (tF Try.prog (fun s : api_Step × Bool => f s.1 = some s.2) (fun s : api_Step × Bool => [tapi_Step.is s.1]) (fun s : api_Step × Bool => (tB.is s.2)))), (7, ((tI .i64).is (s0_.length : Int)))]) (fun s => []) _ (0 : Int) hs2 ⟨Ent.q rfl, Ent.q rfl, Ent.q rfl, Ent.q rfl, trivial⟩ trivial ?_
 rintro n4 v hm
 try dsimp only at hm
 change W _ _ _ _ _ _ _ [(8, ((tI .i64).is v)), (0, ((tL tapi_Step).is s0_)), (1, (tF Try.prog (fun s : api_Step × Bool => f s.1 = some s.2) (fun s : api_Step × Bool => [tapi_Step.is s.1]) (fun s : api_Step × Bool => (tB.is s.2)))), (7, ((tI .i64).is (s0_.length : Int)))] []
 cases n4 with
 | zero => rw [M.slices_IndexFunc_api_Step_api_Step_loop1.eq_1] at hm; cases hm
 | succ n4 =>
  rw [M.slices_IndexFunc_api_Step_api_Step_loop1.eq_2] at hm
  refine W.sr ?_
  refine WL.op rfl (.ltI (.tmp rfl) (.tmp rfl)) ?_
  refine WL.ns ?_
  refine W.seq ?_
  refine W.cond (.tmp rfl) (fun hc5 => ?_) (fun hc5 => ?_)
  ·have hp6 := of_decide_eq_true hc5
   rw [if_pos hp6] at hm
   refine W.skip ?_
   refine WN.seq ?_
   refine W.seq ?_
   refine W.block ?_
   refine W.sr ?_
   refine WL.mv rfl rfl ?_
   refine WL.gv rfl rfl ?_
   refine WL.nr ?_
   refine WL.mv rfl rfl ?_
   refine WL.mv rfl rfl ?_
   refine WL.mv rfl rfl ?_
   obtain ⟨v1, hv7, hm⟩ := bind_some hm
   refine WL.op rfl (.idx hv7 Try.underlying28 Try.sizeOf55 (.tmp rfl) (.tmp rfl)) ?_
   refine WL.op rfl (.load ty55 (.tmp rfl)) ?_
   obtain ⟨v2, hv8, hm⟩ := bind_some hm
   refine WL.op rfl (.callF (ok := (fun s : api_Step × Bool => f s.1 = some s.2)) (As := (fun s : api_Step × Bool => [tapi_Step.is s.1])) (A := (fun s : api_Step × Bool => (tB.is s.2))) (s := (v1, v2)) (.tmp rfl) hv8 ⟨(.tmp rfl), trivial⟩) ?_
   refine WL.ns ?_
   refine W.cond (.tmp rfl) (fun hc9 => ?_) (fun hc9 => ?_)
   ·have hp10 := hc9
    rw [if_pos hp10] at hm
    refine W.sr ?_
    refine WL.mv rfl rfl ?_
    refine WL.gv rfl rfl ?_
    refine WL.ns ?_
    have hr11 := Option.some.inj hm
    clear hm
    subst hr11
    have hm := hk3
    try dsimp only at hm
    cases hm
    exact W.ret1 () rfl (.tmp rfl) trivial
   ·have hp10 := ne_of_false hc9
    rw [if_neg hp10] at hm
    refine W.skip ?_
    refine WN.block ?_
    refine WN.seq ?_
    refine W.region ?_
    refine WL.lenL (s := 0) (.tmp rfl) fun hl12 => ?_
    refine WL.op rfl (.addI1 (.tmp rfl) .i64 hp6 hl12) ?_
    refine WL.mv rfl rfl ?_
    refine WL.nil ?_
    exact WN.again n4 (v + 1) (Nat.lt_succ_self n4) hm ⟨Ent.q rfl, Ent.q rfl, Ent.q rfl, Ent.q rfl, trivial⟩ trivial
  ·have hp6 := of_decide_eq_false hc5
   rw [if_neg hp6] at hm
   refine W.exit rfl ?_
   have hr13 := Option.some.inj hm
   clear hm
   subst hr13
   have hm := hk3
   try dsimp only at hm
   refine WN.seq ?_
   refine W.sr ?_
   refine WL.op rfl (.assign .i64) ?_
   refine WL.ns ?_
   cases hm
   exact W.ret1 () rfl (.tmp rfl) trivial

theorem slices_ContainsFunc_api_Step_api_Step_spec (n : Nat) (s0_ : List api_Step) (f : api_Step → Option Bool) (r : Bool) (hm : M.slices_ContainsFunc_api_Step_api_Step n s0_ f = some r) : FSpec Try.prog 68 [((tL tapi_Step).is s0_), (tF Try.prog (fun s : api_Step × Bool => f s.1 = some s.2) (fun s : api_Step × Bool => [tapi_Step.is s.1]) (fun s : api_Step × Bool => (tB.is s.2)))] (tB.is r) := by
 unfold M.slices_ContainsFunc_api_Step_api_Step at hm
 refine FSpec.of Try.func68 rfl rfl rfl (fun g0 => ?_)
 refine W.sr ?_
 refine WL.op rfl (.assign .bool) ?_
 refine WL.nr ?_
 refine WL.mv rfl rfl ?_
 refine WL.mv rfl rfl ?_
 obtain ⟨step, hv1, hm⟩ := bind_some hm
 refine WL.op rfl (.call Try.call88 (slices_IndexFunc_api_Step_api_Step_spec _ _ _ _ hv1) ⟨(.tmp rfl), (.tmp rfl), trivial⟩) ?_
 refine WL.op rfl (.geI (.tmp rfl) .i64) ?_
 refine WL.gv rfl rfl ?_
 refine WL.ns ?_
 cases hm
 exact W.ret1 () rfl (.tmp rfl) trivial

theorem citation_named_spec (n : Nat) (s0_ : api_Step) (r : Bool) (hm : M.citation_named n s0_ = some r) : FSpec Try.prog 70 [(tapi_Step.is s0_)] (tB.is r) := by
 unfold M.citation_named at hm
 refine FSpec.of Try.func70 rfl rfl rfl (fun g0 => ?_)
 refine W.sr ?_
 refine WL.op rfl (.box (.tmp rfl)) ?_
 refine WL.op rfl (.assign .bool) ?_
 refine WL.nr ?_
 refine WL.op rfl (.fieldAddr Try.underlying55 rfl (fun w => ⟨0, Try.sizeOf3 w⟩) fapi_Step_0 (.tmp rfl)) ?_
 refine WL.op rfl (.load ty3 (.tmp rfl)) ?_
 refine WL.op rfl (.geI (.tmp rfl) .i64) ?_
 refine WL.mv rfl rfl ?_
 rcases bcases (decide ((1 : Int) ≤ s0_.Kind)) with hb1 | hb1
 ·have hp2 := of_decide_eq_true hb1
  rw [if_pos hp2] at hm
  refine WL.run rfl rfl rfl rfl hb1 rfl rfl (Op1.fieldAddr Try.underlying55 rfl (fun w => ⟨0, Try.sizeOf3 w⟩) fapi_Step_0 (.tmp rfl)) ?_
  refine WL.run rfl rfl rfl rfl hb1 rfl rfl (Op1.load ty3 (.tmp rfl)) ?_
  refine WL.run rfl rfl rfl rfl hb1 rfl rfl (Op1.leI (.tmp rfl) .i64) ?_
  refine WL.op rfl (.pickT (.tmp rfl) hb1 (.tmp rfl)) ?_
  refine WL.mv rfl rfl ?_
  rcases bcases (decide (s0_.Kind ≤ (7 : Int))) with hb3 | hb3
  ·have hp4 := of_decide_eq_true hb3
   rw [if_pos hp4] at hm
   refine WL.run rfl rfl rfl rfl hb3 rfl rfl (Op1.fieldAddr Try.underlying55 rfl (fun w => ⟨0, Try.sizeOf9 w⟩) fapi_Step_1 (.tmp rfl)) ?_
   refine WL.run rfl rfl rfl rfl hb3 rfl rfl (Op1.load ty9 (.tmp rfl)) ?_
   obtain ⟨valid, hv5, hm⟩ := bind_some hm
   refine WL.run rfl rfl rfl rfl hb3 rfl rfl (Op1.call Try.call47 (label_Valid_spec _ _ _ hv5) ⟨(.tmp rfl), trivial⟩) ?_
   refine WL.op rfl (.pickT (.tmp rfl) hb3 (.tmp rfl)) ?_
   refine WL.gv rfl rfl ?_
   refine WL.ns ?_
   cases hm
   exact W.ret1 () rfl (.tmp rfl) trivial
  ·have hp4 := of_decide_eq_false hb3
   rw [if_neg hp4] at hm
   iterate 3 refine WL.pass rfl rfl rfl rfl hb3 rfl rfl ?_
   refine WL.op rfl (.pickF (.tmp rfl) hb3 .bool) ?_
   refine WL.gv rfl rfl ?_
   refine WL.ns ?_
   cases hm
   exact W.ret1 () rfl (.tmp rfl) trivial
 ·have hp2 := of_decide_eq_false hb1
  rw [if_neg hp2] at hm
  iterate 3 refine WL.pass rfl rfl rfl rfl hb1 rfl rfl ?_
  refine WL.op rfl (.pickF (.tmp rfl) hb1 .bool) ?_
  refine WL.mv rfl rfl ?_
  iterate 3 refine WL.pass rfl rfl rfl rfl rfl rfl rfl ?_
  refine WL.op rfl (.pickF (.tmp rfl) rfl .bool) ?_
  refine WL.gv rfl rfl ?_
  refine WL.ns ?_
  cases hm
  exact W.ret1 () rfl (.tmp rfl) trivial

theorem citation_plain_1_spec (n : Nat) (s0_ : api_Step) (r : Bool) (hm : M.citation_plain_1 n s0_ = some r) : FSpec Try.prog 69 [(tapi_Step.is s0_)] (tB.is r) := by
 unfold M.citation_plain_1 at hm
 refine FSpec.of Try.func69 rfl rfl rfl (fun g0 => ?_)
 refine W.sr ?_
 refine WL.op rfl (.box (.tmp rfl)) ?_
 refine WL.op rfl (.assign .bool) ?_
 refine WL.nr ?_
 refine WL.op rfl (.load ty55 (.tmp rfl)) ?_
 obtain ⟨named, hv1, hm⟩ := bind_some hm
 refine WL.op rfl (.call Try.call70 (citation_named_spec _ _ _ hv1) ⟨(.tmp rfl), trivial⟩) ?_
 refine WL.op rfl (.notB (.tmp rfl)) ?_
 refine WL.gv rfl rfl ?_
 refine WL.ns ?_
 cases hm
 exact W.ret1 () rfl (.tmp rfl) trivial

theorem citation_plain_spec (n : Nat) (p : List api_Step) (r : Bool) (hm : M.citation_plain n p = some r) : FSpec Try.prog 46 [((tL tapi_Step).is p)] (tB.is r) := by
 unfold M.citation_plain at hm
 refine FSpec.of Try.func46 rfl rfl rfl (fun g0 => ?_)
 refine W.sr ?_
 refine WL.op rfl (.assign .bool) ?_
 refine WL.ns ?_
 obtain ⟨s1, hs2, hk3⟩ := bind_some hm
 clear hm
 refine W.join (fun s : (List api_Step) => s = s1) (fun s => [(0, ((tL tapi_Step).is s))]) (fun s => []) ?_ ?_
 ·rintro p1 hj14
  try dsimp only at hj14
  subst hj14
  have hm := hk3
  clear hk3
  try dsimp only at hm
  change W _ _ _ _ _ _ _ [(0, ((tL tapi_Step).is p1))] []
  refine W.sr ?_
  refine WL.mv rfl rfl ?_
  refine WL.op rfl (.lenL Try.underlying28 (.tmp rfl)) ?_
  refine WL.op rfl (.gtI (.tmp rfl) .i64) ?_
  refine WL.mv rfl rfl ?_
  rcases bcases (decide ((0 : Int) < (p1.length : Int))) with hb11 | hb11
  ·have hp12 := of_decide_eq_true hb11
   rw [if_pos hp12] at hm
   refine WL.run rfl rfl rfl rfl hb11 rfl rfl (Op1.move (.tmp rfl)) ?_
   obtain ⟨step, hv13, hm⟩ := bind_some hm
   refine WL.run rfl rfl rfl rfl hb11 rfl rfl (Op1.call Try.call68 (slices_ContainsFunc_api_Step_api_Step_spec _ _ _ _ hv13) ⟨(.tmp rfl), (Opd.fn Try.call69 (fun s hs => citation_plain_1_spec _ _ _ hs)), trivial⟩) ?_
   refine WL.run rfl rfl rfl rfl hb11 rfl rfl (Op1.notB (.tmp rfl)) ?_
   refine WL.op rfl (.pickT (.tmp rfl) hb11 (.tmp rfl)) ?_
   refine WL.gv rfl rfl ?_
   refine WL.ns ?_
   cases hm
   exact W.ret1 () rfl (.tmp rfl) trivial
  ·have hp12 := of_decide_eq_false hb11
   rw [if_neg hp12] at hm
   iterate 3 refine WL.pass rfl rfl rfl rfl hb11 rfl rfl ?_
   refine WL.op rfl (.pickF (.tmp rfl) hb11 .bool) ?_
   refine WL.gv rfl rfl ?_
   refine WL.ns ?_
   cases hm
   exact W.ret1 () rfl (.tmp rfl) trivial
 ·have hm := hs2
  clear hs2
  refine W.sr ?_
  refine WL.mv rfl rfl ?_
  refine WL.op rfl (.lenL Try.underlying28 (.tmp rfl)) ?_
  refine WL.op rfl (.gtI (.tmp rfl) .i64) ?_
  refine WL.mv rfl rfl ?_
  rcases bcases (decide ((0 : Int) < (p.length : Int))) with hb4 | hb4
  ·have hp5 := of_decide_eq_true hb4
   rw [if_pos hp5] at hm
   refine WL.run rfl rfl rfl rfl hb4 rfl rfl (Op1.move (.tmp rfl)) ?_
   obtain ⟨v, hv6, hm⟩ := bind_some hm
   refine WL.run rfl rfl rfl rfl hb4 rfl rfl (Op1.idx hv6 Try.underlying28 Try.sizeOf55 (.tmp rfl) .i64) ?_
   refine WL.run rfl rfl rfl rfl hb4 rfl rfl (Op1.load ty55 (.tmp rfl)) ?_
   obtain ⟨book, hv7, hm⟩ := bind_some hm
   refine WL.run rfl rfl rfl rfl hb4 rfl rfl (Op1.call Try.call67 (citation_book_spec _ _ hv7) ⟨(.tmp rfl), trivial⟩) ?_
   refine WL.op rfl (.pickT (.tmp rfl) hb4 (.tmp rfl)) ?_
   refine WL.ns ?_
   refine W.cond (.tmp rfl) (fun hc8 => ?_) (fun hc8 => ?_)
   ·have hp9 := hc8
    rw [if_pos hp9] at hm
    refine W.region ?_
    refine WL.mv rfl rfl ?_
    obtain ⟨v1, hv10, hm⟩ := bind_some hm
    refine WL.op rfl (.slcLo hv10 Try.underlying28 Try.sizeOf55 (.tmp rfl) .i64) ?_
    refine WL.gv rfl rfl ?_
    refine WL.nil ?_
    exact WN.meet v1 (Option.some.inj hm) ⟨Ent.q rfl, trivial⟩ trivial
   ·have hp9 := ne_of_false hc8
    rw [if_neg hp9] at hm
    refine W.skip ?_
    exact WN.meet p (Option.some.inj hm) ⟨Ent.q rfl, trivial⟩ trivial
  ·have hp5 := of_decide_eq_false hb4
   rw [if_neg hp5] at hm
   iterate 4 refine WL.pass rfl rfl rfl rfl hb4 rfl rfl ?_
   refine WL.op rfl (.pickF (.tmp rfl) hb4 .bool) ?_
   refine WL.ns ?_
   refine W.condF (.tmp rfl) ?_
   refine W.skip ?_
   exact WN.meet p (Option.some.inj hm) ⟨Ent.q rfl, trivial⟩ trivial

theorem citation_near_1_spec (n : Nat) (s0_ : api_Step) (r : Bool) (hm : M.citation_near_1 n s0_ = some r) : FSpec Try.prog 74 [(tapi_Step.is s0_)] (tB.is r) := by
 unfold M.citation_near_1 at hm
 refine FSpec.of Try.func74 rfl rfl rfl (fun g0 => ?_)
 refine W.sr ?_
 refine WL.op rfl (.box (.tmp rfl)) ?_
 refine WL.op rfl (.assign .bool) ?_
 refine WL.nr ?_
 refine WL.op rfl (.load ty55 (.tmp rfl)) ?_
 obtain ⟨named, hv1, hm⟩ := bind_some hm
 refine WL.op rfl (.call Try.call70 (citation_named_spec _ _ _ hv1) ⟨(.tmp rfl), trivial⟩) ?_
 refine WL.op rfl (.notB (.tmp rfl)) ?_
 refine WL.gv rfl rfl ?_
 refine WL.ns ?_
 cases hm
 exact W.ret1 () rfl (.tmp rfl) trivial

theorem citation_near_spec (n : Nat) (p : List api_Step) (r : Bool) (hm : M.citation_near n p = some r) : FSpec Try.prog 48 [((tL tapi_Step).is p)] (tB.is r) := by
 unfold M.citation_near at hm
 refine FSpec.of Try.func48 rfl rfl rfl (fun g0 => ?_)
 refine W.sr ?_
 refine WL.op rfl (.assign .bool) ?_
 refine WL.ns ?_
 refine W.seq ?_
 obtain ⟨s1, hs2, hk3⟩ := bind_some hm
 clear hm
 refine W.join (fun s : Bool => s = s1) (fun s => [(26, (tB.is s)), (0, ((tL tapi_Step).is p))]) (fun s => []) ?_ ?_
 ·rintro v hj17
  try dsimp only at hj17
  subst hj17
  have hm := hk3
  clear hk3
  try dsimp only at hm
  change W _ _ _ _ _ _ _ [(26, (tB.is v)), (0, ((tL tapi_Step).is p))] []
  refine W.cond (.tmp rfl) (fun hc13 => ?_) (fun hc13 => ?_)
  ·have hp14 := hc13
   rw [if_pos hp14] at hm
   refine W.sr ?_
   refine WL.op rfl (.assign .bool) ?_
   refine WL.ns ?_
   cases hm
   exact W.ret1 () rfl (.tmp rfl) trivial
  ·have hp14 := ne_of_false hc13
   rw [if_neg hp14] at hm
   refine W.skip ?_
   refine WN.seq ?_
   refine W.sr ?_
   refine WL.mv rfl rfl ?_
   obtain ⟨v4, hv15, hm⟩ := bind_some hm
   refine WL.op rfl (.slcLo hv15 Try.underlying28 Try.sizeOf55 (.tmp rfl) .i64) ?_
   obtain ⟨step, hv16, hm⟩ := bind_some hm
   refine WL.op rfl (.call Try.call68 (slices_ContainsFunc_api_Step_api_Step_spec _ _ _ _ hv16) ⟨(.tmp rfl), (Opd.fn Try.call74 (fun s hs => citation_near_1_spec _ _ _ hs)), trivial⟩) ?_
   refine WL.op rfl (.notB (.tmp rfl)) ?_
   refine WL.gv rfl rfl ?_
   refine WL.ns ?_
   cases hm
   exact W.ret1 () rfl (.tmp rfl) trivial
 ·have hm := hs2
  clear hs2
  refine W.region ?_
  refine WL.mv rfl rfl ?_
  refine WL.op rfl (.lenL Try.underlying28 (.tmp rfl)) ?_
  refine WL.op rfl (.eqI (.tmp rfl) .i64) ?_
  refine WL.mv rfl rfl ?_
  rcases bcases (decide ((p.length : Int) = (0 : Int))) with hb4 | hb4
  ·have hp5 := of_decide_eq_true hb4
   rw [if_pos hp5] at hm
   iterate 5 refine WL.pass rfl rfl rfl rfl hb4 rfl rfl ?_
   refine WL.op rfl (.pickT (.tmp rfl) hb4 .bool) ?_
   refine WL.mv rfl rfl ?_
   iterate 5 refine WL.pass rfl rfl rfl rfl rfl rfl rfl ?_
   refine WL.op rfl (.pickT (.tmp rfl) rfl .bool) ?_
   refine WL.mv rfl rfl ?_
   iterate 5 refine WL.pass rfl rfl rfl rfl rfl rfl rfl ?_
   refine WL.op rfl (.pickT (.tmp rfl) rfl .bool) ?_
   refine WL.nil ?_
   exact WN.meet true (Option.some.inj hm) ⟨Ent.q rfl, Ent.q rfl, trivial⟩ trivial
  ·have hp5 := of_decide_eq_false hb4
   rw [if_neg hp5] at hm
   refine WL.run rfl rfl rfl rfl hb4 rfl rfl (Op1.move (.tmp rfl)) ?_
   obtain ⟨v1, hv6, hm⟩ := bind_some hm
   refine WL.run rfl rfl rfl rfl hb4 rfl rfl (Op1.idx hv6 Try.underlying28 Try.sizeOf55 (.tmp rfl) .i64) ?_
   refine WL.run rfl rfl rfl rfl hb4 rfl rfl (Op1.fieldAddr Try.underlying55 rfl (fun w => ⟨0, Try.sizeOf9 w⟩) fapi_Step_1 (.tmp rfl)) ?_
   refine WL.run rfl rfl rfl rfl hb4 rfl rfl (Op1.load ty9 (.tmp rfl)) ?_
   refine WL.run rfl rfl rfl rfl hb4 rfl rfl (Op1.neS (.tmp rfl) (.str rfl (by decide))) ?_
   refine WL.op rfl (.pickF (.tmp rfl) hb4 (.tmp rfl)) ?_
   refine WL.mv rfl rfl ?_
   rcases bcases (v1.Label != ([] : Str)) with hb7 | hb7
   ·have hp8 := hb7
    rw [if_pos hp8] at hm
    iterate 5 refine WL.pass rfl rfl rfl rfl hb7 rfl rfl ?_
    refine WL.op rfl (.pickT (.tmp rfl) hb7 .bool) ?_
    refine WL.mv rfl rfl ?_
    iterate 5 refine WL.pass rfl rfl rfl rfl rfl rfl rfl ?_
    refine WL.op rfl (.pickT (.tmp rfl) rfl .bool) ?_
    refine WL.nil ?_
    exact WN.meet true (Option.some.inj hm) ⟨Ent.q rfl, Ent.q rfl, trivial⟩ trivial
   ·have hp8 := ne_of_false hb7
    rw [if_neg hp8] at hm
    refine WL.run rfl rfl rfl rfl hb7 rfl rfl (Op1.move (.tmp rfl)) ?_
    obtain ⟨v2, hv9, hm⟩ := bind_some hm
    refine WL.run rfl rfl rfl rfl hb7 rfl rfl (Op1.idx hv9 Try.underlying28 Try.sizeOf55 (.tmp rfl) .i64) ?_
    refine WL.run rfl rfl rfl rfl hb7 rfl rfl (Op1.fieldAddr Try.underlying55 rfl (fun w => ⟨0, Try.sizeOf3 w⟩) fapi_Step_0 (.tmp rfl)) ?_
    refine WL.run rfl rfl rfl rfl hb7 rfl rfl (Op1.load ty3 (.tmp rfl)) ?_
    refine WL.run rfl rfl rfl rfl hb7 rfl rfl (Op1.ltI (.tmp rfl) .i64) ?_
    refine WL.op rfl (.pickF (.tmp rfl) hb7 (.tmp rfl)) ?_
    refine WL.mv rfl rfl ?_
    rcases bcases (decide (v2.Kind < (1 : Int))) with hb10 | hb10
    ·have hp11 := of_decide_eq_true hb10
     rw [if_pos hp11] at hm
     iterate 5 refine WL.pass rfl rfl rfl rfl hb10 rfl rfl ?_
     refine WL.op rfl (.pickT (.tmp rfl) hb10 .bool) ?_
     refine WL.nil ?_
     exact WN.meet true (Option.some.inj hm) ⟨Ent.q rfl, Ent.q rfl, trivial⟩ trivial
    ·have hp11 := of_decide_eq_false hb10
     rw [if_neg hp11] at hm
     refine WL.run rfl rfl rfl rfl hb10 rfl rfl (Op1.move (.tmp rfl)) ?_
     obtain ⟨v3, hv12, hm⟩ := bind_some hm
     refine WL.run rfl rfl rfl rfl hb10 rfl rfl (Op1.idx hv12 Try.underlying28 Try.sizeOf55 (.tmp rfl) .i64) ?_
     refine WL.run rfl rfl rfl rfl hb10 rfl rfl (Op1.fieldAddr Try.underlying55 rfl (fun w => ⟨0, Try.sizeOf3 w⟩) fapi_Step_0 (.tmp rfl)) ?_
     refine WL.run rfl rfl rfl rfl hb10 rfl rfl (Op1.load ty3 (.tmp rfl)) ?_
     refine WL.run rfl rfl rfl rfl hb10 rfl rfl (Op1.gtI (.tmp rfl) .i64) ?_
     refine WL.op rfl (.pickF (.tmp rfl) hb10 (.tmp rfl)) ?_
     refine WL.nil ?_
     exact WN.meet (decide ((7 : Int) < v3.Kind)) (Option.some.inj hm) ⟨Ent.q rfl, Ent.q rfl, trivial⟩ trivial

theorem citation_Valid_spec (n : Nat) (c : api_Cite) (r : Bool) (hm : M.citation_Valid n c = some r) : FSpec Try.prog 25 [(tapi_Cite.is c)] (tB.is r) := by
 unfold M.citation_Valid at hm
 refine FSpec.of Try.func25 rfl rfl rfl (fun g0 => ?_)
 refine W.sr ?_
 refine WL.op rfl (.box (.tmp rfl)) ?_
 refine WL.op rfl (.assign .bool) ?_
 refine WL.ns ?_
 refine W.seq ?_
 obtain ⟨s1, hs2, hk3⟩ := bind_some hm
 clear hm
 refine W.join (fun s : Bool => s = s1) (fun s => [(15, (tB.is s)), (1, (tapi_Cite.ptr c))]) (fun s => []) ?_ ?_
 ·rintro v hj36
  try dsimp only at hj36
  subst hj36
  have hm := hk3
  clear hk3
  try dsimp only at hm
  change W _ _ _ _ _ _ _ [(15, (tB.is v)), (1, (tapi_Cite.ptr c))] []
  refine W.cond (.tmp rfl) (fun hc6 => ?_) (fun hc6 => ?_)
  ·have hp7 := hc6
   rw [if_pos hp7] at hm
   refine W.sr ?_
   refine WL.op rfl (.assign .bool) ?_
   refine WL.ns ?_
   cases hm
   exact W.ret1 () rfl (.tmp rfl) trivial
  ·have hp7 := ne_of_false hc6
   rw [if_neg hp7] at hm
   refine W.skip ?_
   refine WN.seq ?_
   refine W.seq ?_
   refine W.sr ?_
   refine WL.op rfl (.fieldAddr Try.underlying30 rfl (fun w => ⟨0, Try.sizeOf3 w⟩) fapi_Cite_0 (.tmp rfl)) ?_
   refine WL.op rfl (.load ty3 (.tmp rfl)) ?_
   refine WL.ns ?_
   refine W.block ?_
   obtain ⟨s8, hs9, hk10⟩ := bind_some hm
   clear hm
   refine W.join (fun s : Bool => s = s8) (fun s => [(18, (tB.is s)), (1, (tapi_Cite.ptr c)), (17, ((tI .i64).is c.Kind))]) (fun s => []) ?_ ?_
   ·rintro v1 hj35
    try dsimp only at hj35
    subst hj35
    have hm := hk10
    clear hk10
    try dsimp only at hm
    change W _ _ _ _ _ _ _ [(18, (tB.is v1)), (1, (tapi_Cite.ptr c)), (17, ((tI .i64).is c.Kind))] []
    refine W.cond (.tmp rfl) (fun hc13 => ?_) (fun hc13 => ?_)
    ·have hp14 := hc13
     rw [if_pos hp14] at hm
     refine W.sr ?_
     refine WL.op rfl (.fieldAddr Try.underlying30 rfl (fun w => ⟨0, Try.sizeOf28 w⟩) fapi_Cite_1 (.tmp rfl)) ?_
     refine WL.op rfl (.load ty28 (.tmp rfl)) ?_
     obtain ⟨plain, hv15, hm⟩ := bind_some hm
     refine WL.op rfl (.call Try.call46 (citation_plain_spec _ _ _ hv15) ⟨(.tmp rfl), trivial⟩) ?_
     refine WL.gv rfl rfl ?_
     refine WL.ns ?_
     cases hm
     exact W.ret1 () rfl (.tmp rfl) trivial
    ·have hp14 := ne_of_false hc13
     rw [if_neg hp14] at hm
     refine W.sr ?_
     refine WL.op rfl (.eqI (.tmp rfl) .i64) ?_
     refine WL.gv rfl rfl ?_
     refine WL.ns ?_
     refine W.cond (.tmp rfl) (fun hc16 => ?_) (fun hc16 => ?_)
     ·have hp17 := of_decide_eq_true hc16
      rw [if_pos hp17] at hm
      refine W.sr ?_
      refine WL.op rfl (.fieldAddr Try.underlying30 rfl (fun w => ⟨0, Try.sizeOf28 w⟩) fapi_Cite_1 (.tmp rfl)) ?_
      refine WL.op rfl (.load ty28 (.tmp rfl)) ?_
      obtain ⟨plain1, hv18, hm⟩ := bind_some hm
      refine WL.op rfl (.call Try.call46 (citation_plain_spec _ _ _ hv18) ⟨(.tmp rfl), trivial⟩) ?_
      refine WL.mv rfl rfl ?_
      rcases bcases (plain1) with hb19 | hb19
      ·have hp20 := hb19
       rw [if_pos hp20] at hm
       refine WL.run rfl rfl rfl rfl hb19 rfl rfl (Op1.fieldAddr Try.underlying30 rfl (fun w => ⟨0, Try.sizeOf9 w⟩) fapi_Cite_2 (.tmp rfl)) ?_
       refine WL.run rfl rfl rfl rfl hb19 rfl rfl (Op1.load ty9 (.tmp rfl)) ?_
       obtain ⟨valid, hv21, hm⟩ := bind_some hm
       refine WL.run rfl rfl rfl rfl hb19 rfl rfl (Op1.call Try.call47 (label_Valid_spec _ _ _ hv21) ⟨(.tmp rfl), trivial⟩) ?_
       refine WL.op rfl (.pickT (.tmp rfl) hb19 (.tmp rfl)) ?_
       refine WL.mv rfl rfl ?_
       rcases bcases (valid) with hb22 | hb22
       ·have hp23 := hb22
        rw [if_pos hp23] at hm
        refine WL.run rfl rfl rfl rfl hb22 rfl rfl (Op1.fieldAddr Try.underlying30 rfl (fun w => ⟨0, Try.sizeOf28 w⟩) fapi_Cite_1 (.tmp rfl)) ?_
        refine WL.run rfl rfl rfl rfl hb22 rfl rfl (Op1.load ty28 (.tmp rfl)) ?_
        refine WL.run rfl rfl rfl rfl hb22 rfl rfl (Op1.fieldAddr Try.underlying30 rfl (fun w => ⟨0, Try.sizeOf28 w⟩) fapi_Cite_1 (.tmp rfl)) ?_
        refine WL.run rfl rfl rfl rfl hb22 rfl rfl (Op1.load ty28 (.tmp rfl)) ?_
        refine WL.run rfl rfl rfl rfl hb22 rfl rfl (Op1.lenL Try.underlying28 (.tmp rfl)) ?_
        obtain ⟨v2, hv24, hm⟩ := bind_some hm
        refine WL.run rfl rfl rfl rfl hb22 rfl rfl (Op1.subC hv24 (.tmp rfl) .i64) ?_
        obtain ⟨v3, hv25, hm⟩ := bind_some hm
        refine WL.run rfl rfl rfl rfl hb22 rfl rfl (Op1.idx hv25 Try.underlying28 Try.sizeOf55 (.tmp rfl) (.tmp rfl)) ?_
        refine WL.run rfl rfl rfl rfl hb22 rfl rfl (Op1.fieldAddr Try.underlying55 rfl (fun w => ⟨0, Try.sizeOf3 w⟩) fapi_Step_0 (.tmp rfl)) ?_
        refine WL.run rfl rfl rfl rfl hb22 rfl rfl (Op1.load ty3 (.tmp rfl)) ?_
        refine WL.run rfl rfl rfl rfl hb22 rfl rfl (Op1.neI (.tmp rfl) .i64) ?_
        refine WL.op rfl (.pickT (.tmp rfl) hb22 (.tmp rfl)) ?_
        refine WL.gv rfl rfl ?_
        refine WL.ns ?_
        cases hm
        exact W.ret1 () rfl (.tmp rfl) trivial
       ·have hp23 := ne_of_false hb22
        rw [if_neg hp23] at hm
        iterate 10 refine WL.pass rfl rfl rfl rfl hb22 rfl rfl ?_
        refine WL.op rfl (.pickF (.tmp rfl) hb22 .bool) ?_
        refine WL.gv rfl rfl ?_
        refine WL.ns ?_
        cases hm
        exact W.ret1 () rfl (.tmp rfl) trivial
      ·have hp20 := ne_of_false hb19
       rw [if_neg hp20] at hm
       iterate 3 refine WL.pass rfl rfl rfl rfl hb19 rfl rfl ?_
       refine WL.op rfl (.pickF (.tmp rfl) hb19 .bool) ?_
       refine WL.mv rfl rfl ?_
       iterate 10 refine WL.pass rfl rfl rfl rfl rfl rfl rfl ?_
       refine WL.op rfl (.pickF (.tmp rfl) rfl .bool) ?_
       refine WL.gv rfl rfl ?_
       refine WL.ns ?_
       cases hm
       exact W.ret1 () rfl (.tmp rfl) trivial
     ·have hp17 := of_decide_eq_false hc16
      rw [if_neg hp17] at hm
      obtain ⟨s26, hs27, hk28⟩ := bind_some hm
      clear hm
      refine W.join (fun s : Bool => s = s26) (fun s => [(46, (tB.is s)), (1, (tapi_Cite.ptr c))]) (fun s => []) ?_ ?_
      ·rintro v4 hj34
       try dsimp only at hj34
       subst hj34
       have hm := hk28
       clear hk28
       try dsimp only at hm
       change W _ _ _ _ _ _ _ [(46, (tB.is v4)), (1, (tapi_Cite.ptr c))] []
       refine W.cond (.tmp rfl) (fun hc31 => ?_) (fun hc31 => ?_)
       ·have hp32 := hc31
        rw [if_pos hp32] at hm
        refine W.sr ?_
        refine WL.op rfl (.fieldAddr Try.underlying30 rfl (fun w => ⟨0, Try.sizeOf28 w⟩) fapi_Cite_1 (.tmp rfl)) ?_
        refine WL.op rfl (.load ty28 (.tmp rfl)) ?_
        obtain ⟨near, hv33, hm⟩ := bind_some hm
        refine WL.op rfl (.call Try.call48 (citation_near_spec _ _ _ hv33) ⟨(.tmp rfl), trivial⟩) ?_
        refine WL.gv rfl rfl ?_
        refine WL.ns ?_
        cases hm
        exact W.ret1 () rfl (.tmp rfl) trivial
       ·have hp32 := ne_of_false hc31
        rw [if_neg hp32] at hm
        refine W.skip ?_
        refine WN.block ?_
        refine WN.seq ?_
        refine W.sr ?_
        refine WL.op rfl (.assign .bool) ?_
        refine WL.ns ?_
        cases hm
        exact W.ret1 () rfl (.tmp rfl) trivial
      ·have hm := hs27
       clear hs27
       refine W.sr ?_
       refine WL.op rfl (.eqI (.tmp rfl) .i64) ?_
       refine WL.gv rfl rfl ?_
       refine WL.ns ?_
       refine W.cond (.tmp rfl) (fun hc29 => ?_) (fun hc29 => ?_)
       ·have hp30 := of_decide_eq_true hc29
        rw [if_pos hp30] at hm
        refine W.skip ?_
        exact WN.meet (decide (c.Kind = (2 : Int))) (Option.some.inj hm) ⟨Ent.q rfl, Ent.q rfl, trivial⟩ trivial
       ·have hp30 := of_decide_eq_false hc29
        rw [if_neg hp30] at hm
        refine W.region ?_
        refine WL.op rfl (.eqI (.tmp rfl) .i64) ?_
        refine WL.gv rfl rfl ?_
        refine WL.nil ?_
        exact WN.meet (decide (c.Kind = (3 : Int))) (Option.some.inj hm) ⟨Ent.q rfl, Ent.q rfl, trivial⟩ trivial
   ·have hm := hs9
    clear hs9
    refine W.sr ?_
    refine WL.op rfl (.eqI (.tmp rfl) .i64) ?_
    refine WL.gv rfl rfl ?_
    refine WL.ns ?_
    refine W.cond (.tmp rfl) (fun hc11 => ?_) (fun hc11 => ?_)
    ·have hp12 := of_decide_eq_true hc11
     rw [if_pos hp12] at hm
     refine W.skip ?_
     exact WN.meet (decide (c.Kind = (0 : Int))) (Option.some.inj hm) ⟨Ent.q rfl, Ent.q rfl, Ent.q rfl, trivial⟩ trivial
    ·have hp12 := of_decide_eq_false hc11
     rw [if_neg hp12] at hm
     refine W.region ?_
     refine WL.op rfl (.eqI (.tmp rfl) .i64) ?_
     refine WL.gv rfl rfl ?_
     refine WL.nil ?_
     exact WN.meet (decide (c.Kind = (4 : Int))) (Option.some.inj hm) ⟨Ent.q rfl, Ent.q rfl, Ent.q rfl, trivial⟩ trivial
 ·have hm := hs2
  clear hs2
  refine W.region ?_
  refine WL.op rfl (.fieldAddr Try.underlying30 rfl (fun w => ⟨0, Try.sizeOf28 w⟩) fapi_Cite_1 (.tmp rfl)) ?_
  refine WL.op rfl (.load ty28 (.tmp rfl)) ?_
  refine WL.op rfl (.lenL Try.underlying28 (.tmp rfl)) ?_
  refine WL.op rfl (.gtI (.tmp rfl) .i64) ?_
  refine WL.mv rfl rfl ?_
  rcases bcases (decide ((9 : Int) < (c.Path.length : Int))) with hb4 | hb4
  ·have hp5 := of_decide_eq_true hb4
   rw [if_pos hp5] at hm
   iterate 7 refine WL.pass rfl rfl rfl rfl hb4 rfl rfl ?_
   refine WL.op rfl (.pickT (.tmp rfl) hb4 .bool) ?_
   refine WL.nil ?_
   exact WN.meet true (Option.some.inj hm) ⟨Ent.q rfl, Ent.q rfl, trivial⟩ trivial
  ·have hp5 := of_decide_eq_false hb4
   rw [if_neg hp5] at hm
   refine WL.run rfl rfl rfl rfl hb4 rfl rfl (Op1.fieldAddr Try.underlying30 rfl (fun w => ⟨0, Try.sizeOf9 w⟩) fapi_Cite_2 (.tmp rfl)) ?_
   refine WL.run rfl rfl rfl rfl hb4 rfl rfl (Op1.load ty9 (.tmp rfl)) ?_
   refine WL.run rfl rfl rfl rfl hb4 rfl rfl (Op1.neS (.tmp rfl) (.str rfl (by decide))) ?_
   refine WL.run rfl rfl rfl rfl hb4 rfl rfl (Op1.fieldAddr Try.underlying30 rfl (fun w => ⟨0, Try.sizeOf3 w⟩) fapi_Cite_0 (.tmp rfl)) ?_
   refine WL.run rfl rfl rfl rfl hb4 rfl rfl (Op1.load ty3 (.tmp rfl)) ?_
   refine WL.run rfl rfl rfl rfl hb4 rfl rfl (Op1.eqI (.tmp rfl) .i64) ?_
   refine WL.run rfl rfl rfl rfl hb4 rfl rfl (Op1.neB Try.underlying4 (.tmp rfl) (.tmp rfl)) ?_
   refine WL.op rfl (.pickF (.tmp rfl) hb4 (.tmp rfl)) ?_
   refine WL.nil ?_
   exact WN.meet ((c.To != ([] : Str)) != (decide (c.Kind = (1 : Int)))) (Option.some.inj hm) ⟨Ent.q rfl, Ent.q rfl, trivial⟩ trivial

theorem resolve_Resolve_spec (n : Nat) (u : api_Unit) (at0_ : api_Id) (c : api_Cite) (said : List api_Id) (r : (List api_Id) × Int) (hm : M.resolve_Resolve n u at0_ c said = some r) : FSpec Try.prog 10 [(tapi_Unit.is u), (tapi_Id.is at0_), (tapi_Cite.is c), ((tL tapi_Id).is said)] (Asn.tuple2 ((tL tapi_Id).is r.1) ((tI .i64).is r.2)) := by
 unfold M.resolve_Resolve at hm
 refine FSpec.of Try.func10 rfl rfl rfl (fun g0 => ?_)
 refine W.sr ?_
 refine WL.op rfl (.box (.tmp rfl)) ?_
 refine WL.op rfl (.box (.tmp rfl)) ?_
 refine WL.op rfl (.box (.tmp rfl)) ?_
 refine WL.op rfl (.assign (.nil (t := tapi_Id))) ?_
 refine WL.op rfl (.assign .i64) ?_
 refine WL.ns ?_
 refine W.seq ?_
 obtain ⟨meanin, hv1, hm⟩ := bind_some hm
 refine W.weakR (res' := []) trivial ?_
 refine W.drawM [.f (fun cv => (Mv (bk (cv 0)))), .c ((tI .i64).ptr c.Kind), .c ((tI .i64).is c.Kind), .c (Asn.tuple2 ((tFun Try.prog (fun (f : resolve_scene → api_Cite → Option ((List api_Id) × Int)) => (fun s : resolve_scene × api_Cite × ((List api_Id) × Int) => f s.1 s.2.1 = some s.2.2)) (fun s : resolve_scene × api_Cite × ((List api_Id) × Int) => [tresolve_scene.is s.1, tapi_Cite.is s.2.1]) (fun s : resolve_scene × api_Cite × ((List api_Id) × Int) => (Asn.tuple2 ((tL tapi_Id).is s.2.2.1) ((tI .i64).is s.2.2.2)))).is (mget meanin c.Kind (fun _ _ => none : resolve_scene → api_Cite → Option ((List api_Id) × Int)), mhas meanin c.Kind).1) (tB.is (mget meanin c.Kind (fun _ _ => none : resolve_scene → api_Cite → Option ((List api_Id) × Int)), mhas meanin c.Kind).2)), .c (Asn.tuple2 ((tFun Try.prog (fun (f : resolve_scene → api_Cite → Option ((List api_Id) × Int)) => (fun s : resolve_scene × api_Cite × ((List api_Id) × Int) => f s.1 s.2.1 = some s.2.2)) (fun s : resolve_scene × api_Cite × ((List api_Id) × Int) => [tresolve_scene.is s.1, tapi_Cite.is s.2.1]) (fun s : resolve_scene × api_Cite × ((List api_Id) × Int) => (Asn.tuple2 ((tL tapi_Id).is s.2.2.1) ((tI .i64).is s.2.2.2)))).is (mget meanin c.Kind (fun _ _ => none : resolve_scene → api_Cite → Option ((List api_Id) × Int)), mhas meanin c.Kind).1) (tB.is (mget meanin c.Kind (fun _ _ => none : resolve_scene → api_Cite → Option ((List api_Id) × Int)), mhas meanin c.Kind).2)), .c ((tFun Try.prog (fun (f : resolve_scene → api_Cite → Option ((List api_Id) × Int)) => (fun s : resolve_scene × api_Cite × ((List api_Id) × Int) => f s.1 s.2.1 = some s.2.2)) (fun s : resolve_scene × api_Cite × ((List api_Id) × Int) => [tresolve_scene.is s.1, tapi_Cite.is s.2.1]) (fun s : resolve_scene × api_Cite × ((List api_Id) × Int) => (Asn.tuple2 ((tL tapi_Id).is s.2.2.1) ((tI .i64).is s.2.2.2)))).is ((mget meanin c.Kind (fun _ _ => none : resolve_scene → api_Cite → Option ((List api_Id) × Int)), mhas meanin c.Kind).1)), .c (tB.is ((mget meanin c.Kind (fun _ _ => none : resolve_scene → api_Cite → Option ((List api_Id) × Int)), mhas meanin c.Kind).2)), .c ((tFun Try.prog (fun (f : resolve_scene → api_Cite → Option ((List api_Id) × Int)) => (fun s : resolve_scene × api_Cite × ((List api_Id) × Int) => f s.1 s.2.1 = some s.2.2)) (fun s : resolve_scene × api_Cite × ((List api_Id) × Int) => [tresolve_scene.is s.1, tapi_Cite.is s.2.1]) (fun s : resolve_scene × api_Cite × ((List api_Id) × Int) => (Asn.tuple2 ((tL tapi_Id).is s.2.2.1) ((tI .i64).is s.2.2.2)))).is ((mget meanin c.Kind (fun _ _ => none : resolve_scene → api_Cite → Option ((List api_Id) × Int)), mhas meanin c.Kind).1)), .c (tB.is ((mget meanin c.Kind (fun _ _ => none : resolve_scene → api_Cite → Option ((List api_Id) × Int)), mhas meanin c.Kind).2))] [([], []), ([], [6]), ([1], []), ([0, 2], []), ([3], []), ([4], []), ([4], []), ([5], []), ([6], [])] [0] [[true], [], [], [], [], [], [], [], []] (fun m cv => match m with | 0 => [] | _ => [(13, Mp (tI .i64) (tFun Try.prog (fun (f : resolve_scene → api_Cite → Option ((List api_Id) × Int)) => (fun s : resolve_scene × api_Cite × ((List api_Id) × Int) => f s.1 s.2.1 = some s.2.2)) (fun s : resolve_scene × api_Cite × ((List api_Id) × Int) => [tresolve_scene.is s.1, tapi_Cite.is s.2.1]) (fun s : resolve_scene × api_Cite × ((List api_Id) × Int) => (Asn.tuple2 ((tL tapi_Id).is s.2.2.1) ((tI .i64).is s.2.2.2)))) meanin (bk (cv 0)))]) (fun _ => none) Try.mixed rfl rfl rfl rfl rfl ⟨fun m hm c t => by simp only [DA.at, upd_dep (r := [true]) (j := 0) rfl hm], ⟨fun _ _ _ _ => rfl, ⟨fun _ _ _ _ => rfl, ⟨fun _ _ _ _ => rfl, ⟨fun _ _ _ _ => rfl, ⟨fun _ _ _ _ => rfl, ⟨fun _ _ _ _ => rfl, ⟨fun _ _ _ _ => rfl, ⟨fun _ _ _ _ => rfl, trivial⟩⟩⟩⟩⟩⟩⟩⟩⟩ rfl ⟨.inl rfl, ⟨mo fun cv => Op1.fieldAddr Try.underlying30 rfl (fun w => ⟨0, Try.sizeOf3 w⟩) fapi_Cite_0 (.tmp rfl), ⟨mo fun cv => Op1.load ty3 (.tmp rfl), ⟨.inr ⟨fun cv => [(13, Mp (tI .i64) (tFun Try.prog (fun (f : resolve_scene → api_Cite → Option ((List api_Id) × Int)) => (fun s : resolve_scene × api_Cite × ((List api_Id) × Int) => f s.1 s.2.1 = some s.2.2)) (fun s : resolve_scene × api_Cite × ((List api_Id) × Int) => [tresolve_scene.is s.1, tapi_Cite.is s.2.1]) (fun s : resolve_scene × api_Cite × ((List api_Id) × Int) => (Asn.tuple2 ((tL tapi_Id).is s.2.2.1) ((tI .i64).is s.2.2.2)))) meanin (bk (cv 0)))], (AllUpTo.at ⟨(fun hw => absurd hw (by decide)), (fun _ _ => ⟨rfl, rfl, trivial⟩)⟩), fun cv => Op1.lookupOk 13 Try.underlying59 kt3 ze57 rfl (.tmp rfl) (.tmp rfl)⟩, ⟨mo fun cv => Op1.move (.tmp rfl), ⟨mo fun cv => Op1.extract0 (.tmp rfl), ⟨mo fun cv => Op1.extract1 (.tmp rfl), ⟨mo fun cv => Op1.assign (.tmp rfl), ⟨mo fun cv => Op1.assign (.tmp rfl), trivial⟩⟩⟩⟩⟩⟩⟩⟩⟩ ⟨⟨_, _, _, [], (fun cv => [(13, Mp (tI .i64) (tFun Try.prog (fun (f : resolve_scene → api_Cite → Option ((List api_Id) × Int)) => (fun s : resolve_scene × api_Cite × ((List api_Id) × Int) => f s.1 s.2.1 = some s.2.2)) (fun s : resolve_scene × api_Cite × ((List api_Id) × Int) => [tresolve_scene.is s.1, tapi_Cite.is s.2.1]) (fun s : resolve_scene × api_Cite × ((List api_Id) × Int) => (Asn.tuple2 ((tL tapi_Id).is s.2.2.1) ((tI .i64).is s.2.2.2)))) meanin (bk (cv 0)))]), rfl, rfl, rfl, rfl, fun _ => rfl, fun _ _ => rfl, fun cv => OpR.viaB (OpR.call (us := []) Try.call24 ((resolve_meanings_spec _ _ hv1).rekey 13) rfl (show Opds _ ([] : List Operand) [] from trivial))⟩, trivial⟩ (fun cv => ?_)
 refine WN.seq ?_
 refine W.seq ?_
 obtain ⟨s2, hs3, hk4⟩ := bind_some hm
 clear hm
 refine W.join (fun s : Bool => s = s2) (fun s => [(25, (tB.is s)), (3, ((tL tapi_Id).is said)), (4, (tapi_Unit.ptr u)), (5, (tapi_Id.ptr at0_)), (6, (tapi_Cite.ptr c)), (10, ((tFun Try.prog (fun (f : resolve_scene → api_Cite → Option ((List api_Id) × Int)) => (fun s : resolve_scene × api_Cite × ((List api_Id) × Int) => f s.1 s.2.1 = some s.2.2)) (fun s : resolve_scene × api_Cite × ((List api_Id) × Int) => [tresolve_scene.is s.1, tapi_Cite.is s.2.1]) (fun s : resolve_scene × api_Cite × ((List api_Id) × Int) => (Asn.tuple2 ((tL tapi_Id).is s.2.2.1) ((tI .i64).is s.2.2.2)))).is ((mget meanin c.Kind (fun _ _ => none : resolve_scene → api_Cite → Option ((List api_Id) × Int)), mhas meanin c.Kind).1)))]) (fun s => [(13, Mp (tI .i64) (tFun Try.prog (fun (f : resolve_scene → api_Cite → Option ((List api_Id) × Int)) => (fun s : resolve_scene × api_Cite × ((List api_Id) × Int) => f s.1 s.2.1 = some s.2.2)) (fun s : resolve_scene × api_Cite × ((List api_Id) × Int) => [tresolve_scene.is s.1, tapi_Cite.is s.2.1]) (fun s : resolve_scene × api_Cite × ((List api_Id) × Int) => (Asn.tuple2 ((tL tapi_Id).is s.2.2.1) ((tI .i64).is s.2.2.2)))) meanin (bk (cv 0)))]) ?_ ?_
 ·rintro v hj11
  try dsimp only at hj11
  subst hj11
  have hm := hk4
  clear hk4
  try dsimp only at hm
  change W _ _ _ _ _ _ _ [(25, (tB.is v)), (3, ((tL tapi_Id).is said)), (4, (tapi_Unit.ptr u)), (5, (tapi_Id.ptr at0_)), (6, (tapi_Cite.ptr c)), (10, ((tFun Try.prog (fun (f : resolve_scene → api_Cite → Option ((List api_Id) × Int)) => (fun s : resolve_scene × api_Cite × ((List api_Id) × Int) => f s.1 s.2.1 = some s.2.2)) (fun s : resolve_scene × api_Cite × ((List api_Id) × Int) => [tresolve_scene.is s.1, tapi_Cite.is s.2.1]) (fun s : resolve_scene × api_Cite × ((List api_Id) × Int) => (Asn.tuple2 ((tL tapi_Id).is s.2.2.1) ((tI .i64).is s.2.2.2)))).is ((mget meanin c.Kind (fun _ _ => none : resolve_scene → api_Cite → Option ((List api_Id) × Int)), mhas meanin c.Kind).1)))] [(13, Mp (tI .i64) (tFun Try.prog (fun (f : resolve_scene → api_Cite → Option ((List api_Id) × Int)) => (fun s : resolve_scene × api_Cite × ((List api_Id) × Int) => f s.1 s.2.1 = some s.2.2)) (fun s : resolve_scene × api_Cite × ((List api_Id) × Int) => [tresolve_scene.is s.1, tapi_Cite.is s.2.1]) (fun s : resolve_scene × api_Cite × ((List api_Id) × Int) => (Asn.tuple2 ((tL tapi_Id).is s.2.2.1) ((tI .i64).is s.2.2.2)))) meanin (bk (cv 0)))]
  refine W.cond (.tmp rfl) (fun hc8 => ?_) (fun hc8 => ?_)
  ·have hp9 := hc8
   rw [if_pos hp9] at hm
   refine W.sr ?_
   refine WL.op rfl (.assign (.nil (t := tapi_Id))) ?_
   refine WL.op rfl (.assign .i64) ?_
   refine WL.ns ?_
   cases hm
   exact W.ret2 () rfl rfl (.tmp rfl) (.tmp rfl) trivial
  ·have hp9 := ne_of_false hc8
   rw [if_neg hp9] at hm
   refine W.skip ?_
   refine WN.seq ?_
   refine W.sr ?_
   refine WL.mv rfl rfl ?_
   refine WL.op rfl (.load ty27 (.tmp rfl)) ?_
   refine WL.op rfl (.load ty23 (.tmp rfl)) ?_
   refine WL.mv rfl rfl ?_
   refine WL.op rfl (.build (s := tresolve_scene) (x := (⟨u, at0_, said⟩ : resolve_scene)) zresolve_scene_f rfl Try.underlying62 (zresolve_scene_sz _ Try.underlying62) ze62 ⟨_, tapi_Unit, u, _, _, rfl, Try.sizeOf27, (.tmp rfl), sresolve_scene_0, ⟨_, tapi_Id, at0_, _, _, rfl, Try.sizeOf23, (.tmp rfl), sresolve_scene_1, ⟨_, (tL tapi_Id), said, _, _, rfl, Try.sizeOf31, (.tmp rfl), sresolve_scene_2, rfl⟩⟩⟩) ?_
   refine WL.op rfl (.load ty30 (.tmp rfl)) ?_
   obtain ⟨v1, hv10, hm⟩ := bind_some hm
   refine WL.op rfl (.callFun (ok := (fun (f : resolve_scene → api_Cite → Option ((List api_Id) × Int)) => (fun s : resolve_scene × api_Cite × ((List api_Id) × Int) => f s.1 s.2.1 = some s.2.2))) (As := (fun s : resolve_scene × api_Cite × ((List api_Id) × Int) => [tresolve_scene.is s.1, tapi_Cite.is s.2.1])) (A := (fun s : resolve_scene × api_Cite × ((List api_Id) × Int) => (Asn.tuple2 ((tL tapi_Id).is s.2.2.1) ((tI .i64).is s.2.2.2)))) (f := ((mget meanin c.Kind (fun _ _ => none : resolve_scene → api_Cite → Option ((List api_Id) × Int)), mhas meanin c.Kind).1)) (s := ((⟨u, at0_, said⟩ : resolve_scene), c, v1)) (.tmp rfl) hv10 ⟨(.tmp rfl), (.tmp rfl), trivial⟩) ?_
   refine WL.op rfl (.extract0 (.tmp rfl)) ?_
   refine WL.op rfl (.extract1 (.tmp rfl)) ?_
   refine WL.gv rfl rfl ?_
   refine WL.gv rfl rfl ?_
   refine WL.ns ?_
   cases hm
   exact W.ret2 () rfl rfl (.tmp rfl) (.tmp rfl) trivial
 ·have hm := hs3
  clear hs3
  refine W.region ?_
  refine WL.mv rfl rfl ?_
  refine WL.op rfl (.notB (.tmp rfl)) ?_
  refine WL.mv rfl rfl ?_
  rcases bcases (!((mget meanin c.Kind (fun _ _ => none : resolve_scene → api_Cite → Option ((List api_Id) × Int)), mhas meanin c.Kind).2)) with hb5 | hb5
  ·have hp6 := not_pos hb5
   rw [if_pos hp6] at hm
   iterate 3 refine WL.pass rfl rfl rfl rfl hb5 rfl rfl ?_
   refine WL.op rfl (.pickT (.tmp rfl) hb5 .bool) ?_
   refine WL.nil ?_
   exact WN.meet true (Option.some.inj hm) ⟨Ent.q rfl, Ent.q rfl, Ent.q rfl, Ent.q rfl, Ent.q rfl, Ent.q rfl, trivial⟩ ⟨rfl, rfl, trivial⟩
  ·have hp6 := not_neg hb5
   rw [if_neg hp6] at hm
   refine WL.run rfl rfl rfl rfl hb5 rfl rfl (Op1.load ty30 (.tmp rfl)) ?_
   obtain ⟨valid, hv7, hm⟩ := bind_some hm
   refine WL.run rfl rfl rfl rfl hb5 rfl rfl (Op1.call Try.call25 (citation_Valid_spec _ _ _ hv7) ⟨(.tmp rfl), trivial⟩) ?_
   refine WL.run rfl rfl rfl rfl hb5 rfl rfl (Op1.notB (.tmp rfl)) ?_
   refine WL.op rfl (.pickF (.tmp rfl) hb5 (.tmp rfl)) ?_
   refine WL.nil ?_
   exact WN.meet (!valid) (Option.some.inj hm) ⟨Ent.q rfl, Ent.q rfl, Ent.q rfl, Ent.q rfl, Ent.q rfl, Ent.q rfl, trivial⟩ ⟨rfl, rfl, trivial⟩

theorem law41_awake_spec (n : Nat)  (r : Bool) (hm : M.law41_awake n  = some r) : FSpec Try.prog 7 [] (tB.is r) := by
 unfold M.law41_awake at hm
 refine FSpec.of Try.func7 rfl rfl rfl (fun g0 => ?_)
 refine W.sr ?_
 refine WL.op rfl (.assign .bool) ?_
 refine WL.nr ?_
 refine WL.op rfl (.build (s := tapi_Id) (x := (⟨(1 : Int), (0 : Int), (2 : Int)⟩ : api_Id)) zapi_Id_f rfl Try.underlying23 (zapi_Id_sz _ Try.underlying23) ze23 ⟨_, (tI .i64), (1 : Int), _, _, rfl, Try.sizeOf3, .i64, sapi_Id_0, ⟨_, (tI .i64), (2 : Int), _, _, rfl, Try.sizeOf3, .i64, sapi_Id_2, rfl⟩⟩) ?_
 refine WL.opR rfl (OpR.alloc 1 ze23) (fun b => ?_)
 refine WL.opU (OpR.storeB (b := b) 1 Try.sizeOf23 (Cellable.is tapi_Id (⟨(1 : Int), (0 : Int), (2 : Int)⟩ : api_Id)) rfl (.tmp rfl) (.tmp rfl)) (fun _ => ?_)
 refine WL.sealed (t := tapi_Id) (u := (⟨(1 : Int), (0 : Int), (2 : Int)⟩ : api_Id)) 1 1 rfl rfl ?_
 refine WL.nr ?_
 refine WL.op rfl (.build (s := tapi_Id) (x := (⟨(1 : Int), (0 : Int), (1 : Int)⟩ : api_Id)) zapi_Id_f rfl Try.underlying23 (zapi_Id_sz _ Try.underlying23) ze23 ⟨_, (tI .i64), (1 : Int), _, _, rfl, Try.sizeOf3, .i64, sapi_Id_0, ⟨_, (tI .i64), (1 : Int), _, _, rfl, Try.sizeOf3, .i64, sapi_Id_2, rfl⟩⟩) ?_
 refine WL.op rfl (.load ty23 (.tmp rfl)) ?_
 refine WL.op rfl (.build (s := tapi_Unit) (x := (⟨(⟨(1 : Int), (0 : Int), (2 : Int)⟩ : api_Id), (3 : Int), ([50] : Str), ([] : List api_Word), ([] : List api_Word), ([] : List api_Unit)⟩ : api_Unit)) zapi_Unit_f rfl Try.underlying27 (zapi_Unit_sz _ Try.underlying27) ze27 ⟨_, tapi_Id, (⟨(1 : Int), (0 : Int), (2 : Int)⟩ : api_Id), _, _, rfl, Try.sizeOf23, (.tmp rfl), sapi_Unit_0, ⟨_, (tI .i64), (3 : Int), _, _, rfl, Try.sizeOf3, .i64, sapi_Unit_1, ⟨_, tS, ([50] : Str), _, _, rfl, Try.sizeOf9, (.str rfl (by decide)), sapi_Unit_2, rfl⟩⟩⟩) ?_
 refine WL.op rfl (.buildSlice (n := 1) (ys := [(0, (⟨(⟨(1 : Int), (0 : Int), (2 : Int)⟩ : api_Id), (3 : Int), ([50] : Str), ([] : List api_Word), ([] : List api_Word), ([] : List api_Unit)⟩ : api_Unit))]) (z := zapi_Unit) (xs := [(⟨(⟨(1 : Int), (0 : Int), (2 : Int)⟩ : api_Id), (3 : Int), ([50] : Str), ([] : List api_Word), ([] : List api_Word), ([] : List api_Unit)⟩ : api_Unit)]) Try.underlying25 el27 ze27 ⟨rfl, (.tmp rfl), trivial⟩ (by simp) (by decide) rfl) ?_
 refine WL.op rfl (.build (s := tapi_Unit) (x := (⟨(⟨(1 : Int), (0 : Int), (1 : Int)⟩ : api_Id), (2 : Int), ([53] : Str), ([] : List api_Word), ([] : List api_Word), [(⟨(⟨(1 : Int), (0 : Int), (2 : Int)⟩ : api_Id), (3 : Int), ([50] : Str), ([] : List api_Word), ([] : List api_Word), ([] : List api_Unit)⟩ : api_Unit)]⟩ : api_Unit)) zapi_Unit_f rfl Try.underlying27 (zapi_Unit_sz _ Try.underlying27) ze27 ⟨_, tapi_Id, (⟨(1 : Int), (0 : Int), (1 : Int)⟩ : api_Id), _, _, rfl, Try.sizeOf23, (.tmp rfl), sapi_Unit_0, ⟨_, (tI .i64), (2 : Int), _, _, rfl, Try.sizeOf3, .i64, sapi_Unit_1, ⟨_, tS, ([53] : Str), _, _, rfl, Try.sizeOf9, (.str rfl (by decide)), sapi_Unit_2, ⟨_, (tL tapi_Unit), ([(⟨(⟨(1 : Int), (0 : Int), (2 : Int)⟩ : api_Id), (3 : Int), ([50] : Str), ([] : List api_Word), ([] : List api_Word), ([] : List api_Unit)⟩ : api_Unit)]), _, _, rfl, Try.sizeOf25, (.tmp rfl), sapi_Unit_5, rfl⟩⟩⟩⟩) ?_
 refine WL.op rfl (.buildSlice (n := 1) (ys := [(0, (⟨(⟨(1 : Int), (0 : Int), (1 : Int)⟩ : api_Id), (2 : Int), ([53] : Str), ([] : List api_Word), ([] : List api_Word), [(⟨(⟨(1 : Int), (0 : Int), (2 : Int)⟩ : api_Id), (3 : Int), ([50] : Str), ([] : List api_Word), ([] : List api_Word), ([] : List api_Unit)⟩ : api_Unit)]⟩ : api_Unit))]) (z := zapi_Unit) (xs := [(⟨(⟨(1 : Int), (0 : Int), (1 : Int)⟩ : api_Id), (2 : Int), ([53] : Str), ([] : List api_Word), ([] : List api_Word), [(⟨(⟨(1 : Int), (0 : Int), (2 : Int)⟩ : api_Id), (3 : Int), ([50] : Str), ([] : List api_Word), ([] : List api_Word), ([] : List api_Unit)⟩ : api_Unit)]⟩ : api_Unit)]) Try.underlying25 el27 ze27 ⟨rfl, (.tmp rfl), trivial⟩ (by simp) (by decide) rfl) ?_
 refine WL.op rfl (.build (s := tapi_Unit) (x := (⟨zapi_Id, (0 : Int), ([] : Str), ([] : List api_Word), ([] : List api_Word), [(⟨(⟨(1 : Int), (0 : Int), (1 : Int)⟩ : api_Id), (2 : Int), ([53] : Str), ([] : List api_Word), ([] : List api_Word), [(⟨(⟨(1 : Int), (0 : Int), (2 : Int)⟩ : api_Id), (3 : Int), ([50] : Str), ([] : List api_Word), ([] : List api_Word), ([] : List api_Unit)⟩ : api_Unit)]⟩ : api_Unit)]⟩ : api_Unit)) zapi_Unit_f rfl Try.underlying27 (zapi_Unit_sz _ Try.underlying27) ze27 ⟨_, (tL tapi_Unit), ([(⟨(⟨(1 : Int), (0 : Int), (1 : Int)⟩ : api_Id), (2 : Int), ([53] : Str), ([] : List api_Word), ([] : List api_Word), [(⟨(⟨(1 : Int), (0 : Int), (2 : Int)⟩ : api_Id), (3 : Int), ([50] : Str), ([] : List api_Word), ([] : List api_Word), ([] : List api_Unit)⟩ : api_Unit)]⟩ : api_Unit)]), _, _, rfl, Try.sizeOf25, (.tmp rfl), sapi_Unit_5, rfl⟩) ?_
 refine WL.opR rfl (OpR.alloc 2 ze27) (fun b1 => ?_)
 refine WL.opU (OpR.storeB (b := b1) 2 Try.sizeOf27 (Cellable.is tapi_Unit (⟨zapi_Id, (0 : Int), ([] : Str), ([] : List api_Word), ([] : List api_Word), [(⟨(⟨(1 : Int), (0 : Int), (1 : Int)⟩ : api_Id), (2 : Int), ([53] : Str), ([] : List api_Word), ([] : List api_Word), [(⟨(⟨(1 : Int), (0 : Int), (2 : Int)⟩ : api_Id), (3 : Int), ([50] : Str), ([] : List api_Word), ([] : List api_Word), ([] : List api_Unit)⟩ : api_Unit)]⟩ : api_Unit)]⟩ : api_Unit)) rfl (.tmp rfl) (.tmp rfl)) (fun _ => ?_)
 refine WL.sealed (t := tapi_Unit) (u := (⟨zapi_Id, (0 : Int), ([] : Str), ([] : List api_Word), ([] : List api_Word), [(⟨(⟨(1 : Int), (0 : Int), (1 : Int)⟩ : api_Id), (2 : Int), ([53] : Str), ([] : List api_Word), ([] : List api_Word), [(⟨(⟨(1 : Int), (0 : Int), (2 : Int)⟩ : api_Id), (3 : Int), ([50] : Str), ([] : List api_Word), ([] : List api_Word), ([] : List api_Unit)⟩ : api_Unit)]⟩ : api_Unit)]⟩ : api_Unit)) 2 2 rfl rfl ?_
 refine WL.nr ?_
 refine WL.op rfl (.load ty27 (.tmp rfl)) ?_
 refine WL.op rfl (.build (s := tapi_Id) (x := (⟨(1 : Int), (0 : Int), (1 : Int)⟩ : api_Id)) zapi_Id_f rfl Try.underlying23 (zapi_Id_sz _ Try.underlying23) ze23 ⟨_, (tI .i64), (1 : Int), _, _, rfl, Try.sizeOf3, .i64, sapi_Id_0, ⟨_, (tI .i64), (1 : Int), _, _, rfl, Try.sizeOf3, .i64, sapi_Id_2, rfl⟩⟩) ?_
 refine WL.op rfl (.build (s := tapi_Step) (x := (⟨(2 : Int), ([] : Str)⟩ : api_Step)) zapi_Step_f rfl Try.underlying55 (zapi_Step_sz _ Try.underlying55) ze55 ⟨_, (tI .i64), (2 : Int), _, _, rfl, Try.sizeOf3, .i64, sapi_Step_0, rfl⟩) ?_
 refine WL.op rfl (.build (s := tapi_Step) (x := (⟨(3 : Int), ([50] : Str)⟩ : api_Step)) zapi_Step_f rfl Try.underlying55 (zapi_Step_sz _ Try.underlying55) ze55 ⟨_, (tI .i64), (3 : Int), _, _, rfl, Try.sizeOf3, .i64, sapi_Step_0, ⟨_, tS, ([50] : Str), _, _, rfl, Try.sizeOf9, (.str rfl (by decide)), sapi_Step_1, rfl⟩⟩) ?_
 refine WL.op rfl (.buildSlice (n := 2) (ys := [(0, (⟨(2 : Int), ([] : Str)⟩ : api_Step)), (1, (⟨(3 : Int), ([50] : Str)⟩ : api_Step))]) (z := zapi_Step) (xs := [(⟨(2 : Int), ([] : Str)⟩ : api_Step), (⟨(3 : Int), ([50] : Str)⟩ : api_Step)]) Try.underlying28 el55 ze55 ⟨rfl, (.tmp rfl), rfl, (.tmp rfl), trivial⟩ (by simp) (by decide) rfl) ?_
 refine WL.op rfl (.build (s := tapi_Cite) (x := (⟨(2 : Int), [(⟨(2 : Int), ([] : Str)⟩ : api_Step), (⟨(3 : Int), ([50] : Str)⟩ : api_Step)], ([] : Str), (0 : Int), (0 : Int)⟩ : api_Cite)) zapi_Cite_f rfl Try.underlying30 (zapi_Cite_sz _ Try.underlying30) ze30 ⟨_, (tI .i64), (2 : Int), _, _, rfl, Try.sizeOf3, .i64, sapi_Cite_0, ⟨_, (tL tapi_Step), ([(⟨(2 : Int), ([] : Str)⟩ : api_Step), (⟨(3 : Int), ([50] : Str)⟩ : api_Step)]), _, _, rfl, Try.sizeOf28, (.tmp rfl), sapi_Cite_1, rfl⟩⟩) ?_
 obtain ⟨resolv, hv1, hm⟩ := bind_some hm
 refine WL.op rfl (.call Try.call10 (resolve_Resolve_spec _ _ _ _ _ _ hv1) ⟨(.tmp rfl), (.tmp rfl), (.tmp rfl), (.nil (t := tapi_Id)), trivial⟩) ?_
 refine WL.mv rfl rfl ?_
 refine WL.op rfl (.extract0 (.tmp rfl)) ?_
 refine WL.op rfl (.extract1 (.tmp rfl)) ?_
 refine WL.gv rfl rfl ?_
 refine WL.gv rfl rfl ?_
 refine WL.ns ?_
 refine W.seq ?_
 rcases bcases (decide (resolv.2 = (0 : Int))) with hb2 | hb2
 ·have hp3 := of_decide_eq_true hb2
  rw [if_pos hp3] at hm
  rcases bcases (decide ((resolv.1.length : Int) = (1 : Int))) with hb4 | hb4
  ·have hp5 := of_decide_eq_true hb4
   rw [if_pos hp5] at hm
   obtain ⟨v, hv6, hm⟩ := bind_some hm
   refine W.draw [.c ((tI .i64).is resolv.2), .c (tB.is (decide (resolv.2 = (0 : Int)))), .c (tB.is (decide (resolv.2 = (0 : Int)))), .c ((tL tapi_Id).is resolv.1), .c ((tI .i64).is (resolv.1.length : Int)), .c (tB.is (decide ((resolv.1.length : Int) = (1 : Int)))), .c (tB.is (decide ((resolv.1.length : Int) = (1 : Int)))), .c (tB.is (decide ((resolv.1.length : Int) = (1 : Int)))), .c ((tL tapi_Id).is resolv.1), .c (tapi_Id.ptr v), .c (tapi_Id.is v), .c (tapi_Id.is (⟨(1 : Int), (0 : Int), (2 : Int)⟩ : api_Id)), .c (tB.is (decide (v = (⟨(1 : Int), (0 : Int), (2 : Int)⟩ : api_Id)))), .c (tB.is (decide (v = (⟨(1 : Int), (0 : Int), (2 : Int)⟩ : api_Id)))), .c (tB.is (decide (v = (⟨(1 : Int), (0 : Int), (2 : Int)⟩ : api_Id))))] [([], [4]), ([0], []), ([1], []), ([2], [3]), ([2, 3], []), ([2, 4], []), ([2, 5], []), ([6], []), ([7], [3]), ([7, 8], []), ([7, 9], []), ([7], [1]), ([7, 10, 11], []), ([7, 12], []), ([13], [])] Try.mixed rfl rfl rfl rfl ⟨.inr (Op1.move (.tmp rfl)), .inr (Op1.eqI (.tmp rfl) .i64), .inr (Op1.move (.tmp rfl)), .inr (dr rfl rfl rfl hb2 (Op1.move (.tmp rfl))), .inr (dr rfl rfl rfl hb2 (Op1.lenL Try.underlying31 (.tmp rfl))), .inr (dr rfl rfl rfl hb2 (Op1.eqI (.tmp rfl) .i64)), .inr (Op1.pickT (.tmp rfl) hb2 (.tmp rfl)), .inr (Op1.move (.tmp rfl)), .inr (dr rfl rfl rfl hb4 (Op1.move (.tmp rfl))), .inr (dr rfl rfl rfl hb4 (Op1.idx hv6 Try.underlying31 Try.sizeOf23 (.tmp rfl) .i64)), .inr (dr rfl rfl rfl hb4 (Op1.load ty23 (.tmp rfl))), .inr (dr rfl rfl rfl hb4 (Op1.load ty23 (.tmp rfl))), .inr (dr rfl rfl rfl hb4 (Op1.eqSt (D := 2) rfl (by decide) eg23 eq23 (.tmp rfl) (.tmp rfl))), .inr (Op1.pickT (.tmp rfl) hb4 (.tmp rfl)), .inr (Op1.assign (.tmp rfl)), trivial⟩ ?_
   refine WN.seq ?_
   cases hm
   exact W.ret1 () rfl (.tmp rfl) trivial
  ·have hp5 := of_decide_eq_false hb4
   rw [if_neg hp5] at hm
   refine W.draw [.c ((tI .i64).is resolv.2), .c (tB.is (decide (resolv.2 = (0 : Int)))), .c (tB.is (decide (resolv.2 = (0 : Int)))), .c ((tL tapi_Id).is resolv.1), .c ((tI .i64).is (resolv.1.length : Int)), .c (tB.is (decide ((resolv.1.length : Int) = (1 : Int)))), .c (tB.is (decide ((resolv.1.length : Int) = (1 : Int)))), .c (tB.is (decide ((resolv.1.length : Int) = (1 : Int)))), .c (Asn.eq undef), .c (Asn.eq undef), .c (Asn.eq undef), .c (Asn.eq undef), .c (Asn.eq undef), .c (tB.is false), .c (tB.is false)] [([], [4]), ([0], []), ([1], []), ([2], [3]), ([2, 3], []), ([2, 4], []), ([2, 5], []), ([6], []), ([7], [3]), ([7, 8], []), ([7, 9], []), ([7], [1]), ([7, 10, 11], []), ([7, 12], []), ([13], [])] Try.mixed rfl rfl rfl rfl ⟨.inr (Op1.move (.tmp rfl)), .inr (Op1.eqI (.tmp rfl) .i64), .inr (Op1.move (.tmp rfl)), .inr (dr rfl rfl rfl hb2 (Op1.move (.tmp rfl))), .inr (dr rfl rfl rfl hb2 (Op1.lenL Try.underlying31 (.tmp rfl))), .inr (dr rfl rfl rfl hb2 (Op1.eqI (.tmp rfl) .i64)), .inr (Op1.pickT (.tmp rfl) hb2 (.tmp rfl)), .inr (Op1.move (.tmp rfl)), .inr (dp rfl rfl rfl hb4), .inr (dp rfl rfl rfl hb4), .inr (dp rfl rfl rfl hb4), .inr (dp rfl rfl rfl hb4), .inr (dp rfl rfl rfl hb4), .inr (Op1.pickF (.tmp rfl) hb4 .bool), .inr (Op1.assign (.tmp rfl)), trivial⟩ ?_
   refine WN.seq ?_
   cases hm
   exact W.ret1 () rfl (.tmp rfl) trivial
 ·have hp3 := of_decide_eq_false hb2
  rw [if_neg hp3] at hm
  refine W.draw [.c ((tI .i64).is resolv.2), .c (tB.is (decide (resolv.2 = (0 : Int)))), .c (tB.is (decide (resolv.2 = (0 : Int)))), .c (Asn.eq undef), .c (Asn.eq undef), .c (Asn.eq undef), .c (tB.is false), .c (tB.is false), .c (Asn.eq undef), .c (Asn.eq undef), .c (Asn.eq undef), .c (Asn.eq undef), .c (Asn.eq undef), .c (tB.is false), .c (tB.is false)] [([], [4]), ([0], []), ([1], []), ([2], [3]), ([2, 3], []), ([2, 4], []), ([2, 5], []), ([6], []), ([7], [3]), ([7, 8], []), ([7, 9], []), ([7], [1]), ([7, 10, 11], []), ([7, 12], []), ([13], [])] Try.mixed rfl rfl rfl rfl ⟨.inr (Op1.move (.tmp rfl)), .inr (Op1.eqI (.tmp rfl) .i64), .inr (Op1.move (.tmp rfl)), .inr (dp rfl rfl rfl hb2), .inr (dp rfl rfl rfl hb2), .inr (dp rfl rfl rfl hb2), .inr (Op1.pickF (.tmp rfl) hb2 .bool), .inr (Op1.move (.tmp rfl)), .inr (dp rfl rfl rfl rfl), .inr (dp rfl rfl rfl rfl), .inr (dp rfl rfl rfl rfl), .inr (dp rfl rfl rfl rfl), .inr (dp rfl rfl rfl rfl), .inr (Op1.pickF (.tmp rfl) rfl .bool), .inr (Op1.assign (.tmp rfl)), trivial⟩ ?_
  refine WN.seq ?_
  cases hm
  exact W.ret1 () rfl (.tmp rfl) trivial

theorem r06_size_spec : ∀ (n : Nat) (u : api_Unit) (deep : Int) (most : Int) (r : Int), M.r06_size n u deep most = some r → FSpec Try.prog 37 [(tapi_Unit.is u), ((tI .i64).is deep), ((tI .i64).is most)] ((tI .i64).is r) := by
 intro n
 induction n with
 | zero => intro u deep most r hm; cases hm
 | succ n ih =>
  intro u deep most r hm
  rw [M.r06_size.eq_2] at hm
  refine FSpec.of Try.func37 rfl rfl rfl (fun g0 => ?_)
  refine W.sr ?_
  refine WL.op rfl (.box (.tmp rfl)) ?_
  refine WL.op rfl (.assign .i64) ?_
  refine WL.ns ?_
  refine W.seq ?_
  refine W.sr ?_
  refine WL.mv rfl rfl ?_
  refine WL.op rfl (.gtI (.tmp rfl) .i64) ?_
  refine WL.ns ?_
  refine W.cond (.tmp rfl) (fun hc1 => ?_) (fun hc1 => ?_)
  ·have hp2 := of_decide_eq_true hc1
   rw [if_pos hp2] at hm
   refine W.sr ?_
   refine WL.mv rfl rfl ?_
   obtain ⟨v, hv3, hm⟩ := bind_some hm
   refine WL.op rfl (.addC hv3 (.tmp rfl) .i64) ?_
   refine WL.gv rfl rfl ?_
   refine WL.ns ?_
   cases hm
   exact W.ret1 () rfl (.tmp rfl) trivial
  ·have hp2 := of_decide_eq_false hc1
   rw [if_neg hp2] at hm
   refine W.skip ?_
   refine WN.seq ?_
   refine W.sr ?_
   refine WL.op rfl (.assign .i64) ?_
   refine WL.ns ?_
   refine W.seq ?_
   refine W.sr ?_
   refine WL.op rfl (.assign .i64) ?_
   refine WL.ns ?_
   refine W.block ?_
   obtain ⟨s4, hs5, hk6⟩ := bind_some hm
   clear hm
   refine W.loop (fun m (s : Int × Int) => M.r06_size_loop1 u deep most (M.r06_size n) m s.1 s.2 = some s4) (fun s => [(7, ((tI .i64).is s.1)), (8, ((tI .i64).is s.2)), (1, ((tI .i64).is deep)), (2, ((tI .i64).is most)), (3, (tapi_Unit.ptr u))]) (fun s => []) _ ((1 : Int), (0 : Int)) hs5 ⟨Ent.q rfl, Ent.q rfl, Ent.q rfl, Ent.q rfl, Ent.q rfl, trivial⟩ trivial ?_
   rintro n7 ⟨n0_, i⟩ hm
   try dsimp only at hm
   change W _ _ _ _ _ _ _ [(7, ((tI .i64).is n0_)), (8, ((tI .i64).is i)), (1, ((tI .i64).is deep)), (2, ((tI .i64).is most)), (3, (tapi_Unit.ptr u))] []
   cases n7 with
   | zero => rw [M.r06_size_loop1.eq_1] at hm; cases hm
   | succ n7 =>
    rw [M.r06_size_loop1.eq_2] at hm
    refine W.seq ?_
    obtain ⟨s8, hs9, hk10⟩ := bind_some hm
    clear hm
    refine W.join (fun s : Bool => s = s8) (fun s => [(22, (tB.is s)), (1, ((tI .i64).is deep)), (2, ((tI .i64).is most)), (3, (tapi_Unit.ptr u)), (7, ((tI .i64).is n0_)), (8, ((tI .i64).is i))]) (fun s => []) ?_ ?_
    ·rintro v1 hj22
     try dsimp only at hj22
     subst hj22
     have hm := hk10
     clear hk10
     try dsimp only at hm
     change W _ _ _ _ _ _ _ [(22, (tB.is v1)), (1, ((tI .i64).is deep)), (2, ((tI .i64).is most)), (3, (tapi_Unit.ptr u)), (7, ((tI .i64).is n0_)), (8, ((tI .i64).is i))] []
     refine W.cond (.tmp rfl) (fun hc13 => ?_) (fun hc13 => ?_)
     ·have hp14 := hc13
      rw [if_pos hp14] at hm
      refine W.skip ?_
      refine WN.seq ?_
      refine W.seq ?_
      refine W.block ?_
      refine W.region ?_
      refine WL.mv rfl rfl ?_
      refine WL.op rfl (.fieldAddr Try.underlying27 rfl (fun w => ⟨0, Try.sizeOf25 w⟩) fapi_Unit_5 (.tmp rfl)) ?_
      refine WL.op rfl (.load ty25 (.tmp rfl)) ?_
      refine WL.mv rfl rfl ?_
      obtain ⟨v2, hv15, hm⟩ := bind_some hm
      refine WL.op rfl (.idx hv15 Try.underlying25 Try.sizeOf27 (.tmp rfl) (.tmp rfl)) ?_
      refine WL.op rfl (.load ty27 (.tmp rfl)) ?_
      refine WL.mv rfl rfl ?_
      obtain ⟨v3, hv16, hm⟩ := bind_some hm
      refine WL.op rfl (.addC hv16 (.tmp rfl) .i64) ?_
      refine WL.mv rfl rfl ?_
      refine WL.mv rfl rfl ?_
      obtain ⟨v4, hv17, hm⟩ := bind_some hm
      refine WL.op rfl (.subC hv17 (.tmp rfl) (.tmp rfl)) ?_
      obtain ⟨size, hv18, hm⟩ := bind_some hm
      refine WL.op rfl (.call Try.call37 (ih _ _ _ _ hv18) ⟨(.tmp rfl), (.tmp rfl), (.tmp rfl), trivial⟩) ?_
      obtain ⟨v5, hv19, hm⟩ := bind_some hm
      refine WL.op rfl (.addC hv19 (.tmp rfl) (.tmp rfl)) ?_
      refine WL.gv rfl rfl ?_
      refine WL.nil ?_
      refine WN.block ?_
      refine WN.seq ?_
      refine W.region ?_
      refine WL.mv rfl rfl ?_
      obtain ⟨v6, hv20, hm⟩ := bind_some hm
      refine WL.op rfl (.addC hv20 (.tmp rfl) .i64) ?_
      refine WL.gv rfl rfl ?_
      refine WL.nil ?_
      exact WN.again n7 (v5, v6) (Nat.lt_succ_self n7) hm ⟨Ent.q rfl, Ent.q rfl, Ent.q rfl, Ent.q rfl, Ent.q rfl, trivial⟩ trivial
     ·have hp14 := ne_of_false hc13
      rw [if_neg hp14] at hm
      refine W.exit rfl ?_
      have hr21 := Option.some.inj hm
      clear hm
      subst hr21
      have hm := hk6
      try dsimp only at hm
      refine WN.seq ?_
      refine W.sr ?_
      refine WL.mv rfl rfl ?_
      refine WL.gv rfl rfl ?_
      refine WL.ns ?_
      cases hm
      exact W.ret1 () rfl (.tmp rfl) trivial
    ·have hm := hs9
     clear hs9
     refine W.region ?_
     refine WL.mv rfl rfl ?_
     refine WL.op rfl (.fieldAddr Try.underlying27 rfl (fun w => ⟨0, Try.sizeOf25 w⟩) fapi_Unit_5 (.tmp rfl)) ?_
     refine WL.op rfl (.load ty25 (.tmp rfl)) ?_
     refine WL.op rfl (.lenL Try.underlying25 (.tmp rfl)) ?_
     refine WL.op rfl (.ltI (.tmp rfl) (.tmp rfl)) ?_
     refine WL.mv rfl rfl ?_
     rcases bcases (decide (i < (u.Kids.length : Int))) with hb11 | hb11
     ·have hp12 := of_decide_eq_true hb11
      rw [if_pos hp12] at hm
      refine WL.run rfl rfl rfl rfl hb11 rfl rfl (Op1.move (.tmp rfl)) ?_
      refine WL.run rfl rfl rfl rfl hb11 rfl rfl (Op1.move (.tmp rfl)) ?_
      refine WL.run rfl rfl rfl rfl hb11 rfl rfl (Op1.leI (.tmp rfl) (.tmp rfl)) ?_
      refine WL.op rfl (.pickT (.tmp rfl) hb11 (.tmp rfl)) ?_
      refine WL.nil ?_
      exact WN.meet (decide (n0_ ≤ most)) (Option.some.inj hm) ⟨Ent.q rfl, Ent.q rfl, Ent.q rfl, Ent.q rfl, Ent.q rfl, Ent.q rfl, trivial⟩ trivial
     ·have hp12 := of_decide_eq_false hb11
      rw [if_neg hp12] at hm
      iterate 3 refine WL.pass rfl rfl rfl rfl hb11 rfl rfl ?_
      refine WL.op rfl (.pickF (.tmp rfl) hb11 .bool) ?_
      refine WL.nil ?_
      exact WN.meet false (Option.some.inj hm) ⟨Ent.q rfl, Ent.q rfl, Ent.q rfl, Ent.q rfl, Ent.q rfl, Ent.q rfl, trivial⟩ trivial

theorem r06_short_spec (n : Nat) (l : List api_Word) (r : Bool) (hm : M.r06_short n l = some r) : FSpec Try.prog 57 [((tL tapi_Word).is l)] (tB.is r) := by
 unfold M.r06_short at hm
 refine FSpec.of Try.func57 rfl rfl rfl (fun g0 => ?_)
 refine W.sr ?_
 refine WL.op rfl (.assign .bool) ?_
 refine WL.ns ?_
 refine W.seq ?_
 refine W.sr ?_
 refine WL.op rfl (.assign .i64) ?_
 refine WL.ns ?_
 refine W.block ?_
 obtain ⟨s1, hs2, hk3⟩ := bind_some hm
 clear hm
 refine W.loop (fun m (s : Int) => M.r06_short_loop1 l m s = some s1) (fun s => [(3, ((tI .i64).is s)), (0, ((tL tapi_Word).is l))]) (fun s => []) _ (0 : Int) hs2 ⟨Ent.q rfl, Ent.q rfl, trivial⟩ trivial ?_
 rintro n4 i hm
 try dsimp only at hm
 change W _ _ _ _ _ _ _ [(3, ((tI .i64).is i)), (0, ((tL tapi_Word).is l))] []
 cases n4 with
 | zero => rw [M.r06_short_loop1.eq_1] at hm; cases hm
 | succ n4 =>
  rw [M.r06_short_loop1.eq_2] at hm
  refine W.seq ?_
  refine W.sr ?_
  refine WL.mv rfl rfl ?_
  refine WL.mv rfl rfl ?_
  refine WL.op rfl (.lenL Try.underlying24 (.tmp rfl)) ?_
  refine WL.op rfl (.ltI (.tmp rfl) (.tmp rfl)) ?_
  refine WL.ns ?_
  refine W.cond (.tmp rfl) (fun hc5 => ?_) (fun hc5 => ?_)
  ·have hp6 := of_decide_eq_true hc5
   rw [if_pos hp6] at hm
   refine W.skip ?_
   refine WN.seq ?_
   refine W.seq ?_
   refine W.block ?_
   refine W.sr ?_
   refine WL.mv rfl rfl ?_
   refine WL.mv rfl rfl ?_
   obtain ⟨v, hv7, hm⟩ := bind_some hm
   refine WL.op rfl (.idx hv7 Try.underlying24 Try.sizeOf100 (.tmp rfl) (.tmp rfl)) ?_
   refine WL.op rfl (.fieldAddr Try.underlying100 rfl (fun w => ⟨0, Try.sizeOf9 w⟩) fapi_Word_0 (.tmp rfl)) ?_
   refine WL.op rfl (.load ty9 (.tmp rfl)) ?_
   refine WL.op rfl (.lenS Try.underlying9 (.tmp rfl)) ?_
   refine WL.op rfl (.gtI (.tmp rfl) .i64) ?_
   refine WL.ns ?_
   refine W.cond (.tmp rfl) (fun hc8 => ?_) (fun hc8 => ?_)
   ·have hp9 := of_decide_eq_true hc8
    rw [if_pos hp9] at hm
    refine W.sr ?_
    refine WL.op rfl (.assign .bool) ?_
    refine WL.ns ?_
    have hr10 := Option.some.inj hm
    clear hm
    subst hr10
    have hm := hk3
    try dsimp only at hm
    cases hm
    exact W.ret1 () rfl (.tmp rfl) trivial
   ·have hp9 := of_decide_eq_false hc8
    rw [if_neg hp9] at hm
    refine W.skip ?_
    refine WN.block ?_
    refine WN.seq ?_
    refine W.region ?_
    refine WL.mv rfl rfl ?_
    refine WL.lenL (s := 0) (.tmp rfl) fun hl11 => ?_
    refine WL.op rfl (.addI1 (.tmp rfl) .i64 hp6 hl11) ?_
    refine WL.gv rfl rfl ?_
    refine WL.nil ?_
    exact WN.again n4 (i + 1) (Nat.lt_succ_self n4) hm ⟨Ent.q rfl, Ent.q rfl, trivial⟩ trivial
  ·have hp6 := of_decide_eq_false hc5
   rw [if_neg hp6] at hm
   refine W.exit rfl ?_
   have hr12 := Option.some.inj hm
   clear hm
   subst hr12
   have hm := hk3
   try dsimp only at hm
   refine WN.seq ?_
   refine W.sr ?_
   refine WL.mv rfl rfl ?_
   refine WL.op rfl (.lenL Try.underlying24 (.tmp rfl)) ?_
   refine WL.op rfl (.leI (.tmp rfl) .i64) ?_
   refine WL.gv rfl rfl ?_
   refine WL.ns ?_
   cases hm
   exact W.ret1 () rfl (.tmp rfl) trivial

theorem r06_words_spec : ∀ (n : Nat) (u : api_Unit) (r : Bool), M.r06_words n u = some r → FSpec Try.prog 38 [(tapi_Unit.is u)] (tB.is r) := by
 intro n
 induction n with
 | zero => intro u r hm; cases hm
 | succ n ih =>
  intro u r hm
  rw [M.r06_words.eq_2] at hm
  refine FSpec.of Try.func38 rfl rfl rfl (fun g0 => ?_)
  refine W.sr ?_
  refine WL.op rfl (.box (.tmp rfl)) ?_
  refine WL.op rfl (.assign .bool) ?_
  refine WL.ns ?_
  refine W.seq ?_
  obtain ⟨s1, hs2, hk3⟩ := bind_some hm
  clear hm
  refine W.join (fun s : Bool => s = s1) (fun s => [(19, (tB.is s)), (1, (tapi_Unit.ptr u))]) (fun s => []) ?_ ?_
  ·rintro v hj25
   try dsimp only at hj25
   subst hj25
   have hm := hk3
   clear hk3
   try dsimp only at hm
   change W _ _ _ _ _ _ _ [(19, (tB.is v)), (1, (tapi_Unit.ptr u))] []
   refine W.cond (.tmp rfl) (fun hc10 => ?_) (fun hc10 => ?_)
   ·have hp11 := hc10
    rw [if_pos hp11] at hm
    refine W.sr ?_
    refine WL.op rfl (.assign .bool) ?_
    refine WL.ns ?_
    cases hm
    exact W.ret1 () rfl (.tmp rfl) trivial
   ·have hp11 := ne_of_false hc10
    rw [if_neg hp11] at hm
    refine W.skip ?_
    refine WN.seq ?_
    refine W.seq ?_
    refine W.sr ?_
    refine WL.op rfl (.assign .i64) ?_
    refine WL.ns ?_
    refine W.block ?_
    obtain ⟨s12, hs13, hk14⟩ := bind_some hm
    clear hm
    refine W.loop (fun m (s : Int) => M.r06_words_loop1 u (M.r06_words n) m s = some s12) (fun s => [(3, ((tI .i64).is s)), (1, (tapi_Unit.ptr u))]) (fun s => []) _ (0 : Int) hs13 ⟨Ent.q rfl, Ent.q rfl, trivial⟩ trivial ?_
    rintro n15 i hm
    try dsimp only at hm
    change W _ _ _ _ _ _ _ [(3, ((tI .i64).is i)), (1, (tapi_Unit.ptr u))] []
    cases n15 with
    | zero => rw [M.r06_words_loop1.eq_1] at hm; cases hm
    | succ n15 =>
     rw [M.r06_words_loop1.eq_2] at hm
     refine W.seq ?_
     refine W.sr ?_
     refine WL.mv rfl rfl ?_
     refine WL.op rfl (.fieldAddr Try.underlying27 rfl (fun w => ⟨0, Try.sizeOf25 w⟩) fapi_Unit_5 (.tmp rfl)) ?_
     refine WL.op rfl (.load ty25 (.tmp rfl)) ?_
     refine WL.op rfl (.lenL Try.underlying25 (.tmp rfl)) ?_
     refine WL.op rfl (.ltI (.tmp rfl) (.tmp rfl)) ?_
     refine WL.ns ?_
     refine W.cond (.tmp rfl) (fun hc16 => ?_) (fun hc16 => ?_)
     ·have hp17 := of_decide_eq_true hc16
      rw [if_pos hp17] at hm
      refine W.skip ?_
      refine WN.seq ?_
      refine W.seq ?_
      refine W.block ?_
      refine W.sr ?_
      refine WL.op rfl (.fieldAddr Try.underlying27 rfl (fun w => ⟨0, Try.sizeOf25 w⟩) fapi_Unit_5 (.tmp rfl)) ?_
      refine WL.op rfl (.load ty25 (.tmp rfl)) ?_
      refine WL.mv rfl rfl ?_
      obtain ⟨v1, hv18, hm⟩ := bind_some hm
      refine WL.op rfl (.idx hv18 Try.underlying25 Try.sizeOf27 (.tmp rfl) (.tmp rfl)) ?_
      refine WL.op rfl (.load ty27 (.tmp rfl)) ?_
      obtain ⟨words, hv19, hm⟩ := bind_some hm
      refine WL.op rfl (.call Try.call38 (ih _ _ hv19) ⟨(.tmp rfl), trivial⟩) ?_
      refine WL.op rfl (.notB (.tmp rfl)) ?_
      refine WL.ns ?_
      refine W.cond (.tmp rfl) (fun hc20 => ?_) (fun hc20 => ?_)
      ·have hp21 := not_pos hc20
       rw [if_pos hp21] at hm
       refine W.sr ?_
       refine WL.op rfl (.assign .bool) ?_
       refine WL.ns ?_
       have hr22 := Option.some.inj hm
       clear hm
       subst hr22
       have hm := hk14
       try dsimp only at hm
       cases hm
       exact W.ret1 () rfl (.tmp rfl) trivial
      ·have hp21 := not_neg hc20
       rw [if_neg hp21] at hm
       refine W.skip ?_
       refine WN.block ?_
       refine WN.seq ?_
       refine W.region ?_
       refine WL.mv rfl rfl ?_
       refine WL.lenL (s := 22) (.tmp rfl) fun hl23 => ?_
       refine WL.op rfl (.addI1 (.tmp rfl) .i64 hp17 hl23) ?_
       refine WL.gv rfl rfl ?_
       refine WL.nil ?_
       exact WN.again n15 (i + 1) (Nat.lt_succ_self n15) hm ⟨Ent.q rfl, Ent.q rfl, trivial⟩ trivial
     ·have hp17 := of_decide_eq_false hc16
      rw [if_neg hp17] at hm
      refine W.exit rfl ?_
      have hr24 := Option.some.inj hm
      clear hm
      subst hr24
      have hm := hk14
      try dsimp only at hm
      refine WN.seq ?_
      refine W.sr ?_
      refine WL.op rfl (.assign .bool) ?_
      refine WL.ns ?_
      cases hm
      exact W.ret1 () rfl (.tmp rfl) trivial
  ·have hm := hs2
   clear hs2
   refine W.region ?_
   refine WL.op rfl (.fieldAddr Try.underlying27 rfl (fun w => ⟨0, Try.sizeOf9 w⟩) fapi_Unit_2 (.tmp rfl)) ?_
   refine WL.op rfl (.load ty9 (.tmp rfl)) ?_
   refine WL.op rfl (.lenS Try.underlying9 (.tmp rfl)) ?_
   refine WL.op rfl (.gtI (.tmp rfl) .i64) ?_
   refine WL.mv rfl rfl ?_
   rcases bcases (decide ((30 : Int) < (u.Label.length : Int))) with hb4 | hb4
   ·have hp5 := of_decide_eq_true hb4
    rw [if_pos hp5] at hm
    iterate 4 refine WL.pass rfl rfl rfl rfl hb4 rfl rfl ?_
    refine WL.op rfl (.pickT (.tmp rfl) hb4 .bool) ?_
    refine WL.mv rfl rfl ?_
    iterate 4 refine WL.pass rfl rfl rfl rfl rfl rfl rfl ?_
    refine WL.op rfl (.pickT (.tmp rfl) rfl .bool) ?_
    refine WL.nil ?_
    exact WN.meet true (Option.some.inj hm) ⟨Ent.q rfl, Ent.q rfl, trivial⟩ trivial
   ·have hp5 := of_decide_eq_false hb4
    rw [if_neg hp5] at hm
    refine WL.run rfl rfl rfl rfl hb4 rfl rfl (Op1.fieldAddr Try.underlying27 rfl (fun w => ⟨0, Try.sizeOf24 w⟩) fapi_Unit_3 (.tmp rfl)) ?_
    refine WL.run rfl rfl rfl rfl hb4 rfl rfl (Op1.load ty24 (.tmp rfl)) ?_
    obtain ⟨short, hv6, hm⟩ := bind_some hm
    refine WL.run rfl rfl rfl rfl hb4 rfl rfl (Op1.call Try.call57 (r06_short_spec _ _ _ hv6) ⟨(.tmp rfl), trivial⟩) ?_
    refine WL.run rfl rfl rfl rfl hb4 rfl rfl (Op1.notB (.tmp rfl)) ?_
    refine WL.op rfl (.pickF (.tmp rfl) hb4 (.tmp rfl)) ?_
    refine WL.mv rfl rfl ?_
    rcases bcases (!short) with hb7 | hb7
    ·have hp8 := not_pos hb7
     rw [if_pos hp8] at hm
     iterate 4 refine WL.pass rfl rfl rfl rfl hb7 rfl rfl ?_
     refine WL.op rfl (.pickT (.tmp rfl) hb7 .bool) ?_
     refine WL.nil ?_
     exact WN.meet true (Option.some.inj hm) ⟨Ent.q rfl, Ent.q rfl, trivial⟩ trivial
    ·have hp8 := not_neg hb7
     rw [if_neg hp8] at hm
     refine WL.run rfl rfl rfl rfl hb7 rfl rfl (Op1.fieldAddr Try.underlying27 rfl (fun w => ⟨0, Try.sizeOf24 w⟩) fapi_Unit_4 (.tmp rfl)) ?_
     refine WL.run rfl rfl rfl rfl hb7 rfl rfl (Op1.load ty24 (.tmp rfl)) ?_
     obtain ⟨short1, hv9, hm⟩ := bind_some hm
     refine WL.run rfl rfl rfl rfl hb7 rfl rfl (Op1.call Try.call57 (r06_short_spec _ _ _ hv9) ⟨(.tmp rfl), trivial⟩) ?_
     refine WL.run rfl rfl rfl rfl hb7 rfl rfl (Op1.notB (.tmp rfl)) ?_
     refine WL.op rfl (.pickF (.tmp rfl) hb7 (.tmp rfl)) ?_
     refine WL.nil ?_
     exact WN.meet (!short1) (Option.some.inj hm) ⟨Ent.q rfl, Ent.q rfl, trivial⟩ trivial

theorem r06_Few_spec (n : Nat) (u : api_Unit) (most : Int) (r : Bool) (hm : M.r06_Few n u most = some r) : FSpec Try.prog 22 [(tapi_Unit.is u), ((tI .i64).is most)] (tB.is r) := by
 unfold M.r06_Few at hm
 refine FSpec.of Try.func22 rfl rfl rfl (fun g0 => ?_)
 refine W.sr ?_
 refine WL.op rfl (.box (.tmp rfl)) ?_
 refine WL.op rfl (.assign .bool) ?_
 refine WL.nr ?_
 refine WL.op rfl (.load ty27 (.tmp rfl)) ?_
 refine WL.mv rfl rfl ?_
 obtain ⟨size, hv1, hm⟩ := bind_some hm
 refine WL.op rfl (.call Try.call37 (r06_size_spec _ _ _ _ _ hv1) ⟨(.tmp rfl), .i64, (.tmp rfl), trivial⟩) ?_
 refine WL.mv rfl rfl ?_
 refine WL.op rfl (.leI (.tmp rfl) (.tmp rfl)) ?_
 refine WL.mv rfl rfl ?_
 rcases bcases (decide (size ≤ most)) with hb2 | hb2
 ·have hp3 := of_decide_eq_true hb2
  rw [if_pos hp3] at hm
  refine WL.run rfl rfl rfl rfl hb2 rfl rfl (Op1.load ty27 (.tmp rfl)) ?_
  obtain ⟨words, hv4, hm⟩ := bind_some hm
  refine WL.run rfl rfl rfl rfl hb2 rfl rfl (Op1.call Try.call38 (r06_words_spec _ _ _ hv4) ⟨(.tmp rfl), trivial⟩) ?_
  refine WL.op rfl (.pickT (.tmp rfl) hb2 (.tmp rfl)) ?_
  refine WL.gv rfl rfl ?_
  refine WL.ns ?_
  cases hm
  exact W.ret1 () rfl (.tmp rfl) trivial
 ·have hp3 := of_decide_eq_false hb2
  rw [if_neg hp3] at hm
  iterate 2 refine WL.pass rfl rfl rfl rfl hb2 rfl rfl ?_
  refine WL.op rfl (.pickF (.tmp rfl) hb2 .bool) ?_
  refine WL.gv rfl rfl ?_
  refine WL.ns ?_
  cases hm
  exact W.ret1 () rfl (.tmp rfl) trivial

theorem r06_Texts_spec (n : Nat) (l : List api_Word) (r : (List Str)) (hm : M.r06_Texts n l = some r) : FSpec Try.prog 95 [((tL tapi_Word).is l)] ((tL tS).is r) := by
 unfold M.r06_Texts at hm
 refine FSpec.of Try.func95 rfl rfl rfl (fun g0 => ?_)
 refine W.sr ?_
 refine WL.op rfl (.assign (.nil (t := tS))) ?_
 refine WL.nr ?_
 refine WL.opR rfl (OpR.buildSlice (n := 0) (ys := []) (z := ([] : Str)) (xs := ([] : List Str)) 5 Try.underlying77 el9 ze9 trivial (by simp) (by decide) rfl) (fun k => ?_)
 refine WL.gv rfl rfl ?_
 refine WL.ns ?_
 refine W.seq ?_
 refine W.sr ?_
 refine WL.op rfl (.assign .i64) ?_
 refine WL.ns ?_
 refine W.block ?_
 obtain ⟨s1, hs2, hk3⟩ := bind_some hm
 clear hm
 refine W.loop (fun m (s : ((List Str) × Int) × Tok) => M.r06_Texts_loop1 l m s.1.1 s.1.2 = some s1) (fun s => [(3, (tO tS s.2 s.1.1)), (4, ((tI .i64).is s.1.2)), (0, ((tL tapi_Word).is l))]) (fun s => [(5, Dec.Own tS 9 s.2 s.1.1.length)]) _ ((([] : List Str), (0 : Int)), k) hs2 ⟨Ent.q rfl, Ent.q rfl, Ent.q rfl, trivial⟩ ⟨rfl, rfl, trivial⟩ ?_
 rintro n4 ⟨⟨out, i⟩, k1⟩ hm
 try dsimp only at hm
 change W _ _ _ _ _ _ _ [(3, (tO tS k1 out)), (4, ((tI .i64).is i)), (0, ((tL tapi_Word).is l))] [(5, Dec.Own tS 9 k1 out.length)]
 cases n4 with
 | zero => rw [M.r06_Texts_loop1.eq_1] at hm; cases hm
 | succ n4 =>
  rw [M.r06_Texts_loop1.eq_2] at hm
  refine W.seq ?_
  refine W.sr ?_
  refine WL.mv rfl rfl ?_
  refine WL.mv rfl rfl ?_
  refine WL.op rfl (.lenL Try.underlying24 (.tmp rfl)) ?_
  refine WL.op rfl (.ltI (.tmp rfl) (.tmp rfl)) ?_
  refine WL.ns ?_
  refine W.cond (.tmp rfl) (fun hc5 => ?_) (fun hc5 => ?_)
  ·have hp6 := of_decide_eq_true hc5
   rw [if_pos hp6] at hm
   refine W.skip ?_
   refine WN.seq ?_
   refine W.seq ?_
   refine W.block ?_
   refine W.region ?_
   refine WL.mv rfl rfl ?_
   refine WL.mv rfl rfl ?_
   refine WL.mv rfl rfl ?_
   obtain ⟨v, hv7, hm⟩ := bind_some hm
   refine WL.op rfl (.idx hv7 Try.underlying24 Try.sizeOf100 (.tmp rfl) (.tmp rfl)) ?_
   refine WL.op rfl (.fieldAddr Try.underlying100 rfl (fun w => ⟨0, Try.sizeOf9 w⟩) fapi_Word_0 (.tmp rfl)) ?_
   refine WL.op rfl (.load ty9 (.tmp rfl)) ?_
   refine WL.op rfl (.buildSlice (n := 1) (ys := [(0, v.Text)]) (z := ([] : Str)) (xs := [v.Text]) Try.underlying77 el9 ze9 ⟨rfl, (.tmp rfl), trivial⟩ (by simp) (by decide) rfl) ?_
   obtain ⟨out1, hv8, hm⟩ := bind_some hm
   refine WL.opR rfl (OpR.appC (key := 5) hv8 Try.underlying77 el9 (.tmp rfl) (.tmp rfl) rfl) (fun k2 => ?_)
   refine WL.gv rfl rfl ?_
   refine WL.nil ?_
   refine WN.block ?_
   refine WN.seq ?_
   refine W.region ?_
   refine WL.mv rfl rfl ?_
   refine WL.lenL (s := 0) (.tmp rfl) fun hl9 => ?_
   refine WL.op rfl (.addI1 (.tmp rfl) .i64 hp6 hl9) ?_
   refine WL.gv rfl rfl ?_
   refine WL.nil ?_
   exact WN.again n4 ((out1, i + 1), k2) (Nat.lt_succ_self n4) hm ⟨Ent.q rfl, Ent.q rfl, Ent.q rfl, trivial⟩ ⟨rfl, rfl, trivial⟩
  ·have hp6 := of_decide_eq_false hc5
   rw [if_neg hp6] at hm
   refine W.exit rfl ?_
   have hr10 := Option.some.inj hm
   clear hm
   subst hr10
   have hm := hk3
   try dsimp only at hm
   refine WN.seq ?_
   refine W.sr ?_
   refine WL.mv rfl rfl ?_
   refine WL.gv rfl rfl ?_
   refine WL.ns ?_
   cases hm
   exact W.ret1 () rfl (Opd.own (.tmp rfl)) trivial

theorem r04_Word_spec (n : Nat) (s0_ : Str) (r : Bool) (hm : M.r04_Word n s0_ = some r) : FSpec Try.prog 101 [(tS.is s0_)] (tB.is r) := by
 unfold M.r04_Word at hm
 refine FSpec.of Try.func101 rfl rfl rfl (fun g0 => ?_)
 refine W.sr ?_
 refine WL.op rfl (.assign .bool) ?_
 refine WL.ns ?_
 refine W.seq ?_
 obtain ⟨s1, hs2, hk3⟩ := bind_some hm
 clear hm
 refine W.join (fun s : Bool => s = s1) (fun s => [(11, (tB.is s)), (0, (tS.is s0_))]) (fun s => []) ?_ ?_
 ·rintro v hj24
  try dsimp only at hj24
  subst hj24
  have hm := hk3
  clear hk3
  try dsimp only at hm
  change W _ _ _ _ _ _ _ [(11, (tB.is v)), (0, (tS.is s0_))] []
  refine W.cond (.tmp rfl) (fun hc6 => ?_) (fun hc6 => ?_)
  ·have hp7 := hc6
   rw [if_pos hp7] at hm
   refine W.sr ?_
   refine WL.op rfl (.assign .bool) ?_
   refine WL.ns ?_
   cases hm
   exact W.ret1 () rfl (.tmp rfl) trivial
  ·have hp7 := ne_of_false hc6
   rw [if_neg hp7] at hm
   refine W.skip ?_
   refine WN.seq ?_
   refine W.seq ?_
   refine W.sr ?_
   refine WL.op rfl (.assign .i64) ?_
   refine WL.ns ?_
   refine W.block ?_
   obtain ⟨s8, hs9, hk10⟩ := bind_some hm
   clear hm
   refine W.loop (fun m (s : Int) => M.r04_Word_loop1 s0_ m s = some s8) (fun s => [(3, ((tI .i64).is s)), (0, (tS.is s0_))]) (fun s => []) _ (0 : Int) hs9 ⟨Ent.q rfl, Ent.q rfl, trivial⟩ trivial ?_
   rintro n11 i hm
   try dsimp only at hm
   change W _ _ _ _ _ _ _ [(3, ((tI .i64).is i)), (0, (tS.is s0_))] []
   cases n11 with
   | zero => rw [M.r04_Word_loop1.eq_1] at hm; cases hm
   | succ n11 =>
    rw [M.r04_Word_loop1.eq_2] at hm
    refine W.seq ?_
    refine W.sr ?_
    refine WL.mv rfl rfl ?_
    refine WL.mv rfl rfl ?_
    refine WL.op rfl (.lenS Try.underlying9 (.tmp rfl)) ?_
    refine WL.op rfl (.ltI (.tmp rfl) (.tmp rfl)) ?_
    refine WL.ns ?_
    refine W.cond (.tmp rfl) (fun hc12 => ?_) (fun hc12 => ?_)
    ·have hp13 := of_decide_eq_true hc12
     rw [if_pos hp13] at hm
     refine W.skip ?_
     refine WN.seq ?_
     refine W.seq ?_
     refine W.block ?_
     refine W.sr ?_
     refine WL.mv rfl rfl ?_
     refine WL.mv rfl rfl ?_
     obtain ⟨b, hv14, hm⟩ := bind_some hm
     refine WL.op rfl (.sidx hv14 Try.underlying9 (.tmp rfl) (.tmp rfl)) ?_
     refine WL.op rfl (.ltI (.tmp rfl) (.int (inR8.2 (by omega)))) ?_
     refine WL.mv rfl rfl ?_
     rcases bcases (decide ((b.toNat : Int) < (33 : Int))) with hb15 | hb15
     ·have hp16 := of_decide_eq_true hb15
      rw [if_pos hp16] at hm
      iterate 4 refine WL.pass rfl rfl rfl rfl hb15 rfl rfl ?_
      refine WL.op rfl (.pickT (.tmp rfl) hb15 .bool) ?_
      refine WL.ns ?_
      refine W.condT (.tmp rfl) ?_
      refine W.sr ?_
      refine WL.op rfl (.assign .bool) ?_
      refine WL.ns ?_
      have hr17 := Option.some.inj hm
      clear hm
      subst hr17
      have hm := hk10
      try dsimp only at hm
      cases hm
      exact W.ret1 () rfl (.tmp rfl) trivial
     ·have hp16 := of_decide_eq_false hb15
      rw [if_neg hp16] at hm
      refine WL.run rfl rfl rfl rfl hb15 rfl rfl (Op1.move (.tmp rfl)) ?_
      refine WL.run rfl rfl rfl rfl hb15 rfl rfl (Op1.move (.tmp rfl)) ?_
      obtain ⟨b1, hv18, hm⟩ := bind_some hm
      refine WL.run rfl rfl rfl rfl hb15 rfl rfl (Op1.sidx hv18 Try.underlying9 (.tmp rfl) (.tmp rfl)) ?_
      refine WL.run rfl rfl rfl rfl hb15 rfl rfl (Op1.gtI (.tmp rfl) (.int (inR8.2 (by omega)))) ?_
      refine WL.op rfl (.pickF (.tmp rfl) hb15 (.tmp rfl)) ?_
      refine WL.ns ?_
      refine W.cond (.tmp rfl) (fun hc19 => ?_) (fun hc19 => ?_)
      ·have hp20 := of_decide_eq_true hc19
       rw [if_pos hp20] at hm
       refine W.sr ?_
       refine WL.op rfl (.assign .bool) ?_
       refine WL.ns ?_
       have hr21 := Option.some.inj hm
       clear hm
       subst hr21
       have hm := hk10
       try dsimp only at hm
       cases hm
       exact W.ret1 () rfl (.tmp rfl) trivial
      ·have hp20 := of_decide_eq_false hc19
       rw [if_neg hp20] at hm
       refine W.skip ?_
       refine WN.block ?_
       refine WN.seq ?_
       refine W.region ?_
       refine WL.mv rfl rfl ?_
       refine WL.lenS (s := 0) (.tmp rfl) fun hl22 => ?_
       refine WL.op rfl (.addI1 (.tmp rfl) .i64 hp13 hl22) ?_
       refine WL.gv rfl rfl ?_
       refine WL.nil ?_
       exact WN.again n11 (i + 1) (Nat.lt_succ_self n11) hm ⟨Ent.q rfl, Ent.q rfl, trivial⟩ trivial
    ·have hp13 := of_decide_eq_false hc12
     rw [if_neg hp13] at hm
     refine W.exit rfl ?_
     have hr23 := Option.some.inj hm
     clear hm
     subst hr23
     have hm := hk10
     try dsimp only at hm
     refine WN.seq ?_
     refine W.sr ?_
     refine WL.op rfl (.assign .bool) ?_
     refine WL.ns ?_
     cases hm
     exact W.ret1 () rfl (.tmp rfl) trivial
 ·have hm := hs2
  clear hs2
  refine W.region ?_
  refine WL.mv rfl rfl ?_
  refine WL.op rfl (.lenS Try.underlying9 (.tmp rfl)) ?_
  refine WL.op rfl (.ltI (.tmp rfl) .i64) ?_
  refine WL.mv rfl rfl ?_
  rcases bcases (decide ((s0_.length : Int) < (1 : Int))) with hb4 | hb4
  ·have hp5 := of_decide_eq_true hb4
   rw [if_pos hp5] at hm
   iterate 3 refine WL.pass rfl rfl rfl rfl hb4 rfl rfl ?_
   refine WL.op rfl (.pickT (.tmp rfl) hb4 .bool) ?_
   refine WL.nil ?_
   exact WN.meet true (Option.some.inj hm) ⟨Ent.q rfl, Ent.q rfl, trivial⟩ trivial
  ·have hp5 := of_decide_eq_false hb4
   rw [if_neg hp5] at hm
   refine WL.run rfl rfl rfl rfl hb4 rfl rfl (Op1.move (.tmp rfl)) ?_
   refine WL.run rfl rfl rfl rfl hb4 rfl rfl (Op1.lenS Try.underlying9 (.tmp rfl)) ?_
   refine WL.run rfl rfl rfl rfl hb4 rfl rfl (Op1.gtI (.tmp rfl) .i64) ?_
   refine WL.op rfl (.pickF (.tmp rfl) hb4 (.tmp rfl)) ?_
   refine WL.nil ?_
   exact WN.meet (decide ((24 : Int) < (s0_.length : Int))) (Option.some.inj hm) ⟨Ent.q rfl, Ent.q rfl, trivial⟩ trivial

theorem r04_May_spec (n : Nat) (l : List Str) (r : Bool) (hm : M.r04_May n l = some r) : FSpec Try.prog 94 [((tL tS).is l)] (tB.is r) := by
 unfold M.r04_May at hm
 refine FSpec.of Try.func94 rfl rfl rfl (fun g0 => ?_)
 refine W.sr ?_
 refine WL.op rfl (.assign .bool) ?_
 refine WL.ns ?_
 refine W.seq ?_
 refine W.sr ?_
 refine WL.mv rfl rfl ?_
 refine WL.op rfl (.lenL Try.underlying77 (.tmp rfl)) ?_
 refine WL.op rfl (.gtI (.tmp rfl) .i64) ?_
 refine WL.ns ?_
 refine W.cond (.tmp rfl) (fun hc1 => ?_) (fun hc1 => ?_)
 ·have hp2 := of_decide_eq_true hc1
  rw [if_pos hp2] at hm
  refine W.sr ?_
  refine WL.op rfl (.assign .bool) ?_
  refine WL.ns ?_
  cases hm
  exact W.ret1 () rfl (.tmp rfl) trivial
 ·have hp2 := of_decide_eq_false hc1
  rw [if_neg hp2] at hm
  refine W.skip ?_
  refine WN.seq ?_
  refine W.seq ?_
  refine W.sr ?_
  refine WL.op rfl (.assign .i64) ?_
  refine WL.ns ?_
  refine W.block ?_
  obtain ⟨s3, hs4, hk5⟩ := bind_some hm
  clear hm
  refine W.loop (fun m (s : Int) => M.r04_May_loop1 l m s = some s3) (fun s => [(3, ((tI .i64).is s)), (0, ((tL tS).is l))]) (fun s => []) _ (0 : Int) hs4 ⟨Ent.q rfl, Ent.q rfl, trivial⟩ trivial ?_
  rintro n6 i hm
  try dsimp only at hm
  change W _ _ _ _ _ _ _ [(3, ((tI .i64).is i)), (0, ((tL tS).is l))] []
  cases n6 with
  | zero => rw [M.r04_May_loop1.eq_1] at hm; cases hm
  | succ n6 =>
   rw [M.r04_May_loop1.eq_2] at hm
   refine W.seq ?_
   refine W.sr ?_
   refine WL.mv rfl rfl ?_
   refine WL.mv rfl rfl ?_
   refine WL.op rfl (.lenL Try.underlying77 (.tmp rfl)) ?_
   refine WL.op rfl (.ltI (.tmp rfl) (.tmp rfl)) ?_
   refine WL.ns ?_
   refine W.cond (.tmp rfl) (fun hc7 => ?_) (fun hc7 => ?_)
   ·have hp8 := of_decide_eq_true hc7
    rw [if_pos hp8] at hm
    refine W.skip ?_
    refine WN.seq ?_
    refine W.seq ?_
    refine W.block ?_
    refine W.sr ?_
    refine WL.mv rfl rfl ?_
    refine WL.mv rfl rfl ?_
    obtain ⟨v, hv9, hm⟩ := bind_some hm
    refine WL.op rfl (.idx hv9 Try.underlying77 Try.sizeOf9 (.tmp rfl) (.tmp rfl)) ?_
    refine WL.op rfl (.load ty9 (.tmp rfl)) ?_
    obtain ⟨word, hv10, hm⟩ := bind_some hm
    refine WL.op rfl (.call Try.call101 (r04_Word_spec _ _ _ hv10) ⟨(.tmp rfl), trivial⟩) ?_
    refine WL.op rfl (.notB (.tmp rfl)) ?_
    refine WL.ns ?_
    refine W.cond (.tmp rfl) (fun hc11 => ?_) (fun hc11 => ?_)
    ·have hp12 := not_pos hc11
     rw [if_pos hp12] at hm
     refine W.sr ?_
     refine WL.op rfl (.assign .bool) ?_
     refine WL.ns ?_
     have hr13 := Option.some.inj hm
     clear hm
     subst hr13
     have hm := hk5
     try dsimp only at hm
     cases hm
     exact W.ret1 () rfl (.tmp rfl) trivial
    ·have hp12 := not_neg hc11
     rw [if_neg hp12] at hm
     refine W.skip ?_
     refine WN.block ?_
     refine WN.seq ?_
     refine W.region ?_
     refine WL.mv rfl rfl ?_
     refine WL.lenL (s := 0) (.tmp rfl) fun hl14 => ?_
     refine WL.op rfl (.addI1 (.tmp rfl) .i64 hp8 hl14) ?_
     refine WL.gv rfl rfl ?_
     refine WL.nil ?_
     exact WN.again n6 (i + 1) (Nat.lt_succ_self n6) hm ⟨Ent.q rfl, Ent.q rfl, trivial⟩ trivial
   ·have hp8 := of_decide_eq_false hc7
    rw [if_neg hp8] at hm
    refine W.exit rfl ?_
    have hr15 := Option.some.inj hm
    clear hm
    subst hr15
    have hm := hk5
    try dsimp only at hm
    refine WN.seq ?_
    refine W.sr ?_
    refine WL.op rfl (.assign .bool) ?_
    refine WL.ns ?_
    cases hm
    exact W.ret1 () rfl (.tmp rfl) trivial

theorem r06_row_spec (n : Nat) (l : List api_Word) (r : Bool) (hm : M.r06_row n l = some r) : FSpec Try.prog 91 [((tL tapi_Word).is l)] (tB.is r) := by
 unfold M.r06_row at hm
 refine FSpec.of Try.func91 rfl rfl rfl (fun g0 => ?_)
 refine W.sr ?_
 refine WL.op rfl (.assign .bool) ?_
 refine WL.nr ?_
 refine WL.mv rfl rfl ?_
 refine WL.op rfl (.lenL Try.underlying24 (.tmp rfl)) ?_
 refine WL.op rfl (.leI (.tmp rfl) .i64) ?_
 refine WL.mv rfl rfl ?_
 rcases bcases (decide ((l.length : Int) ≤ (256 : Int))) with hb1 | hb1
 ·have hp2 := of_decide_eq_true hb1
  rw [if_pos hp2] at hm
  refine WL.run rfl rfl rfl rfl hb1 rfl rfl (Op1.move (.tmp rfl)) ?_
  obtain ⟨texts, hv3, hm⟩ := bind_some hm
  refine WL.run rfl rfl rfl rfl hb1 rfl rfl (Op1.call Try.call95 (r06_Texts_spec _ _ _ hv3) ⟨(.tmp rfl), trivial⟩) ?_
  obtain ⟨may, hv4, hm⟩ := bind_some hm
  refine WL.run rfl rfl rfl rfl hb1 rfl rfl (Op1.call Try.call94 (r04_May_spec _ _ _ hv4) ⟨(.tmp rfl), trivial⟩) ?_
  refine WL.op rfl (.pickT (.tmp rfl) hb1 (.tmp rfl)) ?_
  refine WL.gv rfl rfl ?_
  refine WL.ns ?_
  cases hm
  exact W.ret1 () rfl (.tmp rfl) trivial
 ·have hp2 := of_decide_eq_false hb1
  rw [if_neg hp2] at hm
  iterate 3 refine WL.pass rfl rfl rfl rfl hb1 rfl rfl ?_
  refine WL.op rfl (.pickF (.tmp rfl) hb1 .bool) ?_
  refine WL.gv rfl rfl ?_
  refine WL.ns ?_
  cases hm
  exact W.ret1 () rfl (.tmp rfl) trivial

theorem r03_digits_spec (n : Nat) (s0_ : Str) (r : Int) (hm : M.r03_digits n s0_ = some r) : FSpec Try.prog 75 [(tS.is s0_)] ((tI .i64).is r) := by
 unfold M.r03_digits at hm
 refine FSpec.of Try.func75 rfl rfl rfl (fun g0 => ?_)
 refine W.sr ?_
 refine WL.op rfl (.assign .i64) ?_
 refine WL.nr ?_
 refine WL.op rfl (.assign .i64) ?_
 refine WL.ns ?_
 refine W.seq ?_
 refine W.block ?_
 obtain ⟨s1, hs2, hk3⟩ := bind_some hm
 clear hm
 refine W.loop (fun m (s : Int) => M.r03_digits_loop1 s0_ m s = some s1) (fun s => [(3, ((tI .i64).is s)), (0, (tS.is s0_))]) (fun s => []) _ (0 : Int) hs2 ⟨Ent.q rfl, Ent.q rfl, trivial⟩ trivial ?_
 rintro n4 n0_ hm
 try dsimp only at hm
 change W _ _ _ _ _ _ _ [(3, ((tI .i64).is n0_)), (0, (tS.is s0_))] []
 cases n4 with
 | zero => rw [M.r03_digits_loop1.eq_1] at hm; cases hm
 | succ n4 =>
  rw [M.r03_digits_loop1.eq_2] at hm
  refine W.seq ?_
  refine W.sr ?_
  refine WL.mv rfl rfl ?_
  refine WL.mv rfl rfl ?_
  refine WL.op rfl (.lenS Try.underlying9 (.tmp rfl)) ?_
  refine WL.op rfl (.ltI (.tmp rfl) (.tmp rfl)) ?_
  refine WL.mv rfl rfl ?_
  rcases bcases (decide (n0_ < (s0_.length : Int))) with hb5 | hb5
  ·have hp6 := of_decide_eq_true hb5
   rw [if_pos hp6] at hm
   refine WL.run rfl rfl rfl rfl hb5 rfl rfl (Op1.move (.tmp rfl)) ?_
   refine WL.run rfl rfl rfl rfl hb5 rfl rfl (Op1.move (.tmp rfl)) ?_
   obtain ⟨b, hv7, hm⟩ := bind_some hm
   refine WL.run rfl rfl rfl rfl hb5 rfl rfl (Op1.sidx hv7 Try.underlying9 (.tmp rfl) (.tmp rfl)) ?_
   refine WL.run rfl rfl rfl rfl hb5 rfl rfl (Op1.geI (.tmp rfl) (.int (inR8.2 (by omega)))) ?_
   refine WL.op rfl (.pickT (.tmp rfl) hb5 (.tmp rfl)) ?_
   refine WL.mv rfl rfl ?_
   rcases bcases (decide ((48 : Int) ≤ (b.toNat : Int))) with hb8 | hb8
   ·have hp9 := of_decide_eq_true hb8
    rw [if_pos hp9] at hm
    refine WL.run rfl rfl rfl rfl hb8 rfl rfl (Op1.move (.tmp rfl)) ?_
    refine WL.run rfl rfl rfl rfl hb8 rfl rfl (Op1.move (.tmp rfl)) ?_
    obtain ⟨b1, hv10, hm⟩ := bind_some hm
    refine WL.run rfl rfl rfl rfl hb8 rfl rfl (Op1.sidx hv10 Try.underlying9 (.tmp rfl) (.tmp rfl)) ?_
    refine WL.run rfl rfl rfl rfl hb8 rfl rfl (Op1.leI (.tmp rfl) (.int (inR8.2 (by omega)))) ?_
    refine WL.op rfl (.pickT (.tmp rfl) hb8 (.tmp rfl)) ?_
    refine WL.ns ?_
    refine W.cond (.tmp rfl) (fun hc11 => ?_) (fun hc11 => ?_)
    ·have hp12 := of_decide_eq_true hc11
     rw [if_pos hp12] at hm
     refine W.skip ?_
     refine WN.seq ?_
     refine W.block ?_
     refine W.region ?_
     refine WL.mv rfl rfl ?_
     refine WL.lenS (s := 0) (.tmp rfl) fun hl13 => ?_
     refine WL.op rfl (.addI1 (.tmp rfl) .i64 hp6 hl13) ?_
     refine WL.gv rfl rfl ?_
     refine WL.nil ?_
     refine WN.block ?_
     exact WN.again n4 (n0_ + 1) (Nat.lt_succ_self n4) hm ⟨Ent.q rfl, Ent.q rfl, trivial⟩ trivial
    ·have hp12 := of_decide_eq_false hc11
     rw [if_neg hp12] at hm
     refine W.exit rfl ?_
     have hr14 := Option.some.inj hm
     clear hm
     subst hr14
     have hm := hk3
     try dsimp only at hm
     refine WN.seq ?_
     refine W.sr ?_
     refine WL.mv rfl rfl ?_
     refine WL.gv rfl rfl ?_
     refine WL.ns ?_
     cases hm
     exact W.ret1 () rfl (.tmp rfl) trivial
   ·have hp9 := of_decide_eq_false hb8
    rw [if_neg hp9] at hm
    iterate 4 refine WL.pass rfl rfl rfl rfl hb8 rfl rfl ?_
    refine WL.op rfl (.pickF (.tmp rfl) hb8 .bool) ?_
    refine WL.ns ?_
    refine W.condF (.tmp rfl) ?_
    refine W.exit rfl ?_
    have hr15 := Option.some.inj hm
    clear hm
    subst hr15
    have hm := hk3
    try dsimp only at hm
    refine WN.seq ?_
    refine W.sr ?_
    refine WL.mv rfl rfl ?_
    refine WL.gv rfl rfl ?_
    refine WL.ns ?_
    cases hm
    exact W.ret1 () rfl (.tmp rfl) trivial
  ·have hp6 := of_decide_eq_false hb5
   rw [if_neg hp6] at hm
   iterate 4 refine WL.pass rfl rfl rfl rfl hb5 rfl rfl ?_
   refine WL.op rfl (.pickF (.tmp rfl) hb5 .bool) ?_
   refine WL.mv rfl rfl ?_
   iterate 4 refine WL.pass rfl rfl rfl rfl rfl rfl rfl ?_
   refine WL.op rfl (.pickF (.tmp rfl) rfl .bool) ?_
   refine WL.ns ?_
   refine W.condF (.tmp rfl) ?_
   refine W.exit rfl ?_
   have hr16 := Option.some.inj hm
   clear hm
   subst hr16
   have hm := hk3
   try dsimp only at hm
   refine WN.seq ?_
   refine W.sr ?_
   refine WL.mv rfl rfl ?_
   refine WL.gv rfl rfl ?_
   refine WL.ns ?_
   cases hm
   exact W.ret1 () rfl (.tmp rfl) trivial

theorem r03_May_spec (n : Nat) (s0_ : Str) (r : Bool) (hm : M.r03_May n s0_ = some r) : FSpec Try.prog 50 [(tS.is s0_)] (tB.is r) := by
 unfold M.r03_May at hm
 refine FSpec.of Try.func50 rfl rfl rfl (fun g0 => ?_)
 refine W.sr ?_
 refine WL.op rfl (.assign .bool) ?_
 refine WL.nr ?_
 refine WL.mv rfl rfl ?_
 obtain ⟨digits, hv1, hm⟩ := bind_some hm
 refine WL.op rfl (.call Try.call75 (r03_digits_spec _ _ _ hv1) ⟨(.tmp rfl), trivial⟩) ?_
 refine WL.gv rfl rfl ?_
 refine WL.ns ?_
 refine W.seq ?_
 obtain ⟨s2, hs3, hk4⟩ := bind_some hm
 clear hm
 refine W.join (fun s : Bool => s = s2) (fun s => [(24, (tB.is s)), (0, (tS.is s0_)), (3, ((tI .i64).is digits))]) (fun s => []) ?_ ?_
 ·rintro v hj31
  try dsimp only at hj31
  subst hj31
  have hm := hk4
  clear hk4
  try dsimp only at hm
  change W _ _ _ _ _ _ _ [(24, (tB.is v)), (0, (tS.is s0_)), (3, ((tI .i64).is digits))] []
  refine W.cond (.tmp rfl) (fun hc13 => ?_) (fun hc13 => ?_)
  ·have hp14 := hc13
   rw [if_pos hp14] at hm
   refine W.sr ?_
   refine WL.op rfl (.assign .bool) ?_
   refine WL.ns ?_
   cases hm
   exact W.ret1 () rfl (.tmp rfl) trivial
  ·have hp14 := ne_of_false hc13
   rw [if_neg hp14] at hm
   refine W.skip ?_
   refine WN.seq ?_
   refine W.seq ?_
   refine W.sr ?_
   refine WL.mv rfl rfl ?_
   refine WL.gv rfl rfl ?_
   refine WL.ns ?_
   refine W.block ?_
   obtain ⟨s15, hs16, hk17⟩ := bind_some hm
   clear hm
   refine W.loop (fun m (s : Int) => M.r03_May_loop1 s0_ m s = some s15) (fun s => [(4, ((tI .i64).is s)), (0, (tS.is s0_))]) (fun s => []) _ digits hs16 ⟨Ent.q rfl, Ent.q rfl, trivial⟩ trivial ?_
   rintro n18 i hm
   try dsimp only at hm
   change W _ _ _ _ _ _ _ [(4, ((tI .i64).is i)), (0, (tS.is s0_))] []
   cases n18 with
   | zero => rw [M.r03_May_loop1.eq_1] at hm; cases hm
   | succ n18 =>
    rw [M.r03_May_loop1.eq_2] at hm
    refine W.seq ?_
    refine W.sr ?_
    refine WL.mv rfl rfl ?_
    refine WL.mv rfl rfl ?_
    refine WL.op rfl (.lenS Try.underlying9 (.tmp rfl)) ?_
    refine WL.op rfl (.ltI (.tmp rfl) (.tmp rfl)) ?_
    refine WL.ns ?_
    refine W.cond (.tmp rfl) (fun hc19 => ?_) (fun hc19 => ?_)
    ·have hp20 := of_decide_eq_true hc19
     rw [if_pos hp20] at hm
     refine W.skip ?_
     refine WN.seq ?_
     refine W.seq ?_
     refine W.block ?_
     refine W.sr ?_
     refine WL.mv rfl rfl ?_
     refine WL.mv rfl rfl ?_
     obtain ⟨b1, hv21, hm⟩ := bind_some hm
     refine WL.op rfl (.sidx hv21 Try.underlying9 (.tmp rfl) (.tmp rfl)) ?_
     refine WL.op rfl (.ltI (.tmp rfl) (.int (inR8.2 (by omega)))) ?_
     refine WL.mv rfl rfl ?_
     rcases bcases (decide ((b1.toNat : Int) < (65 : Int))) with hb22 | hb22
     ·have hp23 := of_decide_eq_true hb22
      rw [if_pos hp23] at hm
      iterate 4 refine WL.pass rfl rfl rfl rfl hb22 rfl rfl ?_
      refine WL.op rfl (.pickT (.tmp rfl) hb22 .bool) ?_
      refine WL.ns ?_
      refine W.condT (.tmp rfl) ?_
      refine W.sr ?_
      refine WL.op rfl (.assign .bool) ?_
      refine WL.ns ?_
      have hr24 := Option.some.inj hm
      clear hm
      subst hr24
      have hm := hk17
      try dsimp only at hm
      cases hm
      exact W.ret1 () rfl (.tmp rfl) trivial
     ·have hp23 := of_decide_eq_false hb22
      rw [if_neg hp23] at hm
      refine WL.run rfl rfl rfl rfl hb22 rfl rfl (Op1.move (.tmp rfl)) ?_
      refine WL.run rfl rfl rfl rfl hb22 rfl rfl (Op1.move (.tmp rfl)) ?_
      obtain ⟨b2, hv25, hm⟩ := bind_some hm
      refine WL.run rfl rfl rfl rfl hb22 rfl rfl (Op1.sidx hv25 Try.underlying9 (.tmp rfl) (.tmp rfl)) ?_
      refine WL.run rfl rfl rfl rfl hb22 rfl rfl (Op1.gtI (.tmp rfl) (.int (inR8.2 (by omega)))) ?_
      refine WL.op rfl (.pickF (.tmp rfl) hb22 (.tmp rfl)) ?_
      refine WL.ns ?_
      refine W.cond (.tmp rfl) (fun hc26 => ?_) (fun hc26 => ?_)
      ·have hp27 := of_decide_eq_true hc26
       rw [if_pos hp27] at hm
       refine W.sr ?_
       refine WL.op rfl (.assign .bool) ?_
       refine WL.ns ?_
       have hr28 := Option.some.inj hm
       clear hm
       subst hr28
       have hm := hk17
       try dsimp only at hm
       cases hm
       exact W.ret1 () rfl (.tmp rfl) trivial
      ·have hp27 := of_decide_eq_false hc26
       rw [if_neg hp27] at hm
       refine W.skip ?_
       refine WN.block ?_
       refine WN.seq ?_
       refine W.region ?_
       refine WL.mv rfl rfl ?_
       refine WL.lenS (s := 0) (.tmp rfl) fun hl29 => ?_
       refine WL.op rfl (.addI1 (.tmp rfl) .i64 hp20 hl29) ?_
       refine WL.gv rfl rfl ?_
       refine WL.nil ?_
       exact WN.again n18 (i + 1) (Nat.lt_succ_self n18) hm ⟨Ent.q rfl, Ent.q rfl, trivial⟩ trivial
    ·have hp20 := of_decide_eq_false hc19
     rw [if_neg hp20] at hm
     refine W.exit rfl ?_
     have hr30 := Option.some.inj hm
     clear hm
     subst hr30
     have hm := hk17
     try dsimp only at hm
     refine WN.seq ?_
     refine W.sr ?_
     refine WL.op rfl (.assign .bool) ?_
     refine WL.ns ?_
     cases hm
     exact W.ret1 () rfl (.tmp rfl) trivial
 ·have hm := hs3
  clear hs3
  refine W.region ?_
  refine WL.mv rfl rfl ?_
  refine WL.op rfl (.ltI (.tmp rfl) .i64) ?_
  refine WL.mv rfl rfl ?_
  rcases bcases (decide (digits < (1 : Int))) with hb5 | hb5
  ·have hp6 := of_decide_eq_true hb5
   rw [if_pos hp6] at hm
   iterate 2 refine WL.pass rfl rfl rfl rfl hb5 rfl rfl ?_
   refine WL.op rfl (.pickT (.tmp rfl) hb5 .bool) ?_
   refine WL.mv rfl rfl ?_
   iterate 3 refine WL.pass rfl rfl rfl rfl rfl rfl rfl ?_
   refine WL.op rfl (.pickT (.tmp rfl) rfl .bool) ?_
   refine WL.mv rfl rfl ?_
   iterate 5 refine WL.pass rfl rfl rfl rfl rfl rfl rfl ?_
   refine WL.op rfl (.pickT (.tmp rfl) rfl .bool) ?_
   refine WL.nil ?_
   exact WN.meet true (Option.some.inj hm) ⟨Ent.q rfl, Ent.q rfl, Ent.q rfl, trivial⟩ trivial
  ·have hp6 := of_decide_eq_false hb5
   rw [if_neg hp6] at hm
   refine WL.run rfl rfl rfl rfl hb5 rfl rfl (Op1.move (.tmp rfl)) ?_
   refine WL.run rfl rfl rfl rfl hb5 rfl rfl (Op1.gtI (.tmp rfl) .i64) ?_
   refine WL.op rfl (.pickF (.tmp rfl) hb5 (.tmp rfl)) ?_
   refine WL.mv rfl rfl ?_
   rcases bcases (decide ((4 : Int) < digits)) with hb7 | hb7
   ·have hp8 := of_decide_eq_true hb7
    rw [if_pos hp8] at hm
    iterate 3 refine WL.pass rfl rfl rfl rfl hb7 rfl rfl ?_
    refine WL.op rfl (.pickT (.tmp rfl) hb7 .bool) ?_
    refine WL.mv rfl rfl ?_
    iterate 5 refine WL.pass rfl rfl rfl rfl rfl rfl rfl ?_
    refine WL.op rfl (.pickT (.tmp rfl) rfl .bool) ?_
    refine WL.nil ?_
    exact WN.meet true (Option.some.inj hm) ⟨Ent.q rfl, Ent.q rfl, Ent.q rfl, trivial⟩ trivial
   ·have hp8 := of_decide_eq_false hb7
    rw [if_neg hp8] at hm
    refine WL.run rfl rfl rfl rfl hb7 rfl rfl (Op1.move (.tmp rfl)) ?_
    obtain ⟨b, hv9, hm⟩ := bind_some hm
    refine WL.run rfl rfl rfl rfl hb7 rfl rfl (Op1.sidx hv9 Try.underlying9 (.tmp rfl) .i64) ?_
    refine WL.run rfl rfl rfl rfl hb7 rfl rfl (Op1.eqI (.tmp rfl) (.int (inR8.2 (by omega)))) ?_
    refine WL.op rfl (.pickF (.tmp rfl) hb7 (.tmp rfl)) ?_
    refine WL.mv rfl rfl ?_
    rcases bcases (decide ((b.toNat : Int) = (48 : Int))) with hb10 | hb10
    ·have hp11 := of_decide_eq_true hb10
     rw [if_pos hp11] at hm
     iterate 5 refine WL.pass rfl rfl rfl rfl hb10 rfl rfl ?_
     refine WL.op rfl (.pickT (.tmp rfl) hb10 .bool) ?_
     refine WL.nil ?_
     exact WN.meet true (Option.some.inj hm) ⟨Ent.q rfl, Ent.q rfl, Ent.q rfl, trivial⟩ trivial
    ·have hp11 := of_decide_eq_false hb10
     rw [if_neg hp11] at hm
     refine WL.run rfl rfl rfl rfl hb10 rfl rfl (Op1.move (.tmp rfl)) ?_
     refine WL.run rfl rfl rfl rfl hb10 rfl rfl (Op1.lenS Try.underlying9 (.tmp rfl)) ?_
     refine WL.run rfl rfl rfl rfl hb10 rfl rfl (Op1.move (.tmp rfl)) ?_
     obtain ⟨v1, hv12, hm⟩ := bind_some hm
     refine WL.run rfl rfl rfl rfl hb10 rfl rfl (Op1.subC hv12 (.tmp rfl) (.tmp rfl)) ?_
     refine WL.run rfl rfl rfl rfl hb10 rfl rfl (Op1.gtI (.tmp rfl) .i64) ?_
     refine WL.op rfl (.pickF (.tmp rfl) hb10 (.tmp rfl)) ?_
     refine WL.nil ?_
     exact WN.meet (decide ((3 : Int) < v1)) (Option.some.inj hm) ⟨Ent.q rfl, Ent.q rfl, Ent.q rfl, trivial⟩ trivial

theorem r06_alone_spec (n : Nat) (u : api_Unit) (r : Bool) (hm : M.r06_alone n u = some r) : FSpec Try.prog 83 [(tapi_Unit.is u)] (tB.is r) := by
 unfold M.r06_alone at hm
 refine FSpec.of Try.func83 rfl rfl rfl (fun g0 => ?_)
 refine W.sr ?_
 refine WL.op rfl (.box (.tmp rfl)) ?_
 refine WL.op rfl (.assign .bool) ?_
 refine WL.ns ?_
 refine W.seq ?_
 obtain ⟨s1, hs2, hk3⟩ := bind_some hm
 clear hm
 refine W.join (fun s : Bool => s = s1) (fun s => [(28, (tB.is s)), (1, (tapi_Unit.ptr u))]) (fun s => []) ?_ ?_
 ·rintro v hj27
  try dsimp only at hj27
  subst hj27
  have hm := hk3
  clear hk3
  try dsimp only at hm
  change W _ _ _ _ _ _ _ [(28, (tB.is v)), (1, (tapi_Unit.ptr u))] []
  refine W.cond (.tmp rfl) (fun hc14 => ?_) (fun hc14 => ?_)
  ·have hp15 := hc14
   rw [if_pos hp15] at hm
   refine W.sr ?_
   refine WL.op rfl (.assign .bool) ?_
   refine WL.ns ?_
   cases hm
   exact W.ret1 () rfl (.tmp rfl) trivial
  ·have hp15 := ne_of_false hc14
   rw [if_neg hp15] at hm
   refine W.skip ?_
   refine WN.seq ?_
   refine W.seq ?_
   refine W.sr ?_
   refine WL.op rfl (.fieldAddr Try.underlying27 rfl (fun w => ⟨0, Try.sizeOf3 w⟩) fapi_Unit_1 (.tmp rfl)) ?_
   refine WL.op rfl (.load ty3 (.tmp rfl)) ?_
   refine WL.op rfl (.eqI (.tmp rfl) .i64) ?_
   refine WL.ns ?_
   refine W.cond (.tmp rfl) (fun hc16 => ?_) (fun hc16 => ?_)
   ·have hp17 := of_decide_eq_true hc16
    rw [if_pos hp17] at hm
    obtain ⟨s18, hs19, hk20⟩ := bind_some hm
    clear hm
    refine W.join (fun s : Bool => s = s18) (fun s => [(2, (tB.is s))]) (fun s => []) ?_ ?_
    ·rintro v1 hj25
     try dsimp only at hj25
     subst hj25
     have hm := hk20
     clear hk20
     try dsimp only at hm
     change W _ _ _ _ _ _ _ [(2, (tB.is v1))] []
     cases hm
     exact W.ret1 () rfl (.tmp rfl) trivial
    ·have hm := hs19
     clear hs19
     refine W.region ?_
     refine WL.op rfl (.fieldAddr Try.underlying27 rfl (fun w => ⟨0, Try.sizeOf9 w⟩) fapi_Unit_2 (.tmp rfl)) ?_
     refine WL.op rfl (.load ty9 (.tmp rfl)) ?_
     refine WL.op rfl (.eqS (.tmp rfl) (.str rfl (by decide))) ?_
     refine WL.mv rfl rfl ?_
     rcases bcases (u.Label == ([] : Str)) with hb21 | hb21
     ·have hp22 := hb21
      rw [if_pos hp22] at hm
      refine WL.run rfl rfl rfl rfl hb21 rfl rfl (Op1.fieldAddr Try.underlying27 rfl (fun w => ⟨0, Try.sizeOf24 w⟩) fapi_Unit_3 (.tmp rfl)) ?_
      refine WL.run rfl rfl rfl rfl hb21 rfl rfl (Op1.load ty24 (.tmp rfl)) ?_
      refine WL.run rfl rfl rfl rfl hb21 rfl rfl (Op1.lenL Try.underlying24 (.tmp rfl)) ?_
      refine WL.run rfl rfl rfl rfl hb21 rfl rfl (Op1.eqI (.tmp rfl) .i64) ?_
      refine WL.op rfl (.pickT (.tmp rfl) hb21 (.tmp rfl)) ?_
      refine WL.mv rfl rfl ?_
      rcases bcases (decide ((u.Head.length : Int) = (0 : Int))) with hb23 | hb23
      ·have hp24 := of_decide_eq_true hb23
       rw [if_pos hp24] at hm
       refine WL.run rfl rfl rfl rfl hb23 rfl rfl (Op1.fieldAddr Try.underlying27 rfl (fun w => ⟨0, Try.sizeOf24 w⟩) fapi_Unit_4 (.tmp rfl)) ?_
       refine WL.run rfl rfl rfl rfl hb23 rfl rfl (Op1.load ty24 (.tmp rfl)) ?_
       refine WL.run rfl rfl rfl rfl hb23 rfl rfl (Op1.lenL Try.underlying24 (.tmp rfl)) ?_
       refine WL.run rfl rfl rfl rfl hb23 rfl rfl (Op1.eqI (.tmp rfl) .i64) ?_
       refine WL.op rfl (.pickT (.tmp rfl) hb23 (.tmp rfl)) ?_
       refine WL.gv rfl rfl ?_
       refine WL.nil ?_
       exact WN.meet (decide ((u.Words.length : Int) = (0 : Int))) (Option.some.inj hm) ⟨Ent.q rfl, trivial⟩ trivial
      ·have hp24 := of_decide_eq_false hb23
       rw [if_neg hp24] at hm
       iterate 4 refine WL.pass rfl rfl rfl rfl hb23 rfl rfl ?_
       refine WL.op rfl (.pickF (.tmp rfl) hb23 .bool) ?_
       refine WL.gv rfl rfl ?_
       refine WL.nil ?_
       exact WN.meet false (Option.some.inj hm) ⟨Ent.q rfl, trivial⟩ trivial
     ·have hp22 := ne_of_false hb21
      rw [if_neg hp22] at hm
      iterate 4 refine WL.pass rfl rfl rfl rfl hb21 rfl rfl ?_
      refine WL.op rfl (.pickF (.tmp rfl) hb21 .bool) ?_
      refine WL.mv rfl rfl ?_
      iterate 4 refine WL.pass rfl rfl rfl rfl rfl rfl rfl ?_
      refine WL.op rfl (.pickF (.tmp rfl) rfl .bool) ?_
      refine WL.gv rfl rfl ?_
      refine WL.nil ?_
      exact WN.meet false (Option.some.inj hm) ⟨Ent.q rfl, trivial⟩ trivial
   ·have hp17 := of_decide_eq_false hc16
    rw [if_neg hp17] at hm
    refine W.skip ?_
    refine WN.seq ?_
    refine W.sr ?_
    refine WL.op rfl (.fieldAddr Try.underlying27 rfl (fun w => ⟨0, Try.sizeOf9 w⟩) fapi_Unit_2 (.tmp rfl)) ?_
    refine WL.op rfl (.load ty9 (.tmp rfl)) ?_
    obtain ⟨may, hv26, hm⟩ := bind_some hm
    refine WL.op rfl (.call Try.call50 (r03_May_spec _ _ _ hv26) ⟨(.tmp rfl), trivial⟩) ?_
    refine WL.gv rfl rfl ?_
    refine WL.ns ?_
    cases hm
    exact W.ret1 () rfl (.tmp rfl) trivial
 ·have hm := hs2
  clear hs2
  refine W.region ?_
  refine WL.op rfl (.fieldAddr Try.underlying27 rfl (fun w => ⟨0, Try.sizeOf3 w⟩) fapi_Unit_1 (.tmp rfl)) ?_
  refine WL.op rfl (.load ty3 (.tmp rfl)) ?_
  refine WL.op rfl (.ltI (.tmp rfl) .i64) ?_
  refine WL.mv rfl rfl ?_
  rcases bcases (decide (u.Kind < (0 : Int))) with hb4 | hb4
  ·have hp5 := of_decide_eq_true hb4
   rw [if_pos hp5] at hm
   iterate 3 refine WL.pass rfl rfl rfl rfl hb4 rfl rfl ?_
   refine WL.op rfl (.pickT (.tmp rfl) hb4 .bool) ?_
   refine WL.mv rfl rfl ?_
   iterate 4 refine WL.pass rfl rfl rfl rfl rfl rfl rfl ?_
   refine WL.op rfl (.pickT (.tmp rfl) rfl .bool) ?_
   refine WL.mv rfl rfl ?_
   iterate 4 refine WL.pass rfl rfl rfl rfl rfl rfl rfl ?_
   refine WL.op rfl (.pickT (.tmp rfl) rfl .bool) ?_
   refine WL.mv rfl rfl ?_
   iterate 4 refine WL.pass rfl rfl rfl rfl rfl rfl rfl ?_
   refine WL.op rfl (.pickT (.tmp rfl) rfl .bool) ?_
   refine WL.nil ?_
   exact WN.meet true (Option.some.inj hm) ⟨Ent.q rfl, Ent.q rfl, trivial⟩ trivial
  ·have hp5 := of_decide_eq_false hb4
   rw [if_neg hp5] at hm
   refine WL.run rfl rfl rfl rfl hb4 rfl rfl (Op1.fieldAddr Try.underlying27 rfl (fun w => ⟨0, Try.sizeOf3 w⟩) fapi_Unit_1 (.tmp rfl)) ?_
   refine WL.run rfl rfl rfl rfl hb4 rfl rfl (Op1.load ty3 (.tmp rfl)) ?_
   refine WL.run rfl rfl rfl rfl hb4 rfl rfl (Op1.gtI (.tmp rfl) .i64) ?_
   refine WL.op rfl (.pickF (.tmp rfl) hb4 (.tmp rfl)) ?_
   refine WL.mv rfl rfl ?_
   rcases bcases (decide ((7 : Int) < u.Kind)) with hb6 | hb6
   ·have hp7 := of_decide_eq_true hb6
    rw [if_pos hp7] at hm
    iterate 4 refine WL.pass rfl rfl rfl rfl hb6 rfl rfl ?_
    refine WL.op rfl (.pickT (.tmp rfl) hb6 .bool) ?_
    refine WL.mv rfl rfl ?_
    iterate 4 refine WL.pass rfl rfl rfl rfl rfl rfl rfl ?_
    refine WL.op rfl (.pickT (.tmp rfl) rfl .bool) ?_
    refine WL.mv rfl rfl ?_
    iterate 4 refine WL.pass rfl rfl rfl rfl rfl rfl rfl ?_
    refine WL.op rfl (.pickT (.tmp rfl) rfl .bool) ?_
    refine WL.nil ?_
    exact WN.meet true (Option.some.inj hm) ⟨Ent.q rfl, Ent.q rfl, trivial⟩ trivial
   ·have hp7 := of_decide_eq_false hb6
    rw [if_neg hp7] at hm
    refine WL.run rfl rfl rfl rfl hb6 rfl rfl (Op1.fieldAddr Try.underlying27 rfl (fun w => ⟨0, Try.sizeOf25 w⟩) fapi_Unit_5 (.tmp rfl)) ?_
    refine WL.run rfl rfl rfl rfl hb6 rfl rfl (Op1.load ty25 (.tmp rfl)) ?_
    refine WL.run rfl rfl rfl rfl hb6 rfl rfl (Op1.lenL Try.underlying25 (.tmp rfl)) ?_
    refine WL.run rfl rfl rfl rfl hb6 rfl rfl (Op1.gtI (.tmp rfl) .i64) ?_
    refine WL.op rfl (.pickF (.tmp rfl) hb6 (.tmp rfl)) ?_
    refine WL.mv rfl rfl ?_
    rcases bcases (decide ((64 : Int) < (u.Kids.length : Int))) with hb8 | hb8
    ·have hp9 := of_decide_eq_true hb8
     rw [if_pos hp9] at hm
     iterate 4 refine WL.pass rfl rfl rfl rfl hb8 rfl rfl ?_
     refine WL.op rfl (.pickT (.tmp rfl) hb8 .bool) ?_
     refine WL.mv rfl rfl ?_
     iterate 4 refine WL.pass rfl rfl rfl rfl rfl rfl rfl ?_
     refine WL.op rfl (.pickT (.tmp rfl) rfl .bool) ?_
     refine WL.nil ?_
     exact WN.meet true (Option.some.inj hm) ⟨Ent.q rfl, Ent.q rfl, trivial⟩ trivial
    ·have hp9 := of_decide_eq_false hb8
     rw [if_neg hp9] at hm
     refine WL.run rfl rfl rfl rfl hb8 rfl rfl (Op1.fieldAddr Try.underlying27 rfl (fun w => ⟨0, Try.sizeOf24 w⟩) fapi_Unit_3 (.tmp rfl)) ?_
     refine WL.run rfl rfl rfl rfl hb8 rfl rfl (Op1.load ty24 (.tmp rfl)) ?_
     obtain ⟨row, hv10, hm⟩ := bind_some hm
     refine WL.run rfl rfl rfl rfl hb8 rfl rfl (Op1.call Try.call91 (r06_row_spec _ _ _ hv10) ⟨(.tmp rfl), trivial⟩) ?_
     refine WL.run rfl rfl rfl rfl hb8 rfl rfl (Op1.notB (.tmp rfl)) ?_
     refine WL.op rfl (.pickF (.tmp rfl) hb8 (.tmp rfl)) ?_
     refine WL.mv rfl rfl ?_
     rcases bcases (!row) with hb11 | hb11
     ·have hp12 := not_pos hb11
      rw [if_pos hp12] at hm
      iterate 4 refine WL.pass rfl rfl rfl rfl hb11 rfl rfl ?_
      refine WL.op rfl (.pickT (.tmp rfl) hb11 .bool) ?_
      refine WL.nil ?_
      exact WN.meet true (Option.some.inj hm) ⟨Ent.q rfl, Ent.q rfl, trivial⟩ trivial
     ·have hp12 := not_neg hb11
      rw [if_neg hp12] at hm
      refine WL.run rfl rfl rfl rfl hb11 rfl rfl (Op1.fieldAddr Try.underlying27 rfl (fun w => ⟨0, Try.sizeOf24 w⟩) fapi_Unit_4 (.tmp rfl)) ?_
      refine WL.run rfl rfl rfl rfl hb11 rfl rfl (Op1.load ty24 (.tmp rfl)) ?_
      obtain ⟨row1, hv13, hm⟩ := bind_some hm
      refine WL.run rfl rfl rfl rfl hb11 rfl rfl (Op1.call Try.call91 (r06_row_spec _ _ _ hv13) ⟨(.tmp rfl), trivial⟩) ?_
      refine WL.run rfl rfl rfl rfl hb11 rfl rfl (Op1.notB (.tmp rfl)) ?_
      refine WL.op rfl (.pickF (.tmp rfl) hb11 (.tmp rfl)) ?_
      refine WL.nil ?_
      exact WN.meet (!row1) (Option.some.inj hm) ⟨Ent.q rfl, Ent.q rfl, trivial⟩ trivial

theorem r06_Nests_spec (parent : Int) (kind : Int) (r : Bool) (hm : M.r06_Nests parent kind = some r) : FSpec Try.prog 84 [((tI .i64).is parent), ((tI .i64).is kind)] (tB.is r) := by
 unfold M.r06_Nests at hm
 refine FSpec.of Try.func84 rfl rfl rfl (fun g0 => ?_)
 refine W.sr ?_
 refine WL.op rfl (.assign .bool) ?_
 refine WL.ns ?_
 refine W.seq ?_
 refine W.sr ?_
 refine WL.mv rfl rfl ?_
 refine WL.ns ?_
 refine W.block ?_
 refine W.sr ?_
 refine WL.op rfl (.eqI (.tmp rfl) .i64) ?_
 refine WL.gv rfl rfl ?_
 refine WL.ns ?_
 refine W.cond (.tmp rfl) (fun hc1 => ?_) (fun hc1 => ?_)
 ·have hp2 := of_decide_eq_true hc1
  rw [if_pos hp2] at hm
  refine W.sr ?_
  refine WL.mv rfl rfl ?_
  refine WL.op rfl (.eqI (.tmp rfl) .i64) ?_
  refine WL.mv rfl rfl ?_
  rcases bcases (decide (kind = (1 : Int))) with hb3 | hb3
  ·have hp4 := of_decide_eq_true hb3
   rw [if_pos hp4] at hm
   iterate 2 refine WL.pass rfl rfl rfl rfl hb3 rfl rfl ?_
   refine WL.op rfl (.pickT (.tmp rfl) hb3 .bool) ?_
   refine WL.gv rfl rfl ?_
   refine WL.ns ?_
   cases hm
   exact W.ret1 () rfl (.tmp rfl) trivial
  ·have hp4 := of_decide_eq_false hb3
   rw [if_neg hp4] at hm
   refine WL.run rfl rfl rfl rfl hb3 rfl rfl (Op1.move (.tmp rfl)) ?_
   refine WL.run rfl rfl rfl rfl hb3 rfl rfl (Op1.eqI (.tmp rfl) .i64) ?_
   refine WL.op rfl (.pickF (.tmp rfl) hb3 (.tmp rfl)) ?_
   refine WL.gv rfl rfl ?_
   refine WL.ns ?_
   cases hm
   exact W.ret1 () rfl (.tmp rfl) trivial
 ·have hp2 := of_decide_eq_false hc1
  rw [if_neg hp2] at hm
  refine W.sr ?_
  refine WL.op rfl (.eqI (.tmp rfl) .i64) ?_
  refine WL.gv rfl rfl ?_
  refine WL.ns ?_
  refine W.cond (.tmp rfl) (fun hc5 => ?_) (fun hc5 => ?_)
  ·have hp6 := of_decide_eq_true hc5
   rw [if_pos hp6] at hm
   refine W.sr ?_
   refine WL.mv rfl rfl ?_
   refine WL.op rfl (.eqI (.tmp rfl) .i64) ?_
   refine WL.gv rfl rfl ?_
   refine WL.ns ?_
   cases hm
   exact W.ret1 () rfl (.tmp rfl) trivial
  ·have hp6 := of_decide_eq_false hc5
   rw [if_neg hp6] at hm
   obtain ⟨s7, hs8, hk9⟩ := bind_some hm
   clear hm
   refine W.join (fun s : Bool => s = s7) (fun s => [(18, (tB.is s)), (1, ((tI .i64).is kind)), (5, ((tI .i64).is parent))]) (fun s => []) ?_ ?_
   ·rintro v hj22
    try dsimp only at hj22
    subst hj22
    have hm := hk9
    clear hk9
    try dsimp only at hm
    change W _ _ _ _ _ _ _ [(18, (tB.is v)), (1, ((tI .i64).is kind)), (5, ((tI .i64).is parent))] []
    refine W.cond (.tmp rfl) (fun hc12 => ?_) (fun hc12 => ?_)
    ·have hp13 := hc12
     rw [if_pos hp13] at hm
     refine W.sr ?_
     refine WL.mv rfl rfl ?_
     refine WL.op rfl (.eqI (.tmp rfl) .i64) ?_
     refine WL.mv rfl rfl ?_
     rcases bcases (decide (kind = (3 : Int))) with hb14 | hb14
     ·have hp15 := of_decide_eq_true hb14
      rw [if_pos hp15] at hm
      iterate 2 refine WL.pass rfl rfl rfl rfl hb14 rfl rfl ?_
      refine WL.op rfl (.pickT (.tmp rfl) hb14 .bool) ?_
      refine WL.mv rfl rfl ?_
      iterate 2 refine WL.pass rfl rfl rfl rfl rfl rfl rfl ?_
      refine WL.op rfl (.pickT (.tmp rfl) rfl .bool) ?_
      refine WL.gv rfl rfl ?_
      refine WL.ns ?_
      cases hm
      exact W.ret1 () rfl (.tmp rfl) trivial
     ·have hp15 := of_decide_eq_false hb14
      rw [if_neg hp15] at hm
      refine WL.run rfl rfl rfl rfl hb14 rfl rfl (Op1.move (.tmp rfl)) ?_
      refine WL.run rfl rfl rfl rfl hb14 rfl rfl (Op1.eqI (.tmp rfl) .i64) ?_
      refine WL.op rfl (.pickF (.tmp rfl) hb14 (.tmp rfl)) ?_
      refine WL.mv rfl rfl ?_
      rcases bcases (decide (kind = (4 : Int))) with hb16 | hb16
      ·have hp17 := of_decide_eq_true hb16
       rw [if_pos hp17] at hm
       iterate 2 refine WL.pass rfl rfl rfl rfl hb16 rfl rfl ?_
       refine WL.op rfl (.pickT (.tmp rfl) hb16 .bool) ?_
       refine WL.gv rfl rfl ?_
       refine WL.ns ?_
       cases hm
       exact W.ret1 () rfl (.tmp rfl) trivial
      ·have hp17 := of_decide_eq_false hb16
       rw [if_neg hp17] at hm
       refine WL.run rfl rfl rfl rfl hb16 rfl rfl (Op1.move (.tmp rfl)) ?_
       refine WL.run rfl rfl rfl rfl hb16 rfl rfl (Op1.eqI (.tmp rfl) .i64) ?_
       refine WL.op rfl (.pickF (.tmp rfl) hb16 (.tmp rfl)) ?_
       refine WL.gv rfl rfl ?_
       refine WL.ns ?_
       cases hm
       exact W.ret1 () rfl (.tmp rfl) trivial
    ·have hp13 := ne_of_false hc12
     rw [if_neg hp13] at hm
     refine W.sr ?_
     refine WL.op rfl (.eqI (.tmp rfl) .i64) ?_
     refine WL.gv rfl rfl ?_
     refine WL.ns ?_
     refine W.cond (.tmp rfl) (fun hc18 => ?_) (fun hc18 => ?_)
     ·have hp19 := of_decide_eq_true hc18
      rw [if_pos hp19] at hm
      refine W.sr ?_
      refine WL.mv rfl rfl ?_
      refine WL.op rfl (.eqI (.tmp rfl) .i64) ?_
      refine WL.gv rfl rfl ?_
      refine WL.ns ?_
      cases hm
      exact W.ret1 () rfl (.tmp rfl) trivial
     ·have hp19 := of_decide_eq_false hc18
      rw [if_neg hp19] at hm
      refine W.sr ?_
      refine WL.op rfl (.eqI (.tmp rfl) .i64) ?_
      refine WL.gv rfl rfl ?_
      refine WL.ns ?_
      refine W.cond (.tmp rfl) (fun hc20 => ?_) (fun hc20 => ?_)
      ·have hp21 := of_decide_eq_true hc20
       rw [if_pos hp21] at hm
       refine W.sr ?_
       refine WL.mv rfl rfl ?_
       refine WL.op rfl (.eqI (.tmp rfl) .i64) ?_
       refine WL.gv rfl rfl ?_
       refine WL.ns ?_
       cases hm
       exact W.ret1 () rfl (.tmp rfl) trivial
      ·have hp21 := of_decide_eq_false hc20
       rw [if_neg hp21] at hm
       refine W.skip ?_
       refine WN.block ?_
       refine WN.seq ?_
       refine W.sr ?_
       refine WL.op rfl (.assign .bool) ?_
       refine WL.ns ?_
       cases hm
       exact W.ret1 () rfl (.tmp rfl) trivial
   ·have hm := hs8
    clear hs8
    refine W.sr ?_
    refine WL.op rfl (.eqI (.tmp rfl) .i64) ?_
    refine WL.gv rfl rfl ?_
    refine WL.ns ?_
    refine W.cond (.tmp rfl) (fun hc10 => ?_) (fun hc10 => ?_)
    ·have hp11 := of_decide_eq_true hc10
     rw [if_pos hp11] at hm
     refine W.skip ?_
     exact WN.meet (decide (parent = (2 : Int))) (Option.some.inj hm) ⟨Ent.q rfl, Ent.q rfl, Ent.q rfl, trivial⟩ trivial
    ·have hp11 := of_decide_eq_false hc10
     rw [if_neg hp11] at hm
     refine W.region ?_
     refine WL.op rfl (.eqI (.tmp rfl) .i64) ?_
     refine WL.gv rfl rfl ?_
     refine WL.nil ?_
     exact WN.meet (decide (parent = (3 : Int))) (Option.some.inj hm) ⟨Ent.q rfl, Ent.q rfl, Ent.q rfl, trivial⟩ trivial

theorem r06_Right_spec : ∀ (n : Nat) (u : api_Unit) (r : Bool), M.r06_Right n u = some r → FSpec Try.prog 58 [(tapi_Unit.is u)] (tB.is r) := by
 intro n
 induction n with
 | zero => intro u r hm; cases hm
 | succ n ih =>
  intro u r hm
  rw [M.r06_Right.eq_2] at hm
  refine FSpec.of Try.func58 rfl rfl rfl (fun g0 => ?_)
  refine W.sr ?_
  refine WL.op rfl (.box (.tmp rfl)) ?_
  refine WL.op rfl (.assign .bool) ?_
  refine WL.ns ?_
  refine W.seq ?_
  refine W.sr ?_
  refine WL.op rfl (.load ty27 (.tmp rfl)) ?_
  obtain ⟨alone, hv1, hm⟩ := bind_some hm
  refine WL.op rfl (.call Try.call83 (r06_alone_spec _ _ _ hv1) ⟨(.tmp rfl), trivial⟩) ?_
  refine WL.op rfl (.notB (.tmp rfl)) ?_
  refine WL.ns ?_
  refine W.cond (.tmp rfl) (fun hc2 => ?_) (fun hc2 => ?_)
  ·have hp3 := not_pos hc2
   rw [if_pos hp3] at hm
   refine W.sr ?_
   refine WL.op rfl (.assign .bool) ?_
   refine WL.ns ?_
   cases hm
   exact W.ret1 () rfl (.tmp rfl) trivial
  ·have hp3 := not_neg hc2
   rw [if_neg hp3] at hm
   refine W.skip ?_
   refine WN.seq ?_
   refine W.seq ?_
   refine W.sr ?_
   refine WL.op rfl (.assign .i64) ?_
   refine WL.ns ?_
   refine W.block ?_
   obtain ⟨s4, hs5, hk6⟩ := bind_some hm
   clear hm
   refine W.loop (fun m (s : Int) => M.r06_Right_loop1 u (M.r06_Right n) m s = some s4) (fun s => [(3, ((tI .i64).is s)), (1, (tapi_Unit.ptr u))]) (fun s => []) _ (0 : Int) hs5 ⟨Ent.q rfl, Ent.q rfl, trivial⟩ trivial ?_
   rintro n7 i hm
   try dsimp only at hm
   change W _ _ _ _ _ _ _ [(3, ((tI .i64).is i)), (1, (tapi_Unit.ptr u))] []
   cases n7 with
   | zero => rw [M.r06_Right_loop1.eq_1] at hm; cases hm
   | succ n7 =>
    rw [M.r06_Right_loop1.eq_2] at hm
    refine W.seq ?_
    refine W.sr ?_
    refine WL.mv rfl rfl ?_
    refine WL.op rfl (.fieldAddr Try.underlying27 rfl (fun w => ⟨0, Try.sizeOf25 w⟩) fapi_Unit_5 (.tmp rfl)) ?_
    refine WL.op rfl (.load ty25 (.tmp rfl)) ?_
    refine WL.op rfl (.lenL Try.underlying25 (.tmp rfl)) ?_
    refine WL.op rfl (.ltI (.tmp rfl) (.tmp rfl)) ?_
    refine WL.ns ?_
    refine W.cond (.tmp rfl) (fun hc8 => ?_) (fun hc8 => ?_)
    ·have hp9 := of_decide_eq_true hc8
     rw [if_pos hp9] at hm
     refine W.skip ?_
     refine WN.seq ?_
     refine W.seq ?_
     refine W.block ?_
     refine W.seq ?_
     refine W.seq ?_
     obtain ⟨v, hv10, hm⟩ := bind_some hm
     obtain ⟨nests, hv11, hm⟩ := bind_some hm
     rcases bcases (!nests) with hb12 | hb12
     ·have hp13 := not_pos hb12
      rw [if_pos hp13] at hm
      refine W.draw [.c ((tI .i64).ptr u.Kind), .c ((tI .i64).is u.Kind), .c ((tL tapi_Unit).ptr u.Kids), .c ((tL tapi_Unit).is u.Kids), .c ((tI .i64).is i), .c (tapi_Unit.ptr v), .c ((tI .i64).ptr v.Kind), .c ((tI .i64).is v.Kind), .c (tB.is nests), .c (tB.is (!nests)), .c (tB.is (!nests)), .c (Asn.eq undef), .c (Asn.eq undef), .c (Asn.eq undef), .c (Asn.eq undef), .c (Asn.eq undef), .c (Asn.eq undef), .c (Asn.eq undef), .c (tB.is true)] [([], [1]), ([0], []), ([], [1]), ([2], []), ([], [3]), ([3, 4], []), ([5], []), ([6], []), ([1, 7], []), ([8], []), ([9], []), ([10], [1]), ([10, 11], []), ([10], [3]), ([10, 12, 13], []), ([10, 14], []), ([10, 15], []), ([10, 16], []), ([10, 17], [])] Try.mixed rfl rfl rfl rfl ⟨.inr (Op1.fieldAddr Try.underlying27 rfl (fun w => ⟨0, Try.sizeOf3 w⟩) fapi_Unit_1 (.tmp rfl)), .inr (Op1.load ty3 (.tmp rfl)), .inr (Op1.fieldAddr Try.underlying27 rfl (fun w => ⟨0, Try.sizeOf25 w⟩) fapi_Unit_5 (.tmp rfl)), .inr (Op1.load ty25 (.tmp rfl)), .inr (Op1.move (.tmp rfl)), .inr (Op1.idx hv10 Try.underlying25 Try.sizeOf27 (.tmp rfl) (.tmp rfl)), .inr (Op1.fieldAddr Try.underlying27 rfl (fun w => ⟨0, Try.sizeOf3 w⟩) fapi_Unit_1 (.tmp rfl)), .inr (Op1.load ty3 (.tmp rfl)), .inr (Op1.call Try.call84 (r06_Nests_spec _ _ _ hv11) ⟨(.tmp rfl), (.tmp rfl), trivial⟩), .inr (Op1.notB (.tmp rfl)), .inr (Op1.move (.tmp rfl)), .inr (dp rfl rfl rfl hb12), .inr (dp rfl rfl rfl hb12), .inr (dp rfl rfl rfl hb12), .inr (dp rfl rfl rfl hb12), .inr (dp rfl rfl rfl hb12), .inr (dp rfl rfl rfl hb12), .inr (dp rfl rfl rfl hb12), .inr (Op1.pickT (.tmp rfl) hb12 .bool), trivial⟩ ?_
      refine WN.seq ?_
      refine W.condT (.tmp rfl) ?_
      refine W.sr ?_
      refine WL.op rfl (.assign .bool) ?_
      refine WL.ns ?_
      have hr14 := Option.some.inj hm
      clear hm
      subst hr14
      have hm := hk6
      try dsimp only at hm
      cases hm
      exact W.ret1 () rfl (.tmp rfl) trivial
     ·have hp13 := not_neg hb12
      rw [if_neg hp13] at hm
      obtain ⟨v1, hv15, hm⟩ := bind_some hm
      obtain ⟨right, hv16, hm⟩ := bind_some hm
      refine W.draw [.c ((tI .i64).ptr u.Kind), .c ((tI .i64).is u.Kind), .c ((tL tapi_Unit).ptr u.Kids), .c ((tL tapi_Unit).is u.Kids), .c ((tI .i64).is i), .c (tapi_Unit.ptr v), .c ((tI .i64).ptr v.Kind), .c ((tI .i64).is v.Kind), .c (tB.is nests), .c (tB.is (!nests)), .c (tB.is (!nests)), .c ((tL tapi_Unit).ptr u.Kids), .c ((tL tapi_Unit).is u.Kids), .c ((tI .i64).is i), .c (tapi_Unit.ptr v1), .c (tapi_Unit.is v1), .c (tB.is right), .c (tB.is (!right)), .c (tB.is (!right))] [([], [1]), ([0], []), ([], [1]), ([2], []), ([], [3]), ([3, 4], []), ([5], []), ([6], []), ([1, 7], []), ([8], []), ([9], []), ([10], [1]), ([10, 11], []), ([10], [3]), ([10, 12, 13], []), ([10, 14], []), ([10, 15], []), ([10, 16], []), ([10, 17], [])] Try.mixed rfl rfl rfl rfl ⟨.inr (Op1.fieldAddr Try.underlying27 rfl (fun w => ⟨0, Try.sizeOf3 w⟩) fapi_Unit_1 (.tmp rfl)), .inr (Op1.load ty3 (.tmp rfl)), .inr (Op1.fieldAddr Try.underlying27 rfl (fun w => ⟨0, Try.sizeOf25 w⟩) fapi_Unit_5 (.tmp rfl)), .inr (Op1.load ty25 (.tmp rfl)), .inr (Op1.move (.tmp rfl)), .inr (Op1.idx hv10 Try.underlying25 Try.sizeOf27 (.tmp rfl) (.tmp rfl)), .inr (Op1.fieldAddr Try.underlying27 rfl (fun w => ⟨0, Try.sizeOf3 w⟩) fapi_Unit_1 (.tmp rfl)), .inr (Op1.load ty3 (.tmp rfl)), .inr (Op1.call Try.call84 (r06_Nests_spec _ _ _ hv11) ⟨(.tmp rfl), (.tmp rfl), trivial⟩), .inr (Op1.notB (.tmp rfl)), .inr (Op1.move (.tmp rfl)), .inr (dr rfl rfl rfl hb12 (Op1.fieldAddr Try.underlying27 rfl (fun w => ⟨0, Try.sizeOf25 w⟩) fapi_Unit_5 (.tmp rfl))), .inr (dr rfl rfl rfl hb12 (Op1.load ty25 (.tmp rfl))), .inr (dr rfl rfl rfl hb12 (Op1.move (.tmp rfl))), .inr (dr rfl rfl rfl hb12 (Op1.idx hv15 Try.underlying25 Try.sizeOf27 (.tmp rfl) (.tmp rfl))), .inr (dr rfl rfl rfl hb12 (Op1.load ty27 (.tmp rfl))), .inr (dr rfl rfl rfl hb12 (Op1.call Try.call58 (ih _ _ hv16) ⟨(.tmp rfl), trivial⟩)), .inr (dr rfl rfl rfl hb12 (Op1.notB (.tmp rfl))), .inr (Op1.pickF (.tmp rfl) hb12 (.tmp rfl)), trivial⟩ ?_
      refine WN.seq ?_
      refine W.cond (.tmp rfl) (fun hc17 => ?_) (fun hc17 => ?_)
      ·have hp18 := not_pos hc17
       rw [if_pos hp18] at hm
       refine W.sr ?_
       refine WL.op rfl (.assign .bool) ?_
       refine WL.ns ?_
       have hr19 := Option.some.inj hm
       clear hm
       subst hr19
       have hm := hk6
       try dsimp only at hm
       cases hm
       exact W.ret1 () rfl (.tmp rfl) trivial
      ·have hp18 := not_neg hc17
       rw [if_neg hp18] at hm
       refine W.skip ?_
       refine WN.seq ?_
       refine W.sr ?_
       refine WL.op rfl (.assign .i64) ?_
       refine WL.ns ?_
       refine W.block ?_
       obtain ⟨s20, hs21, hk22⟩ := bind_some hm
       clear hm
       refine W.loop (fun m (s : Int) => M.r06_Right_loop2 u i m s = some s20) (fun s => [(4, ((tI .i64).is s)), (1, (tapi_Unit.ptr u)), (3, ((tI .i64).is i))]) (fun s => []) _ (0 : Int) hs21 ⟨Ent.q rfl, Ent.q rfl, Ent.q rfl, trivial⟩ trivial ?_
       rintro n23 k hm
       try dsimp only at hm
       change W _ _ _ _ _ _ _ [(4, ((tI .i64).is k)), (1, (tapi_Unit.ptr u)), (3, ((tI .i64).is i))] []
       cases n23 with
       | zero => rw [M.r06_Right_loop2.eq_1] at hm; cases hm
       | succ n23 =>
        rw [M.r06_Right_loop2.eq_2] at hm
        refine W.seq ?_
        refine W.sr ?_
        refine WL.mv rfl rfl ?_
        refine WL.mv rfl rfl ?_
        refine WL.op rfl (.ltI (.tmp rfl) (.tmp rfl)) ?_
        refine WL.ns ?_
        refine W.cond (.tmp rfl) (fun hc24 => ?_) (fun hc24 => ?_)
        ·have hp25 := of_decide_eq_true hc24
         rw [if_pos hp25] at hm
         refine W.skip ?_
         refine WN.seq ?_
         refine W.seq ?_
         refine W.block ?_
         refine W.seq ?_
         obtain ⟨v2, hv26, hm⟩ := bind_some hm
         obtain ⟨v3, hv27, hm⟩ := bind_some hm
         rcases bcases (decide (v2.Kind = v3.Kind)) with hb28 | hb28
         ·have hp29 := of_decide_eq_true hb28
          rw [if_pos hp29] at hm
          obtain ⟨v4, hv30, hm⟩ := bind_some hm
          obtain ⟨v5, hv31, hm⟩ := bind_some hm
          refine W.draw [.c ((tL tapi_Unit).ptr u.Kids), .c ((tL tapi_Unit).is u.Kids), .c ((tI .i64).is k), .c (tapi_Unit.ptr v2), .c ((tI .i64).ptr v2.Kind), .c ((tI .i64).is v2.Kind), .c ((tL tapi_Unit).ptr u.Kids), .c ((tL tapi_Unit).is u.Kids), .c ((tI .i64).is i), .c (tapi_Unit.ptr v3), .c ((tI .i64).ptr v3.Kind), .c ((tI .i64).is v3.Kind), .c (tB.is (decide (v2.Kind = v3.Kind))), .c (tB.is (decide (v2.Kind = v3.Kind))), .c ((tL tapi_Unit).ptr u.Kids), .c ((tL tapi_Unit).is u.Kids), .c ((tI .i64).is k), .c (tapi_Unit.ptr v4), .c (tS.ptr v4.Label), .c (tS.is v4.Label), .c ((tL tapi_Unit).ptr u.Kids), .c ((tL tapi_Unit).is u.Kids), .c ((tI .i64).is i), .c (tapi_Unit.ptr v5), .c (tS.ptr v5.Label), .c (tS.is v5.Label), .c (tB.is (v4.Label == v5.Label)), .c (tB.is (v4.Label == v5.Label))] [([], [1]), ([0], []), ([], [4]), ([1, 2], []), ([3], []), ([4], []), ([], [1]), ([6], []), ([], [3]), ([7, 8], []), ([9], []), ([10], []), ([5, 11], []), ([12], []), ([13], [1]), ([13, 14], []), ([13], [4]), ([13, 15, 16], []), ([13, 17], []), ([13, 18], []), ([13], [1]), ([13, 20], []), ([13], [3]), ([13, 21, 22], []), ([13, 23], []), ([13, 24], []), ([13, 19, 25], []), ([13, 26], [])] Try.mixed rfl rfl rfl rfl (by exact ⟨.inr (Op1.fieldAddr Try.underlying27 rfl (fun w => ⟨0, Try.sizeOf25 w⟩) fapi_Unit_5 (.tmp rfl)), .inr (Op1.load ty25 (.tmp rfl)), .inr (Op1.move (.tmp rfl)), .inr (Op1.idx hv26 Try.underlying25 Try.sizeOf27 (.tmp rfl) (.tmp rfl)), .inr (Op1.fieldAddr Try.underlying27 rfl (fun w => ⟨0, Try.sizeOf3 w⟩) fapi_Unit_1 (.tmp rfl)), .inr (Op1.load ty3 (.tmp rfl)), .inr (Op1.fieldAddr Try.underlying27 rfl (fun w => ⟨0, Try.sizeOf25 w⟩) fapi_Unit_5 (.tmp rfl)), .inr (Op1.load ty25 (.tmp rfl)), .inr (Op1.move (.tmp rfl)), .inr (Op1.idx hv27 Try.underlying25 Try.sizeOf27 (.tmp rfl) (.tmp rfl)), .inr (Op1.fieldAddr Try.underlying27 rfl (fun w => ⟨0, Try.sizeOf3 w⟩) fapi_Unit_1 (.tmp rfl)), .inr (Op1.load ty3 (.tmp rfl)), .inr (Op1.eqI (.tmp rfl) (.tmp rfl)), .inr (Op1.move (.tmp rfl)), .inr (dr rfl rfl rfl hb28 (Op1.fieldAddr Try.underlying27 rfl (fun w => ⟨0, Try.sizeOf25 w⟩) fapi_Unit_5 (.tmp rfl))), .inr (dr rfl rfl rfl hb28 (Op1.load ty25 (.tmp rfl))), .inr (dr rfl rfl rfl hb28 (Op1.move (.tmp rfl))), .inr (dr rfl rfl rfl hb28 (Op1.idx hv30 Try.underlying25 Try.sizeOf27 (.tmp rfl) (.tmp rfl))), .inr (dr rfl rfl rfl hb28 (Op1.fieldAddr Try.underlying27 rfl (fun w => ⟨0, Try.sizeOf9 w⟩) fapi_Unit_2 (.tmp rfl))), .inr (dr rfl rfl rfl hb28 (Op1.load ty9 (.tmp rfl))), .inr (dr rfl rfl rfl hb28 (Op1.fieldAddr Try.underlying27 rfl (fun w => ⟨0, Try.sizeOf25 w⟩) fapi_Unit_5 (.tmp rfl))), .inr (dr rfl rfl rfl hb28 (Op1.load ty25 (.tmp rfl))), .inr (dr rfl rfl rfl hb28 (Op1.move (.tmp rfl))), .inr (dr rfl rfl rfl hb28 (Op1.idx hv31 Try.underlying25 Try.sizeOf27 (.tmp rfl) (.tmp rfl))), .inr (dr rfl rfl rfl hb28 (Op1.fieldAddr Try.underlying27 rfl (fun w => ⟨0, Try.sizeOf9 w⟩) fapi_Unit_2 (.tmp rfl))), .inr (dr rfl rfl rfl hb28 (Op1.load ty9 (.tmp rfl))), .inr (dr rfl rfl rfl hb28 (Op1.eqS (.tmp rfl) (.tmp rfl))), .inr (Op1.pickT (.tmp rfl) hb28 (.tmp rfl)), trivial⟩) ?_
          refine WN.seq ?_
          refine W.cond (.tmp rfl) (fun hc32 => ?_) (fun hc32 => ?_)
          ·have hp33 := hc32
           rw [if_pos hp33] at hm
           refine W.sr ?_
           refine WL.op rfl (.assign .bool) ?_
           refine WL.ns ?_
           have hr34 := Option.some.inj hm
           clear hm
           subst hr34
           have hm := hk22
           try dsimp only at hm
           have hr35 := Option.some.inj hm
           clear hm
           subst hr35
           have hm := hk6
           try dsimp only at hm
           cases hm
           exact W.ret1 () rfl (.tmp rfl) trivial
          ·have hp33 := ne_of_false hc32
           rw [if_neg hp33] at hm
           refine W.skip ?_
           refine WN.block ?_
           refine WN.seq ?_
           refine W.region ?_
           refine WL.mv rfl rfl ?_
           obtain ⟨v6, hv36, hm⟩ := bind_some hm
           refine WL.op rfl (.addC hv36 (.tmp rfl) .i64) ?_
           refine WL.gv rfl rfl ?_
           refine WL.nil ?_
           exact WN.again n23 v6 (Nat.lt_succ_self n23) hm ⟨Ent.q rfl, Ent.q rfl, Ent.q rfl, trivial⟩ trivial
         ·have hp29 := of_decide_eq_false hb28
          rw [if_neg hp29] at hm
          refine W.draw [.c ((tL tapi_Unit).ptr u.Kids), .c ((tL tapi_Unit).is u.Kids), .c ((tI .i64).is k), .c (tapi_Unit.ptr v2), .c ((tI .i64).ptr v2.Kind), .c ((tI .i64).is v2.Kind), .c ((tL tapi_Unit).ptr u.Kids), .c ((tL tapi_Unit).is u.Kids), .c ((tI .i64).is i), .c (tapi_Unit.ptr v3), .c ((tI .i64).ptr v3.Kind), .c ((tI .i64).is v3.Kind), .c (tB.is (decide (v2.Kind = v3.Kind))), .c (tB.is (decide (v2.Kind = v3.Kind))), .c (Asn.eq undef), .c (Asn.eq undef), .c (Asn.eq undef), .c (Asn.eq undef), .c (Asn.eq undef), .c (Asn.eq undef), .c (Asn.eq undef), .c (Asn.eq undef), .c (Asn.eq undef), .c (Asn.eq undef), .c (Asn.eq undef), .c (Asn.eq undef), .c (Asn.eq undef), .c (tB.is false)] [([], [1]), ([0], []), ([], [4]), ([1, 2], []), ([3], []), ([4], []), ([], [1]), ([6], []), ([], [3]), ([7, 8], []), ([9], []), ([10], []), ([5, 11], []), ([12], []), ([13], [1]), ([13, 14], []), ([13], [4]), ([13, 15, 16], []), ([13, 17], []), ([13, 18], []), ([13], [1]), ([13, 20], []), ([13], [3]), ([13, 21, 22], []), ([13, 23], []), ([13, 24], []), ([13, 19, 25], []), ([13, 26], [])] Try.mixed rfl rfl rfl rfl (by exact ⟨.inr (Op1.fieldAddr Try.underlying27 rfl (fun w => ⟨0, Try.sizeOf25 w⟩) fapi_Unit_5 (.tmp rfl)), .inr (Op1.load ty25 (.tmp rfl)), .inr (Op1.move (.tmp rfl)), .inr (Op1.idx hv26 Try.underlying25 Try.sizeOf27 (.tmp rfl) (.tmp rfl)), .inr (Op1.fieldAddr Try.underlying27 rfl (fun w => ⟨0, Try.sizeOf3 w⟩) fapi_Unit_1 (.tmp rfl)), .inr (Op1.load ty3 (.tmp rfl)), .inr (Op1.fieldAddr Try.underlying27 rfl (fun w => ⟨0, Try.sizeOf25 w⟩) fapi_Unit_5 (.tmp rfl)), .inr (Op1.load ty25 (.tmp rfl)), .inr (Op1.move (.tmp rfl)), .inr (Op1.idx hv27 Try.underlying25 Try.sizeOf27 (.tmp rfl) (.tmp rfl)), .inr (Op1.fieldAddr Try.underlying27 rfl (fun w => ⟨0, Try.sizeOf3 w⟩) fapi_Unit_1 (.tmp rfl)), .inr (Op1.load ty3 (.tmp rfl)), .inr (Op1.eqI (.tmp rfl) (.tmp rfl)), .inr (Op1.move (.tmp rfl)), .inr (dp rfl rfl rfl hb28), .inr (dp rfl rfl rfl hb28), .inr (dp rfl rfl rfl hb28), .inr (dp rfl rfl rfl hb28), .inr (dp rfl rfl rfl hb28), .inr (dp rfl rfl rfl hb28), .inr (dp rfl rfl rfl hb28), .inr (dp rfl rfl rfl hb28), .inr (dp rfl rfl rfl hb28), .inr (dp rfl rfl rfl hb28), .inr (dp rfl rfl rfl hb28), .inr (dp rfl rfl rfl hb28), .inr (dp rfl rfl rfl hb28), .inr (Op1.pickF (.tmp rfl) hb28 .bool), trivial⟩) ?_
          refine WN.seq ?_
          refine W.condF (.tmp rfl) ?_
          refine W.skip ?_
          refine WN.block ?_
          refine WN.seq ?_
          refine W.region ?_
          refine WL.mv rfl rfl ?_
          obtain ⟨v7, hv37, hm⟩ := bind_some hm
          refine WL.op rfl (.addC hv37 (.tmp rfl) .i64) ?_
          refine WL.gv rfl rfl ?_
          refine WL.nil ?_
          exact WN.again n23 v7 (Nat.lt_succ_self n23) hm ⟨Ent.q rfl, Ent.q rfl, Ent.q rfl, trivial⟩ trivial
        ·have hp25 := of_decide_eq_false hc24
         rw [if_neg hp25] at hm
         refine W.exit rfl ?_
         have hr38 := Option.some.inj hm
         clear hm
         subst hr38
         have hm := hk22
         try dsimp only at hm
         refine WN.block ?_
         refine WN.seq ?_
         refine W.region ?_
         refine WL.mv rfl rfl ?_
         obtain ⟨v8, hv39, hm⟩ := bind_some hm
         refine WL.op rfl (.addC hv39 (.tmp rfl) .i64) ?_
         refine WL.gv rfl rfl ?_
         refine WL.nil ?_
         exact WN.again n7 v8 (Nat.lt_succ_self n7) hm ⟨Ent.q rfl, Ent.q rfl, trivial⟩ trivial
    ·have hp9 := of_decide_eq_false hc8
     rw [if_neg hp9] at hm
     refine W.exit rfl ?_
     have hr40 := Option.some.inj hm
     clear hm
     subst hr40
     have hm := hk6
     try dsimp only at hm
     refine WN.seq ?_
     refine W.sr ?_
     refine WL.op rfl (.assign .bool) ?_
     refine WL.ns ?_
     cases hm
     exact W.ret1 () rfl (.tmp rfl) trivial

theorem r06_Depth_spec : ∀ (n : Nat) (u : api_Unit) (r : Int), M.r06_Depth n u = some r → FSpec Try.prog 59 [(tapi_Unit.is u)] ((tI .i64).is r) := by
 intro n
 induction n with
 | zero => intro u r hm; cases hm
 | succ n ih =>
  intro u r hm
  rw [M.r06_Depth.eq_2] at hm
  refine FSpec.of Try.func59 rfl rfl rfl (fun g0 => ?_)
  refine W.sr ?_
  refine WL.op rfl (.box (.tmp rfl)) ?_
  refine WL.op rfl (.assign .i64) ?_
  refine WL.nr ?_
  refine WL.op rfl (.assign .i64) ?_
  refine WL.ns ?_
  refine W.seq ?_
  refine W.sr ?_
  refine WL.op rfl (.assign .i64) ?_
  refine WL.ns ?_
  refine W.block ?_
  obtain ⟨s1, hs2, hk3⟩ := bind_some hm
  clear hm
  refine W.loop (fun m (s : Int × Int) => M.r06_Depth_loop1 u (M.r06_Depth n) m s.1 s.2 = some s1) (fun s => [(3, ((tI .i64).is s.1)), (4, ((tI .i64).is s.2)), (1, (tapi_Unit.ptr u))]) (fun s => []) _ ((0 : Int), (0 : Int)) hs2 ⟨Ent.q rfl, Ent.q rfl, Ent.q rfl, trivial⟩ trivial ?_
  rintro n4 ⟨d, i⟩ hm
  try dsimp only at hm
  change W _ _ _ _ _ _ _ [(3, ((tI .i64).is d)), (4, ((tI .i64).is i)), (1, (tapi_Unit.ptr u))] []
  cases n4 with
  | zero => rw [M.r06_Depth_loop1.eq_1] at hm; cases hm
  | succ n4 =>
   rw [M.r06_Depth_loop1.eq_2] at hm
   refine W.seq ?_
   refine W.sr ?_
   refine WL.mv rfl rfl ?_
   refine WL.op rfl (.fieldAddr Try.underlying27 rfl (fun w => ⟨0, Try.sizeOf25 w⟩) fapi_Unit_5 (.tmp rfl)) ?_
   refine WL.op rfl (.load ty25 (.tmp rfl)) ?_
   refine WL.op rfl (.lenL Try.underlying25 (.tmp rfl)) ?_
   refine WL.op rfl (.ltI (.tmp rfl) (.tmp rfl)) ?_
   refine WL.ns ?_
   refine W.cond (.tmp rfl) (fun hc5 => ?_) (fun hc5 => ?_)
   ·have hp6 := of_decide_eq_true hc5
    rw [if_pos hp6] at hm
    refine W.skip ?_
    refine WN.seq ?_
    refine W.seq ?_
    refine W.block ?_
    refine W.region ?_
    refine WL.mv rfl rfl ?_
    refine WL.op rfl (.fieldAddr Try.underlying27 rfl (fun w => ⟨0, Try.sizeOf25 w⟩) fapi_Unit_5 (.tmp rfl)) ?_
    refine WL.op rfl (.load ty25 (.tmp rfl)) ?_
    refine WL.mv rfl rfl ?_
    obtain ⟨v, hv7, hm⟩ := bind_some hm
    refine WL.op rfl (.idx hv7 Try.underlying25 Try.sizeOf27 (.tmp rfl) (.tmp rfl)) ?_
    refine WL.op rfl (.load ty27 (.tmp rfl)) ?_
    obtain ⟨depth, hv8, hm⟩ := bind_some hm
    refine WL.op rfl (.call Try.call59 (ih _ _ hv8) ⟨(.tmp rfl), trivial⟩) ?_
    obtain ⟨v1, hv9, hm⟩ := bind_some hm
    refine WL.op rfl (.addC hv9 .i64 (.tmp rfl)) ?_
    refine WL.op rfl (.maxI (.tmp rfl) (.tmp rfl)) ?_
    refine WL.gv rfl rfl ?_
    refine WL.nil ?_
    refine WN.block ?_
    refine WN.seq ?_
    refine W.region ?_
    refine WL.mv rfl rfl ?_
    refine WL.lenL (s := 7) (.tmp rfl) fun hl10 => ?_
    refine WL.op rfl (.addI1 (.tmp rfl) .i64 hp6 hl10) ?_
    refine WL.gv rfl rfl ?_
    refine WL.nil ?_
    exact WN.again n4 (max d v1, i + 1) (Nat.lt_succ_self n4) hm ⟨Ent.q rfl, Ent.q rfl, Ent.q rfl, trivial⟩ trivial
   ·have hp6 := of_decide_eq_false hc5
    rw [if_neg hp6] at hm
    refine W.exit rfl ?_
    have hr11 := Option.some.inj hm
    clear hm
    subst hr11
    have hm := hk3
    try dsimp only at hm
    refine WN.seq ?_
    refine W.sr ?_
    refine WL.mv rfl rfl ?_
    refine WL.gv rfl rfl ?_
    refine WL.ns ?_
    cases hm
    exact W.ret1 () rfl (.tmp rfl) trivial

theorem r06_Count_spec : ∀ (n : Nat) (u : api_Unit) (r : Int), M.r06_Count n u = some r → FSpec Try.prog 60 [(tapi_Unit.is u)] ((tI .i64).is r) := by
 intro n
 induction n with
 | zero => intro u r hm; cases hm
 | succ n ih =>
  intro u r hm
  rw [M.r06_Count.eq_2] at hm
  refine FSpec.of Try.func60 rfl rfl rfl (fun g0 => ?_)
  refine W.sr ?_
  refine WL.op rfl (.box (.tmp rfl)) ?_
  refine WL.op rfl (.assign .i64) ?_
  refine WL.nr ?_
  refine WL.op rfl (.assign .i64) ?_
  refine WL.ns ?_
  refine W.seq ?_
  refine W.sr ?_
  refine WL.op rfl (.assign .i64) ?_
  refine WL.ns ?_
  refine W.block ?_
  obtain ⟨s1, hs2, hk3⟩ := bind_some hm
  clear hm
  refine W.loop (fun m (s : Int × Int) => M.r06_Count_loop1 u (M.r06_Count n) m s.1 s.2 = some s1) (fun s => [(3, ((tI .i64).is s.1)), (4, ((tI .i64).is s.2)), (1, (tapi_Unit.ptr u))]) (fun s => []) _ ((1 : Int), (0 : Int)) hs2 ⟨Ent.q rfl, Ent.q rfl, Ent.q rfl, trivial⟩ trivial ?_
  rintro n4 ⟨n0_, i⟩ hm
  try dsimp only at hm
  change W _ _ _ _ _ _ _ [(3, ((tI .i64).is n0_)), (4, ((tI .i64).is i)), (1, (tapi_Unit.ptr u))] []
  cases n4 with
  | zero => rw [M.r06_Count_loop1.eq_1] at hm; cases hm
  | succ n4 =>
   rw [M.r06_Count_loop1.eq_2] at hm
   refine W.seq ?_
   refine W.sr ?_
   refine WL.mv rfl rfl ?_
   refine WL.op rfl (.fieldAddr Try.underlying27 rfl (fun w => ⟨0, Try.sizeOf25 w⟩) fapi_Unit_5 (.tmp rfl)) ?_
   refine WL.op rfl (.load ty25 (.tmp rfl)) ?_
   refine WL.op rfl (.lenL Try.underlying25 (.tmp rfl)) ?_
   refine WL.op rfl (.ltI (.tmp rfl) (.tmp rfl)) ?_
   refine WL.ns ?_
   refine W.cond (.tmp rfl) (fun hc5 => ?_) (fun hc5 => ?_)
   ·have hp6 := of_decide_eq_true hc5
    rw [if_pos hp6] at hm
    refine W.skip ?_
    refine WN.seq ?_
    refine W.seq ?_
    refine W.block ?_
    refine W.region ?_
    refine WL.mv rfl rfl ?_
    refine WL.op rfl (.fieldAddr Try.underlying27 rfl (fun w => ⟨0, Try.sizeOf25 w⟩) fapi_Unit_5 (.tmp rfl)) ?_
    refine WL.op rfl (.load ty25 (.tmp rfl)) ?_
    refine WL.mv rfl rfl ?_
    obtain ⟨v, hv7, hm⟩ := bind_some hm
    refine WL.op rfl (.idx hv7 Try.underlying25 Try.sizeOf27 (.tmp rfl) (.tmp rfl)) ?_
    refine WL.op rfl (.load ty27 (.tmp rfl)) ?_
    obtain ⟨count, hv8, hm⟩ := bind_some hm
    refine WL.op rfl (.call Try.call60 (ih _ _ hv8) ⟨(.tmp rfl), trivial⟩) ?_
    obtain ⟨v1, hv9, hm⟩ := bind_some hm
    refine WL.op rfl (.addC hv9 (.tmp rfl) (.tmp rfl)) ?_
    refine WL.gv rfl rfl ?_
    refine WL.nil ?_
    refine WN.block ?_
    refine WN.seq ?_
    refine W.region ?_
    refine WL.mv rfl rfl ?_
    refine WL.lenL (s := 7) (.tmp rfl) fun hl10 => ?_
    refine WL.op rfl (.addI1 (.tmp rfl) .i64 hp6 hl10) ?_
    refine WL.gv rfl rfl ?_
    refine WL.nil ?_
    exact WN.again n4 (v1, i + 1) (Nat.lt_succ_self n4) hm ⟨Ent.q rfl, Ent.q rfl, Ent.q rfl, trivial⟩ trivial
   ·have hp6 := of_decide_eq_false hc5
    rw [if_neg hp6] at hm
    refine W.exit rfl ?_
    have hr11 := Option.some.inj hm
    clear hm
    subst hr11
    have hm := hk3
    try dsimp only at hm
    refine WN.seq ?_
    refine W.sr ?_
    refine WL.mv rfl rfl ?_
    refine WL.gv rfl rfl ?_
    refine WL.ns ?_
    cases hm
    exact W.ret1 () rfl (.tmp rfl) trivial

theorem r06_All_spec : ∀ (n : Nat) (u : api_Unit) (r : (List api_Id)), M.r06_All n u = some r → FSpec Try.prog 17 [(tapi_Unit.is u)] ((tL tapi_Id).is r) := by
 intro n
 induction n with
 | zero => intro u r hm; cases hm
 | succ n ih =>
  intro u r hm
  rw [M.r06_All.eq_2] at hm
  refine FSpec.of Try.func17 rfl rfl rfl (fun g0 => ?_)
  refine W.sr ?_
  refine WL.op rfl (.box (.tmp rfl)) ?_
  refine WL.op rfl (.assign (.nil (t := tapi_Id))) ?_
  refine WL.nr ?_
  refine WL.op rfl (.fieldAddr Try.underlying27 rfl (fun w => ⟨2, Try.sizeOf23 w⟩) fapi_Unit_0 (.tmp rfl)) ?_
  refine WL.op rfl (.load ty23 (.tmp rfl)) ?_
  refine WL.opR rfl (OpR.buildSlice (n := 1) (ys := [(0, u.Id)]) (z := zapi_Id) (xs := [u.Id]) 7 Try.underlying31 el23 ze23 ⟨rfl, (.tmp rfl), trivial⟩ (by simp) (by decide) rfl) (fun k => ?_)
  refine WL.gv rfl rfl ?_
  refine WL.ns ?_
  refine W.seq ?_
  refine W.sr ?_
  refine WL.op rfl (.assign .i64) ?_
  refine WL.ns ?_
  refine W.block ?_
  obtain ⟨s1, hs2, hk3⟩ := bind_some hm
  clear hm
  refine W.loop (fun m (s : ((List api_Id) × Int) × Tok) => M.r06_All_loop1 u (M.r06_All n) m s.1.1 s.1.2 = some s1) (fun s => [(3, (tO tapi_Id s.2 s.1.1)), (4, ((tI .i64).is s.1.2)), (1, (tapi_Unit.ptr u))]) (fun s => [(7, Dec.Own tapi_Id 23 s.2 s.1.1.length)]) _ (([u.Id], (0 : Int)), k) hs2 ⟨Ent.q rfl, Ent.q rfl, Ent.q rfl, trivial⟩ ⟨rfl, rfl, trivial⟩ ?_
  rintro n4 ⟨⟨out, i⟩, k1⟩ hm
  try dsimp only at hm
  change W _ _ _ _ _ _ _ [(3, (tO tapi_Id k1 out)), (4, ((tI .i64).is i)), (1, (tapi_Unit.ptr u))] [(7, Dec.Own tapi_Id 23 k1 out.length)]
  cases n4 with
  | zero => rw [M.r06_All_loop1.eq_1] at hm; cases hm
  | succ n4 =>
   rw [M.r06_All_loop1.eq_2] at hm
   refine W.seq ?_
   refine W.sr ?_
   refine WL.mv rfl rfl ?_
   refine WL.op rfl (.fieldAddr Try.underlying27 rfl (fun w => ⟨0, Try.sizeOf25 w⟩) fapi_Unit_5 (.tmp rfl)) ?_
   refine WL.op rfl (.load ty25 (.tmp rfl)) ?_
   refine WL.op rfl (.lenL Try.underlying25 (.tmp rfl)) ?_
   refine WL.op rfl (.ltI (.tmp rfl) (.tmp rfl)) ?_
   refine WL.ns ?_
   refine W.cond (.tmp rfl) (fun hc5 => ?_) (fun hc5 => ?_)
   ·have hp6 := of_decide_eq_true hc5
    rw [if_pos hp6] at hm
    refine W.skip ?_
    refine WN.seq ?_
    refine W.seq ?_
    refine W.block ?_
    refine W.region ?_
    refine WL.mv rfl rfl ?_
    refine WL.op rfl (.fieldAddr Try.underlying27 rfl (fun w => ⟨0, Try.sizeOf25 w⟩) fapi_Unit_5 (.tmp rfl)) ?_
    refine WL.op rfl (.load ty25 (.tmp rfl)) ?_
    refine WL.mv rfl rfl ?_
    obtain ⟨v, hv7, hm⟩ := bind_some hm
    refine WL.op rfl (.idx hv7 Try.underlying25 Try.sizeOf27 (.tmp rfl) (.tmp rfl)) ?_
    refine WL.op rfl (.load ty27 (.tmp rfl)) ?_
    obtain ⟨all, hv8, hm⟩ := bind_some hm
    refine WL.op rfl (.call Try.call17 (ih _ _ hv8) ⟨(.tmp rfl), trivial⟩) ?_
    obtain ⟨out1, hv9, hm⟩ := bind_some hm
    refine WL.opR rfl (OpR.appC (key := 7) hv9 Try.underlying31 el23 (.tmp rfl) (.tmp rfl) rfl) (fun k2 => ?_)
    refine WL.gv rfl rfl ?_
    refine WL.nil ?_
    refine WN.block ?_
    refine WN.seq ?_
    refine W.region ?_
    refine WL.mv rfl rfl ?_
    refine WL.lenL (s := 10) (.tmp rfl) fun hl10 => ?_
    refine WL.op rfl (.addI1 (.tmp rfl) .i64 hp6 hl10) ?_
    refine WL.gv rfl rfl ?_
    refine WL.nil ?_
    exact WN.again n4 ((out1, i + 1), k2) (Nat.lt_succ_self n4) hm ⟨Ent.q rfl, Ent.q rfl, Ent.q rfl, trivial⟩ ⟨rfl, rfl, trivial⟩
   ·have hp6 := of_decide_eq_false hc5
    rw [if_neg hp6] at hm
    refine W.exit rfl ?_
    have hr11 := Option.some.inj hm
    clear hm
    subst hr11
    have hm := hk3
    try dsimp only at hm
    refine WN.seq ?_
    refine W.sr ?_
    refine WL.mv rfl rfl ?_
    refine WL.gv rfl rfl ?_
    refine WL.ns ?_
    cases hm
    exact W.ret1 () rfl (Opd.own (.tmp rfl)) trivial

theorem r06_Ids_spec (n : Nat) (u : api_Unit) (r : Bool) (hm : M.r06_Ids n u = some r) : FSpec Try.prog 61 [(tapi_Unit.is u)] (tB.is r) := by
 unfold M.r06_Ids at hm
 refine FSpec.of Try.func61 rfl rfl rfl (fun g0 => ?_)
 refine W.sr ?_
 refine WL.op rfl (.box (.tmp rfl)) ?_
 refine WL.op rfl (.assign .bool) ?_
 refine WL.nr ?_
 refine WL.op rfl (.load ty27 (.tmp rfl)) ?_
 obtain ⟨all, hv1, hm⟩ := bind_some hm
 refine WL.op rfl (.call Try.call17 (r06_All_spec _ _ _ hv1) ⟨(.tmp rfl), trivial⟩) ?_
 refine WL.gv rfl rfl ?_
 refine WL.nr ?_
 refine WL.op rfl (.assign .bool) ?_
 refine WL.ns ?_
 refine W.seq ?_
 refine W.sr ?_
 refine WL.op rfl (.assign .i64) ?_
 refine WL.ns ?_
 refine W.block ?_
 obtain ⟨s2, hs3, hk4⟩ := bind_some hm
 clear hm
 refine W.loop (fun m (s : Bool × Int) => M.r06_Ids_loop1 all m s.1 s.2 = some s2) (fun s => [(4, (tB.is s.1)), (5, ((tI .i64).is s.2)), (1, (tapi_Unit.ptr u)), (3, ((tL tapi_Id).is all))]) (fun s => []) _ (true, (0 : Int)) hs3 ⟨Ent.q rfl, Ent.q rfl, Ent.q rfl, Ent.q rfl, trivial⟩ trivial ?_
 rintro n5 ⟨none0_, i⟩ hm
 try dsimp only at hm
 change W _ _ _ _ _ _ _ [(4, (tB.is none0_)), (5, ((tI .i64).is i)), (1, (tapi_Unit.ptr u)), (3, ((tL tapi_Id).is all))] []
 cases n5 with
 | zero => rw [M.r06_Ids_loop1.eq_1] at hm; cases hm
 | succ n5 =>
  rw [M.r06_Ids_loop1.eq_2] at hm
  refine W.seq ?_
  refine W.sr ?_
  refine WL.mv rfl rfl ?_
  refine WL.mv rfl rfl ?_
  refine WL.op rfl (.lenL Try.underlying31 (.tmp rfl)) ?_
  refine WL.op rfl (.ltI (.tmp rfl) (.tmp rfl)) ?_
  refine WL.ns ?_
  refine W.cond (.tmp rfl) (fun hc6 => ?_) (fun hc6 => ?_)
  ·have hp7 := of_decide_eq_true hc6
   rw [if_pos hp7] at hm
   refine W.skip ?_
   refine WN.seq ?_
   refine W.seq ?_
   refine W.block ?_
   refine W.region ?_
   refine WL.mv rfl rfl ?_
   refine WL.mv rfl rfl ?_
   rcases bcases (none0_) with hb8 | hb8
   ·have hp9 := hb8
    rw [if_pos hp9] at hm
    refine WL.run rfl rfl rfl rfl hb8 rfl rfl (Op1.move (.tmp rfl)) ?_
    refine WL.run rfl rfl rfl rfl hb8 rfl rfl (Op1.move (.tmp rfl)) ?_
    obtain ⟨v, hv10, hm⟩ := bind_some hm
    refine WL.run rfl rfl rfl rfl hb8 rfl rfl (Op1.idx hv10 Try.underlying31 Try.sizeOf23 (.tmp rfl) (.tmp rfl)) ?_
    refine WL.run rfl rfl rfl rfl hb8 rfl rfl (Op1.load ty23 (.tmp rfl)) ?_
    refine WL.run rfl rfl rfl rfl hb8 rfl rfl (Op1.build (s := tapi_Id) (x := (⟨(0 : Int), (0 : Int), (0 : Int)⟩ : api_Id)) zapi_Id_f rfl Try.underlying23 (zapi_Id_sz _ Try.underlying23) ze23 rfl) ?_
    refine WL.run rfl rfl rfl rfl hb8 rfl rfl (Op1.eqSt (D := 2) rfl (by decide) eg23 eq23 (.tmp rfl) (.tmp rfl)) ?_
    refine WL.op rfl (.pickT (.tmp rfl) hb8 (.tmp rfl)) ?_
    refine WL.gv rfl rfl ?_
    refine WL.nil ?_
    refine WN.block ?_
    refine WN.seq ?_
    refine W.region ?_
    refine WL.mv rfl rfl ?_
    refine WL.lenL (s := 3) (.tmp rfl) fun hl11 => ?_
    refine WL.op rfl (.addI1 (.tmp rfl) .i64 hp7 hl11) ?_
    refine WL.gv rfl rfl ?_
    refine WL.nil ?_
    exact WN.again n5 (decide (v = (⟨(0 : Int), (0 : Int), (0 : Int)⟩ : api_Id)), i + 1) (Nat.lt_succ_self n5) hm ⟨Ent.q rfl, Ent.q rfl, Ent.q rfl, Ent.q rfl, trivial⟩ trivial
   ·have hp9 := ne_of_false hb8
    rw [if_neg hp9] at hm
    iterate 6 refine WL.pass rfl rfl rfl rfl hb8 rfl rfl ?_
    refine WL.op rfl (.pickF (.tmp rfl) hb8 .bool) ?_
    refine WL.gv rfl rfl ?_
    refine WL.nil ?_
    refine WN.block ?_
    refine WN.seq ?_
    refine W.region ?_
    refine WL.mv rfl rfl ?_
    refine WL.lenL (s := 3) (.tmp rfl) fun hl12 => ?_
    refine WL.op rfl (.addI1 (.tmp rfl) .i64 hp7 hl12) ?_
    refine WL.gv rfl rfl ?_
    refine WL.nil ?_
    exact WN.again n5 (false, i + 1) (Nat.lt_succ_self n5) hm ⟨Ent.q rfl, Ent.q rfl, Ent.q rfl, Ent.q rfl, trivial⟩ trivial
  ·have hp7 := of_decide_eq_false hc6
   rw [if_neg hp7] at hm
   refine W.exit rfl ?_
   have hr13 := Option.some.inj hm
   clear hm
   subst hr13
   have hm := hk4
   try dsimp only at hm
   refine WN.seq ?_
   refine W.seq ?_
   refine W.sr ?_
   refine WL.mv rfl rfl ?_
   refine WL.ns ?_
   refine W.cond (.tmp rfl) (fun hc14 => ?_) (fun hc14 => ?_)
   ·have hp15 := hc14
    rw [if_pos hp15] at hm
    refine W.sr ?_
    refine WL.op rfl (.assign .bool) ?_
    refine WL.ns ?_
    cases hm
    exact W.ret1 () rfl (.tmp rfl) trivial
   ·have hp15 := ne_of_false hc14
    rw [if_neg hp15] at hm
    refine W.skip ?_
    refine WN.seq ?_
    refine W.seq ?_
    refine W.seq ?_
    obtain ⟨v1, hv16, hm⟩ := bind_some hm
    refine W.draw [.c ((tL tapi_Id).is all), .c (tapi_Id.ptr v1), .c (tapi_Id.is v1), .c (tapi_Id.is (⟨(0 : Int), (0 : Int), (0 : Int)⟩ : api_Id)), .c (tB.is (decide (v1 = (⟨(0 : Int), (0 : Int), (0 : Int)⟩ : api_Id)))), .c ((tI .i64).ptr u.Kind), .c ((tI .i64).is u.Kind), .c (tB.is (decide (u.Kind = (0 : Int)))), .c (tB.is ((decide (v1 = (⟨(0 : Int), (0 : Int), (0 : Int)⟩ : api_Id))) != (decide (u.Kind = (0 : Int)))))] [([], [3]), ([0], []), ([1], []), ([], []), ([2, 3], []), ([], [1]), ([5], []), ([6], []), ([4, 7], [])] Try.mixed rfl rfl rfl rfl ⟨.inr (Op1.move (.tmp rfl)), .inr (Op1.idx hv16 Try.underlying31 Try.sizeOf23 (.tmp rfl) .i64), .inr (Op1.load ty23 (.tmp rfl)), .inr (Op1.build (s := tapi_Id) (x := (⟨(0 : Int), (0 : Int), (0 : Int)⟩ : api_Id)) zapi_Id_f rfl Try.underlying23 (zapi_Id_sz _ Try.underlying23) ze23 rfl), .inr (Op1.eqSt (D := 2) rfl (by decide) eg23 eq23 (.tmp rfl) (.tmp rfl)), .inr (Op1.fieldAddr Try.underlying27 rfl (fun w => ⟨0, Try.sizeOf3 w⟩) fapi_Unit_1 (.tmp rfl)), .inr (Op1.load ty3 (.tmp rfl)), .inr (Op1.eqI (.tmp rfl) .i64), .inr (Op1.neB Try.underlying4 (.tmp rfl) (.tmp rfl)), trivial⟩ ?_
    refine WN.seq ?_
    refine W.cond (.tmp rfl) (fun hc17 => ?_) (fun hc17 => ?_)
    ·have hp18 := hc17
     rw [if_pos hp18] at hm
     refine W.sr ?_
     refine WL.op rfl (.assign .bool) ?_
     refine WL.ns ?_
     cases hm
     exact W.ret1 () rfl (.tmp rfl) trivial
    ·have hp18 := ne_of_false hc17
     rw [if_neg hp18] at hm
     refine W.skip ?_
     refine WN.seq ?_
     refine W.seq ?_
     refine W.sr ?_
     refine WL.op rfl (.assign .i64) ?_
     refine WL.ns ?_
     refine W.block ?_
     obtain ⟨s19, hs20, hk21⟩ := bind_some hm
     clear hm
     refine W.loop (fun m (s : Int) => M.r06_Ids_loop2 all m s = some s19) (fun s => [(6, ((tI .i64).is s)), (3, ((tL tapi_Id).is all))]) (fun s => []) _ (0 : Int) hs20 ⟨Ent.q rfl, Ent.q rfl, trivial⟩ trivial ?_
     rintro n22 i1 hm
     try dsimp only at hm
     change W _ _ _ _ _ _ _ [(6, ((tI .i64).is i1)), (3, ((tL tapi_Id).is all))] []
     cases n22 with
     | zero => rw [M.r06_Ids_loop2.eq_1] at hm; cases hm
     | succ n22 =>
      rw [M.r06_Ids_loop2.eq_2] at hm
      refine W.seq ?_
      refine W.sr ?_
      refine WL.mv rfl rfl ?_
      refine WL.mv rfl rfl ?_
      refine WL.op rfl (.lenL Try.underlying31 (.tmp rfl)) ?_
      refine WL.op rfl (.ltI (.tmp rfl) (.tmp rfl)) ?_
      refine WL.ns ?_
      refine W.cond (.tmp rfl) (fun hc23 => ?_) (fun hc23 => ?_)
      ·have hp24 := of_decide_eq_true hc23
       rw [if_pos hp24] at hm
       refine W.skip ?_
       refine WN.seq ?_
       refine W.seq ?_
       refine W.block ?_
       refine W.sr ?_
       refine WL.op rfl (.assign .i64) ?_
       refine WL.ns ?_
       refine W.block ?_
       obtain ⟨s25, hs26, hk27⟩ := bind_some hm
       clear hm
       refine W.loop (fun m (s : Int) => M.r06_Ids_loop3 all i1 m s = some s25) (fun s => [(7, ((tI .i64).is s)), (3, ((tL tapi_Id).is all)), (6, ((tI .i64).is i1))]) (fun s => []) _ (0 : Int) hs26 ⟨Ent.q rfl, Ent.q rfl, Ent.q rfl, trivial⟩ trivial ?_
       rintro n28 k hm
       try dsimp only at hm
       change W _ _ _ _ _ _ _ [(7, ((tI .i64).is k)), (3, ((tL tapi_Id).is all)), (6, ((tI .i64).is i1))] []
       cases n28 with
       | zero => rw [M.r06_Ids_loop3.eq_1] at hm; cases hm
       | succ n28 =>
        rw [M.r06_Ids_loop3.eq_2] at hm
        refine W.seq ?_
        refine W.sr ?_
        refine WL.mv rfl rfl ?_
        refine WL.mv rfl rfl ?_
        refine WL.op rfl (.ltI (.tmp rfl) (.tmp rfl)) ?_
        refine WL.ns ?_
        refine W.cond (.tmp rfl) (fun hc29 => ?_) (fun hc29 => ?_)
        ·have hp30 := of_decide_eq_true hc29
         rw [if_pos hp30] at hm
         refine W.skip ?_
         refine WN.seq ?_
         refine W.seq ?_
         refine W.block ?_
         refine W.seq ?_
         obtain ⟨v2, hv31, hm⟩ := bind_some hm
         obtain ⟨v3, hv32, hm⟩ := bind_some hm
         refine W.draw [.c ((tL tapi_Id).is all), .c ((tI .i64).is k), .c (tapi_Id.ptr v2), .c (tapi_Id.is v2), .c ((tL tapi_Id).is all), .c ((tI .i64).is i1), .c (tapi_Id.ptr v3), .c (tapi_Id.is v3), .c (tB.is (decide (v2 = v3)))] [([], [3]), ([], [7]), ([0, 1], []), ([2], []), ([], [3]), ([], [6]), ([4, 5], []), ([6], []), ([3, 7], [])] Try.mixed rfl rfl rfl rfl ⟨.inr (Op1.move (.tmp rfl)), .inr (Op1.move (.tmp rfl)), .inr (Op1.idx hv31 Try.underlying31 Try.sizeOf23 (.tmp rfl) (.tmp rfl)), .inr (Op1.load ty23 (.tmp rfl)), .inr (Op1.move (.tmp rfl)), .inr (Op1.move (.tmp rfl)), .inr (Op1.idx hv32 Try.underlying31 Try.sizeOf23 (.tmp rfl) (.tmp rfl)), .inr (Op1.load ty23 (.tmp rfl)), .inr (Op1.eqSt (D := 2) rfl (by decide) eg23 eq23 (.tmp rfl) (.tmp rfl)), trivial⟩ ?_
         refine WN.seq ?_
         refine W.cond (.tmp rfl) (fun hc33 => ?_) (fun hc33 => ?_)
         ·have hp34 := of_decide_eq_true hc33
          rw [if_pos hp34] at hm
          refine W.sr ?_
          refine WL.op rfl (.assign .bool) ?_
          refine WL.ns ?_
          have hr35 := Option.some.inj hm
          clear hm
          subst hr35
          have hm := hk27
          try dsimp only at hm
          have hr36 := Option.some.inj hm
          clear hm
          subst hr36
          have hm := hk21
          try dsimp only at hm
          cases hm
          exact W.ret1 () rfl (.tmp rfl) trivial
         ·have hp34 := of_decide_eq_false hc33
          rw [if_neg hp34] at hm
          refine W.skip ?_
          refine WN.block ?_
          refine WN.seq ?_
          refine W.region ?_
          refine WL.mv rfl rfl ?_
          obtain ⟨v4, hv37, hm⟩ := bind_some hm
          refine WL.op rfl (.addC hv37 (.tmp rfl) .i64) ?_
          refine WL.gv rfl rfl ?_
          refine WL.nil ?_
          exact WN.again n28 v4 (Nat.lt_succ_self n28) hm ⟨Ent.q rfl, Ent.q rfl, Ent.q rfl, trivial⟩ trivial
        ·have hp30 := of_decide_eq_false hc29
         rw [if_neg hp30] at hm
         refine W.exit rfl ?_
         have hr38 := Option.some.inj hm
         clear hm
         subst hr38
         have hm := hk27
         try dsimp only at hm
         refine WN.block ?_
         refine WN.seq ?_
         refine W.region ?_
         refine WL.mv rfl rfl ?_
         obtain ⟨v5, hv39, hm⟩ := bind_some hm
         refine WL.op rfl (.addC hv39 (.tmp rfl) .i64) ?_
         refine WL.gv rfl rfl ?_
         refine WL.nil ?_
         exact WN.again n22 v5 (Nat.lt_succ_self n22) hm ⟨Ent.q rfl, Ent.q rfl, trivial⟩ trivial
      ·have hp24 := of_decide_eq_false hc23
       rw [if_neg hp24] at hm
       refine W.exit rfl ?_
       have hr40 := Option.some.inj hm
       clear hm
       subst hr40
       have hm := hk21
       try dsimp only at hm
       refine WN.seq ?_
       refine W.sr ?_
       refine WL.op rfl (.assign .bool) ?_
       refine WL.ns ?_
       cases hm
       exact W.ret1 () rfl (.tmp rfl) trivial

theorem r06_May_spec (n : Nat) (u : api_Unit) (r : Bool) (hm : M.r06_May n u = some r) : FSpec Try.prog 39 [(tapi_Unit.is u)] (tB.is r) := by
 unfold M.r06_May at hm
 refine FSpec.of Try.func39 rfl rfl rfl (fun g0 => ?_)
 refine W.sr ?_
 refine WL.op rfl (.box (.tmp rfl)) ?_
 refine WL.op rfl (.assign .bool) ?_
 refine WL.nr ?_
 refine WL.op rfl (.load ty27 (.tmp rfl)) ?_
 obtain ⟨right, hv1, hm⟩ := bind_some hm
 refine WL.op rfl (.call Try.call58 (r06_Right_spec _ _ _ hv1) ⟨(.tmp rfl), trivial⟩) ?_
 refine WL.mv rfl rfl ?_
 rcases bcases (right) with hb2 | hb2
 ·have hp3 := hb2
  rw [if_pos hp3] at hm
  refine WL.run rfl rfl rfl rfl hb2 rfl rfl (Op1.load ty27 (.tmp rfl)) ?_
  obtain ⟨depth, hv4, hm⟩ := bind_some hm
  refine WL.run rfl rfl rfl rfl hb2 rfl rfl (Op1.call Try.call59 (r06_Depth_spec _ _ _ hv4) ⟨(.tmp rfl), trivial⟩) ?_
  refine WL.run rfl rfl rfl rfl hb2 rfl rfl (Op1.leI (.tmp rfl) .i64) ?_
  refine WL.op rfl (.pickT (.tmp rfl) hb2 (.tmp rfl)) ?_
  refine WL.mv rfl rfl ?_
  rcases bcases (decide (depth ≤ (8 : Int))) with hb5 | hb5
  ·have hp6 := of_decide_eq_true hb5
   rw [if_pos hp6] at hm
   refine WL.run rfl rfl rfl rfl hb5 rfl rfl (Op1.load ty27 (.tmp rfl)) ?_
   obtain ⟨count, hv7, hm⟩ := bind_some hm
   refine WL.run rfl rfl rfl rfl hb5 rfl rfl (Op1.call Try.call60 (r06_Count_spec _ _ _ hv7) ⟨(.tmp rfl), trivial⟩) ?_
   refine WL.run rfl rfl rfl rfl hb5 rfl rfl (Op1.leI (.tmp rfl) .i64) ?_
   refine WL.op rfl (.pickT (.tmp rfl) hb5 (.tmp rfl)) ?_
   refine WL.mv rfl rfl ?_
   rcases bcases (decide (count ≤ (1024 : Int))) with hb8 | hb8
   ·have hp9 := of_decide_eq_true hb8
    rw [if_pos hp9] at hm
    refine WL.run rfl rfl rfl rfl hb8 rfl rfl (Op1.load ty27 (.tmp rfl)) ?_
    obtain ⟨ids, hv10, hm⟩ := bind_some hm
    refine WL.run rfl rfl rfl rfl hb8 rfl rfl (Op1.call Try.call61 (r06_Ids_spec _ _ _ hv10) ⟨(.tmp rfl), trivial⟩) ?_
    refine WL.op rfl (.pickT (.tmp rfl) hb8 (.tmp rfl)) ?_
    refine WL.gv rfl rfl ?_
    refine WL.ns ?_
    cases hm
    exact W.ret1 () rfl (.tmp rfl) trivial
   ·have hp9 := of_decide_eq_false hb8
    rw [if_neg hp9] at hm
    iterate 2 refine WL.pass rfl rfl rfl rfl hb8 rfl rfl ?_
    refine WL.op rfl (.pickF (.tmp rfl) hb8 .bool) ?_
    refine WL.gv rfl rfl ?_
    refine WL.ns ?_
    cases hm
    exact W.ret1 () rfl (.tmp rfl) trivial
  ·have hp6 := of_decide_eq_false hb5
   rw [if_neg hp6] at hm
   iterate 3 refine WL.pass rfl rfl rfl rfl hb5 rfl rfl ?_
   refine WL.op rfl (.pickF (.tmp rfl) hb5 .bool) ?_
   refine WL.mv rfl rfl ?_
   iterate 2 refine WL.pass rfl rfl rfl rfl rfl rfl rfl ?_
   refine WL.op rfl (.pickF (.tmp rfl) rfl .bool) ?_
   refine WL.gv rfl rfl ?_
   refine WL.ns ?_
   cases hm
   exact W.ret1 () rfl (.tmp rfl) trivial
 ·have hp3 := ne_of_false hb2
  rw [if_neg hp3] at hm
  iterate 3 refine WL.pass rfl rfl rfl rfl hb2 rfl rfl ?_
  refine WL.op rfl (.pickF (.tmp rfl) hb2 .bool) ?_
  refine WL.mv rfl rfl ?_
  iterate 3 refine WL.pass rfl rfl rfl rfl rfl rfl rfl ?_
  refine WL.op rfl (.pickF (.tmp rfl) rfl .bool) ?_
  refine WL.mv rfl rfl ?_
  iterate 2 refine WL.pass rfl rfl rfl rfl rfl rfl rfl ?_
  refine WL.op rfl (.pickF (.tmp rfl) rfl .bool) ?_
  refine WL.gv rfl rfl ?_
  refine WL.ns ?_
  cases hm
  exact W.ret1 () rfl (.tmp rfl) trivial

theorem r08_named_spec : ∀ (n : Nat) (u : api_Unit) (r : Bool), M.r08_named n u = some r → FSpec Try.prog 40 [(tapi_Unit.is u)] (tB.is r) := by
 intro n
 induction n with
 | zero => intro u r hm; cases hm
 | succ n ih =>
  intro u r hm
  rw [M.r08_named.eq_2] at hm
  refine FSpec.of Try.func40 rfl rfl rfl (fun g0 => ?_)
  refine W.sr ?_
  refine WL.op rfl (.box (.tmp rfl)) ?_
  refine WL.op rfl (.assign .bool) ?_
  refine WL.ns ?_
  refine W.seq ?_
  obtain ⟨s1, hs2, hk3⟩ := bind_some hm
  clear hm
  refine W.join (fun s : Bool => s = s1) (fun s => [(12, (tB.is s)), (1, (tapi_Unit.ptr u))]) (fun s => []) ?_ ?_
  ·rintro v hj21
   try dsimp only at hj21
   subst hj21
   have hm := hk3
   clear hk3
   try dsimp only at hm
   change W _ _ _ _ _ _ _ [(12, (tB.is v)), (1, (tapi_Unit.ptr u))] []
   refine W.cond (.tmp rfl) (fun hc6 => ?_) (fun hc6 => ?_)
   ·have hp7 := hc6
    rw [if_pos hp7] at hm
    refine W.sr ?_
    refine WL.op rfl (.assign .bool) ?_
    refine WL.ns ?_
    cases hm
    exact W.ret1 () rfl (.tmp rfl) trivial
   ·have hp7 := ne_of_false hc6
    rw [if_neg hp7] at hm
    refine W.skip ?_
    refine WN.seq ?_
    refine W.seq ?_
    refine W.sr ?_
    refine WL.op rfl (.assign .i64) ?_
    refine WL.ns ?_
    refine W.block ?_
    obtain ⟨s8, hs9, hk10⟩ := bind_some hm
    clear hm
    refine W.loop (fun m (s : Int) => M.r08_named_loop1 u (M.r08_named n) m s = some s8) (fun s => [(3, ((tI .i64).is s)), (1, (tapi_Unit.ptr u))]) (fun s => []) _ (0 : Int) hs9 ⟨Ent.q rfl, Ent.q rfl, trivial⟩ trivial ?_
    rintro n11 i hm
    try dsimp only at hm
    change W _ _ _ _ _ _ _ [(3, ((tI .i64).is i)), (1, (tapi_Unit.ptr u))] []
    cases n11 with
    | zero => rw [M.r08_named_loop1.eq_1] at hm; cases hm
    | succ n11 =>
     rw [M.r08_named_loop1.eq_2] at hm
     refine W.seq ?_
     refine W.sr ?_
     refine WL.mv rfl rfl ?_
     refine WL.op rfl (.fieldAddr Try.underlying27 rfl (fun w => ⟨0, Try.sizeOf25 w⟩) fapi_Unit_5 (.tmp rfl)) ?_
     refine WL.op rfl (.load ty25 (.tmp rfl)) ?_
     refine WL.op rfl (.lenL Try.underlying25 (.tmp rfl)) ?_
     refine WL.op rfl (.ltI (.tmp rfl) (.tmp rfl)) ?_
     refine WL.ns ?_
     refine W.cond (.tmp rfl) (fun hc12 => ?_) (fun hc12 => ?_)
     ·have hp13 := of_decide_eq_true hc12
      rw [if_pos hp13] at hm
      refine W.skip ?_
      refine WN.seq ?_
      refine W.seq ?_
      refine W.block ?_
      refine W.sr ?_
      refine WL.op rfl (.fieldAddr Try.underlying27 rfl (fun w => ⟨0, Try.sizeOf25 w⟩) fapi_Unit_5 (.tmp rfl)) ?_
      refine WL.op rfl (.load ty25 (.tmp rfl)) ?_
      refine WL.mv rfl rfl ?_
      obtain ⟨v1, hv14, hm⟩ := bind_some hm
      refine WL.op rfl (.idx hv14 Try.underlying25 Try.sizeOf27 (.tmp rfl) (.tmp rfl)) ?_
      refine WL.op rfl (.load ty27 (.tmp rfl)) ?_
      obtain ⟨named, hv15, hm⟩ := bind_some hm
      refine WL.op rfl (.call Try.call40 (ih _ _ hv15) ⟨(.tmp rfl), trivial⟩) ?_
      refine WL.op rfl (.notB (.tmp rfl)) ?_
      refine WL.ns ?_
      refine W.cond (.tmp rfl) (fun hc16 => ?_) (fun hc16 => ?_)
      ·have hp17 := not_pos hc16
       rw [if_pos hp17] at hm
       refine W.sr ?_
       refine WL.op rfl (.assign .bool) ?_
       refine WL.ns ?_
       have hr18 := Option.some.inj hm
       clear hm
       subst hr18
       have hm := hk10
       try dsimp only at hm
       cases hm
       exact W.ret1 () rfl (.tmp rfl) trivial
      ·have hp17 := not_neg hc16
       rw [if_neg hp17] at hm
       refine W.skip ?_
       refine WN.block ?_
       refine WN.seq ?_
       refine W.region ?_
       refine WL.mv rfl rfl ?_
       refine WL.lenL (s := 15) (.tmp rfl) fun hl19 => ?_
       refine WL.op rfl (.addI1 (.tmp rfl) .i64 hp13 hl19) ?_
       refine WL.gv rfl rfl ?_
       refine WL.nil ?_
       exact WN.again n11 (i + 1) (Nat.lt_succ_self n11) hm ⟨Ent.q rfl, Ent.q rfl, trivial⟩ trivial
     ·have hp13 := of_decide_eq_false hc12
      rw [if_neg hp13] at hm
      refine W.exit rfl ?_
      have hr20 := Option.some.inj hm
      clear hm
      subst hr20
      have hm := hk10
      try dsimp only at hm
      refine WN.seq ?_
      refine W.sr ?_
      refine WL.op rfl (.assign .bool) ?_
      refine WL.ns ?_
      cases hm
      exact W.ret1 () rfl (.tmp rfl) trivial
  ·have hm := hs2
   clear hs2
   refine W.region ?_
   refine WL.op rfl (.fieldAddr Try.underlying27 rfl (fun w => ⟨0, Try.sizeOf3 w⟩) fapi_Unit_1 (.tmp rfl)) ?_
   refine WL.op rfl (.load ty3 (.tmp rfl)) ?_
   refine WL.op rfl (.neI (.tmp rfl) .i64) ?_
   refine WL.mv rfl rfl ?_
   rcases bcases (decide (u.Kind ≠ (0 : Int))) with hb4 | hb4
   ·have hp5 := of_decide_eq_true hb4
    rw [if_pos hp5] at hm
    refine WL.run rfl rfl rfl rfl hb4 rfl rfl (Op1.fieldAddr Try.underlying27 rfl (fun w => ⟨2, Try.sizeOf23 w⟩) fapi_Unit_0 (.tmp rfl)) ?_
    refine WL.run rfl rfl rfl rfl hb4 rfl rfl (Op1.load ty23 (.tmp rfl)) ?_
    refine WL.run rfl rfl rfl rfl hb4 rfl rfl (Op1.build (s := tapi_Id) (x := (⟨(0 : Int), (0 : Int), (0 : Int)⟩ : api_Id)) zapi_Id_f rfl Try.underlying23 (zapi_Id_sz _ Try.underlying23) ze23 rfl) ?_
    refine WL.run rfl rfl rfl rfl hb4 rfl rfl (Op1.eqSt (D := 2) rfl (by decide) eg23 eq23 (.tmp rfl) (.tmp rfl)) ?_
    refine WL.op rfl (.pickT (.tmp rfl) hb4 (.tmp rfl)) ?_
    refine WL.nil ?_
    exact WN.meet (decide (u.Id = (⟨(0 : Int), (0 : Int), (0 : Int)⟩ : api_Id))) (Option.some.inj hm) ⟨Ent.q rfl, Ent.q rfl, trivial⟩ trivial
   ·have hp5 := of_decide_eq_false hb4
    rw [if_neg hp5] at hm
    iterate 4 refine WL.pass rfl rfl rfl rfl hb4 rfl rfl ?_
    refine WL.op rfl (.pickF (.tmp rfl) hb4 .bool) ?_
    refine WL.nil ?_
    exact WN.meet false (Option.some.inj hm) ⟨Ent.q rfl, Ent.q rfl, trivial⟩ trivial

theorem r08_Stands_spec (n : Nat) (u : api_Unit) (r : Bool) (hm : M.r08_Stands n u = some r) : FSpec Try.prog 23 [(tapi_Unit.is u)] (tB.is r) := by
 unfold M.r08_Stands at hm
 refine FSpec.of Try.func23 rfl rfl rfl (fun g0 => ?_)
 refine W.sr ?_
 refine WL.op rfl (.box (.tmp rfl)) ?_
 refine WL.op rfl (.assign .bool) ?_
 refine WL.nr ?_
 refine WL.op rfl (.load ty27 (.tmp rfl)) ?_
 obtain ⟨may, hv1, hm⟩ := bind_some hm
 refine WL.op rfl (.call Try.call39 (r06_May_spec _ _ _ hv1) ⟨(.tmp rfl), trivial⟩) ?_
 refine WL.mv rfl rfl ?_
 rcases bcases (may) with hb2 | hb2
 ·have hp3 := hb2
  rw [if_pos hp3] at hm
  refine WL.run rfl rfl rfl rfl hb2 rfl rfl (Op1.load ty27 (.tmp rfl)) ?_
  obtain ⟨named, hv4, hm⟩ := bind_some hm
  refine WL.run rfl rfl rfl rfl hb2 rfl rfl (Op1.call Try.call40 (r08_named_spec _ _ _ hv4) ⟨(.tmp rfl), trivial⟩) ?_
  refine WL.op rfl (.pickT (.tmp rfl) hb2 (.tmp rfl)) ?_
  refine WL.gv rfl rfl ?_
  refine WL.ns ?_
  cases hm
  exact W.ret1 () rfl (.tmp rfl) trivial
 ·have hp3 := ne_of_false hb2
  rw [if_neg hp3] at hm
  iterate 2 refine WL.pass rfl rfl rfl rfl hb2 rfl rfl ?_
  refine WL.op rfl (.pickF (.tmp rfl) hb2 .bool) ?_
  refine WL.gv rfl rfl ?_
  refine WL.ns ?_
  cases hm
  exact W.ret1 () rfl (.tmp rfl) trivial

theorem law41_book_spec (n : Nat) (u : api_Unit) (r : Bool) (hm : M.law41_book n u = some r) : FSpec Try.prog 8 [(tapi_Unit.is u)] (tB.is r) := by
 unfold M.law41_book at hm
 refine FSpec.of Try.func8 rfl rfl rfl (fun g0 => ?_)
 refine W.sr ?_
 refine WL.op rfl (.box (.tmp rfl)) ?_
 refine WL.op rfl (.assign .bool) ?_
 refine WL.nr ?_
 refine WL.op rfl (.load ty27 (.tmp rfl)) ?_
 obtain ⟨few, hv1, hm⟩ := bind_some hm
 refine WL.op rfl (.call Try.call22 (r06_Few_spec _ _ _ _ hv1) ⟨(.tmp rfl), .i64, trivial⟩) ?_
 refine WL.mv rfl rfl ?_
 rcases bcases (few) with hb2 | hb2
 ·have hp3 := hb2
  rw [if_pos hp3] at hm
  refine WL.run rfl rfl rfl rfl hb2 rfl rfl (Op1.load ty27 (.tmp rfl)) ?_
  obtain ⟨stands, hv4, hm⟩ := bind_some hm
  refine WL.run rfl rfl rfl rfl hb2 rfl rfl (Op1.call Try.call23 (r08_Stands_spec _ _ _ hv4) ⟨(.tmp rfl), trivial⟩) ?_
  refine WL.op rfl (.pickT (.tmp rfl) hb2 (.tmp rfl)) ?_
  refine WL.gv rfl rfl ?_
  refine WL.ns ?_
  cases hm
  exact W.ret1 () rfl (.tmp rfl) trivial
 ·have hp3 := ne_of_false hb2
  rw [if_neg hp3] at hm
  iterate 2 refine WL.pass rfl rfl rfl rfl hb2 rfl rfl ?_
  refine WL.op rfl (.pickF (.tmp rfl) hb2 .bool) ?_
  refine WL.gv rfl rfl ?_
  refine WL.ns ?_
  cases hm
  exact W.ret1 () rfl (.tmp rfl) trivial

theorem r41_Few_spec (n : Nat) (c : api_Cite) (r : Bool) (hm : M.r41_Few n c = some r) : FSpec Try.prog 9 [(tapi_Cite.is c)] (tB.is r) := by
 unfold M.r41_Few at hm
 refine FSpec.of Try.func9 rfl rfl rfl (fun g0 => ?_)
 refine W.sr ?_
 refine WL.op rfl (.box (.tmp rfl)) ?_
 refine WL.op rfl (.assign .bool) ?_
 refine WL.ns ?_
 refine W.seq ?_
 obtain ⟨s1, hs2, hk3⟩ := bind_some hm
 clear hm
 refine W.join (fun s : Bool => s = s1) (fun s => [(13, (tB.is s)), (1, (tapi_Cite.ptr c))]) (fun s => []) ?_ ?_
 ·rintro v hj20
  try dsimp only at hj20
  subst hj20
  have hm := hk3
  clear hk3
  try dsimp only at hm
  change W _ _ _ _ _ _ _ [(13, (tB.is v)), (1, (tapi_Cite.ptr c))] []
  refine W.cond (.tmp rfl) (fun hc6 => ?_) (fun hc6 => ?_)
  ·have hp7 := hc6
   rw [if_pos hp7] at hm
   refine W.sr ?_
   refine WL.op rfl (.assign .bool) ?_
   refine WL.ns ?_
   cases hm
   exact W.ret1 () rfl (.tmp rfl) trivial
  ·have hp7 := ne_of_false hc6
   rw [if_neg hp7] at hm
   refine W.skip ?_
   refine WN.seq ?_
   refine W.seq ?_
   refine W.sr ?_
   refine WL.op rfl (.assign .i64) ?_
   refine WL.ns ?_
   refine W.block ?_
   obtain ⟨s8, hs9, hk10⟩ := bind_some hm
   clear hm
   refine W.loop (fun m (s : Int) => M.r41_Few_loop1 c m s = some s8) (fun s => [(3, ((tI .i64).is s)), (1, (tapi_Cite.ptr c))]) (fun s => []) _ (0 : Int) hs9 ⟨Ent.q rfl, Ent.q rfl, trivial⟩ trivial ?_
   rintro n11 i hm
   try dsimp only at hm
   change W _ _ _ _ _ _ _ [(3, ((tI .i64).is i)), (1, (tapi_Cite.ptr c))] []
   cases n11 with
   | zero => rw [M.r41_Few_loop1.eq_1] at hm; cases hm
   | succ n11 =>
    rw [M.r41_Few_loop1.eq_2] at hm
    refine W.seq ?_
    refine W.sr ?_
    refine WL.mv rfl rfl ?_
    refine WL.op rfl (.fieldAddr Try.underlying30 rfl (fun w => ⟨0, Try.sizeOf28 w⟩) fapi_Cite_1 (.tmp rfl)) ?_
    refine WL.op rfl (.load ty28 (.tmp rfl)) ?_
    refine WL.op rfl (.lenL Try.underlying28 (.tmp rfl)) ?_
    refine WL.op rfl (.ltI (.tmp rfl) (.tmp rfl)) ?_
    refine WL.ns ?_
    refine W.cond (.tmp rfl) (fun hc12 => ?_) (fun hc12 => ?_)
    ·have hp13 := of_decide_eq_true hc12
     rw [if_pos hp13] at hm
     refine W.skip ?_
     refine WN.seq ?_
     refine W.seq ?_
     refine W.block ?_
     refine W.sr ?_
     refine WL.op rfl (.fieldAddr Try.underlying30 rfl (fun w => ⟨0, Try.sizeOf28 w⟩) fapi_Cite_1 (.tmp rfl)) ?_
     refine WL.op rfl (.load ty28 (.tmp rfl)) ?_
     refine WL.mv rfl rfl ?_
     obtain ⟨v1, hv14, hm⟩ := bind_some hm
     refine WL.op rfl (.idx hv14 Try.underlying28 Try.sizeOf55 (.tmp rfl) (.tmp rfl)) ?_
     refine WL.op rfl (.fieldAddr Try.underlying55 rfl (fun w => ⟨0, Try.sizeOf9 w⟩) fapi_Step_1 (.tmp rfl)) ?_
     refine WL.op rfl (.load ty9 (.tmp rfl)) ?_
     refine WL.op rfl (.lenS Try.underlying9 (.tmp rfl)) ?_
     refine WL.op rfl (.gtI (.tmp rfl) .i64) ?_
     refine WL.ns ?_
     refine W.cond (.tmp rfl) (fun hc15 => ?_) (fun hc15 => ?_)
     ·have hp16 := of_decide_eq_true hc15
      rw [if_pos hp16] at hm
      refine W.sr ?_
      refine WL.op rfl (.assign .bool) ?_
      refine WL.ns ?_
      have hr17 := Option.some.inj hm
      clear hm
      subst hr17
      have hm := hk10
      try dsimp only at hm
      cases hm
      exact W.ret1 () rfl (.tmp rfl) trivial
     ·have hp16 := of_decide_eq_false hc15
      rw [if_neg hp16] at hm
      refine W.skip ?_
      refine WN.block ?_
      refine WN.seq ?_
      refine W.region ?_
      refine WL.mv rfl rfl ?_
      refine WL.lenL (s := 16) (.tmp rfl) fun hl18 => ?_
      refine WL.op rfl (.addI1 (.tmp rfl) .i64 hp13 hl18) ?_
      refine WL.gv rfl rfl ?_
      refine WL.nil ?_
      exact WN.again n11 (i + 1) (Nat.lt_succ_self n11) hm ⟨Ent.q rfl, Ent.q rfl, trivial⟩ trivial
    ·have hp13 := of_decide_eq_false hc12
     rw [if_neg hp13] at hm
     refine W.exit rfl ?_
     have hr19 := Option.some.inj hm
     clear hm
     subst hr19
     have hm := hk10
     try dsimp only at hm
     refine WN.seq ?_
     refine W.sr ?_
     refine WL.op rfl (.assign .bool) ?_
     refine WL.ns ?_
     cases hm
     exact W.ret1 () rfl (.tmp rfl) trivial
 ·have hm := hs2
  clear hs2
  refine W.region ?_
  refine WL.op rfl (.fieldAddr Try.underlying30 rfl (fun w => ⟨0, Try.sizeOf28 w⟩) fapi_Cite_1 (.tmp rfl)) ?_
  refine WL.op rfl (.load ty28 (.tmp rfl)) ?_
  refine WL.op rfl (.lenL Try.underlying28 (.tmp rfl)) ?_
  refine WL.op rfl (.gtI (.tmp rfl) .i64) ?_
  refine WL.mv rfl rfl ?_
  rcases bcases (decide ((12 : Int) < (c.Path.length : Int))) with hb4 | hb4
  ·have hp5 := of_decide_eq_true hb4
   rw [if_pos hp5] at hm
   iterate 4 refine WL.pass rfl rfl rfl rfl hb4 rfl rfl ?_
   refine WL.op rfl (.pickT (.tmp rfl) hb4 .bool) ?_
   refine WL.nil ?_
   exact WN.meet true (Option.some.inj hm) ⟨Ent.q rfl, Ent.q rfl, trivial⟩ trivial
  ·have hp5 := of_decide_eq_false hb4
   rw [if_neg hp5] at hm
   refine WL.run rfl rfl rfl rfl hb4 rfl rfl (Op1.fieldAddr Try.underlying30 rfl (fun w => ⟨0, Try.sizeOf9 w⟩) fapi_Cite_2 (.tmp rfl)) ?_
   refine WL.run rfl rfl rfl rfl hb4 rfl rfl (Op1.load ty9 (.tmp rfl)) ?_
   refine WL.run rfl rfl rfl rfl hb4 rfl rfl (Op1.lenS Try.underlying9 (.tmp rfl)) ?_
   refine WL.run rfl rfl rfl rfl hb4 rfl rfl (Op1.gtI (.tmp rfl) .i64) ?_
   refine WL.op rfl (.pickF (.tmp rfl) hb4 (.tmp rfl)) ?_
   refine WL.nil ?_
   exact WN.meet (decide ((100 : Int) < (c.To.length : Int))) (Option.some.inj hm) ⟨Ent.q rfl, Ent.q rfl, trivial⟩ trivial

theorem r20_step_spec (n : Nat) (s0_ : api_Step) (r : Bool) (hm : M.r20_step n s0_ = some r) : FSpec Try.prog 76 [(tapi_Step.is s0_)] (tB.is r) := by
 unfold M.r20_step at hm
 refine FSpec.of Try.func76 rfl rfl rfl (fun g0 => ?_)
 refine W.sr ?_
 refine WL.op rfl (.box (.tmp rfl)) ?_
 refine WL.op rfl (.assign .bool) ?_
 refine WL.nr ?_
 refine WL.op rfl (.fieldAddr Try.underlying55 rfl (fun w => ⟨0, Try.sizeOf3 w⟩) fapi_Step_0 (.tmp rfl)) ?_
 refine WL.op rfl (.load ty3 (.tmp rfl)) ?_
 refine WL.op rfl (.geI (.tmp rfl) .i64) ?_
 refine WL.mv rfl rfl ?_
 rcases bcases (decide ((1 : Int) ≤ s0_.Kind)) with hb1 | hb1
 ·have hp2 := of_decide_eq_true hb1
  rw [if_pos hp2] at hm
  refine WL.run rfl rfl rfl rfl hb1 rfl rfl (Op1.fieldAddr Try.underlying55 rfl (fun w => ⟨0, Try.sizeOf3 w⟩) fapi_Step_0 (.tmp rfl)) ?_
  refine WL.run rfl rfl rfl rfl hb1 rfl rfl (Op1.load ty3 (.tmp rfl)) ?_
  refine WL.run rfl rfl rfl rfl hb1 rfl rfl (Op1.leI (.tmp rfl) .i64) ?_
  refine WL.op rfl (.pickT (.tmp rfl) hb1 (.tmp rfl)) ?_
  refine WL.mv rfl rfl ?_
  rcases bcases (decide (s0_.Kind ≤ (7 : Int))) with hb3 | hb3
  ·have hp4 := of_decide_eq_true hb3
   rw [if_pos hp4] at hm
   refine WL.run rfl rfl rfl rfl hb3 rfl rfl (Op1.fieldAddr Try.underlying55 rfl (fun w => ⟨0, Try.sizeOf9 w⟩) fapi_Step_1 (.tmp rfl)) ?_
   refine WL.run rfl rfl rfl rfl hb3 rfl rfl (Op1.load ty9 (.tmp rfl)) ?_
   obtain ⟨may, hv5, hm⟩ := bind_some hm
   refine WL.run rfl rfl rfl rfl hb3 rfl rfl (Op1.call Try.call50 (r03_May_spec _ _ _ hv5) ⟨(.tmp rfl), trivial⟩) ?_
   refine WL.op rfl (.pickT (.tmp rfl) hb3 (.tmp rfl)) ?_
   refine WL.gv rfl rfl ?_
   refine WL.ns ?_
   cases hm
   exact W.ret1 () rfl (.tmp rfl) trivial
  ·have hp4 := of_decide_eq_false hb3
   rw [if_neg hp4] at hm
   iterate 3 refine WL.pass rfl rfl rfl rfl hb3 rfl rfl ?_
   refine WL.op rfl (.pickF (.tmp rfl) hb3 .bool) ?_
   refine WL.gv rfl rfl ?_
   refine WL.ns ?_
   cases hm
   exact W.ret1 () rfl (.tmp rfl) trivial
 ·have hp2 := of_decide_eq_false hb1
  rw [if_neg hp2] at hm
  iterate 3 refine WL.pass rfl rfl rfl rfl hb1 rfl rfl ?_
  refine WL.op rfl (.pickF (.tmp rfl) hb1 .bool) ?_
  refine WL.mv rfl rfl ?_
  iterate 3 refine WL.pass rfl rfl rfl rfl rfl rfl rfl ?_
  refine WL.op rfl (.pickF (.tmp rfl) rfl .bool) ?_
  refine WL.gv rfl rfl ?_
  refine WL.ns ?_
  cases hm
  exact W.ret1 () rfl (.tmp rfl) trivial

theorem r20_steps_spec (n : Nat) (p : List api_Step) (r : Bool) (hm : M.r20_steps n p = some r) : FSpec Try.prog 52 [((tL tapi_Step).is p)] (tB.is r) := by
 unfold M.r20_steps at hm
 refine FSpec.of Try.func52 rfl rfl rfl (fun g0 => ?_)
 refine W.sr ?_
 refine WL.op rfl (.assign .bool) ?_
 refine WL.ns ?_
 refine W.seq ?_
 refine W.sr ?_
 refine WL.op rfl (.assign .i64) ?_
 refine WL.ns ?_
 refine W.block ?_
 obtain ⟨s1, hs2, hk3⟩ := bind_some hm
 clear hm
 refine W.loop (fun m (s : Int) => M.r20_steps_loop1 p m s = some s1) (fun s => [(3, ((tI .i64).is s)), (0, ((tL tapi_Step).is p))]) (fun s => []) _ (0 : Int) hs2 ⟨Ent.q rfl, Ent.q rfl, trivial⟩ trivial ?_
 rintro n4 i hm
 try dsimp only at hm
 change W _ _ _ _ _ _ _ [(3, ((tI .i64).is i)), (0, ((tL tapi_Step).is p))] []
 cases n4 with
 | zero => rw [M.r20_steps_loop1.eq_1] at hm; cases hm
 | succ n4 =>
  rw [M.r20_steps_loop1.eq_2] at hm
  refine W.seq ?_
  refine W.sr ?_
  refine WL.mv rfl rfl ?_
  refine WL.mv rfl rfl ?_
  refine WL.op rfl (.lenL Try.underlying28 (.tmp rfl)) ?_
  refine WL.op rfl (.ltI (.tmp rfl) (.tmp rfl)) ?_
  refine WL.ns ?_
  refine W.cond (.tmp rfl) (fun hc5 => ?_) (fun hc5 => ?_)
  ·have hp6 := of_decide_eq_true hc5
   rw [if_pos hp6] at hm
   refine W.skip ?_
   refine WN.seq ?_
   refine W.seq ?_
   refine W.block ?_
   refine W.sr ?_
   refine WL.mv rfl rfl ?_
   refine WL.mv rfl rfl ?_
   obtain ⟨v, hv7, hm⟩ := bind_some hm
   refine WL.op rfl (.idx hv7 Try.underlying28 Try.sizeOf55 (.tmp rfl) (.tmp rfl)) ?_
   refine WL.op rfl (.load ty55 (.tmp rfl)) ?_
   obtain ⟨step, hv8, hm⟩ := bind_some hm
   refine WL.op rfl (.call Try.call76 (r20_step_spec _ _ _ hv8) ⟨(.tmp rfl), trivial⟩) ?_
   refine WL.op rfl (.notB (.tmp rfl)) ?_
   refine WL.ns ?_
   refine W.cond (.tmp rfl) (fun hc9 => ?_) (fun hc9 => ?_)
   ·have hp10 := not_pos hc9
    rw [if_pos hp10] at hm
    refine W.sr ?_
    refine WL.op rfl (.assign .bool) ?_
    refine WL.ns ?_
    have hr11 := Option.some.inj hm
    clear hm
    subst hr11
    have hm := hk3
    try dsimp only at hm
    cases hm
    exact W.ret1 () rfl (.tmp rfl) trivial
   ·have hp10 := not_neg hc9
    rw [if_neg hp10] at hm
    refine W.skip ?_
    refine WN.block ?_
    refine WN.seq ?_
    refine W.region ?_
    refine WL.mv rfl rfl ?_
    refine WL.lenL (s := 0) (.tmp rfl) fun hl12 => ?_
    refine WL.op rfl (.addI1 (.tmp rfl) .i64 hp6 hl12) ?_
    refine WL.gv rfl rfl ?_
    refine WL.nil ?_
    exact WN.again n4 (i + 1) (Nat.lt_succ_self n4) hm ⟨Ent.q rfl, Ent.q rfl, trivial⟩ trivial
  ·have hp6 := of_decide_eq_false hc5
   rw [if_neg hp6] at hm
   refine W.exit rfl ?_
   have hr13 := Option.some.inj hm
   clear hm
   subst hr13
   have hm := hk3
   try dsimp only at hm
   refine WN.seq ?_
   refine W.sr ?_
   refine WL.op rfl (.assign .bool) ?_
   refine WL.ns ?_
   cases hm
   exact W.ret1 () rfl (.tmp rfl) trivial

end Go.Proofs.Ytlegkjbldofkmaa
