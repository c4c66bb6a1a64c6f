/-
  The code does what the models say: written by program.
-/
import Derived.Test.YtnmkblpbmoikpaaDoorWc
set_option linter.unusedVariables false
set_option linter.unusedSimpArgs false
namespace Go.Proofs.YtnmkblpbmoikpaaDoor
open Go Go.Dec
set_option maxRecDepth 100000
set_option maxHeartbeats 4000000
theorem r20_Scan_spec (n : Nat) (l : List Str) (r : (List api_Cite)) (hm : M.r20_Scan n l = some r) : FSpec Tryd.prog 20 [((tL tS).is l)] ((tL tapi_Cite).is r) := by
 unfold M.r20_Scan at hm
 refine FSpec.of Tryd.func20 rfl rfl rfl (fun g0 => ?_)
 refine W.sr ?_
 refine WL.op rfl (.assign (.nil (t := tapi_Cite))) ?_
 refine WL.nr ?_
 refine WL.opR rfl (OpR.buildSlice (n := 0) (ys := []) (z := zapi_Cite) (xs := ([] : List api_Cite)) 7 Tryd.underlying33 el24 ze24 trivial (by simp) (by decide) rfl) (fun k => ?_)
 refine WL.gv rfl rfl ?_
 refine WL.nr ?_
 refine WL.op rfl (.assign .i64) ?_
 refine WL.ns ?_
 refine W.seq ?_
 refine W.block ?_
 obtain ⟨s1, hs2, hk3⟩ := bind_some hm
 clear hm
 refine W.loop (fun m (s : ((List api_Cite) × Int) × Tok) => M.r20_Scan_loop1 l m s.1.1 s.1.2 = some s1) (fun s => [(3, (tO tapi_Cite s.2 s.1.1)), (4, ((tI .i64).is s.1.2)), (0, ((tL tS).is l))]) (fun s => [(7, Dec.Own tapi_Cite 24 s.2 s.1.1.length)]) _ ((([] : List api_Cite), (0 : Int)), k) hs2 ⟨Ent.q rfl, Ent.q rfl, Ent.q rfl, trivial⟩ ⟨rfl, rfl, trivial⟩ ?_
 rintro n4 ⟨⟨out, i⟩, k1⟩ hm
 try dsimp only at hm
 change W _ _ _ _ _ _ _ [(3, (tO tapi_Cite k1 out)), (4, ((tI .i64).is i)), (0, ((tL tS).is l))] [(7, Dec.Own tapi_Cite 24 k1 out.length)]
 cases n4 with
 | zero => rw [M.r20_Scan_loop1.eq_1] at hm; cases hm
 | succ n4 =>
  rw [M.r20_Scan_loop1.eq_2] at hm
  refine W.seq ?_
  refine W.sr ?_
  refine WL.mv rfl rfl ?_
  refine WL.mv rfl rfl ?_
  refine WL.op rfl (.lenL Tryd.underlying28 (.tmp rfl)) ?_
  refine WL.op rfl (.ltI (.tmp rfl) (.tmp rfl)) ?_
  refine WL.ns ?_
  refine W.cond (.tmp rfl) (fun hc5 => ?_) (fun hc5 => ?_)
  ·have hp6 := of_decide_eq_true hc5
   rw [if_pos hp6] at hm
   refine W.skip ?_
   refine WN.seq ?_
   refine W.block ?_
   refine W.sr ?_
   refine WL.mv rfl rfl ?_
   refine WL.mv rfl rfl ?_
   obtain ⟨at0_, hv7, hm⟩ := bind_some hm
   refine WL.op rfl (.call Tryd.call40 (r20_at_spec _ _ _ _ hv7) ⟨(.tmp rfl), (.tmp rfl), trivial⟩) ?_
   refine WL.mv rfl rfl ?_
   refine WL.op rfl (.extract0 (.tmp rfl)) ?_
   refine WL.op rfl (.extract1 (.tmp rfl)) ?_
   refine WL.opR rfl (OpR.alloc 5 ze24) (fun b => ?_)
   refine WL.opU (OpR.storeB (b := b) 5 Tryd.sizeOf24 (Cellable.is tapi_Cite at0_.1) rfl (.tmp rfl) (.tmp rfl)) (fun _ => ?_)
   refine WL.sealed (t := tapi_Cite) (u := at0_.1) 5 5 rfl rfl ?_
   refine WL.gv rfl rfl ?_
   refine WL.nr ?_
   refine WL.mv rfl rfl ?_
   refine WL.ns ?_
   refine W.cond (.tmp rfl) (fun hc8 => ?_) (fun hc8 => ?_)
   ·have hp9 := hc8
    rw [if_pos hp9] at hm
    refine W.sr ?_
    refine WL.mv rfl rfl ?_
    refine WL.op rfl (.load ty24 (.tmp rfl)) ?_
    refine WL.op rfl (.buildSlice (n := 1) (ys := [(0, at0_.1)]) (z := zapi_Cite) (xs := [at0_.1]) Tryd.underlying33 el24 ze24 ⟨rfl, (.tmp rfl), trivial⟩ (by simp) (by decide) rfl) ?_
    obtain ⟨out1, hv10, hm⟩ := bind_some hm
    refine WL.opR rfl (OpR.appC (key := 7) hv10 Tryd.underlying33 el24 (.tmp rfl) (.tmp rfl) rfl) (fun k2 => ?_)
    refine WL.gv rfl rfl ?_
    refine WL.nr1 ?_
    refine WL.op rfl (.fieldAddr Tryd.underlying24 rfl (fun w => ⟨0, Tryd.sizeOf3 w⟩) fapi_Cite_4 (.tmp rfl)) ?_
    refine WL.op rfl (.load ty3 (.tmp rfl)) ?_
    refine WL.gv rfl rfl ?_
    refine WL.nil ?_
    refine WN.block ?_
    exact WN.again n4 ((out1, at0_.1.At), k2) (Nat.lt_succ_self n4) hm ⟨Ent.q rfl, Ent.q rfl, Ent.q rfl, trivial⟩ ⟨rfl, rfl, trivial⟩
   ·have hp9 := ne_of_false hc8
    rw [if_neg hp9] at hm
    refine W.region ?_
    refine WL.mv rfl rfl ?_
    refine WL.lenL (s := 0) (.tmp rfl) fun hl11 => ?_
    refine WL.op rfl (.addI1 (.tmp rfl) .i64 hp6 hl11) ?_
    refine WL.gv rfl rfl ?_
    refine WL.nil ?_
    refine WN.block ?_
    exact WN.again n4 ((out, i + 1), k1) (Nat.lt_succ_self n4) hm ⟨Ent.q rfl, Ent.q rfl, Ent.q rfl, trivial⟩ ⟨rfl, rfl, trivial⟩
  ·have hp6 := of_decide_eq_false hc5
   rw [if_neg hp6] at hm
   refine W.exit rfl ?_
   have hr12 := Option.some.inj hm
   clear hm
   subst hr12
   have hm := hk3
   try dsimp only at hm
   refine WN.seq ?_
   refine W.sr ?_
   refine WL.mv rfl rfl ?_
   refine WL.gv rfl rfl ?_
   refine WL.ns ?_
   cases hm
   exact W.ret1 () rfl (Opd.own (.tmp rfl)) trivial
theorem r07_Same_spec (n : Nat) (a : List api_Step) (b : List api_Step) (r : Bool) (hm : M.r07_Same n a b = some r) : FSpec Tryd.prog 27 [((tL tapi_Step).is a), ((tL tapi_Step).is b)] (tB.is r) := by
 unfold M.r07_Same at hm
 refine FSpec.of Tryd.func27 rfl rfl rfl (fun g0 => ?_)
 refine W.sr ?_
 refine WL.op rfl (.assign .bool) ?_
 refine WL.ns ?_
 refine W.seq ?_
 refine W.sr ?_
 refine WL.mv rfl rfl ?_
 refine WL.op rfl (.lenL Tryd.underlying22 (.tmp rfl)) ?_
 refine WL.mv rfl rfl ?_
 refine WL.op rfl (.lenL Tryd.underlying22 (.tmp rfl)) ?_
 refine WL.op rfl (.neI (.tmp rfl) (.tmp rfl)) ?_
 refine WL.ns ?_
 refine W.cond (.tmp rfl) (fun hc1 => ?_) (fun hc1 => ?_)
 ·have hp2 := of_decide_eq_true hc1
  rw [if_pos hp2] at hm
  refine W.sr ?_
  refine WL.op rfl (.assign .bool) ?_
  refine WL.ns ?_
  cases hm
  exact W.ret1 () rfl (.tmp rfl) trivial
 ·have hp2 := of_decide_eq_false hc1
  rw [if_neg hp2] at hm
  refine W.skip ?_
  refine WN.seq ?_
  refine W.seq ?_
  refine W.sr ?_
  refine WL.op rfl (.assign .i64) ?_
  refine WL.ns ?_
  refine W.block ?_
  obtain ⟨s3, hs4, hk5⟩ := bind_some hm
  clear hm
  refine W.loop (fun m (s : Int) => M.r07_Same_loop1 a b m s = some s3) (fun s => [(5, ((tI .i64).is s)), (0, ((tL tapi_Step).is a)), (1, ((tL tapi_Step).is b))]) (fun s => []) _ (0 : Int) hs4 ⟨Ent.q rfl, Ent.q rfl, Ent.q rfl, trivial⟩ trivial ?_
  rintro n6 i hm
  try dsimp only at hm
  change W _ _ _ _ _ _ _ [(5, ((tI .i64).is i)), (0, ((tL tapi_Step).is a)), (1, ((tL tapi_Step).is b))] []
  cases n6 with
  | zero => rw [M.r07_Same_loop1.eq_1] at hm; cases hm
  | succ n6 =>
   rw [M.r07_Same_loop1.eq_2] at hm
   refine W.seq ?_
   refine W.sr ?_
   refine WL.mv rfl rfl ?_
   refine WL.mv rfl rfl ?_
   refine WL.op rfl (.lenL Tryd.underlying22 (.tmp rfl)) ?_
   refine WL.op rfl (.ltI (.tmp rfl) (.tmp rfl)) ?_
   refine WL.ns ?_
   refine W.cond (.tmp rfl) (fun hc7 => ?_) (fun hc7 => ?_)
   ·have hp8 := of_decide_eq_true hc7
    rw [if_pos hp8] at hm
    refine W.skip ?_
    refine WN.seq ?_
    refine W.seq ?_
    refine W.block ?_
    refine W.seq ?_
    obtain ⟨v, hv9, hm⟩ := bind_some hm
    obtain ⟨v1, hv10, hm⟩ := bind_some hm
    refine W.draw [.c ((tL tapi_Step).is a), .c ((tI .i64).is i), .c (tapi_Step.ptr v), .c (tapi_Step.is v), .c ((tL tapi_Step).is b), .c ((tI .i64).is i), .c (tapi_Step.ptr v1), .c (tapi_Step.is v1), .c (tB.is (decide (v ≠ v1)))] [([], [0]), ([], [5]), ([0, 1], []), ([2], []), ([], [1]), ([], [5]), ([4, 5], []), ([6], []), ([3, 7], [])] Tryd.mixed rfl rfl rfl rfl ⟨.inr (Op1.move (.tmp rfl)), .inr (Op1.move (.tmp rfl)), .inr (Op1.idx hv9 Tryd.underlying22 Tryd.sizeOf50 (.tmp rfl) (.tmp rfl)), .inr (Op1.load ty50 (.tmp rfl)), .inr (Op1.move (.tmp rfl)), .inr (Op1.move (.tmp rfl)), .inr (Op1.idx hv10 Tryd.underlying22 Tryd.sizeOf50 (.tmp rfl) (.tmp rfl)), .inr (Op1.load ty50 (.tmp rfl)), .inr (Op1.neSt (D := 2) rfl (by decide) eg50 eq50 (.tmp rfl) (.tmp rfl)), trivial⟩ ?_
    refine WN.seq ?_
    refine W.cond (.tmp rfl) (fun hc11 => ?_) (fun hc11 => ?_)
    ·have hp12 := of_decide_eq_true hc11
     rw [if_pos hp12] at hm
     refine W.sr ?_
     refine WL.op rfl (.assign .bool) ?_
     refine WL.ns ?_
     have hr13 := Option.some.inj hm
     clear hm
     subst hr13
     have hm := hk5
     try dsimp only at hm
     cases hm
     exact W.ret1 () rfl (.tmp rfl) trivial
    ·have hp12 := of_decide_eq_false hc11
     rw [if_neg hp12] at hm
     refine W.skip ?_
     refine WN.block ?_
     refine WN.seq ?_
     refine W.region ?_
     refine WL.mv rfl rfl ?_
     refine WL.lenL (s := 0) (.tmp rfl) fun hl14 => ?_
     refine WL.op rfl (.addI1 (.tmp rfl) .i64 hp8 hl14) ?_
     refine WL.gv rfl rfl ?_
     refine WL.nil ?_
     exact WN.again n6 (i + 1) (Nat.lt_succ_self n6) hm ⟨Ent.q rfl, Ent.q rfl, Ent.q rfl, trivial⟩ trivial
   ·have hp8 := of_decide_eq_false hc7
    rw [if_neg hp8] at hm
    refine W.exit rfl ?_
    have hr15 := Option.some.inj hm
    clear hm
    subst hr15
    have hm := hk5
    try dsimp only at hm
    refine WN.seq ?_
    refine W.sr ?_
    refine WL.op rfl (.assign .bool) ?_
    refine WL.ns ?_
    cases hm
    exact W.ret1 () rfl (.tmp rfl) trivial
theorem r20_Same_spec (n : Nat) (a : api_Cite) (b : api_Cite) (r : Bool) (hm : M.r20_Same n a b = some r) : FSpec Tryd.prog 24 [(tapi_Cite.is a), (tapi_Cite.is b)] (tB.is r) := by
 unfold M.r20_Same at hm
 refine FSpec.of Tryd.func24 rfl rfl rfl (fun g0 => ?_)
 refine W.sr ?_
 refine WL.op rfl (.box (.tmp rfl)) ?_
 refine WL.op rfl (.box (.tmp rfl)) ?_
 refine WL.op rfl (.assign .bool) ?_
 refine WL.nr ?_
 refine WL.op rfl (.fieldAddr Tryd.underlying24 rfl (fun w => ⟨0, Tryd.sizeOf3 w⟩) fapi_Cite_0 (.tmp rfl)) ?_
 refine WL.op rfl (.load ty3 (.tmp rfl)) ?_
 refine WL.op rfl (.fieldAddr Tryd.underlying24 rfl (fun w => ⟨0, Tryd.sizeOf3 w⟩) fapi_Cite_0 (.tmp rfl)) ?_
 refine WL.op rfl (.load ty3 (.tmp rfl)) ?_
 refine WL.op rfl (.eqI (.tmp rfl) (.tmp rfl)) ?_
 refine WL.mv rfl rfl ?_
 rcases bcases (decide (a.Kind = b.Kind)) with hb1 | hb1
 ·have hp2 := of_decide_eq_true hb1
  rw [if_pos hp2] at hm
  refine WL.run rfl rfl rfl rfl hb1 rfl rfl (Op1.fieldAddr Tryd.underlying24 rfl (fun w => ⟨0, Tryd.sizeOf9 w⟩) fapi_Cite_2 (.tmp rfl)) ?_
  refine WL.run rfl rfl rfl rfl hb1 rfl rfl (Op1.load ty9 (.tmp rfl)) ?_
  refine WL.run rfl rfl rfl rfl hb1 rfl rfl (Op1.fieldAddr Tryd.underlying24 rfl (fun w => ⟨0, Tryd.sizeOf9 w⟩) fapi_Cite_2 (.tmp rfl)) ?_
  refine WL.run rfl rfl rfl rfl hb1 rfl rfl (Op1.load ty9 (.tmp rfl)) ?_
  refine WL.run rfl rfl rfl rfl hb1 rfl rfl (Op1.eqS (.tmp rfl) (.tmp rfl)) ?_
  refine WL.op rfl (.pickT (.tmp rfl) hb1 (.tmp rfl)) ?_
  refine WL.mv rfl rfl ?_
  rcases bcases (a.To == b.To) with hb3 | hb3
  ·have hp4 := hb3
   rw [if_pos hp4] at hm
   refine WL.run rfl rfl rfl rfl hb3 rfl rfl (Op1.fieldAddr Tryd.underlying24 rfl (fun w => ⟨0, Tryd.sizeOf3 w⟩) fapi_Cite_3 (.tmp rfl)) ?_
   refine WL.run rfl rfl rfl rfl hb3 rfl rfl (Op1.load ty3 (.tmp rfl)) ?_
   refine WL.run rfl rfl rfl rfl hb3 rfl rfl (Op1.fieldAddr Tryd.underlying24 rfl (fun w => ⟨0, Tryd.sizeOf3 w⟩) fapi_Cite_3 (.tmp rfl)) ?_
   refine WL.run rfl rfl rfl rfl hb3 rfl rfl (Op1.load ty3 (.tmp rfl)) ?_
   refine WL.run rfl rfl rfl rfl hb3 rfl rfl (Op1.eqI (.tmp rfl) (.tmp rfl)) ?_
   refine WL.op rfl (.pickT (.tmp rfl) hb3 (.tmp rfl)) ?_
   refine WL.mv rfl rfl ?_
   rcases bcases (decide (a.From = b.From)) with hb5 | hb5
   ·have hp6 := of_decide_eq_true hb5
    rw [if_pos hp6] at hm
    refine WL.run rfl rfl rfl rfl hb5 rfl rfl (Op1.fieldAddr Tryd.underlying24 rfl (fun w => ⟨0, Tryd.sizeOf3 w⟩) fapi_Cite_4 (.tmp rfl)) ?_
    refine WL.run rfl rfl rfl rfl hb5 rfl rfl (Op1.load ty3 (.tmp rfl)) ?_
    refine WL.run rfl rfl rfl rfl hb5 rfl rfl (Op1.fieldAddr Tryd.underlying24 rfl (fun w => ⟨0, Tryd.sizeOf3 w⟩) fapi_Cite_4 (.tmp rfl)) ?_
    refine WL.run rfl rfl rfl rfl hb5 rfl rfl (Op1.load ty3 (.tmp rfl)) ?_
    refine WL.run rfl rfl rfl rfl hb5 rfl rfl (Op1.eqI (.tmp rfl) (.tmp rfl)) ?_
    refine WL.op rfl (.pickT (.tmp rfl) hb5 (.tmp rfl)) ?_
    refine WL.mv rfl rfl ?_
    rcases bcases (decide (a.At = b.At)) with hb7 | hb7
    ·have hp8 := of_decide_eq_true hb7
     rw [if_pos hp8] at hm
     refine WL.run rfl rfl rfl rfl hb7 rfl rfl (Op1.fieldAddr Tryd.underlying24 rfl (fun w => ⟨0, Tryd.sizeOf22 w⟩) fapi_Cite_1 (.tmp rfl)) ?_
     refine WL.run rfl rfl rfl rfl hb7 rfl rfl (Op1.load ty22 (.tmp rfl)) ?_
     refine WL.run rfl rfl rfl rfl hb7 rfl rfl (Op1.fieldAddr Tryd.underlying24 rfl (fun w => ⟨0, Tryd.sizeOf22 w⟩) fapi_Cite_1 (.tmp rfl)) ?_
     refine WL.run rfl rfl rfl rfl hb7 rfl rfl (Op1.load ty22 (.tmp rfl)) ?_
     obtain ⟨same, hv9, hm⟩ := bind_some hm
     refine WL.run rfl rfl rfl rfl hb7 rfl rfl (Op1.call Tryd.call27 (r07_Same_spec _ _ _ _ hv9) ⟨(.tmp rfl), (.tmp rfl), trivial⟩) ?_
     refine WL.op rfl (.pickT (.tmp rfl) hb7 (.tmp rfl)) ?_
     refine WL.gv rfl rfl ?_
     refine WL.ns ?_
     cases hm
     exact W.ret1 () rfl (.tmp rfl) trivial
    ·have hp8 := of_decide_eq_false hb7
     rw [if_neg hp8] at hm
     iterate 5 refine WL.pass rfl rfl rfl rfl hb7 rfl rfl ?_
     refine WL.op rfl (.pickF (.tmp rfl) hb7 .bool) ?_
     refine WL.gv rfl rfl ?_
     refine WL.ns ?_
     cases hm
     exact W.ret1 () rfl (.tmp rfl) trivial
   ·have hp6 := of_decide_eq_false hb5
    rw [if_neg hp6] at hm
    iterate 5 refine WL.pass rfl rfl rfl rfl hb5 rfl rfl ?_
    refine WL.op rfl (.pickF (.tmp rfl) hb5 .bool) ?_
    refine WL.mv rfl rfl ?_
    iterate 5 refine WL.pass rfl rfl rfl rfl rfl rfl rfl ?_
    refine WL.op rfl (.pickF (.tmp rfl) rfl .bool) ?_
    refine WL.gv rfl rfl ?_
    refine WL.ns ?_
    cases hm
    exact W.ret1 () rfl (.tmp rfl) trivial
  ·have hp4 := ne_of_false hb3
   rw [if_neg hp4] at hm
   iterate 5 refine WL.pass rfl rfl rfl rfl hb3 rfl rfl ?_
   refine WL.op rfl (.pickF (.tmp rfl) hb3 .bool) ?_
   refine WL.mv rfl rfl ?_
   iterate 5 refine WL.pass rfl rfl rfl rfl rfl rfl rfl ?_
   refine WL.op rfl (.pickF (.tmp rfl) rfl .bool) ?_
   refine WL.mv rfl rfl ?_
   iterate 5 refine WL.pass rfl rfl rfl rfl rfl rfl rfl ?_
   refine WL.op rfl (.pickF (.tmp rfl) rfl .bool) ?_
   refine WL.gv rfl rfl ?_
   refine WL.ns ?_
   cases hm
   exact W.ret1 () rfl (.tmp rfl) trivial
 ·have hp2 := of_decide_eq_false hb1
  rw [if_neg hp2] at hm
  iterate 5 refine WL.pass rfl rfl rfl rfl hb1 rfl rfl ?_
  refine WL.op rfl (.pickF (.tmp rfl) hb1 .bool) ?_
  refine WL.mv rfl rfl ?_
  iterate 5 refine WL.pass rfl rfl rfl rfl rfl rfl rfl ?_
  refine WL.op rfl (.pickF (.tmp rfl) rfl .bool) ?_
  refine WL.mv rfl rfl ?_
  iterate 5 refine WL.pass rfl rfl rfl rfl rfl rfl rfl ?_
  refine WL.op rfl (.pickF (.tmp rfl) rfl .bool) ?_
  refine WL.mv rfl rfl ?_
  iterate 5 refine WL.pass rfl rfl rfl rfl rfl rfl rfl ?_
  refine WL.op rfl (.pickF (.tmp rfl) rfl .bool) ?_
  refine WL.gv rfl rfl ?_
  refine WL.ns ?_
  cases hm
  exact W.ret1 () rfl (.tmp rfl) trivial
theorem r20_All_spec (n : Nat) (a : List api_Cite) (b : List api_Cite) (r : Bool) (hm : M.r20_All n a b = some r) : FSpec Tryd.prog 18 [((tL tapi_Cite).is a), ((tL tapi_Cite).is b)] (tB.is r) := by
 unfold M.r20_All at hm
 refine FSpec.of Tryd.func18 rfl rfl rfl (fun g0 => ?_)
 refine W.sr ?_
 refine WL.op rfl (.assign .bool) ?_
 refine WL.ns ?_
 refine W.seq ?_
 refine W.sr ?_
 refine WL.mv rfl rfl ?_
 refine WL.op rfl (.lenL Tryd.underlying33 (.tmp rfl)) ?_
 refine WL.mv rfl rfl ?_
 refine WL.op rfl (.lenL Tryd.underlying33 (.tmp rfl)) ?_
 refine WL.op rfl (.neI (.tmp rfl) (.tmp rfl)) ?_
 refine WL.ns ?_
 refine W.cond (.tmp rfl) (fun hc1 => ?_) (fun hc1 => ?_)
 ·have hp2 := of_decide_eq_true hc1
  rw [if_pos hp2] at hm
  refine W.sr ?_
  refine WL.op rfl (.assign .bool) ?_
  refine WL.ns ?_
  cases hm
  exact W.ret1 () rfl (.tmp rfl) trivial
 ·have hp2 := of_decide_eq_false hc1
  rw [if_neg hp2] at hm
  refine W.skip ?_
  refine WN.seq ?_
  refine W.seq ?_
  refine W.sr ?_
  refine WL.op rfl (.assign .i64) ?_
  refine WL.ns ?_
  refine W.block ?_
  obtain ⟨s3, hs4, hk5⟩ := bind_some hm
  clear hm
  refine W.loop (fun m (s : Int) => M.r20_All_loop1 a b m s = some s3) (fun s => [(5, ((tI .i64).is s)), (0, ((tL tapi_Cite).is a)), (1, ((tL tapi_Cite).is b))]) (fun s => []) _ (0 : Int) hs4 ⟨Ent.q rfl, Ent.q rfl, Ent.q rfl, trivial⟩ trivial ?_
  rintro n6 i hm
  try dsimp only at hm
  change W _ _ _ _ _ _ _ [(5, ((tI .i64).is i)), (0, ((tL tapi_Cite).is a)), (1, ((tL tapi_Cite).is b))] []
  cases n6 with
  | zero => rw [M.r20_All_loop1.eq_1] at hm; cases hm
  | succ n6 =>
   rw [M.r20_All_loop1.eq_2] at hm
   refine W.seq ?_
   refine W.sr ?_
   refine WL.mv rfl rfl ?_
   refine WL.mv rfl rfl ?_
   refine WL.op rfl (.lenL Tryd.underlying33 (.tmp rfl)) ?_
   refine WL.op rfl (.ltI (.tmp rfl) (.tmp rfl)) ?_
   refine WL.ns ?_
   refine W.cond (.tmp rfl) (fun hc7 => ?_) (fun hc7 => ?_)
   ·have hp8 := of_decide_eq_true hc7
    rw [if_pos hp8] at hm
    refine W.skip ?_
    refine WN.seq ?_
    refine W.seq ?_
    refine W.block ?_
    refine W.seq ?_
    obtain ⟨v, hv9, hm⟩ := bind_some hm
    obtain ⟨v1, hv10, hm⟩ := bind_some hm
    obtain ⟨same, hv11, hm⟩ := bind_some hm
    refine W.draw [.c ((tL tapi_Cite).is a), .c ((tI .i64).is i), .c (tapi_Cite.ptr v), .c (tapi_Cite.is v), .c ((tL tapi_Cite).is b), .c ((tI .i64).is i), .c (tapi_Cite.ptr v1), .c (tapi_Cite.is v1), .c (tB.is same), .c (tB.is (!same))] [([], [0]), ([], [5]), ([0, 1], []), ([2], []), ([], [1]), ([], [5]), ([4, 5], []), ([6], []), ([3, 7], []), ([8], [])] Tryd.mixed rfl rfl rfl rfl ⟨.inr (Op1.move (.tmp rfl)), .inr (Op1.move (.tmp rfl)), .inr (Op1.idx hv9 Tryd.underlying33 Tryd.sizeOf24 (.tmp rfl) (.tmp rfl)), .inr (Op1.load ty24 (.tmp rfl)), .inr (Op1.move (.tmp rfl)), .inr (Op1.move (.tmp rfl)), .inr (Op1.idx hv10 Tryd.underlying33 Tryd.sizeOf24 (.tmp rfl) (.tmp rfl)), .inr (Op1.load ty24 (.tmp rfl)), .inr (Op1.call Tryd.call24 (r20_Same_spec _ _ _ _ hv11) ⟨(.tmp rfl), (.tmp rfl), trivial⟩), .inr (Op1.notB (.tmp rfl)), trivial⟩ ?_
    refine WN.seq ?_
    refine W.cond (.tmp rfl) (fun hc12 => ?_) (fun hc12 => ?_)
    ·have hp13 := not_pos hc12
     rw [if_pos hp13] at hm
     refine W.sr ?_
     refine WL.op rfl (.assign .bool) ?_
     refine WL.ns ?_
     have hr14 := Option.some.inj hm
     clear hm
     subst hr14
     have hm := hk5
     try dsimp only at hm
     cases hm
     exact W.ret1 () rfl (.tmp rfl) trivial
    ·have hp13 := not_neg hc12
     rw [if_neg hp13] at hm
     refine W.skip ?_
     refine WN.block ?_
     refine WN.seq ?_
     refine W.region ?_
     refine WL.mv rfl rfl ?_
     refine WL.lenL (s := 0) (.tmp rfl) fun hl15 => ?_
     refine WL.op rfl (.addI1 (.tmp rfl) .i64 hp8 hl15) ?_
     refine WL.gv rfl rfl ?_
     refine WL.nil ?_
     exact WN.again n6 (i + 1) (Nat.lt_succ_self n6) hm ⟨Ent.q rfl, Ent.q rfl, Ent.q rfl, trivial⟩ trivial
   ·have hp8 := of_decide_eq_false hc7
    rw [if_neg hp8] at hm
    refine W.exit rfl ?_
    have hr16 := Option.some.inj hm
    clear hm
    subst hr16
    have hm := hk5
    try dsimp only at hm
    refine WN.seq ?_
    refine W.sr ?_
    refine WL.op rfl (.assign .bool) ?_
    refine WL.ns ?_
    cases hm
    exact W.ret1 () rfl (.tmp rfl) trivial
theorem law20_CitationScans_spec (n : Nat) (l : List Str) (r : Bool) (hm : M.law20_CitationScans n l = some r) : FSpecR Tryd.prog 4 [((tL tS).is l)] [(700000, GlE 0)] (fun _ : Unit => (tB.is r)) (fun _ => []) := by
 unfold M.law20_CitationScans at hm
 refine FSpecR.of Tryd.func4 rfl rfl rfl (fun g0 => ?_)
 refine W.sr ?_
 refine WL.op rfl (.assign .bool) ?_
 refine WL.ns ?_
 refine W.seq ?_
 refine W.sr ?_
 refine WL.mv rfl rfl ?_
 obtain ⟨long, hv1, hm⟩ := bind_some hm
 refine WL.op rfl (.call Tryd.call17 (law20_long_spec _ _ hv1) ⟨(.tmp rfl), trivial⟩) ?_
 refine WL.ns ?_
 refine W.cond (.tmp rfl) (fun hc2 => ?_) (fun hc2 => ?_)
 ·have hp3 := hc2
  rw [if_pos hp3] at hm
  refine W.sr ?_
  obtain ⟨awake, hv4, hm⟩ := bind_some hm
  refine WL.op rfl (.callG (rin := [(700000, GlE 0)]) Tryd.call11 (law20_awake_spec _ _ hv4) ⟨rfl, trivial⟩ ⟨rfl, rfl, trivial⟩ trivial) ?_
  refine WL.gv rfl rfl ?_
  refine WL.ns ?_
  cases hm
  exact W.ret1 () rfl (.tmp rfl) trivial
 ·have hp3 := ne_of_false hc2
  rw [if_neg hp3] at hm
  refine W.skip ?_
  refine WN.seq ?_
  refine W.sr ?_
  refine WL.mv rfl rfl ?_
  obtain ⟨scan, hv5, hm⟩ := bind_some hm
  refine WL.op rfl (.call Tryd.call19 (citation_Scan_spec _ _ _ hv5) ⟨(.tmp rfl), trivial⟩) ?_
  refine WL.mv rfl rfl ?_
  obtain ⟨scan1, hv6, hm⟩ := bind_some hm
  refine WL.op rfl (.call Tryd.call20 (r20_Scan_spec _ _ _ hv6) ⟨(.tmp rfl), trivial⟩) ?_
  obtain ⟨all, hv7, hm⟩ := bind_some hm
  refine WL.op rfl (.call Tryd.call18 (r20_All_spec _ _ _ _ hv7) ⟨(.tmp rfl), (.tmp rfl), trivial⟩) ?_
  refine WL.mv rfl rfl ?_
  rcases bcases (all) with hb8 | hb8
  ·have hp9 := hb8
   rw [if_pos hp9] at hm
   obtain ⟨awake1, hv10, hm⟩ := bind_some hm
   refine WL.run rfl rfl rfl rfl hb8 rfl rfl (Op1.callG (rin := [(700000, GlE 0)]) Tryd.call11 (law20_awake_spec _ _ hv10) ⟨rfl, trivial⟩ ⟨rfl, rfl, trivial⟩ trivial) ?_
   refine WL.op rfl (.pickT (.tmp rfl) hb8 (.tmp rfl)) ?_
   refine WL.gv rfl rfl ?_
   refine WL.ns ?_
   cases hm
   exact W.ret1 () rfl (.tmp rfl) trivial
  ·have hp9 := ne_of_false hb8
   rw [if_neg hp9] at hm
   refine WL.pass rfl rfl rfl rfl hb8 rfl rfl ?_
   refine WL.op rfl (.pickF (.tmp rfl) hb8 .bool) ?_
   refine WL.gv rfl rfl ?_
   refine WL.ns ?_
   cases hm
   exact W.ret1 () rfl (.tmp rfl) trivial
theorem r04_Pieces_spec (n : Nat) (s0_ : Str) (r : (List Str)) (hm : M.r04_Pieces n s0_ = some r) : FSpec Tryd.prog 22 [(tS.is s0_)] ((tL tS).is r) := by
 unfold M.r04_Pieces at hm
 refine FSpec.of Tryd.func22 rfl rfl rfl (fun g0 => ?_)
 refine W.sr ?_
 refine WL.op rfl (.assign (.nil (t := tS))) ?_
 refine WL.nr ?_
 refine WL.opR rfl (OpR.buildSlice (n := 0) (ys := []) (z := ([] : Str)) (xs := ([] : List Str)) 6 Tryd.underlying28 el9 ze9 trivial (by simp) (by decide) rfl) (fun k => ?_)
 refine WL.gv rfl rfl ?_
 refine WL.ns ?_
 refine W.seq ?_
 refine W.sr ?_
 refine WL.mv rfl rfl ?_
 refine WL.op rfl (.eqS (.tmp rfl) (.str rfl (by decide))) ?_
 refine WL.ns ?_
 refine W.cond (.tmp rfl) (fun hc1 => ?_) (fun hc1 => ?_)
 ·have hp2 := hc1
  rw [if_pos hp2] at hm
  refine W.sr ?_
  refine WL.mv rfl rfl ?_
  refine WL.gv rfl rfl ?_
  refine WL.ns ?_
  cases hm
  exact W.ret1 () rfl (Opd.own (.tmp rfl)) trivial
 ·have hp2 := ne_of_false hc1
  rw [if_neg hp2] at hm
  refine W.skip ?_
  refine WN.seq ?_
  refine W.sr ?_
  refine WL.op rfl (.assign .i64) ?_
  refine WL.ns ?_
  refine W.seq ?_
  refine W.sr ?_
  refine WL.op rfl (.assign .i64) ?_
  refine WL.ns ?_
  refine W.block ?_
  obtain ⟨s3, hs4, hk5⟩ := bind_some hm
  clear hm
  refine W.loop (fun m (s : ((List Str) × Int × Int) × Tok) => M.r04_Pieces_loop1 s0_ m s.1.1 s.1.2.1 s.1.2.2 = some s3) (fun s => [(3, (tO tS s.2 s.1.1)), (4, ((tI .i64).is s.1.2.1)), (5, ((tI .i64).is s.1.2.2)), (0, (tS.is s0_))]) (fun s => [(6, Dec.Own tS 9 s.2 s.1.1.length)]) _ ((([] : List Str), (0 : Int), (0 : Int)), k) hs4 ⟨Ent.q rfl, Ent.q rfl, Ent.q rfl, Ent.q rfl, trivial⟩ ⟨rfl, rfl, trivial⟩ ?_
  rintro n6 ⟨⟨out, from0_, i⟩, k1⟩ hm
  try dsimp only at hm
  change W _ _ _ _ _ _ _ [(3, (tO tS k1 out)), (4, ((tI .i64).is from0_)), (5, ((tI .i64).is i)), (0, (tS.is s0_))] [(6, Dec.Own tS 9 k1 out.length)]
  cases n6 with
  | zero => rw [M.r04_Pieces_loop1.eq_1] at hm; cases hm
  | succ n6 =>
   rw [M.r04_Pieces_loop1.eq_2] at hm
   refine W.seq ?_
   refine W.sr ?_
   refine WL.mv rfl rfl ?_
   refine WL.mv rfl rfl ?_
   refine WL.op rfl (.lenS Tryd.underlying9 (.tmp rfl)) ?_
   refine WL.op rfl (.leI (.tmp rfl) (.tmp rfl)) ?_
   refine WL.ns ?_
   refine W.cond (.tmp rfl) (fun hc7 => ?_) (fun hc7 => ?_)
   ·have hp8 := of_decide_eq_true hc7
    rw [if_pos hp8] at hm
    refine W.skip ?_
    refine WN.seq ?_
    refine W.seq ?_
    refine W.block ?_
    obtain ⟨s9, hs10, hk11⟩ := bind_some hm
    clear hm
    refine W.join (fun s : Bool => s = s9) (fun s => [(25, (tB.is s)), (0, (tS.is s0_)), (3, (tO tS k1 out)), (4, ((tI .i64).is from0_)), (5, ((tI .i64).is i))]) (fun s => [(6, Dec.Own tS 9 k1 out.length)]) ?_ ?_
    ·rintro v hj22
     try dsimp only at hj22
     subst hj22
     have hm := hk11
     clear hk11
     try dsimp only at hm
     change W _ _ _ _ _ _ _ [(25, (tB.is v)), (0, (tS.is s0_)), (3, (tO tS k1 out)), (4, ((tI .i64).is from0_)), (5, ((tI .i64).is i))] [(6, Dec.Own tS 9 k1 out.length)]
     refine W.cond (.tmp rfl) (fun hc15 => ?_) (fun hc15 => ?_)
     ·have hp16 := hc15
      rw [if_pos hp16] at hm
      refine W.sr ?_
      refine WL.mv rfl rfl ?_
      refine WL.mv rfl rfl ?_
      refine WL.mv rfl rfl ?_
      refine WL.mv rfl rfl ?_
      obtain ⟨v1, hv17, hm⟩ := bind_some hm
      refine WL.op rfl (.sslc hv17 Tryd.underlying9 (.tmp rfl) (.tmp rfl) (.tmp rfl)) ?_
      refine WL.op rfl (.buildSlice (n := 1) (ys := [(0, v1)]) (z := ([] : Str)) (xs := [v1]) Tryd.underlying28 el9 ze9 ⟨rfl, (.tmp rfl), trivial⟩ (by simp) (by decide) rfl) ?_
      obtain ⟨out1, hv18, hm⟩ := bind_some hm
      refine WL.opR rfl (OpR.appC (key := 6) hv18 Tryd.underlying28 el9 (.tmp rfl) (.tmp rfl) rfl) (fun k2 => ?_)
      refine WL.gv rfl rfl ?_
      refine WL.nr1 ?_
      refine WL.mv rfl rfl ?_
      obtain ⟨v2, hv19, hm⟩ := bind_some hm
      refine WL.op rfl (.addC hv19 (.tmp rfl) .i64) ?_
      refine WL.gv rfl rfl ?_
      refine WL.nil ?_
      refine WN.block ?_
      refine WN.seq ?_
      refine W.region ?_
      refine WL.mv rfl rfl ?_
      obtain ⟨v3, hv20, hm⟩ := bind_some hm
      refine WL.op rfl (.addC hv20 (.tmp rfl) .i64) ?_
      refine WL.gv rfl rfl ?_
      refine WL.nil ?_
      exact WN.again n6 ((out1, v2, v3), k2) (Nat.lt_succ_self n6) hm ⟨Ent.q rfl, Ent.q rfl, Ent.q rfl, Ent.q rfl, trivial⟩ ⟨rfl, rfl, trivial⟩
     ·have hp16 := ne_of_false hc15
      rw [if_neg hp16] at hm
      refine W.skip ?_
      refine WN.block ?_
      refine WN.seq ?_
      refine W.region ?_
      refine WL.mv rfl rfl ?_
      obtain ⟨v4, hv21, hm⟩ := bind_some hm
      refine WL.op rfl (.addC hv21 (.tmp rfl) .i64) ?_
      refine WL.gv rfl rfl ?_
      refine WL.nil ?_
      exact WN.again n6 ((out, from0_, v4), k1) (Nat.lt_succ_self n6) hm ⟨Ent.q rfl, Ent.q rfl, Ent.q rfl, Ent.q rfl, trivial⟩ ⟨rfl, rfl, trivial⟩
    ·have hm := hs10
     clear hs10
     refine W.region ?_
     refine WL.mv rfl rfl ?_
     refine WL.mv rfl rfl ?_
     refine WL.op rfl (.lenS Tryd.underlying9 (.tmp rfl)) ?_
     refine WL.op rfl (.eqI (.tmp rfl) (.tmp rfl)) ?_
     refine WL.mv rfl rfl ?_
     rcases bcases (decide (i = (s0_.length : Int))) with hb12 | hb12
     ·have hp13 := of_decide_eq_true hb12
      rw [if_pos hp13] at hm
      iterate 4 refine WL.pass rfl rfl rfl rfl hb12 rfl rfl ?_
      refine WL.op rfl (.pickT (.tmp rfl) hb12 .bool) ?_
      refine WL.nil ?_
      exact WN.meet true (Option.some.inj hm) ⟨Ent.q rfl, Ent.q rfl, Ent.q rfl, Ent.q rfl, Ent.q rfl, trivial⟩ ⟨rfl, rfl, trivial⟩
     ·have hp13 := of_decide_eq_false hb12
      rw [if_neg hp13] at hm
      refine WL.run rfl rfl rfl rfl hb12 rfl rfl (Op1.move (.tmp rfl)) ?_
      refine WL.run rfl rfl rfl rfl hb12 rfl rfl (Op1.move (.tmp rfl)) ?_
      obtain ⟨b, hv14, hm⟩ := bind_some hm
      refine WL.run rfl rfl rfl rfl hb12 rfl rfl (Op1.sidx hv14 Tryd.underlying9 (.tmp rfl) (.tmp rfl)) ?_
      refine WL.run rfl rfl rfl rfl hb12 rfl rfl (Op1.eqI (.tmp rfl) (.int (inR8.2 (by omega)))) ?_
      refine WL.op rfl (.pickF (.tmp rfl) hb12 (.tmp rfl)) ?_
      refine WL.nil ?_
      exact WN.meet (decide ((b.toNat : Int) = (32 : Int))) (Option.some.inj hm) ⟨Ent.q rfl, Ent.q rfl, Ent.q rfl, Ent.q rfl, Ent.q rfl, trivial⟩ ⟨rfl, rfl, trivial⟩
   ·have hp8 := of_decide_eq_false hc7
    rw [if_neg hp8] at hm
    refine W.exit rfl ?_
    have hr23 := Option.some.inj hm
    clear hm
    subst hr23
    have hm := hk5
    try dsimp only at hm
    refine WN.seq ?_
    refine W.sr ?_
    refine WL.mv rfl rfl ?_
    refine WL.gv rfl rfl ?_
    refine WL.ns ?_
    cases hm
    exact W.ret1 () rfl (Opd.own (.tmp rfl)) trivial
theorem law20_CitationParses_spec (n : Nat) (s0_ : Str) (r : Bool) (hm : M.law20_CitationParses n s0_ = some r) : FSpecR Tryd.prog 5 [(tS.is s0_)] [(700000, GlE 0)] (fun _ : Unit => (tB.is r)) (fun _ => []) := by
 unfold M.law20_CitationParses at hm
 refine FSpecR.of Tryd.func5 rfl rfl rfl (fun g0 => ?_)
 refine W.sr ?_
 refine WL.op rfl (.assign .bool) ?_
 refine WL.ns ?_
 refine W.seq ?_
 refine W.sr ?_
 refine WL.mv rfl rfl ?_
 refine WL.op rfl (.lenS Tryd.underlying9 (.tmp rfl)) ?_
 refine WL.op rfl (.gtI (.tmp rfl) .i64) ?_
 refine WL.ns ?_
 refine W.cond (.tmp rfl) (fun hc1 => ?_) (fun hc1 => ?_)
 ·have hp2 := of_decide_eq_true hc1
  rw [if_pos hp2] at hm
  refine W.sr ?_
  obtain ⟨awake, hv3, hm⟩ := bind_some hm
  refine WL.op rfl (.callG (rin := [(700000, GlE 0)]) Tryd.call11 (law20_awake_spec _ _ hv3) ⟨rfl, trivial⟩ ⟨rfl, rfl, trivial⟩ trivial) ?_
  refine WL.gv rfl rfl ?_
  refine WL.ns ?_
  cases hm
  exact W.ret1 () rfl (.tmp rfl) trivial
 ·have hp2 := of_decide_eq_false hc1
  rw [if_neg hp2] at hm
  refine W.skip ?_
  refine WN.seq ?_
  refine W.sr ?_
  refine WL.mv rfl rfl ?_
  obtain ⟨parse, hv4, hm⟩ := bind_some hm
  refine WL.op rfl (.callG (rin := [(700000, GlE 0)]) Tryd.call21 (citation_Parse_spec _ _ _ hv4) ⟨rfl, trivial⟩ ⟨rfl, rfl, trivial⟩ ⟨(.tmp rfl), trivial⟩) ?_
  refine WL.mv rfl rfl ?_
  refine WL.op rfl (.extract0 (.tmp rfl)) ?_
  refine WL.op rfl (.extract1 (.tmp rfl)) ?_
  refine WL.opR rfl (OpR.alloc 3 ze24) (fun b => ?_)
  refine WL.opU (OpR.storeB (b := b) 3 Tryd.sizeOf24 (Cellable.is tapi_Cite parse.1) rfl (.tmp rfl) (.tmp rfl)) (fun _ => ?_)
  refine WL.sealed (t := tapi_Cite) (u := parse.1) 3 3 rfl rfl ?_
  refine WL.gv rfl rfl ?_
  refine WL.nr ?_
  refine WL.mv rfl rfl ?_
  obtain ⟨pieces, hv5, hm⟩ := bind_some hm
  refine WL.op rfl (.call Tryd.call22 (r04_Pieces_spec _ _ _ hv5) ⟨(.tmp rfl), trivial⟩) ?_
  refine WL.gv rfl rfl ?_
  refine WL.nr ?_
  refine WL.mv rfl rfl ?_
  obtain ⟨read, hv6, hm⟩ := bind_some hm
  refine WL.op rfl (.call Tryd.call23 (r20_Read_spec _ _ _ hv6) ⟨(.tmp rfl), trivial⟩) ?_
  refine WL.mv rfl rfl ?_
  refine WL.op rfl (.extract0 (.tmp rfl)) ?_
  refine WL.op rfl (.extract1 (.tmp rfl)) ?_
  refine WL.opR rfl (OpR.alloc 6 ze24) (fun b1 => ?_)
  refine WL.opU (OpR.storeB (b := b1) 6 Tryd.sizeOf24 (Cellable.is tapi_Cite read.1) rfl (.tmp rfl) (.tmp rfl)) (fun _ => ?_)
  refine WL.gv rfl rfl ?_
  refine WL.nr ?_
  refine WL.mv rfl rfl ?_
  refine WL.op rfl (.lenL Tryd.underlying28 (.tmp rfl)) ?_
  refine WL.op rfl (.fieldAddrB (o := 0) Tryd.underlying24 rfl (fun w => ⟨0, Tryd.sizeOf3 w⟩) (.tmp rfl) rfl) ?_
  refine WL.opU (OpR.storeBF (b := b1) 6 rfl ty3 sapi_Cite_4 rfl (by decide) (.tmp rfl) (.tmp rfl)) (fun _ => ?_)
  refine WL.ns ?_
  refine W.seq ?_
  obtain ⟨s7, hs8, hk9⟩ := bind_some hm
  clear hm
  refine W.join (fun s : Bool => s = s7) (fun s => [(35, (tB.is s)), (0, (tS.is s0_)), (3, (tapi_Cite.ptr parse.1)), (4, ((tI .i64).is parse.2)), (6, (Bp b1 0))]) (fun s => [(6, (Bx 5 true 24 (tapi_Cite.is ({ read.1 with At := (pieces.length : Int) } : api_Cite)) b1)), (700000, GlE 0)]) ?_ ?_
  ·rintro v hj35
   try dsimp only at hj35
   subst hj35
   have hm := hk9
   clear hk9
   try dsimp only at hm
   change W _ _ _ _ _ _ _ [(35, (tB.is v)), (0, (tS.is s0_)), (3, (tapi_Cite.ptr parse.1)), (4, ((tI .i64).is parse.2)), (6, (Bp b1 0))] [(6, (Bx 5 true 24 (tapi_Cite.is ({ read.1 with At := (pieces.length : Int) } : api_Cite)) b1)), (700000, GlE 0)]
   refine W.cond (.tmp rfl) (fun hc14 => ?_) (fun hc14 => ?_)
   ·have hp15 := hc14
    rw [if_pos hp15] at hm
    obtain ⟨s16, hs17, hk18⟩ := bind_some hm
    clear hm
    refine W.join (fun s : Bool => s = s16) (fun s => [(2, (tB.is s))]) (fun s => [(6, (Bx 5 true 24 (tapi_Cite.is ({ read.1 with At := (pieces.length : Int) } : api_Cite)) b1)), (700000, GlE 0)]) ?_ ?_
    ·rintro v1 hj25
     try dsimp only at hj25
     subst hj25
     have hm := hk18
     clear hk18
     try dsimp only at hm
     change W _ _ _ _ _ _ _ [(2, (tB.is v1))] [(6, (Bx 5 true 24 (tapi_Cite.is ({ read.1 with At := (pieces.length : Int) } : api_Cite)) b1)), (700000, GlE 0)]
     cases hm
     exact W.ret1 () rfl (.tmp rfl) trivial
    ·have hm := hs17
     clear hs17
     refine W.region ?_
     refine WL.mv rfl rfl ?_
     refine WL.op rfl (.eqI (.tmp rfl) .i64) ?_
     refine WL.mv rfl rfl ?_
     rcases bcases (decide (parse.2 = (2 : Int))) with hb19 | hb19
     ·have hp20 := of_decide_eq_true hb19
      rw [if_pos hp20] at hm
      refine WL.run rfl rfl rfl rfl hb19 rfl rfl (Op1.load ty24 (.tmp rfl)) ?_
      refine WL.run rfl rfl rfl rfl hb19 rfl rfl (Op1.build (s := tapi_Cite) (x := (⟨(0 : Int), ([] : List api_Step), ([] : Str), (0 : Int), (0 : Int)⟩ : api_Cite)) zapi_Cite_f rfl Tryd.underlying24 (zapi_Cite_sz _ Tryd.underlying24) ze24 rfl) ?_
      obtain ⟨same, hv21, hm⟩ := bind_some hm
      refine WL.run rfl rfl rfl rfl hb19 rfl rfl (Op1.call Tryd.call24 (r20_Same_spec _ _ _ _ hv21) ⟨(.tmp rfl), (.tmp rfl), trivial⟩) ?_
      refine WL.op rfl (.pickT (.tmp rfl) hb19 (.tmp rfl)) ?_
      refine WL.mv rfl rfl ?_
      rcases bcases (same) with hb22 | hb22
      ·have hp23 := hb22
       rw [if_pos hp23] at hm
       obtain ⟨awake1, hv24, hm⟩ := bind_some hm
       refine WL.run rfl rfl rfl rfl hb22 rfl rfl (Op1.callG (rin := [(700000, GlE 0)]) Tryd.call11 (law20_awake_spec _ _ hv24) ⟨rfl, trivial⟩ ⟨rfl, rfl, trivial⟩ trivial) ?_
       refine WL.op rfl (.pickT (.tmp rfl) hb22 (.tmp rfl)) ?_
       refine WL.gv rfl rfl ?_
       refine WL.nil ?_
       exact WN.meet awake1 (Option.some.inj hm) ⟨Ent.q rfl, trivial⟩ ⟨rfl, rfl, ⟨rfl, rfl, trivial⟩⟩
      ·have hp23 := ne_of_false hb22
       rw [if_neg hp23] at hm
       refine WL.pass rfl rfl rfl rfl hb22 rfl rfl ?_
       refine WL.op rfl (.pickF (.tmp rfl) hb22 .bool) ?_
       refine WL.gv rfl rfl ?_
       refine WL.nil ?_
       exact WN.meet false (Option.some.inj hm) ⟨Ent.q rfl, trivial⟩ ⟨rfl, rfl, ⟨rfl, rfl, trivial⟩⟩
     ·have hp20 := of_decide_eq_false hb19
      rw [if_neg hp20] at hm
      iterate 3 refine WL.pass rfl rfl rfl rfl hb19 rfl rfl ?_
      refine WL.op rfl (.pickF (.tmp rfl) hb19 .bool) ?_
      refine WL.mv rfl rfl ?_
      refine WL.pass rfl rfl rfl rfl rfl rfl rfl ?_
      refine WL.op rfl (.pickF (.tmp rfl) rfl .bool) ?_
      refine WL.gv rfl rfl ?_
      refine WL.nil ?_
      exact WN.meet false (Option.some.inj hm) ⟨Ent.q rfl, trivial⟩ ⟨rfl, rfl, ⟨rfl, rfl, trivial⟩⟩
   ·have hp15 := ne_of_false hc14
    rw [if_neg hp15] at hm
    refine W.skip ?_
    refine WN.seq ?_
    refine W.sr ?_
    refine WL.mv rfl rfl ?_
    refine WL.op rfl (.eqI (.tmp rfl) .i64) ?_
    refine WL.mv rfl rfl ?_
    rcases bcases (decide (parse.2 = (0 : Int))) with hb26 | hb26
    ·have hp27 := of_decide_eq_true hb26
     rw [if_pos hp27] at hm
     refine WL.run rfl rfl rfl rfl hb26 rfl rfl (Op1.load ty24 (.tmp rfl)) ?_
     refine WL.run rfl rfl rfl rfl hb26 rfl rfl (Op1.loadB 6 Tryd.isAgg24 Tryd.sizeOf24 rfl (.tmp rfl)) ?_
     obtain ⟨same1, hv28, hm⟩ := bind_some hm
     refine WL.run rfl rfl rfl rfl hb26 rfl rfl (Op1.call Tryd.call24 (r20_Same_spec _ _ _ _ hv28) ⟨(.tmp rfl), (.tmp rfl), trivial⟩) ?_
     refine WL.op rfl (.pickT (.tmp rfl) hb26 (.tmp rfl)) ?_
     refine WL.mv rfl rfl ?_
     rcases bcases (same1) with hb29 | hb29
     ·have hp30 := hb29
      rw [if_pos hp30] at hm
      refine WL.run rfl rfl rfl rfl hb29 rfl rfl (Op1.load ty24 (.tmp rfl)) ?_
      obtain ⟨format, hv31, hm⟩ := bind_some hm
      refine WL.run rfl rfl rfl rfl hb29 rfl rfl (Op1.call Tryd.call16 (citation_Format_spec _ _ _ hv31) ⟨(.tmp rfl), trivial⟩) ?_
      refine WL.run rfl rfl rfl rfl hb29 rfl rfl (Op1.move (.tmp rfl)) ?_
      refine WL.run rfl rfl rfl rfl hb29 rfl rfl (Op1.eqS (.tmp rfl) (.tmp rfl)) ?_
      refine WL.op rfl (.pickT (.tmp rfl) hb29 (.tmp rfl)) ?_
      refine WL.mv rfl rfl ?_
      rcases bcases (format == s0_) with hb32 | hb32
      ·have hp33 := hb32
       rw [if_pos hp33] at hm
       obtain ⟨awake2, hv34, hm⟩ := bind_some hm
       refine WL.run rfl rfl rfl rfl hb32 rfl rfl (Op1.callG (rin := [(700000, GlE 0)]) Tryd.call11 (law20_awake_spec _ _ hv34) ⟨rfl, trivial⟩ ⟨rfl, rfl, trivial⟩ trivial) ?_
       refine WL.op rfl (.pickT (.tmp rfl) hb32 (.tmp rfl)) ?_
       refine WL.gv rfl rfl ?_
       refine WL.ns ?_
       cases hm
       exact W.ret1 () rfl (.tmp rfl) trivial
      ·have hp33 := ne_of_false hb32
       rw [if_neg hp33] at hm
       refine WL.pass rfl rfl rfl rfl hb32 rfl rfl ?_
       refine WL.op rfl (.pickF (.tmp rfl) hb32 .bool) ?_
       refine WL.gv rfl rfl ?_
       refine WL.ns ?_
       cases hm
       exact W.ret1 () rfl (.tmp rfl) trivial
     ·have hp30 := ne_of_false hb29
      rw [if_neg hp30] at hm
      iterate 4 refine WL.pass rfl rfl rfl rfl hb29 rfl rfl ?_
      refine WL.op rfl (.pickF (.tmp rfl) hb29 .bool) ?_
      refine WL.mv rfl rfl ?_
      refine WL.pass rfl rfl rfl rfl rfl rfl rfl ?_
      refine WL.op rfl (.pickF (.tmp rfl) rfl .bool) ?_
      refine WL.gv rfl rfl ?_
      refine WL.ns ?_
      cases hm
      exact W.ret1 () rfl (.tmp rfl) trivial
    ·have hp27 := of_decide_eq_false hb26
     rw [if_neg hp27] at hm
     iterate 3 refine WL.pass rfl rfl rfl rfl hb26 rfl rfl ?_
     refine WL.op rfl (.pickF (.tmp rfl) hb26 .bool) ?_
     refine WL.mv rfl rfl ?_
     iterate 4 refine WL.pass rfl rfl rfl rfl rfl rfl rfl ?_
     refine WL.op rfl (.pickF (.tmp rfl) rfl .bool) ?_
     refine WL.mv rfl rfl ?_
     refine WL.pass rfl rfl rfl rfl rfl rfl rfl ?_
     refine WL.op rfl (.pickF (.tmp rfl) rfl .bool) ?_
     refine WL.gv rfl rfl ?_
     refine WL.ns ?_
     cases hm
     exact W.ret1 () rfl (.tmp rfl) trivial
  ·have hm := hs8
   clear hs8
   refine W.region ?_
   refine WL.mv rfl rfl ?_
   refine WL.op rfl (.notB (.tmp rfl)) ?_
   refine WL.mv rfl rfl ?_
   rcases bcases (!read.2) with hb10 | hb10
   ·have hp11 := not_pos hb10
    rw [if_pos hp11] at hm
    iterate 5 refine WL.pass rfl rfl rfl rfl hb10 rfl rfl ?_
    refine WL.op rfl (.pickT (.tmp rfl) hb10 .bool) ?_
    refine WL.nil ?_
    exact WN.meet true (Option.some.inj hm) ⟨Ent.q rfl, Ent.q rfl, Ent.q rfl, Ent.q rfl, Ent.q rfl, trivial⟩ ⟨rfl, rfl, ⟨rfl, rfl, trivial⟩⟩
   ·have hp11 := not_neg hb10
    rw [if_neg hp11] at hm
    refine WL.run rfl rfl rfl rfl hb10 rfl rfl (Op1.loadB 6 Tryd.isAgg24 Tryd.sizeOf24 rfl (.tmp rfl)) ?_
    obtain ⟨words, hv12, hm⟩ := bind_some hm
    refine WL.run rfl rfl rfl rfl hb10 rfl rfl (Op1.call Tryd.call14 (r20_Words_spec _ _ _ hv12) ⟨(.tmp rfl), trivial⟩) ?_
    obtain ⟨text, hv13, hm⟩ := bind_some hm
    refine WL.run rfl rfl rfl rfl hb10 rfl rfl (Op1.call Tryd.call13 (r04_Text_spec _ _ _ hv13) ⟨(.tmp rfl), trivial⟩) ?_
    refine WL.run rfl rfl rfl rfl hb10 rfl rfl (Op1.move (.tmp rfl)) ?_
    refine WL.run rfl rfl rfl rfl hb10 rfl rfl (Op1.neS (.tmp rfl) (.tmp rfl)) ?_
    refine WL.op rfl (.pickF (.tmp rfl) hb10 (.tmp rfl)) ?_
    refine WL.nil ?_
    exact WN.meet (text != s0_) (Option.some.inj hm) ⟨Ent.q rfl, Ent.q rfl, Ent.q rfl, Ent.q rfl, Ent.q rfl, trivial⟩ ⟨rfl, rfl, ⟨rfl, rfl, trivial⟩⟩
theorem slices_Equal_api_Step_api_Step_spec (n : Nat) (s1_ : List api_Step) (s2_ : List api_Step) (r : Bool) (hm : M.slices_Equal_api_Step_api_Step n s1_ s2_ = some r) : FSpec Tryd.prog 43 [((tL tapi_Step).is s1_), ((tL tapi_Step).is s2_)] (tB.is r) := by
 unfold M.slices_Equal_api_Step_api_Step at hm
 refine FSpec.of Tryd.func43 rfl rfl rfl (fun g0 => ?_)
 refine W.sr ?_
 refine WL.op rfl (.assign .bool) ?_
 refine WL.ns ?_
 refine W.seq ?_
 refine W.sr ?_
 refine WL.mv rfl rfl ?_
 refine WL.op rfl (.lenL Tryd.underlying22 (.tmp rfl)) ?_
 refine WL.mv rfl rfl ?_
 refine WL.op rfl (.lenL Tryd.underlying22 (.tmp rfl)) ?_
 refine WL.op rfl (.neI (.tmp rfl) (.tmp rfl)) ?_
 refine WL.ns ?_
 refine W.cond (.tmp rfl) (fun hc1 => ?_) (fun hc1 => ?_)
 ·have hp2 := of_decide_eq_true hc1
  rw [if_pos hp2] at hm
  refine W.sr ?_
  refine WL.op rfl (.assign .bool) ?_
  refine WL.ns ?_
  cases hm
  exact W.ret1 () rfl (.tmp rfl) trivial
 ·have hp2 := of_decide_eq_false hc1
  rw [if_neg hp2] at hm
  refine W.skip ?_
  refine WN.seq ?_
  refine W.seq ?_
  refine W.sr ?_
  refine WL.mv rfl rfl ?_
  refine WL.op rfl (.lenL Tryd.underlying22 (.tmp rfl)) ?_
  refine WL.op rfl (.move .i64) ?_
  refine WL.ns ?_
  refine W.block ?_
  obtain ⟨s3, hs4, hk5⟩ := bind_some hm
  clear hm
  refine W.loop (fun m (s : Int) => M.slices_Equal_api_Step_api_Step_loop1 s1_ s2_ m s = some s3) (fun s => [(13, ((tI .i64).is s)), (0, ((tL tapi_Step).is s1_)), (1, ((tL tapi_Step).is s2_)), (12, ((tI .i64).is (s1_.length : Int)))]) (fun s => []) _ (0 : Int) hs4 ⟨Ent.q rfl, Ent.q rfl, Ent.q rfl, Ent.q rfl, trivial⟩ trivial ?_
  rintro n6 v hm
  try dsimp only at hm
  change W _ _ _ _ _ _ _ [(13, ((tI .i64).is v)), (0, ((tL tapi_Step).is s1_)), (1, ((tL tapi_Step).is s2_)), (12, ((tI .i64).is (s1_.length : Int)))] []
  cases n6 with
  | zero => rw [M.slices_Equal_api_Step_api_Step_loop1.eq_1] at hm; cases hm
  | succ n6 =>
   rw [M.slices_Equal_api_Step_api_Step_loop1.eq_2] at hm
   refine W.sr ?_
   refine WL.op rfl (.ltI (.tmp rfl) (.tmp rfl)) ?_
   refine WL.ns ?_
   refine W.seq ?_
   refine W.cond (.tmp rfl) (fun hc7 => ?_) (fun hc7 => ?_)
   ·have hp8 := of_decide_eq_true hc7
    rw [if_pos hp8] at hm
    refine W.skip ?_
    refine WN.seq ?_
    refine W.seq ?_
    refine W.block ?_
    refine W.sr ?_
    refine WL.mv rfl rfl ?_
    refine WL.gv rfl rfl ?_
    refine WL.ns ?_
    refine W.seq ?_
    obtain ⟨v1, hv9, hm⟩ := bind_some hm
    obtain ⟨v2, hv10, hm⟩ := bind_some hm
    refine W.draw [.c ((tL tapi_Step).is s1_), .c ((tI .i64).is v), .c (tapi_Step.ptr v1), .c (tapi_Step.is v1), .c ((tL tapi_Step).is s2_), .c ((tI .i64).is v), .c (tapi_Step.ptr v2), .c (tapi_Step.is v2), .c (tB.is (decide (v1 ≠ v2)))] [([], [0]), ([], [5]), ([0, 1], []), ([2], []), ([], [1]), ([], [5]), ([4, 5], []), ([6], []), ([3, 7], [])] Tryd.mixed rfl rfl rfl rfl ⟨.inr (Op1.move (.tmp rfl)), .inr (Op1.move (.tmp rfl)), .inr (Op1.idx hv9 Tryd.underlying22 Tryd.sizeOf50 (.tmp rfl) (.tmp rfl)), .inr (Op1.load ty50 (.tmp rfl)), .inr (Op1.move (.tmp rfl)), .inr (Op1.move (.tmp rfl)), .inr (Op1.idx hv10 Tryd.underlying22 Tryd.sizeOf50 (.tmp rfl) (.tmp rfl)), .inr (Op1.load ty50 (.tmp rfl)), .inr (Op1.neSt (D := 2) rfl (by decide) eg50 eq50 (.tmp rfl) (.tmp rfl)), trivial⟩ ?_
    refine WN.seq ?_
    refine W.cond (.tmp rfl) (fun hc11 => ?_) (fun hc11 => ?_)
    ·have hp12 := of_decide_eq_true hc11
     rw [if_pos hp12] at hm
     refine W.sr ?_
     refine WL.op rfl (.assign .bool) ?_
     refine WL.ns ?_
     have hr13 := Option.some.inj hm
     clear hm
     subst hr13
     have hm := hk5
     try dsimp only at hm
     cases hm
     exact W.ret1 () rfl (.tmp rfl) trivial
    ·have hp12 := of_decide_eq_false hc11
     rw [if_neg hp12] at hm
     refine W.skip ?_
     refine WN.block ?_
     refine WN.seq ?_
     refine W.region ?_
     refine WL.lenL (s := 0) (.tmp rfl) fun hl14 => ?_
     refine WL.op rfl (.addI1 (.tmp rfl) .i64 hp8 hl14) ?_
     refine WL.mv rfl rfl ?_
     refine WL.nil ?_
     exact WN.again n6 (v + 1) (Nat.lt_succ_self n6) hm ⟨Ent.q rfl, Ent.q rfl, Ent.q rfl, Ent.q rfl, trivial⟩ trivial
   ·have hp8 := of_decide_eq_false hc7
    rw [if_neg hp8] at hm
    refine W.exit rfl ?_
    have hr15 := Option.some.inj hm
    clear hm
    subst hr15
    have hm := hk5
    try dsimp only at hm
    refine WN.seq ?_
    refine W.sr ?_
    refine WL.op rfl (.assign .bool) ?_
    refine WL.ns ?_
    cases hm
    exact W.ret1 () rfl (.tmp rfl) trivial
theorem slices_Equal_string_string_spec (n : Nat) (s1_ : List Str) (s2_ : List Str) (r : Bool) (hm : M.slices_Equal_string_string n s1_ s2_ = some r) : FSpec Tryd.prog 63 [((tL tS).is s1_), ((tL tS).is s2_)] (tB.is r) := by
 unfold M.slices_Equal_string_string at hm
 refine FSpec.of Tryd.func63 rfl rfl rfl (fun g0 => ?_)
 refine W.sr ?_
 refine WL.op rfl (.assign .bool) ?_
 refine WL.ns ?_
 refine W.seq ?_
 refine W.sr ?_
 refine WL.mv rfl rfl ?_
 refine WL.op rfl (.lenL Tryd.underlying28 (.tmp rfl)) ?_
 refine WL.mv rfl rfl ?_
 refine WL.op rfl (.lenL Tryd.underlying28 (.tmp rfl)) ?_
 refine WL.op rfl (.neI (.tmp rfl) (.tmp rfl)) ?_
 refine WL.ns ?_
 refine W.cond (.tmp rfl) (fun hc1 => ?_) (fun hc1 => ?_)
 ·have hp2 := of_decide_eq_true hc1
  rw [if_pos hp2] at hm
  refine W.sr ?_
  refine WL.op rfl (.assign .bool) ?_
  refine WL.ns ?_
  cases hm
  exact W.ret1 () rfl (.tmp rfl) trivial
 ·have hp2 := of_decide_eq_false hc1
  rw [if_neg hp2] at hm
  refine W.skip ?_
  refine WN.seq ?_
  refine W.seq ?_
  refine W.sr ?_
  refine WL.mv rfl rfl ?_
  refine WL.op rfl (.lenL Tryd.underlying28 (.tmp rfl)) ?_
  refine WL.op rfl (.move .i64) ?_
  refine WL.ns ?_
  refine W.block ?_
  obtain ⟨s3, hs4, hk5⟩ := bind_some hm
  clear hm
  refine W.loop (fun m (s : Int) => M.slices_Equal_string_string_loop1 s1_ s2_ m s = some s3) (fun s => [(13, ((tI .i64).is s)), (0, ((tL tS).is s1_)), (1, ((tL tS).is s2_)), (12, ((tI .i64).is (s1_.length : Int)))]) (fun s => []) _ (0 : Int) hs4 ⟨Ent.q rfl, Ent.q rfl, Ent.q rfl, Ent.q rfl, trivial⟩ trivial ?_
  rintro n6 v hm
  try dsimp only at hm
  change W _ _ _ _ _ _ _ [(13, ((tI .i64).is v)), (0, ((tL tS).is s1_)), (1, ((tL tS).is s2_)), (12, ((tI .i64).is (s1_.length : Int)))] []
  cases n6 with
  | zero => rw [M.slices_Equal_string_string_loop1.eq_1] at hm; cases hm
  | succ n6 =>
   rw [M.slices_Equal_string_string_loop1.eq_2] at hm
   refine W.sr ?_
   refine WL.op rfl (.ltI (.tmp rfl) (.tmp rfl)) ?_
   refine WL.ns ?_
   refine W.seq ?_
   refine W.cond (.tmp rfl) (fun hc7 => ?_) (fun hc7 => ?_)
   ·have hp8 := of_decide_eq_true hc7
    rw [if_pos hp8] at hm
    refine W.skip ?_
    refine WN.seq ?_
    refine W.seq ?_
    refine W.block ?_
    refine W.sr ?_
    refine WL.mv rfl rfl ?_
    refine WL.gv rfl rfl ?_
    refine WL.ns ?_
    refine W.seq ?_
    obtain ⟨v1, hv9, hm⟩ := bind_some hm
    obtain ⟨v2, hv10, hm⟩ := bind_some hm
    refine W.draw [.c ((tL tS).is s1_), .c ((tI .i64).is v), .c (tS.ptr v1), .c (tS.is v1), .c ((tL tS).is s2_), .c ((tI .i64).is v), .c (tS.ptr v2), .c (tS.is v2), .c (tB.is (v1 != v2))] [([], [0]), ([], [5]), ([0, 1], []), ([2], []), ([], [1]), ([], [5]), ([4, 5], []), ([6], []), ([3, 7], [])] Tryd.mixed rfl rfl rfl rfl ⟨.inr (Op1.move (.tmp rfl)), .inr (Op1.move (.tmp rfl)), .inr (Op1.idx hv9 Tryd.underlying28 Tryd.sizeOf9 (.tmp rfl) (.tmp rfl)), .inr (Op1.load ty9 (.tmp rfl)), .inr (Op1.move (.tmp rfl)), .inr (Op1.move (.tmp rfl)), .inr (Op1.idx hv10 Tryd.underlying28 Tryd.sizeOf9 (.tmp rfl) (.tmp rfl)), .inr (Op1.load ty9 (.tmp rfl)), .inr (Op1.neS (.tmp rfl) (.tmp rfl)), trivial⟩ ?_
    refine WN.seq ?_
    refine W.cond (.tmp rfl) (fun hc11 => ?_) (fun hc11 => ?_)
    ·have hp12 := hc11
     rw [if_pos hp12] at hm
     refine W.sr ?_
     refine WL.op rfl (.assign .bool) ?_
     refine WL.ns ?_
     have hr13 := Option.some.inj hm
     clear hm
     subst hr13
     have hm := hk5
     try dsimp only at hm
     cases hm
     exact W.ret1 () rfl (.tmp rfl) trivial
    ·have hp12 := ne_of_false hc11
     rw [if_neg hp12] at hm
     refine W.skip ?_
     refine WN.block ?_
     refine WN.seq ?_
     refine W.region ?_
     refine WL.lenL (s := 0) (.tmp rfl) fun hl14 => ?_
     refine WL.op rfl (.addI1 (.tmp rfl) .i64 hp8 hl14) ?_
     refine WL.mv rfl rfl ?_
     refine WL.nil ?_
     exact WN.again n6 (v + 1) (Nat.lt_succ_self n6) hm ⟨Ent.q rfl, Ent.q rfl, Ent.q rfl, Ent.q rfl, trivial⟩ trivial
   ·have hp8 := of_decide_eq_false hc7
    rw [if_neg hp8] at hm
    refine W.exit rfl ?_
    have hr15 := Option.some.inj hm
    clear hm
    subst hr15
    have hm := hk5
    try dsimp only at hm
    refine WN.seq ?_
    refine W.sr ?_
    refine WL.op rfl (.assign .bool) ?_
    refine WL.ns ?_
    cases hm
    exact W.ret1 () rfl (.tmp rfl) trivial
theorem wordseq_Equal_spec (n : Nat) (a : List Str) (b : List Str) (r : Bool) (hm : M.wordseq_Equal n a b = some r) : FSpec Tryd.prog 44 [((tL tS).is a), ((tL tS).is b)] (tB.is r) := by
 unfold M.wordseq_Equal at hm
 refine FSpec.of Tryd.func44 rfl rfl rfl (fun g0 => ?_)
 refine W.sr ?_
 refine WL.op rfl (.assign .bool) ?_
 refine WL.nr ?_
 refine WL.mv rfl rfl ?_
 refine WL.mv rfl rfl ?_
 obtain ⟨string, hv1, hm⟩ := bind_some hm
 refine WL.op rfl (.call Tryd.call63 (slices_Equal_string_string_spec _ _ _ _ hv1) ⟨(.tmp rfl), (.tmp rfl), trivial⟩) ?_
 refine WL.gv rfl rfl ?_
 refine WL.ns ?_
 cases hm
 exact W.ret1 () rfl (.tmp rfl) trivial
theorem citation_Equal_spec (n : Nat) (a : api_Cite) (b : api_Cite) (r : Bool) (hm : M.citation_Equal n a b = some r) : FSpec Tryd.prog 28 [(tapi_Cite.is a), (tapi_Cite.is b)] (tB.is r) := by
 unfold M.citation_Equal at hm
 refine FSpec.of Tryd.func28 rfl rfl rfl (fun g0 => ?_)
 refine W.sr ?_
 refine WL.op rfl (.box (.tmp rfl)) ?_
 refine WL.op rfl (.box (.tmp rfl)) ?_
 refine WL.op rfl (.assign .bool) ?_
 refine WL.nr ?_
 refine WL.op rfl (.fieldAddr Tryd.underlying24 rfl (fun w => ⟨0, Tryd.sizeOf3 w⟩) fapi_Cite_0 (.tmp rfl)) ?_
 refine WL.op rfl (.load ty3 (.tmp rfl)) ?_
 refine WL.op rfl (.fieldAddr Tryd.underlying24 rfl (fun w => ⟨0, Tryd.sizeOf3 w⟩) fapi_Cite_0 (.tmp rfl)) ?_
 refine WL.op rfl (.load ty3 (.tmp rfl)) ?_
 refine WL.op rfl (.eqI (.tmp rfl) (.tmp rfl)) ?_
 refine WL.mv rfl rfl ?_
 rcases bcases (decide (a.Kind = b.Kind)) with hb1 | hb1
 ·have hp2 := of_decide_eq_true hb1
  rw [if_pos hp2] at hm
  refine WL.run rfl rfl rfl rfl hb1 rfl rfl (Op1.fieldAddr Tryd.underlying24 rfl (fun w => ⟨0, Tryd.sizeOf22 w⟩) fapi_Cite_1 (.tmp rfl)) ?_
  refine WL.run rfl rfl rfl rfl hb1 rfl rfl (Op1.load ty22 (.tmp rfl)) ?_
  refine WL.run rfl rfl rfl rfl hb1 rfl rfl (Op1.fieldAddr Tryd.underlying24 rfl (fun w => ⟨0, Tryd.sizeOf22 w⟩) fapi_Cite_1 (.tmp rfl)) ?_
  refine WL.run rfl rfl rfl rfl hb1 rfl rfl (Op1.load ty22 (.tmp rfl)) ?_
  obtain ⟨step, hv3, hm⟩ := bind_some hm
  refine WL.run rfl rfl rfl rfl hb1 rfl rfl (Op1.call Tryd.call43 (slices_Equal_api_Step_api_Step_spec _ _ _ _ hv3) ⟨(.tmp rfl), (.tmp rfl), trivial⟩) ?_
  refine WL.op rfl (.pickT (.tmp rfl) hb1 (.tmp rfl)) ?_
  refine WL.mv rfl rfl ?_
  rcases bcases (step) with hb4 | hb4
  ·have hp5 := hb4
   rw [if_pos hp5] at hm
   refine WL.run rfl rfl rfl rfl hb4 rfl rfl (Op1.fieldAddr Tryd.underlying24 rfl (fun w => ⟨0, Tryd.sizeOf9 w⟩) fapi_Cite_2 (.tmp rfl)) ?_
   refine WL.run rfl rfl rfl rfl hb4 rfl rfl (Op1.load ty9 (.tmp rfl)) ?_
   refine WL.run rfl rfl rfl rfl hb4 rfl rfl (Op1.buildSlice (n := 1) (ys := [(0, a.To)]) (z := ([] : Str)) (xs := [a.To]) Tryd.underlying28 el9 ze9 ⟨rfl, (.tmp rfl), trivial⟩ (by simp) (by decide) rfl) ?_
   refine WL.run rfl rfl rfl rfl hb4 rfl rfl (Op1.fieldAddr Tryd.underlying24 rfl (fun w => ⟨0, Tryd.sizeOf9 w⟩) fapi_Cite_2 (.tmp rfl)) ?_
   refine WL.run rfl rfl rfl rfl hb4 rfl rfl (Op1.load ty9 (.tmp rfl)) ?_
   refine WL.run rfl rfl rfl rfl hb4 rfl rfl (Op1.buildSlice (n := 1) (ys := [(0, b.To)]) (z := ([] : Str)) (xs := [b.To]) Tryd.underlying28 el9 ze9 ⟨rfl, (.tmp rfl), trivial⟩ (by simp) (by decide) rfl) ?_
   obtain ⟨equal, hv6, hm⟩ := bind_some hm
   refine WL.run rfl rfl rfl rfl hb4 rfl rfl (Op1.call Tryd.call44 (wordseq_Equal_spec _ _ _ _ hv6) ⟨(.tmp rfl), (.tmp rfl), trivial⟩) ?_
   refine WL.op rfl (.pickT (.tmp rfl) hb4 (.tmp rfl)) ?_
   refine WL.mv rfl rfl ?_
   rcases bcases (equal) with hb7 | hb7
   ·have hp8 := hb7
    rw [if_pos hp8] at hm
    refine WL.run rfl rfl rfl rfl hb7 rfl rfl (Op1.fieldAddr Tryd.underlying24 rfl (fun w => ⟨0, Tryd.sizeOf3 w⟩) fapi_Cite_3 (.tmp rfl)) ?_
    refine WL.run rfl rfl rfl rfl hb7 rfl rfl (Op1.load ty3 (.tmp rfl)) ?_
    refine WL.run rfl rfl rfl rfl hb7 rfl rfl (Op1.fieldAddr Tryd.underlying24 rfl (fun w => ⟨0, Tryd.sizeOf3 w⟩) fapi_Cite_3 (.tmp rfl)) ?_
    refine WL.run rfl rfl rfl rfl hb7 rfl rfl (Op1.load ty3 (.tmp rfl)) ?_
    refine WL.run rfl rfl rfl rfl hb7 rfl rfl (Op1.eqI (.tmp rfl) (.tmp rfl)) ?_
    refine WL.op rfl (.pickT (.tmp rfl) hb7 (.tmp rfl)) ?_
    refine WL.mv rfl rfl ?_
    rcases bcases (decide (a.From = b.From)) with hb9 | hb9
    ·have hp10 := of_decide_eq_true hb9
     rw [if_pos hp10] at hm
     refine WL.run rfl rfl rfl rfl hb9 rfl rfl (Op1.fieldAddr Tryd.underlying24 rfl (fun w => ⟨0, Tryd.sizeOf3 w⟩) fapi_Cite_4 (.tmp rfl)) ?_
     refine WL.run rfl rfl rfl rfl hb9 rfl rfl (Op1.load ty3 (.tmp rfl)) ?_
     refine WL.run rfl rfl rfl rfl hb9 rfl rfl (Op1.fieldAddr Tryd.underlying24 rfl (fun w => ⟨0, Tryd.sizeOf3 w⟩) fapi_Cite_4 (.tmp rfl)) ?_
     refine WL.run rfl rfl rfl rfl hb9 rfl rfl (Op1.load ty3 (.tmp rfl)) ?_
     refine WL.run rfl rfl rfl rfl hb9 rfl rfl (Op1.eqI (.tmp rfl) (.tmp rfl)) ?_
     refine WL.op rfl (.pickT (.tmp rfl) hb9 (.tmp rfl)) ?_
     refine WL.gv rfl rfl ?_
     refine WL.ns ?_
     cases hm
     exact W.ret1 () rfl (.tmp rfl) trivial
    ·have hp10 := of_decide_eq_false hb9
     rw [if_neg hp10] at hm
     iterate 5 refine WL.pass rfl rfl rfl rfl hb9 rfl rfl ?_
     refine WL.op rfl (.pickF (.tmp rfl) hb9 .bool) ?_
     refine WL.gv rfl rfl ?_
     refine WL.ns ?_
     cases hm
     exact W.ret1 () rfl (.tmp rfl) trivial
   ·have hp8 := ne_of_false hb7
    rw [if_neg hp8] at hm
    iterate 5 refine WL.pass rfl rfl rfl rfl hb7 rfl rfl ?_
    refine WL.op rfl (.pickF (.tmp rfl) hb7 .bool) ?_
    refine WL.mv rfl rfl ?_
    iterate 5 refine WL.pass rfl rfl rfl rfl rfl rfl rfl ?_
    refine WL.op rfl (.pickF (.tmp rfl) rfl .bool) ?_
    refine WL.gv rfl rfl ?_
    refine WL.ns ?_
    cases hm
    exact W.ret1 () rfl (.tmp rfl) trivial
  ·have hp5 := ne_of_false hb4
   rw [if_neg hp5] at hm
   iterate 7 refine WL.pass rfl rfl rfl rfl hb4 rfl rfl ?_
   refine WL.op rfl (.pickF (.tmp rfl) hb4 .bool) ?_
   refine WL.mv rfl rfl ?_
   iterate 5 refine WL.pass rfl rfl rfl rfl rfl rfl rfl ?_
   refine WL.op rfl (.pickF (.tmp rfl) rfl .bool) ?_
   refine WL.mv rfl rfl ?_
   iterate 5 refine WL.pass rfl rfl rfl rfl rfl rfl rfl ?_
   refine WL.op rfl (.pickF (.tmp rfl) rfl .bool) ?_
   refine WL.gv rfl rfl ?_
   refine WL.ns ?_
   cases hm
   exact W.ret1 () rfl (.tmp rfl) trivial
 ·have hp2 := of_decide_eq_false hb1
  rw [if_neg hp2] at hm
  iterate 5 refine WL.pass rfl rfl rfl rfl hb1 rfl rfl ?_
  refine WL.op rfl (.pickF (.tmp rfl) hb1 .bool) ?_
  refine WL.mv rfl rfl ?_
  iterate 7 refine WL.pass rfl rfl rfl rfl rfl rfl rfl ?_
  refine WL.op rfl (.pickF (.tmp rfl) rfl .bool) ?_
  refine WL.mv rfl rfl ?_
  iterate 5 refine WL.pass rfl rfl rfl rfl rfl rfl rfl ?_
  refine WL.op rfl (.pickF (.tmp rfl) rfl .bool) ?_
  refine WL.mv rfl rfl ?_
  iterate 5 refine WL.pass rfl rfl rfl rfl rfl rfl rfl ?_
  refine WL.op rfl (.pickF (.tmp rfl) rfl .bool) ?_
  refine WL.gv rfl rfl ?_
  refine WL.ns ?_
  cases hm
  exact W.ret1 () rfl (.tmp rfl) trivial
theorem law20_CitationInContext_spec (n : Nat) (c : api_Cite) (ahead : Int) (behind : Int) (sign : Int) (r : Bool) (hm : M.law20_CitationInContext n c ahead behind sign = some r) : FSpecR Tryd.prog 9 [(tapi_Cite.is c), ((tI .u8).is ahead), ((tI .u8).is behind), ((tI .u8).is sign)] [(700000, GlE 0)] (fun _ : Unit => (tB.is r)) (fun _ => []) := by
 unfold M.law20_CitationInContext at hm
 refine FSpecR.of Tryd.func9 rfl rfl rfl (fun g0 => ?_)
 refine W.sr ?_
 refine WL.opR rfl (OpR.boxB 4 (Cellable.is tapi_Cite c) (.tmp rfl)) (fun b => ?_)
 refine WL.op rfl (.assign .bool) ?_
 refine WL.ns ?_
 refine W.seq ?_
 obtain ⟨s1, hs2, hk3⟩ := bind_some hm
 clear hm
 refine W.join (fun s : Bool => s = s1) (fun s => [(18, (tB.is s)), (1, ((tI .u8).is ahead)), (2, ((tI .u8).is behind)), (3, ((tI .u8).is sign)), (4, (Bp b 0))]) (fun s => [(4, (Bx 5 true 24 (tapi_Cite.is c) b)), (700000, GlE 0)]) ?_ ?_
 ·rintro v hj46
  try dsimp only at hj46
  subst hj46
  have hm := hk3
  clear hk3
  try dsimp only at hm
  change W _ _ _ _ _ _ _ [(18, (tB.is v)), (1, ((tI .u8).is ahead)), (2, ((tI .u8).is behind)), (3, ((tI .u8).is sign)), (4, (Bp b 0))] [(4, (Bx 5 true 24 (tapi_Cite.is c) b)), (700000, GlE 0)]
  refine W.cond (.tmp rfl) (fun hc8 => ?_) (fun hc8 => ?_)
  ·have hp9 := hc8
   rw [if_pos hp9] at hm
   refine W.sr ?_
   obtain ⟨awake, hv10, hm⟩ := bind_some hm
   refine WL.op rfl (.callG (rin := [(700000, GlE 0)]) Tryd.call11 (law20_awake_spec _ _ hv10) ⟨rfl, trivial⟩ ⟨rfl, rfl, trivial⟩ trivial) ?_
   refine WL.gv rfl rfl ?_
   refine WL.ns ?_
   cases hm
   exact W.ret1 () rfl (.tmp rfl) trivial
  ·have hp9 := ne_of_false hc8
   rw [if_neg hp9] at hm
   refine W.skip ?_
   refine WN.seq ?_
   refine W.sr ?_
   refine WL.op rfl (.loadB 4 Tryd.isAgg24 Tryd.sizeOf24 rfl (.tmp rfl)) ?_
   obtain ⟨format, hv11, hm⟩ := bind_some hm
   refine WL.op rfl (.call Tryd.call16 (citation_Format_spec _ _ _ hv11) ⟨(.tmp rfl), trivial⟩) ?_
   obtain ⟨pieces, hv12, hm⟩ := bind_some hm
   refine WL.op rfl (.call Tryd.call22 (r04_Pieces_spec _ _ _ hv12) ⟨(.tmp rfl), trivial⟩) ?_
   refine WL.gv rfl rfl ?_
   refine WL.nr ?_
   refine WL.addNil (t := tS) (E := 9) 10 ?_
   refine WL.op rfl (.assign (Opd.nilO (t := tS))) ?_
   refine WL.freeU (t := tS) (E := 9) 10 10 rfl rfl ?_
   refine WL.ns ?_
   refine W.seq ?_
   refine W.sr ?_
   refine WL.mv rfl rfl ?_
   refine WL.op rfl (.remU (.tmp rfl) (.int (inR8.2 (by omega))) (by decide)) ?_
   refine WL.op rfl (.conv8 Tryd.underlying5 Tryd.underlying3 (.tmp rfl)) ?_
   refine WL.op rfl (.move .i64) ?_
   refine WL.ns ?_
   refine W.block ?_
   obtain ⟨s13, hs14, hk15⟩ := bind_some hm
   clear hm
   refine W.loop (fun m (s : ((List Str) × Int) × Tok) => M.law20_CitationInContext_loop1 ahead m s.1.1 s.1.2 = some s13) (fun s => [(10, (tU s.2 s.1.1.length)), (26, ((tI .i64).is s.1.2)), (2, ((tI .u8).is behind)), (3, ((tI .u8).is sign)), (4, (Bp b 0)), (9, ((tL tS).is pieces)), (25, ((tI .i64).is (ahead.tmod (9 : Int))))]) (fun s => [(10, OwnU tS 9 s.2 s.1.1), (4, (Bx 5 true 24 (tapi_Cite.is c) b)), (700000, GlE 0)]) _ ((([] : List Str), (0 : Int)), (none : Tok)) hs14 ⟨Ent.q rfl, Ent.q rfl, Ent.q rfl, Ent.q rfl, Ent.q rfl, Ent.q rfl, Ent.q rfl, trivial⟩ ⟨rfl, rfl, ⟨rfl, rfl, ⟨rfl, rfl, trivial⟩⟩⟩ ?_
   rintro n16 ⟨⟨l, v1⟩, k⟩ hm
   try dsimp only at hm
   change W _ _ _ _ _ _ _ [(10, (tU k l.length)), (26, ((tI .i64).is v1)), (2, ((tI .u8).is behind)), (3, ((tI .u8).is sign)), (4, (Bp b 0)), (9, ((tL tS).is pieces)), (25, ((tI .i64).is (ahead.tmod (9 : Int))))] [(10, OwnU tS 9 k l), (4, (Bx 5 true 24 (tapi_Cite.is c) b)), (700000, GlE 0)]
   cases n16 with
   | zero => rw [M.law20_CitationInContext_loop1.eq_1] at hm; cases hm
   | succ n16 =>
    rw [M.law20_CitationInContext_loop1.eq_2] at hm
    refine W.sr ?_
    refine WL.op rfl (.ltI (.tmp rfl) (.tmp rfl)) ?_
    refine WL.ns ?_
    refine W.seq ?_
    refine W.cond (.tmp rfl) (fun hc17 => ?_) (fun hc17 => ?_)
    ·have hp18 := of_decide_eq_true hc17
     rw [if_pos hp18] at hm
     refine W.skip ?_
     refine WN.seq ?_
     refine W.seq ?_
     refine W.block ?_
     refine W.region ?_
     refine WL.mv rfl rfl ?_
     refine WL.op rfl (.buildSlice (n := 1) (ys := [(0, ([111, 102] : Str))]) (z := ([] : Str)) (xs := [([111, 102] : Str)]) Tryd.underlying28 el9 ze9 ⟨rfl, (.str rfl (by decide)), trivial⟩ (by simp) (by decide) rfl) ?_
     obtain ⟨l1, hv19, hm⟩ := bind_some hm
     refine WL.opR rfl (OpR.appendU (key := 10) fl9 hv19 Tryd.underlying28 el9 rfl (.tmp rfl) rfl) (fun k1 => ?_)
     refine WL.gv rfl rfl ?_
     refine WL.nil ?_
     refine WN.block ?_
     refine WN.seq ?_
     refine W.region ?_
     obtain ⟨v2, hv20, hm⟩ := bind_some hm
     refine WL.op rfl (.addC hv20 (.tmp rfl) .i64) ?_
     refine WL.mv rfl rfl ?_
     refine WL.nil ?_
     exact WN.again n16 ((l1, v2), k1) (Nat.lt_succ_self n16) hm ⟨Ent.q rfl, Ent.q rfl, Ent.q rfl, Ent.q rfl, Ent.q rfl, Ent.q rfl, Ent.q rfl, trivial⟩ ⟨rfl, rfl, ⟨rfl, rfl, ⟨rfl, rfl, trivial⟩⟩⟩
    ·have hp18 := of_decide_eq_false hc17
     rw [if_neg hp18] at hm
     refine W.exit rfl ?_
     have hr21 := Option.some.inj hm
     clear hm
     subst hr21
     have hm := hk15
     try dsimp only at hm
     refine WN.seq ?_
     refine W.sr ?_
     refine WL.mv rfl rfl ?_
     refine WL.op rfl (.lenU Tryd.underlying28 (.tmp rfl)) ?_
     refine WL.op rfl (.fieldAddrB (o := 0) Tryd.underlying24 rfl (fun w => ⟨0, Tryd.sizeOf3 w⟩) (.tmp rfl) rfl) ?_
     refine WL.opU (OpR.storeBF (b := b) 4 rfl ty3 sapi_Cite_3 rfl (by decide) (.tmp rfl) (.tmp rfl)) (fun _ => ?_)
     refine WL.nr ?_
     refine WL.mv rfl rfl ?_
     refine WL.mv rfl rfl ?_
     obtain ⟨l2, hv22, hm⟩ := bind_some hm
     refine WL.opR rfl (OpR.appendU (key := 10) fl9 hv22 Tryd.underlying28 el9 rfl (.tmp rfl) rfl) (fun k2 => ?_)
     refine WL.gv rfl rfl ?_
     refine WL.nr ?_
     refine WL.mv rfl rfl ?_
     refine WL.op rfl (.lenU Tryd.underlying28 (.tmp rfl)) ?_
     refine WL.op rfl (.fieldAddrB (o := 0) Tryd.underlying24 rfl (fun w => ⟨0, Tryd.sizeOf3 w⟩) (.tmp rfl) rfl) ?_
     refine WL.opU (OpR.storeBF (b := b) 4 rfl ty3 sapi_Cite_4 rfl (by decide) (.tmp rfl) (.tmp rfl)) (fun _ => ?_)
     refine WL.ns ?_
     refine W.seq ?_
     obtain ⟨v3, hv23, hm⟩ := bind_some hm
     obtain ⟨v4, hv24, hm⟩ := bind_some hm
     obtain ⟨v5, hv25, hm⟩ := bind_some hm
     obtain ⟨v6, hv26, hm⟩ := bind_some hm
     obtain ⟨v7, hv27, hm⟩ := bind_some hm
     obtain ⟨l3, hv28, hm⟩ := bind_some hm
     refine W.weakR (res' := [(10, OwnU tS 9 k2 l2), (4, (Bx 5 true 24 (tapi_Cite.is ({ ({ c with From := (l.length : Int) } : api_Cite) with At := (l2.length : Int) } : api_Cite)) b)), (700000, GlE 0)]) ⟨rfl, rfl, ⟨rfl, rfl, ⟨rfl, rfl, trivial⟩⟩⟩ ?_
     refine W.drawM [.c (tU k2 l2.length), .c (tU k2 l2.length), .c ((tI .i64).is (l2.length : Int)), .c ((tI .i64).is v3), .c (Bp (bk k2) (v3.toNat * tS.size)), .c (tS.is v4), .c ((tL tS).is ([([] : Str), ([44] : Str), ([59] : Str), ([46] : Str), ([58] : Str), ([41] : Str)])), .c ((tI .u8).is sign), .c ((tI .u8).is (sign.tmod (6 : Int))), .c (tS.ptr v5), .c (tS.is v5), .c (tS.is v6), .c (Bp (bk k2) (v3.toNat * tS.size)), .c Asn.any] [([], [10]), ([], [10]), ([1], []), ([2], []), ([0, 3], []), ([4], []), ([], []), ([], [3]), ([7], []), ([6, 8], []), ([9], []), ([5, 10], []), ([0, 3], []), ([11, 12], [])] [13] [[], [], [], [], [], [], [], [], [], [], [], [], [], []] (fun m cv => match m with | 0 => [(10, OwnU tS 9 k2 l2), (4, (Bx 5 true 24 (tapi_Cite.is ({ ({ c with From := (l.length : Int) } : api_Cite) with At := (l2.length : Int) } : api_Cite)) b)), (700000, GlE 0)] | _ => [(10, OwnU tS 9 k2 l3), (4, (Bx 5 true 24 (tapi_Cite.is ({ ({ c with From := (l.length : Int) } : api_Cite) with At := (l2.length : Int) } : api_Cite)) b)), (700000, GlE 0)]) (fun _ => none) Tryd.mixed rfl rfl rfl rfl rfl ⟨fun _ _ _ _ => rfl, ⟨fun _ _ _ _ => rfl, ⟨fun _ _ _ _ => rfl, ⟨fun _ _ _ _ => rfl, ⟨fun _ _ _ _ => rfl, ⟨fun _ _ _ _ => rfl, ⟨fun _ _ _ _ => rfl, ⟨fun _ _ _ _ => rfl, ⟨fun _ _ _ _ => rfl, ⟨fun _ _ _ _ => rfl, ⟨fun _ _ _ _ => rfl, ⟨fun _ _ _ _ => rfl, ⟨fun _ _ _ _ => rfl, ⟨fun _ _ _ _ => rfl, trivial⟩⟩⟩⟩⟩⟩⟩⟩⟩⟩⟩⟩⟩⟩ rfl ⟨mo fun cv => Op1.move (.tmp rfl), ⟨mo fun cv => Op1.move (.tmp rfl), ⟨mo fun cv => Op1.lenU Tryd.underlying28 (.tmp rfl), ⟨mo fun cv => Op1.subC hv23 (.tmp rfl) .i64, ⟨mo fun cv => Op1.idxU (t := tS) hv24 Tryd.underlying28 Tryd.sizeOf9 (.tmp rfl) (.tmp rfl), ⟨.inr ⟨fun cv => [(10, OwnU tS 9 k2 l2)], (AllUpTo.at ⟨(fun _ _ => ⟨rfl, rfl, trivial⟩), (fun hw => absurd hw (by decide))⟩), fun cv => Op1.loadU 10 hv24 ty9 rfl (.tmp rfl)⟩, ⟨mo fun cv => Op1.buildSlice (n := 6) (ys := [(0, ([] : Str)), (1, ([44] : Str)), (2, ([59] : Str)), (3, ([46] : Str)), (4, ([58] : Str)), (5, ([41] : Str))]) (z := ([] : Str)) (xs := [([] : Str), ([44] : Str), ([59] : Str), ([46] : Str), ([58] : Str), ([41] : Str)]) Tryd.underlying28 el9 ze9 ⟨rfl, (.str rfl (by decide)), rfl, (.str rfl (by decide)), rfl, (.str rfl (by decide)), rfl, (.str rfl (by decide)), rfl, (.str rfl (by decide)), rfl, (.str rfl (by decide)), trivial⟩ (by simp) (by decide) rfl, ⟨mo fun cv => Op1.move (.tmp rfl), ⟨mo fun cv => Op1.remU (.tmp rfl) (.int (inR8.2 (by omega))) (by decide), ⟨mo fun cv => Op1.idx hv25 Tryd.underlying28 Tryd.sizeOf9 (.tmp rfl) (.tmp rfl), ⟨mo fun cv => Op1.load ty9 (.tmp rfl), ⟨mo fun cv => Op1.catC hv26 (.tmp rfl) (.tmp rfl), ⟨mo fun cv => Op1.idxU (t := tS) hv27 Tryd.underlying28 Tryd.sizeOf9 (.tmp rfl) (.tmp rfl), ⟨.inl rfl, trivial⟩⟩⟩⟩⟩⟩⟩⟩⟩⟩⟩⟩⟩⟩ ⟨⟨_, _, _, [10], (fun cv => [(10, OwnU tS 9 k2 l3)]), rfl, rfl, rfl, rfl, fun _ => rfl, fun _ _ => rfl, fun cv => OpR.viaU (OpR.storeU (key := 10) hv28 ty9 (.tmp rfl) (.tmp rfl) rfl)⟩, trivial⟩ (fun cv => ?_)
     refine WN.lenU 10 (setC_len hv28) rfl ?_
     refine WN.lenU 37 (setC_len hv28) rfl ?_
     refine WN.lenU 38 (setC_len hv28) rfl ?_
     refine WN.lenU 41 (setC_len hv28) rfl ?_
     refine WN.lenU 42 (setC_len hv28) rfl ?_
     refine WN.seq ?_
     refine W.seq ?_
     refine W.sr ?_
     refine WL.mv rfl rfl ?_
     refine WL.op rfl (.remU (.tmp rfl) (.int (inR8.2 (by omega))) (by decide)) ?_
     refine WL.op rfl (.conv8 Tryd.underlying5 Tryd.underlying3 (.tmp rfl)) ?_
     refine WL.op rfl (.move .i64) ?_
     refine WL.ns ?_
     refine W.block ?_
     obtain ⟨s29, hs30, hk31⟩ := bind_some hm
     clear hm
     refine W.loop (fun m (s : ((List Str) × Int) × Tok) => M.law20_CitationInContext_loop2 behind m s.1.1 s.1.2 = some s29) (fun s => [(10, (tU s.2 s.1.1.length)), (57, ((tI .i64).is s.1.2)), (4, (Bp b 0)), (56, ((tI .i64).is (behind.tmod (9 : Int))))]) (fun s => [(10, OwnU tS 9 s.2 s.1.1), (4, (Bx 5 true 24 (tapi_Cite.is ({ ({ c with From := (l.length : Int) } : api_Cite) with At := (l2.length : Int) } : api_Cite)) b)), (700000, GlE 0)]) _ ((l3, (0 : Int)), k2) hs30 ⟨Ent.q rfl, Ent.q rfl, Ent.q rfl, Ent.q rfl, trivial⟩ ⟨rfl, rfl, ⟨rfl, rfl, ⟨rfl, rfl, trivial⟩⟩⟩ ?_
     rintro n32 ⟨⟨l4, v8⟩, k3⟩ hm
     try dsimp only at hm
     change W _ _ _ _ _ _ _ [(10, (tU k3 l4.length)), (57, ((tI .i64).is v8)), (4, (Bp b 0)), (56, ((tI .i64).is (behind.tmod (9 : Int))))] [(10, OwnU tS 9 k3 l4), (4, (Bx 5 true 24 (tapi_Cite.is ({ ({ c with From := (l.length : Int) } : api_Cite) with At := (l2.length : Int) } : api_Cite)) b)), (700000, GlE 0)]
     cases n32 with
     | zero => rw [M.law20_CitationInContext_loop2.eq_1] at hm; cases hm
     | succ n32 =>
      rw [M.law20_CitationInContext_loop2.eq_2] at hm
      refine W.sr ?_
      refine WL.op rfl (.ltI (.tmp rfl) (.tmp rfl)) ?_
      refine WL.ns ?_
      refine W.seq ?_
      refine W.cond (.tmp rfl) (fun hc33 => ?_) (fun hc33 => ?_)
      ·have hp34 := of_decide_eq_true hc33
       rw [if_pos hp34] at hm
       refine W.skip ?_
       refine WN.seq ?_
       refine W.seq ?_
       refine W.block ?_
       refine W.region ?_
       refine WL.mv rfl rfl ?_
       refine WL.op rfl (.buildSlice (n := 1) (ys := [(0, ([111, 102] : Str))]) (z := ([] : Str)) (xs := [([111, 102] : Str)]) Tryd.underlying28 el9 ze9 ⟨rfl, (.str rfl (by decide)), trivial⟩ (by simp) (by decide) rfl) ?_
       obtain ⟨l5, hv35, hm⟩ := bind_some hm
       refine WL.opR rfl (OpR.appendU (key := 10) fl9 hv35 Tryd.underlying28 el9 rfl (.tmp rfl) rfl) (fun k4 => ?_)
       refine WL.gv rfl rfl ?_
       refine WL.nil ?_
       refine WN.block ?_
       refine WN.seq ?_
       refine W.region ?_
       obtain ⟨v9, hv36, hm⟩ := bind_some hm
       refine WL.op rfl (.addC hv36 (.tmp rfl) .i64) ?_
       refine WL.mv rfl rfl ?_
       refine WL.nil ?_
       exact WN.again n32 ((l5, v9), k4) (Nat.lt_succ_self n32) hm ⟨Ent.q rfl, Ent.q rfl, Ent.q rfl, Ent.q rfl, trivial⟩ ⟨rfl, rfl, ⟨rfl, rfl, ⟨rfl, rfl, trivial⟩⟩⟩
      ·have hp34 := of_decide_eq_false hc33
       rw [if_neg hp34] at hm
       refine W.exit rfl ?_
       have hr37 := Option.some.inj hm
       clear hm
       subst hr37
       have hm := hk31
       try dsimp only at hm
       refine WN.seq ?_
       refine W.sr ?_
       refine WL.mv rfl rfl ?_
       obtain ⟨scan, hv38, hm⟩ := bind_some hm
       refine WL.fixU 63 10 rfl rfl ?_
       refine WL.sameU 63 10 rfl rfl ?_
       refine WL.op rfl (.call Tryd.call19 (citation_Scan_spec _ _ _ hv38) ⟨(Opd.own (.tmp rfl)), trivial⟩) ?_
       refine WL.gv rfl rfl ?_
       refine WL.ns ?_
       refine W.seq ?_
       rcases bcases (decide ((scan.length : Int) = (1 : Int))) with hb39 | hb39
       ·have hp40 := of_decide_eq_true hb39
        rw [if_pos hp40] at hm
        obtain ⟨v10, hv41, hm⟩ := bind_some hm
        obtain ⟨equal, hv42, hm⟩ := bind_some hm
        rcases bcases (equal) with hb43 | hb43
        ·have hp44 := hb43
         rw [if_pos hp44] at hm
         obtain ⟨awake1, hv45, hm⟩ := bind_some hm
         refine W.draw [.c ((tL tapi_Cite).is scan), .c ((tI .i64).is (scan.length : Int)), .c (tB.is (decide ((scan.length : Int) = (1 : Int)))), .c (tB.is (decide ((scan.length : Int) = (1 : Int)))), .c ((tL tapi_Cite).is scan), .c (tapi_Cite.ptr v10), .c (tapi_Cite.is v10), .c (tapi_Cite.is ({ ({ c with From := (l.length : Int) } : api_Cite) with At := (l2.length : Int) } : api_Cite)), .c (tB.is equal), .c (tB.is equal), .c (tB.is equal), .c (tB.is awake1), .c (tB.is awake1), .c (tB.is awake1)] [([], [11]), ([0], []), ([1], []), ([2], []), ([3], [11]), ([3, 4], []), ([3, 5], []), ([3], [4]), ([3, 6, 7], []), ([3, 8], []), ([9], []), ([10], []), ([10, 11], []), ([12], [])] Tryd.mixed rfl rfl rfl rfl ⟨.inr (Op1.move (.tmp rfl)), .inr (Op1.lenL Tryd.underlying33 (.tmp rfl)), .inr (Op1.eqI (.tmp rfl) .i64), .inr (Op1.move (.tmp rfl)), .inr (dr rfl rfl rfl hb39 (Op1.move (.tmp rfl))), .inr (dr rfl rfl rfl hb39 (Op1.idx hv41 Tryd.underlying33 Tryd.sizeOf24 (.tmp rfl) .i64)), .inr (dr rfl rfl rfl hb39 (Op1.load ty24 (.tmp rfl))), .inr (dr rfl rfl rfl hb39 (Op1.loadB 4 Tryd.isAgg24 Tryd.sizeOf24 rfl (.tmp rfl))), .inr (dr rfl rfl rfl hb39 (Op1.call Tryd.call28 (citation_Equal_spec _ _ _ _ hv42) ⟨(.tmp rfl), (.tmp rfl), trivial⟩)), .inr (Op1.pickT (.tmp rfl) hb39 (.tmp rfl)), .inr (Op1.move (.tmp rfl)), .inr (dr rfl rfl rfl hb43 (Op1.callG (rin := [(700000, GlE 0)]) Tryd.call11 (law20_awake_spec _ _ hv45) ⟨rfl, trivial⟩ ⟨rfl, rfl, trivial⟩ trivial)), .inr (Op1.pickT (.tmp rfl) hb43 (.tmp rfl)), .inr (Op1.assign (.tmp rfl)), trivial⟩ ?_
         refine WN.seq ?_
         cases hm
         exact W.ret1 () rfl (.tmp rfl) trivial
        ·have hp44 := ne_of_false hb43
         rw [if_neg hp44] at hm
         refine W.draw [.c ((tL tapi_Cite).is scan), .c ((tI .i64).is (scan.length : Int)), .c (tB.is (decide ((scan.length : Int) = (1 : Int)))), .c (tB.is (decide ((scan.length : Int) = (1 : Int)))), .c ((tL tapi_Cite).is scan), .c (tapi_Cite.ptr v10), .c (tapi_Cite.is v10), .c (tapi_Cite.is ({ ({ c with From := (l.length : Int) } : api_Cite) with At := (l2.length : Int) } : api_Cite)), .c (tB.is equal), .c (tB.is equal), .c (tB.is equal), .c (Asn.eq undef), .c (tB.is false), .c (tB.is false)] [([], [11]), ([0], []), ([1], []), ([2], []), ([3], [11]), ([3, 4], []), ([3, 5], []), ([3], [4]), ([3, 6, 7], []), ([3, 8], []), ([9], []), ([10], []), ([10, 11], []), ([12], [])] Tryd.mixed rfl rfl rfl rfl ⟨.inr (Op1.move (.tmp rfl)), .inr (Op1.lenL Tryd.underlying33 (.tmp rfl)), .inr (Op1.eqI (.tmp rfl) .i64), .inr (Op1.move (.tmp rfl)), .inr (dr rfl rfl rfl hb39 (Op1.move (.tmp rfl))), .inr (dr rfl rfl rfl hb39 (Op1.idx hv41 Tryd.underlying33 Tryd.sizeOf24 (.tmp rfl) .i64)), .inr (dr rfl rfl rfl hb39 (Op1.load ty24 (.tmp rfl))), .inr (dr rfl rfl rfl hb39 (Op1.loadB 4 Tryd.isAgg24 Tryd.sizeOf24 rfl (.tmp rfl))), .inr (dr rfl rfl rfl hb39 (Op1.call Tryd.call28 (citation_Equal_spec _ _ _ _ hv42) ⟨(.tmp rfl), (.tmp rfl), trivial⟩)), .inr (Op1.pickT (.tmp rfl) hb39 (.tmp rfl)), .inr (Op1.move (.tmp rfl)), .inr (dp rfl rfl rfl hb43), .inr (Op1.pickF (.tmp rfl) hb43 .bool), .inr (Op1.assign (.tmp rfl)), trivial⟩ ?_
         refine WN.seq ?_
         cases hm
         exact W.ret1 () rfl (.tmp rfl) trivial
       ·have hp40 := of_decide_eq_false hb39
        rw [if_neg hp40] at hm
        refine W.draw [.c ((tL tapi_Cite).is scan), .c ((tI .i64).is (scan.length : Int)), .c (tB.is (decide ((scan.length : Int) = (1 : Int)))), .c (tB.is (decide ((scan.length : Int) = (1 : Int)))), .c (Asn.eq undef), .c (Asn.eq undef), .c (Asn.eq undef), .c (Asn.eq undef), .c (Asn.eq undef), .c (tB.is false), .c (tB.is false), .c (Asn.eq undef), .c (tB.is false), .c (tB.is false)] [([], [11]), ([0], []), ([1], []), ([2], []), ([3], [11]), ([3, 4], []), ([3, 5], []), ([3], [4]), ([3, 6, 7], []), ([3, 8], []), ([9], []), ([10], []), ([10, 11], []), ([12], [])] Tryd.mixed rfl rfl rfl rfl ⟨.inr (Op1.move (.tmp rfl)), .inr (Op1.lenL Tryd.underlying33 (.tmp rfl)), .inr (Op1.eqI (.tmp rfl) .i64), .inr (Op1.move (.tmp rfl)), .inr (dp rfl rfl rfl hb39), .inr (dp rfl rfl rfl hb39), .inr (dp rfl rfl rfl hb39), .inr (dp rfl rfl rfl hb39), .inr (dp rfl rfl rfl hb39), .inr (Op1.pickF (.tmp rfl) hb39 .bool), .inr (Op1.move (.tmp rfl)), .inr (dp rfl rfl rfl rfl), .inr (Op1.pickF (.tmp rfl) rfl .bool), .inr (Op1.assign (.tmp rfl)), trivial⟩ ?_
        refine WN.seq ?_
        cases hm
        exact W.ret1 () rfl (.tmp rfl) trivial
 ·have hm := hs2
  clear hs2
  refine W.region ?_
  refine WL.op rfl (.loadB 4 Tryd.isAgg24 Tryd.sizeOf24 rfl (.tmp rfl)) ?_
  obtain ⟨wide, hv4, hm⟩ := bind_some hm
  refine WL.op rfl (.call Tryd.call10 (law20_wide_spec _ _ hv4) ⟨(.tmp rfl), trivial⟩) ?_
  refine WL.mv rfl rfl ?_
  rcases bcases (wide) with hb5 | hb5
  ·have hp6 := hb5
   rw [if_pos hp6] at hm
   iterate 3 refine WL.pass rfl rfl rfl rfl hb5 rfl rfl ?_
   refine WL.op rfl (.pickT (.tmp rfl) hb5 .bool) ?_
   refine WL.nil ?_
   exact WN.meet true (Option.some.inj hm) ⟨Ent.q rfl, Ent.q rfl, Ent.q rfl, Ent.q rfl, Ent.q rfl, trivial⟩ ⟨rfl, rfl, ⟨rfl, rfl, trivial⟩⟩
  ·have hp6 := ne_of_false hb5
   rw [if_neg hp6] at hm
   refine WL.run rfl rfl rfl rfl hb5 rfl rfl (Op1.loadB 4 Tryd.isAgg24 Tryd.sizeOf24 rfl (.tmp rfl)) ?_
   obtain ⟨may, hv7, hm⟩ := bind_some hm
   refine WL.run rfl rfl rfl rfl hb5 rfl rfl (Op1.call Tryd.call12 (r20_May_spec _ _ _ hv7) ⟨(.tmp rfl), trivial⟩) ?_
   refine WL.run rfl rfl rfl rfl hb5 rfl rfl (Op1.notB (.tmp rfl)) ?_
   refine WL.op rfl (.pickF (.tmp rfl) hb5 (.tmp rfl)) ?_
   refine WL.nil ?_
   exact WN.meet (!may) (Option.some.inj hm) ⟨Ent.q rfl, Ent.q rfl, Ent.q rfl, Ent.q rfl, Ent.q rfl, trivial⟩ ⟨rfl, rfl, ⟨rfl, rfl, trivial⟩⟩
end Go.Proofs.YtnmkblpbmoikpaaDoor
