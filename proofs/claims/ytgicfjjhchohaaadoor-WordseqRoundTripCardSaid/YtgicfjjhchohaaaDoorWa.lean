/-
  The code does what the models say: written by program.
-/
import Derived.Test.YtgicfjjhchohaaaDoorBd
set_option linter.unusedVariables false
set_option linter.unusedSimpArgs false
namespace Go.Proofs.YtgicfjjhchohaaaDoor
open Go Go.Dec

set_option maxRecDepth 100000
set_option maxHeartbeats 4000000
theorem slices_Equal_string_string_spec (n : Nat) (s1_ : List Str) (s2_ : List Str) (r : Bool) (hm : M.slices_Equal_string_string n s1_ s2_ = some r) : FSpec Tryd.prog 25 [((tL tS).is s1_), ((tL tS).is s2_)] (tB.is r) := by
 unfold M.slices_Equal_string_string at hm
 refine FSpec.of Tryd.func25 rfl rfl rfl (fun g0 => ?_)
 refine W.sr ?_
 refine WL.op rfl (.assign .bool) ?_
 refine WL.ns ?_
 refine W.seq ?_
 refine W.sr ?_
 refine WL.mv rfl rfl ?_
 refine WL.op rfl (.lenL Tryd.underlying23 (.tmp rfl)) ?_
 refine WL.mv rfl rfl ?_
 refine WL.op rfl (.lenL Tryd.underlying23 (.tmp rfl)) ?_
 refine WL.op rfl (.neI (.tmp rfl) (.tmp rfl)) ?_
 refine WL.ns ?_
 refine W.cond (.tmp rfl) (fun hc1 => ?_) (fun hc1 => ?_)
 ·have hp2 := of_decide_eq_true hc1
  rw [if_pos hp2] at hm
  refine W.sr ?_
  refine WL.op rfl (.assign .bool) ?_
  refine WL.ns ?_
  cases hm
  exact W.ret1 () rfl (.tmp rfl) trivial
 ·have hp2 := of_decide_eq_false hc1
  rw [if_neg hp2] at hm
  refine W.skip ?_
  refine WN.seq ?_
  refine W.seq ?_
  refine W.sr ?_
  refine WL.mv rfl rfl ?_
  refine WL.op rfl (.lenL Tryd.underlying23 (.tmp rfl)) ?_
  refine WL.op rfl (.move .i64) ?_
  refine WL.ns ?_
  refine W.block ?_
  obtain ⟨s3, hs4, hk5⟩ := bind_some hm
  clear hm
  refine W.loop (fun m (s : Int) => M.slices_Equal_string_string_loop1 s1_ s2_ m s = some s3) (fun s => [(13, ((tI .i64).is s)), (0, ((tL tS).is s1_)), (1, ((tL tS).is s2_)), (12, ((tI .i64).is (s1_.length : Int)))]) (fun s => []) _ (0 : Int) hs4 ⟨Ent.q rfl, Ent.q rfl, Ent.q rfl, Ent.q rfl, trivial⟩ trivial ?_
  rintro n6 v hm
  try dsimp only at hm
  change W _ _ _ _ _ _ _ [(13, ((tI .i64).is v)), (0, ((tL tS).is s1_)), (1, ((tL tS).is s2_)), (12, ((tI .i64).is (s1_.length : Int)))] []
  cases n6 with
  | zero => rw [M.slices_Equal_string_string_loop1.eq_1] at hm; cases hm
  | succ n6 =>
   rw [M.slices_Equal_string_string_loop1.eq_2] at hm
   refine W.sr ?_
   refine WL.op rfl (.ltI (.tmp rfl) (.tmp rfl)) ?_
   refine WL.ns ?_
   refine W.seq ?_
   refine W.cond (.tmp rfl) (fun hc7 => ?_) (fun hc7 => ?_)
   ·have hp8 := of_decide_eq_true hc7
    rw [if_pos hp8] at hm
    refine W.skip ?_
    refine WN.seq ?_
    refine W.seq ?_
    refine W.block ?_
    refine W.sr ?_
    refine WL.mv rfl rfl ?_
    refine WL.gv rfl rfl ?_
    refine WL.ns ?_
    refine W.seq ?_
    obtain ⟨v1, hv9, hm⟩ := bind_some hm
    obtain ⟨v2, hv10, hm⟩ := bind_some hm
    refine W.draw [.c ((tL tS).is s1_), .c ((tI .i64).is v), .c (tS.ptr v1), .c (tS.is v1), .c ((tL tS).is s2_), .c ((tI .i64).is v), .c (tS.ptr v2), .c (tS.is v2), .c (tB.is (v1 != v2))] [([], [0]), ([], [5]), ([0, 1], []), ([2], []), ([], [1]), ([], [5]), ([4, 5], []), ([6], []), ([3, 7], [])] Tryd.mixed rfl rfl rfl rfl ⟨.inr (Op1.move (.tmp rfl)), .inr (Op1.move (.tmp rfl)), .inr (Op1.idx hv9 Tryd.underlying23 Tryd.sizeOf9 (.tmp rfl) (.tmp rfl)), .inr (Op1.load ty9 (.tmp rfl)), .inr (Op1.move (.tmp rfl)), .inr (Op1.move (.tmp rfl)), .inr (Op1.idx hv10 Tryd.underlying23 Tryd.sizeOf9 (.tmp rfl) (.tmp rfl)), .inr (Op1.load ty9 (.tmp rfl)), .inr (Op1.neS (.tmp rfl) (.tmp rfl)), trivial⟩ ?_
    refine WN.seq ?_
    refine W.cond (.tmp rfl) (fun hc11 => ?_) (fun hc11 => ?_)
    ·have hp12 := hc11
     rw [if_pos hp12] at hm
     refine W.sr ?_
     refine WL.op rfl (.assign .bool) ?_
     refine WL.ns ?_
     have hr13 := Option.some.inj hm
     clear hm
     subst hr13
     have hm := hk5
     try dsimp only at hm
     cases hm
     exact W.ret1 () rfl (.tmp rfl) trivial
    ·have hp12 := ne_of_false hc11
     rw [if_neg hp12] at hm
     refine W.skip ?_
     refine WN.block ?_
     refine WN.seq ?_
     refine W.region ?_
     refine WL.lenL (s := 0) (.tmp rfl) fun hl14 => ?_
     refine WL.op rfl (.addI1 (.tmp rfl) .i64 hp8 hl14) ?_
     refine WL.mv rfl rfl ?_
     refine WL.nil ?_
     exact WN.again n6 (v + 1) (Nat.lt_succ_self n6) hm ⟨Ent.q rfl, Ent.q rfl, Ent.q rfl, Ent.q rfl, trivial⟩ trivial
   ·have hp8 := of_decide_eq_false hc7
    rw [if_neg hp8] at hm
    refine W.exit rfl ?_
    have hr15 := Option.some.inj hm
    clear hm
    subst hr15
    have hm := hk5
    try dsimp only at hm
    refine WN.seq ?_
    refine W.sr ?_
    refine WL.op rfl (.assign .bool) ?_
    refine WL.ns ?_
    cases hm
    exact W.ret1 () rfl (.tmp rfl) trivial

theorem wordseq_FindAll_spec (n : Nat) (l : List Str) (part : List Str) (r : (List Int)) (hm : M.wordseq_FindAll n l part = some r) : FSpec Tryd.prog 14 [((tL tS).is l), ((tL tS).is part)] ((tL (tI .i64)).is r) := by
 unfold M.wordseq_FindAll at hm
 refine FSpec.of Tryd.func14 rfl rfl rfl (fun g0 => ?_)
 refine W.sr ?_
 refine WL.op rfl (.assign (.nil (t := (tI .i64)))) ?_
 refine WL.nr ?_
 refine WL.addNil (t := (tI .i64)) (E := 3) 5 ?_
 refine WL.op rfl (.assign (Opd.nilO (t := (tI .i64)))) ?_
 refine WL.ns ?_
 refine W.seq ?_
 refine W.sr ?_
 refine WL.mv rfl rfl ?_
 refine WL.op rfl (.lenL Tryd.underlying23 (.tmp rfl)) ?_
 refine WL.op rfl (.eqI (.tmp rfl) .i64) ?_
 refine WL.ns ?_
 refine W.cond (.tmp rfl) (fun hc1 => ?_) (fun hc1 => ?_)
 ·have hp2 := of_decide_eq_true hc1
  rw [if_pos hp2] at hm
  refine W.sr ?_
  refine WL.op rfl (.assign (.nil (t := (tI .i64)))) ?_
  refine WL.ns ?_
  cases hm
  exact W.ret1 () rfl (.tmp rfl) trivial
 ·have hp2 := of_decide_eq_false hc1
  rw [if_neg hp2] at hm
  refine W.skip ?_
  refine WN.seq ?_
  refine W.seq ?_
  refine W.sr ?_
  refine WL.op rfl (.assign .i64) ?_
  refine WL.ns ?_
  refine W.block ?_
  obtain ⟨s3, hs4, hk5⟩ := bind_some hm
  clear hm
  refine W.loop (fun m (s : ((List Int) × Int) × Tok) => M.wordseq_FindAll_loop1 l part m s.1.1 s.1.2 = some s3) (fun s => [(5, (tO (tI .i64) s.2 s.1.1)), (6, ((tI .i64).is s.1.2)), (0, ((tL tS).is l)), (1, ((tL tS).is part))]) (fun s => [(5, Dec.Own (tI .i64) 3 s.2 s.1.1.length)]) _ ((([] : List Int), (0 : Int)), (none : Tok)) hs4 ⟨Ent.q rfl, Ent.q rfl, Ent.q rfl, Ent.q rfl, trivial⟩ ⟨rfl, rfl, trivial⟩ ?_
  rintro n6 ⟨⟨out, i⟩, k⟩ hm
  try dsimp only at hm
  change W _ _ _ _ _ _ _ [(5, (tO (tI .i64) k out)), (6, ((tI .i64).is i)), (0, ((tL tS).is l)), (1, ((tL tS).is part))] [(5, Dec.Own (tI .i64) 3 k out.length)]
  cases n6 with
  | zero => rw [M.wordseq_FindAll_loop1.eq_1] at hm; cases hm
  | succ n6 =>
   rw [M.wordseq_FindAll_loop1.eq_2] at hm
   refine W.seq ?_
   refine W.sr ?_
   refine WL.mv rfl rfl ?_
   refine WL.mv rfl rfl ?_
   refine WL.op rfl (.lenL Tryd.underlying23 (.tmp rfl)) ?_
   obtain ⟨v, hv7, hm⟩ := bind_some hm
   refine WL.op rfl (.addC hv7 (.tmp rfl) (.tmp rfl)) ?_
   refine WL.mv rfl rfl ?_
   refine WL.op rfl (.lenL Tryd.underlying23 (.tmp rfl)) ?_
   refine WL.op rfl (.leI (.tmp rfl) (.tmp rfl)) ?_
   refine WL.ns ?_
   refine W.cond (.tmp rfl) (fun hc8 => ?_) (fun hc8 => ?_)
   ·have hp9 := of_decide_eq_true hc8
    rw [if_pos hp9] at hm
    refine W.skip ?_
    refine WN.seq ?_
    refine W.block ?_
    refine W.seq ?_
    refine W.sr ?_
    refine WL.mv rfl rfl ?_
    refine WL.mv rfl rfl ?_
    refine WL.mv rfl rfl ?_
    refine WL.mv rfl rfl ?_
    refine WL.op rfl (.lenL Tryd.underlying23 (.tmp rfl)) ?_
    obtain ⟨v1, hv10, hm⟩ := bind_some hm
    refine WL.op rfl (.addC hv10 (.tmp rfl) (.tmp rfl)) ?_
    obtain ⟨v2, hv11, hm⟩ := bind_some hm
    refine WL.op rfl (.slc hv11 Tryd.underlying23 Tryd.sizeOf9 (.tmp rfl) (.tmp rfl) (.tmp rfl)) ?_
    refine WL.mv rfl rfl ?_
    obtain ⟨string, hv12, hm⟩ := bind_some hm
    refine WL.op rfl (.call Tryd.call25 (slices_Equal_string_string_spec _ _ _ _ hv12) ⟨(.tmp rfl), (.tmp rfl), trivial⟩) ?_
    refine WL.op rfl (.notB (.tmp rfl)) ?_
    refine WL.ns ?_
    refine W.cond (.tmp rfl) (fun hc13 => ?_) (fun hc13 => ?_)
    ·have hp14 := not_pos hc13
     rw [if_pos hp14] at hm
     refine W.sr ?_
     refine WL.mv rfl rfl ?_
     obtain ⟨v3, hv15, hm⟩ := bind_some hm
     refine WL.op rfl (.addC hv15 (.tmp rfl) .i64) ?_
     refine WL.gv rfl rfl ?_
     refine WL.ns ?_
     refine W.exit rfl ?_
     exact WN.again n6 ((out, v3), k) (Nat.lt_succ_self n6) hm ⟨Ent.q rfl, Ent.q rfl, Ent.q rfl, Ent.q rfl, trivial⟩ ⟨rfl, rfl, trivial⟩
    ·have hp14 := not_neg hc13
     rw [if_neg hp14] at hm
     refine W.skip ?_
     refine WN.seq ?_
     refine W.sr ?_
     refine WL.mv rfl rfl ?_
     refine WL.mv rfl rfl ?_
     refine WL.op rfl (.buildSlice (n := 1) (ys := [(0, i)]) (z := (0 : Int)) (xs := [i]) Tryd.underlying35 el3 ze3 ⟨rfl, (.tmp rfl), trivial⟩ (by simp) (by decide) rfl) ?_
     obtain ⟨out1, hv16, hm⟩ := bind_some hm
     refine WL.opR rfl (OpR.appC (key := 5) hv16 Tryd.underlying35 el3 (.tmp rfl) (.tmp rfl) rfl) (fun k1 => ?_)
     refine WL.gv rfl rfl ?_
     refine WL.nr1 ?_
     refine WL.mv rfl rfl ?_
     refine WL.mv rfl rfl ?_
     refine WL.op rfl (.lenL Tryd.underlying23 (.tmp rfl)) ?_
     obtain ⟨v4, hv17, hm⟩ := bind_some hm
     refine WL.op rfl (.addC hv17 (.tmp rfl) (.tmp rfl)) ?_
     refine WL.gv rfl rfl ?_
     refine WL.nil ?_
     refine WN.block ?_
     exact WN.again n6 ((out1, v4), k1) (Nat.lt_succ_self n6) hm ⟨Ent.q rfl, Ent.q rfl, Ent.q rfl, Ent.q rfl, trivial⟩ ⟨rfl, rfl, trivial⟩
   ·have hp9 := of_decide_eq_false hc8
    rw [if_neg hp9] at hm
    refine W.exit rfl ?_
    have hr18 := Option.some.inj hm
    clear hm
    subst hr18
    have hm := hk5
    try dsimp only at hm
    refine WN.seq ?_
    refine W.sr ?_
    refine WL.mv rfl rfl ?_
    refine WL.gv rfl rfl ?_
    refine WL.ns ?_
    cases hm
    exact W.ret1 () rfl (Opd.own (.tmp rfl)) trivial

theorem wordseq_chosen_spec (n : Nat) (l : List Str) (part : List Str) (nth : Int) (r : (List Int)) (hm : M.wordseq_chosen n l part nth = some r) : FSpec Tryd.prog 27 [((tL tS).is l), ((tL tS).is part), ((tI .i64).is nth)] ((tL (tI .i64)).is r) := by
 unfold M.wordseq_chosen at hm
 refine FSpec.of Tryd.func27 rfl rfl rfl (fun g0 => ?_)
 refine W.sr ?_
 refine WL.op rfl (.assign (.nil (t := (tI .i64)))) ?_
 refine WL.nr ?_
 refine WL.mv rfl rfl ?_
 refine WL.mv rfl rfl ?_
 obtain ⟨findal, hv1, hm⟩ := bind_some hm
 refine WL.op rfl (.call Tryd.call14 (wordseq_FindAll_spec _ _ _ _ hv1) ⟨(.tmp rfl), (.tmp rfl), trivial⟩) ?_
 refine WL.gv rfl rfl ?_
 refine WL.ns ?_
 refine W.seq ?_
 refine W.block ?_
 refine W.sr ?_
 refine WL.mv rfl rfl ?_
 refine WL.op rfl (.eqI (.tmp rfl) .i64) ?_
 refine WL.gv rfl rfl ?_
 refine WL.ns ?_
 refine W.cond (.tmp rfl) (fun hc2 => ?_) (fun hc2 => ?_)
 ·have hp3 := of_decide_eq_true hc2
  rw [if_pos hp3] at hm
  refine W.sr ?_
  refine WL.mv rfl rfl ?_
  refine WL.gv rfl rfl ?_
  refine WL.ns ?_
  cases hm
  exact W.ret1 () rfl (.tmp rfl) trivial
 ·have hp3 := of_decide_eq_false hc2
  rw [if_neg hp3] at hm
  refine W.sr ?_
  refine WL.mv rfl rfl ?_
  refine WL.op rfl (.ltI (.tmp rfl) .i64) ?_
  refine WL.mv rfl rfl ?_
  rcases bcases (decide (nth < (0 : Int))) with hb4 | hb4
  ·have hp5 := of_decide_eq_true hb4
   rw [if_pos hp5] at hm
   iterate 4 refine WL.pass rfl rfl rfl rfl hb4 rfl rfl ?_
   refine WL.op rfl (.pickT (.tmp rfl) hb4 .bool) ?_
   refine WL.gv rfl rfl ?_
   refine WL.ns ?_
   refine W.condT (.tmp rfl) ?_
   refine W.sr ?_
   refine WL.op rfl (.assign (.nil (t := (tI .i64)))) ?_
   refine WL.ns ?_
   cases hm
   exact W.ret1 () rfl (.tmp rfl) trivial
  ·have hp5 := of_decide_eq_false hb4
   rw [if_neg hp5] at hm
   refine WL.run rfl rfl rfl rfl hb4 rfl rfl (Op1.move (.tmp rfl)) ?_
   refine WL.run rfl rfl rfl rfl hb4 rfl rfl (Op1.move (.tmp rfl)) ?_
   refine WL.run rfl rfl rfl rfl hb4 rfl rfl (Op1.lenL Tryd.underlying35 (.tmp rfl)) ?_
   refine WL.run rfl rfl rfl rfl hb4 rfl rfl (Op1.gtI (.tmp rfl) (.tmp rfl)) ?_
   refine WL.op rfl (.pickF (.tmp rfl) hb4 (.tmp rfl)) ?_
   refine WL.gv rfl rfl ?_
   refine WL.ns ?_
   refine W.cond (.tmp rfl) (fun hc6 => ?_) (fun hc6 => ?_)
   ·have hp7 := of_decide_eq_true hc6
    rw [if_pos hp7] at hm
    refine W.sr ?_
    refine WL.op rfl (.assign (.nil (t := (tI .i64)))) ?_
    refine WL.ns ?_
    cases hm
    exact W.ret1 () rfl (.tmp rfl) trivial
   ·have hp7 := of_decide_eq_false hc6
    rw [if_neg hp7] at hm
    refine W.skip ?_
    refine WN.block ?_
    refine WN.seq ?_
    refine W.sr ?_
    refine WL.mv rfl rfl ?_
    refine WL.mv rfl rfl ?_
    obtain ⟨v, hv8, hm⟩ := bind_some hm
    refine WL.op rfl (.subC hv8 (.tmp rfl) .i64) ?_
    refine WL.mv rfl rfl ?_
    obtain ⟨v1, hv9, hm⟩ := bind_some hm
    refine WL.op rfl (.slc hv9 Tryd.underlying35 Tryd.sizeOf3 (.tmp rfl) (.tmp rfl) (.tmp rfl)) ?_
    refine WL.gv rfl rfl ?_
    refine WL.ns ?_
    cases hm
    exact W.ret1 () rfl (.tmp rfl) trivial

theorem wordseq_Replace_1_spec (a : List Str) (c : List Str) (r : (List Str)) (hm : M.wordseq_Replace_1 a c = some r) : FSpec Tryd.prog 28 [((tL tS).is a), ((tL tS).ptr c)] ((tL tS).is r) := by
 unfold M.wordseq_Replace_1 at hm
 refine FSpec.of Tryd.func28 rfl rfl rfl (fun g0 => ?_)
 refine W.sr ?_
 refine WL.op rfl (.assign (.nil (t := tS))) ?_
 refine WL.nr ?_
 refine WL.op rfl (.load ty23 (.tmp rfl)) ?_
 refine WL.gv rfl rfl ?_
 refine WL.ns ?_
 cases hm
 exact W.ret1 () rfl (.tmp rfl) trivial

theorem wordseq_each_spec (l : List Str) (part : List Str) (places : List Int) (does : (List Str) → Option ((List Str))) (r : (List Str) × Int) (hm : M.wordseq_each l part places does = some r) : FSpec Tryd.prog 26 [((tL tS).is l), ((tL tS).is part), ((tL (tI .i64)).is places), (tF Tryd.prog (fun s : (List Str) × ((List Str)) => does s.1 = some s.2) (fun s : (List Str) × ((List Str)) => [(tL tS).is s.1]) (fun s : (List Str) × ((List Str)) => ((tL tS).is s.2)))] (Asn.tuple2 ((tL tS).is r.1) ((tI .i64).is r.2)) := by
 unfold M.wordseq_each at hm
 refine FSpec.of Tryd.func26 rfl rfl rfl (fun g0 => ?_)
 refine W.sr ?_
 refine WL.op rfl (.assign (.nil (t := tS))) ?_
 refine WL.op rfl (.assign .i64) ?_
 refine WL.nr ?_
 refine WL.addNil (t := tS) (E := 9) 10 ?_
 refine WL.op rfl (.assign (Opd.nilO (t := tS))) ?_
 refine WL.nr ?_
 refine WL.op rfl (.assign .i64) ?_
 refine WL.ns ?_
 refine W.seq ?_
 refine W.sr ?_
 refine WL.mv rfl rfl ?_
 refine WL.op rfl (.lenL Tryd.underlying35 (.tmp rfl)) ?_
 refine WL.op rfl (.move .i64) ?_
 refine WL.ns ?_
 refine W.block ?_
 obtain ⟨s1, hs2, hk3⟩ := bind_some hm
 clear hm
 refine W.loop (fun m (s : Int × List Int × List Int × (((List Str) × Int) × Tok)) => m = s.2.2.1.length ∧ places = s.2.1 ++ s.2.2.1 ∧ s.1 = (s.2.1.length : Int) ∧ M.wordseq_each_loop1 l part does s.2.2.1 s.2.2.2.1.1 s.2.2.2.1.2 = some s1) (fun s => [(16, ((tI .i64).is s.1)), (10, (tO tS s.2.2.2.2 s.2.2.2.1.1)), (11, ((tI .i64).is s.2.2.2.1.2)), (0, ((tL tS).is l)), (1, ((tL tS).is part)), (2, ((tL (tI .i64)).is places)), (3, (tF Tryd.prog (fun s : (List Str) × ((List Str)) => does s.1 = some s.2) (fun s : (List Str) × ((List Str)) => [(tL tS).is s.1]) (fun s : (List Str) × ((List Str)) => ((tL tS).is s.2)))), (14, ((tL (tI .i64)).is places)), (15, ((tI .i64).is (places.length : Int)))]) (fun s => [(10, Dec.Own tS 9 s.2.2.2.2 s.2.2.2.1.1.length)]) places.length ((0 : Int), [], places, ((([] : List Str), (0 : Int)), (none : Tok))) ⟨rfl, rfl, rfl, hs2⟩ ⟨Ent.q rfl, Ent.q rfl, Ent.q rfl, Ent.q rfl, Ent.q rfl, Ent.q rfl, Ent.q rfl, Ent.q rfl, Ent.q rfl, trivial⟩ ⟨rfl, rfl, trivial⟩ ?_
 rintro m ⟨i, pre, rest1, ⟨⟨out, from0_⟩, k⟩⟩ ⟨hn7, hxs4, hi5, hm⟩
 try dsimp only at hn7 hxs4 hi5 hm
 change W _ _ _ _ _ _ _ [(16, ((tI .i64).is i)), (10, (tO tS k out)), (11, ((tI .i64).is from0_)), (0, ((tL tS).is l)), (1, ((tL tS).is part)), (2, ((tL (tI .i64)).is places)), (3, (tF Tryd.prog (fun s : (List Str) × ((List Str)) => does s.1 = some s.2) (fun s : (List Str) × ((List Str)) => [(tL tS).is s.1]) (fun s : (List Str) × ((List Str)) => ((tL tS).is s.2)))), (14, ((tL (tI .i64)).is places)), (15, ((tI .i64).is (places.length : Int)))] [(10, Dec.Own tS 9 k out.length)]
 refine W.lenL (s := 14) (.tmp rfl) fun hlen6 => ?_
 refine W.sr ?_
 refine WL.op rfl (.ltI (.tmp rfl) (.tmp rfl)) ?_
 refine WL.ns ?_
 refine W.seq ?_
 refine W.cond (.tmp rfl) (fun hc9 => ?_) (fun hc9 => ?_)
 ·have hp10 := of_decide_eq_true hc9
  obtain ⟨e, es, hrest12⟩ := range_more hxs4 hi5 hp10
  subst hrest12
  rw [M.wordseq_each_loop1.eq_2] at hm
  refine W.skip ?_
  refine WN.seq ?_
  refine W.seq ?_
  refine W.block ?_
  refine W.sr ?_
  refine WL.op rfl (.idxPre hxs4 hi5 Tryd.underlying35 Tryd.sizeOf3 (.tmp rfl) (.tmp rfl)) ?_
  refine WL.op rfl (.load ty3 (.tmp rfl)) ?_
  refine WL.gv rfl rfl ?_
  refine WL.nr ?_
  refine WL.mv rfl rfl ?_
  refine WL.mv rfl rfl ?_
  refine WL.mv rfl rfl ?_
  refine WL.mv rfl rfl ?_
  obtain ⟨v, hv13, hm⟩ := bind_some hm
  refine WL.op rfl (.slc hv13 Tryd.underlying23 Tryd.sizeOf9 (.tmp rfl) (.tmp rfl) (.tmp rfl)) ?_
  obtain ⟨out1, hv14, hm⟩ := bind_some hm
  refine WL.opR rfl (OpR.appC (key := 10) hv14 Tryd.underlying23 el9 (.tmp rfl) (.tmp rfl) rfl) (fun k1 => ?_)
  refine WL.gv rfl rfl ?_
  refine WL.nr ?_
  refine WL.mv rfl rfl ?_
  refine WL.mv rfl rfl ?_
  refine WL.op rfl (.lenL Tryd.underlying23 (.tmp rfl)) ?_
  obtain ⟨v1, hv15, hm⟩ := bind_some hm
  refine WL.op rfl (.addC hv15 (.tmp rfl) (.tmp rfl)) ?_
  refine WL.gv rfl rfl ?_
  refine WL.nr1 ?_
  refine WL.mv rfl rfl ?_
  refine WL.mv rfl rfl ?_
  refine WL.mv rfl rfl ?_
  refine WL.mv rfl rfl ?_
  refine WL.mv rfl rfl ?_
  obtain ⟨v2, hv16, hm⟩ := bind_some hm
  refine WL.op rfl (.slc hv16 Tryd.underlying23 Tryd.sizeOf9 (.tmp rfl) (.tmp rfl) (.tmp rfl)) ?_
  obtain ⟨v3, hv17, hm⟩ := bind_some hm
  refine WL.op rfl (.callF (ok := (fun s : (List Str) × ((List Str)) => does s.1 = some s.2)) (As := (fun s : (List Str) × ((List Str)) => [(tL tS).is s.1])) (A := (fun s : (List Str) × ((List Str)) => ((tL tS).is s.2))) (s := (v2, v3)) (.tmp rfl) hv17 ⟨(.tmp rfl), trivial⟩) ?_
  obtain ⟨out2, hv18, hm⟩ := bind_some hm
  refine WL.opR rfl (OpR.appC (key := 10) hv18 Tryd.underlying23 el9 (.tmp rfl) (.tmp rfl) rfl) (fun k2 => ?_)
  refine WL.gv rfl rfl ?_
  refine WL.nil ?_
  refine WN.block ?_
  refine WN.seq ?_
  refine W.region ?_
  refine WL.op rfl (.addI (.tmp rfl) .i64 (range_inR hi5 hp10 hlen6)) ?_
  refine WL.mv rfl rfl ?_
  refine WL.nil ?_
  exact WN.again es.length (i + 1, pre ++ [e], es, ((out2, v1), k2)) (range_lt hn7) ⟨rfl, range_step hxs4, range_idx hi5, hm⟩ ⟨Ent.q rfl, Ent.q rfl, Ent.q rfl, Ent.q rfl, Ent.q rfl, Ent.q rfl, Ent.q rfl, Ent.q rfl, Ent.q rfl, trivial⟩ ⟨rfl, rfl, trivial⟩
 ·have hrest12 := range_end hxs4 hi5 (of_decide_eq_false hc9)
  subst hrest12
  rw [M.wordseq_each_loop1.eq_1] at hm
  refine W.exit rfl ?_
  have hr19 := Option.some.inj hm
  clear hm
  subst hr19
  have hm := hk3
  try dsimp only at hm
  refine WN.seq ?_
  refine W.sr ?_
  refine WL.mv rfl rfl ?_
  refine WL.mv rfl rfl ?_
  refine WL.mv rfl rfl ?_
  obtain ⟨v4, hv20, hm⟩ := bind_some hm
  refine WL.op rfl (.slcLo hv20 Tryd.underlying23 Tryd.sizeOf9 (.tmp rfl) (.tmp rfl)) ?_
  obtain ⟨out3, hv21, hm⟩ := bind_some hm
  refine WL.opR rfl (OpR.appC (key := 10) hv21 Tryd.underlying23 el9 (.tmp rfl) (.tmp rfl) rfl) (fun k3 => ?_)
  refine WL.mv rfl rfl ?_
  refine WL.op rfl (.lenL Tryd.underlying35 (.tmp rfl)) ?_
  refine WL.gv rfl rfl ?_
  refine WL.gv rfl rfl ?_
  refine WL.ns ?_
  cases hm
  exact W.ret2 () rfl rfl (Opd.own (.tmp rfl)) (.tmp rfl) trivial

theorem wordseq_Replace_spec (n : Nat) (l : List Str) (old : List Str) (fresh : List Str) (nth : Int) (r : (List Str) × Int) (hm : M.wordseq_Replace n l old fresh nth = some r) : FSpec Tryd.prog 15 [((tL tS).is l), ((tL tS).is old), ((tL tS).is fresh), ((tI .i64).is nth)] (Asn.tuple2 ((tL tS).is r.1) ((tI .i64).is r.2)) := by
 unfold M.wordseq_Replace at hm
 refine FSpec.of Tryd.func15 rfl rfl rfl (fun g0 => ?_)
 refine W.sr ?_
 refine WL.op rfl (.box (.tmp rfl)) ?_
 refine WL.op rfl (.assign (.nil (t := tS))) ?_
 refine WL.op rfl (.assign .i64) ?_
 refine WL.nr ?_
 refine WL.mv rfl rfl ?_
 refine WL.mv rfl rfl ?_
 refine WL.mv rfl rfl ?_
 refine WL.mv rfl rfl ?_
 refine WL.mv rfl rfl ?_
 obtain ⟨chosen, hv1, hm⟩ := bind_some hm
 refine WL.op rfl (.call Tryd.call27 (wordseq_chosen_spec _ _ _ _ _ hv1) ⟨(.tmp rfl), (.tmp rfl), (.tmp rfl), trivial⟩) ?_
 refine WL.op rfl (.makeFunc (ok := (fun s : (List Str) × ((List Str)) => (fun s0 => M.wordseq_Replace_1 s0 fresh) s.1 = some s.2)) (As := (fun s : (List Str) × ((List Str)) => [(tL tS).is s.1])) (A := (fun s : (List Str) × ((List Str)) => ((tL tS).is s.2))) (Cs := [((tL tS).ptr fresh)]) (cap := [.tmp 6]) Tryd.call28 ⟨(.tmp rfl), trivial⟩ (fun s hs => wordseq_Replace_1_spec _ _ _ hs)) ?_
 obtain ⟨each, hv2, hm⟩ := bind_some hm
 refine WL.op rfl (.call Tryd.call26 (wordseq_each_spec _ _ _ _ _ hv2) ⟨(.tmp rfl), (.tmp rfl), (.tmp rfl), (.tmp rfl), trivial⟩) ?_
 refine WL.op rfl (.extract0 (.tmp rfl)) ?_
 refine WL.op rfl (.extract1 (.tmp rfl)) ?_
 refine WL.gv rfl rfl ?_
 refine WL.gv rfl rfl ?_
 refine WL.ns ?_
 cases hm
 exact W.ret2 () rfl rfl (.tmp rfl) (.tmp rfl) trivial

theorem slices_Clone_string_string_spec (l : List Str) (r : List Str) (hm : M.slices_Clone_string_string l = some r) : FSpecR Tryd.prog 29 [(tL tS).is l] [] (fun k : Tok => tO tS k r) (fun k => [(5, Dec.Own tS 9 k r.length)]) := by
 unfold M.slices_Clone_string_string at hm
 refine FSpecR.of Tryd.func29 rfl rfl rfl (fun g0 => ?_)
 refine W.seq ?_
 refine W.region ?_
 refine WL.op rfl (.assign (.nil (t := tS))) ?_
 refine WL.nil ?_
 refine WN.seq ?_
 refine W.seq ?_
 refine W.seq ?_
 refine W.region ?_
 refine WL.op rfl (.move (.tmp rfl)) ?_
 refine WL.opR rfl (OpR.eqNil Tryd.underlying23 (.tmp rfl)) (fun b => ?_)
 refine WL.nil ?_
 refine WN.seq ?_
 refine W.cond (.tmp rfl) (fun hc => ?_) (fun hc => ?_)
 ·have hl := b.2 hc
  subst hl
  have hr : [] = r := by simpa [appC] using hm
  subst hr
  refine W.seq ?_
  refine W.region ?_
  refine WL.addNil (t := tS) (E := 9) 5 ?_
  refine WL.op rfl (.assign (Opd.nilO (t := tS))) ?_
  refine WL.nil ?_
  refine WN.seq ?_
  exact W.ret1 (none : Tok) rfl (.tmp rfl) ⟨rfl, rfl, trivial⟩
 ·refine W.skip ?_
  refine WN.seq ?_
  refine W.seq ?_
  refine W.region ?_
  refine WL.opR rfl (OpR.buildSlice (n := 0) (ys := []) (z := ([] : Str)) (xs := []) 5 Tryd.underlying23 el9 ze9 trivial (by simp) (by decide) rfl) (fun k5 => ?_)
  refine WL.op rfl (.move (.tmp rfl)) ?_
  refine WL.opR rfl (OpR.appC (key := 5) hm Tryd.underlying23 el9 (.tmp rfl) (.tmp rfl) rfl) (fun k7 => ?_)
  refine WL.op rfl (.assign (.tmp rfl)) ?_
  refine WL.nil ?_
  refine WN.seq ?_
  exact W.ret1 k7 rfl (.tmp rfl) ⟨rfl, rfl, trivial⟩

theorem slices_Grow_string_string_spec (n : Int) {x : Unit} (hm : growC n = some x) : FSpecR Tryd.prog 39 [tO tS none [], (tI .i64).is n] [] (fun k : Tok => tO tS k []) (fun k => [(22, Dec.Own tS 9 k 0)]) := by
 have hn : 0 ≤ n ∧ n ≤ 274877906944 := by unfold growC at hm; split at hm; assumption; cases hm
 clear hm
 have e1 : n - ((0 : Int) - 0) = n := by omega
 refine FSpecR.of Tryd.func39 rfl rfl rfl (fun g0 => ?_)
 refine W.seq ?_
 refine W.region ?_
 refine WL.op rfl (.assign (.nil (t := tS))) ?_
 refine WL.nil ?_
 refine WN.seq ?_
 refine W.seq ?_
 refine W.seq ?_
 refine W.region ?_
 refine WL.op rfl (.move (.tmp rfl)) ?_
 refine WL.op rfl (.ltI (.tmp rfl) .i64) ?_
 refine WL.nil ?_
 refine WN.seq ?_
 refine W.cond (.tmp rfl) (fun hc => ?_) (fun hc => ?_)
 ·exact absurd (of_decide_eq_true hc) (by omega)
 ·refine W.skip ?_
  refine WN.seq ?_
  refine W.seq ?_
  refine W.seq ?_
  refine W.region ?_
  refine WL.op rfl (.move (.tmp rfl)) ?_
  refine WL.op rfl (.move (.tmp rfl)) ?_
  refine WL.op rfl (.capNil Tryd.underlying23 (.tmp rfl)) ?_
  refine WL.op rfl (.move (.tmp rfl)) ?_
  refine WL.op rfl (.lenL Tryd.underlying23 (Opd.own (.tmp rfl))) ?_
  refine WL.op rfl (.subI (.tmp rfl) (.tmp rfl) (inR64.2 (by simp))) ?_
  refine WL.op rfl (.subI (.tmp rfl) (.tmp rfl) (inR64.2 (by simp; omega))) ?_
  refine WL.op rfl (.assign (.tmp rfl)) ?_
  refine WL.nil ?_
  refine WN.seq ?_
  refine W.seq ?_
  refine W.region ?_
  refine WL.op rfl (.move (.tmp rfl)) ?_
  refine WL.op rfl (.gtI (.tmp rfl) .i64) ?_
  refine WL.nil ?_
  refine WN.seq ?_
  refine W.cond (.tmp rfl) (fun hc2 => ?_) (fun hc2 => ?_)
  ·have hp := of_decide_eq_true hc2
   refine W.region ?_
   refine WL.op rfl (.move (.tmp rfl)) ?_
   refine WL.op rfl (.move (.tmp rfl)) ?_
   refine WL.op rfl (.capNil Tryd.underlying23 (.tmp rfl)) ?_
   refine WL.op rfl (.sliceNilHi (t := tS) Tryd.underlying23 Tryd.sizeOf9 (.tmp rfl) (.tmp rfl)) ?_
   refine WL.op rfl (.move (.tmp rfl)) ?_
   refine WL.opR rfl (OpR.growNil (key := 22) Tryd.underlying23 Tryd.underlying3 el9 (.tmp rfl) (.tmp rfl) hp (by simp; omega)) (fun k => ?_)
   refine WL.op rfl (.move (.tmp rfl)) ?_
   refine WL.op rfl (.lenL Tryd.underlying23 (Opd.own (.tmp rfl))) ?_
   refine WL.op rfl (.rawHi (t := tS) Tryd.underlying23 Tryd.sizeOf9 (.tmp rfl) (.tmp rfl)) ?_
   refine WL.op rfl (.assign (.tmp rfl)) ?_
   refine WL.nil ?_
   refine WN.seq ?_
   refine W.seq ?_
   refine W.region ?_
   refine WL.op rfl (.move (.tmp rfl)) ?_
   refine WL.op rfl (.assign (.tmp rfl)) ?_
   refine WL.nil ?_
   refine WN.seq ?_
   exact W.ret1 k rfl (.tmp rfl) ⟨rfl, rfl, trivial⟩
  ·refine W.skip ?_
   refine WN.seq ?_
   refine W.seq ?_
   refine W.region ?_
   refine WL.addNil (t := tS) (E := 9) 22 ?_
   refine WL.op rfl (.move (.tmp rfl)) ?_
   refine WL.op rfl (.assign (.tmp rfl)) ?_
   refine WL.nil ?_
   refine WN.seq ?_
   exact W.ret1 (none : Tok) rfl (.tmp rfl) ⟨rfl, rfl, trivial⟩

theorem slices_Concat_string_string_spec (slices : List (List Str)) (r : (List Str)) (hm : M.slices_Concat_string_string slices = some r) : FSpec Tryd.prog 30 [((tL (tL tS)).is slices)] ((tL tS).is r) := by
 unfold M.slices_Concat_string_string at hm
 refine FSpec.of Tryd.func30 rfl rfl rfl (fun g0 => ?_)
 refine W.sr ?_
 refine WL.op rfl (.assign (.nil (t := tS))) ?_
 refine WL.nr ?_
 refine WL.op rfl (.assign .i64) ?_
 refine WL.ns ?_
 refine W.seq ?_
 refine W.sr ?_
 refine WL.mv rfl rfl ?_
 refine WL.op rfl (.lenL Tryd.underlying42 (.tmp rfl)) ?_
 refine WL.op rfl (.move .i64) ?_
 refine WL.ns ?_
 refine W.block ?_
 obtain ⟨s1, hs2, hk3⟩ := bind_some hm
 clear hm
 refine W.loop (fun m (s : Int × List (List Str) × List (List Str) × Int) => m = s.2.2.1.length ∧ slices = s.2.1 ++ s.2.2.1 ∧ s.1 = (s.2.1.length : Int) ∧ M.slices_Concat_string_string_loop1 s.2.2.1 s.2.2.2 = some s1) (fun s => [(11, ((tI .i64).is s.1)), (3, ((tI .i64).is s.2.2.2)), (0, ((tL (tL tS)).is slices)), (9, ((tL (tL tS)).is slices)), (10, ((tI .i64).is (slices.length : Int)))]) (fun s => []) slices.length ((0 : Int), [], slices, (0 : Int)) ⟨rfl, rfl, rfl, hs2⟩ ⟨Ent.q rfl, Ent.q rfl, Ent.q rfl, Ent.q rfl, Ent.q rfl, trivial⟩ trivial ?_
 rintro m ⟨i, pre, rest3, size⟩ ⟨hn7, hxs4, hi5, hm⟩
 try dsimp only at hn7 hxs4 hi5 hm
 change W _ _ _ _ _ _ _ [(11, ((tI .i64).is i)), (3, ((tI .i64).is size)), (0, ((tL (tL tS)).is slices)), (9, ((tL (tL tS)).is slices)), (10, ((tI .i64).is (slices.length : Int)))] []
 refine W.lenL (s := 9) (.tmp rfl) fun hlen6 => ?_
 refine W.sr ?_
 refine WL.op rfl (.ltI (.tmp rfl) (.tmp rfl)) ?_
 refine WL.ns ?_
 refine W.seq ?_
 refine W.cond (.tmp rfl) (fun hc9 => ?_) (fun hc9 => ?_)
 ·have hp10 := of_decide_eq_true hc9
  obtain ⟨e, es, hrest12⟩ := range_more hxs4 hi5 hp10
  subst hrest12
  rw [M.slices_Concat_string_string_loop1.eq_2] at hm
  refine W.skip ?_
  refine WN.seq ?_
  refine W.seq ?_
  refine W.block ?_
  refine W.sr ?_
  refine WL.op rfl (.idxPre hxs4 hi5 Tryd.underlying42 Tryd.sizeOf23 (.tmp rfl) (.tmp rfl)) ?_
  refine WL.op rfl (.load ty23 (.tmp rfl)) ?_
  refine WL.gv rfl rfl ?_
  refine WL.nr ?_
  refine WL.mv rfl rfl ?_
  refine WL.mv rfl rfl ?_
  refine WL.op rfl (.lenL Tryd.underlying23 (.tmp rfl)) ?_
  obtain ⟨v, hv13, hm⟩ := bind_some hm
  refine WL.op rfl (.addC hv13 (.tmp rfl) (.tmp rfl)) ?_
  refine WL.gv rfl rfl ?_
  refine WL.nr ?_
  refine WL.mv rfl rfl ?_
  refine WL.op rfl (.ltI (.tmp rfl) .i64) ?_
  refine WL.ns ?_
  refine W.cond (.tmp rfl) (fun hc14 => ?_) (fun hc14 => ?_)
  ·have hp15 := of_decide_eq_true hc14
   rw [if_pos hp15] at hm
   cases hm
  ·have hp15 := of_decide_eq_false hc14
   rw [if_neg hp15] at hm
   refine W.skip ?_
   refine WN.block ?_
   refine WN.seq ?_
   refine W.region ?_
   refine WL.op rfl (.addI (.tmp rfl) .i64 (range_inR hi5 hp10 hlen6)) ?_
   refine WL.mv rfl rfl ?_
   refine WL.nil ?_
   exact WN.again es.length (i + 1, pre ++ [e], es, v) (range_lt hn7) ⟨rfl, range_step hxs4, range_idx hi5, hm⟩ ⟨Ent.q rfl, Ent.q rfl, Ent.q rfl, Ent.q rfl, Ent.q rfl, trivial⟩ trivial
 ·have hrest12 := range_end hxs4 hi5 (of_decide_eq_false hc9)
  subst hrest12
  rw [M.slices_Concat_string_string_loop1.eq_1] at hm
  refine W.exit rfl ?_
  have hr16 := Option.some.inj hm
  clear hm
  subst hr16
  have hm := hk3
  try dsimp only at hm
  refine WN.seq ?_
  refine W.sr ?_
  refine WL.mv rfl rfl ?_
  obtain ⟨_, hv17, hm⟩ := bind_some hm
  refine WL.opR rfl (OpR.call (us := []) Tryd.call39 ((slices_Grow_string_string_spec _ hv17).rekey 24) rfl ⟨Opd.nilO, (.tmp rfl), trivial⟩) (fun k => ?_)
  refine WL.gv rfl rfl ?_
  refine WL.ns ?_
  refine W.seq ?_
  refine W.sr ?_
  refine WL.mv rfl rfl ?_
  refine WL.op rfl (.lenL Tryd.underlying42 (.tmp rfl)) ?_
  refine WL.op rfl (.move .i64) ?_
  refine WL.ns ?_
  refine W.block ?_
  obtain ⟨s18, hs19, hk20⟩ := bind_some hm
  clear hm
  refine W.loop (fun m (s : Int × List (List Str) × List (List Str) × (((List Str)) × Tok)) => m = s.2.2.1.length ∧ slices = s.2.1 ++ s.2.2.1 ∧ s.1 = (s.2.1.length : Int) ∧ M.slices_Concat_string_string_loop2 s.2.2.1 s.2.2.2.1 = some s18) (fun s => [(27, ((tI .i64).is s.1)), (6, (tO tS s.2.2.2.2 s.2.2.2.1)), (25, ((tL (tL tS)).is slices)), (26, ((tI .i64).is (slices.length : Int)))]) (fun s => [(24, Dec.Own tS 9 s.2.2.2.2 s.2.2.2.1.length)]) slices.length ((0 : Int), [], slices, (([] : List Str), k)) ⟨rfl, rfl, rfl, hs19⟩ ⟨Ent.q rfl, Ent.q rfl, Ent.q rfl, Ent.q rfl, trivial⟩ ⟨rfl, rfl, trivial⟩ ?_
  rintro m ⟨i1, pre1, rest2, ⟨newslice, k1⟩⟩ ⟨hn24, hxs21, hi22, hm⟩
  try dsimp only at hn24 hxs21 hi22 hm
  change W _ _ _ _ _ _ _ [(27, ((tI .i64).is i1)), (6, (tO tS k1 newslice)), (25, ((tL (tL tS)).is slices)), (26, ((tI .i64).is (slices.length : Int)))] [(24, Dec.Own tS 9 k1 newslice.length)]
  refine W.lenL (s := 25) (.tmp rfl) fun hlen23 => ?_
  refine W.sr ?_
  refine WL.op rfl (.ltI (.tmp rfl) (.tmp rfl)) ?_
  refine WL.ns ?_
  refine W.seq ?_
  refine W.cond (.tmp rfl) (fun hc26 => ?_) (fun hc26 => ?_)
  ·have hp27 := of_decide_eq_true hc26
   obtain ⟨e1, es1, hrest29⟩ := range_more hxs21 hi22 hp27
   subst hrest29
   rw [M.slices_Concat_string_string_loop2.eq_2] at hm
   refine W.skip ?_
   refine WN.seq ?_
   refine W.seq ?_
   refine W.block ?_
   refine W.sr ?_
   refine WL.op rfl (.idxPre hxs21 hi22 Tryd.underlying42 Tryd.sizeOf23 (.tmp rfl) (.tmp rfl)) ?_
   refine WL.op rfl (.load ty23 (.tmp rfl)) ?_
   refine WL.gv rfl rfl ?_
   refine WL.nr1 ?_
   refine WL.mv rfl rfl ?_
   refine WL.mv rfl rfl ?_
   obtain ⟨out, hv30, hm⟩ := bind_some hm
   refine WL.opR rfl (OpR.appC (key := 24) hv30 Tryd.underlying23 el9 (.tmp rfl) (.tmp rfl) rfl) (fun k2 => ?_)
   refine WL.gv rfl rfl ?_
   refine WL.nil ?_
   refine WN.block ?_
   refine WN.seq ?_
   refine W.region ?_
   refine WL.op rfl (.addI (.tmp rfl) .i64 (range_inR hi22 hp27 hlen23)) ?_
   refine WL.mv rfl rfl ?_
   refine WL.nil ?_
   exact WN.again es1.length (i1 + 1, pre1 ++ [e1], es1, (out, k2)) (range_lt hn24) ⟨rfl, range_step hxs21, range_idx hi22, hm⟩ ⟨Ent.q rfl, Ent.q rfl, Ent.q rfl, Ent.q rfl, trivial⟩ ⟨rfl, rfl, trivial⟩
  ·have hrest29 := range_end hxs21 hi22 (of_decide_eq_false hc26)
   subst hrest29
   rw [M.slices_Concat_string_string_loop2.eq_1] at hm
   refine W.exit rfl ?_
   have hr31 := Option.some.inj hm
   clear hm
   subst hr31
   have hm := hk20
   try dsimp only at hm
   refine WN.seq ?_
   refine W.sr ?_
   refine WL.mv rfl rfl ?_
   refine WL.gv rfl rfl ?_
   refine WL.ns ?_
   cases hm
   exact W.ret1 () rfl (Opd.own (.tmp rfl)) trivial

theorem wordseq_InsertAfter_1_spec (found : List Str) (c : List Str) (r : (List Str)) (hm : M.wordseq_InsertAfter_1 found c = some r) : FSpec Tryd.prog 31 [((tL tS).is found), ((tL tS).ptr c)] ((tL tS).is r) := by
 unfold M.wordseq_InsertAfter_1 at hm
 refine FSpec.of Tryd.func31 rfl rfl rfl (fun g0 => ?_)
 refine W.sr ?_
 refine WL.op rfl (.assign (.nil (t := tS))) ?_
 refine WL.nr ?_
 refine WL.mv rfl rfl ?_
 refine WL.op rfl (.load ty23 (.tmp rfl)) ?_
 refine WL.op rfl (.buildSlice (n := 2) (ys := [(0, found), (1, c)]) (z := ([] : List Str)) (xs := [found, c]) Tryd.underlying42 el23 ze23 ⟨rfl, (.tmp rfl), rfl, (.tmp rfl), trivial⟩ (by simp) (by decide) rfl) ?_
 obtain ⟨string, hv1, hm⟩ := bind_some hm
 refine WL.op rfl (.call Tryd.call30 (slices_Concat_string_string_spec _ _ hv1) ⟨(.tmp rfl), trivial⟩) ?_
 refine WL.gv rfl rfl ?_
 refine WL.ns ?_
 cases hm
 exact W.ret1 () rfl (.tmp rfl) trivial

theorem wordseq_InsertAfter_spec (n : Nat) (l : List Str) (part : List Str) (fresh : List Str) (nth : Int) (r : (List Str) × Int) (hm : M.wordseq_InsertAfter n l part fresh nth = some r) : FSpec Tryd.prog 16 [((tL tS).is l), ((tL tS).is part), ((tL tS).is fresh), ((tI .i64).is nth)] (Asn.tuple2 ((tL tS).is r.1) ((tI .i64).is r.2)) := by
 unfold M.wordseq_InsertAfter at hm
 refine FSpec.of Tryd.func16 rfl rfl rfl (fun g0 => ?_)
 refine W.sr ?_
 refine WL.op rfl (.box (.tmp rfl)) ?_
 refine WL.op rfl (.assign (.nil (t := tS))) ?_
 refine WL.op rfl (.assign .i64) ?_
 refine WL.ns ?_
 refine W.seq ?_
 refine W.sr ?_
 refine WL.mv rfl rfl ?_
 refine WL.op rfl (.lenL Tryd.underlying23 (.tmp rfl)) ?_
 refine WL.op rfl (.eqI (.tmp rfl) .i64) ?_
 refine WL.ns ?_
 refine W.cond (.tmp rfl) (fun hc1 => ?_) (fun hc1 => ?_)
 ·have hp2 := of_decide_eq_true hc1
  rw [if_pos hp2] at hm
  refine W.seq ?_
  refine W.sr ?_
  refine WL.mv rfl rfl ?_
  refine WL.op rfl (.neI (.tmp rfl) .i64) ?_
  refine WL.ns ?_
  refine W.cond (.tmp rfl) (fun hc3 => ?_) (fun hc3 => ?_)
  ·have hp4 := of_decide_eq_true hc3
   rw [if_pos hp4] at hm
   refine W.sr ?_
   refine WL.mv rfl rfl ?_
   obtain ⟨string, hv5, hm⟩ := bind_some hm
   refine WL.op rfl (.call Tryd.call29 ((slices_Clone_string_string_spec _ _ hv5).read fun _ _ _ => tO_tL) ⟨(.tmp rfl), trivial⟩) ?_
   refine WL.gv rfl rfl ?_
   refine WL.op rfl (.assign .i64) ?_
   refine WL.ns ?_
   cases hm
   exact W.ret2 () rfl rfl (.tmp rfl) (.tmp rfl) trivial
  ·have hp4 := of_decide_eq_false hc3
   rw [if_neg hp4] at hm
   refine W.skip ?_
   refine WN.seq ?_
   refine W.sr ?_
   refine WL.op rfl (.load ty23 (.tmp rfl)) ?_
   refine WL.mv rfl rfl ?_
   refine WL.op rfl (.buildSlice (n := 2) (ys := [(0, fresh), (1, l)]) (z := ([] : List Str)) (xs := [fresh, l]) Tryd.underlying42 el23 ze23 ⟨rfl, (.tmp rfl), rfl, (.tmp rfl), trivial⟩ (by simp) (by decide) rfl) ?_
   obtain ⟨string1, hv6, hm⟩ := bind_some hm
   refine WL.op rfl (.call Tryd.call30 (slices_Concat_string_string_spec _ _ hv6) ⟨(.tmp rfl), trivial⟩) ?_
   refine WL.gv rfl rfl ?_
   refine WL.op rfl (.assign .i64) ?_
   refine WL.ns ?_
   cases hm
   exact W.ret2 () rfl rfl (.tmp rfl) (.tmp rfl) trivial
 ·have hp2 := of_decide_eq_false hc1
  rw [if_neg hp2] at hm
  refine W.skip ?_
  refine WN.seq ?_
  refine W.sr ?_
  refine WL.mv rfl rfl ?_
  refine WL.mv rfl rfl ?_
  refine WL.mv rfl rfl ?_
  refine WL.mv rfl rfl ?_
  refine WL.mv rfl rfl ?_
  obtain ⟨chosen, hv7, hm⟩ := bind_some hm
  refine WL.op rfl (.call Tryd.call27 (wordseq_chosen_spec _ _ _ _ _ hv7) ⟨(.tmp rfl), (.tmp rfl), (.tmp rfl), trivial⟩) ?_
  refine WL.op rfl (.makeFunc (ok := (fun s : (List Str) × ((List Str)) => (fun s0 => M.wordseq_InsertAfter_1 s0 fresh) s.1 = some s.2)) (As := (fun s : (List Str) × ((List Str)) => [(tL tS).is s.1])) (A := (fun s : (List Str) × ((List Str)) => ((tL tS).is s.2))) (Cs := [((tL tS).ptr fresh)]) (cap := [.tmp 6]) Tryd.call31 ⟨(.tmp rfl), trivial⟩ (fun s hs => wordseq_InsertAfter_1_spec _ _ _ hs)) ?_
  obtain ⟨each, hv8, hm⟩ := bind_some hm
  refine WL.op rfl (.call Tryd.call26 (wordseq_each_spec _ _ _ _ _ hv8) ⟨(.tmp rfl), (.tmp rfl), (.tmp rfl), (.tmp rfl), trivial⟩) ?_
  refine WL.op rfl (.extract0 (.tmp rfl)) ?_
  refine WL.op rfl (.extract1 (.tmp rfl)) ?_
  refine WL.gv rfl rfl ?_
  refine WL.gv rfl rfl ?_
  refine WL.ns ?_
  cases hm
  exact W.ret2 () rfl rfl (.tmp rfl) (.tmp rfl) trivial

theorem r04_Same_spec (n : Nat) (a : List Str) (b : List Str) (r : Bool) (hm : M.r04_Same n a b = some r) : FSpec Tryd.prog 8 [((tL tS).is a), ((tL tS).is b)] (tB.is r) := by
 unfold M.r04_Same at hm
 refine FSpec.of Tryd.func8 rfl rfl rfl (fun g0 => ?_)
 refine W.sr ?_
 refine WL.op rfl (.assign .bool) ?_
 refine WL.ns ?_
 refine W.seq ?_
 refine W.sr ?_
 refine WL.mv rfl rfl ?_
 refine WL.op rfl (.lenL Tryd.underlying23 (.tmp rfl)) ?_
 refine WL.mv rfl rfl ?_
 refine WL.op rfl (.lenL Tryd.underlying23 (.tmp rfl)) ?_
 refine WL.op rfl (.neI (.tmp rfl) (.tmp rfl)) ?_
 refine WL.ns ?_
 refine W.cond (.tmp rfl) (fun hc1 => ?_) (fun hc1 => ?_)
 ·have hp2 := of_decide_eq_true hc1
  rw [if_pos hp2] at hm
  refine W.sr ?_
  refine WL.op rfl (.assign .bool) ?_
  refine WL.ns ?_
  cases hm
  exact W.ret1 () rfl (.tmp rfl) trivial
 ·have hp2 := of_decide_eq_false hc1
  rw [if_neg hp2] at hm
  refine W.skip ?_
  refine WN.seq ?_
  refine W.seq ?_
  refine W.sr ?_
  refine WL.op rfl (.assign .i64) ?_
  refine WL.ns ?_
  refine W.block ?_
  obtain ⟨s3, hs4, hk5⟩ := bind_some hm
  clear hm
  refine W.loop (fun m (s : Int) => M.r04_Same_loop1 a b m s = some s3) (fun s => [(5, ((tI .i64).is s)), (0, ((tL tS).is a)), (1, ((tL tS).is b))]) (fun s => []) _ (0 : Int) hs4 ⟨Ent.q rfl, Ent.q rfl, Ent.q rfl, trivial⟩ trivial ?_
  rintro n6 i hm
  try dsimp only at hm
  change W _ _ _ _ _ _ _ [(5, ((tI .i64).is i)), (0, ((tL tS).is a)), (1, ((tL tS).is b))] []
  cases n6 with
  | zero => rw [M.r04_Same_loop1.eq_1] at hm; cases hm
  | succ n6 =>
   rw [M.r04_Same_loop1.eq_2] at hm
   refine W.seq ?_
   refine W.sr ?_
   refine WL.mv rfl rfl ?_
   refine WL.mv rfl rfl ?_
   refine WL.op rfl (.lenL Tryd.underlying23 (.tmp rfl)) ?_
   refine WL.op rfl (.ltI (.tmp rfl) (.tmp rfl)) ?_
   refine WL.ns ?_
   refine W.cond (.tmp rfl) (fun hc7 => ?_) (fun hc7 => ?_)
   ·have hp8 := of_decide_eq_true hc7
    rw [if_pos hp8] at hm
    refine W.skip ?_
    refine WN.seq ?_
    refine W.seq ?_
    refine W.block ?_
    refine W.seq ?_
    obtain ⟨v, hv9, hm⟩ := bind_some hm
    obtain ⟨v1, hv10, hm⟩ := bind_some hm
    refine W.draw [.c ((tL tS).is a), .c ((tI .i64).is i), .c (tS.ptr v), .c (tS.is v), .c ((tL tS).is b), .c ((tI .i64).is i), .c (tS.ptr v1), .c (tS.is v1), .c (tB.is (v != v1))] [([], [0]), ([], [5]), ([0, 1], []), ([2], []), ([], [1]), ([], [5]), ([4, 5], []), ([6], []), ([3, 7], [])] Tryd.mixed rfl rfl rfl rfl ⟨.inr (Op1.move (.tmp rfl)), .inr (Op1.move (.tmp rfl)), .inr (Op1.idx hv9 Tryd.underlying23 Tryd.sizeOf9 (.tmp rfl) (.tmp rfl)), .inr (Op1.load ty9 (.tmp rfl)), .inr (Op1.move (.tmp rfl)), .inr (Op1.move (.tmp rfl)), .inr (Op1.idx hv10 Tryd.underlying23 Tryd.sizeOf9 (.tmp rfl) (.tmp rfl)), .inr (Op1.load ty9 (.tmp rfl)), .inr (Op1.neS (.tmp rfl) (.tmp rfl)), trivial⟩ ?_
    refine WN.seq ?_
    refine W.cond (.tmp rfl) (fun hc11 => ?_) (fun hc11 => ?_)
    ·have hp12 := hc11
     rw [if_pos hp12] at hm
     refine W.sr ?_
     refine WL.op rfl (.assign .bool) ?_
     refine WL.ns ?_
     have hr13 := Option.some.inj hm
     clear hm
     subst hr13
     have hm := hk5
     try dsimp only at hm
     cases hm
     exact W.ret1 () rfl (.tmp rfl) trivial
    ·have hp12 := ne_of_false hc11
     rw [if_neg hp12] at hm
     refine W.skip ?_
     refine WN.block ?_
     refine WN.seq ?_
     refine W.region ?_
     refine WL.mv rfl rfl ?_
     refine WL.lenL (s := 0) (.tmp rfl) fun hl14 => ?_
     refine WL.op rfl (.addI1 (.tmp rfl) .i64 hp8 hl14) ?_
     refine WL.gv rfl rfl ?_
     refine WL.nil ?_
     exact WN.again n6 (i + 1) (Nat.lt_succ_self n6) hm ⟨Ent.q rfl, Ent.q rfl, Ent.q rfl, trivial⟩ trivial
   ·have hp8 := of_decide_eq_false hc7
    rw [if_neg hp8] at hm
    refine W.exit rfl ?_
    have hr15 := Option.some.inj hm
    clear hm
    subst hr15
    have hm := hk5
    try dsimp only at hm
    refine WN.seq ?_
    refine W.sr ?_
    refine WL.op rfl (.assign .bool) ?_
    refine WL.ns ?_
    cases hm
    exact W.ret1 () rfl (.tmp rfl) trivial

theorem law04_awake_spec (n : Nat)  (r : Bool) (hm : M.law04_awake n  = some r) : FSpec Tryd.prog 5 [] (tB.is r) := by
 unfold M.law04_awake at hm
 refine FSpec.of Tryd.func5 rfl rfl rfl (fun g0 => ?_)
 refine W.sr ?_
 refine WL.op rfl (.assign .bool) ?_
 refine WL.nr ?_
 refine WL.op rfl (.buildSlice (n := 6) (ys := [(0, ([97] : Str)), (1, ([97] : Str)), (2, ([97] : Str)), (3, ([98] : Str)), (4, ([97] : Str)), (5, ([97] : Str))]) (z := ([] : Str)) (xs := [([97] : Str), ([97] : Str), ([97] : Str), ([98] : Str), ([97] : Str), ([97] : Str)]) Tryd.underlying23 el9 ze9 ⟨rfl, (.str rfl (by decide)), rfl, (.str rfl (by decide)), rfl, (.str rfl (by decide)), rfl, (.str rfl (by decide)), rfl, (.str rfl (by decide)), rfl, (.str rfl (by decide)), trivial⟩ (by simp) (by decide) rfl) ?_
 refine WL.op rfl (.buildSlice (n := 2) (ys := [(0, ([97] : Str)), (1, ([97] : Str))]) (z := ([] : Str)) (xs := [([97] : Str), ([97] : Str)]) Tryd.underlying23 el9 ze9 ⟨rfl, (.str rfl (by decide)), rfl, (.str rfl (by decide)), trivial⟩ (by simp) (by decide) rfl) ?_
 obtain ⟨findal, hv1, hm⟩ := bind_some hm
 refine WL.op rfl (.call Tryd.call14 (wordseq_FindAll_spec _ _ _ _ hv1) ⟨(.tmp rfl), (.tmp rfl), trivial⟩) ?_
 refine WL.gv rfl rfl ?_
 refine WL.nr ?_
 refine WL.op rfl (.buildSlice (n := 3) (ys := [(0, ([97] : Str)), (1, ([98] : Str)), (2, ([98] : Str))]) (z := ([] : Str)) (xs := [([97] : Str), ([98] : Str), ([98] : Str)]) Tryd.underlying23 el9 ze9 ⟨rfl, (.str rfl (by decide)), rfl, (.str rfl (by decide)), rfl, (.str rfl (by decide)), trivial⟩ (by simp) (by decide) rfl) ?_
 refine WL.op rfl (.buildSlice (n := 1) (ys := [(0, ([98] : Str))]) (z := ([] : Str)) (xs := [([98] : Str)]) Tryd.underlying23 el9 ze9 ⟨rfl, (.str rfl (by decide)), trivial⟩ (by simp) (by decide) rfl) ?_
 refine WL.op rfl (.buildSlice (n := 2) (ys := [(0, ([99] : Str)), (1, ([100] : Str))]) (z := ([] : Str)) (xs := [([99] : Str), ([100] : Str)]) Tryd.underlying23 el9 ze9 ⟨rfl, (.str rfl (by decide)), rfl, (.str rfl (by decide)), trivial⟩ (by simp) (by decide) rfl) ?_
 obtain ⟨replac, hv2, hm⟩ := bind_some hm
 refine WL.op rfl (.call Tryd.call15 (wordseq_Replace_spec _ _ _ _ _ _ hv2) ⟨(.tmp rfl), (.tmp rfl), (.tmp rfl), .i64, trivial⟩) ?_
 refine WL.mv rfl rfl ?_
 refine WL.op rfl (.extract0 (.tmp rfl)) ?_
 refine WL.op rfl (.extract1 (.tmp rfl)) ?_
 refine WL.gv rfl rfl ?_
 refine WL.gv rfl rfl ?_
 refine WL.nr ?_
 refine WL.op rfl (.buildSlice (n := 1) (ys := [(0, ([97] : Str))]) (z := ([] : Str)) (xs := [([97] : Str)]) Tryd.underlying23 el9 ze9 ⟨rfl, (.str rfl (by decide)), trivial⟩ (by simp) (by decide) rfl) ?_
 refine WL.op rfl (.buildSlice (n := 1) (ys := [(0, ([120] : Str))]) (z := ([] : Str)) (xs := [([120] : Str)]) Tryd.underlying23 el9 ze9 ⟨rfl, (.str rfl (by decide)), trivial⟩ (by simp) (by decide) rfl) ?_
 obtain ⟨insert, hv3, hm⟩ := bind_some hm
 refine WL.op rfl (.call Tryd.call16 (wordseq_InsertAfter_spec _ _ _ _ _ _ hv3) ⟨(.tmp rfl), (.nil (t := tS)), (.tmp rfl), .i64, trivial⟩) ?_
 refine WL.mv rfl rfl ?_
 refine WL.op rfl (.extract0 (.tmp rfl)) ?_
 refine WL.op rfl (.extract1 (.tmp rfl)) ?_
 refine WL.gv rfl rfl ?_
 refine WL.gv rfl rfl ?_
 refine WL.nr ?_
 refine WL.mv rfl rfl ?_
 refine WL.op rfl (.lenL Tryd.underlying35 (.tmp rfl)) ?_
 refine WL.op rfl (.eqI (.tmp rfl) .i64) ?_
 refine WL.mv rfl rfl ?_
 rcases bcases (decide ((findal.length : Int) = (2 : Int))) with hb4 | hb4
 ·have hp5 := of_decide_eq_true hb4
  rw [if_pos hp5] at hm
  refine WL.run rfl rfl rfl rfl hb4 rfl rfl (Op1.move (.tmp rfl)) ?_
  obtain ⟨v, hv6, hm⟩ := bind_some hm
  refine WL.run rfl rfl rfl rfl hb4 rfl rfl (Op1.idx hv6 Tryd.underlying35 Tryd.sizeOf3 (.tmp rfl) .i64) ?_
  refine WL.run rfl rfl rfl rfl hb4 rfl rfl (Op1.load ty3 (.tmp rfl)) ?_
  refine WL.run rfl rfl rfl rfl hb4 rfl rfl (Op1.eqI (.tmp rfl) .i64) ?_
  refine WL.op rfl (.pickT (.tmp rfl) hb4 (.tmp rfl)) ?_
  refine WL.mv rfl rfl ?_
  rcases bcases (decide (v = (0 : Int))) with hb7 | hb7
  ·have hp8 := of_decide_eq_true hb7
   rw [if_pos hp8] at hm
   refine WL.run rfl rfl rfl rfl hb7 rfl rfl (Op1.move (.tmp rfl)) ?_
   obtain ⟨v1, hv9, hm⟩ := bind_some hm
   refine WL.run rfl rfl rfl rfl hb7 rfl rfl (Op1.idx hv9 Tryd.underlying35 Tryd.sizeOf3 (.tmp rfl) .i64) ?_
   refine WL.run rfl rfl rfl rfl hb7 rfl rfl (Op1.load ty3 (.tmp rfl)) ?_
   refine WL.run rfl rfl rfl rfl hb7 rfl rfl (Op1.eqI (.tmp rfl) .i64) ?_
   refine WL.op rfl (.pickT (.tmp rfl) hb7 (.tmp rfl)) ?_
   refine WL.mv rfl rfl ?_
   rcases bcases (decide (v1 = (4 : Int))) with hb10 | hb10
   ·have hp11 := of_decide_eq_true hb10
    rw [if_pos hp11] at hm
    refine WL.run rfl rfl rfl rfl hb10 rfl rfl (Op1.move (.tmp rfl)) ?_
    refine WL.run rfl rfl rfl rfl hb10 rfl rfl (Op1.buildSlice (n := 4) (ys := [(0, ([97] : Str)), (1, ([98] : Str)), (2, ([99] : Str)), (3, ([100] : Str))]) (z := ([] : Str)) (xs := [([97] : Str), ([98] : Str), ([99] : Str), ([100] : Str)]) Tryd.underlying23 el9 ze9 ⟨rfl, (.str rfl (by decide)), rfl, (.str rfl (by decide)), rfl, (.str rfl (by decide)), rfl, (.str rfl (by decide)), trivial⟩ (by simp) (by decide) rfl) ?_
    obtain ⟨same, hv12, hm⟩ := bind_some hm
    refine WL.run rfl rfl rfl rfl hb10 rfl rfl (Op1.call Tryd.call8 (r04_Same_spec _ _ _ _ hv12) ⟨(.tmp rfl), (.tmp rfl), trivial⟩) ?_
    refine WL.op rfl (.pickT (.tmp rfl) hb10 (.tmp rfl)) ?_
    refine WL.mv rfl rfl ?_
    rcases bcases (same) with hb13 | hb13
    ·have hp14 := hb13
     rw [if_pos hp14] at hm
     refine WL.run rfl rfl rfl rfl hb13 rfl rfl (Op1.move (.tmp rfl)) ?_
     refine WL.run rfl rfl rfl rfl hb13 rfl rfl (Op1.eqI (.tmp rfl) .i64) ?_
     refine WL.op rfl (.pickT (.tmp rfl) hb13 (.tmp rfl)) ?_
     refine WL.mv rfl rfl ?_
     rcases bcases (decide (replac.2 = (1 : Int))) with hb15 | hb15
     ·have hp16 := of_decide_eq_true hb15
      rw [if_pos hp16] at hm
      refine WL.run rfl rfl rfl rfl hb15 rfl rfl (Op1.move (.tmp rfl)) ?_
      refine WL.run rfl rfl rfl rfl hb15 rfl rfl (Op1.buildSlice (n := 2) (ys := [(0, ([120] : Str)), (1, ([97] : Str))]) (z := ([] : Str)) (xs := [([120] : Str), ([97] : Str)]) Tryd.underlying23 el9 ze9 ⟨rfl, (.str rfl (by decide)), rfl, (.str rfl (by decide)), trivial⟩ (by simp) (by decide) rfl) ?_
      obtain ⟨same1, hv17, hm⟩ := bind_some hm
      refine WL.run rfl rfl rfl rfl hb15 rfl rfl (Op1.call Tryd.call8 (r04_Same_spec _ _ _ _ hv17) ⟨(.tmp rfl), (.tmp rfl), trivial⟩) ?_
      refine WL.op rfl (.pickT (.tmp rfl) hb15 (.tmp rfl)) ?_
      refine WL.mv rfl rfl ?_
      rcases bcases (same1) with hb18 | hb18
      ·have hp19 := hb18
       rw [if_pos hp19] at hm
       refine WL.run rfl rfl rfl rfl hb18 rfl rfl (Op1.move (.tmp rfl)) ?_
       refine WL.run rfl rfl rfl rfl hb18 rfl rfl (Op1.eqI (.tmp rfl) .i64) ?_
       refine WL.op rfl (.pickT (.tmp rfl) hb18 (.tmp rfl)) ?_
       refine WL.gv rfl rfl ?_
       refine WL.ns ?_
       cases hm
       exact W.ret1 () rfl (.tmp rfl) trivial
      ·have hp19 := ne_of_false hb18
       rw [if_neg hp19] at hm
       iterate 2 refine WL.pass rfl rfl rfl rfl hb18 rfl rfl ?_
       refine WL.op rfl (.pickF (.tmp rfl) hb18 .bool) ?_
       refine WL.gv rfl rfl ?_
       refine WL.ns ?_
       cases hm
       exact W.ret1 () rfl (.tmp rfl) trivial
     ·have hp16 := of_decide_eq_false hb15
      rw [if_neg hp16] at hm
      iterate 3 refine WL.pass rfl rfl rfl rfl hb15 rfl rfl ?_
      refine WL.op rfl (.pickF (.tmp rfl) hb15 .bool) ?_
      refine WL.mv rfl rfl ?_
      iterate 2 refine WL.pass rfl rfl rfl rfl rfl rfl rfl ?_
      refine WL.op rfl (.pickF (.tmp rfl) rfl .bool) ?_
      refine WL.gv rfl rfl ?_
      refine WL.ns ?_
      cases hm
      exact W.ret1 () rfl (.tmp rfl) trivial
    ·have hp14 := ne_of_false hb13
     rw [if_neg hp14] at hm
     iterate 2 refine WL.pass rfl rfl rfl rfl hb13 rfl rfl ?_
     refine WL.op rfl (.pickF (.tmp rfl) hb13 .bool) ?_
     refine WL.mv rfl rfl ?_
     iterate 3 refine WL.pass rfl rfl rfl rfl rfl rfl rfl ?_
     refine WL.op rfl (.pickF (.tmp rfl) rfl .bool) ?_
     refine WL.mv rfl rfl ?_
     iterate 2 refine WL.pass rfl rfl rfl rfl rfl rfl rfl ?_
     refine WL.op rfl (.pickF (.tmp rfl) rfl .bool) ?_
     refine WL.gv rfl rfl ?_
     refine WL.ns ?_
     cases hm
     exact W.ret1 () rfl (.tmp rfl) trivial
   ·have hp11 := of_decide_eq_false hb10
    rw [if_neg hp11] at hm
    iterate 3 refine WL.pass rfl rfl rfl rfl hb10 rfl rfl ?_
    refine WL.op rfl (.pickF (.tmp rfl) hb10 .bool) ?_
    refine WL.mv rfl rfl ?_
    iterate 2 refine WL.pass rfl rfl rfl rfl rfl rfl rfl ?_
    refine WL.op rfl (.pickF (.tmp rfl) rfl .bool) ?_
    refine WL.mv rfl rfl ?_
    iterate 3 refine WL.pass rfl rfl rfl rfl rfl rfl rfl ?_
    refine WL.op rfl (.pickF (.tmp rfl) rfl .bool) ?_
    refine WL.mv rfl rfl ?_
    iterate 2 refine WL.pass rfl rfl rfl rfl rfl rfl rfl ?_
    refine WL.op rfl (.pickF (.tmp rfl) rfl .bool) ?_
    refine WL.gv rfl rfl ?_
    refine WL.ns ?_
    cases hm
    exact W.ret1 () rfl (.tmp rfl) trivial
  ·have hp8 := of_decide_eq_false hb7
   rw [if_neg hp8] at hm
   iterate 4 refine WL.pass rfl rfl rfl rfl hb7 rfl rfl ?_
   refine WL.op rfl (.pickF (.tmp rfl) hb7 .bool) ?_
   refine WL.mv rfl rfl ?_
   iterate 3 refine WL.pass rfl rfl rfl rfl rfl rfl rfl ?_
   refine WL.op rfl (.pickF (.tmp rfl) rfl .bool) ?_
   refine WL.mv rfl rfl ?_
   iterate 2 refine WL.pass rfl rfl rfl rfl rfl rfl rfl ?_
   refine WL.op rfl (.pickF (.tmp rfl) rfl .bool) ?_
   refine WL.mv rfl rfl ?_
   iterate 3 refine WL.pass rfl rfl rfl rfl rfl rfl rfl ?_
   refine WL.op rfl (.pickF (.tmp rfl) rfl .bool) ?_
   refine WL.mv rfl rfl ?_
   iterate 2 refine WL.pass rfl rfl rfl rfl rfl rfl rfl ?_
   refine WL.op rfl (.pickF (.tmp rfl) rfl .bool) ?_
   refine WL.gv rfl rfl ?_
   refine WL.ns ?_
   cases hm
   exact W.ret1 () rfl (.tmp rfl) trivial
 ·have hp5 := of_decide_eq_false hb4
  rw [if_neg hp5] at hm
  iterate 4 refine WL.pass rfl rfl rfl rfl hb4 rfl rfl ?_
  refine WL.op rfl (.pickF (.tmp rfl) hb4 .bool) ?_
  refine WL.mv rfl rfl ?_
  iterate 4 refine WL.pass rfl rfl rfl rfl rfl rfl rfl ?_
  refine WL.op rfl (.pickF (.tmp rfl) rfl .bool) ?_
  refine WL.mv rfl rfl ?_
  iterate 3 refine WL.pass rfl rfl rfl rfl rfl rfl rfl ?_
  refine WL.op rfl (.pickF (.tmp rfl) rfl .bool) ?_
  refine WL.mv rfl rfl ?_
  iterate 2 refine WL.pass rfl rfl rfl rfl rfl rfl rfl ?_
  refine WL.op rfl (.pickF (.tmp rfl) rfl .bool) ?_
  refine WL.mv rfl rfl ?_
  iterate 3 refine WL.pass rfl rfl rfl rfl rfl rfl rfl ?_
  refine WL.op rfl (.pickF (.tmp rfl) rfl .bool) ?_
  refine WL.mv rfl rfl ?_
  iterate 2 refine WL.pass rfl rfl rfl rfl rfl rfl rfl ?_
  refine WL.op rfl (.pickF (.tmp rfl) rfl .bool) ?_
  refine WL.gv rfl rfl ?_
  refine WL.ns ?_
  cases hm
  exact W.ret1 () rfl (.tmp rfl) trivial

theorem strings_Split_spec (s sep : Str) (r : List Str) (hm : splitM s sep = some r) : FSpecR Tryd.prog 17 [tS.is s, tS.is sep] [(700000, GlE 0)] (fun _ : Unit => (tL tS).is r) (fun _ => []) :=
 split_spec (fun s sep m w hs hm h1 => Tryd.strings_Split s sep m w hs hm h1) _ s sep r hm

theorem slices_IndexFunc_string_string_spec (n : Nat) (s0_ : List Str) (f : Str → Option Bool) (r : Int) (hm : M.slices_IndexFunc_string_string n s0_ f = some r) : FSpec Tryd.prog 33 [((tL tS).is s0_), (tF Tryd.prog (fun s : Str × Bool => f s.1 = some s.2) (fun s : Str × Bool => [tS.is s.1]) (fun s : Str × Bool => (tB.is s.2)))] ((tI .i64).is r) := by
 unfold M.slices_IndexFunc_string_string at hm
 refine FSpec.of Tryd.func33 rfl rfl rfl (fun g0 => ?_)
 refine W.sr ?_
 refine WL.op rfl (.assign .i64) ?_
 refine WL.ns ?_
 refine W.seq ?_
 refine W.sr ?_
 refine WL.mv rfl rfl ?_
 refine WL.op rfl (.lenL Tryd.underlying23 (.tmp rfl)) ?_
 refine WL.op rfl (.move .i64) ?_
 refine WL.ns ?_
 refine W.block ?_
 obtain ⟨s1, hs2, hk3⟩ := bind_some hm
 clear hm
 refine W.loop (fun m (s : Int) => M.slices_IndexFunc_string_string_loop1 s0_ f m s = some s1) (fun s => [(8, ((tI .i64).is s)), (0, ((tL tS).is s0_)), (1, (tF Tryd.prog (fun s : Str × Bool => f s.1 = some s.2) (fun s : Str × Bool => [tS.is s.1]) (fun s : Str × Bool => (tB.is s.2)))), (7, ((tI .i64).is (s0_.length : Int)))]) (fun s => []) _ (0 : Int) hs2 ⟨Ent.q rfl, Ent.q rfl, Ent.q rfl, Ent.q rfl, trivial⟩ trivial ?_
 rintro n4 v hm
 try dsimp only at hm
 change W _ _ _ _ _ _ _ [(8, ((tI .i64).is v)), (0, ((tL tS).is s0_)), (1, (tF Tryd.prog (fun s : Str × Bool => f s.1 = some s.2) (fun s : Str × Bool => [tS.is s.1]) (fun s : Str × Bool => (tB.is s.2)))), (7, ((tI .i64).is (s0_.length : Int)))] []
 cases n4 with
 | zero => rw [M.slices_IndexFunc_string_string_loop1.eq_1] at hm; cases hm
 | succ n4 =>
  rw [M.slices_IndexFunc_string_string_loop1.eq_2] at hm
  refine W.sr ?_
  refine WL.op rfl (.ltI (.tmp rfl) (.tmp rfl)) ?_
  refine WL.ns ?_
  refine W.seq ?_
  refine W.cond (.tmp rfl) (fun hc5 => ?_) (fun hc5 => ?_)
  ·have hp6 := of_decide_eq_true hc5
   rw [if_pos hp6] at hm
   refine W.skip ?_
   refine WN.seq ?_
   refine W.seq ?_
   refine W.block ?_
   refine W.sr ?_
   refine WL.mv rfl rfl ?_
   refine WL.gv rfl rfl ?_
   refine WL.nr ?_
   refine WL.mv rfl rfl ?_
   refine WL.mv rfl rfl ?_
   refine WL.mv rfl rfl ?_
   obtain ⟨v1, hv7, hm⟩ := bind_some hm
   refine WL.op rfl (.idx hv7 Tryd.underlying23 Tryd.sizeOf9 (.tmp rfl) (.tmp rfl)) ?_
   refine WL.op rfl (.load ty9 (.tmp rfl)) ?_
   obtain ⟨v2, hv8, hm⟩ := bind_some hm
   refine WL.op rfl (.callF (ok := (fun s : Str × Bool => f s.1 = some s.2)) (As := (fun s : Str × Bool => [tS.is s.1])) (A := (fun s : Str × Bool => (tB.is s.2))) (s := (v1, v2)) (.tmp rfl) hv8 ⟨(.tmp rfl), trivial⟩) ?_
   refine WL.ns ?_
   refine W.cond (.tmp rfl) (fun hc9 => ?_) (fun hc9 => ?_)
   ·have hp10 := hc9
    rw [if_pos hp10] at hm
    refine W.sr ?_
    refine WL.mv rfl rfl ?_
    refine WL.gv rfl rfl ?_
    refine WL.ns ?_
    have hr11 := Option.some.inj hm
    clear hm
    subst hr11
    have hm := hk3
    try dsimp only at hm
    cases hm
    exact W.ret1 () rfl (.tmp rfl) trivial
   ·have hp10 := ne_of_false hc9
    rw [if_neg hp10] at hm
    refine W.skip ?_
    refine WN.block ?_
    refine WN.seq ?_
    refine W.region ?_
    refine WL.lenL (s := 0) (.tmp rfl) fun hl12 => ?_
    refine WL.op rfl (.addI1 (.tmp rfl) .i64 hp6 hl12) ?_
    refine WL.mv rfl rfl ?_
    refine WL.nil ?_
    exact WN.again n4 (v + 1) (Nat.lt_succ_self n4) hm ⟨Ent.q rfl, Ent.q rfl, Ent.q rfl, Ent.q rfl, trivial⟩ trivial
  ·have hp6 := of_decide_eq_false hc5
   rw [if_neg hp6] at hm
   refine W.exit rfl ?_
   have hr13 := Option.some.inj hm
   clear hm
   subst hr13
   have hm := hk3
   try dsimp only at hm
   refine WN.seq ?_
   refine W.sr ?_
   refine WL.op rfl (.assign .i64) ?_
   refine WL.ns ?_
   cases hm
   exact W.ret1 () rfl (.tmp rfl) trivial

theorem slices_ContainsFunc_string_string_spec (n : Nat) (s0_ : List Str) (f : Str → Option Bool) (r : Bool) (hm : M.slices_ContainsFunc_string_string n s0_ f = some r) : FSpec Tryd.prog 18 [((tL tS).is s0_), (tF Tryd.prog (fun s : Str × Bool => f s.1 = some s.2) (fun s : Str × Bool => [tS.is s.1]) (fun s : Str × Bool => (tB.is s.2)))] (tB.is r) := by
 unfold M.slices_ContainsFunc_string_string at hm
 refine FSpec.of Tryd.func18 rfl rfl rfl (fun g0 => ?_)
 refine W.sr ?_
 refine WL.op rfl (.assign .bool) ?_
 refine WL.nr ?_
 refine WL.mv rfl rfl ?_
 refine WL.mv rfl rfl ?_
 obtain ⟨string, hv1, hm⟩ := bind_some hm
 refine WL.op rfl (.call Tryd.call33 (slices_IndexFunc_string_string_spec _ _ _ _ hv1) ⟨(.tmp rfl), (.tmp rfl), trivial⟩) ?_
 refine WL.op rfl (.geI (.tmp rfl) .i64) ?_
 refine WL.gv rfl rfl ?_
 refine WL.ns ?_
 cases hm
 exact W.ret1 () rfl (.tmp rfl) trivial

theorem slices_IndexFunc_byte_byte_spec (n : Nat) (s0_ : List Int) (f : Int → Option Bool) (r : Int) (hm : M.slices_IndexFunc_byte_byte n s0_ f = some r) : FSpec Tryd.prog 43 [((tL (tI .u8)).is s0_), (tF Tryd.prog (fun s : Int × Bool => f s.1 = some s.2) (fun s : Int × Bool => [(tI .u8).is s.1]) (fun s : Int × Bool => (tB.is s.2)))] ((tI .i64).is r) := by
 unfold M.slices_IndexFunc_byte_byte at hm
 refine FSpec.of Tryd.func43 rfl rfl rfl (fun g0 => ?_)
 refine W.sr ?_
 refine WL.op rfl (.assign .i64) ?_
 refine WL.ns ?_
 refine W.seq ?_
 refine W.sr ?_
 refine WL.mv rfl rfl ?_
 refine WL.op rfl (.lenL Tryd.underlying51 (.tmp rfl)) ?_
 refine WL.op rfl (.move .i64) ?_
 refine WL.ns ?_
 refine W.block ?_
 obtain ⟨s1, hs2, hk3⟩ := bind_some hm
 clear hm
 refine W.loop (fun m (s : Int) => M.slices_IndexFunc_byte_byte_loop1 s0_ f m s = some s1) (fun s => [(8, ((tI .i64).is s)), (0, ((tL (tI .u8)).is s0_)), (1, (tF Tryd.prog (fun s : Int × Bool => f s.1 = some s.2) (fun s : Int × Bool => [(tI .u8).is s.1]) (fun s : Int × Bool => (tB.is s.2)))), (7, ((tI .i64).is (s0_.length : Int)))]) (fun s => []) _ (0 : Int) hs2 ⟨Ent.q rfl, Ent.q rfl, Ent.q rfl, Ent.q rfl, trivial⟩ trivial ?_
 rintro n4 v hm
 try dsimp only at hm
 change W _ _ _ _ _ _ _ [(8, ((tI .i64).is v)), (0, ((tL (tI .u8)).is s0_)), (1, (tF Tryd.prog (fun s : Int × Bool => f s.1 = some s.2) (fun s : Int × Bool => [(tI .u8).is s.1]) (fun s : Int × Bool => (tB.is s.2)))), (7, ((tI .i64).is (s0_.length : Int)))] []
 cases n4 with
 | zero => rw [M.slices_IndexFunc_byte_byte_loop1.eq_1] at hm; cases hm
 | succ n4 =>
  rw [M.slices_IndexFunc_byte_byte_loop1.eq_2] at hm
  refine W.sr ?_
  refine WL.op rfl (.ltI (.tmp rfl) (.tmp rfl)) ?_
  refine WL.ns ?_
  refine W.seq ?_
  refine W.cond (.tmp rfl) (fun hc5 => ?_) (fun hc5 => ?_)
  ·have hp6 := of_decide_eq_true hc5
   rw [if_pos hp6] at hm
   refine W.skip ?_
   refine WN.seq ?_
   refine W.seq ?_
   refine W.block ?_
   refine W.sr ?_
   refine WL.mv rfl rfl ?_
   refine WL.gv rfl rfl ?_
   refine WL.nr ?_
   refine WL.mv rfl rfl ?_
   refine WL.mv rfl rfl ?_
   refine WL.mv rfl rfl ?_
   obtain ⟨v1, hv7, hm⟩ := bind_some hm
   refine WL.op rfl (.idx hv7 Tryd.underlying51 Tryd.sizeOf5 (.tmp rfl) (.tmp rfl)) ?_
   refine WL.op rfl (.load ty5 (.tmp rfl)) ?_
   obtain ⟨v2, hv8, hm⟩ := bind_some hm
   refine WL.op rfl (.callF (ok := (fun s : Int × Bool => f s.1 = some s.2)) (As := (fun s : Int × Bool => [(tI .u8).is s.1])) (A := (fun s : Int × Bool => (tB.is s.2))) (s := (v1, v2)) (.tmp rfl) hv8 ⟨(.tmp rfl), trivial⟩) ?_
   refine WL.ns ?_
   refine W.cond (.tmp rfl) (fun hc9 => ?_) (fun hc9 => ?_)
   ·have hp10 := hc9
    rw [if_pos hp10] at hm
    refine W.sr ?_
    refine WL.mv rfl rfl ?_
    refine WL.gv rfl rfl ?_
    refine WL.ns ?_
    have hr11 := Option.some.inj hm
    clear hm
    subst hr11
    have hm := hk3
    try dsimp only at hm
    cases hm
    exact W.ret1 () rfl (.tmp rfl) trivial
   ·have hp10 := ne_of_false hc9
    rw [if_neg hp10] at hm
    refine W.skip ?_
    refine WN.block ?_
    refine WN.seq ?_
    refine W.region ?_
    refine WL.lenL (s := 0) (.tmp rfl) fun hl12 => ?_
    refine WL.op rfl (.addI1 (.tmp rfl) .i64 hp6 hl12) ?_
    refine WL.mv rfl rfl ?_
    refine WL.nil ?_
    exact WN.again n4 (v + 1) (Nat.lt_succ_self n4) hm ⟨Ent.q rfl, Ent.q rfl, Ent.q rfl, Ent.q rfl, trivial⟩ trivial
  ·have hp6 := of_decide_eq_false hc5
   rw [if_neg hp6] at hm
   refine W.exit rfl ?_
   have hr13 := Option.some.inj hm
   clear hm
   subst hr13
   have hm := hk3
   try dsimp only at hm
   refine WN.seq ?_
   refine W.sr ?_
   refine WL.op rfl (.assign .i64) ?_
   refine WL.ns ?_
   cases hm
   exact W.ret1 () rfl (.tmp rfl) trivial

theorem slices_ContainsFunc_byte_byte_spec (n : Nat) (s0_ : List Int) (f : Int → Option Bool) (r : Bool) (hm : M.slices_ContainsFunc_byte_byte n s0_ f = some r) : FSpec Tryd.prog 35 [((tL (tI .u8)).is s0_), (tF Tryd.prog (fun s : Int × Bool => f s.1 = some s.2) (fun s : Int × Bool => [(tI .u8).is s.1]) (fun s : Int × Bool => (tB.is s.2)))] (tB.is r) := by
 unfold M.slices_ContainsFunc_byte_byte at hm
 refine FSpec.of Tryd.func35 rfl rfl rfl (fun g0 => ?_)
 refine W.sr ?_
 refine WL.op rfl (.assign .bool) ?_
 refine WL.nr ?_
 refine WL.mv rfl rfl ?_
 refine WL.mv rfl rfl ?_
 obtain ⟨byte, hv1, hm⟩ := bind_some hm
 refine WL.op rfl (.call Tryd.call43 (slices_IndexFunc_byte_byte_spec _ _ _ _ hv1) ⟨(.tmp rfl), (.tmp rfl), trivial⟩) ?_
 refine WL.op rfl (.geI (.tmp rfl) .i64) ?_
 refine WL.gv rfl rfl ?_
 refine WL.ns ?_
 cases hm
 exact W.ret1 () rfl (.tmp rfl) trivial

theorem wordseq_word_1_spec (c : Int) (r : Bool) (hm : M.wordseq_word_1 c = some r) : FSpec Tryd.prog 34 [((tI .u8).is c)] (tB.is r) := by
 unfold M.wordseq_word_1 at hm
 refine FSpec.of Tryd.func34 rfl rfl rfl (fun g0 => ?_)
 refine W.sr ?_
 refine WL.op rfl (.assign .bool) ?_
 refine WL.nr ?_
 refine WL.mv rfl rfl ?_
 refine WL.op rfl (.ltI (.tmp rfl) (.int (inR8.2 (by omega)))) ?_
 refine WL.mv rfl rfl ?_
 rcases bcases (decide (c < (33 : Int))) with hb1 | hb1
 ·have hp2 := of_decide_eq_true hb1
  rw [if_pos hp2] at hm
  iterate 2 refine WL.pass rfl rfl rfl rfl hb1 rfl rfl ?_
  refine WL.op rfl (.pickT (.tmp rfl) hb1 .bool) ?_
  refine WL.gv rfl rfl ?_
  refine WL.ns ?_
  cases hm
  exact W.ret1 () rfl (.tmp rfl) trivial
 ·have hp2 := of_decide_eq_false hb1
  rw [if_neg hp2] at hm
  refine WL.run rfl rfl rfl rfl hb1 rfl rfl (Op1.move (.tmp rfl)) ?_
  refine WL.run rfl rfl rfl rfl hb1 rfl rfl (Op1.gtI (.tmp rfl) (.int (inR8.2 (by omega)))) ?_
  refine WL.op rfl (.pickF (.tmp rfl) hb1 (.tmp rfl)) ?_
  refine WL.gv rfl rfl ?_
  refine WL.ns ?_
  cases hm
  exact W.ret1 () rfl (.tmp rfl) trivial

theorem wordseq_word_spec (n : Nat) (s0_ : Str) (r : Bool) (hm : M.wordseq_word n s0_ = some r) : FSpec Tryd.prog 20 [(tS.is s0_)] (tB.is r) := by
 unfold M.wordseq_word at hm
 refine FSpec.of Tryd.func20 rfl rfl rfl (fun g0 => ?_)
 refine W.sr ?_
 refine WL.op rfl (.assign .bool) ?_
 refine WL.nr ?_
 refine WL.op rfl (.assign .func) ?_
 refine WL.nr ?_
 refine WL.mv rfl rfl ?_
 refine WL.op rfl (.neS (.tmp rfl) (.str rfl (by decide))) ?_
 refine WL.mv rfl rfl ?_
 rcases bcases (s0_ != ([] : Str)) with hb1 | hb1
 ·have hp2 := hb1
  rw [if_pos hp2] at hm
  refine WL.run rfl rfl rfl rfl hb1 rfl rfl (Op1.move (.tmp rfl)) ?_
  refine WL.run rfl rfl rfl rfl hb1 rfl rfl (Op1.lenS Tryd.underlying9 (.tmp rfl)) ?_
  refine WL.run rfl rfl rfl rfl hb1 rfl rfl (Op1.leI (.tmp rfl) .i64) ?_
  refine WL.op rfl (.pickT (.tmp rfl) hb1 (.tmp rfl)) ?_
  refine WL.mv rfl rfl ?_
  rcases bcases (decide ((s0_.length : Int) ≤ (24 : Int))) with hb3 | hb3
  ·have hp4 := of_decide_eq_true hb3
   rw [if_pos hp4] at hm
   refine WL.run rfl rfl rfl rfl hb3 rfl rfl (Op1.move (.tmp rfl)) ?_
   refine WL.run rfl rfl rfl rfl hb3 rfl rfl (Op1.bytes Tryd.underlying9 Tryd.underlying51 Tryd.underlying5 (.tmp rfl)) ?_
   refine WL.run rfl rfl rfl rfl hb3 rfl rfl (Op1.move (.tmp rfl)) ?_
   obtain ⟨byte, hv5, hm⟩ := bind_some hm
   refine WL.run rfl rfl rfl rfl hb3 rfl rfl (Op1.call Tryd.call35 (slices_ContainsFunc_byte_byte_spec _ _ _ _ hv5) ⟨(.tmp rfl), (Opd.fnE (.tmp rfl) Tryd.call34 (fun s hs => wordseq_word_1_spec _ _ hs)), trivial⟩) ?_
   refine WL.run rfl rfl rfl rfl hb3 rfl rfl (Op1.notB (.tmp rfl)) ?_
   refine WL.op rfl (.pickT (.tmp rfl) hb3 (.tmp rfl)) ?_
   refine WL.gv rfl rfl ?_
   refine WL.ns ?_
   cases hm
   exact W.ret1 () rfl (.tmp rfl) trivial
  ·have hp4 := of_decide_eq_false hb3
   rw [if_neg hp4] at hm
   iterate 5 refine WL.pass rfl rfl rfl rfl hb3 rfl rfl ?_
   refine WL.op rfl (.pickF (.tmp rfl) hb3 .bool) ?_
   refine WL.gv rfl rfl ?_
   refine WL.ns ?_
   cases hm
   exact W.ret1 () rfl (.tmp rfl) trivial
 ·have hp2 := ne_of_false hb1
  rw [if_neg hp2] at hm
  iterate 3 refine WL.pass rfl rfl rfl rfl hb1 rfl rfl ?_
  refine WL.op rfl (.pickF (.tmp rfl) hb1 .bool) ?_
  refine WL.mv rfl rfl ?_
  iterate 5 refine WL.pass rfl rfl rfl rfl rfl rfl rfl ?_
  refine WL.op rfl (.pickF (.tmp rfl) rfl .bool) ?_
  refine WL.gv rfl rfl ?_
  refine WL.ns ?_
  cases hm
  exact W.ret1 () rfl (.tmp rfl) trivial

theorem wordseq_Split_1_spec (n : Nat) (s0_ : Str) (r : Bool) (hm : M.wordseq_Split_1 n s0_ = some r) : FSpec Tryd.prog 19 [(tS.is s0_)] (tB.is r) := by
 unfold M.wordseq_Split_1 at hm
 refine FSpec.of Tryd.func19 rfl rfl rfl (fun g0 => ?_)
 refine W.sr ?_
 refine WL.op rfl (.assign .bool) ?_
 refine WL.nr ?_
 refine WL.mv rfl rfl ?_
 obtain ⟨word, hv1, hm⟩ := bind_some hm
 refine WL.op rfl (.call Tryd.call20 (wordseq_word_spec _ _ _ hv1) ⟨(.tmp rfl), trivial⟩) ?_
 refine WL.op rfl (.notB (.tmp rfl)) ?_
 refine WL.gv rfl rfl ?_
 refine WL.ns ?_
 cases hm
 exact W.ret1 () rfl (.tmp rfl) trivial

theorem wordseq_Split_spec (n : Nat) (s0_ : Str) (r : (List Str) × Int) (hm : M.wordseq_Split n s0_ = some r) : FSpecR Tryd.prog 6 [(tS.is s0_)] [(700000, GlE 0)] (fun _ : Unit => (Asn.tuple2 ((tL tS).is r.1) ((tI .i64).is r.2))) (fun _ => []) := by
 unfold M.wordseq_Split at hm
 refine FSpecR.of Tryd.func6 rfl rfl rfl (fun g0 => ?_)
 refine W.sr ?_
 refine WL.op rfl (.assign (.nil (t := tS))) ?_
 refine WL.op rfl (.assign .i64) ?_
 refine WL.ns ?_
 refine W.seq ?_
 refine W.sr ?_
 refine WL.mv rfl rfl ?_
 refine WL.op rfl (.eqS (.tmp rfl) (.str rfl (by decide))) ?_
 refine WL.ns ?_
 refine W.cond (.tmp rfl) (fun hc1 => ?_) (fun hc1 => ?_)
 ·have hp2 := hc1
  rw [if_pos hp2] at hm
  refine W.sr ?_
  refine WL.op rfl (.assign (.nil (t := tS))) ?_
  refine WL.op rfl (.assign .i64) ?_
  refine WL.ns ?_
  cases hm
  exact W.ret2 () rfl rfl (.tmp rfl) (.tmp rfl) trivial
 ·have hp2 := ne_of_false hc1
  rw [if_neg hp2] at hm
  refine W.skip ?_
  refine WN.seq ?_
  refine W.sr ?_
  refine WL.mv rfl rfl ?_
  obtain ⟨split, hv3, hm⟩ := bind_some hm
  refine WL.op rfl (.callG (rin := [(700000, GlE 0)]) Tryd.call17 (strings_Split_spec _ _ _ hv3) ⟨rfl, trivial⟩ ⟨rfl, rfl, trivial⟩ ⟨(.tmp rfl), (.str rfl (by decide)), trivial⟩) ?_
  refine WL.gv rfl rfl ?_
  refine WL.ns ?_
  refine W.seq ?_
  refine W.block ?_
  refine W.sr ?_
  refine WL.mv rfl rfl ?_
  obtain ⟨string, hv4, hm⟩ := bind_some hm
  refine WL.op rfl (.call Tryd.call18 (slices_ContainsFunc_string_string_spec _ _ _ _ hv4) ⟨(.tmp rfl), (Opd.fn Tryd.call19 (fun s hs => wordseq_Split_1_spec _ _ _ hs)), trivial⟩) ?_
  refine WL.gv rfl rfl ?_
  refine WL.ns ?_
  refine W.cond (.tmp rfl) (fun hc5 => ?_) (fun hc5 => ?_)
  ·have hp6 := hc5
   rw [if_pos hp6] at hm
   refine W.sr ?_
   refine WL.op rfl (.assign (.nil (t := tS))) ?_
   refine WL.op rfl (.assign .i64) ?_
   refine WL.ns ?_
   cases hm
   exact W.ret2 () rfl rfl (.tmp rfl) (.tmp rfl) trivial
  ·have hp6 := ne_of_false hc5
   rw [if_neg hp6] at hm
   refine W.sr ?_
   refine WL.mv rfl rfl ?_
   refine WL.op rfl (.lenL Tryd.underlying23 (.tmp rfl)) ?_
   refine WL.op rfl (.gtI (.tmp rfl) .i64) ?_
   refine WL.gv rfl rfl ?_
   refine WL.ns ?_
   refine W.cond (.tmp rfl) (fun hc7 => ?_) (fun hc7 => ?_)
   ·have hp8 := of_decide_eq_true hc7
    rw [if_pos hp8] at hm
    refine W.sr ?_
    refine WL.op rfl (.assign (.nil (t := tS))) ?_
    refine WL.op rfl (.assign .i64) ?_
    refine WL.ns ?_
    cases hm
    exact W.ret2 () rfl rfl (.tmp rfl) (.tmp rfl) trivial
   ·have hp8 := of_decide_eq_false hc7
    rw [if_neg hp8] at hm
    refine W.skip ?_
    refine WN.block ?_
    refine WN.seq ?_
    refine W.sr ?_
    refine WL.mv rfl rfl ?_
    refine WL.gv rfl rfl ?_
    refine WL.op rfl (.assign .i64) ?_
    refine WL.ns ?_
    cases hm
    exact W.ret2 () rfl rfl (.tmp rfl) (.tmp rfl) trivial

theorem r04_Pieces_spec (n : Nat) (s0_ : Str) (r : (List Str)) (hm : M.r04_Pieces n s0_ = some r) : FSpec Tryd.prog 21 [(tS.is s0_)] ((tL tS).is r) := by
 unfold M.r04_Pieces at hm
 refine FSpec.of Tryd.func21 rfl rfl rfl (fun g0 => ?_)
 refine W.sr ?_
 refine WL.op rfl (.assign (.nil (t := tS))) ?_
 refine WL.nr ?_
 refine WL.opR rfl (OpR.buildSlice (n := 0) (ys := []) (z := ([] : Str)) (xs := ([] : List Str)) 6 Tryd.underlying23 el9 ze9 trivial (by simp) (by decide) rfl) (fun k => ?_)
 refine WL.gv rfl rfl ?_
 refine WL.ns ?_
 refine W.seq ?_
 refine W.sr ?_
 refine WL.mv rfl rfl ?_
 refine WL.op rfl (.eqS (.tmp rfl) (.str rfl (by decide))) ?_
 refine WL.ns ?_
 refine W.cond (.tmp rfl) (fun hc1 => ?_) (fun hc1 => ?_)
 ·have hp2 := hc1
  rw [if_pos hp2] at hm
  refine W.sr ?_
  refine WL.mv rfl rfl ?_
  refine WL.gv rfl rfl ?_
  refine WL.ns ?_
  cases hm
  exact W.ret1 () rfl (Opd.own (.tmp rfl)) trivial
 ·have hp2 := ne_of_false hc1
  rw [if_neg hp2] at hm
  refine W.skip ?_
  refine WN.seq ?_
  refine W.sr ?_
  refine WL.op rfl (.assign .i64) ?_
  refine WL.ns ?_
  refine W.seq ?_
  refine W.sr ?_
  refine WL.op rfl (.assign .i64) ?_
  refine WL.ns ?_
  refine W.block ?_
  obtain ⟨s3, hs4, hk5⟩ := bind_some hm
  clear hm
  refine W.loop (fun m (s : ((List Str) × Int × Int) × Tok) => M.r04_Pieces_loop1 s0_ m s.1.1 s.1.2.1 s.1.2.2 = some s3) (fun s => [(3, (tO tS s.2 s.1.1)), (4, ((tI .i64).is s.1.2.1)), (5, ((tI .i64).is s.1.2.2)), (0, (tS.is s0_))]) (fun s => [(6, Dec.Own tS 9 s.2 s.1.1.length)]) _ ((([] : List Str), (0 : Int), (0 : Int)), k) hs4 ⟨Ent.q rfl, Ent.q rfl, Ent.q rfl, Ent.q rfl, trivial⟩ ⟨rfl, rfl, trivial⟩ ?_
  rintro n6 ⟨⟨out, from0_, i⟩, k1⟩ hm
  try dsimp only at hm
  change W _ _ _ _ _ _ _ [(3, (tO tS k1 out)), (4, ((tI .i64).is from0_)), (5, ((tI .i64).is i)), (0, (tS.is s0_))] [(6, Dec.Own tS 9 k1 out.length)]
  cases n6 with
  | zero => rw [M.r04_Pieces_loop1.eq_1] at hm; cases hm
  | succ n6 =>
   rw [M.r04_Pieces_loop1.eq_2] at hm
   refine W.seq ?_
   refine W.sr ?_
   refine WL.mv rfl rfl ?_
   refine WL.mv rfl rfl ?_
   refine WL.op rfl (.lenS Tryd.underlying9 (.tmp rfl)) ?_
   refine WL.op rfl (.leI (.tmp rfl) (.tmp rfl)) ?_
   refine WL.ns ?_
   refine W.cond (.tmp rfl) (fun hc7 => ?_) (fun hc7 => ?_)
   ·have hp8 := of_decide_eq_true hc7
    rw [if_pos hp8] at hm
    refine W.skip ?_
    refine WN.seq ?_
    refine W.seq ?_
    refine W.block ?_
    obtain ⟨s9, hs10, hk11⟩ := bind_some hm
    clear hm
    refine W.join (fun s : Bool => s = s9) (fun s => [(25, (tB.is s)), (0, (tS.is s0_)), (3, (tO tS k1 out)), (4, ((tI .i64).is from0_)), (5, ((tI .i64).is i))]) (fun s => [(6, Dec.Own tS 9 k1 out.length)]) ?_ ?_
    ·rintro v hj22
     try dsimp only at hj22
     subst hj22
     have hm := hk11
     clear hk11
     try dsimp only at hm
     change W _ _ _ _ _ _ _ [(25, (tB.is v)), (0, (tS.is s0_)), (3, (tO tS k1 out)), (4, ((tI .i64).is from0_)), (5, ((tI .i64).is i))] [(6, Dec.Own tS 9 k1 out.length)]
     refine W.cond (.tmp rfl) (fun hc15 => ?_) (fun hc15 => ?_)
     ·have hp16 := hc15
      rw [if_pos hp16] at hm
      refine W.sr ?_
      refine WL.mv rfl rfl ?_
      refine WL.mv rfl rfl ?_
      refine WL.mv rfl rfl ?_
      refine WL.mv rfl rfl ?_
      obtain ⟨v1, hv17, hm⟩ := bind_some hm
      refine WL.op rfl (.sslc hv17 Tryd.underlying9 (.tmp rfl) (.tmp rfl) (.tmp rfl)) ?_
      refine WL.op rfl (.buildSlice (n := 1) (ys := [(0, v1)]) (z := ([] : Str)) (xs := [v1]) Tryd.underlying23 el9 ze9 ⟨rfl, (.tmp rfl), trivial⟩ (by simp) (by decide) rfl) ?_
      obtain ⟨out1, hv18, hm⟩ := bind_some hm
      refine WL.opR rfl (OpR.appC (key := 6) hv18 Tryd.underlying23 el9 (.tmp rfl) (.tmp rfl) rfl) (fun k2 => ?_)
      refine WL.gv rfl rfl ?_
      refine WL.nr1 ?_
      refine WL.mv rfl rfl ?_
      obtain ⟨v2, hv19, hm⟩ := bind_some hm
      refine WL.op rfl (.addC hv19 (.tmp rfl) .i64) ?_
      refine WL.gv rfl rfl ?_
      refine WL.nil ?_
      refine WN.block ?_
      refine WN.seq ?_
      refine W.region ?_
      refine WL.mv rfl rfl ?_
      obtain ⟨v3, hv20, hm⟩ := bind_some hm
      refine WL.op rfl (.addC hv20 (.tmp rfl) .i64) ?_
      refine WL.gv rfl rfl ?_
      refine WL.nil ?_
      exact WN.again n6 ((out1, v2, v3), k2) (Nat.lt_succ_self n6) hm ⟨Ent.q rfl, Ent.q rfl, Ent.q rfl, Ent.q rfl, trivial⟩ ⟨rfl, rfl, trivial⟩
     ·have hp16 := ne_of_false hc15
      rw [if_neg hp16] at hm
      refine W.skip ?_
      refine WN.block ?_
      refine WN.seq ?_
      refine W.region ?_
      refine WL.mv rfl rfl ?_
      obtain ⟨v4, hv21, hm⟩ := bind_some hm
      refine WL.op rfl (.addC hv21 (.tmp rfl) .i64) ?_
      refine WL.gv rfl rfl ?_
      refine WL.nil ?_
      exact WN.again n6 ((out, from0_, v4), k1) (Nat.lt_succ_self n6) hm ⟨Ent.q rfl, Ent.q rfl, Ent.q rfl, Ent.q rfl, trivial⟩ ⟨rfl, rfl, trivial⟩
    ·have hm := hs10
     clear hs10
     refine W.region ?_
     refine WL.mv rfl rfl ?_
     refine WL.mv rfl rfl ?_
     refine WL.op rfl (.lenS Tryd.underlying9 (.tmp rfl)) ?_
     refine WL.op rfl (.eqI (.tmp rfl) (.tmp rfl)) ?_
     refine WL.mv rfl rfl ?_
     rcases bcases (decide (i = (s0_.length : Int))) with hb12 | hb12
     ·have hp13 := of_decide_eq_true hb12
      rw [if_pos hp13] at hm
      iterate 4 refine WL.pass rfl rfl rfl rfl hb12 rfl rfl ?_
      refine WL.op rfl (.pickT (.tmp rfl) hb12 .bool) ?_
      refine WL.nil ?_
      exact WN.meet true (Option.some.inj hm) ⟨Ent.q rfl, Ent.q rfl, Ent.q rfl, Ent.q rfl, Ent.q rfl, trivial⟩ ⟨rfl, rfl, trivial⟩
     ·have hp13 := of_decide_eq_false hb12
      rw [if_neg hp13] at hm
      refine WL.run rfl rfl rfl rfl hb12 rfl rfl (Op1.move (.tmp rfl)) ?_
      refine WL.run rfl rfl rfl rfl hb12 rfl rfl (Op1.move (.tmp rfl)) ?_
      obtain ⟨b, hv14, hm⟩ := bind_some hm
      refine WL.run rfl rfl rfl rfl hb12 rfl rfl (Op1.sidx hv14 Tryd.underlying9 (.tmp rfl) (.tmp rfl)) ?_
      refine WL.run rfl rfl rfl rfl hb12 rfl rfl (Op1.eqI (.tmp rfl) (.int (inR8.2 (by omega)))) ?_
      refine WL.op rfl (.pickF (.tmp rfl) hb12 (.tmp rfl)) ?_
      refine WL.nil ?_
      exact WN.meet (decide ((b.toNat : Int) = (32 : Int))) (Option.some.inj hm) ⟨Ent.q rfl, Ent.q rfl, Ent.q rfl, Ent.q rfl, Ent.q rfl, trivial⟩ ⟨rfl, rfl, trivial⟩
   ·have hp8 := of_decide_eq_false hc7
    rw [if_neg hp8] at hm
    refine W.exit rfl ?_
    have hr23 := Option.some.inj hm
    clear hm
    subst hr23
    have hm := hk5
    try dsimp only at hm
    refine WN.seq ?_
    refine W.sr ?_
    refine WL.mv rfl rfl ?_
    refine WL.gv rfl rfl ?_
    refine WL.ns ?_
    cases hm
    exact W.ret1 () rfl (Opd.own (.tmp rfl)) trivial

theorem r04_Word_spec (n : Nat) (s0_ : Str) (r : Bool) (hm : M.r04_Word n s0_ = some r) : FSpec Tryd.prog 22 [(tS.is s0_)] (tB.is r) := by
 unfold M.r04_Word at hm
 refine FSpec.of Tryd.func22 rfl rfl rfl (fun g0 => ?_)
 refine W.sr ?_
 refine WL.op rfl (.assign .bool) ?_
 refine WL.ns ?_
 refine W.seq ?_
 obtain ⟨s1, hs2, hk3⟩ := bind_some hm
 clear hm
 refine W.join (fun s : Bool => s = s1) (fun s => [(11, (tB.is s)), (0, (tS.is s0_))]) (fun s => []) ?_ ?_
 ·rintro v hj24
  try dsimp only at hj24
  subst hj24
  have hm := hk3
  clear hk3
  try dsimp only at hm
  change W _ _ _ _ _ _ _ [(11, (tB.is v)), (0, (tS.is s0_))] []
  refine W.cond (.tmp rfl) (fun hc6 => ?_) (fun hc6 => ?_)
  ·have hp7 := hc6
   rw [if_pos hp7] at hm
   refine W.sr ?_
   refine WL.op rfl (.assign .bool) ?_
   refine WL.ns ?_
   cases hm
   exact W.ret1 () rfl (.tmp rfl) trivial
  ·have hp7 := ne_of_false hc6
   rw [if_neg hp7] at hm
   refine W.skip ?_
   refine WN.seq ?_
   refine W.seq ?_
   refine W.sr ?_
   refine WL.op rfl (.assign .i64) ?_
   refine WL.ns ?_
   refine W.block ?_
   obtain ⟨s8, hs9, hk10⟩ := bind_some hm
   clear hm
   refine W.loop (fun m (s : Int) => M.r04_Word_loop1 s0_ m s = some s8) (fun s => [(3, ((tI .i64).is s)), (0, (tS.is s0_))]) (fun s => []) _ (0 : Int) hs9 ⟨Ent.q rfl, Ent.q rfl, trivial⟩ trivial ?_
   rintro n11 i hm
   try dsimp only at hm
   change W _ _ _ _ _ _ _ [(3, ((tI .i64).is i)), (0, (tS.is s0_))] []
   cases n11 with
   | zero => rw [M.r04_Word_loop1.eq_1] at hm; cases hm
   | succ n11 =>
    rw [M.r04_Word_loop1.eq_2] at hm
    refine W.seq ?_
    refine W.sr ?_
    refine WL.mv rfl rfl ?_
    refine WL.mv rfl rfl ?_
    refine WL.op rfl (.lenS Tryd.underlying9 (.tmp rfl)) ?_
    refine WL.op rfl (.ltI (.tmp rfl) (.tmp rfl)) ?_
    refine WL.ns ?_
    refine W.cond (.tmp rfl) (fun hc12 => ?_) (fun hc12 => ?_)
    ·have hp13 := of_decide_eq_true hc12
     rw [if_pos hp13] at hm
     refine W.skip ?_
     refine WN.seq ?_
     refine W.seq ?_
     refine W.block ?_
     refine W.sr ?_
     refine WL.mv rfl rfl ?_
     refine WL.mv rfl rfl ?_
     obtain ⟨b, hv14, hm⟩ := bind_some hm
     refine WL.op rfl (.sidx hv14 Tryd.underlying9 (.tmp rfl) (.tmp rfl)) ?_
     refine WL.op rfl (.ltI (.tmp rfl) (.int (inR8.2 (by omega)))) ?_
     refine WL.mv rfl rfl ?_
     rcases bcases (decide ((b.toNat : Int) < (33 : Int))) with hb15 | hb15
     ·have hp16 := of_decide_eq_true hb15
      rw [if_pos hp16] at hm
      iterate 4 refine WL.pass rfl rfl rfl rfl hb15 rfl rfl ?_
      refine WL.op rfl (.pickT (.tmp rfl) hb15 .bool) ?_
      refine WL.ns ?_
      refine W.condT (.tmp rfl) ?_
      refine W.sr ?_
      refine WL.op rfl (.assign .bool) ?_
      refine WL.ns ?_
      have hr17 := Option.some.inj hm
      clear hm
      subst hr17
      have hm := hk10
      try dsimp only at hm
      cases hm
      exact W.ret1 () rfl (.tmp rfl) trivial
     ·have hp16 := of_decide_eq_false hb15
      rw [if_neg hp16] at hm
      refine WL.run rfl rfl rfl rfl hb15 rfl rfl (Op1.move (.tmp rfl)) ?_
      refine WL.run rfl rfl rfl rfl hb15 rfl rfl (Op1.move (.tmp rfl)) ?_
      obtain ⟨b1, hv18, hm⟩ := bind_some hm
      refine WL.run rfl rfl rfl rfl hb15 rfl rfl (Op1.sidx hv18 Tryd.underlying9 (.tmp rfl) (.tmp rfl)) ?_
      refine WL.run rfl rfl rfl rfl hb15 rfl rfl (Op1.gtI (.tmp rfl) (.int (inR8.2 (by omega)))) ?_
      refine WL.op rfl (.pickF (.tmp rfl) hb15 (.tmp rfl)) ?_
      refine WL.ns ?_
      refine W.cond (.tmp rfl) (fun hc19 => ?_) (fun hc19 => ?_)
      ·have hp20 := of_decide_eq_true hc19
       rw [if_pos hp20] at hm
       refine W.sr ?_
       refine WL.op rfl (.assign .bool) ?_
       refine WL.ns ?_
       have hr21 := Option.some.inj hm
       clear hm
       subst hr21
       have hm := hk10
       try dsimp only at hm
       cases hm
       exact W.ret1 () rfl (.tmp rfl) trivial
      ·have hp20 := of_decide_eq_false hc19
       rw [if_neg hp20] at hm
       refine W.skip ?_
       refine WN.block ?_
       refine WN.seq ?_
       refine W.region ?_
       refine WL.mv rfl rfl ?_
       refine WL.lenS (s := 0) (.tmp rfl) fun hl22 => ?_
       refine WL.op rfl (.addI1 (.tmp rfl) .i64 hp13 hl22) ?_
       refine WL.gv rfl rfl ?_
       refine WL.nil ?_
       exact WN.again n11 (i + 1) (Nat.lt_succ_self n11) hm ⟨Ent.q rfl, Ent.q rfl, trivial⟩ trivial
    ·have hp13 := of_decide_eq_false hc12
     rw [if_neg hp13] at hm
     refine W.exit rfl ?_
     have hr23 := Option.some.inj hm
     clear hm
     subst hr23
     have hm := hk10
     try dsimp only at hm
     refine WN.seq ?_
     refine W.sr ?_
     refine WL.op rfl (.assign .bool) ?_
     refine WL.ns ?_
     cases hm
     exact W.ret1 () rfl (.tmp rfl) trivial
 ·have hm := hs2
  clear hs2
  refine W.region ?_
  refine WL.mv rfl rfl ?_
  refine WL.op rfl (.lenS Tryd.underlying9 (.tmp rfl)) ?_
  refine WL.op rfl (.ltI (.tmp rfl) .i64) ?_
  refine WL.mv rfl rfl ?_
  rcases bcases (decide ((s0_.length : Int) < (1 : Int))) with hb4 | hb4
  ·have hp5 := of_decide_eq_true hb4
   rw [if_pos hp5] at hm
   iterate 3 refine WL.pass rfl rfl rfl rfl hb4 rfl rfl ?_
   refine WL.op rfl (.pickT (.tmp rfl) hb4 .bool) ?_
   refine WL.nil ?_
   exact WN.meet true (Option.some.inj hm) ⟨Ent.q rfl, Ent.q rfl, trivial⟩ trivial
  ·have hp5 := of_decide_eq_false hb4
   rw [if_neg hp5] at hm
   refine WL.run rfl rfl rfl rfl hb4 rfl rfl (Op1.move (.tmp rfl)) ?_
   refine WL.run rfl rfl rfl rfl hb4 rfl rfl (Op1.lenS Tryd.underlying9 (.tmp rfl)) ?_
   refine WL.run rfl rfl rfl rfl hb4 rfl rfl (Op1.gtI (.tmp rfl) .i64) ?_
   refine WL.op rfl (.pickF (.tmp rfl) hb4 (.tmp rfl)) ?_
   refine WL.nil ?_
   exact WN.meet (decide ((24 : Int) < (s0_.length : Int))) (Option.some.inj hm) ⟨Ent.q rfl, Ent.q rfl, trivial⟩ trivial

theorem r04_Split_spec (n : Nat) (s0_ : Str) (r : (List Str) × Int) (hm : M.r04_Split n s0_ = some r) : FSpec Tryd.prog 7 [(tS.is s0_)] (Asn.tuple2 ((tL tS).is r.1) ((tI .i64).is r.2)) := by
 unfold M.r04_Split at hm
 refine FSpec.of Tryd.func7 rfl rfl rfl (fun g0 => ?_)
 refine W.sr ?_
 refine WL.op rfl (.assign (.nil (t := tS))) ?_
 refine WL.op rfl (.assign .i64) ?_
 refine WL.nr ?_
 refine WL.mv rfl rfl ?_
 obtain ⟨pieces, hv1, hm⟩ := bind_some hm
 refine WL.op rfl (.call Tryd.call21 (r04_Pieces_spec _ _ _ hv1) ⟨(.tmp rfl), trivial⟩) ?_
 refine WL.gv rfl rfl ?_
 refine WL.ns ?_
 refine W.seq ?_
 refine W.sr ?_
 refine WL.op rfl (.assign .i64) ?_
 refine WL.ns ?_
 refine W.block ?_
 obtain ⟨s2, hs3, hk4⟩ := bind_some hm
 clear hm
 refine W.loop (fun m (s : Int) => M.r04_Split_loop1 pieces m s = some s2) (fun s => [(5, ((tI .i64).is s)), (4, ((tL tS).is pieces))]) (fun s => []) _ (0 : Int) hs3 ⟨Ent.q rfl, Ent.q rfl, trivial⟩ trivial ?_
 rintro n5 i hm
 try dsimp only at hm
 change W _ _ _ _ _ _ _ [(5, ((tI .i64).is i)), (4, ((tL tS).is pieces))] []
 cases n5 with
 | zero => rw [M.r04_Split_loop1.eq_1] at hm; cases hm
 | succ n5 =>
  rw [M.r04_Split_loop1.eq_2] at hm
  refine W.seq ?_
  refine W.sr ?_
  refine WL.mv rfl rfl ?_
  refine WL.mv rfl rfl ?_
  refine WL.op rfl (.lenL Tryd.underlying23 (.tmp rfl)) ?_
  refine WL.op rfl (.ltI (.tmp rfl) (.tmp rfl)) ?_
  refine WL.ns ?_
  refine W.cond (.tmp rfl) (fun hc6 => ?_) (fun hc6 => ?_)
  ·have hp7 := of_decide_eq_true hc6
   rw [if_pos hp7] at hm
   refine W.skip ?_
   refine WN.seq ?_
   refine W.seq ?_
   refine W.block ?_
   refine W.sr ?_
   refine WL.mv rfl rfl ?_
   refine WL.mv rfl rfl ?_
   obtain ⟨v, hv8, hm⟩ := bind_some hm
   refine WL.op rfl (.idx hv8 Tryd.underlying23 Tryd.sizeOf9 (.tmp rfl) (.tmp rfl)) ?_
   refine WL.op rfl (.load ty9 (.tmp rfl)) ?_
   obtain ⟨word, hv9, hm⟩ := bind_some hm
   refine WL.op rfl (.call Tryd.call22 (r04_Word_spec _ _ _ hv9) ⟨(.tmp rfl), trivial⟩) ?_
   refine WL.op rfl (.notB (.tmp rfl)) ?_
   refine WL.ns ?_
   refine W.cond (.tmp rfl) (fun hc10 => ?_) (fun hc10 => ?_)
   ·have hp11 := not_pos hc10
    rw [if_pos hp11] at hm
    refine W.sr ?_
    refine WL.op rfl (.assign (.nil (t := tS))) ?_
    refine WL.op rfl (.assign .i64) ?_
    refine WL.ns ?_
    have hr12 := Option.some.inj hm
    clear hm
    subst hr12
    have hm := hk4
    try dsimp only at hm
    cases hm
    exact W.ret2 () rfl rfl (.tmp rfl) (.tmp rfl) trivial
   ·have hp11 := not_neg hc10
    rw [if_neg hp11] at hm
    refine W.skip ?_
    refine WN.block ?_
    refine WN.seq ?_
    refine W.region ?_
    refine WL.mv rfl rfl ?_
    refine WL.lenL (s := 4) (.tmp rfl) fun hl13 => ?_
    refine WL.op rfl (.addI1 (.tmp rfl) .i64 hp7 hl13) ?_
    refine WL.gv rfl rfl ?_
    refine WL.nil ?_
    exact WN.again n5 (i + 1) (Nat.lt_succ_self n5) hm ⟨Ent.q rfl, Ent.q rfl, trivial⟩ trivial
  ·have hp7 := of_decide_eq_false hc6
   rw [if_neg hp7] at hm
   refine W.exit rfl ?_
   have hr14 := Option.some.inj hm
   clear hm
   subst hr14
   have hm := hk4
   try dsimp only at hm
   refine WN.seq ?_
   refine W.seq ?_
   refine W.sr ?_
   refine WL.mv rfl rfl ?_
   refine WL.op rfl (.lenL Tryd.underlying23 (.tmp rfl)) ?_
   refine WL.op rfl (.gtI (.tmp rfl) .i64) ?_
   refine WL.ns ?_
   refine W.cond (.tmp rfl) (fun hc15 => ?_) (fun hc15 => ?_)
   ·have hp16 := of_decide_eq_true hc15
    rw [if_pos hp16] at hm
    refine W.sr ?_
    refine WL.op rfl (.assign (.nil (t := tS))) ?_
    refine WL.op rfl (.assign .i64) ?_
    refine WL.ns ?_
    cases hm
    exact W.ret2 () rfl rfl (.tmp rfl) (.tmp rfl) trivial
   ·have hp16 := of_decide_eq_false hc15
    rw [if_neg hp16] at hm
    refine W.skip ?_
    refine WN.seq ?_
    refine W.sr ?_
    refine WL.mv rfl rfl ?_
    refine WL.gv rfl rfl ?_
    refine WL.op rfl (.assign .i64) ?_
    refine WL.ns ?_
    cases hm
    exact W.ret2 () rfl rfl (.tmp rfl) (.tmp rfl) trivial

theorem wordseq_Valid_1_spec (n : Nat) (s0_ : Str) (r : Bool) (hm : M.wordseq_Valid_1 n s0_ = some r) : FSpec Tryd.prog 24 [(tS.is s0_)] (tB.is r) := by
 unfold M.wordseq_Valid_1 at hm
 refine FSpec.of Tryd.func24 rfl rfl rfl (fun g0 => ?_)
 refine W.sr ?_
 refine WL.op rfl (.assign .bool) ?_
 refine WL.nr ?_
 refine WL.mv rfl rfl ?_
 obtain ⟨word, hv1, hm⟩ := bind_some hm
 refine WL.op rfl (.call Tryd.call20 (wordseq_word_spec _ _ _ hv1) ⟨(.tmp rfl), trivial⟩) ?_
 refine WL.op rfl (.notB (.tmp rfl)) ?_
 refine WL.gv rfl rfl ?_
 refine WL.ns ?_
 cases hm
 exact W.ret1 () rfl (.tmp rfl) trivial

theorem wordseq_Valid_spec (n : Nat) (l : List Str) (r : Bool) (hm : M.wordseq_Valid n l = some r) : FSpec Tryd.prog 10 [((tL tS).is l)] (tB.is r) := by
 unfold M.wordseq_Valid at hm
 refine FSpec.of Tryd.func10 rfl rfl rfl (fun g0 => ?_)
 refine W.sr ?_
 refine WL.op rfl (.assign .bool) ?_
 refine WL.nr ?_
 refine WL.mv rfl rfl ?_
 refine WL.op rfl (.lenL Tryd.underlying23 (.tmp rfl)) ?_
 refine WL.op rfl (.leI (.tmp rfl) .i64) ?_
 refine WL.mv rfl rfl ?_
 rcases bcases (decide ((l.length : Int) ≤ (256 : Int))) with hb1 | hb1
 ·have hp2 := of_decide_eq_true hb1
  rw [if_pos hp2] at hm
  refine WL.run rfl rfl rfl rfl hb1 rfl rfl (Op1.move (.tmp rfl)) ?_
  obtain ⟨string, hv3, hm⟩ := bind_some hm
  refine WL.run rfl rfl rfl rfl hb1 rfl rfl (Op1.call Tryd.call18 (slices_ContainsFunc_string_string_spec _ _ _ _ hv3) ⟨(.tmp rfl), (Opd.fn Tryd.call24 (fun s hs => wordseq_Valid_1_spec _ _ _ hs)), trivial⟩) ?_
  refine WL.run rfl rfl rfl rfl hb1 rfl rfl (Op1.notB (.tmp rfl)) ?_
  refine WL.op rfl (.pickT (.tmp rfl) hb1 (.tmp rfl)) ?_
  refine WL.gv rfl rfl ?_
  refine WL.ns ?_
  cases hm
  exact W.ret1 () rfl (.tmp rfl) trivial
 ·have hp2 := of_decide_eq_false hb1
  rw [if_neg hp2] at hm
  iterate 3 refine WL.pass rfl rfl rfl rfl hb1 rfl rfl ?_
  refine WL.op rfl (.pickF (.tmp rfl) hb1 .bool) ?_
  refine WL.gv rfl rfl ?_
  refine WL.ns ?_
  cases hm
  exact W.ret1 () rfl (.tmp rfl) trivial

theorem strings_Builder_Grow_spec (n : Int) (b : Nat) {u : Unit} (hm : growC n = some u) : FSpecR Tryd.prog 36 [Bp b 0, (tI .i64).is n] [(0, Bx 2 true 54 (bldA none [] b) b), (1, Dec.Own (tI .u8) 5 none 0)] (fun _ : Tok => Asn.eq (.tuple #[])) (fun k => [(0, Bx 2 true 54 (bldA k [] b) b), (1, Dec.Own (tI .u8) 5 k 0)]) :=
 FSpecR.bldGrow bld_used bld_fresh bld_Grow 0 1 n b hm

theorem strings_Builder_WriteString_spec (l m r : Str) (k : Tok) (b : Nat) (hm : appC l m = some r) : FSpecR Tryd.prog 37 [Bp b 0, tS.is m] [(0, Bx 2 true 54 (bldA k l b) b), (1, Dec.Own (tI .u8) 5 k l.length)] (fun _ : Tok => Asn.any) (fun kx => [(0, Bx 2 true 54 (bldA kx r b) b), (1, Dec.Own (tI .u8) 5 kx r.length)]) := by
 refine FSpecR.of Tryd.func37 rfl rfl rfl (fun g0 => ?_)
 refine W.sr ?_
 refine WL.op rfl (.assign Opd.const) ?_
 refine WL.op rfl (.assign Opd.const) ?_
 refine WL.nr ?_
 refine WL.mv rfl rfl ?_
 refine WL.opR rfl (OpR.call (us := [0]) Tryd.call44 (FSpecR.bldCheck bld_used bld_fresh 0 k l b) rfl ⟨(.tmp rfl), trivial⟩) (fun _ => ?_)
 refine WL.nr ?_
 refine WL.mv rfl rfl ?_
 refine WL.mv rfl rfl ?_
 refine WL.op rfl (.nilCheckB (.tmp rfl)) ?_
 refine WL.op rfl (.fieldAddrB (o := 0) Tryd.underlying54 rfl (fun w => ⟨0, Tryd.sizeOf51 w⟩) (.tmp rfl) rfl) ?_
 refine WL.op rfl (.loadBld 0 Tryd.isAgg51 Tryd.sizeOf51 rfl (.tmp rfl)) ?_
 refine WL.mv rfl rfl ?_
 refine WL.opR rfl (OpR.appendS (key := 1) hm Tryd.underlying51 Tryd.underlying9 el5 (.tmp rfl) (.tmp rfl) rfl) (fun k2 => ?_)
 refine WL.op rfl (.nilCheckB (.tmp rfl)) ?_
 refine WL.op rfl (.fieldAddrB (o := 0) Tryd.underlying54 rfl (fun w => ⟨0, Tryd.sizeOf51 w⟩) (.tmp rfl) rfl) ?_
 refine WL.opU (OpR.storeBld (b := b) 0 Tryd.sizeOf51 rfl (.tmp rfl) (.tmp rfl)) (fun _ => ?_)
 refine WL.nr ?_
 refine WL.mv rfl rfl ?_
 refine WL.op rfl (.lenS Tryd.underlying9 (.tmp rfl)) ?_
 refine WL.gv rfl rfl ?_
 refine WL.op rfl (.assign Opd.const) ?_
 refine WL.nil ?_
 refine WN.seq ?_
 refine W.boxV (A' := bldA k2 r b) 0 rfl (fun _ _ => bldU_A) ?_
 exact W.retAny2 k2 rfl rfl ⟨rfl, rfl, rfl, rfl, trivial⟩

theorem strings_Builder_String_spec (k : Tok) (l : Str) (b : Nat) : FSpecR Tryd.prog 38 [Bp b 0] [(0, Bx 2 true 54 (bldA k l b) b), (1, Dec.Own (tI .u8) 5 k l.length)] (fun _ : Unit => tS.is l) (fun _ => []) :=
 FSpecR.bldString Tryd.underlying65 (by kernel_rfl) bld_str 0 1 k l b

theorem strings_Join_spec (elems : List Str) (sep : Str) (r : Str) (hm : M.strings_Join elems sep = some r) : FSpec Tryd.prog 23 [((tL tS).is elems), (tS.is sep)] (tS.is r) := by
 unfold M.strings_Join at hm
 refine FSpec.of Tryd.func23 rfl rfl rfl (fun g0 => ?_)
 refine W.sr ?_
 refine WL.op rfl (.assign (.str rfl (by decide))) ?_
 refine WL.ns ?_
 refine W.seq ?_
 refine W.sr ?_
 refine WL.mv rfl rfl ?_
 refine WL.op rfl (.lenL Tryd.underlying23 (.tmp rfl)) ?_
 refine WL.ns ?_
 refine W.block ?_
 refine W.sr ?_
 refine WL.op rfl (.eqI (.tmp rfl) .i64) ?_
 refine WL.gv rfl rfl ?_
 refine WL.ns ?_
 refine W.cond (.tmp rfl) (fun hc1 => ?_) (fun hc1 => ?_)
 ·have hp2 := of_decide_eq_true hc1
  rw [if_pos hp2] at hm
  refine W.sr ?_
  refine WL.op rfl (.assign (.str rfl (by decide))) ?_
  refine WL.ns ?_
  cases hm
  exact W.ret1 () rfl (.tmp rfl) trivial
 ·have hp2 := of_decide_eq_false hc1
  rw [if_neg hp2] at hm
  refine W.sr ?_
  refine WL.op rfl (.eqI (.tmp rfl) .i64) ?_
  refine WL.gv rfl rfl ?_
  refine WL.ns ?_
  refine W.cond (.tmp rfl) (fun hc3 => ?_) (fun hc3 => ?_)
  ·have hp4 := of_decide_eq_true hc3
   rw [if_pos hp4] at hm
   refine W.sr ?_
   refine WL.mv rfl rfl ?_
   obtain ⟨v, hv5, hm⟩ := bind_some hm
   refine WL.op rfl (.idx hv5 Tryd.underlying23 Tryd.sizeOf9 (.tmp rfl) .i64) ?_
   refine WL.op rfl (.load ty9 (.tmp rfl)) ?_
   refine WL.gv rfl rfl ?_
   refine WL.ns ?_
   cases hm
   exact W.ret1 () rfl (.tmp rfl) trivial
  ·have hp4 := of_decide_eq_false hc3
   rw [if_neg hp4] at hm
   refine W.skip ?_
   refine WN.block ?_
   refine WN.seq ?_
   refine W.sr ?_
   refine WL.op rfl (.assign .i64) ?_
   refine WL.ns ?_
   obtain ⟨s6, hs7, hk8⟩ := bind_some hm
   clear hm
   refine W.join (fun s : Int => s = s6) (fun s => [(5, ((tI .i64).is s)), (0, ((tL tS).is elems)), (1, (tS.is sep))]) (fun s => []) ?_ ?_
   ·rintro n0_ hj58
    try dsimp only at hj58
    subst hj58
    have hm := hk8
    clear hk8
    try dsimp only at hm
    change W _ _ _ _ _ _ _ [(5, ((tI .i64).is n0_)), (0, ((tL tS).is elems)), (1, (tS.is sep))] []
    refine W.seq ?_
    refine W.sr ?_
    refine WL.mv rfl rfl ?_
    refine WL.op rfl (.lenL Tryd.underlying23 (.tmp rfl)) ?_
    refine WL.op rfl (.move .i64) ?_
    refine WL.ns ?_
    refine W.block ?_
    obtain ⟨s22, hs23, hk24⟩ := bind_some hm
    clear hm
    refine W.loop (fun m (s : Int × List Str × List Str × Int) => m = s.2.2.1.length ∧ elems = s.2.1 ++ s.2.2.1 ∧ s.1 = (s.2.1.length : Int) ∧ M.strings_Join_loop1 s.2.2.1 s.2.2.2 = some s22) (fun s => [(41, ((tI .i64).is s.1)), (5, ((tI .i64).is s.2.2.2)), (0, ((tL tS).is elems)), (1, (tS.is sep)), (39, ((tL tS).is elems)), (40, ((tI .i64).is (elems.length : Int)))]) (fun s => []) elems.length ((0 : Int), [], elems, n0_) ⟨rfl, rfl, rfl, hs23⟩ ⟨Ent.q rfl, Ent.q rfl, Ent.q rfl, Ent.q rfl, Ent.q rfl, Ent.q rfl, trivial⟩ trivial ?_
    rintro m ⟨i, pre, rest3, n0_1⟩ ⟨hn28, hxs25, hi26, hm⟩
    try dsimp only at hn28 hxs25 hi26 hm
    change W _ _ _ _ _ _ _ [(41, ((tI .i64).is i)), (5, ((tI .i64).is n0_1)), (0, ((tL tS).is elems)), (1, (tS.is sep)), (39, ((tL tS).is elems)), (40, ((tI .i64).is (elems.length : Int)))] []
    refine W.lenL (s := 39) (.tmp rfl) fun hlen27 => ?_
    refine W.sr ?_
    refine WL.op rfl (.ltI (.tmp rfl) (.tmp rfl)) ?_
    refine WL.ns ?_
    refine W.seq ?_
    refine W.cond (.tmp rfl) (fun hc30 => ?_) (fun hc30 => ?_)
    ·have hp31 := of_decide_eq_true hc30
     obtain ⟨e, es, hrest33⟩ := range_more hxs25 hi26 hp31
     subst hrest33
     rw [M.strings_Join_loop1.eq_2] at hm
     refine W.skip ?_
     refine WN.seq ?_
     refine W.seq ?_
     refine W.block ?_
     refine W.sr ?_
     refine WL.op rfl (.idxPre hxs25 hi26 Tryd.underlying23 Tryd.sizeOf9 (.tmp rfl) (.tmp rfl)) ?_
     refine WL.op rfl (.load ty9 (.tmp rfl)) ?_
     refine WL.gv rfl rfl ?_
     refine WL.ns ?_
     refine W.seq ?_
     refine W.sr ?_
     refine WL.mv rfl rfl ?_
     refine WL.op rfl (.lenS Tryd.underlying9 (.tmp rfl)) ?_
     refine WL.mv rfl rfl ?_
     obtain ⟨v6, hv34, hm⟩ := bind_some hm
     refine WL.op rfl (.subC hv34 .i64 (.tmp rfl)) ?_
     refine WL.op rfl (.gtI (.tmp rfl) (.tmp rfl)) ?_
     refine WL.ns ?_
     refine W.cond (.tmp rfl) (fun hc35 => ?_) (fun hc35 => ?_)
     ·have hp36 := of_decide_eq_true hc35
      rw [if_pos hp36] at hm
      cases hm
     ·have hp36 := of_decide_eq_false hc35
      rw [if_neg hp36] at hm
      refine W.skip ?_
      refine WN.seq ?_
      refine W.region ?_
      refine WL.mv rfl rfl ?_
      refine WL.mv rfl rfl ?_
      refine WL.op rfl (.lenS Tryd.underlying9 (.tmp rfl)) ?_
      obtain ⟨v7, hv37, hm⟩ := bind_some hm
      refine WL.op rfl (.addC hv37 (.tmp rfl) (.tmp rfl)) ?_
      refine WL.gv rfl rfl ?_
      refine WL.nil ?_
      refine WN.block ?_
      refine WN.seq ?_
      refine W.region ?_
      refine WL.op rfl (.addI (.tmp rfl) .i64 (range_inR hi26 hp31 hlen27)) ?_
      refine WL.mv rfl rfl ?_
      refine WL.nil ?_
      exact WN.again es.length (i + 1, pre ++ [e], es, v7) (range_lt hn28) ⟨rfl, range_step hxs25, range_idx hi26, hm⟩ ⟨Ent.q rfl, Ent.q rfl, Ent.q rfl, Ent.q rfl, Ent.q rfl, Ent.q rfl, trivial⟩ trivial
    ·have hrest33 := range_end hxs25 hi26 (of_decide_eq_false hc30)
     subst hrest33
     rw [M.strings_Join_loop1.eq_1] at hm
     refine W.exit rfl ?_
     have hr38 := Option.some.inj hm
     clear hm
     subst hr38
     have hm := hk24
     try dsimp only at hm
     refine WN.seq ?_
     refine W.sr ?_
     refine WL.addNil (t := (tI .u8)) (E := 5) 1000008 ?_
     refine WL.opR rfl (OpR.allocBld 8 Tryd.zeroValue54) (fun b => ?_)
     refine WL.nr ?_
     refine WL.mv rfl rfl ?_
     obtain ⟨_, hv39, hm⟩ := bind_some hm
     refine WL.weakR (res' := [(8, (Bx 2 true 54 (bldA (none : Tok) ([] : Str) b) b)), (1000008, Dec.Own (tI .u8) 5 (none : Tok) ([] : Str).length)]) ⟨rfl, rfl, ⟨rfl, rfl, trivial⟩⟩ ?_
     refine WL.opR rfl (OpR.call (us := [8, 1000008]) (A := fun kx : Tok => (Asn.eq (.tuple #[]))) Tryd.call36 (FSpecR.keys (rin' := [(8, (Bx 2 true 54 (bldA (none : Tok) ([] : Str) b) b)), (1000008, Dec.Own (tI .u8) 5 (none : Tok) ([] : Str).length)]) (out' := fun kx : Tok => [(8, (Bx 2 true 54 (bldA kx ([] : Str) b) b)), (1000008, Dec.Own (tI .u8) 5 kx ([] : Str).length)]) (strings_Builder_Grow_spec _ _ hv39) rfl (fun _ => rfl)) rfl ⟨(.tmp rfl), (.tmp rfl), trivial⟩) (fun k => ?_)
     refine WL.nr ?_
     refine WL.mv rfl rfl ?_
     obtain ⟨v8, hv40, hm⟩ := bind_some hm
     refine WL.op rfl (.idx hv40 Tryd.underlying23 Tryd.sizeOf9 (.tmp rfl) .i64) ?_
     refine WL.op rfl (.load ty9 (.tmp rfl)) ?_
     obtain ⟨b1, hv41, hm⟩ := bind_some hm
     refine WL.weakR (res' := [(8, (Bx 2 true 54 (bldA k ([] : Str) b) b)), (1000008, Dec.Own (tI .u8) 5 k ([] : Str).length)]) ⟨rfl, rfl, ⟨rfl, rfl, trivial⟩⟩ ?_
     refine WL.opR rfl (OpR.call (us := [8, 1000008]) (A := fun kx : Tok => Asn.any) Tryd.call37 (FSpecR.keys (rin' := [(8, (Bx 2 true 54 (bldA k ([] : Str) b) b)), (1000008, Dec.Own (tI .u8) 5 k ([] : Str).length)]) (out' := fun kx : Tok => [(8, (Bx 2 true 54 (bldA kx b1 b) b)), (1000008, Dec.Own (tI .u8) 5 kx b1.length)]) (strings_Builder_WriteString_spec _ _ _ _ _ hv41) rfl (fun _ => rfl)) rfl ⟨(.tmp rfl), (.tmp rfl), trivial⟩) (fun k1 => ?_)
     refine WL.ns ?_
     refine W.seq ?_
     refine W.sr ?_
     refine WL.mv rfl rfl ?_
     obtain ⟨v9, hv42, hm⟩ := bind_some hm
     refine WL.op rfl (.slcLo hv42 Tryd.underlying23 Tryd.sizeOf9 (.tmp rfl) .i64) ?_
     refine WL.op rfl (.lenL Tryd.underlying23 (.tmp rfl)) ?_
     refine WL.op rfl (.move .i64) ?_
     refine WL.ns ?_
     refine W.block ?_
     obtain ⟨s43, hs44, hk45⟩ := bind_some hm
     clear hm
     refine W.loop (fun m (s : Int × List Str × List Str × ((Str) × Tok)) => m = s.2.2.1.length ∧ v9 = s.2.1 ++ s.2.2.1 ∧ s.1 = (s.2.1.length : Int) ∧ M.strings_Join_loop2 sep s.2.2.1 s.2.2.2.1 = some s43) (fun s => [(65, ((tI .i64).is s.1)), (1, (tS.is sep)), (8, (Bp b 0)), (63, ((tL tS).is v9)), (64, ((tI .i64).is (v9.length : Int)))]) (fun s => [(1000008, Dec.Own (tI .u8) 5 s.2.2.2.2 s.2.2.2.1.length), (8, (Bx 2 true 54 (bldA s.2.2.2.2 s.2.2.2.1 b) b))]) v9.length ((0 : Int), [], v9, (b1, k1)) ⟨rfl, rfl, rfl, hs44⟩ ⟨Ent.q rfl, Ent.q rfl, Ent.q rfl, Ent.q rfl, Ent.q rfl, trivial⟩ ⟨rfl, rfl, ⟨rfl, rfl, trivial⟩⟩ ?_
     rintro m ⟨i1, pre1, rest2, ⟨b2, k2⟩⟩ ⟨hn49, hxs46, hi47, hm⟩
     try dsimp only at hn49 hxs46 hi47 hm
     change W _ _ _ _ _ _ _ [(65, ((tI .i64).is i1)), (1, (tS.is sep)), (8, (Bp b 0)), (63, ((tL tS).is v9)), (64, ((tI .i64).is (v9.length : Int)))] [(1000008, Dec.Own (tI .u8) 5 k2 b2.length), (8, (Bx 2 true 54 (bldA k2 b2 b) b))]
     refine W.lenL (s := 63) (.tmp rfl) fun hlen48 => ?_
     refine W.sr ?_
     refine WL.op rfl (.ltI (.tmp rfl) (.tmp rfl)) ?_
     refine WL.ns ?_
     refine W.seq ?_
     refine W.cond (.tmp rfl) (fun hc51 => ?_) (fun hc51 => ?_)
     ·have hp52 := of_decide_eq_true hc51
      obtain ⟨e1, es1, hrest54⟩ := range_more hxs46 hi47 hp52
      subst hrest54
      rw [M.strings_Join_loop2.eq_2] at hm
      refine W.skip ?_
      refine WN.seq ?_
      refine W.seq ?_
      refine W.block ?_
      refine W.sr ?_
      refine WL.op rfl (.idxPre hxs46 hi47 Tryd.underlying23 Tryd.sizeOf9 (.tmp rfl) (.tmp rfl)) ?_
      refine WL.op rfl (.load ty9 (.tmp rfl)) ?_
      refine WL.gv rfl rfl ?_
      refine WL.nr ?_
      refine WL.mv rfl rfl ?_
      obtain ⟨b3, hv55, hm⟩ := bind_some hm
      refine WL.weakR (res' := [(8, (Bx 2 true 54 (bldA k2 b2 b) b)), (1000008, Dec.Own (tI .u8) 5 k2 b2.length)]) ⟨rfl, rfl, ⟨rfl, rfl, trivial⟩⟩ ?_
      refine WL.opR rfl (OpR.call (us := [8, 1000008]) (A := fun kx : Tok => Asn.any) Tryd.call37 (FSpecR.keys (rin' := [(8, (Bx 2 true 54 (bldA k2 b2 b) b)), (1000008, Dec.Own (tI .u8) 5 k2 b2.length)]) (out' := fun kx : Tok => [(8, (Bx 2 true 54 (bldA kx b3 b) b)), (1000008, Dec.Own (tI .u8) 5 kx b3.length)]) (strings_Builder_WriteString_spec _ _ _ _ _ hv55) rfl (fun _ => rfl)) rfl ⟨(.tmp rfl), (.tmp rfl), trivial⟩) (fun k3 => ?_)
      refine WL.nr1 ?_
      refine WL.mv rfl rfl ?_
      obtain ⟨b4, hv56, hm⟩ := bind_some hm
      refine WL.weakR (res' := [(8, (Bx 2 true 54 (bldA k3 b3 b) b)), (1000008, Dec.Own (tI .u8) 5 k3 b3.length)]) ⟨rfl, rfl, ⟨rfl, rfl, trivial⟩⟩ ?_
      refine WL.opR rfl (OpR.call (us := [8, 1000008]) (A := fun kx : Tok => Asn.any) Tryd.call37 (FSpecR.keys (rin' := [(8, (Bx 2 true 54 (bldA k3 b3 b) b)), (1000008, Dec.Own (tI .u8) 5 k3 b3.length)]) (out' := fun kx : Tok => [(8, (Bx 2 true 54 (bldA kx b4 b) b)), (1000008, Dec.Own (tI .u8) 5 kx b4.length)]) (strings_Builder_WriteString_spec _ _ _ _ _ hv56) rfl (fun _ => rfl)) rfl ⟨(.tmp rfl), (.tmp rfl), trivial⟩) (fun k4 => ?_)
      refine WL.nil ?_
      refine WN.block ?_
      refine WN.seq ?_
      refine W.region ?_
      refine WL.op rfl (.addI (.tmp rfl) .i64 (range_inR hi47 hp52 hlen48)) ?_
      refine WL.mv rfl rfl ?_
      refine WL.nil ?_
      exact WN.again es1.length (i1 + 1, pre1 ++ [e1], es1, (b4, k4)) (range_lt hn49) ⟨rfl, range_step hxs46, range_idx hi47, hm⟩ ⟨Ent.q rfl, Ent.q rfl, Ent.q rfl, Ent.q rfl, Ent.q rfl, trivial⟩ ⟨rfl, rfl, ⟨rfl, rfl, trivial⟩⟩
     ·have hrest54 := range_end hxs46 hi47 (of_decide_eq_false hc51)
      subst hrest54
      rw [M.strings_Join_loop2.eq_1] at hm
      refine W.exit rfl ?_
      have hr57 := Option.some.inj hm
      clear hm
      subst hr57
      have hm := hk45
      try dsimp only at hm
      refine WN.seq ?_
      refine W.sr ?_
      refine WL.weakR (res' := [(8, (Bx 2 true 54 (bldA k2 b2 b) b)), (1000008, Dec.Own (tI .u8) 5 k2 b2.length)]) ⟨rfl, rfl, ⟨rfl, rfl, trivial⟩⟩ ?_
      refine WL.opR rfl (OpR.call (us := [8, 1000008]) (A := fun kx : Unit => tS.is b2) Tryd.call38 (FSpecR.keys (rin' := [(8, (Bx 2 true 54 (bldA k2 b2 b) b)), (1000008, Dec.Own (tI .u8) 5 k2 b2.length)]) (out' := fun kx : Unit => []) (strings_Builder_String_spec _ _ _) rfl (fun _ => rfl)) rfl ⟨(.tmp rfl), trivial⟩) (fun _ => ?_)
      refine WL.gv rfl rfl ?_
      refine WL.ns ?_
      cases hm
      exact W.ret1 () rfl (.tmp rfl) trivial
   ·have hm := hs7
    clear hs7
    refine W.sr ?_
    refine WL.mv rfl rfl ?_
    refine WL.op rfl (.lenS Tryd.underlying9 (.tmp rfl)) ?_
    refine WL.op rfl (.gtI (.tmp rfl) .i64) ?_
    refine WL.ns ?_
    refine W.cond (.tmp rfl) (fun hc9 => ?_) (fun hc9 => ?_)
    ·have hp10 := of_decide_eq_true hc9
     rw [if_pos hp10] at hm
     obtain ⟨s11, hs12, hk13⟩ := bind_some hm
     clear hm
     refine W.join (fun s : Unit => s = s11) (fun s => [(0, ((tL tS).is elems)), (1, (tS.is sep)), (5, ((tI .i64).is (0 : Int)))]) (fun s => []) ?_ ?_
     ·rintro _ hj21
      try dsimp only at hj21
      subst hj21
      have hm := hk13
      clear hk13
      try dsimp only at hm
      change W _ _ _ _ _ _ _ [(0, ((tL tS).is elems)), (1, (tS.is sep)), (5, ((tI .i64).is (0 : Int)))] []
      refine W.region ?_
      refine WL.mv rfl rfl ?_
      refine WL.mv rfl rfl ?_
      refine WL.op rfl (.lenS Tryd.underlying9 (.tmp rfl)) ?_
      refine WL.mv rfl rfl ?_
      refine WL.op rfl (.lenL Tryd.underlying23 (.tmp rfl)) ?_
      obtain ⟨v3, hv18, hm⟩ := bind_some hm
      refine WL.op rfl (.subC hv18 (.tmp rfl) .i64) ?_
      obtain ⟨v4, hv19, hm⟩ := bind_some hm
      refine WL.op rfl (.mulC hv19 (.tmp rfl) (.tmp rfl)) ?_
      obtain ⟨v5, hv20, hm⟩ := bind_some hm
      refine WL.op rfl (.addC hv20 (.tmp rfl) (.tmp rfl)) ?_
      refine WL.gv rfl rfl ?_
      refine WL.nil ?_
      exact WN.meet v5 (Option.some.inj hm) ⟨Ent.q rfl, Ent.q rfl, Ent.q rfl, trivial⟩ trivial
     ·have hm := hs12
      clear hs12
      refine W.sr ?_
      refine WL.mv rfl rfl ?_
      refine WL.op rfl (.lenS Tryd.underlying9 (.tmp rfl)) ?_
      refine WL.mv rfl rfl ?_
      refine WL.op rfl (.lenL Tryd.underlying23 (.tmp rfl)) ?_
      obtain ⟨v1, hv14, hm⟩ := bind_some hm
      refine WL.op rfl (.subC hv14 (.tmp rfl) .i64) ?_
      obtain ⟨v2, hv15, hm⟩ := bind_some hm
      refine WL.op rfl (.quoC hv15 .i64 (.tmp rfl)) ?_
      refine WL.op rfl (.geI (.tmp rfl) (.tmp rfl)) ?_
      refine WL.ns ?_
      refine W.cond (.tmp rfl) (fun hc16 => ?_) (fun hc16 => ?_)
      ·have hp17 := of_decide_eq_true hc16
       rw [if_pos hp17] at hm
       cases hm
      ·have hp17 := of_decide_eq_false hc16
       rw [if_neg hp17] at hm
       refine W.skip ?_
       exact WN.meet () (Option.some.inj hm) ⟨Ent.q rfl, Ent.q rfl, Ent.q rfl, trivial⟩ trivial
    ·have hp10 := of_decide_eq_false hc9
     rw [if_neg hp10] at hm
     refine W.skip ?_
     exact WN.meet (0 : Int) (Option.some.inj hm) ⟨Ent.q rfl, Ent.q rfl, Ent.q rfl, trivial⟩ trivial

theorem wordseq_Join_spec (n : Nat) (l : List Str) (r : Str) (hm : M.wordseq_Join n l = some r) : FSpec Tryd.prog 9 [((tL tS).is l)] (tS.is r) := by
 unfold M.wordseq_Join at hm
 refine FSpec.of Tryd.func9 rfl rfl rfl (fun g0 => ?_)
 refine W.sr ?_
 refine WL.op rfl (.assign (.str rfl (by decide))) ?_
 refine WL.ns ?_
 refine W.seq ?_
 refine W.sr ?_
 refine WL.mv rfl rfl ?_
 obtain ⟨valid, hv1, hm⟩ := bind_some hm
 refine WL.op rfl (.call Tryd.call10 (wordseq_Valid_spec _ _ _ hv1) ⟨(.tmp rfl), trivial⟩) ?_
 refine WL.op rfl (.notB (.tmp rfl)) ?_
 refine WL.ns ?_
 refine W.cond (.tmp rfl) (fun hc2 => ?_) (fun hc2 => ?_)
 ·have hp3 := not_pos hc2
  rw [if_pos hp3] at hm
  refine W.sr ?_
  refine WL.op rfl (.assign (.str rfl (by decide))) ?_
  refine WL.ns ?_
  cases hm
  exact W.ret1 () rfl (.tmp rfl) trivial
 ·have hp3 := not_neg hc2
  rw [if_neg hp3] at hm
  refine W.skip ?_
  refine WN.seq ?_
  refine W.sr ?_
  refine WL.mv rfl rfl ?_
  obtain ⟨join, hv4, hm⟩ := bind_some hm
  refine WL.op rfl (.call Tryd.call23 (strings_Join_spec _ _ _ hv4) ⟨(.tmp rfl), (.str rfl (by decide)), trivial⟩) ?_
  refine WL.gv rfl rfl ?_
  refine WL.ns ?_
  cases hm
  exact W.ret1 () rfl (.tmp rfl) trivial

theorem law04_WordseqSplits_spec (n : Nat) (s0_ : Str) (r : Bool) (hm : M.law04_WordseqSplits n s0_ = some r) : FSpecR Tryd.prog 3 [(tS.is s0_)] [(700000, GlE 0)] (fun _ : Unit => (tB.is r)) (fun _ => []) := by
 unfold M.law04_WordseqSplits at hm
 refine FSpecR.of Tryd.func3 rfl rfl rfl (fun g0 => ?_)
 refine W.sr ?_
 refine WL.op rfl (.assign .bool) ?_
 refine WL.ns ?_
 refine W.seq ?_
 refine W.sr ?_
 refine WL.mv rfl rfl ?_
 refine WL.op rfl (.lenS Tryd.underlying9 (.tmp rfl)) ?_
 refine WL.op rfl (.gtI (.tmp rfl) .i64) ?_
 refine WL.ns ?_
 refine W.cond (.tmp rfl) (fun hc1 => ?_) (fun hc1 => ?_)
 ·have hp2 := of_decide_eq_true hc1
  rw [if_pos hp2] at hm
  refine W.sr ?_
  obtain ⟨awake, hv3, hm⟩ := bind_some hm
  refine WL.op rfl (.call Tryd.call5 (law04_awake_spec _ _ hv3) trivial) ?_
  refine WL.gv rfl rfl ?_
  refine WL.ns ?_
  cases hm
  exact W.ret1 () rfl (.tmp rfl) trivial
 ·have hp2 := of_decide_eq_false hc1
  rw [if_neg hp2] at hm
  refine W.skip ?_
  refine WN.seq ?_
  refine W.sr ?_
  refine WL.mv rfl rfl ?_
  obtain ⟨split, hv4, hm⟩ := bind_some hm
  refine WL.op rfl (.callG (rin := [(700000, GlE 0)]) Tryd.call6 (wordseq_Split_spec _ _ _ hv4) ⟨rfl, trivial⟩ ⟨rfl, rfl, trivial⟩ ⟨(.tmp rfl), trivial⟩) ?_
  refine WL.mv rfl rfl ?_
  refine WL.op rfl (.extract0 (.tmp rfl)) ?_
  refine WL.op rfl (.extract1 (.tmp rfl)) ?_
  refine WL.gv rfl rfl ?_
  refine WL.gv rfl rfl ?_
  refine WL.nr ?_
  refine WL.mv rfl rfl ?_
  obtain ⟨split1, hv5, hm⟩ := bind_some hm
  refine WL.op rfl (.call Tryd.call7 (r04_Split_spec _ _ _ hv5) ⟨(.tmp rfl), trivial⟩) ?_
  refine WL.mv rfl rfl ?_
  refine WL.op rfl (.extract0 (.tmp rfl)) ?_
  refine WL.op rfl (.extract1 (.tmp rfl)) ?_
  refine WL.gv rfl rfl ?_
  refine WL.gv rfl rfl ?_
  refine WL.ns ?_
  refine W.seq ?_
  obtain ⟨s6, hs7, hk8⟩ := bind_some hm
  clear hm
  refine W.join (fun s : Bool => s = s6) (fun s => [(29, (tB.is s)), (0, (tS.is s0_)), (3, ((tL tS).is split.1)), (6, ((tI .i64).is split1.2))]) (fun s => [(700000, GlE 0)]) ?_ ?_
  ·rintro v hj24
   try dsimp only at hj24
   subst hj24
   have hm := hk8
   clear hk8
   try dsimp only at hm
   change W _ _ _ _ _ _ _ [(29, (tB.is v)), (0, (tS.is s0_)), (3, ((tL tS).is split.1)), (6, ((tI .i64).is split1.2))] [(700000, GlE 0)]
   refine W.cond (.tmp rfl) (fun hc12 => ?_) (fun hc12 => ?_)
   ·have hp13 := hc12
    rw [if_pos hp13] at hm
    refine W.sr ?_
    refine WL.op rfl (.assign .bool) ?_
    refine WL.ns ?_
    cases hm
    exact W.ret1 () rfl (.tmp rfl) trivial
   ·have hp13 := ne_of_false hc12
    rw [if_neg hp13] at hm
    refine W.skip ?_
    refine WN.seq ?_
    refine W.sr ?_
    refine WL.mv rfl rfl ?_
    refine WL.op rfl (.neI (.tmp rfl) .i64) ?_
    refine WL.mv rfl rfl ?_
    rcases bcases (decide (split1.2 ≠ (0 : Int))) with hb14 | hb14
    ·have hp15 := of_decide_eq_true hb14
     rw [if_pos hp15] at hm
     iterate 5 refine WL.pass rfl rfl rfl rfl hb14 rfl rfl ?_
     iterate 2 refine WL.pass2 rfl rfl rfl rfl rfl rfl ?_
     refine WL.pass rfl rfl rfl rfl hb14 rfl rfl ?_
     refine WL.op rfl (.pickT (.tmp rfl) hb14 .bool) ?_
     refine WL.mv rfl rfl ?_
     obtain ⟨awake1, hv16, hm⟩ := bind_some hm
     refine WL.run rfl rfl rfl rfl rfl rfl rfl (Op1.call Tryd.call5 (law04_awake_spec _ _ hv16) trivial) ?_
     refine WL.op rfl (.pickT (.tmp rfl) rfl (.tmp rfl)) ?_
     refine WL.gv rfl rfl ?_
     refine WL.ns ?_
     cases hm
     exact W.ret1 () rfl (.tmp rfl) trivial
    ·have hp15 := of_decide_eq_false hb14
     rw [if_neg hp15] at hm
     refine WL.run rfl rfl rfl rfl hb14 rfl rfl (Op1.move (.tmp rfl)) ?_
     obtain ⟨join, hv17, hm⟩ := bind_some hm
     refine WL.run rfl rfl rfl rfl hb14 rfl rfl (Op1.call Tryd.call9 (wordseq_Join_spec _ _ _ hv17) ⟨(.tmp rfl), trivial⟩) ?_
     refine WL.run rfl rfl rfl rfl hb14 rfl rfl (Op1.move (.tmp rfl)) ?_
     refine WL.run rfl rfl rfl rfl hb14 rfl rfl (Op1.eqS (.tmp rfl) (.tmp rfl)) ?_
     refine WL.run rfl rfl rfl rfl hb14 rfl rfl (Op1.move (.tmp rfl)) ?_
     rcases bcases (join == s0_) with hb18 | hb18
     ·have hp19 := hb18
      rw [if_pos hp19] at hm
      refine WL.run rfl rfl rfl rfl hb18 rfl rfl (Op1.move (.tmp rfl)) ?_
      obtain ⟨valid, hv20, hm⟩ := bind_some hm
      refine WL.run rfl rfl rfl rfl hb18 rfl rfl (Op1.call Tryd.call10 (wordseq_Valid_spec _ _ _ hv20) ⟨(.tmp rfl), trivial⟩) ?_
      refine WL.run rfl rfl rfl rfl hb14 rfl rfl (Op1.pickT (.tmp rfl) hb18 (.tmp rfl)) ?_
      refine WL.op rfl (.pickF (.tmp rfl) hb14 (.tmp rfl)) ?_
      refine WL.mv rfl rfl ?_
      rcases bcases (valid) with hb21 | hb21
      ·have hp22 := hb21
       rw [if_pos hp22] at hm
       obtain ⟨awake2, hv23, hm⟩ := bind_some hm
       refine WL.run rfl rfl rfl rfl hb21 rfl rfl (Op1.call Tryd.call5 (law04_awake_spec _ _ hv23) trivial) ?_
       refine WL.op rfl (.pickT (.tmp rfl) hb21 (.tmp rfl)) ?_
       refine WL.gv rfl rfl ?_
       refine WL.ns ?_
       cases hm
       exact W.ret1 () rfl (.tmp rfl) trivial
      ·have hp22 := ne_of_false hb21
       rw [if_neg hp22] at hm
       refine WL.pass rfl rfl rfl rfl hb21 rfl rfl ?_
       refine WL.op rfl (.pickF (.tmp rfl) hb21 .bool) ?_
       refine WL.gv rfl rfl ?_
       refine WL.ns ?_
       cases hm
       exact W.ret1 () rfl (.tmp rfl) trivial
     ·have hp19 := ne_of_false hb18
      rw [if_neg hp19] at hm
      iterate 2 refine WL.pass rfl rfl rfl rfl hb18 rfl rfl ?_
      refine WL.run rfl rfl rfl rfl hb14 rfl rfl (Op1.pickF (.tmp rfl) hb18 .bool) ?_
      refine WL.op rfl (.pickF (.tmp rfl) hb14 (.tmp rfl)) ?_
      refine WL.mv rfl rfl ?_
      refine WL.pass rfl rfl rfl rfl rfl rfl rfl ?_
      refine WL.op rfl (.pickF (.tmp rfl) rfl .bool) ?_
      refine WL.gv rfl rfl ?_
      refine WL.ns ?_
      cases hm
      exact W.ret1 () rfl (.tmp rfl) trivial
  ·have hm := hs7
   clear hs7
   refine W.region ?_
   refine WL.mv rfl rfl ?_
   refine WL.mv rfl rfl ?_
   obtain ⟨same, hv9, hm⟩ := bind_some hm
   refine WL.op rfl (.call Tryd.call8 (r04_Same_spec _ _ _ _ hv9) ⟨(.tmp rfl), (.tmp rfl), trivial⟩) ?_
   refine WL.op rfl (.notB (.tmp rfl)) ?_
   refine WL.mv rfl rfl ?_
   rcases bcases (!same) with hb10 | hb10
   ·have hp11 := not_pos hb10
    rw [if_pos hp11] at hm
    iterate 3 refine WL.pass rfl rfl rfl rfl hb10 rfl rfl ?_
    refine WL.op rfl (.pickT (.tmp rfl) hb10 .bool) ?_
    refine WL.nil ?_
    exact WN.meet true (Option.some.inj hm) ⟨Ent.q rfl, Ent.q rfl, Ent.q rfl, Ent.q rfl, trivial⟩ ⟨rfl, rfl, trivial⟩
   ·have hp11 := not_neg hb10
    rw [if_neg hp11] at hm
    refine WL.run rfl rfl rfl rfl hb10 rfl rfl (Op1.move (.tmp rfl)) ?_
    refine WL.run rfl rfl rfl rfl hb10 rfl rfl (Op1.move (.tmp rfl)) ?_
    refine WL.run rfl rfl rfl rfl hb10 rfl rfl (Op1.neI (.tmp rfl) (.tmp rfl)) ?_
    refine WL.op rfl (.pickF (.tmp rfl) hb10 (.tmp rfl)) ?_
    refine WL.nil ?_
    exact WN.meet (decide (split.2 ≠ split1.2)) (Option.some.inj hm) ⟨Ent.q rfl, Ent.q rfl, Ent.q rfl, Ent.q rfl, trivial⟩ ⟨rfl, rfl, trivial⟩

theorem law04_long_spec (rows : List (List Str)) (r : Bool) (hm : M.law04_long rows = some r) : FSpec Tryd.prog 11 [((tL (tL tS)).is rows)] (tB.is r) := by
 unfold M.law04_long at hm
 refine FSpec.of Tryd.func11 rfl rfl rfl (fun g0 => ?_)
 refine W.sr ?_
 refine WL.op rfl (.assign .bool) ?_
 refine WL.ns ?_
 refine W.seq ?_
 refine W.sr ?_
 refine WL.mv rfl rfl ?_
 refine WL.op rfl (.lenL Tryd.underlying42 (.tmp rfl)) ?_
 refine WL.op rfl (.move .i64) ?_
 refine WL.ns ?_
 refine W.block ?_
 obtain ⟨s1, hs2, hk3⟩ := bind_some hm
 clear hm
 refine W.loop (fun m (s : Int × List (List Str) × List (List Str) × Unit) => m = s.2.2.1.length ∧ rows = s.2.1 ++ s.2.2.1 ∧ s.1 = (s.2.1.length : Int) ∧ M.law04_long_loop1 s.2.2.1 = some s1) (fun s => [(10, ((tI .i64).is s.1)), (8, ((tL (tL tS)).is rows)), (9, ((tI .i64).is (rows.length : Int)))]) (fun s => []) rows.length ((0 : Int), [], rows, ()) ⟨rfl, rfl, rfl, hs2⟩ ⟨Ent.q rfl, Ent.q rfl, Ent.q rfl, trivial⟩ trivial ?_
 rintro m ⟨i, pre, rest3, _⟩ ⟨hn7, hxs4, hi5, hm⟩
 try dsimp only at hn7 hxs4 hi5 hm
 change W _ _ _ _ _ _ _ [(10, ((tI .i64).is i)), (8, ((tL (tL tS)).is rows)), (9, ((tI .i64).is (rows.length : Int)))] []
 refine W.lenL (s := 8) (.tmp rfl) fun hlen6 => ?_
 refine W.sr ?_
 refine WL.op rfl (.ltI (.tmp rfl) (.tmp rfl)) ?_
 refine WL.ns ?_
 refine W.seq ?_
 refine W.cond (.tmp rfl) (fun hc9 => ?_) (fun hc9 => ?_)
 ·have hp10 := of_decide_eq_true hc9
  obtain ⟨e, es, hrest12⟩ := range_more hxs4 hi5 hp10
  subst hrest12
  rw [M.law04_long_loop1.eq_2] at hm
  refine W.skip ?_
  refine WN.seq ?_
  refine W.seq ?_
  refine W.block ?_
  refine W.sr ?_
  refine WL.op rfl (.idxPre hxs4 hi5 Tryd.underlying42 Tryd.sizeOf23 (.tmp rfl) (.tmp rfl)) ?_
  refine WL.op rfl (.load ty23 (.tmp rfl)) ?_
  refine WL.gv rfl rfl ?_
  refine WL.nr ?_
  refine WL.op rfl (.assign .i64) ?_
  refine WL.ns ?_
  refine W.seq ?_
  refine W.sr ?_
  refine WL.mv rfl rfl ?_
  refine WL.op rfl (.lenL Tryd.underlying23 (.tmp rfl)) ?_
  refine WL.op rfl (.move .i64) ?_
  refine WL.ns ?_
  refine W.block ?_
  obtain ⟨s13, hs14, hk15⟩ := bind_some hm
  clear hm
  refine W.loop (fun m (s : Int × List Str × List Str × Int) => m = s.2.2.1.length ∧ e = s.2.1 ++ s.2.2.1 ∧ s.1 = (s.2.1.length : Int) ∧ M.law04_long_loop2 s.2.2.1 s.2.2.2 = some s13) (fun s => [(16, ((tI .i64).is s.1)), (5, ((tI .i64).is s.2.2.2)), (4, ((tL tS).is e)), (8, ((tL (tL tS)).is rows)), (9, ((tI .i64).is (rows.length : Int))), (10, ((tI .i64).is i)), (14, ((tL tS).is e)), (15, ((tI .i64).is (e.length : Int)))]) (fun s => []) e.length ((0 : Int), [], e, (0 : Int)) ⟨rfl, rfl, rfl, hs14⟩ ⟨Ent.q rfl, Ent.q rfl, Ent.q rfl, Ent.q rfl, Ent.q rfl, Ent.q rfl, Ent.q rfl, Ent.q rfl, trivial⟩ trivial ?_
  rintro m ⟨i1, pre1, rest2, n0_⟩ ⟨hn19, hxs16, hi17, hm⟩
  try dsimp only at hn19 hxs16 hi17 hm
  change W _ _ _ _ _ _ _ [(16, ((tI .i64).is i1)), (5, ((tI .i64).is n0_)), (4, ((tL tS).is e)), (8, ((tL (tL tS)).is rows)), (9, ((tI .i64).is (rows.length : Int))), (10, ((tI .i64).is i)), (14, ((tL tS).is e)), (15, ((tI .i64).is (e.length : Int)))] []
  refine W.lenL (s := 14) (.tmp rfl) fun hlen18 => ?_
  refine W.sr ?_
  refine WL.op rfl (.ltI (.tmp rfl) (.tmp rfl)) ?_
  refine WL.ns ?_
  refine W.seq ?_
  refine W.cond (.tmp rfl) (fun hc21 => ?_) (fun hc21 => ?_)
  ·have hp22 := of_decide_eq_true hc21
   obtain ⟨e1, es1, hrest24⟩ := range_more hxs16 hi17 hp22
   subst hrest24
   rw [M.law04_long_loop2.eq_2] at hm
   refine W.skip ?_
   refine WN.seq ?_
   refine W.seq ?_
   refine W.block ?_
   refine W.sr ?_
   refine WL.op rfl (.idxPre hxs16 hi17 Tryd.underlying23 Tryd.sizeOf9 (.tmp rfl) (.tmp rfl)) ?_
   refine WL.op rfl (.load ty9 (.tmp rfl)) ?_
   refine WL.gv rfl rfl ?_
   refine WL.nr1 ?_
   refine WL.mv rfl rfl ?_
   refine WL.mv rfl rfl ?_
   refine WL.op rfl (.lenS Tryd.underlying9 (.tmp rfl)) ?_
   refine WL.op rfl (.addW64 (.tmp rfl) (.tmp rfl)) ?_
   refine WL.gv rfl rfl ?_
   refine WL.nil ?_
   refine WN.block ?_
   refine WN.seq ?_
   refine W.region ?_
   refine WL.op rfl (.addI (.tmp rfl) .i64 (range_inR hi17 hp22 hlen18)) ?_
   refine WL.mv rfl rfl ?_
   refine WL.nil ?_
   exact WN.again es1.length (i1 + 1, pre1 ++ [e1], es1, wrap64 (n0_ + (e1.length : Int))) (range_lt hn19) ⟨rfl, range_step hxs16, range_idx hi17, hm⟩ ⟨Ent.q rfl, Ent.q rfl, Ent.q rfl, Ent.q rfl, Ent.q rfl, Ent.q rfl, Ent.q rfl, Ent.q rfl, trivial⟩ trivial
  ·have hrest24 := range_end hxs16 hi17 (of_decide_eq_false hc21)
   subst hrest24
   rw [M.law04_long_loop2.eq_1] at hm
   refine W.exit rfl ?_
   have hr25 := Option.some.inj hm
   clear hm
   subst hr25
   have hm := hk15
   try dsimp only at hm
   refine WN.seq ?_
   refine W.sr ?_
   refine WL.mv rfl rfl ?_
   refine WL.op rfl (.lenL Tryd.underlying23 (.tmp rfl)) ?_
   refine WL.op rfl (.gtI (.tmp rfl) .i64) ?_
   refine WL.mv rfl rfl ?_
   rcases bcases (decide ((300 : Int) < (e.length : Int))) with hb26 | hb26
   ·have hp27 := of_decide_eq_true hb26
    rw [if_pos hp27] at hm
    iterate 2 refine WL.pass rfl rfl rfl rfl hb26 rfl rfl ?_
    refine WL.op rfl (.pickT (.tmp rfl) hb26 .bool) ?_
    refine WL.ns ?_
    refine W.condT (.tmp rfl) ?_
    refine W.sr ?_
    refine WL.op rfl (.assign .bool) ?_
    refine WL.ns ?_
    have hr28 := Option.some.inj hm
    clear hm
    subst hr28
    have hm := hk3
    try dsimp only at hm
    cases hm
    exact W.ret1 () rfl (.tmp rfl) trivial
   ·have hp27 := of_decide_eq_false hb26
    rw [if_neg hp27] at hm
    refine WL.run rfl rfl rfl rfl hb26 rfl rfl (Op1.move (.tmp rfl)) ?_
    refine WL.run rfl rfl rfl rfl hb26 rfl rfl (Op1.gtI (.tmp rfl) .i64) ?_
    refine WL.op rfl (.pickF (.tmp rfl) hb26 (.tmp rfl)) ?_
    refine WL.ns ?_
    refine W.cond (.tmp rfl) (fun hc29 => ?_) (fun hc29 => ?_)
    ·have hp30 := of_decide_eq_true hc29
     rw [if_pos hp30] at hm
     refine W.sr ?_
     refine WL.op rfl (.assign .bool) ?_
     refine WL.ns ?_
     have hr31 := Option.some.inj hm
     clear hm
     subst hr31
     have hm := hk3
     try dsimp only at hm
     cases hm
     exact W.ret1 () rfl (.tmp rfl) trivial
    ·have hp30 := of_decide_eq_false hc29
     rw [if_neg hp30] at hm
     refine W.skip ?_
     refine WN.block ?_
     refine WN.seq ?_
     refine W.region ?_
     refine WL.op rfl (.addI (.tmp rfl) .i64 (range_inR hi5 hp10 hlen6)) ?_
     refine WL.mv rfl rfl ?_
     refine WL.nil ?_
     exact WN.again es.length (i + 1, pre ++ [e], es, ()) (range_lt hn7) ⟨rfl, range_step hxs4, range_idx hi5, hm⟩ ⟨Ent.q rfl, Ent.q rfl, Ent.q rfl, trivial⟩ trivial
 ·have hrest12 := range_end hxs4 hi5 (of_decide_eq_false hc9)
  subst hrest12
  rw [M.law04_long_loop1.eq_1] at hm
  refine W.exit rfl ?_
  have hr32 := Option.some.inj hm
  clear hm
  subst hr32
  have hm := hk3
  try dsimp only at hm
  refine WN.seq ?_
  refine W.sr ?_
  refine WL.op rfl (.assign .bool) ?_
  refine WL.ns ?_
  cases hm
  exact W.ret1 () rfl (.tmp rfl) trivial

theorem r04_May_spec (n : Nat) (l : List Str) (r : Bool) (hm : M.r04_May n l = some r) : FSpec Tryd.prog 12 [((tL tS).is l)] (tB.is r) := by
 unfold M.r04_May at hm
 refine FSpec.of Tryd.func12 rfl rfl rfl (fun g0 => ?_)
 refine W.sr ?_
 refine WL.op rfl (.assign .bool) ?_
 refine WL.ns ?_
 refine W.seq ?_
 refine W.sr ?_
 refine WL.mv rfl rfl ?_
 refine WL.op rfl (.lenL Tryd.underlying23 (.tmp rfl)) ?_
 refine WL.op rfl (.gtI (.tmp rfl) .i64) ?_
 refine WL.ns ?_
 refine W.cond (.tmp rfl) (fun hc1 => ?_) (fun hc1 => ?_)
 ·have hp2 := of_decide_eq_true hc1
  rw [if_pos hp2] at hm
  refine W.sr ?_
  refine WL.op rfl (.assign .bool) ?_
  refine WL.ns ?_
  cases hm
  exact W.ret1 () rfl (.tmp rfl) trivial
 ·have hp2 := of_decide_eq_false hc1
  rw [if_neg hp2] at hm
  refine W.skip ?_
  refine WN.seq ?_
  refine W.seq ?_
  refine W.sr ?_
  refine WL.op rfl (.assign .i64) ?_
  refine WL.ns ?_
  refine W.block ?_
  obtain ⟨s3, hs4, hk5⟩ := bind_some hm
  clear hm
  refine W.loop (fun m (s : Int) => M.r04_May_loop1 l m s = some s3) (fun s => [(3, ((tI .i64).is s)), (0, ((tL tS).is l))]) (fun s => []) _ (0 : Int) hs4 ⟨Ent.q rfl, Ent.q rfl, trivial⟩ trivial ?_
  rintro n6 i hm
  try dsimp only at hm
  change W _ _ _ _ _ _ _ [(3, ((tI .i64).is i)), (0, ((tL tS).is l))] []
  cases n6 with
  | zero => rw [M.r04_May_loop1.eq_1] at hm; cases hm
  | succ n6 =>
   rw [M.r04_May_loop1.eq_2] at hm
   refine W.seq ?_
   refine W.sr ?_
   refine WL.mv rfl rfl ?_
   refine WL.mv rfl rfl ?_
   refine WL.op rfl (.lenL Tryd.underlying23 (.tmp rfl)) ?_
   refine WL.op rfl (.ltI (.tmp rfl) (.tmp rfl)) ?_
   refine WL.ns ?_
   refine W.cond (.tmp rfl) (fun hc7 => ?_) (fun hc7 => ?_)
   ·have hp8 := of_decide_eq_true hc7
    rw [if_pos hp8] at hm
    refine W.skip ?_
    refine WN.seq ?_
    refine W.seq ?_
    refine W.block ?_
    refine W.sr ?_
    refine WL.mv rfl rfl ?_
    refine WL.mv rfl rfl ?_
    obtain ⟨v, hv9, hm⟩ := bind_some hm
    refine WL.op rfl (.idx hv9 Tryd.underlying23 Tryd.sizeOf9 (.tmp rfl) (.tmp rfl)) ?_
    refine WL.op rfl (.load ty9 (.tmp rfl)) ?_
    obtain ⟨word, hv10, hm⟩ := bind_some hm
    refine WL.op rfl (.call Tryd.call22 (r04_Word_spec _ _ _ hv10) ⟨(.tmp rfl), trivial⟩) ?_
    refine WL.op rfl (.notB (.tmp rfl)) ?_
    refine WL.ns ?_
    refine W.cond (.tmp rfl) (fun hc11 => ?_) (fun hc11 => ?_)
    ·have hp12 := not_pos hc11
     rw [if_pos hp12] at hm
     refine W.sr ?_
     refine WL.op rfl (.assign .bool) ?_
     refine WL.ns ?_
     have hr13 := Option.some.inj hm
     clear hm
     subst hr13
     have hm := hk5
     try dsimp only at hm
     cases hm
     exact W.ret1 () rfl (.tmp rfl) trivial
    ·have hp12 := not_neg hc11
     rw [if_neg hp12] at hm
     refine W.skip ?_
     refine WN.block ?_
     refine WN.seq ?_
     refine W.region ?_
     refine WL.mv rfl rfl ?_
     refine WL.lenL (s := 0) (.tmp rfl) fun hl14 => ?_
     refine WL.op rfl (.addI1 (.tmp rfl) .i64 hp8 hl14) ?_
     refine WL.gv rfl rfl ?_
     refine WL.nil ?_
     exact WN.again n6 (i + 1) (Nat.lt_succ_self n6) hm ⟨Ent.q rfl, Ent.q rfl, trivial⟩ trivial
   ·have hp8 := of_decide_eq_false hc7
    rw [if_neg hp8] at hm
    refine W.exit rfl ?_
    have hr15 := Option.some.inj hm
    clear hm
    subst hr15
    have hm := hk5
    try dsimp only at hm
    refine WN.seq ?_
    refine W.sr ?_
    refine WL.op rfl (.assign .bool) ?_
    refine WL.ns ?_
    cases hm
    exact W.ret1 () rfl (.tmp rfl) trivial

theorem wordseq_Equal_spec (n : Nat) (a : List Str) (b : List Str) (r : Bool) (hm : M.wordseq_Equal n a b = some r) : FSpec Tryd.prog 13 [((tL tS).is a), ((tL tS).is b)] (tB.is r) := by
 unfold M.wordseq_Equal at hm
 refine FSpec.of Tryd.func13 rfl rfl rfl (fun g0 => ?_)
 refine W.sr ?_
 refine WL.op rfl (.assign .bool) ?_
 refine WL.nr ?_
 refine WL.mv rfl rfl ?_
 refine WL.mv rfl rfl ?_
 obtain ⟨string, hv1, hm⟩ := bind_some hm
 refine WL.op rfl (.call Tryd.call25 (slices_Equal_string_string_spec _ _ _ _ hv1) ⟨(.tmp rfl), (.tmp rfl), trivial⟩) ?_
 refine WL.gv rfl rfl ?_
 refine WL.ns ?_
 cases hm
 exact W.ret1 () rfl (.tmp rfl) trivial

theorem law04_WordseqRoundTrip_spec (n : Nat) (l : List Str) (r : Bool) (hm : M.law04_WordseqRoundTrip n l = some r) : FSpecR Tryd.prog 4 [((tL tS).is l)] [(700000, GlE 0)] (fun _ : Unit => (tB.is r)) (fun _ => []) := by
 unfold M.law04_WordseqRoundTrip at hm
 refine FSpecR.of Tryd.func4 rfl rfl rfl (fun g0 => ?_)
 refine W.sr ?_
 refine WL.op rfl (.assign .bool) ?_
 refine WL.ns ?_
 refine W.seq ?_
 obtain ⟨s1, hs2, hk3⟩ := bind_some hm
 clear hm
 refine W.join (fun s : Bool => s = s1) (fun s => [(12, (tB.is s)), (0, ((tL tS).is l))]) (fun s => [(700000, GlE 0)]) ?_ ?_
 ·rintro v hj22
  try dsimp only at hj22
  subst hj22
  have hm := hk3
  clear hk3
  try dsimp only at hm
  change W _ _ _ _ _ _ _ [(12, (tB.is v)), (0, ((tL tS).is l))] [(700000, GlE 0)]
  refine W.cond (.tmp rfl) (fun hc8 => ?_) (fun hc8 => ?_)
  ·have hp9 := hc8
   rw [if_pos hp9] at hm
   refine W.sr ?_
   obtain ⟨awake, hv10, hm⟩ := bind_some hm
   refine WL.op rfl (.call Tryd.call5 (law04_awake_spec _ _ hv10) trivial) ?_
   refine WL.gv rfl rfl ?_
   refine WL.ns ?_
   cases hm
   exact W.ret1 () rfl (.tmp rfl) trivial
  ·have hp9 := ne_of_false hc8
   rw [if_neg hp9] at hm
   refine W.skip ?_
   refine WN.seq ?_
   refine W.sr ?_
   refine WL.mv rfl rfl ?_
   obtain ⟨join, hv11, hm⟩ := bind_some hm
   refine WL.op rfl (.call Tryd.call9 (wordseq_Join_spec _ _ _ hv11) ⟨(.tmp rfl), trivial⟩) ?_
   obtain ⟨split, hv12, hm⟩ := bind_some hm
   refine WL.op rfl (.callG (rin := [(700000, GlE 0)]) Tryd.call6 (wordseq_Split_spec _ _ _ hv12) ⟨rfl, trivial⟩ ⟨rfl, rfl, trivial⟩ ⟨(.tmp rfl), trivial⟩) ?_
   refine WL.mv rfl rfl ?_
   refine WL.op rfl (.extract0 (.tmp rfl)) ?_
   refine WL.op rfl (.extract1 (.tmp rfl)) ?_
   refine WL.gv rfl rfl ?_
   refine WL.gv rfl rfl ?_
   refine WL.nr ?_
   refine WL.mv rfl rfl ?_
   refine WL.op rfl (.eqI (.tmp rfl) .i64) ?_
   refine WL.mv rfl rfl ?_
   rcases bcases (decide (split.2 = (0 : Int))) with hb13 | hb13
   ·have hp14 := of_decide_eq_true hb13
    rw [if_pos hp14] at hm
    refine WL.run rfl rfl rfl rfl hb13 rfl rfl (Op1.move (.tmp rfl)) ?_
    refine WL.run rfl rfl rfl rfl hb13 rfl rfl (Op1.move (.tmp rfl)) ?_
    obtain ⟨same, hv15, hm⟩ := bind_some hm
    refine WL.run rfl rfl rfl rfl hb13 rfl rfl (Op1.call Tryd.call8 (r04_Same_spec _ _ _ _ hv15) ⟨(.tmp rfl), (.tmp rfl), trivial⟩) ?_
    refine WL.op rfl (.pickT (.tmp rfl) hb13 (.tmp rfl)) ?_
    refine WL.mv rfl rfl ?_
    rcases bcases (same) with hb16 | hb16
    ·have hp17 := hb16
     rw [if_pos hp17] at hm
     refine WL.run rfl rfl rfl rfl hb16 rfl rfl (Op1.move (.tmp rfl)) ?_
     refine WL.run rfl rfl rfl rfl hb16 rfl rfl (Op1.move (.tmp rfl)) ?_
     obtain ⟨equal, hv18, hm⟩ := bind_some hm
     refine WL.run rfl rfl rfl rfl hb16 rfl rfl (Op1.call Tryd.call13 (wordseq_Equal_spec _ _ _ _ hv18) ⟨(.tmp rfl), (.tmp rfl), trivial⟩) ?_
     refine WL.op rfl (.pickT (.tmp rfl) hb16 (.tmp rfl)) ?_
     refine WL.mv rfl rfl ?_
     rcases bcases (equal) with hb19 | hb19
     ·have hp20 := hb19
      rw [if_pos hp20] at hm
      obtain ⟨awake1, hv21, hm⟩ := bind_some hm
      refine WL.run rfl rfl rfl rfl hb19 rfl rfl (Op1.call Tryd.call5 (law04_awake_spec _ _ hv21) trivial) ?_
      refine WL.op rfl (.pickT (.tmp rfl) hb19 (.tmp rfl)) ?_
      refine WL.gv rfl rfl ?_
      refine WL.ns ?_
      cases hm
      exact W.ret1 () rfl (.tmp rfl) trivial
     ·have hp20 := ne_of_false hb19
      rw [if_neg hp20] at hm
      refine WL.pass rfl rfl rfl rfl hb19 rfl rfl ?_
      refine WL.op rfl (.pickF (.tmp rfl) hb19 .bool) ?_
      refine WL.gv rfl rfl ?_
      refine WL.ns ?_
      cases hm
      exact W.ret1 () rfl (.tmp rfl) trivial
    ·have hp17 := ne_of_false hb16
     rw [if_neg hp17] at hm
     iterate 3 refine WL.pass rfl rfl rfl rfl hb16 rfl rfl ?_
     refine WL.op rfl (.pickF (.tmp rfl) hb16 .bool) ?_
     refine WL.mv rfl rfl ?_
     refine WL.pass rfl rfl rfl rfl rfl rfl rfl ?_
     refine WL.op rfl (.pickF (.tmp rfl) rfl .bool) ?_
     refine WL.gv rfl rfl ?_
     refine WL.ns ?_
     cases hm
     exact W.ret1 () rfl (.tmp rfl) trivial
   ·have hp14 := of_decide_eq_false hb13
    rw [if_neg hp14] at hm
    iterate 3 refine WL.pass rfl rfl rfl rfl hb13 rfl rfl ?_
    refine WL.op rfl (.pickF (.tmp rfl) hb13 .bool) ?_
    refine WL.mv rfl rfl ?_
    iterate 3 refine WL.pass rfl rfl rfl rfl rfl rfl rfl ?_
    refine WL.op rfl (.pickF (.tmp rfl) rfl .bool) ?_
    refine WL.mv rfl rfl ?_
    refine WL.pass rfl rfl rfl rfl rfl rfl rfl ?_
    refine WL.op rfl (.pickF (.tmp rfl) rfl .bool) ?_
    refine WL.gv rfl rfl ?_
    refine WL.ns ?_
    cases hm
    exact W.ret1 () rfl (.tmp rfl) trivial
 ·have hm := hs2
  clear hs2
  refine W.region ?_
  refine WL.mv rfl rfl ?_
  refine WL.op rfl (.buildSlice (n := 1) (ys := [(0, l)]) (z := ([] : List Str)) (xs := [l]) Tryd.underlying42 el23 ze23 ⟨rfl, (.tmp rfl), trivial⟩ (by simp) (by decide) rfl) ?_
  obtain ⟨long, hv4, hm⟩ := bind_some hm
  refine WL.op rfl (.call Tryd.call11 (law04_long_spec _ _ hv4) ⟨(.tmp rfl), trivial⟩) ?_
  refine WL.mv rfl rfl ?_
  rcases bcases (long) with hb5 | hb5
  ·have hp6 := hb5
   rw [if_pos hp6] at hm
   iterate 3 refine WL.pass rfl rfl rfl rfl hb5 rfl rfl ?_
   refine WL.op rfl (.pickT (.tmp rfl) hb5 .bool) ?_
   refine WL.nil ?_
   exact WN.meet true (Option.some.inj hm) ⟨Ent.q rfl, Ent.q rfl, trivial⟩ ⟨rfl, rfl, trivial⟩
  ·have hp6 := ne_of_false hb5
   rw [if_neg hp6] at hm
   refine WL.run rfl rfl rfl rfl hb5 rfl rfl (Op1.move (.tmp rfl)) ?_
   obtain ⟨may, hv7, hm⟩ := bind_some hm
   refine WL.run rfl rfl rfl rfl hb5 rfl rfl (Op1.call Tryd.call12 (r04_May_spec _ _ _ hv7) ⟨(.tmp rfl), trivial⟩) ?_
   refine WL.run rfl rfl rfl rfl hb5 rfl rfl (Op1.notB (.tmp rfl)) ?_
   refine WL.op rfl (.pickF (.tmp rfl) hb5 (.tmp rfl)) ?_
   refine WL.nil ?_
   exact WN.meet (!may) (Option.some.inj hm) ⟨Ent.q rfl, Ent.q rfl, trivial⟩ ⟨rfl, rfl, trivial⟩

end Go.Proofs.YtgicfjjhchohaaaDoor
