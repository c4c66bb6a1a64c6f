/-
  The code does what the models say: written by program.
-/
import Derived.Test.YtfclekegoleiaaaDoorWa
set_option linter.unusedVariables false
set_option linter.unusedSimpArgs false
namespace Go.Proofs.YtfclekegoleiaaaDoor
open Go Go.Dec

set_option maxRecDepth 100000
set_option maxHeartbeats 4000000
theorem r07_Same_spec (n : Nat) (a : List api_Step) (b : List api_Step) (r : Bool) (hm : M.r07_Same n a b = some r) : FSpec Tryd.prog 15 [((tL tapi_Step).is a), ((tL tapi_Step).is b)] (tB.is r) := by
 unfold M.r07_Same at hm
 refine FSpec.of Tryd.func15 rfl rfl rfl (fun g0 => ?_)
 refine W.sr ?_
 refine WL.op rfl (.assign .bool) ?_
 refine WL.ns ?_
 refine W.seq ?_
 refine W.sr ?_
 refine WL.mv rfl rfl ?_
 refine WL.op rfl (.lenL Tryd.underlying33 (.tmp rfl)) ?_
 refine WL.mv rfl rfl ?_
 refine WL.op rfl (.lenL Tryd.underlying33 (.tmp rfl)) ?_
 refine WL.op rfl (.neI (.tmp rfl) (.tmp rfl)) ?_
 refine WL.ns ?_
 refine W.cond (.tmp rfl) (fun hc1 => ?_) (fun hc1 => ?_)
 ·have hp2 := of_decide_eq_true hc1
  rw [if_pos hp2] at hm
  refine W.sr ?_
  refine WL.op rfl (.assign .bool) ?_
  refine WL.ns ?_
  cases hm
  exact W.ret1 () rfl (.tmp rfl) trivial
 ·have hp2 := of_decide_eq_false hc1
  rw [if_neg hp2] at hm
  refine W.skip ?_
  refine WN.seq ?_
  refine W.seq ?_
  refine W.sr ?_
  refine WL.op rfl (.assign .i64) ?_
  refine WL.ns ?_
  refine W.block ?_
  obtain ⟨s3, hs4, hk5⟩ := bind_some hm
  clear hm
  refine W.loop (fun m (s : Int) => M.r07_Same_loop1 a b m s = some s3) (fun s => [(5, ((tI .i64).is s)), (0, ((tL tapi_Step).is a)), (1, ((tL tapi_Step).is b))]) (fun s => []) _ (0 : Int) hs4 ⟨Ent.q rfl, Ent.q rfl, Ent.q rfl, trivial⟩ trivial ?_
  rintro n6 i hm
  try dsimp only at hm
  change W _ _ _ _ _ _ _ [(5, ((tI .i64).is i)), (0, ((tL tapi_Step).is a)), (1, ((tL tapi_Step).is b))] []
  cases n6 with
  | zero => rw [M.r07_Same_loop1.eq_1] at hm; cases hm
  | succ n6 =>
   rw [M.r07_Same_loop1.eq_2] at hm
   refine W.seq ?_
   refine W.sr ?_
   refine WL.mv rfl rfl ?_
   refine WL.mv rfl rfl ?_
   refine WL.op rfl (.lenL Tryd.underlying33 (.tmp rfl)) ?_
   refine WL.op rfl (.ltI (.tmp rfl) (.tmp rfl)) ?_
   refine WL.ns ?_
   refine W.cond (.tmp rfl) (fun hc7 => ?_) (fun hc7 => ?_)
   ·have hp8 := of_decide_eq_true hc7
    rw [if_pos hp8] at hm
    refine W.skip ?_
    refine WN.seq ?_
    refine W.seq ?_
    refine W.block ?_
    refine W.seq ?_
    obtain ⟨v, hv9, hm⟩ := bind_some hm
    obtain ⟨v1, hv10, hm⟩ := bind_some hm
    refine W.draw [.c ((tL tapi_Step).is a), .c ((tI .i64).is i), .c (tapi_Step.ptr v), .c (tapi_Step.is v), .c ((tL tapi_Step).is b), .c ((tI .i64).is i), .c (tapi_Step.ptr v1), .c (tapi_Step.is v1), .c (tB.is (decide (v ≠ v1)))] [([], [0]), ([], [5]), ([0, 1], []), ([2], []), ([], [1]), ([], [5]), ([4, 5], []), ([6], []), ([3, 7], [])] Tryd.mixed rfl rfl rfl rfl ⟨.inr (Op1.move (.tmp rfl)), .inr (Op1.move (.tmp rfl)), .inr (Op1.idx hv9 Tryd.underlying33 Tryd.sizeOf41 (.tmp rfl) (.tmp rfl)), .inr (Op1.load ty41 (.tmp rfl)), .inr (Op1.move (.tmp rfl)), .inr (Op1.move (.tmp rfl)), .inr (Op1.idx hv10 Tryd.underlying33 Tryd.sizeOf41 (.tmp rfl) (.tmp rfl)), .inr (Op1.load ty41 (.tmp rfl)), .inr (Op1.neSt (D := 2) rfl (by decide) eg41 eq41 (.tmp rfl) (.tmp rfl)), trivial⟩ ?_
    refine WN.seq ?_
    refine W.cond (.tmp rfl) (fun hc11 => ?_) (fun hc11 => ?_)
    ·have hp12 := of_decide_eq_true hc11
     rw [if_pos hp12] at hm
     refine W.sr ?_
     refine WL.op rfl (.assign .bool) ?_
     refine WL.ns ?_
     have hr13 := Option.some.inj hm
     clear hm
     subst hr13
     have hm := hk5
     try dsimp only at hm
     cases hm
     exact W.ret1 () rfl (.tmp rfl) trivial
    ·have hp12 := of_decide_eq_false hc11
     rw [if_neg hp12] at hm
     refine W.skip ?_
     refine WN.block ?_
     refine WN.seq ?_
     refine W.region ?_
     refine WL.mv rfl rfl ?_
     refine WL.lenL (s := 0) (.tmp rfl) fun hl14 => ?_
     refine WL.op rfl (.addI1 (.tmp rfl) .i64 hp8 hl14) ?_
     refine WL.gv rfl rfl ?_
     refine WL.nil ?_
     exact WN.again n6 (i + 1) (Nat.lt_succ_self n6) hm ⟨Ent.q rfl, Ent.q rfl, Ent.q rfl, trivial⟩ trivial
   ·have hp8 := of_decide_eq_false hc7
    rw [if_neg hp8] at hm
    refine W.exit rfl ?_
    have hr15 := Option.some.inj hm
    clear hm
    subst hr15
    have hm := hk5
    try dsimp only at hm
    refine WN.seq ?_
    refine W.sr ?_
    refine WL.op rfl (.assign .bool) ?_
    refine WL.ns ?_
    cases hm
    exact W.ret1 () rfl (.tmp rfl) trivial

theorem law07_AddressFormat_spec (n : Nat) (p : List api_Step) (r : Bool) (hm : M.law07_AddressFormat n p = some r) : FSpecR Tryd.prog 5 [((tL tapi_Step).is p)] [(700002, GlE 2)] (fun _ : Unit => (tB.is r)) (fun _ => []) := by
 unfold M.law07_AddressFormat at hm
 refine FSpecR.of Tryd.func5 rfl rfl rfl (fun g0 => ?_)
 refine W.sr ?_
 refine WL.op rfl (.assign .bool) ?_
 refine WL.ns ?_
 refine W.seq ?_
 obtain ⟨s1, hs2, hk3⟩ := bind_some hm
 clear hm
 refine W.join (fun s : Bool => s = s1) (fun s => [(12, (tB.is s)), (0, ((tL tapi_Step).is p))]) (fun s => [(700002, GlE 2)]) ?_ ?_
 ·rintro v hj30
  try dsimp only at hj30
  subst hj30
  have hm := hk3
  clear hk3
  try dsimp only at hm
  change W _ _ _ _ _ _ _ [(12, (tB.is v)), (0, ((tL tapi_Step).is p))] [(700002, GlE 2)]
  refine W.cond (.tmp rfl) (fun hc8 => ?_) (fun hc8 => ?_)
  ·have hp9 := hc8
   rw [if_pos hp9] at hm
   refine W.sr ?_
   obtain ⟨awake1, hv10, hm⟩ := bind_some hm
   refine WL.op rfl (.call Tryd.call7 (law07_awake_spec _ _ hv10) trivial) ?_
   refine WL.gv rfl rfl ?_
   refine WL.ns ?_
   cases hm
   exact W.ret1 () rfl (.tmp rfl) trivial
  ·have hp9 := ne_of_false hc8
   rw [if_neg hp9] at hm
   refine W.skip ?_
   refine WN.seq ?_
   refine W.sr ?_
   refine WL.mv rfl rfl ?_
   obtain ⟨format, hv11, hm⟩ := bind_some hm
   refine WL.op rfl (.call Tryd.call21 (address_Format_spec _ _ _ hv11) ⟨(.tmp rfl), trivial⟩) ?_
   refine WL.gv rfl rfl ?_
   refine WL.ns ?_
   refine W.seq ?_
   obtain ⟨s12, hs13, hk14⟩ := bind_some hm
   clear hm
   refine W.join (fun s : Bool => s = s12) (fun s => [(26, (tB.is s)), (0, ((tL tapi_Step).is p)), (3, (tS.is format))]) (fun s => [(700002, GlE 2)]) ?_ ?_
   ·rintro v1 hj29
    try dsimp only at hj29
    subst hj29
    have hm := hk14
    clear hk14
    try dsimp only at hm
    change W _ _ _ _ _ _ _ [(26, (tB.is v1)), (0, ((tL tapi_Step).is p)), (3, (tS.is format))] [(700002, GlE 2)]
    refine W.cond (.tmp rfl) (fun hc20 => ?_) (fun hc20 => ?_)
    ·have hp21 := hc20
     rw [if_pos hp21] at hm
     refine W.sr ?_
     refine WL.op rfl (.assign .bool) ?_
     refine WL.ns ?_
     cases hm
     exact W.ret1 () rfl (.tmp rfl) trivial
    ·have hp21 := ne_of_false hc20
     rw [if_neg hp21] at hm
     refine W.skip ?_
     refine WN.seq ?_
     refine W.seq ?_
     refine W.sr ?_
     refine WL.mv rfl rfl ?_
     obtain ⟨valid1, hv22, hm⟩ := bind_some hm
     refine WL.op rfl (.call Tryd.call17 (address_Valid_spec _ _ _ hv22) ⟨(.tmp rfl), trivial⟩) ?_
     refine WL.op rfl (.notB (.tmp rfl)) ?_
     refine WL.ns ?_
     refine W.cond (.tmp rfl) (fun hc23 => ?_) (fun hc23 => ?_)
     ·have hp24 := not_pos hc23
      rw [if_pos hp24] at hm
      refine W.sr ?_
      refine WL.mv rfl rfl ?_
      refine WL.op rfl (.eqS (.tmp rfl) (.str rfl (by decide))) ?_
      refine WL.gv rfl rfl ?_
      refine WL.ns ?_
      cases hm
      exact W.ret1 () rfl (.tmp rfl) trivial
     ·have hp24 := not_neg hc23
      rw [if_neg hp24] at hm
      refine W.skip ?_
      refine WN.seq ?_
      refine W.sr ?_
      refine WL.mv rfl rfl ?_
      obtain ⟨parse, hv25, hm⟩ := bind_some hm
      refine WL.op rfl (.callG (rin := [(700002, GlE 2)]) Tryd.call24 (address_Parse_spec _ _ _ hv25) ⟨rfl, trivial⟩ ⟨rfl, rfl, trivial⟩ ⟨(.tmp rfl), trivial⟩) ?_
      refine WL.mv rfl rfl ?_
      refine WL.op rfl (.extract0 (.tmp rfl)) ?_
      refine WL.op rfl (.extract1 (.tmp rfl)) ?_
      refine WL.gv rfl rfl ?_
      refine WL.gv rfl rfl ?_
      refine WL.nr ?_
      refine WL.mv rfl rfl ?_
      refine WL.op rfl (.eqI (.tmp rfl) .i64) ?_
      refine WL.mv rfl rfl ?_
      rcases bcases (decide (parse.2 = (0 : Int))) with hb26 | hb26
      ·have hp27 := of_decide_eq_true hb26
       rw [if_pos hp27] at hm
       refine WL.run rfl rfl rfl rfl hb26 rfl rfl (Op1.move (.tmp rfl)) ?_
       refine WL.run rfl rfl rfl rfl hb26 rfl rfl (Op1.move (.tmp rfl)) ?_
       obtain ⟨same, hv28, hm⟩ := bind_some hm
       refine WL.run rfl rfl rfl rfl hb26 rfl rfl (Op1.call Tryd.call15 (r07_Same_spec _ _ _ _ hv28) ⟨(.tmp rfl), (.tmp rfl), trivial⟩) ?_
       refine WL.op rfl (.pickT (.tmp rfl) hb26 (.tmp rfl)) ?_
       refine WL.gv rfl rfl ?_
       refine WL.ns ?_
       cases hm
       exact W.ret1 () rfl (.tmp rfl) trivial
      ·have hp27 := of_decide_eq_false hb26
       rw [if_neg hp27] at hm
       iterate 3 refine WL.pass rfl rfl rfl rfl hb26 rfl rfl ?_
       refine WL.op rfl (.pickF (.tmp rfl) hb26 .bool) ?_
       refine WL.gv rfl rfl ?_
       refine WL.ns ?_
       cases hm
       exact W.ret1 () rfl (.tmp rfl) trivial
   ·have hm := hs13
    clear hs13
    refine W.region ?_
    refine WL.mv rfl rfl ?_
    obtain ⟨valid, hv15, hm⟩ := bind_some hm
    refine WL.op rfl (.call Tryd.call17 (address_Valid_spec _ _ _ hv15) ⟨(.tmp rfl), trivial⟩) ?_
    refine WL.mv rfl rfl ?_
    obtain ⟨may, hv16, hm⟩ := bind_some hm
    refine WL.op rfl (.call Tryd.call22 (r07_May_spec _ _ _ hv16) ⟨(.tmp rfl), trivial⟩) ?_
    refine WL.op rfl (.neB Tryd.underlying4 (.tmp rfl) (.tmp rfl)) ?_
    refine WL.mv rfl rfl ?_
    rcases bcases (valid != may) with hb17 | hb17
    ·have hp18 := hb17
     rw [if_pos hp18] at hm
     iterate 4 refine WL.pass rfl rfl rfl rfl hb17 rfl rfl ?_
     refine WL.op rfl (.pickT (.tmp rfl) hb17 .bool) ?_
     refine WL.nil ?_
     exact WN.meet true (Option.some.inj hm) ⟨Ent.q rfl, Ent.q rfl, Ent.q rfl, trivial⟩ ⟨rfl, rfl, trivial⟩
    ·have hp18 := ne_of_false hb17
     rw [if_neg hp18] at hm
     refine WL.run rfl rfl rfl rfl hb17 rfl rfl (Op1.move (.tmp rfl)) ?_
     refine WL.run rfl rfl rfl rfl hb17 rfl rfl (Op1.move (.tmp rfl)) ?_
     obtain ⟨text, hv19, hm⟩ := bind_some hm
     refine WL.run rfl rfl rfl rfl hb17 rfl rfl (Op1.call Tryd.call23 (r07_Text_spec _ _ _ hv19) ⟨(.tmp rfl), trivial⟩) ?_
     refine WL.run rfl rfl rfl rfl hb17 rfl rfl (Op1.neS (.tmp rfl) (.tmp rfl)) ?_
     refine WL.op rfl (.pickF (.tmp rfl) hb17 (.tmp rfl)) ?_
     refine WL.nil ?_
     exact WN.meet (format != text) (Option.some.inj hm) ⟨Ent.q rfl, Ent.q rfl, Ent.q rfl, trivial⟩ ⟨rfl, rfl, trivial⟩
 ·have hm := hs2
  clear hs2
  refine W.region ?_
  obtain ⟨awake, hv4, hm⟩ := bind_some hm
  refine WL.op rfl (.call Tryd.call7 (law07_awake_spec _ _ hv4) trivial) ?_
  refine WL.op rfl (.notB (.tmp rfl)) ?_
  refine WL.mv rfl rfl ?_
  rcases bcases (!awake) with hb5 | hb5
  ·have hp6 := not_pos hb5
   rw [if_pos hp6] at hm
   iterate 3 refine WL.pass rfl rfl rfl rfl hb5 rfl rfl ?_
   refine WL.op rfl (.pickT (.tmp rfl) hb5 .bool) ?_
   refine WL.nil ?_
   exact WN.meet true (Option.some.inj hm) ⟨Ent.q rfl, Ent.q rfl, trivial⟩ ⟨rfl, rfl, trivial⟩
  ·have hp6 := not_neg hb5
   rw [if_neg hp6] at hm
   refine WL.run rfl rfl rfl rfl hb5 rfl rfl (Op1.move (.tmp rfl)) ?_
   obtain ⟨short, hv7, hm⟩ := bind_some hm
   refine WL.run rfl rfl rfl rfl hb5 rfl rfl (Op1.call Tryd.call16 (law07_short_spec _ _ _ hv7) ⟨(.tmp rfl), trivial⟩) ?_
   refine WL.run rfl rfl rfl rfl hb5 rfl rfl (Op1.notB (.tmp rfl)) ?_
   refine WL.op rfl (.pickF (.tmp rfl) hb5 (.tmp rfl)) ?_
   refine WL.nil ?_
   exact WN.meet (!short) (Option.some.inj hm) ⟨Ent.q rfl, Ent.q rfl, trivial⟩ ⟨rfl, rfl, trivial⟩

theorem r07_Cut_spec (n : Nat) (s0_ : Str) (r : (List Str)) (hm : M.r07_Cut n s0_ = some r) : FSpec Tryd.prog 48 [(tS.is s0_)] ((tL tS).is r) := by
 unfold M.r07_Cut at hm
 refine FSpec.of Tryd.func48 rfl rfl rfl (fun g0 => ?_)
 refine W.sr ?_
 refine WL.op rfl (.assign (.nil (t := tS))) ?_
 refine WL.nr ?_
 refine WL.opR rfl (OpR.buildSlice (n := 0) (ys := []) (z := ([] : Str)) (xs := ([] : List Str)) 6 Tryd.underlying65 el9 ze9 trivial (by simp) (by decide) rfl) (fun k => ?_)
 refine WL.gv rfl rfl ?_
 refine WL.nr ?_
 refine WL.op rfl (.assign .i64) ?_
 refine WL.ns ?_
 refine W.seq ?_
 refine W.sr ?_
 refine WL.op rfl (.assign .i64) ?_
 refine WL.ns ?_
 refine W.block ?_
 obtain ⟨s1, hs2, hk3⟩ := bind_some hm
 clear hm
 refine W.loop (fun m (s : ((List Str) × Int × Int) × Tok) => M.r07_Cut_loop1 s0_ m s.1.1 s.1.2.1 s.1.2.2 = some s1) (fun s => [(3, (tO tS s.2 s.1.1)), (4, ((tI .i64).is s.1.2.1)), (5, ((tI .i64).is s.1.2.2)), (0, (tS.is s0_))]) (fun s => [(6, Dec.Own tS 9 s.2 s.1.1.length)]) _ ((([] : List Str), (0 : Int), (0 : Int)), k) hs2 ⟨Ent.q rfl, Ent.q rfl, Ent.q rfl, Ent.q rfl, trivial⟩ ⟨rfl, rfl, trivial⟩ ?_
 rintro n4 ⟨⟨out, from0_, i⟩, k1⟩ hm
 try dsimp only at hm
 change W _ _ _ _ _ _ _ [(3, (tO tS k1 out)), (4, ((tI .i64).is from0_)), (5, ((tI .i64).is i)), (0, (tS.is s0_))] [(6, Dec.Own tS 9 k1 out.length)]
 cases n4 with
 | zero => rw [M.r07_Cut_loop1.eq_1] at hm; cases hm
 | succ n4 =>
  rw [M.r07_Cut_loop1.eq_2] at hm
  refine W.seq ?_
  refine W.sr ?_
  refine WL.mv rfl rfl ?_
  refine WL.mv rfl rfl ?_
  refine WL.op rfl (.lenS Tryd.underlying9 (.tmp rfl)) ?_
  refine WL.op rfl (.leI (.tmp rfl) (.tmp rfl)) ?_
  refine WL.ns ?_
  refine W.cond (.tmp rfl) (fun hc5 => ?_) (fun hc5 => ?_)
  ·have hp6 := of_decide_eq_true hc5
   rw [if_pos hp6] at hm
   refine W.skip ?_
   refine WN.seq ?_
   refine W.seq ?_
   refine W.block ?_
   obtain ⟨s7, hs8, hk9⟩ := bind_some hm
   clear hm
   refine W.join (fun s : Bool => s = s7) (fun s => [(22, (tB.is s)), (0, (tS.is s0_)), (3, (tO tS k1 out)), (4, ((tI .i64).is from0_)), (5, ((tI .i64).is i))]) (fun s => [(6, Dec.Own tS 9 k1 out.length)]) ?_ ?_
   ·rintro v hj20
    try dsimp only at hj20
    subst hj20
    have hm := hk9
    clear hk9
    try dsimp only at hm
    change W _ _ _ _ _ _ _ [(22, (tB.is v)), (0, (tS.is s0_)), (3, (tO tS k1 out)), (4, ((tI .i64).is from0_)), (5, ((tI .i64).is i))] [(6, Dec.Own tS 9 k1 out.length)]
    refine W.cond (.tmp rfl) (fun hc13 => ?_) (fun hc13 => ?_)
    ·have hp14 := hc13
     rw [if_pos hp14] at hm
     refine W.sr ?_
     refine WL.mv rfl rfl ?_
     refine WL.mv rfl rfl ?_
     refine WL.mv rfl rfl ?_
     refine WL.mv rfl rfl ?_
     obtain ⟨v1, hv15, hm⟩ := bind_some hm
     refine WL.op rfl (.sslc hv15 Tryd.underlying9 (.tmp rfl) (.tmp rfl) (.tmp rfl)) ?_
     refine WL.op rfl (.buildSlice (n := 1) (ys := [(0, v1)]) (z := ([] : Str)) (xs := [v1]) Tryd.underlying65 el9 ze9 ⟨rfl, (.tmp rfl), trivial⟩ (by simp) (by decide) rfl) ?_
     obtain ⟨out1, hv16, hm⟩ := bind_some hm
     refine WL.opR rfl (OpR.appC (key := 6) hv16 Tryd.underlying65 el9 (.tmp rfl) (.tmp rfl) rfl) (fun k2 => ?_)
     refine WL.gv rfl rfl ?_
     refine WL.nr1 ?_
     refine WL.mv rfl rfl ?_
     obtain ⟨v2, hv17, hm⟩ := bind_some hm
     refine WL.op rfl (.addC hv17 (.tmp rfl) .i64) ?_
     refine WL.gv rfl rfl ?_
     refine WL.nil ?_
     refine WN.block ?_
     refine WN.seq ?_
     refine W.region ?_
     refine WL.mv rfl rfl ?_
     obtain ⟨v3, hv18, hm⟩ := bind_some hm
     refine WL.op rfl (.addC hv18 (.tmp rfl) .i64) ?_
     refine WL.gv rfl rfl ?_
     refine WL.nil ?_
     exact WN.again n4 ((out1, v2, v3), k2) (Nat.lt_succ_self n4) hm ⟨Ent.q rfl, Ent.q rfl, Ent.q rfl, Ent.q rfl, trivial⟩ ⟨rfl, rfl, trivial⟩
    ·have hp14 := ne_of_false hc13
     rw [if_neg hp14] at hm
     refine W.skip ?_
     refine WN.block ?_
     refine WN.seq ?_
     refine W.region ?_
     refine WL.mv rfl rfl ?_
     obtain ⟨v4, hv19, hm⟩ := bind_some hm
     refine WL.op rfl (.addC hv19 (.tmp rfl) .i64) ?_
     refine WL.gv rfl rfl ?_
     refine WL.nil ?_
     exact WN.again n4 ((out, from0_, v4), k1) (Nat.lt_succ_self n4) hm ⟨Ent.q rfl, Ent.q rfl, Ent.q rfl, Ent.q rfl, trivial⟩ ⟨rfl, rfl, trivial⟩
   ·have hm := hs8
    clear hs8
    refine W.region ?_
    refine WL.mv rfl rfl ?_
    refine WL.mv rfl rfl ?_
    refine WL.op rfl (.lenS Tryd.underlying9 (.tmp rfl)) ?_
    refine WL.op rfl (.eqI (.tmp rfl) (.tmp rfl)) ?_
    refine WL.mv rfl rfl ?_
    rcases bcases (decide (i = (s0_.length : Int))) with hb10 | hb10
    ·have hp11 := of_decide_eq_true hb10
     rw [if_pos hp11] at hm
     iterate 4 refine WL.pass rfl rfl rfl rfl hb10 rfl rfl ?_
     refine WL.op rfl (.pickT (.tmp rfl) hb10 .bool) ?_
     refine WL.nil ?_
     exact WN.meet true (Option.some.inj hm) ⟨Ent.q rfl, Ent.q rfl, Ent.q rfl, Ent.q rfl, Ent.q rfl, trivial⟩ ⟨rfl, rfl, trivial⟩
    ·have hp11 := of_decide_eq_false hb10
     rw [if_neg hp11] at hm
     refine WL.run rfl rfl rfl rfl hb10 rfl rfl (Op1.move (.tmp rfl)) ?_
     refine WL.run rfl rfl rfl rfl hb10 rfl rfl (Op1.move (.tmp rfl)) ?_
     obtain ⟨b, hv12, hm⟩ := bind_some hm
     refine WL.run rfl rfl rfl rfl hb10 rfl rfl (Op1.sidx hv12 Tryd.underlying9 (.tmp rfl) (.tmp rfl)) ?_
     refine WL.run rfl rfl rfl rfl hb10 rfl rfl (Op1.eqI (.tmp rfl) (.int (inR8.2 (by omega)))) ?_
     refine WL.op rfl (.pickF (.tmp rfl) hb10 (.tmp rfl)) ?_
     refine WL.nil ?_
     exact WN.meet (decide ((b.toNat : Int) = (32 : Int))) (Option.some.inj hm) ⟨Ent.q rfl, Ent.q rfl, Ent.q rfl, Ent.q rfl, Ent.q rfl, trivial⟩ ⟨rfl, rfl, trivial⟩
  ·have hp6 := of_decide_eq_false hc5
   rw [if_neg hp6] at hm
   refine W.exit rfl ?_
   have hr21 := Option.some.inj hm
   clear hm
   subst hr21
   have hm := hk3
   try dsimp only at hm
   refine WN.seq ?_
   refine W.sr ?_
   refine WL.mv rfl rfl ?_
   refine WL.gv rfl rfl ?_
   refine WL.ns ?_
   cases hm
   exact W.ret1 () rfl (Opd.own (.tmp rfl)) trivial

theorem r07_Kind_spec (n : Nat) (s0_ : Str) (r : Int) (hm : M.r07_Kind n s0_ = some r) : FSpec Tryd.prog 49 [(tS.is s0_)] ((tI .i64).is r) := by
 unfold M.r07_Kind at hm
 refine FSpec.of Tryd.func49 rfl rfl rfl (fun g0 => ?_)
 refine W.sr ?_
 refine WL.op rfl (.assign .i64) ?_
 refine WL.ns ?_
 refine W.seq ?_
 refine W.sr ?_
 refine WL.op rfl (.assign .i64) ?_
 refine WL.ns ?_
 refine W.block ?_
 obtain ⟨s1, hs2, hk3⟩ := bind_some hm
 clear hm
 refine W.loop (fun m (s : Int) => M.r07_Kind_loop1 s0_ m s = some s1) (fun s => [(3, ((tI .i64).is s)), (0, (tS.is s0_))]) (fun s => []) _ (0 : Int) hs2 ⟨Ent.q rfl, Ent.q rfl, trivial⟩ trivial ?_
 rintro n4 i hm
 try dsimp only at hm
 change W _ _ _ _ _ _ _ [(3, ((tI .i64).is i)), (0, (tS.is s0_))] []
 cases n4 with
 | zero => rw [M.r07_Kind_loop1.eq_1] at hm; cases hm
 | succ n4 =>
  rw [M.r07_Kind_loop1.eq_2] at hm
  refine W.seq ?_
  refine W.sr ?_
  refine WL.mv rfl rfl ?_
  refine WL.op rfl (.ltI (.tmp rfl) .i64) ?_
  refine WL.ns ?_
  refine W.cond (.tmp rfl) (fun hc5 => ?_) (fun hc5 => ?_)
  ·have hp6 := of_decide_eq_true hc5
   rw [if_pos hp6] at hm
   refine W.skip ?_
   refine WN.seq ?_
   refine W.seq ?_
   refine W.block ?_
   refine W.sr ?_
   obtain ⟨names, hv7, hm⟩ := bind_some hm
   refine WL.op rfl (.call Tryd.call45 (r07_Names_spec _ hv7) trivial) ?_
   refine WL.mv rfl rfl ?_
   obtain ⟨v, hv8, hm⟩ := bind_some hm
   refine WL.op rfl (.idx hv8 Tryd.underlying65 Tryd.sizeOf9 (.tmp rfl) (.tmp rfl)) ?_
   refine WL.op rfl (.load ty9 (.tmp rfl)) ?_
   refine WL.mv rfl rfl ?_
   refine WL.op rfl (.eqS (.tmp rfl) (.tmp rfl)) ?_
   refine WL.ns ?_
   refine W.cond (.tmp rfl) (fun hc9 => ?_) (fun hc9 => ?_)
   ·have hp10 := hc9
    rw [if_pos hp10] at hm
    refine W.sr ?_
    refine WL.mv rfl rfl ?_
    refine WL.gv rfl rfl ?_
    refine WL.ns ?_
    have hr11 := Option.some.inj hm
    clear hm
    subst hr11
    have hm := hk3
    try dsimp only at hm
    cases hm
    exact W.ret1 () rfl (.tmp rfl) trivial
   ·have hp10 := ne_of_false hc9
    rw [if_neg hp10] at hm
    refine W.skip ?_
    refine WN.block ?_
    refine WN.seq ?_
    refine W.region ?_
    refine WL.mv rfl rfl ?_
    obtain ⟨v1, hv12, hm⟩ := bind_some hm
    refine WL.op rfl (.addC hv12 (.tmp rfl) .i64) ?_
    refine WL.gv rfl rfl ?_
    refine WL.nil ?_
    exact WN.again n4 v1 (Nat.lt_succ_self n4) hm ⟨Ent.q rfl, Ent.q rfl, trivial⟩ trivial
  ·have hp6 := of_decide_eq_false hc5
   rw [if_neg hp6] at hm
   refine W.exit rfl ?_
   have hr13 := Option.some.inj hm
   clear hm
   subst hr13
   have hm := hk3
   try dsimp only at hm
   refine WN.seq ?_
   refine W.sr ?_
   refine WL.op rfl (.assign .i64) ?_
   refine WL.ns ?_
   cases hm
   exact W.ret1 () rfl (.tmp rfl) trivial

theorem r07_Parse_spec (n : Nat) (s0_ : Str) (r : (List api_Step) × Bool) (hm : M.r07_Parse n s0_ = some r) : FSpec Tryd.prog 25 [(tS.is s0_)] (Asn.tuple2 ((tL tapi_Step).is r.1) (tB.is r.2)) := by
 unfold M.r07_Parse at hm
 refine FSpec.of Tryd.func25 rfl rfl rfl (fun g0 => ?_)
 refine W.sr ?_
 refine WL.op rfl (.assign (.nil (t := tapi_Step))) ?_
 refine WL.op rfl (.assign .bool) ?_
 refine WL.nr ?_
 refine WL.opR rfl (OpR.buildSlice (n := 0) (ys := []) (z := zapi_Step) (xs := ([] : List api_Step)) 8 Tryd.underlying33 el41 ze41 trivial (by simp) (by decide) rfl) (fun k => ?_)
 refine WL.gv rfl rfl ?_
 refine WL.ns ?_
 refine W.seq ?_
 refine W.sr ?_
 refine WL.mv rfl rfl ?_
 refine WL.op rfl (.eqS (.tmp rfl) (.str rfl (by decide))) ?_
 refine WL.ns ?_
 refine W.cond (.tmp rfl) (fun hc1 => ?_) (fun hc1 => ?_)
 ·have hp2 := hc1
  rw [if_pos hp2] at hm
  refine W.sr ?_
  refine WL.mv rfl rfl ?_
  refine WL.gv rfl rfl ?_
  refine WL.op rfl (.assign .bool) ?_
  refine WL.ns ?_
  cases hm
  exact W.ret2 () rfl rfl (Opd.own (.tmp rfl)) (.tmp rfl) trivial
 ·have hp2 := ne_of_false hc1
  rw [if_neg hp2] at hm
  refine W.skip ?_
  refine WN.seq ?_
  refine W.sr ?_
  refine WL.mv rfl rfl ?_
  obtain ⟨cut, hv3, hm⟩ := bind_some hm
  refine WL.op rfl (.call Tryd.call48 (r07_Cut_spec _ _ _ hv3) ⟨(.tmp rfl), trivial⟩) ?_
  refine WL.gv rfl rfl ?_
  refine WL.nr ?_
  refine WL.op rfl (.assign .i64) ?_
  refine WL.ns ?_
  refine W.seq ?_
  refine W.block ?_
  obtain ⟨s4, hs5, hk6⟩ := bind_some hm
  clear hm
  refine W.loop (fun m (s : ((List api_Step) × Int) × Tok) => M.r07_Parse_loop1 cut m s.1.1 s.1.2 = some s4) (fun s => [(4, (tO tapi_Step s.2 s.1.1)), (6, ((tI .i64).is s.1.2)), (5, ((tL tS).is cut))]) (fun s => [(8, Dec.Own tapi_Step 41 s.2 s.1.1.length)]) _ ((([] : List api_Step), (0 : Int)), k) hs5 ⟨Ent.q rfl, Ent.q rfl, Ent.q rfl, trivial⟩ ⟨rfl, rfl, trivial⟩ ?_
  rintro n7 ⟨⟨p, i⟩, k1⟩ hm
  try dsimp only at hm
  change W _ _ _ _ _ _ _ [(4, (tO tapi_Step k1 p)), (6, ((tI .i64).is i)), (5, ((tL tS).is cut))] [(8, Dec.Own tapi_Step 41 k1 p.length)]
  cases n7 with
  | zero => rw [M.r07_Parse_loop1.eq_1] at hm; cases hm
  | succ n7 =>
   rw [M.r07_Parse_loop1.eq_2] at hm
   refine W.seq ?_
   refine W.sr ?_
   refine WL.mv rfl rfl ?_
   refine WL.mv rfl rfl ?_
   refine WL.op rfl (.lenL Tryd.underlying65 (.tmp rfl)) ?_
   refine WL.op rfl (.ltI (.tmp rfl) (.tmp rfl)) ?_
   refine WL.ns ?_
   refine W.cond (.tmp rfl) (fun hc8 => ?_) (fun hc8 => ?_)
   ·have hp9 := of_decide_eq_true hc8
    rw [if_pos hp9] at hm
    refine W.skip ?_
    refine WN.seq ?_
    refine W.block ?_
    refine W.sr ?_
    refine WL.mv rfl rfl ?_
    refine WL.mv rfl rfl ?_
    obtain ⟨v, hv10, hm⟩ := bind_some hm
    refine WL.op rfl (.idx hv10 Tryd.underlying65 Tryd.sizeOf9 (.tmp rfl) (.tmp rfl)) ?_
    refine WL.op rfl (.load ty9 (.tmp rfl)) ?_
    obtain ⟨kind, hv11, hm⟩ := bind_some hm
    refine WL.op rfl (.call Tryd.call49 (r07_Kind_spec _ _ _ hv11) ⟨(.tmp rfl), trivial⟩) ?_
    refine WL.gv rfl rfl ?_
    refine WL.ns ?_
    refine W.seq ?_
    obtain ⟨s12, hs13, hk14⟩ := bind_some hm
    clear hm
    refine W.join (fun s : Bool => s = s12) (fun s => [(28, (tB.is s)), (4, (tO tapi_Step k1 p)), (5, ((tL tS).is cut)), (6, ((tI .i64).is i)), (7, ((tI .i64).is kind))]) (fun s => [(8, Dec.Own tapi_Step 41 k1 p.length)]) ?_ ?_
    ·rintro v1 hj35
     try dsimp only at hj35
     subst hj35
     have hm := hk14
     clear hk14
     try dsimp only at hm
     change W _ _ _ _ _ _ _ [(28, (tB.is v1)), (4, (tO tapi_Step k1 p)), (5, ((tL tS).is cut)), (6, ((tI .i64).is i)), (7, ((tI .i64).is kind))] [(8, Dec.Own tapi_Step 41 k1 p.length)]
     refine W.cond (.tmp rfl) (fun hc17 => ?_) (fun hc17 => ?_)
     ·have hp18 := hc17
      rw [if_pos hp18] at hm
      refine W.sr ?_
      refine WL.mv rfl rfl ?_
      refine WL.op rfl (.build (s := tapi_Step) (x := (⟨(0 : Int), ([] : Str)⟩ : api_Step)) zapi_Step_f rfl Tryd.underlying41 (zapi_Step_sz _ Tryd.underlying41) ze41 rfl) ?_
      refine WL.op rfl (.buildSlice (n := 1) (ys := [(0, (⟨(0 : Int), ([] : Str)⟩ : api_Step))]) (z := zapi_Step) (xs := [(⟨(0 : Int), ([] : Str)⟩ : api_Step)]) Tryd.underlying33 el41 ze41 ⟨rfl, (.tmp rfl), trivial⟩ (by simp) (by decide) rfl) ?_
      obtain ⟨out, hv19, hm⟩ := bind_some hm
      refine WL.opR rfl (OpR.appC (key := 8) hv19 Tryd.underlying33 el41 (.tmp rfl) (.tmp rfl) rfl) (fun k2 => ?_)
      refine WL.gv rfl rfl ?_
      refine WL.nr ?_
      refine WL.mv rfl rfl ?_
      refine WL.lenL (s := 5) (.tmp rfl) fun hl20 => ?_
      refine WL.op rfl (.addI1 (.tmp rfl) .i64 hp9 hl20) ?_
      refine WL.gv rfl rfl ?_
      refine WL.ns ?_
      refine W.exit rfl ?_
      exact WN.again n7 ((out, i + 1), k2) (Nat.lt_succ_self n7) hm ⟨Ent.q rfl, Ent.q rfl, Ent.q rfl, trivial⟩ ⟨rfl, rfl, trivial⟩
     ·have hp18 := ne_of_false hc17
      rw [if_neg hp18] at hm
      refine W.skip ?_
      refine WN.seq ?_
      refine W.seq ?_
      obtain ⟨s21, hs22, hk23⟩ := bind_some hm
      clear hm
      refine W.join (fun s : Bool => s = s21) (fun s => [(43, (tB.is s)), (4, (tO tapi_Step k1 p)), (5, ((tL tS).is cut)), (6, ((tI .i64).is i)), (7, ((tI .i64).is kind))]) (fun s => [(8, Dec.Own tapi_Step 41 k1 p.length)]) ?_ ?_
      ·rintro v2 hj34
       try dsimp only at hj34
       subst hj34
       have hm := hk23
       clear hk23
       try dsimp only at hm
       change W _ _ _ _ _ _ _ [(43, (tB.is v2)), (4, (tO tapi_Step k1 p)), (5, ((tL tS).is cut)), (6, ((tI .i64).is i)), (7, ((tI .i64).is kind))] [(8, Dec.Own tapi_Step 41 k1 p.length)]
       refine W.cond (.tmp rfl) (fun hc27 => ?_) (fun hc27 => ?_)
       ·have hp28 := hc27
        rw [if_pos hp28] at hm
        refine W.sr ?_
        refine WL.op rfl (.assign (.nil (t := tapi_Step))) ?_
        refine WL.op rfl (.assign .bool) ?_
        refine WL.ns ?_
        have hr29 := Option.some.inj hm
        clear hm
        subst hr29
        have hm := hk6
        try dsimp only at hm
        cases hm
        exact W.ret2 () rfl rfl (.tmp rfl) (.tmp rfl) trivial
       ·have hp28 := ne_of_false hc27
        rw [if_neg hp28] at hm
        refine W.skip ?_
        refine WN.seq ?_
        refine W.sr ?_
        refine WL.mv rfl rfl ?_
        refine WL.mv rfl rfl ?_
        refine WL.mv rfl rfl ?_
        refine WL.mv rfl rfl ?_
        refine WL.lenL (s := 5) (.tmp rfl) fun hl30 => ?_
        refine WL.op rfl (.addI1 (.tmp rfl) .i64 hp9 hl30) ?_
        obtain ⟨v3, hv31, hm⟩ := bind_some hm
        refine WL.op rfl (.idx hv31 Tryd.underlying65 Tryd.sizeOf9 (.tmp rfl) (.tmp rfl)) ?_
        refine WL.op rfl (.load ty9 (.tmp rfl)) ?_
        refine WL.op rfl (.build (s := tapi_Step) (x := (⟨kind, v3⟩ : api_Step)) zapi_Step_f rfl Tryd.underlying41 (zapi_Step_sz _ Tryd.underlying41) ze41 ⟨_, (tI .i64), kind, _, _, rfl, Tryd.sizeOf3, (.tmp rfl), sapi_Step_0, ⟨_, tS, v3, _, _, rfl, Tryd.sizeOf9, (.tmp rfl), sapi_Step_1, rfl⟩⟩) ?_
        refine WL.op rfl (.buildSlice (n := 1) (ys := [(0, (⟨kind, v3⟩ : api_Step))]) (z := zapi_Step) (xs := [(⟨kind, v3⟩ : api_Step)]) Tryd.underlying33 el41 ze41 ⟨rfl, (.tmp rfl), trivial⟩ (by simp) (by decide) rfl) ?_
        obtain ⟨out1, hv32, hm⟩ := bind_some hm
        refine WL.opR rfl (OpR.appC (key := 8) hv32 Tryd.underlying33 el41 (.tmp rfl) (.tmp rfl) rfl) (fun k3 => ?_)
        refine WL.gv rfl rfl ?_
        refine WL.nr1 ?_
        refine WL.mv rfl rfl ?_
        obtain ⟨v4, hv33, hm⟩ := bind_some hm
        refine WL.op rfl (.addC hv33 (.tmp rfl) .i64) ?_
        refine WL.gv rfl rfl ?_
        refine WL.nil ?_
        refine WN.block ?_
        exact WN.again n7 ((out1, v4), k3) (Nat.lt_succ_self n7) hm ⟨Ent.q rfl, Ent.q rfl, Ent.q rfl, trivial⟩ ⟨rfl, rfl, trivial⟩
      ·have hm := hs22
       clear hs22
       refine W.region ?_
       refine WL.mv rfl rfl ?_
       refine WL.op rfl (.ltI (.tmp rfl) .i64) ?_
       refine WL.mv rfl rfl ?_
       rcases bcases (decide (kind < (1 : Int))) with hb24 | hb24
       ·have hp25 := of_decide_eq_true hb24
        rw [if_pos hp25] at hm
        iterate 5 refine WL.pass rfl rfl rfl rfl hb24 rfl rfl ?_
        refine WL.op rfl (.pickT (.tmp rfl) hb24 .bool) ?_
        refine WL.nil ?_
        exact WN.meet true (Option.some.inj hm) ⟨Ent.q rfl, Ent.q rfl, Ent.q rfl, Ent.q rfl, Ent.q rfl, trivial⟩ ⟨rfl, rfl, trivial⟩
       ·have hp25 := of_decide_eq_false hb24
        rw [if_neg hp25] at hm
        refine WL.run rfl rfl rfl rfl hb24 rfl rfl (Op1.move (.tmp rfl)) ?_
        refine WL.lenL (s := 5) (.tmp rfl) fun hl26 => ?_
        refine WL.run rfl rfl rfl rfl hb24 rfl rfl (Op1.addI1 (.tmp rfl) .i64 hp9 hl26) ?_
        refine WL.run rfl rfl rfl rfl hb24 rfl rfl (Op1.move (.tmp rfl)) ?_
        refine WL.run rfl rfl rfl rfl hb24 rfl rfl (Op1.lenL Tryd.underlying65 (.tmp rfl)) ?_
        refine WL.run rfl rfl rfl rfl hb24 rfl rfl (Op1.geI (.tmp rfl) (.tmp rfl)) ?_
        refine WL.op rfl (.pickF (.tmp rfl) hb24 (.tmp rfl)) ?_
        refine WL.nil ?_
        exact WN.meet (decide ((cut.length : Int) ≤ i + 1)) (Option.some.inj hm) ⟨Ent.q rfl, Ent.q rfl, Ent.q rfl, Ent.q rfl, Ent.q rfl, trivial⟩ ⟨rfl, rfl, trivial⟩
    ·have hm := hs13
     clear hs13
     refine W.region ?_
     refine WL.mv rfl rfl ?_
     refine WL.op rfl (.eqI (.tmp rfl) .i64) ?_
     refine WL.mv rfl rfl ?_
     rcases bcases (decide (kind = (0 : Int))) with hb15 | hb15
     ·have hp16 := of_decide_eq_true hb15
      rw [if_pos hp16] at hm
      refine WL.run rfl rfl rfl rfl hb15 rfl rfl (Op1.move (.tmp rfl)) ?_
      refine WL.run rfl rfl rfl rfl hb15 rfl rfl (Op1.eqI (.tmp rfl) .i64) ?_
      refine WL.op rfl (.pickT (.tmp rfl) hb15 (.tmp rfl)) ?_
      refine WL.nil ?_
      exact WN.meet (decide (i = (0 : Int))) (Option.some.inj hm) ⟨Ent.q rfl, Ent.q rfl, Ent.q rfl, Ent.q rfl, Ent.q rfl, trivial⟩ ⟨rfl, rfl, trivial⟩
     ·have hp16 := of_decide_eq_false hb15
      rw [if_neg hp16] at hm
      iterate 2 refine WL.pass rfl rfl rfl rfl hb15 rfl rfl ?_
      refine WL.op rfl (.pickF (.tmp rfl) hb15 .bool) ?_
      refine WL.nil ?_
      exact WN.meet false (Option.some.inj hm) ⟨Ent.q rfl, Ent.q rfl, Ent.q rfl, Ent.q rfl, Ent.q rfl, trivial⟩ ⟨rfl, rfl, trivial⟩
   ·have hp9 := of_decide_eq_false hc8
    rw [if_neg hp9] at hm
    refine W.exit rfl ?_
    have hr36 := Option.some.inj hm
    clear hm
    subst hr36
    have hm := hk6
    try dsimp only at hm
    refine WN.seq ?_
    refine W.seq ?_
    refine W.sr ?_
    refine WL.mv rfl rfl ?_
    obtain ⟨may, hv37, hm⟩ := bind_some hm
    refine WL.op rfl (.call Tryd.call22 (r07_May_spec _ _ _ hv37) ⟨(Opd.own (.tmp rfl)), trivial⟩) ?_
    refine WL.op rfl (.notB (.tmp rfl)) ?_
    refine WL.ns ?_
    refine W.cond (.tmp rfl) (fun hc38 => ?_) (fun hc38 => ?_)
    ·have hp39 := not_pos hc38
     rw [if_pos hp39] at hm
     refine W.sr ?_
     refine WL.op rfl (.assign (.nil (t := tapi_Step))) ?_
     refine WL.op rfl (.assign .bool) ?_
     refine WL.ns ?_
     cases hm
     exact W.ret2 () rfl rfl (.tmp rfl) (.tmp rfl) trivial
    ·have hp39 := not_neg hc38
     rw [if_neg hp39] at hm
     refine W.skip ?_
     refine WN.seq ?_
     refine W.sr ?_
     refine WL.mv rfl rfl ?_
     refine WL.gv rfl rfl ?_
     refine WL.op rfl (.assign .bool) ?_
     refine WL.ns ?_
     cases hm
     exact W.ret2 () rfl rfl (Opd.own (.tmp rfl)) (.tmp rfl) trivial

theorem law07_AddressParse_spec (n : Nat) (s0_ : Str) (r : Bool) (hm : M.law07_AddressParse n s0_ = some r) : FSpecR Tryd.prog 6 [(tS.is s0_)] [(700002, GlE 2)] (fun _ : Unit => (tB.is r)) (fun _ => []) := by
 unfold M.law07_AddressParse at hm
 refine FSpecR.of Tryd.func6 rfl rfl rfl (fun g0 => ?_)
 refine W.sr ?_
 refine WL.op rfl (.assign .bool) ?_
 refine WL.ns ?_
 refine W.seq ?_
 obtain ⟨s1, hs2, hk3⟩ := bind_some hm
 clear hm
 refine W.join (fun s : Bool => s = s1) (fun s => [(13, (tB.is s)), (0, (tS.is s0_))]) (fun s => [(700002, GlE 2)]) ?_ ?_
 ·rintro v hj26
  try dsimp only at hj26
  subst hj26
  have hm := hk3
  clear hk3
  try dsimp only at hm
  change W _ _ _ _ _ _ _ [(13, (tB.is v)), (0, (tS.is s0_))] [(700002, GlE 2)]
  refine W.cond (.tmp rfl) (fun hc7 => ?_) (fun hc7 => ?_)
  ·have hp8 := hc7
   rw [if_pos hp8] at hm
   refine W.sr ?_
   obtain ⟨awake1, hv9, hm⟩ := bind_some hm
   refine WL.op rfl (.call Tryd.call7 (law07_awake_spec _ _ hv9) trivial) ?_
   refine WL.gv rfl rfl ?_
   refine WL.ns ?_
   cases hm
   exact W.ret1 () rfl (.tmp rfl) trivial
  ·have hp8 := ne_of_false hc7
   rw [if_neg hp8] at hm
   refine W.skip ?_
   refine WN.seq ?_
   refine W.sr ?_
   refine WL.mv rfl rfl ?_
   obtain ⟨parse, hv10, hm⟩ := bind_some hm
   refine WL.op rfl (.callG (rin := [(700002, GlE 2)]) Tryd.call24 (address_Parse_spec _ _ _ hv10) ⟨rfl, trivial⟩ ⟨rfl, rfl, trivial⟩ ⟨(.tmp rfl), trivial⟩) ?_
   refine WL.mv rfl rfl ?_
   refine WL.op rfl (.extract0 (.tmp rfl)) ?_
   refine WL.op rfl (.extract1 (.tmp rfl)) ?_
   refine WL.gv rfl rfl ?_
   refine WL.gv rfl rfl ?_
   refine WL.nr ?_
   refine WL.mv rfl rfl ?_
   obtain ⟨parse1, hv11, hm⟩ := bind_some hm
   refine WL.op rfl (.call Tryd.call25 (r07_Parse_spec _ _ _ hv11) ⟨(.tmp rfl), trivial⟩) ?_
   refine WL.mv rfl rfl ?_
   refine WL.op rfl (.extract0 (.tmp rfl)) ?_
   refine WL.op rfl (.extract1 (.tmp rfl)) ?_
   refine WL.gv rfl rfl ?_
   refine WL.gv rfl rfl ?_
   refine WL.ns ?_
   refine W.seq ?_
   refine W.sr ?_
   refine WL.mv rfl rfl ?_
   refine WL.op rfl (.notB (.tmp rfl)) ?_
   refine WL.ns ?_
   refine W.cond (.tmp rfl) (fun hc12 => ?_) (fun hc12 => ?_)
   ·have hp13 := not_pos hc12
    rw [if_pos hp13] at hm
    obtain ⟨s14, hs15, hk16⟩ := bind_some hm
    clear hm
    refine W.join (fun s : Bool => s = s14) (fun s => [(2, (tB.is s))]) (fun s => [(700002, GlE 2)]) ?_ ?_
    ·rintro v1 hj19
     try dsimp only at hj19
     subst hj19
     have hm := hk16
     clear hk16
     try dsimp only at hm
     change W _ _ _ _ _ _ _ [(2, (tB.is v1))] [(700002, GlE 2)]
     cases hm
     exact W.ret1 () rfl (.tmp rfl) trivial
    ·have hm := hs15
     clear hs15
     refine W.region ?_
     refine WL.mv rfl rfl ?_
     refine WL.op rfl (.eqI (.tmp rfl) .i64) ?_
     refine WL.mv rfl rfl ?_
     rcases bcases (decide (parse.2 = (2 : Int))) with hb17 | hb17
     ·have hp18 := of_decide_eq_true hb17
      rw [if_pos hp18] at hm
      refine WL.run rfl rfl rfl rfl hb17 rfl rfl (Op1.move (.tmp rfl)) ?_
      refine WL.run rfl rfl rfl rfl hb17 rfl rfl (Op1.lenL Tryd.underlying33 (.tmp rfl)) ?_
      refine WL.run rfl rfl rfl rfl hb17 rfl rfl (Op1.eqI (.tmp rfl) .i64) ?_
      refine WL.op rfl (.pickT (.tmp rfl) hb17 (.tmp rfl)) ?_
      refine WL.gv rfl rfl ?_
      refine WL.nil ?_
      exact WN.meet (decide ((parse.1.length : Int) = (0 : Int))) (Option.some.inj hm) ⟨Ent.q rfl, trivial⟩ ⟨rfl, rfl, trivial⟩
     ·have hp18 := of_decide_eq_false hb17
      rw [if_neg hp18] at hm
      iterate 3 refine WL.pass rfl rfl rfl rfl hb17 rfl rfl ?_
      refine WL.op rfl (.pickF (.tmp rfl) hb17 .bool) ?_
      refine WL.gv rfl rfl ?_
      refine WL.nil ?_
      exact WN.meet false (Option.some.inj hm) ⟨Ent.q rfl, trivial⟩ ⟨rfl, rfl, trivial⟩
   ·have hp13 := not_neg hc12
    rw [if_neg hp13] at hm
    refine W.skip ?_
    refine WN.seq ?_
    refine W.sr ?_
    refine WL.mv rfl rfl ?_
    refine WL.op rfl (.eqI (.tmp rfl) .i64) ?_
    refine WL.mv rfl rfl ?_
    rcases bcases (decide (parse.2 = (0 : Int))) with hb20 | hb20
    ·have hp21 := of_decide_eq_true hb20
     rw [if_pos hp21] at hm
     refine WL.run rfl rfl rfl rfl hb20 rfl rfl (Op1.move (.tmp rfl)) ?_
     refine WL.run rfl rfl rfl rfl hb20 rfl rfl (Op1.move (.tmp rfl)) ?_
     obtain ⟨same, hv22, hm⟩ := bind_some hm
     refine WL.run rfl rfl rfl rfl hb20 rfl rfl (Op1.call Tryd.call15 (r07_Same_spec _ _ _ _ hv22) ⟨(.tmp rfl), (.tmp rfl), trivial⟩) ?_
     refine WL.op rfl (.pickT (.tmp rfl) hb20 (.tmp rfl)) ?_
     refine WL.mv rfl rfl ?_
     rcases bcases (same) with hb23 | hb23
     ·have hp24 := hb23
      rw [if_pos hp24] at hm
      refine WL.run rfl rfl rfl rfl hb23 rfl rfl (Op1.move (.tmp rfl)) ?_
      obtain ⟨format, hv25, hm⟩ := bind_some hm
      refine WL.run rfl rfl rfl rfl hb23 rfl rfl (Op1.call Tryd.call21 (address_Format_spec _ _ _ hv25) ⟨(.tmp rfl), trivial⟩) ?_
      refine WL.run rfl rfl rfl rfl hb23 rfl rfl (Op1.move (.tmp rfl)) ?_
      refine WL.run rfl rfl rfl rfl hb23 rfl rfl (Op1.eqS (.tmp rfl) (.tmp rfl)) ?_
      refine WL.op rfl (.pickT (.tmp rfl) hb23 (.tmp rfl)) ?_
      refine WL.gv rfl rfl ?_
      refine WL.ns ?_
      cases hm
      exact W.ret1 () rfl (.tmp rfl) trivial
     ·have hp24 := ne_of_false hb23
      rw [if_neg hp24] at hm
      iterate 4 refine WL.pass rfl rfl rfl rfl hb23 rfl rfl ?_
      refine WL.op rfl (.pickF (.tmp rfl) hb23 .bool) ?_
      refine WL.gv rfl rfl ?_
      refine WL.ns ?_
      cases hm
      exact W.ret1 () rfl (.tmp rfl) trivial
    ·have hp21 := of_decide_eq_false hb20
     rw [if_neg hp21] at hm
     iterate 3 refine WL.pass rfl rfl rfl rfl hb20 rfl rfl ?_
     refine WL.op rfl (.pickF (.tmp rfl) hb20 .bool) ?_
     refine WL.mv rfl rfl ?_
     iterate 4 refine WL.pass rfl rfl rfl rfl rfl rfl rfl ?_
     refine WL.op rfl (.pickF (.tmp rfl) rfl .bool) ?_
     refine WL.gv rfl rfl ?_
     refine WL.ns ?_
     cases hm
     exact W.ret1 () rfl (.tmp rfl) trivial
 ·have hm := hs2
  clear hs2
  refine W.region ?_
  obtain ⟨awake, hv4, hm⟩ := bind_some hm
  refine WL.op rfl (.call Tryd.call7 (law07_awake_spec _ _ hv4) trivial) ?_
  refine WL.op rfl (.notB (.tmp rfl)) ?_
  refine WL.mv rfl rfl ?_
  rcases bcases (!awake) with hb5 | hb5
  ·have hp6 := not_pos hb5
   rw [if_pos hp6] at hm
   iterate 3 refine WL.pass rfl rfl rfl rfl hb5 rfl rfl ?_
   refine WL.op rfl (.pickT (.tmp rfl) hb5 .bool) ?_
   refine WL.nil ?_
   exact WN.meet true (Option.some.inj hm) ⟨Ent.q rfl, Ent.q rfl, trivial⟩ ⟨rfl, rfl, trivial⟩
  ·have hp6 := not_neg hb5
   rw [if_neg hp6] at hm
   refine WL.run rfl rfl rfl rfl hb5 rfl rfl (Op1.move (.tmp rfl)) ?_
   refine WL.run rfl rfl rfl rfl hb5 rfl rfl (Op1.lenS Tryd.underlying9 (.tmp rfl)) ?_
   refine WL.run rfl rfl rfl rfl hb5 rfl rfl (Op1.gtI (.tmp rfl) .i64) ?_
   refine WL.op rfl (.pickF (.tmp rfl) hb5 (.tmp rfl)) ?_
   refine WL.nil ?_
   exact WN.meet (decide ((1000 : Int) < (s0_.length : Int))) (Option.some.inj hm) ⟨Ent.q rfl, Ent.q rfl, trivial⟩ ⟨rfl, rfl, trivial⟩

end Go.Proofs.YtfclekegoleiaaaDoor
