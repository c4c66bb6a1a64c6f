/-
  The code does what the models say: written by program.
-/
import Derived.Test.YtlegkjbldofkmaaWc
set_option linter.unusedVariables false
set_option linter.unusedSimpArgs false
namespace Go.Proofs.Ytlegkjbldofkmaa
open Go Go.Dec

set_option maxRecDepth 100000
set_option maxHeartbeats 4000000
theorem r41_On_spec (n : Nat) (u : api_Unit) (at0_ : api_Id) (c : api_Cite) (said : List api_Id) (r : (List api_Id) × Int) (hm : M.r41_On n u at0_ c said = some r) : FSpec Try.prog 11 [(tapi_Unit.is u), (tapi_Id.is at0_), (tapi_Cite.is c), ((tL tapi_Id).is said)] (Asn.tuple2 ((tL tapi_Id).is r.1) ((tI .i64).is r.2)) := by
 unfold M.r41_On at hm
 refine FSpec.of Try.func11 rfl rfl rfl (fun g0 => ?_)
 refine W.sr ?_
 refine WL.op rfl (.box (.tmp rfl)) ?_
 refine WL.op rfl (.box (.tmp rfl)) ?_
 refine WL.op rfl (.box (.tmp rfl)) ?_
 refine WL.op rfl (.assign (.nil (t := tapi_Id))) ?_
 refine WL.op rfl (.assign .i64) ?_
 refine WL.ns ?_
 refine W.seq ?_
 refine W.sr ?_
 refine WL.op rfl (.load ty30 (.tmp rfl)) ?_
 obtain ⟨may, hv1, hm⟩ := bind_some hm
 refine WL.op rfl (.call Try.call26 (r20_May_spec _ _ _ hv1) ⟨(.tmp rfl), trivial⟩) ?_
 refine WL.op rfl (.notB (.tmp rfl)) ?_
 refine WL.ns ?_
 refine W.cond (.tmp rfl) (fun hc2 => ?_) (fun hc2 => ?_)
 ·have hp3 := not_pos hc2
  rw [if_pos hp3] at hm
  refine W.sr ?_
  refine WL.op rfl (.assign (.nil (t := tapi_Id))) ?_
  refine WL.op rfl (.assign .i64) ?_
  refine WL.ns ?_
  cases hm
  exact W.ret2 () rfl rfl (.tmp rfl) (.tmp rfl) trivial
 ·have hp3 := not_neg hc2
  rw [if_neg hp3] at hm
  refine W.skip ?_
  refine WN.seq ?_
  refine W.seq ?_
  refine W.sr ?_
  refine WL.op rfl (.fieldAddr Try.underlying30 rfl (fun w => ⟨0, Try.sizeOf3 w⟩) fapi_Cite_0 (.tmp rfl)) ?_
  refine WL.op rfl (.load ty3 (.tmp rfl)) ?_
  refine WL.op rfl (.eqI (.tmp rfl) .i64) ?_
  refine WL.ns ?_
  refine W.cond (.tmp rfl) (fun hc4 => ?_) (fun hc4 => ?_)
  ·have hp5 := of_decide_eq_true hc4
   rw [if_pos hp5] at hm
   refine W.sr ?_
   refine WL.op rfl (.assign (.nil (t := tapi_Id))) ?_
   refine WL.op rfl (.assign .i64) ?_
   refine WL.ns ?_
   cases hm
   exact W.ret2 () rfl rfl (.tmp rfl) (.tmp rfl) trivial
  ·have hp5 := of_decide_eq_false hc4
   rw [if_neg hp5] at hm
   refine W.skip ?_
   refine WN.seq ?_
   refine W.seq ?_
   refine W.sr ?_
   refine WL.op rfl (.fieldAddr Try.underlying30 rfl (fun w => ⟨0, Try.sizeOf3 w⟩) fapi_Cite_0 (.tmp rfl)) ?_
   refine WL.op rfl (.load ty3 (.tmp rfl)) ?_
   refine WL.op rfl (.eqI (.tmp rfl) .i64) ?_
   refine WL.ns ?_
   refine W.cond (.tmp rfl) (fun hc6 => ?_) (fun hc6 => ?_)
   ·have hp7 := of_decide_eq_true hc6
    rw [if_pos hp7] at hm
    refine W.seq ?_
    obtain ⟨v, hv8, hm⟩ := bind_some hm
    obtain ⟨this0_, hv9, hm⟩ := bind_some hm
    refine W.weakR (res' := []) trivial ?_
    refine W.drawM [.c (tapi_Unit.is u), .c (tapi_Id.is at0_), .c ((tL tapi_Step).ptr c.Path), .c ((tL tapi_Step).is c.Path), .c (tapi_Step.ptr v), .c ((tI .i64).ptr v.Kind), .c ((tI .i64).is v.Kind), .c (Asn.tuple2 (tapi_Id.is this0_.1) (tB.is this0_.2)), .c (Asn.tuple2 (tapi_Id.is this0_.1) (tB.is this0_.2)), .c (tapi_Id.is this0_.1), .c (tB.is this0_.2), .f (fun cv => (Bp (bk (cv 0)) 0)), .c Asn.any, .c (tB.is this0_.2)] [([], [4]), ([], [5]), ([], [6]), ([2], []), ([3], []), ([4], []), ([5], []), ([0, 1, 6], []), ([7], []), ([8], []), ([8], []), ([], []), ([9, 11], []), ([10], [])] [11, 12] [[], [], [], [], [], [], [], [], [], [], [], [true], [], []] (fun m cv => match m with | 0 => [] | 1 => [(10, (Bx 3 true 23 (tapi_Id.is zapi_Id) (bk (cv 0))))] | _ => [(10, (Bx 3 true 23 (tapi_Id.is this0_.1) (bk (cv 0))))]) (fun _ => none) Try.mixed rfl rfl rfl rfl rfl ⟨fun _ _ _ _ => rfl, ⟨fun _ _ _ _ => rfl, ⟨fun _ _ _ _ => rfl, ⟨fun _ _ _ _ => rfl, ⟨fun _ _ _ _ => rfl, ⟨fun _ _ _ _ => rfl, ⟨fun _ _ _ _ => rfl, ⟨fun _ _ _ _ => rfl, ⟨fun _ _ _ _ => rfl, ⟨fun _ _ _ _ => rfl, ⟨fun _ _ _ _ => rfl, ⟨fun m hm c t => by simp only [DA.at, upd_dep (r := [true]) (j := 0) rfl hm], ⟨fun _ _ _ _ => rfl, ⟨fun _ _ _ _ => rfl, trivial⟩⟩⟩⟩⟩⟩⟩⟩⟩⟩⟩⟩⟩⟩ rfl ⟨mo fun cv => Op1.load ty27 (.tmp rfl), ⟨mo fun cv => Op1.load ty23 (.tmp rfl), ⟨mo fun cv => Op1.fieldAddr Try.underlying30 rfl (fun w => ⟨0, Try.sizeOf28 w⟩) fapi_Cite_1 (.tmp rfl), ⟨mo fun cv => Op1.load ty28 (.tmp rfl), ⟨mo fun cv => Op1.idx hv8 Try.underlying28 Try.sizeOf55 (.tmp rfl) .i64, ⟨mo fun cv => Op1.fieldAddr Try.underlying55 rfl (fun w => ⟨0, Try.sizeOf3 w⟩) fapi_Step_0 (.tmp rfl), ⟨mo fun cv => Op1.load ty3 (.tmp rfl), ⟨mo fun cv => Op1.call Try.call14 (r41_This_spec _ _ _ _ _ hv9) ⟨(.tmp rfl), (.tmp rfl), (.tmp rfl), trivial⟩, ⟨mo fun cv => Op1.move (.tmp rfl), ⟨mo fun cv => Op1.extract0 (.tmp rfl), ⟨mo fun cv => Op1.extract1 (.tmp rfl), ⟨.inl rfl, ⟨.inl rfl, ⟨mo fun cv => Op1.assign (.tmp rfl), trivial⟩⟩⟩⟩⟩⟩⟩⟩⟩⟩⟩⟩⟩⟩ ⟨⟨_, _, _, [], (fun cv => [(10, (Bx 3 true 23 (tapi_Id.is zapi_Id) (bk (cv 0))))]), rfl, rfl, rfl, rfl, fun _ => rfl, fun _ _ => rfl, fun cv => OpR.viaB (OpR.alloc 10 ze23)⟩, ⟨⟨_, _, _, [10], (fun cv => [(10, (Bx 3 true 23 (tapi_Id.is this0_.1) (bk (cv 0))))]), rfl, rfl, rfl, rfl, fun _ => rfl, fun _ _ => rfl, fun cv => OpR.viaU (OpR.storeB (b := (bk (cv 0))) 10 Try.sizeOf23 (Cellable.is tapi_Id this0_.1) rfl (.tmp rfl) (.tmp rfl))⟩, trivial⟩⟩ (fun cv => ?_)
    refine WN.seq ?_
    refine W.seq ?_
    refine W.sr ?_
    refine WL.mv rfl rfl ?_
    refine WL.op rfl (.notB (.tmp rfl)) ?_
    refine WL.ns ?_
    refine W.cond (.tmp rfl) (fun hc10 => ?_) (fun hc10 => ?_)
    ·have hp11 := not_pos hc10
     rw [if_pos hp11] at hm
     refine W.sr ?_
     refine WL.op rfl (.assign (.nil (t := tapi_Id))) ?_
     refine WL.op rfl (.assign .i64) ?_
     refine WL.ns ?_
     cases hm
     exact W.ret2 () rfl rfl (.tmp rfl) (.tmp rfl) trivial
    ·have hp11 := not_neg hc10
     rw [if_neg hp11] at hm
     refine W.skip ?_
     refine WN.seq ?_
     refine W.seq ?_
     obtain ⟨v1, hv12, hm⟩ := bind_some hm
     obtain ⟨down, hv13, hm⟩ := bind_some hm
     refine W.draw [.c (tapi_Unit.is u), .c (tapi_Id.is this0_.1), .c ((tL tapi_Step).ptr c.Path), .c ((tL tapi_Step).is c.Path), .c ((tL tapi_Step).is v1), .c (Asn.tuple2 ((tL tapi_Id).is down.1) ((tI .i64).is down.2)), .c ((tL tapi_Id).is down.1), .c ((tI .i64).is down.2), .c ((tL tapi_Id).is down.1), .c ((tI .i64).is down.2)] [([], [4]), ([], [10]), ([], [6]), ([2], []), ([3], []), ([0, 1, 4], []), ([5], []), ([5], []), ([6], []), ([7], [])] Try.mixed rfl rfl rfl rfl ⟨.inr (Op1.load ty27 (.tmp rfl)), .inr (Op1.loadB 10 Try.isAgg23 Try.sizeOf23 rfl (.tmp rfl)), .inr (Op1.fieldAddr Try.underlying30 rfl (fun w => ⟨0, Try.sizeOf28 w⟩) fapi_Cite_1 (.tmp rfl)), .inr (Op1.load ty28 (.tmp rfl)), .inr (Op1.slcLo hv12 Try.underlying28 Try.sizeOf55 (.tmp rfl) .i64), .inr (Op1.call Try.call27 (r41_down_spec _ _ _ _ _ hv13) ⟨(.tmp rfl), (.tmp rfl), (.tmp rfl), trivial⟩), .inr (Op1.extract0 (.tmp rfl)), .inr (Op1.extract1 (.tmp rfl)), .inr (Op1.assign (.tmp rfl)), .inr (Op1.assign (.tmp rfl)), trivial⟩ ?_
     refine WN.seq ?_
     cases hm
     exact W.ret2 () rfl rfl (.tmp rfl) (.tmp rfl) trivial
   ·have hp7 := of_decide_eq_false hc6
    rw [if_neg hp7] at hm
    refine W.skip ?_
    refine WN.seq ?_
    refine W.seq ?_
    refine W.sr ?_
    refine WL.op rfl (.fieldAddr Try.underlying30 rfl (fun w => ⟨0, Try.sizeOf3 w⟩) fapi_Cite_0 (.tmp rfl)) ?_
    refine WL.op rfl (.load ty3 (.tmp rfl)) ?_
    refine WL.op rfl (.eqI (.tmp rfl) .i64) ?_
    refine WL.ns ?_
    refine W.cond (.tmp rfl) (fun hc14 => ?_) (fun hc14 => ?_)
    ·have hp15 := of_decide_eq_true hc14
     rw [if_pos hp15] at hm
     refine W.seq ?_
     refine W.sr ?_
     refine WL.mv rfl rfl ?_
     refine WL.op rfl (.lenL Try.underlying31 (.tmp rfl)) ?_
     obtain ⟨v2, hv16, hm⟩ := bind_some hm
     refine WL.op rfl (.subC hv16 (.tmp rfl) .i64) ?_
     refine WL.gv rfl rfl ?_
     refine WL.ns ?_
     refine W.block ?_
     obtain ⟨s17, hs18, hk19⟩ := bind_some hm
     clear hm
     refine W.loop (fun m (s : Int) => M.r41_On_loop1 u c said m s = some s17) (fun s => [(12, ((tI .i64).is s)), (3, ((tL tapi_Id).is said)), (4, (tapi_Unit.ptr u)), (6, (tapi_Cite.ptr c))]) (fun s => []) _ v2 hs18 ⟨Ent.q rfl, Ent.q rfl, Ent.q rfl, Ent.q rfl, trivial⟩ trivial ?_
     rintro n20 i hm
     try dsimp only at hm
     change W _ _ _ _ _ _ _ [(12, ((tI .i64).is i)), (3, ((tL tapi_Id).is said)), (4, (tapi_Unit.ptr u)), (6, (tapi_Cite.ptr c))] []
     cases n20 with
     | zero => rw [M.r41_On_loop1.eq_1] at hm; cases hm
     | succ n20 =>
      rw [M.r41_On_loop1.eq_2] at hm
      refine W.seq ?_
      refine W.sr ?_
      refine WL.mv rfl rfl ?_
      refine WL.op rfl (.geI (.tmp rfl) .i64) ?_
      refine WL.ns ?_
      refine W.cond (.tmp rfl) (fun hc21 => ?_) (fun hc21 => ?_)
      ·have hp22 := of_decide_eq_true hc21
       rw [if_pos hp22] at hm
       refine W.skip ?_
       refine WN.seq ?_
       refine W.seq ?_
       refine W.block ?_
       refine W.seq ?_
       obtain ⟨v3, hv23, hm⟩ := bind_some hm
       obtain ⟨get, hv24, hm⟩ := bind_some hm
       refine W.weakR (res' := []) trivial ?_
       refine W.drawM [.c (tapi_Unit.is u), .c ((tL tapi_Id).is said), .c ((tI .i64).is i), .c (tapi_Id.ptr v3), .c (tapi_Id.is v3), .c (Asn.tuple2 (tapi_Unit.is get.1) ((tI .i64).is get.2)), .c (Asn.tuple2 (tapi_Unit.is get.1) ((tI .i64).is get.2)), .c (tapi_Unit.is get.1), .c ((tI .i64).is get.2), .f (fun cv1 => (Bp (bk (cv1 0)) 0)), .c Asn.any, .c ((tI .i64).is get.2)] [([], [4]), ([], [3]), ([], [12]), ([1, 2], []), ([3], []), ([0, 4], []), ([5], []), ([6], []), ([6], []), ([], []), ([7, 9], []), ([8], [])] [9, 10] [[], [], [], [], [], [], [], [], [], [true], [], []] (fun m cv1 => match m with | 0 => [] | 1 => [(13, (Bx 8 true 27 (tapi_Unit.is zapi_Unit) (bk (cv1 0))))] | _ => [(13, (Bx 8 true 27 (tapi_Unit.is get.1) (bk (cv1 0))))]) (fun _ => none) Try.mixed rfl rfl rfl rfl rfl ⟨fun _ _ _ _ => rfl, ⟨fun _ _ _ _ => rfl, ⟨fun _ _ _ _ => rfl, ⟨fun _ _ _ _ => rfl, ⟨fun _ _ _ _ => rfl, ⟨fun _ _ _ _ => rfl, ⟨fun _ _ _ _ => rfl, ⟨fun _ _ _ _ => rfl, ⟨fun _ _ _ _ => rfl, ⟨fun m hm c t => by simp only [DA.at, upd_dep (r := [true]) (j := 0) rfl hm], ⟨fun _ _ _ _ => rfl, ⟨fun _ _ _ _ => rfl, trivial⟩⟩⟩⟩⟩⟩⟩⟩⟩⟩⟩⟩ rfl ⟨mo fun cv1 => Op1.load ty27 (.tmp rfl), ⟨mo fun cv1 => Op1.move (.tmp rfl), ⟨mo fun cv1 => Op1.move (.tmp rfl), ⟨mo fun cv1 => Op1.idx hv23 Try.underlying31 Try.sizeOf23 (.tmp rfl) (.tmp rfl), ⟨mo fun cv1 => Op1.load ty23 (.tmp rfl), ⟨mo fun cv1 => Op1.call Try.call28 (r23_Get_spec _ _ _ _ hv24) ⟨(.tmp rfl), (.tmp rfl), trivial⟩, ⟨mo fun cv1 => Op1.move (.tmp rfl), ⟨mo fun cv1 => Op1.extract0 (.tmp rfl), ⟨mo fun cv1 => Op1.extract1 (.tmp rfl), ⟨.inl rfl, ⟨.inl rfl, ⟨mo fun cv1 => Op1.assign (.tmp rfl), trivial⟩⟩⟩⟩⟩⟩⟩⟩⟩⟩⟩⟩ ⟨⟨_, _, _, [], (fun cv1 => [(13, (Bx 8 true 27 (tapi_Unit.is zapi_Unit) (bk (cv1 0))))]), rfl, rfl, rfl, rfl, fun _ => rfl, fun _ _ => rfl, fun cv1 => OpR.viaB (OpR.alloc 13 ze27)⟩, ⟨⟨_, _, _, [13], (fun cv1 => [(13, (Bx 8 true 27 (tapi_Unit.is get.1) (bk (cv1 0))))]), rfl, rfl, rfl, rfl, fun _ => rfl, fun _ _ => rfl, fun cv1 => OpR.viaU (OpR.storeB (b := (bk (cv1 0))) 13 Try.sizeOf27 (Cellable.is tapi_Unit get.1) rfl (.tmp rfl) (.tmp rfl))⟩, trivial⟩⟩ (fun cv1 => ?_)
       refine WN.seq ?_
       refine W.seq ?_
       rcases bcases (decide ((0 : Int) ≤ get.2)) with hb25 | hb25
       ·have hp26 := of_decide_eq_true hb25
        rw [if_pos hp26] at hm
        obtain ⟨v4, hv27, hm⟩ := bind_some hm
        refine W.draw [.c ((tI .i64).is get.2), .c (tB.is (decide ((0 : Int) ≤ get.2))), .c (tB.is (decide ((0 : Int) ≤ get.2))), .c (Bp (bk (cv1 0)) 3), .c ((tI .i64).is get.1.Kind), .c ((tL tapi_Step).ptr c.Path), .c ((tL tapi_Step).is c.Path), .c (tapi_Step.ptr v4), .c ((tI .i64).ptr v4.Kind), .c ((tI .i64).is v4.Kind), .c (tB.is (decide (get.1.Kind = v4.Kind))), .c (tB.is (decide (get.1.Kind = v4.Kind)))] [([], [14]), ([0], []), ([1], []), ([2], [13]), ([2, 3], []), ([2], [6]), ([2, 5], []), ([2, 6], []), ([2, 7], []), ([2, 8], []), ([2, 4, 9], []), ([2, 10], [])] Try.mixed rfl rfl rfl rfl ⟨.inr (Op1.move (.tmp rfl)), .inr (Op1.geI (.tmp rfl) .i64), .inr (Op1.move (.tmp rfl)), .inr (dr rfl rfl rfl hb25 (Op1.fieldAddrB (o := 0) Try.underlying27 rfl (fun w => ⟨0, Try.sizeOf3 w⟩) (.tmp rfl) rfl)), .inr (dr rfl rfl rfl hb25 (Op1.loadBF 13 rfl ty3 fapi_Unit_1 rfl (.tmp rfl))), .inr (dr rfl rfl rfl hb25 (Op1.fieldAddr Try.underlying30 rfl (fun w => ⟨0, Try.sizeOf28 w⟩) fapi_Cite_1 (.tmp rfl))), .inr (dr rfl rfl rfl hb25 (Op1.load ty28 (.tmp rfl))), .inr (dr rfl rfl rfl hb25 (Op1.idx hv27 Try.underlying28 Try.sizeOf55 (.tmp rfl) .i64)), .inr (dr rfl rfl rfl hb25 (Op1.fieldAddr Try.underlying55 rfl (fun w => ⟨0, Try.sizeOf3 w⟩) fapi_Step_0 (.tmp rfl))), .inr (dr rfl rfl rfl hb25 (Op1.load ty3 (.tmp rfl))), .inr (dr rfl rfl rfl hb25 (Op1.eqI (.tmp rfl) (.tmp rfl))), .inr (Op1.pickT (.tmp rfl) hb25 (.tmp rfl)), trivial⟩ ?_
        refine WN.seq ?_
        refine W.cond (.tmp rfl) (fun hc28 => ?_) (fun hc28 => ?_)
        ·have hp29 := of_decide_eq_true hc28
         rw [if_pos hp29] at hm
         refine W.seq ?_
         obtain ⟨v5, hv30, hm⟩ := bind_some hm
         obtain ⟨v6, hv31, hm⟩ := bind_some hm
         obtain ⟨down1, hv32, hm⟩ := bind_some hm
         refine W.draw [.c (tapi_Unit.is u), .c ((tL tapi_Id).is said), .c ((tI .i64).is i), .c (tapi_Id.ptr v5), .c (tapi_Id.is v5), .c ((tL tapi_Step).ptr c.Path), .c ((tL tapi_Step).is c.Path), .c ((tL tapi_Step).is v6), .c (Asn.tuple2 ((tL tapi_Id).is down1.1) ((tI .i64).is down1.2)), .c ((tL tapi_Id).is down1.1), .c ((tI .i64).is down1.2), .c ((tL tapi_Id).is down1.1), .c ((tI .i64).is down1.2)] [([], [4]), ([], [3]), ([], [12]), ([1, 2], []), ([3], []), ([], [6]), ([5], []), ([6], []), ([0, 4, 7], []), ([8], []), ([8], []), ([9], []), ([10], [])] Try.mixed rfl rfl rfl rfl ⟨.inr (Op1.load ty27 (.tmp rfl)), .inr (Op1.move (.tmp rfl)), .inr (Op1.move (.tmp rfl)), .inr (Op1.idx hv30 Try.underlying31 Try.sizeOf23 (.tmp rfl) (.tmp rfl)), .inr (Op1.load ty23 (.tmp rfl)), .inr (Op1.fieldAddr Try.underlying30 rfl (fun w => ⟨0, Try.sizeOf28 w⟩) fapi_Cite_1 (.tmp rfl)), .inr (Op1.load ty28 (.tmp rfl)), .inr (Op1.slcLo hv31 Try.underlying28 Try.sizeOf55 (.tmp rfl) .i64), .inr (Op1.call Try.call27 (r41_down_spec _ _ _ _ _ hv32) ⟨(.tmp rfl), (.tmp rfl), (.tmp rfl), trivial⟩), .inr (Op1.extract0 (.tmp rfl)), .inr (Op1.extract1 (.tmp rfl)), .inr (Op1.assign (.tmp rfl)), .inr (Op1.assign (.tmp rfl)), trivial⟩ ?_
         refine WN.seq ?_
         have hr33 := Option.some.inj hm
         clear hm
         subst hr33
         have hm := hk19
         try dsimp only at hm
         cases hm
         exact W.ret2 () rfl rfl (.tmp rfl) (.tmp rfl) trivial
        ·have hp29 := of_decide_eq_false hc28
         rw [if_neg hp29] at hm
         refine W.skip ?_
         refine WN.block ?_
         refine WN.seq ?_
         refine W.region ?_
         refine WL.mv rfl rfl ?_
         obtain ⟨v7, hv34, hm⟩ := bind_some hm
         refine WL.op rfl (.subC hv34 (.tmp rfl) .i64) ?_
         refine WL.gv rfl rfl ?_
         refine WL.nil ?_
         exact WN.again n20 v7 (Nat.lt_succ_self n20) hm ⟨Ent.q rfl, Ent.q rfl, Ent.q rfl, Ent.q rfl, trivial⟩ trivial
       ·have hp26 := of_decide_eq_false hb25
        rw [if_neg hp26] at hm
        refine W.draw [.c ((tI .i64).is get.2), .c (tB.is (decide ((0 : Int) ≤ get.2))), .c (tB.is (decide ((0 : Int) ≤ get.2))), .c (Asn.eq undef), .c (Asn.eq undef), .c (Asn.eq undef), .c (Asn.eq undef), .c (Asn.eq undef), .c (Asn.eq undef), .c (Asn.eq undef), .c (Asn.eq undef), .c (tB.is false)] [([], [14]), ([0], []), ([1], []), ([2], [13]), ([2, 3], []), ([2], [6]), ([2, 5], []), ([2, 6], []), ([2, 7], []), ([2, 8], []), ([2, 4, 9], []), ([2, 10], [])] Try.mixed rfl rfl rfl rfl ⟨.inr (Op1.move (.tmp rfl)), .inr (Op1.geI (.tmp rfl) .i64), .inr (Op1.move (.tmp rfl)), .inr (dp rfl rfl rfl hb25), .inr (dp rfl rfl rfl hb25), .inr (dp rfl rfl rfl hb25), .inr (dp rfl rfl rfl hb25), .inr (dp rfl rfl rfl hb25), .inr (dp rfl rfl rfl hb25), .inr (dp rfl rfl rfl hb25), .inr (dp rfl rfl rfl hb25), .inr (Op1.pickF (.tmp rfl) hb25 .bool), trivial⟩ ?_
        refine WN.seq ?_
        refine W.condF (.tmp rfl) ?_
        refine W.skip ?_
        refine WN.block ?_
        refine WN.seq ?_
        refine W.region ?_
        refine WL.mv rfl rfl ?_
        obtain ⟨v8, hv35, hm⟩ := bind_some hm
        refine WL.op rfl (.subC hv35 (.tmp rfl) .i64) ?_
        refine WL.gv rfl rfl ?_
        refine WL.nil ?_
        exact WN.again n20 v8 (Nat.lt_succ_self n20) hm ⟨Ent.q rfl, Ent.q rfl, Ent.q rfl, Ent.q rfl, trivial⟩ trivial
      ·have hp22 := of_decide_eq_false hc21
       rw [if_neg hp22] at hm
       refine W.exit rfl ?_
       have hr36 := Option.some.inj hm
       clear hm
       subst hr36
       have hm := hk19
       try dsimp only at hm
       refine WN.seq ?_
       refine W.sr ?_
       refine WL.op rfl (.assign (.nil (t := tapi_Id))) ?_
       refine WL.op rfl (.assign .i64) ?_
       refine WL.ns ?_
       cases hm
       exact W.ret2 () rfl rfl (.tmp rfl) (.tmp rfl) trivial
    ·have hp15 := of_decide_eq_false hc14
     rw [if_neg hp15] at hm
     refine W.skip ?_
     refine WN.seq ?_
     refine W.sr ?_
     refine WL.op rfl (.load ty27 (.tmp rfl)) ?_
     refine WL.op rfl (.fieldAddr Try.underlying30 rfl (fun w => ⟨0, Try.sizeOf28 w⟩) fapi_Cite_1 (.tmp rfl)) ?_
     refine WL.op rfl (.load ty28 (.tmp rfl)) ?_
     obtain ⟨one, hv37, hm⟩ := bind_some hm
     refine WL.op rfl (.call Try.call29 (r07_One_spec _ _ _ _ hv37) ⟨(.tmp rfl), (.tmp rfl), trivial⟩) ?_
     refine WL.mv rfl rfl ?_
     refine WL.op rfl (.extract0 (.tmp rfl)) ?_
     refine WL.op rfl (.extract1 (.tmp rfl)) ?_
     refine WL.opR rfl (OpR.alloc 15 ze23) (fun b => ?_)
     refine WL.opU (OpR.storeB (b := b) 15 Try.sizeOf23 (Cellable.is tapi_Id one.1) rfl (.tmp rfl) (.tmp rfl)) (fun _ => ?_)
     refine WL.sealed (t := tapi_Id) (u := one.1) 15 15 rfl rfl ?_
     refine WL.gv rfl rfl ?_
     refine WL.ns ?_
     refine W.seq ?_
     refine W.sr ?_
     refine WL.mv rfl rfl ?_
     refine WL.op rfl (.neI (.tmp rfl) .i64) ?_
     refine WL.ns ?_
     refine W.cond (.tmp rfl) (fun hc38 => ?_) (fun hc38 => ?_)
     ·have hp39 := of_decide_eq_true hc38
      rw [if_pos hp39] at hm
      refine W.sr ?_
      refine WL.mv rfl rfl ?_
      refine WL.op rfl (.assign (.nil (t := tapi_Id))) ?_
      refine WL.gv rfl rfl ?_
      refine WL.ns ?_
      cases hm
      exact W.ret2 () rfl rfl (.tmp rfl) (.tmp rfl) trivial
     ·have hp39 := of_decide_eq_false hc38
      rw [if_neg hp39] at hm
      refine W.skip ?_
      refine WN.seq ?_
      refine W.seq ?_
      refine W.sr ?_
      refine WL.op rfl (.fieldAddr Try.underlying30 rfl (fun w => ⟨0, Try.sizeOf3 w⟩) fapi_Cite_0 (.tmp rfl)) ?_
      refine WL.op rfl (.load ty3 (.tmp rfl)) ?_
      refine WL.op rfl (.eqI (.tmp rfl) .i64) ?_
      refine WL.ns ?_
      refine W.cond (.tmp rfl) (fun hc40 => ?_) (fun hc40 => ?_)
      ·have hp41 := of_decide_eq_true hc40
       rw [if_pos hp41] at hm
       refine W.sr ?_
       refine WL.op rfl (.load ty23 (.tmp rfl)) ?_
       refine WL.op rfl (.buildSlice (n := 1) (ys := [(0, one.1)]) (z := zapi_Id) (xs := [one.1]) Try.underlying31 el23 ze23 ⟨rfl, (.tmp rfl), trivial⟩ (by simp) (by decide) rfl) ?_
       refine WL.gv rfl rfl ?_
       refine WL.op rfl (.assign .i64) ?_
       refine WL.ns ?_
       cases hm
       exact W.ret2 () rfl rfl (.tmp rfl) (.tmp rfl) trivial
      ·have hp41 := of_decide_eq_false hc40
       rw [if_neg hp41] at hm
       refine W.skip ?_
       refine WN.seq ?_
       refine W.sr ?_
       refine WL.op rfl (.load ty27 (.tmp rfl)) ?_
       refine WL.op rfl (.load ty23 (.tmp rfl)) ?_
       obtain ⟨get1, hv42, hm⟩ := bind_some hm
       refine WL.op rfl (.call Try.call28 (r23_Get_spec _ _ _ _ hv42) ⟨(.tmp rfl), (.tmp rfl), trivial⟩) ?_
       refine WL.mv rfl rfl ?_
       refine WL.op rfl (.extract0 (.tmp rfl)) ?_
       refine WL.op rfl (.extract1 (.tmp rfl)) ?_
       refine WL.opR rfl (OpR.alloc 17 ze27) (fun b1 => ?_)
       refine WL.opU (OpR.storeB (b := b1) 17 Try.sizeOf27 (Cellable.is tapi_Unit get1.1) rfl (.tmp rfl) (.tmp rfl)) (fun _ => ?_)
       refine WL.sealed (t := tapi_Unit) (u := get1.1) 17 17 rfl rfl ?_
       refine WL.gv rfl rfl ?_
       refine WL.nr ?_
       refine WL.op rfl (.load ty27 (.tmp rfl)) ?_
       refine WL.op rfl (.load ty23 (.tmp rfl)) ?_
       obtain ⟨parent, hv43, hm⟩ := bind_some hm
       refine WL.op rfl (.call Try.call30 (r23_Parent_spec _ _ _ _ hv43) ⟨(.tmp rfl), (.tmp rfl), trivial⟩) ?_
       refine WL.mv rfl rfl ?_
       refine WL.op rfl (.extract30 (.tmp rfl)) ?_
       refine WL.op rfl (.extract31 (.tmp rfl)) ?_
       refine WL.op rfl (.extract32 (.tmp rfl)) ?_
       refine WL.opR rfl (OpR.alloc 19 ze27) (fun b2 => ?_)
       refine WL.opU (OpR.storeB (b := b2) 19 Try.sizeOf27 (Cellable.is tapi_Unit parent.1) rfl (.tmp rfl) (.tmp rfl)) (fun _ => ?_)
       refine WL.sealed (t := tapi_Unit) (u := parent.1) 19 19 rfl rfl ?_
       refine WL.gv rfl rfl ?_
       refine WL.gv rfl rfl ?_
       refine WL.ns ?_
       refine W.seq ?_
       refine W.sr ?_
       refine WL.op rfl (.assign .i64) ?_
       refine WL.ns ?_
       refine W.block ?_
       obtain ⟨s44, hs45, hk46⟩ := bind_some hm
       clear hm
       refine W.loop (fun m (s : Int) => M.r41_On_loop2 u c one get1 parent m s = some s44) (fun s => [(22, ((tI .i64).is s)), (4, (tapi_Unit.ptr u)), (6, (tapi_Cite.ptr c)), (15, (tapi_Id.ptr one.1)), (17, (tapi_Unit.ptr get1.1)), (19, (tapi_Unit.ptr parent.1)), (21, ((tI .i64).is parent.2.2))]) (fun s => []) _ (0 : Int) hs45 ⟨Ent.q rfl, Ent.q rfl, Ent.q rfl, Ent.q rfl, Ent.q rfl, Ent.q rfl, Ent.q rfl, trivial⟩ trivial ?_
       rintro n47 i1 hm
       try dsimp only at hm
       change W _ _ _ _ _ _ _ [(22, ((tI .i64).is i1)), (4, (tapi_Unit.ptr u)), (6, (tapi_Cite.ptr c)), (15, (tapi_Id.ptr one.1)), (17, (tapi_Unit.ptr get1.1)), (19, (tapi_Unit.ptr parent.1)), (21, ((tI .i64).is parent.2.2))] []
       cases n47 with
       | zero => rw [M.r41_On_loop2.eq_1] at hm; cases hm
       | succ n47 =>
        rw [M.r41_On_loop2.eq_2] at hm
        refine W.seq ?_
        obtain ⟨s48, hs49, hk50⟩ := bind_some hm
        clear hm
        refine W.join (fun s : Bool => s = s48) (fun s => [(131, (tB.is s)), (4, (tapi_Unit.ptr u)), (6, (tapi_Cite.ptr c)), (15, (tapi_Id.ptr one.1)), (17, (tapi_Unit.ptr get1.1)), (19, (tapi_Unit.ptr parent.1)), (21, ((tI .i64).is parent.2.2)), (22, ((tI .i64).is i1))]) (fun s => []) ?_ ?_
        ·rintro v9 hj70
         try dsimp only at hj70
         subst hj70
         have hm := hk50
         clear hk50
         try dsimp only at hm
         change W _ _ _ _ _ _ _ [(131, (tB.is v9)), (4, (tapi_Unit.ptr u)), (6, (tapi_Cite.ptr c)), (15, (tapi_Id.ptr one.1)), (17, (tapi_Unit.ptr get1.1)), (19, (tapi_Unit.ptr parent.1)), (21, ((tI .i64).is parent.2.2)), (22, ((tI .i64).is i1))] []
         refine W.cond (.tmp rfl) (fun hc53 => ?_) (fun hc53 => ?_)
         ·have hp54 := hc53
          rw [if_pos hp54] at hm
          refine W.skip ?_
          refine WN.seq ?_
          refine W.seq ?_
          refine W.block ?_
          refine W.seq ?_
          obtain ⟨v10, hv55, hm⟩ := bind_some hm
          rcases bcases (decide (v10.Kind = get1.1.Kind)) with hb56 | hb56
          ·have hp57 := of_decide_eq_true hb56
           rw [if_pos hp57] at hm
           obtain ⟨v11, hv58, hm⟩ := bind_some hm
           refine W.draw [.c ((tL tapi_Unit).ptr parent.1.Kids), .c ((tL tapi_Unit).is parent.1.Kids), .c ((tI .i64).is i1), .c (tapi_Unit.ptr v10), .c ((tI .i64).ptr v10.Kind), .c ((tI .i64).is v10.Kind), .c ((tI .i64).ptr get1.1.Kind), .c ((tI .i64).is get1.1.Kind), .c (tB.is (decide (v10.Kind = get1.1.Kind))), .c (tB.is (decide (v10.Kind = get1.1.Kind))), .c ((tL tapi_Unit).ptr parent.1.Kids), .c ((tL tapi_Unit).is parent.1.Kids), .c ((tI .i64).is i1), .c (tapi_Unit.ptr v11), .c (tS.ptr v11.Label), .c (tS.is v11.Label), .c (tS.ptr c.To), .c (tS.is c.To), .c (tB.is (v11.Label == c.To)), .c (tB.is (v11.Label == c.To))] [([], [19]), ([0], []), ([], [22]), ([1, 2], []), ([3], []), ([4], []), ([], [17]), ([6], []), ([5, 7], []), ([8], []), ([9], [19]), ([9, 10], []), ([9], [22]), ([9, 11, 12], []), ([9, 13], []), ([9, 14], []), ([9], [6]), ([9, 16], []), ([9, 15, 17], []), ([9, 18], [])] Try.mixed rfl rfl rfl rfl ⟨.inr (Op1.fieldAddr Try.underlying27 rfl (fun w => ⟨0, Try.sizeOf25 w⟩) fapi_Unit_5 (.tmp rfl)), .inr (Op1.load ty25 (.tmp rfl)), .inr (Op1.move (.tmp rfl)), .inr (Op1.idx hv55 Try.underlying25 Try.sizeOf27 (.tmp rfl) (.tmp rfl)), .inr (Op1.fieldAddr Try.underlying27 rfl (fun w => ⟨0, Try.sizeOf3 w⟩) fapi_Unit_1 (.tmp rfl)), .inr (Op1.load ty3 (.tmp rfl)), .inr (Op1.fieldAddr Try.underlying27 rfl (fun w => ⟨0, Try.sizeOf3 w⟩) fapi_Unit_1 (.tmp rfl)), .inr (Op1.load ty3 (.tmp rfl)), .inr (Op1.eqI (.tmp rfl) (.tmp rfl)), .inr (Op1.move (.tmp rfl)), .inr (dr rfl rfl rfl hb56 (Op1.fieldAddr Try.underlying27 rfl (fun w => ⟨0, Try.sizeOf25 w⟩) fapi_Unit_5 (.tmp rfl))), .inr (dr rfl rfl rfl hb56 (Op1.load ty25 (.tmp rfl))), .inr (dr rfl rfl rfl hb56 (Op1.move (.tmp rfl))), .inr (dr rfl rfl rfl hb56 (Op1.idx hv58 Try.underlying25 Try.sizeOf27 (.tmp rfl) (.tmp rfl))), .inr (dr rfl rfl rfl hb56 (Op1.fieldAddr Try.underlying27 rfl (fun w => ⟨0, Try.sizeOf9 w⟩) fapi_Unit_2 (.tmp rfl))), .inr (dr rfl rfl rfl hb56 (Op1.load ty9 (.tmp rfl))), .inr (dr rfl rfl rfl hb56 (Op1.fieldAddr Try.underlying30 rfl (fun w => ⟨0, Try.sizeOf9 w⟩) fapi_Cite_2 (.tmp rfl))), .inr (dr rfl rfl rfl hb56 (Op1.load ty9 (.tmp rfl))), .inr (dr rfl rfl rfl hb56 (Op1.eqS (.tmp rfl) (.tmp rfl))), .inr (Op1.pickT (.tmp rfl) hb56 (.tmp rfl)), trivial⟩ ?_
           refine WN.seq ?_
           refine W.cond (.tmp rfl) (fun hc59 => ?_) (fun hc59 => ?_)
           ·have hp60 := hc59
            rw [if_pos hp60] at hm
            refine W.seq ?_
            refine W.sr ?_
            refine WL.mv rfl rfl ?_
            refine WL.mv rfl rfl ?_
            refine WL.op rfl (.ltI (.tmp rfl) (.tmp rfl)) ?_
            refine WL.ns ?_
            refine W.cond (.tmp rfl) (fun hc61 => ?_) (fun hc61 => ?_)
            ·have hp62 := of_decide_eq_true hc61
             rw [if_pos hp62] at hm
             refine W.sr ?_
             refine WL.op rfl (.assign (.nil (t := tapi_Id))) ?_
             refine WL.op rfl (.assign .i64) ?_
             refine WL.ns ?_
             have hr63 := Option.some.inj hm
             clear hm
             subst hr63
             have hm := hk46
             try dsimp only at hm
             cases hm
             exact W.ret2 () rfl rfl (.tmp rfl) (.tmp rfl) trivial
            ·have hp62 := of_decide_eq_false hc61
             rw [if_neg hp62] at hm
             refine W.skip ?_
             refine WN.seq ?_
             refine W.seq ?_
             obtain ⟨v12, hv64, hm⟩ := bind_some hm
             obtain ⟨betwee, hv65, hm⟩ := bind_some hm
             refine W.draw [.c (tapi_Unit.is u), .c (tapi_Id.is one.1), .c ((tL tapi_Unit).ptr parent.1.Kids), .c ((tL tapi_Unit).is parent.1.Kids), .c ((tI .i64).is i1), .c (tapi_Unit.ptr v12), .c (tapi_Id.ptr v12.Id), .c (tapi_Id.is v12.Id), .c ((tL tapi_Id).is betwee), .c ((tL tapi_Id).is betwee), .c ((tI .i64).is (0 : Int))] [([], [4]), ([], [15]), ([], [19]), ([2], []), ([], [22]), ([3, 4], []), ([5], []), ([6], []), ([0, 1, 7], []), ([8], []), ([], [])] Try.mixed rfl rfl rfl rfl ⟨.inr (Op1.load ty27 (.tmp rfl)), .inr (Op1.load ty23 (.tmp rfl)), .inr (Op1.fieldAddr Try.underlying27 rfl (fun w => ⟨0, Try.sizeOf25 w⟩) fapi_Unit_5 (.tmp rfl)), .inr (Op1.load ty25 (.tmp rfl)), .inr (Op1.move (.tmp rfl)), .inr (Op1.idx hv64 Try.underlying25 Try.sizeOf27 (.tmp rfl) (.tmp rfl)), .inr (Op1.fieldAddr Try.underlying27 rfl (fun w => ⟨2, Try.sizeOf23 w⟩) fapi_Unit_0 (.tmp rfl)), .inr (Op1.load ty23 (.tmp rfl)), .inr (Op1.call Try.call16 (r41_Between_spec _ _ _ _ _ hv65) ⟨(.tmp rfl), (.tmp rfl), (.tmp rfl), trivial⟩), .inr (Op1.assign (.tmp rfl)), .inr (Op1.assign .i64), trivial⟩ ?_
             refine WN.seq ?_
             have hr66 := Option.some.inj hm
             clear hm
             subst hr66
             have hm := hk46
             try dsimp only at hm
             cases hm
             exact W.ret2 () rfl rfl (.tmp rfl) (.tmp rfl) trivial
           ·have hp60 := ne_of_false hc59
            rw [if_neg hp60] at hm
            refine W.skip ?_
            refine WN.block ?_
            refine WN.seq ?_
            refine W.region ?_
            refine WL.mv rfl rfl ?_
            obtain ⟨v13, hv67, hm⟩ := bind_some hm
            refine WL.op rfl (.addC hv67 (.tmp rfl) .i64) ?_
            refine WL.gv rfl rfl ?_
            refine WL.nil ?_
            exact WN.again n47 v13 (Nat.lt_succ_self n47) hm ⟨Ent.q rfl, Ent.q rfl, Ent.q rfl, Ent.q rfl, Ent.q rfl, Ent.q rfl, Ent.q rfl, trivial⟩ trivial
          ·have hp57 := of_decide_eq_false hb56
           rw [if_neg hp57] at hm
           refine W.draw [.c ((tL tapi_Unit).ptr parent.1.Kids), .c ((tL tapi_Unit).is parent.1.Kids), .c ((tI .i64).is i1), .c (tapi_Unit.ptr v10), .c ((tI .i64).ptr v10.Kind), .c ((tI .i64).is v10.Kind), .c ((tI .i64).ptr get1.1.Kind), .c ((tI .i64).is get1.1.Kind), .c (tB.is (decide (v10.Kind = get1.1.Kind))), .c (tB.is (decide (v10.Kind = get1.1.Kind))), .c (Asn.eq undef), .c (Asn.eq undef), .c (Asn.eq undef), .c (Asn.eq undef), .c (Asn.eq undef), .c (Asn.eq undef), .c (Asn.eq undef), .c (Asn.eq undef), .c (Asn.eq undef), .c (tB.is false)] [([], [19]), ([0], []), ([], [22]), ([1, 2], []), ([3], []), ([4], []), ([], [17]), ([6], []), ([5, 7], []), ([8], []), ([9], [19]), ([9, 10], []), ([9], [22]), ([9, 11, 12], []), ([9, 13], []), ([9, 14], []), ([9], [6]), ([9, 16], []), ([9, 15, 17], []), ([9, 18], [])] Try.mixed rfl rfl rfl rfl ⟨.inr (Op1.fieldAddr Try.underlying27 rfl (fun w => ⟨0, Try.sizeOf25 w⟩) fapi_Unit_5 (.tmp rfl)), .inr (Op1.load ty25 (.tmp rfl)), .inr (Op1.move (.tmp rfl)), .inr (Op1.idx hv55 Try.underlying25 Try.sizeOf27 (.tmp rfl) (.tmp rfl)), .inr (Op1.fieldAddr Try.underlying27 rfl (fun w => ⟨0, Try.sizeOf3 w⟩) fapi_Unit_1 (.tmp rfl)), .inr (Op1.load ty3 (.tmp rfl)), .inr (Op1.fieldAddr Try.underlying27 rfl (fun w => ⟨0, Try.sizeOf3 w⟩) fapi_Unit_1 (.tmp rfl)), .inr (Op1.load ty3 (.tmp rfl)), .inr (Op1.eqI (.tmp rfl) (.tmp rfl)), .inr (Op1.move (.tmp rfl)), .inr (dp rfl rfl rfl hb56), .inr (dp rfl rfl rfl hb56), .inr (dp rfl rfl rfl hb56), .inr (dp rfl rfl rfl hb56), .inr (dp rfl rfl rfl hb56), .inr (dp rfl rfl rfl hb56), .inr (dp rfl rfl rfl hb56), .inr (dp rfl rfl rfl hb56), .inr (dp rfl rfl rfl hb56), .inr (Op1.pickF (.tmp rfl) hb56 .bool), trivial⟩ ?_
           refine WN.seq ?_
           refine W.condF (.tmp rfl) ?_
           refine W.skip ?_
           refine WN.block ?_
           refine WN.seq ?_
           refine W.region ?_
           refine WL.mv rfl rfl ?_
           obtain ⟨v14, hv68, hm⟩ := bind_some hm
           refine WL.op rfl (.addC hv68 (.tmp rfl) .i64) ?_
           refine WL.gv rfl rfl ?_
           refine WL.nil ?_
           exact WN.again n47 v14 (Nat.lt_succ_self n47) hm ⟨Ent.q rfl, Ent.q rfl, Ent.q rfl, Ent.q rfl, Ent.q rfl, Ent.q rfl, Ent.q rfl, trivial⟩ trivial
         ·have hp54 := ne_of_false hc53
          rw [if_neg hp54] at hm
          refine W.exit rfl ?_
          have hr69 := Option.some.inj hm
          clear hm
          subst hr69
          have hm := hk46
          try dsimp only at hm
          refine WN.seq ?_
          refine W.sr ?_
          refine WL.op rfl (.assign (.nil (t := tapi_Id))) ?_
          refine WL.op rfl (.assign .i64) ?_
          refine WL.ns ?_
          cases hm
          exact W.ret2 () rfl rfl (.tmp rfl) (.tmp rfl) trivial
        ·have hm := hs49
         clear hs49
         refine W.region ?_
         refine WL.mv rfl rfl ?_
         refine WL.op rfl (.geI (.tmp rfl) .i64) ?_
         refine WL.mv rfl rfl ?_
         rcases bcases (decide ((0 : Int) ≤ parent.2.2)) with hb51 | hb51
         ·have hp52 := of_decide_eq_true hb51
          rw [if_pos hp52] at hm
          refine WL.run rfl rfl rfl rfl hb51 rfl rfl (Op1.move (.tmp rfl)) ?_
          refine WL.run rfl rfl rfl rfl hb51 rfl rfl (Op1.fieldAddr Try.underlying27 rfl (fun w => ⟨0, Try.sizeOf25 w⟩) fapi_Unit_5 (.tmp rfl)) ?_
          refine WL.run rfl rfl rfl rfl hb51 rfl rfl (Op1.load ty25 (.tmp rfl)) ?_
          refine WL.run rfl rfl rfl rfl hb51 rfl rfl (Op1.lenL Try.underlying25 (.tmp rfl)) ?_
          refine WL.run rfl rfl rfl rfl hb51 rfl rfl (Op1.ltI (.tmp rfl) (.tmp rfl)) ?_
          refine WL.op rfl (.pickT (.tmp rfl) hb51 (.tmp rfl)) ?_
          refine WL.nil ?_
          exact WN.meet (decide (i1 < (parent.1.Kids.length : Int))) (Option.some.inj hm) ⟨Ent.q rfl, Ent.q rfl, Ent.q rfl, Ent.q rfl, Ent.q rfl, Ent.q rfl, Ent.q rfl, Ent.q rfl, trivial⟩ trivial
         ·have hp52 := of_decide_eq_false hb51
          rw [if_neg hp52] at hm
          iterate 5 refine WL.pass rfl rfl rfl rfl hb51 rfl rfl ?_
          refine WL.op rfl (.pickF (.tmp rfl) hb51 .bool) ?_
          refine WL.nil ?_
          exact WN.meet false (Option.some.inj hm) ⟨Ent.q rfl, Ent.q rfl, Ent.q rfl, Ent.q rfl, Ent.q rfl, Ent.q rfl, Ent.q rfl, Ent.q rfl, trivial⟩ trivial

theorem r06_Alike_spec (n : Nat) (a : List api_Id) (b : List api_Id) (r : Bool) (hm : M.r06_Alike n a b = some r) : FSpec Try.prog 12 [((tL tapi_Id).is a), ((tL tapi_Id).is b)] (tB.is r) := by
 unfold M.r06_Alike at hm
 refine FSpec.of Try.func12 rfl rfl rfl (fun g0 => ?_)
 refine W.sr ?_
 refine WL.op rfl (.assign .bool) ?_
 refine WL.ns ?_
 refine W.seq ?_
 refine W.sr ?_
 refine WL.mv rfl rfl ?_
 refine WL.op rfl (.lenL Try.underlying31 (.tmp rfl)) ?_
 refine WL.mv rfl rfl ?_
 refine WL.op rfl (.lenL Try.underlying31 (.tmp rfl)) ?_
 refine WL.op rfl (.neI (.tmp rfl) (.tmp rfl)) ?_
 refine WL.ns ?_
 refine W.cond (.tmp rfl) (fun hc1 => ?_) (fun hc1 => ?_)
 ·have hp2 := of_decide_eq_true hc1
  rw [if_pos hp2] at hm
  refine W.sr ?_
  refine WL.op rfl (.assign .bool) ?_
  refine WL.ns ?_
  cases hm
  exact W.ret1 () rfl (.tmp rfl) trivial
 ·have hp2 := of_decide_eq_false hc1
  rw [if_neg hp2] at hm
  refine W.skip ?_
  refine WN.seq ?_
  refine W.seq ?_
  refine W.sr ?_
  refine WL.op rfl (.assign .i64) ?_
  refine WL.ns ?_
  refine W.block ?_
  obtain ⟨s3, hs4, hk5⟩ := bind_some hm
  clear hm
  refine W.loop (fun m (s : Int) => M.r06_Alike_loop1 a b m s = some s3) (fun s => [(5, ((tI .i64).is s)), (0, ((tL tapi_Id).is a)), (1, ((tL tapi_Id).is b))]) (fun s => []) _ (0 : Int) hs4 ⟨Ent.q rfl, Ent.q rfl, Ent.q rfl, trivial⟩ trivial ?_
  rintro n6 i hm
  try dsimp only at hm
  change W _ _ _ _ _ _ _ [(5, ((tI .i64).is i)), (0, ((tL tapi_Id).is a)), (1, ((tL tapi_Id).is b))] []
  cases n6 with
  | zero => rw [M.r06_Alike_loop1.eq_1] at hm; cases hm
  | succ n6 =>
   rw [M.r06_Alike_loop1.eq_2] at hm
   refine W.seq ?_
   refine W.sr ?_
   refine WL.mv rfl rfl ?_
   refine WL.mv rfl rfl ?_
   refine WL.op rfl (.lenL Try.underlying31 (.tmp rfl)) ?_
   refine WL.op rfl (.ltI (.tmp rfl) (.tmp rfl)) ?_
   refine WL.ns ?_
   refine W.cond (.tmp rfl) (fun hc7 => ?_) (fun hc7 => ?_)
   ·have hp8 := of_decide_eq_true hc7
    rw [if_pos hp8] at hm
    refine W.skip ?_
    refine WN.seq ?_
    refine W.seq ?_
    refine W.block ?_
    refine W.seq ?_
    obtain ⟨v, hv9, hm⟩ := bind_some hm
    obtain ⟨v1, hv10, hm⟩ := bind_some hm
    refine W.draw [.c ((tL tapi_Id).is a), .c ((tI .i64).is i), .c (tapi_Id.ptr v), .c (tapi_Id.is v), .c ((tL tapi_Id).is b), .c ((tI .i64).is i), .c (tapi_Id.ptr v1), .c (tapi_Id.is v1), .c (tB.is (decide (v ≠ v1)))] [([], [0]), ([], [5]), ([0, 1], []), ([2], []), ([], [1]), ([], [5]), ([4, 5], []), ([6], []), ([3, 7], [])] Try.mixed rfl rfl rfl rfl ⟨.inr (Op1.move (.tmp rfl)), .inr (Op1.move (.tmp rfl)), .inr (Op1.idx hv9 Try.underlying31 Try.sizeOf23 (.tmp rfl) (.tmp rfl)), .inr (Op1.load ty23 (.tmp rfl)), .inr (Op1.move (.tmp rfl)), .inr (Op1.move (.tmp rfl)), .inr (Op1.idx hv10 Try.underlying31 Try.sizeOf23 (.tmp rfl) (.tmp rfl)), .inr (Op1.load ty23 (.tmp rfl)), .inr (Op1.neSt (D := 2) rfl (by decide) eg23 eq23 (.tmp rfl) (.tmp rfl)), trivial⟩ ?_
    refine WN.seq ?_
    refine W.cond (.tmp rfl) (fun hc11 => ?_) (fun hc11 => ?_)
    ·have hp12 := of_decide_eq_true hc11
     rw [if_pos hp12] at hm
     refine W.sr ?_
     refine WL.op rfl (.assign .bool) ?_
     refine WL.ns ?_
     have hr13 := Option.some.inj hm
     clear hm
     subst hr13
     have hm := hk5
     try dsimp only at hm
     cases hm
     exact W.ret1 () rfl (.tmp rfl) trivial
    ·have hp12 := of_decide_eq_false hc11
     rw [if_neg hp12] at hm
     refine W.skip ?_
     refine WN.block ?_
     refine WN.seq ?_
     refine W.region ?_
     refine WL.mv rfl rfl ?_
     refine WL.lenL (s := 0) (.tmp rfl) fun hl14 => ?_
     refine WL.op rfl (.addI1 (.tmp rfl) .i64 hp8 hl14) ?_
     refine WL.gv rfl rfl ?_
     refine WL.nil ?_
     exact WN.again n6 (i + 1) (Nat.lt_succ_self n6) hm ⟨Ent.q rfl, Ent.q rfl, Ent.q rfl, trivial⟩ trivial
   ·have hp8 := of_decide_eq_false hc7
    rw [if_neg hp8] at hm
    refine W.exit rfl ?_
    have hr15 := Option.some.inj hm
    clear hm
    subst hr15
    have hm := hk5
    try dsimp only at hm
    refine WN.seq ?_
    refine W.sr ?_
    refine WL.op rfl (.assign .bool) ?_
    refine WL.ns ?_
    cases hm
    exact W.ret1 () rfl (.tmp rfl) trivial

theorem law41_ResolveCitation_spec (n : Nat) (u : api_Unit) (at0_ : api_Id) (c : api_Cite) (said : List api_Id) (r : Bool) (hm : M.law41_ResolveCitation n u at0_ c said = some r) : FSpec Try.prog 3 [(tapi_Unit.is u), (tapi_Id.is at0_), (tapi_Cite.is c), ((tL tapi_Id).is said)] (tB.is r) := by
 unfold M.law41_ResolveCitation at hm
 refine FSpec.of Try.func3 rfl rfl rfl (fun g0 => ?_)
 refine W.sr ?_
 refine WL.op rfl (.box (.tmp rfl)) ?_
 refine WL.op rfl (.box (.tmp rfl)) ?_
 refine WL.op rfl (.box (.tmp rfl)) ?_
 refine WL.op rfl (.assign .bool) ?_
 refine WL.ns ?_
 refine W.seq ?_
 refine W.sr ?_
 obtain ⟨awake, hv1, hm⟩ := bind_some hm
 refine WL.op rfl (.call Try.call7 (law41_awake_spec _ _ hv1) trivial) ?_
 refine WL.op rfl (.notB (.tmp rfl)) ?_
 refine WL.ns ?_
 refine W.cond (.tmp rfl) (fun hc2 => ?_) (fun hc2 => ?_)
 ·have hp3 := not_pos hc2
  rw [if_pos hp3] at hm
  refine W.sr ?_
  refine WL.op rfl (.assign .bool) ?_
  refine WL.ns ?_
  cases hm
  exact W.ret1 () rfl (.tmp rfl) trivial
 ·have hp3 := not_neg hc2
  rw [if_neg hp3] at hm
  refine W.skip ?_
  refine WN.seq ?_
  refine W.seq ?_
  obtain ⟨s4, hs5, hk6⟩ := bind_some hm
  clear hm
  refine W.join (fun s : Bool => s = s4) (fun s => [(27, (tB.is s)), (3, ((tL tapi_Id).is said)), (4, (tapi_Unit.ptr u)), (5, (tapi_Id.ptr at0_)), (6, (tapi_Cite.ptr c))]) (fun s => []) ?_ ?_
  ·rintro v hj20
   try dsimp only at hj20
   subst hj20
   have hm := hk6
   clear hk6
   try dsimp only at hm
   change W _ _ _ _ _ _ _ [(27, (tB.is v)), (3, ((tL tapi_Id).is said)), (4, (tapi_Unit.ptr u)), (5, (tapi_Id.ptr at0_)), (6, (tapi_Cite.ptr c))] []
   refine W.cond (.tmp rfl) (fun hc13 => ?_) (fun hc13 => ?_)
   ·have hp14 := hc13
    rw [if_pos hp14] at hm
    refine W.sr ?_
    refine WL.op rfl (.assign .bool) ?_
    refine WL.ns ?_
    cases hm
    exact W.ret1 () rfl (.tmp rfl) trivial
   ·have hp14 := ne_of_false hc13
    rw [if_neg hp14] at hm
    refine W.skip ?_
    refine WN.seq ?_
    refine W.sr ?_
    refine WL.op rfl (.load ty27 (.tmp rfl)) ?_
    refine WL.op rfl (.load ty23 (.tmp rfl)) ?_
    refine WL.op rfl (.load ty30 (.tmp rfl)) ?_
    refine WL.mv rfl rfl ?_
    obtain ⟨resolv, hv15, hm⟩ := bind_some hm
    refine WL.op rfl (.call Try.call10 (resolve_Resolve_spec _ _ _ _ _ _ hv15) ⟨(.tmp rfl), (.tmp rfl), (.tmp rfl), (.tmp rfl), trivial⟩) ?_
    refine WL.mv rfl rfl ?_
    refine WL.op rfl (.extract0 (.tmp rfl)) ?_
    refine WL.op rfl (.extract1 (.tmp rfl)) ?_
    refine WL.gv rfl rfl ?_
    refine WL.gv rfl rfl ?_
    refine WL.nr ?_
    refine WL.op rfl (.load ty27 (.tmp rfl)) ?_
    refine WL.op rfl (.load ty23 (.tmp rfl)) ?_
    refine WL.op rfl (.load ty30 (.tmp rfl)) ?_
    refine WL.mv rfl rfl ?_
    obtain ⟨on, hv16, hm⟩ := bind_some hm
    refine WL.op rfl (.call Try.call11 (r41_On_spec _ _ _ _ _ _ hv16) ⟨(.tmp rfl), (.tmp rfl), (.tmp rfl), (.tmp rfl), trivial⟩) ?_
    refine WL.mv rfl rfl ?_
    refine WL.op rfl (.extract0 (.tmp rfl)) ?_
    refine WL.op rfl (.extract1 (.tmp rfl)) ?_
    refine WL.gv rfl rfl ?_
    refine WL.gv rfl rfl ?_
    refine WL.nr ?_
    refine WL.mv rfl rfl ?_
    refine WL.mv rfl rfl ?_
    obtain ⟨alike, hv17, hm⟩ := bind_some hm
    refine WL.op rfl (.call Try.call12 (r06_Alike_spec _ _ _ _ hv17) ⟨(.tmp rfl), (.tmp rfl), trivial⟩) ?_
    refine WL.mv rfl rfl ?_
    rcases bcases (alike) with hb18 | hb18
    ·have hp19 := hb18
     rw [if_pos hp19] at hm
     refine WL.run rfl rfl rfl rfl hb18 rfl rfl (Op1.move (.tmp rfl)) ?_
     refine WL.run rfl rfl rfl rfl hb18 rfl rfl (Op1.move (.tmp rfl)) ?_
     refine WL.run rfl rfl rfl rfl hb18 rfl rfl (Op1.eqI (.tmp rfl) (.tmp rfl)) ?_
     refine WL.op rfl (.pickT (.tmp rfl) hb18 (.tmp rfl)) ?_
     refine WL.gv rfl rfl ?_
     refine WL.ns ?_
     cases hm
     exact W.ret1 () rfl (.tmp rfl) trivial
    ·have hp19 := ne_of_false hb18
     rw [if_neg hp19] at hm
     iterate 3 refine WL.pass rfl rfl rfl rfl hb18 rfl rfl ?_
     refine WL.op rfl (.pickF (.tmp rfl) hb18 .bool) ?_
     refine WL.gv rfl rfl ?_
     refine WL.ns ?_
     cases hm
     exact W.ret1 () rfl (.tmp rfl) trivial
  ·have hm := hs5
   clear hs5
   refine W.region ?_
   refine WL.op rfl (.load ty27 (.tmp rfl)) ?_
   obtain ⟨book, hv7, hm⟩ := bind_some hm
   refine WL.op rfl (.call Try.call8 (law41_book_spec _ _ _ hv7) ⟨(.tmp rfl), trivial⟩) ?_
   refine WL.op rfl (.notB (.tmp rfl)) ?_
   refine WL.mv rfl rfl ?_
   rcases bcases (!book) with hb8 | hb8
   ·have hp9 := not_pos hb8
    rw [if_pos hp9] at hm
    iterate 3 refine WL.pass rfl rfl rfl rfl hb8 rfl rfl ?_
    refine WL.op rfl (.pickT (.tmp rfl) hb8 .bool) ?_
    refine WL.mv rfl rfl ?_
    iterate 3 refine WL.pass rfl rfl rfl rfl rfl rfl rfl ?_
    refine WL.op rfl (.pickT (.tmp rfl) rfl .bool) ?_
    refine WL.nil ?_
    exact WN.meet true (Option.some.inj hm) ⟨Ent.q rfl, Ent.q rfl, Ent.q rfl, Ent.q rfl, Ent.q rfl, trivial⟩ trivial
   ·have hp9 := not_neg hb8
    rw [if_neg hp9] at hm
    refine WL.run rfl rfl rfl rfl hb8 rfl rfl (Op1.load ty30 (.tmp rfl)) ?_
    obtain ⟨few, hv10, hm⟩ := bind_some hm
    refine WL.run rfl rfl rfl rfl hb8 rfl rfl (Op1.call Try.call9 (r41_Few_spec _ _ _ hv10) ⟨(.tmp rfl), trivial⟩) ?_
    refine WL.run rfl rfl rfl rfl hb8 rfl rfl (Op1.notB (.tmp rfl)) ?_
    refine WL.op rfl (.pickF (.tmp rfl) hb8 (.tmp rfl)) ?_
    refine WL.mv rfl rfl ?_
    rcases bcases (!few) with hb11 | hb11
    ·have hp12 := not_pos hb11
     rw [if_pos hp12] at hm
     iterate 3 refine WL.pass rfl rfl rfl rfl hb11 rfl rfl ?_
     refine WL.op rfl (.pickT (.tmp rfl) hb11 .bool) ?_
     refine WL.nil ?_
     exact WN.meet true (Option.some.inj hm) ⟨Ent.q rfl, Ent.q rfl, Ent.q rfl, Ent.q rfl, Ent.q rfl, trivial⟩ trivial
    ·have hp12 := not_neg hb11
     rw [if_neg hp12] at hm
     refine WL.run rfl rfl rfl rfl hb11 rfl rfl (Op1.move (.tmp rfl)) ?_
     refine WL.run rfl rfl rfl rfl hb11 rfl rfl (Op1.lenL Try.underlying31 (.tmp rfl)) ?_
     refine WL.run rfl rfl rfl rfl hb11 rfl rfl (Op1.gtI (.tmp rfl) .i64) ?_
     refine WL.op rfl (.pickF (.tmp rfl) hb11 (.tmp rfl)) ?_
     refine WL.nil ?_
     exact WN.meet (decide ((20 : Int) < (said.length : Int))) (Option.some.inj hm) ⟨Ent.q rfl, Ent.q rfl, Ent.q rfl, Ent.q rfl, Ent.q rfl, trivial⟩ trivial

theorem law41_ResolveEnclosing_spec (n : Nat) (u : api_Unit) (a : api_Id) (b : api_Id) (kind : Int) (r : Bool) (hm : M.law41_ResolveEnclosing n u a b kind = some r) : FSpec Try.prog 4 [(tapi_Unit.is u), (tapi_Id.is a), (tapi_Id.is b), ((tI .i64).is kind)] (tB.is r) := by
 unfold M.law41_ResolveEnclosing at hm
 refine FSpec.of Try.func4 rfl rfl rfl (fun g0 => ?_)
 refine W.sr ?_
 refine WL.op rfl (.box (.tmp rfl)) ?_
 refine WL.op rfl (.box (.tmp rfl)) ?_
 refine WL.op rfl (.box (.tmp rfl)) ?_
 refine WL.op rfl (.assign .bool) ?_
 refine WL.ns ?_
 refine W.seq ?_
 refine W.sr ?_
 obtain ⟨awake, hv1, hm⟩ := bind_some hm
 refine WL.op rfl (.call Try.call7 (law41_awake_spec _ _ hv1) trivial) ?_
 refine WL.op rfl (.notB (.tmp rfl)) ?_
 refine WL.ns ?_
 refine W.cond (.tmp rfl) (fun hc2 => ?_) (fun hc2 => ?_)
 ·have hp3 := not_pos hc2
  rw [if_pos hp3] at hm
  refine W.sr ?_
  refine WL.op rfl (.assign .bool) ?_
  refine WL.ns ?_
  cases hm
  exact W.ret1 () rfl (.tmp rfl) trivial
 ·have hp3 := not_neg hc2
  rw [if_neg hp3] at hm
  refine W.skip ?_
  refine WN.seq ?_
  refine W.seq ?_
  refine W.sr ?_
  refine WL.op rfl (.load ty27 (.tmp rfl)) ?_
  obtain ⟨book, hv4, hm⟩ := bind_some hm
  refine WL.op rfl (.call Try.call8 (law41_book_spec _ _ _ hv4) ⟨(.tmp rfl), trivial⟩) ?_
  refine WL.op rfl (.notB (.tmp rfl)) ?_
  refine WL.ns ?_
  refine W.cond (.tmp rfl) (fun hc5 => ?_) (fun hc5 => ?_)
  ·have hp6 := not_pos hc5
   rw [if_pos hp6] at hm
   refine W.sr ?_
   refine WL.op rfl (.assign .bool) ?_
   refine WL.ns ?_
   cases hm
   exact W.ret1 () rfl (.tmp rfl) trivial
  ·have hp6 := not_neg hc5
   rw [if_neg hp6] at hm
   refine W.skip ?_
   refine WN.seq ?_
   refine W.sr ?_
   refine WL.op rfl (.load ty27 (.tmp rfl)) ?_
   refine WL.op rfl (.load ty23 (.tmp rfl)) ?_
   refine WL.mv rfl rfl ?_
   obtain ⟨enclos, hv7, hm⟩ := bind_some hm
   refine WL.op rfl (.call Try.call13 (resolve_Enclosing_spec _ _ _ _ _ hv7) ⟨(.tmp rfl), (.tmp rfl), (.tmp rfl), trivial⟩) ?_
   refine WL.mv rfl rfl ?_
   refine WL.op rfl (.extract0 (.tmp rfl)) ?_
   refine WL.op rfl (.extract1 (.tmp rfl)) ?_
   refine WL.opR rfl (OpR.alloc 9 ze23) (fun b1 => ?_)
   refine WL.opU (OpR.storeB (b := b1) 9 Try.sizeOf23 (Cellable.is tapi_Id enclos.1) rfl (.tmp rfl) (.tmp rfl)) (fun _ => ?_)
   refine WL.sealed (t := tapi_Id) (u := enclos.1) 9 9 rfl rfl ?_
   refine WL.gv rfl rfl ?_
   refine WL.nr ?_
   refine WL.op rfl (.load ty27 (.tmp rfl)) ?_
   refine WL.op rfl (.load ty23 (.tmp rfl)) ?_
   refine WL.mv rfl rfl ?_
   obtain ⟨this0_, hv8, hm⟩ := bind_some hm
   refine WL.op rfl (.call Try.call14 (r41_This_spec _ _ _ _ _ hv8) ⟨(.tmp rfl), (.tmp rfl), (.tmp rfl), trivial⟩) ?_
   refine WL.mv rfl rfl ?_
   refine WL.op rfl (.extract0 (.tmp rfl)) ?_
   refine WL.op rfl (.extract1 (.tmp rfl)) ?_
   refine WL.opR rfl (OpR.alloc 11 ze23) (fun b2 => ?_)
   refine WL.opU (OpR.storeB (b := b2) 11 Try.sizeOf23 (Cellable.is tapi_Id this0_.1) rfl (.tmp rfl) (.tmp rfl)) (fun _ => ?_)
   refine WL.sealed (t := tapi_Id) (u := this0_.1) 11 11 rfl rfl ?_
   refine WL.gv rfl rfl ?_
   refine WL.ns ?_
   refine W.seq ?_
   rcases bcases (decide (enclos.1 = this0_.1)) with hb9 | hb9
   ·have hp10 := of_decide_eq_true hb9
    rw [if_pos hp10] at hm
    rcases bcases (enclos.2 == this0_.2) with hb11 | hb11
    ·have hp12 := hb11
     rw [if_pos hp12] at hm
     obtain ⟨betwee, hv13, hm⟩ := bind_some hm
     obtain ⟨betwee1, hv14, hm⟩ := bind_some hm
     obtain ⟨alike, hv15, hm⟩ := bind_some hm
     refine W.draw [.c (tapi_Id.is enclos.1), .c (tapi_Id.is this0_.1), .c (tB.is (decide (enclos.1 = this0_.1))), .c (tB.is (decide (enclos.1 = this0_.1))), .c (tB.is enclos.2), .c (tB.is this0_.2), .c (tB.is (enclos.2 == this0_.2)), .c (tB.is (enclos.2 == this0_.2)), .c (tB.is (enclos.2 == this0_.2)), .c (tapi_Unit.is u), .c (tapi_Id.is a), .c (tapi_Id.is b), .c ((tL tapi_Id).is betwee), .c (tapi_Unit.is u), .c (tapi_Id.is a), .c (tapi_Id.is b), .c ((tL tapi_Id).is betwee1), .c (tB.is alike), .c (tB.is alike), .c (tB.is alike)] [([], [9]), ([], [11]), ([0, 1], []), ([2], []), ([3], [10]), ([3], [12]), ([3, 4, 5], []), ([3, 6], []), ([7], []), ([8], [4]), ([8], [5]), ([8], [6]), ([8, 9, 10, 11], []), ([8], [4]), ([8], [5]), ([8], [6]), ([8, 13, 14, 15], []), ([8, 12, 16], []), ([8, 17], []), ([18], [])] Try.mixed rfl rfl rfl rfl ⟨.inr (Op1.load ty23 (.tmp rfl)), .inr (Op1.load ty23 (.tmp rfl)), .inr (Op1.eqSt (D := 2) rfl (by decide) eg23 eq23 (.tmp rfl) (.tmp rfl)), .inr (Op1.move (.tmp rfl)), .inr (dr rfl rfl rfl hb9 (Op1.move (.tmp rfl))), .inr (dr rfl rfl rfl hb9 (Op1.move (.tmp rfl))), .inr (dr rfl rfl rfl hb9 (Op1.eqB Try.underlying4 (.tmp rfl) (.tmp rfl))), .inr (Op1.pickT (.tmp rfl) hb9 (.tmp rfl)), .inr (Op1.move (.tmp rfl)), .inr (dr rfl rfl rfl hb11 (Op1.load ty27 (.tmp rfl))), .inr (dr rfl rfl rfl hb11 (Op1.load ty23 (.tmp rfl))), .inr (dr rfl rfl rfl hb11 (Op1.load ty23 (.tmp rfl))), .inr (dr rfl rfl rfl hb11 (Op1.call Try.call15 (resolve_Between_spec _ _ _ _ _ hv13) ⟨(.tmp rfl), (.tmp rfl), (.tmp rfl), trivial⟩)), .inr (dr rfl rfl rfl hb11 (Op1.load ty27 (.tmp rfl))), .inr (dr rfl rfl rfl hb11 (Op1.load ty23 (.tmp rfl))), .inr (dr rfl rfl rfl hb11 (Op1.load ty23 (.tmp rfl))), .inr (dr rfl rfl rfl hb11 (Op1.call Try.call16 (r41_Between_spec _ _ _ _ _ hv14) ⟨(.tmp rfl), (.tmp rfl), (.tmp rfl), trivial⟩)), .inr (dr rfl rfl rfl hb11 (Op1.call Try.call12 (r06_Alike_spec _ _ _ _ hv15) ⟨(.tmp rfl), (.tmp rfl), trivial⟩)), .inr (Op1.pickT (.tmp rfl) hb11 (.tmp rfl)), .inr (Op1.assign (.tmp rfl)), trivial⟩ ?_
     refine WN.seq ?_
     cases hm
     exact W.ret1 () rfl (.tmp rfl) trivial
    ·have hp12 := ne_of_false hb11
     rw [if_neg hp12] at hm
     refine W.draw [.c (tapi_Id.is enclos.1), .c (tapi_Id.is this0_.1), .c (tB.is (decide (enclos.1 = this0_.1))), .c (tB.is (decide (enclos.1 = this0_.1))), .c (tB.is enclos.2), .c (tB.is this0_.2), .c (tB.is (enclos.2 == this0_.2)), .c (tB.is (enclos.2 == this0_.2)), .c (tB.is (enclos.2 == this0_.2)), .c (Asn.eq undef), .c (Asn.eq undef), .c (Asn.eq undef), .c (Asn.eq undef), .c (Asn.eq undef), .c (Asn.eq undef), .c (Asn.eq undef), .c (Asn.eq undef), .c (Asn.eq undef), .c (tB.is false), .c (tB.is false)] [([], [9]), ([], [11]), ([0, 1], []), ([2], []), ([3], [10]), ([3], [12]), ([3, 4, 5], []), ([3, 6], []), ([7], []), ([8], [4]), ([8], [5]), ([8], [6]), ([8, 9, 10, 11], []), ([8], [4]), ([8], [5]), ([8], [6]), ([8, 13, 14, 15], []), ([8, 12, 16], []), ([8, 17], []), ([18], [])] Try.mixed rfl rfl rfl rfl ⟨.inr (Op1.load ty23 (.tmp rfl)), .inr (Op1.load ty23 (.tmp rfl)), .inr (Op1.eqSt (D := 2) rfl (by decide) eg23 eq23 (.tmp rfl) (.tmp rfl)), .inr (Op1.move (.tmp rfl)), .inr (dr rfl rfl rfl hb9 (Op1.move (.tmp rfl))), .inr (dr rfl rfl rfl hb9 (Op1.move (.tmp rfl))), .inr (dr rfl rfl rfl hb9 (Op1.eqB Try.underlying4 (.tmp rfl) (.tmp rfl))), .inr (Op1.pickT (.tmp rfl) hb9 (.tmp rfl)), .inr (Op1.move (.tmp rfl)), .inr (dp rfl rfl rfl hb11), .inr (dp rfl rfl rfl hb11), .inr (dp rfl rfl rfl hb11), .inr (dp rfl rfl rfl hb11), .inr (dp rfl rfl rfl hb11), .inr (dp rfl rfl rfl hb11), .inr (dp rfl rfl rfl hb11), .inr (dp rfl rfl rfl hb11), .inr (dp rfl rfl rfl hb11), .inr (Op1.pickF (.tmp rfl) hb11 .bool), .inr (Op1.assign (.tmp rfl)), trivial⟩ ?_
     refine WN.seq ?_
     cases hm
     exact W.ret1 () rfl (.tmp rfl) trivial
   ·have hp10 := of_decide_eq_false hb9
    rw [if_neg hp10] at hm
    refine W.draw [.c (tapi_Id.is enclos.1), .c (tapi_Id.is this0_.1), .c (tB.is (decide (enclos.1 = this0_.1))), .c (tB.is (decide (enclos.1 = this0_.1))), .c (Asn.eq undef), .c (Asn.eq undef), .c (Asn.eq undef), .c (tB.is false), .c (tB.is false), .c (Asn.eq undef), .c (Asn.eq undef), .c (Asn.eq undef), .c (Asn.eq undef), .c (Asn.eq undef), .c (Asn.eq undef), .c (Asn.eq undef), .c (Asn.eq undef), .c (Asn.eq undef), .c (tB.is false), .c (tB.is false)] [([], [9]), ([], [11]), ([0, 1], []), ([2], []), ([3], [10]), ([3], [12]), ([3, 4, 5], []), ([3, 6], []), ([7], []), ([8], [4]), ([8], [5]), ([8], [6]), ([8, 9, 10, 11], []), ([8], [4]), ([8], [5]), ([8], [6]), ([8, 13, 14, 15], []), ([8, 12, 16], []), ([8, 17], []), ([18], [])] Try.mixed rfl rfl rfl rfl ⟨.inr (Op1.load ty23 (.tmp rfl)), .inr (Op1.load ty23 (.tmp rfl)), .inr (Op1.eqSt (D := 2) rfl (by decide) eg23 eq23 (.tmp rfl) (.tmp rfl)), .inr (Op1.move (.tmp rfl)), .inr (dp rfl rfl rfl hb9), .inr (dp rfl rfl rfl hb9), .inr (dp rfl rfl rfl hb9), .inr (Op1.pickF (.tmp rfl) hb9 .bool), .inr (Op1.move (.tmp rfl)), .inr (dp rfl rfl rfl rfl), .inr (dp rfl rfl rfl rfl), .inr (dp rfl rfl rfl rfl), .inr (dp rfl rfl rfl rfl), .inr (dp rfl rfl rfl rfl), .inr (dp rfl rfl rfl rfl), .inr (dp rfl rfl rfl rfl), .inr (dp rfl rfl rfl rfl), .inr (dp rfl rfl rfl rfl), .inr (Op1.pickF (.tmp rfl) rfl .bool), .inr (Op1.assign (.tmp rfl)), trivial⟩ ?_
    refine WN.seq ?_
    cases hm
    exact W.ret1 () rfl (.tmp rfl) trivial

theorem r07_below_spec : ∀ (n : Nat) (u : api_Unit) (id : api_Id) (r : (List api_Step) × Bool), M.r07_below n u id = some r → FSpec Try.prog 35 [(tapi_Unit.is u), (tapi_Id.is id)] (Asn.tuple2 ((tL tapi_Step).is r.1) (tB.is r.2)) := by
 intro n
 induction n with
 | zero => intro u id r hm; cases hm
 | succ n ih =>
  intro u id r hm
  rw [M.r07_below.eq_2] at hm
  refine FSpec.of Try.func35 rfl rfl rfl (fun g0 => ?_)
  refine W.sr ?_
  refine WL.op rfl (.box (.tmp rfl)) ?_
  refine WL.op rfl (.box (.tmp rfl)) ?_
  refine WL.op rfl (.assign (.nil (t := tapi_Step))) ?_
  refine WL.op rfl (.assign .bool) ?_
  refine WL.ns ?_
  refine W.seq ?_
  refine W.sr ?_
  refine WL.op rfl (.fieldAddr Try.underlying27 rfl (fun w => ⟨2, Try.sizeOf23 w⟩) fapi_Unit_0 (.tmp rfl)) ?_
  refine WL.op rfl (.load ty23 (.tmp rfl)) ?_
  refine WL.op rfl (.load ty23 (.tmp rfl)) ?_
  refine WL.op rfl (.eqSt (D := 2) rfl (by decide) eg23 eq23 (.tmp rfl) (.tmp rfl)) ?_
  refine WL.ns ?_
  refine W.cond (.tmp rfl) (fun hc1 => ?_) (fun hc1 => ?_)
  ·have hp2 := of_decide_eq_true hc1
   rw [if_pos hp2] at hm
   refine W.sr ?_
   refine WL.op rfl (.buildSlice (n := 0) (ys := []) (z := zapi_Step) (xs := ([] : List api_Step)) Try.underlying28 el55 ze55 trivial (by simp) (by decide) rfl) ?_
   refine WL.gv rfl rfl ?_
   refine WL.op rfl (.assign .bool) ?_
   refine WL.ns ?_
   cases hm
   exact W.ret2 () rfl rfl (.tmp rfl) (.tmp rfl) trivial
  ·have hp2 := of_decide_eq_false hc1
   rw [if_neg hp2] at hm
   refine W.skip ?_
   refine WN.seq ?_
   refine W.seq ?_
   refine W.sr ?_
   refine WL.op rfl (.assign .i64) ?_
   refine WL.ns ?_
   refine W.block ?_
   obtain ⟨s3, hs4, hk5⟩ := bind_some hm
   clear hm
   refine W.loop (fun m (s : Int) => M.r07_below_loop1 u id (M.r07_below n) m s = some s3) (fun s => [(6, ((tI .i64).is s)), (2, (tapi_Unit.ptr u)), (3, (tapi_Id.ptr id))]) (fun s => []) _ (0 : Int) hs4 ⟨Ent.q rfl, Ent.q rfl, Ent.q rfl, trivial⟩ trivial ?_
   rintro n6 i hm
   try dsimp only at hm
   change W _ _ _ _ _ _ _ [(6, ((tI .i64).is i)), (2, (tapi_Unit.ptr u)), (3, (tapi_Id.ptr id))] []
   cases n6 with
   | zero => rw [M.r07_below_loop1.eq_1] at hm; cases hm
   | succ n6 =>
    rw [M.r07_below_loop1.eq_2] at hm
    refine W.seq ?_
    refine W.sr ?_
    refine WL.mv rfl rfl ?_
    refine WL.op rfl (.fieldAddr Try.underlying27 rfl (fun w => ⟨0, Try.sizeOf25 w⟩) fapi_Unit_5 (.tmp rfl)) ?_
    refine WL.op rfl (.load ty25 (.tmp rfl)) ?_
    refine WL.op rfl (.lenL Try.underlying25 (.tmp rfl)) ?_
    refine WL.op rfl (.ltI (.tmp rfl) (.tmp rfl)) ?_
    refine WL.ns ?_
    refine W.cond (.tmp rfl) (fun hc7 => ?_) (fun hc7 => ?_)
    ·have hp8 := of_decide_eq_true hc7
     rw [if_pos hp8] at hm
     refine W.skip ?_
     refine WN.seq ?_
     refine W.seq ?_
     refine W.block ?_
     refine W.seq ?_
     obtain ⟨v, hv9, hm⟩ := bind_some hm
     obtain ⟨below, hv10, hm⟩ := bind_some hm
     refine W.weakR (res' := []) trivial ?_
     refine W.drawM [.c ((tL tapi_Unit).ptr u.Kids), .c ((tL tapi_Unit).is u.Kids), .c ((tI .i64).is i), .c (tapi_Unit.ptr v), .c (tapi_Unit.is v), .c (tapi_Id.is id), .c (Asn.tuple2 ((tL tapi_Step).is below.1) (tB.is below.2)), .c (Asn.tuple2 ((tL tapi_Step).is below.1) (tB.is below.2)), .c ((tL tapi_Step).is below.1), .c (tB.is below.2), .c ((tL tapi_Step).is below.1), .c (tB.is below.2)] [([], [2]), ([0], []), ([], [6]), ([1, 2], []), ([3], []), ([], [3]), ([4, 5], []), ([6], []), ([7], []), ([7], []), ([8], []), ([9], [])] [] [[], [], [], [], [], [], [], [], [], [], [], []] (fun m cv => match m with  | _ => []) (fun _ => none) Try.mixed rfl rfl rfl rfl rfl ⟨fun _ _ _ _ => rfl, ⟨fun _ _ _ _ => rfl, ⟨fun _ _ _ _ => rfl, ⟨fun _ _ _ _ => rfl, ⟨fun _ _ _ _ => rfl, ⟨fun _ _ _ _ => rfl, ⟨fun _ _ _ _ => rfl, ⟨fun _ _ _ _ => rfl, ⟨fun _ _ _ _ => rfl, ⟨fun _ _ _ _ => rfl, ⟨fun _ _ _ _ => rfl, ⟨fun _ _ _ _ => rfl, trivial⟩⟩⟩⟩⟩⟩⟩⟩⟩⟩⟩⟩ rfl ⟨mo fun cv => Op1.fieldAddr Try.underlying27 rfl (fun w => ⟨0, Try.sizeOf25 w⟩) fapi_Unit_5 (.tmp rfl), ⟨mo fun cv => Op1.load ty25 (.tmp rfl), ⟨mo fun cv => Op1.move (.tmp rfl), ⟨mo fun cv => Op1.idx hv9 Try.underlying25 Try.sizeOf27 (.tmp rfl) (.tmp rfl), ⟨mo fun cv => Op1.load ty27 (.tmp rfl), ⟨mo fun cv => Op1.load ty23 (.tmp rfl), ⟨mo fun cv => Op1.call Try.call35 (ih _ _ _ hv10) ⟨(.tmp rfl), (.tmp rfl), trivial⟩, ⟨mo fun cv => Op1.move (.tmp rfl), ⟨mo fun cv => Op1.extract0 (.tmp rfl), ⟨mo fun cv => Op1.extract1 (.tmp rfl), ⟨mo fun cv => Op1.assign (.tmp rfl), ⟨mo fun cv => Op1.assign (.tmp rfl), trivial⟩⟩⟩⟩⟩⟩⟩⟩⟩⟩⟩⟩ trivial (fun cv => ?_)
     refine WN.seq ?_
     refine W.sr ?_
     refine WL.mv rfl rfl ?_
     refine WL.ns ?_
     refine W.cond (.tmp rfl) (fun hc11 => ?_) (fun hc11 => ?_)
     ·have hp12 := hc11
      rw [if_pos hp12] at hm
      refine W.seq ?_
      obtain ⟨v1, hv13, hm⟩ := bind_some hm
      obtain ⟨v2, hv14, hm⟩ := bind_some hm
      obtain ⟨out, hv15, hm⟩ := bind_some hm
      refine W.weakR (res' := []) trivial ?_
      refine W.drawM [.c ((tL tapi_Unit).ptr u.Kids), .c ((tL tapi_Unit).is u.Kids), .c ((tI .i64).is i), .c (tapi_Unit.ptr v1), .c ((tI .i64).ptr v1.Kind), .c ((tI .i64).is v1.Kind), .c ((tL tapi_Unit).ptr u.Kids), .c ((tL tapi_Unit).is u.Kids), .c ((tI .i64).is i), .c (tapi_Unit.ptr v2), .c (tS.ptr v2.Label), .c (tS.is v2.Label), .c (tapi_Step.is (⟨v1.Kind, v2.Label⟩ : api_Step)), .f (fun cv1 => (tO tapi_Step (cv1 0) [(⟨v1.Kind, v2.Label⟩ : api_Step)])), .c ((tL tapi_Step).is below.1), .f (fun cv1 => (tO tapi_Step (cv1 1) out)), .f (fun cv1 => (tO tapi_Step (cv1 1) out)), .c (tB.is true)] [([], [2]), ([0], []), ([], [6]), ([1, 2], []), ([3], []), ([4], []), ([], [2]), ([6], []), ([], [6]), ([7, 8], []), ([9], []), ([10], []), ([5, 11], []), ([12], []), ([], [7]), ([13, 14], []), ([15], []), ([], [])] [13, 15] [[], [], [], [], [], [], [], [], [], [], [], [], [], [true], [], [false, true], [false, true], []] (fun m cv1 => match m with | 0 => [] | 1 => [(45, Dec.Own tapi_Step 55 (cv1 0) [(⟨v1.Kind, v2.Label⟩ : api_Step)].length)] | _ => [(45, Dec.Own tapi_Step 55 (cv1 1) out.length)]) (fun _ => none) Try.mixed rfl rfl rfl rfl rfl ⟨fun _ _ _ _ => rfl, ⟨fun _ _ _ _ => rfl, ⟨fun _ _ _ _ => rfl, ⟨fun _ _ _ _ => rfl, ⟨fun _ _ _ _ => rfl, ⟨fun _ _ _ _ => rfl, ⟨fun _ _ _ _ => rfl, ⟨fun _ _ _ _ => rfl, ⟨fun _ _ _ _ => rfl, ⟨fun _ _ _ _ => rfl, ⟨fun _ _ _ _ => rfl, ⟨fun _ _ _ _ => rfl, ⟨fun _ _ _ _ => rfl, ⟨fun m hm c t => by simp only [DA.at, upd_dep (r := [true]) (j := 0) rfl hm], ⟨fun _ _ _ _ => rfl, ⟨fun m hm c t => by simp only [DA.at, upd_dep (r := [false, true]) (j := 1) rfl hm], ⟨fun m hm c t => by simp only [DA.at, upd_dep (r := [false, true]) (j := 1) rfl hm], ⟨fun _ _ _ _ => rfl, trivial⟩⟩⟩⟩⟩⟩⟩⟩⟩⟩⟩⟩⟩⟩⟩⟩⟩⟩ rfl ⟨mo fun cv1 => Op1.fieldAddr Try.underlying27 rfl (fun w => ⟨0, Try.sizeOf25 w⟩) fapi_Unit_5 (.tmp rfl), ⟨mo fun cv1 => Op1.load ty25 (.tmp rfl), ⟨mo fun cv1 => Op1.move (.tmp rfl), ⟨mo fun cv1 => Op1.idx hv13 Try.underlying25 Try.sizeOf27 (.tmp rfl) (.tmp rfl), ⟨mo fun cv1 => Op1.fieldAddr Try.underlying27 rfl (fun w => ⟨0, Try.sizeOf3 w⟩) fapi_Unit_1 (.tmp rfl), ⟨mo fun cv1 => Op1.load ty3 (.tmp rfl), ⟨mo fun cv1 => Op1.fieldAddr Try.underlying27 rfl (fun w => ⟨0, Try.sizeOf25 w⟩) fapi_Unit_5 (.tmp rfl), ⟨mo fun cv1 => Op1.load ty25 (.tmp rfl), ⟨mo fun cv1 => Op1.move (.tmp rfl), ⟨mo fun cv1 => Op1.idx hv14 Try.underlying25 Try.sizeOf27 (.tmp rfl) (.tmp rfl), ⟨mo fun cv1 => Op1.fieldAddr Try.underlying27 rfl (fun w => ⟨0, Try.sizeOf9 w⟩) fapi_Unit_2 (.tmp rfl), ⟨mo fun cv1 => Op1.load ty9 (.tmp rfl), ⟨mo fun cv1 => Op1.build (s := tapi_Step) (x := (⟨v1.Kind, v2.Label⟩ : api_Step)) zapi_Step_f rfl Try.underlying55 (zapi_Step_sz _ Try.underlying55) ze55 ⟨_, (tI .i64), v1.Kind, _, _, rfl, Try.sizeOf3, (.tmp rfl), sapi_Step_0, ⟨_, tS, v2.Label, _, _, rfl, Try.sizeOf9, (.tmp rfl), sapi_Step_1, rfl⟩⟩, ⟨.inl rfl, ⟨mo fun cv1 => Op1.move (.tmp rfl), ⟨.inl rfl, ⟨mo fun cv1 => Op1.assign (.tmp rfl), ⟨mo fun cv1 => Op1.assign .bool, trivial⟩⟩⟩⟩⟩⟩⟩⟩⟩⟩⟩⟩⟩⟩⟩⟩⟩⟩ ⟨⟨_, _, _, [], (fun cv1 => [(45, Dec.Own tapi_Step 55 (cv1 0) [(⟨v1.Kind, v2.Label⟩ : api_Step)].length)]), rfl, rfl, rfl, rfl, fun _ => rfl, fun _ _ => rfl, fun cv1 => OpR.buildSlice (n := 1) (ys := [(0, (⟨v1.Kind, v2.Label⟩ : api_Step))]) (z := zapi_Step) (xs := [(⟨v1.Kind, v2.Label⟩ : api_Step)]) 45 Try.underlying28 el55 ze55 ⟨rfl, (.tmp rfl), trivial⟩ (by simp) (by decide) rfl⟩, ⟨⟨_, _, _, [45], (fun cv1 => [(45, Dec.Own tapi_Step 55 (cv1 1) out.length)]), rfl, rfl, rfl, rfl, fun _ => rfl, fun _ _ => rfl, fun cv1 => OpR.appC (key := 45) hv15 Try.underlying28 el55 (.tmp rfl) (.tmp rfl) rfl⟩, trivial⟩⟩ (fun cv1 => ?_)
      refine WN.seq ?_
      have hr16 := Option.some.inj hm
      clear hm
      subst hr16
      have hm := hk5
      try dsimp only at hm
      cases hm
      exact W.ret2 () rfl rfl (Opd.own (.tmp rfl)) (.tmp rfl) trivial
     ·have hp12 := ne_of_false hc11
      rw [if_neg hp12] at hm
      refine W.skip ?_
      refine WN.block ?_
      refine WN.seq ?_
      refine W.region ?_
      refine WL.mv rfl rfl ?_
      refine WL.lenL (s := 16) (.tmp rfl) fun hl17 => ?_
      refine WL.op rfl (.addI1 (.tmp rfl) .i64 hp8 hl17) ?_
      refine WL.gv rfl rfl ?_
      refine WL.nil ?_
      exact WN.again n6 (i + 1) (Nat.lt_succ_self n6) hm ⟨Ent.q rfl, Ent.q rfl, Ent.q rfl, trivial⟩ trivial
    ·have hp8 := of_decide_eq_false hc7
     rw [if_neg hp8] at hm
     refine W.exit rfl ?_
     have hr18 := Option.some.inj hm
     clear hm
     subst hr18
     have hm := hk5
     try dsimp only at hm
     refine WN.seq ?_
     refine W.sr ?_
     refine WL.op rfl (.assign (.nil (t := tapi_Step))) ?_
     refine WL.op rfl (.assign .bool) ?_
     refine WL.ns ?_
     cases hm
     exact W.ret2 () rfl rfl (.tmp rfl) (.tmp rfl) trivial

theorem r07_Whole_spec (n : Nat) (u : api_Unit) (id : api_Id) (r : (List api_Step) × Bool) (hm : M.r07_Whole n u id = some r) : FSpec Try.prog 18 [(tapi_Unit.is u), (tapi_Id.is id)] (Asn.tuple2 ((tL tapi_Step).is r.1) (tB.is r.2)) := by
 unfold M.r07_Whole at hm
 refine FSpec.of Try.func18 rfl rfl rfl (fun g0 => ?_)
 refine W.sr ?_
 refine WL.op rfl (.box (.tmp rfl)) ?_
 refine WL.op rfl (.box (.tmp rfl)) ?_
 refine WL.op rfl (.assign (.nil (t := tapi_Step))) ?_
 refine WL.op rfl (.assign .bool) ?_
 refine WL.nr ?_
 refine WL.op rfl (.load ty27 (.tmp rfl)) ?_
 refine WL.op rfl (.load ty23 (.tmp rfl)) ?_
 obtain ⟨below, hv1, hm⟩ := bind_some hm
 refine WL.op rfl (.call Try.call35 (r07_below_spec _ _ _ _ hv1) ⟨(.tmp rfl), (.tmp rfl), trivial⟩) ?_
 refine WL.mv rfl rfl ?_
 refine WL.op rfl (.extract0 (.tmp rfl)) ?_
 refine WL.op rfl (.extract1 (.tmp rfl)) ?_
 refine WL.gv rfl rfl ?_
 refine WL.gv rfl rfl ?_
 refine WL.ns ?_
 refine W.seq ?_
 refine W.sr ?_
 refine WL.mv rfl rfl ?_
 refine WL.op rfl (.notB (.tmp rfl)) ?_
 refine WL.ns ?_
 refine W.cond (.tmp rfl) (fun hc2 => ?_) (fun hc2 => ?_)
 ·have hp3 := not_pos hc2
  rw [if_pos hp3] at hm
  refine W.sr ?_
  refine WL.op rfl (.assign (.nil (t := tapi_Step))) ?_
  refine WL.op rfl (.assign .bool) ?_
  refine WL.ns ?_
  cases hm
  exact W.ret2 () rfl rfl (.tmp rfl) (.tmp rfl) trivial
 ·have hp3 := not_neg hc2
  rw [if_neg hp3] at hm
  refine W.skip ?_
  refine WN.seq ?_
  refine W.sr ?_
  refine WL.op rfl (.build (s := tapi_Step) (x := (⟨(0 : Int), ([] : Str)⟩ : api_Step)) zapi_Step_f rfl Try.underlying55 (zapi_Step_sz _ Try.underlying55) ze55 rfl) ?_
  refine WL.opR rfl (OpR.buildSlice (n := 1) (ys := [(0, (⟨(0 : Int), ([] : Str)⟩ : api_Step))]) (z := zapi_Step) (xs := [(⟨(0 : Int), ([] : Str)⟩ : api_Step)]) 17 Try.underlying28 el55 ze55 ⟨rfl, (.tmp rfl), trivial⟩ (by simp) (by decide) rfl) (fun k => ?_)
  refine WL.mv rfl rfl ?_
  obtain ⟨out, hv4, hm⟩ := bind_some hm
  refine WL.opR rfl (OpR.appC (key := 17) hv4 Try.underlying28 el55 (.tmp rfl) (.tmp rfl) rfl) (fun k1 => ?_)
  refine WL.gv rfl rfl ?_
  refine WL.op rfl (.assign .bool) ?_
  refine WL.ns ?_
  cases hm
  exact W.ret2 () rfl rfl (Opd.own (.tmp rfl)) (.tmp rfl) trivial

theorem r07_Short_spec (n : Nat) (u : api_Unit) (id : api_Id) (r : (List api_Step) × Bool) (hm : M.r07_Short n u id = some r) : FSpec Try.prog 19 [(tapi_Unit.is u), (tapi_Id.is id)] (Asn.tuple2 ((tL tapi_Step).is r.1) (tB.is r.2)) := by
 unfold M.r07_Short at hm
 refine FSpec.of Try.func19 rfl rfl rfl (fun g0 => ?_)
 refine W.sr ?_
 refine WL.op rfl (.box (.tmp rfl)) ?_
 refine WL.op rfl (.box (.tmp rfl)) ?_
 refine WL.op rfl (.assign (.nil (t := tapi_Step))) ?_
 refine WL.op rfl (.assign .bool) ?_
 refine WL.nr ?_
 refine WL.op rfl (.load ty27 (.tmp rfl)) ?_
 refine WL.op rfl (.load ty23 (.tmp rfl)) ?_
 obtain ⟨whole, hv1, hm⟩ := bind_some hm
 refine WL.op rfl (.call Try.call18 (r07_Whole_spec _ _ _ _ hv1) ⟨(.tmp rfl), (.tmp rfl), trivial⟩) ?_
 refine WL.mv rfl rfl ?_
 refine WL.op rfl (.extract0 (.tmp rfl)) ?_
 refine WL.op rfl (.extract1 (.tmp rfl)) ?_
 refine WL.gv rfl rfl ?_
 refine WL.gv rfl rfl ?_
 refine WL.ns ?_
 refine W.seq ?_
 refine W.sr ?_
 refine WL.mv rfl rfl ?_
 refine WL.op rfl (.notB (.tmp rfl)) ?_
 refine WL.ns ?_
 refine W.cond (.tmp rfl) (fun hc2 => ?_) (fun hc2 => ?_)
 ·have hp3 := not_pos hc2
  rw [if_pos hp3] at hm
  refine W.sr ?_
  refine WL.op rfl (.assign (.nil (t := tapi_Step))) ?_
  refine WL.op rfl (.assign .bool) ?_
  refine WL.ns ?_
  cases hm
  exact W.ret2 () rfl rfl (.tmp rfl) (.tmp rfl) trivial
 ·have hp3 := not_neg hc2
  rw [if_neg hp3] at hm
  refine W.skip ?_
  refine WN.seq ?_
  refine W.seq ?_
  refine W.sr ?_
  refine WL.op rfl (.assign .i64) ?_
  refine WL.ns ?_
  refine W.block ?_
  obtain ⟨s4, hs5, hk6⟩ := bind_some hm
  clear hm
  refine W.loop (fun m (s : Int) => M.r07_Short_loop1 u id whole m s = some s4) (fun s => [(8, ((tI .i64).is s)), (2, (tapi_Unit.ptr u)), (3, (tapi_Id.ptr id)), (6, ((tL tapi_Step).is whole.1))]) (fun s => []) _ (1 : Int) hs5 ⟨Ent.q rfl, Ent.q rfl, Ent.q rfl, Ent.q rfl, trivial⟩ trivial ?_
  rintro n7 n0_ hm
  try dsimp only at hm
  change W _ _ _ _ _ _ _ [(8, ((tI .i64).is n0_)), (2, (tapi_Unit.ptr u)), (3, (tapi_Id.ptr id)), (6, ((tL tapi_Step).is whole.1))] []
  cases n7 with
  | zero => rw [M.r07_Short_loop1.eq_1] at hm; cases hm
  | succ n7 =>
   rw [M.r07_Short_loop1.eq_2] at hm
   refine W.seq ?_
   refine W.sr ?_
   refine WL.mv rfl rfl ?_
   refine WL.mv rfl rfl ?_
   refine WL.op rfl (.lenL Try.underlying28 (.tmp rfl)) ?_
   refine WL.op rfl (.ltI (.tmp rfl) (.tmp rfl)) ?_
   refine WL.ns ?_
   refine W.cond (.tmp rfl) (fun hc8 => ?_) (fun hc8 => ?_)
   ·have hp9 := of_decide_eq_true hc8
    rw [if_pos hp9] at hm
    refine W.skip ?_
    refine WN.seq ?_
    refine W.seq ?_
    refine W.block ?_
    refine W.sr ?_
    refine WL.mv rfl rfl ?_
    refine WL.mv rfl rfl ?_
    refine WL.op rfl (.lenL Try.underlying28 (.tmp rfl)) ?_
    refine WL.mv rfl rfl ?_
    obtain ⟨v, hv10, hm⟩ := bind_some hm
    refine WL.op rfl (.subC hv10 (.tmp rfl) (.tmp rfl)) ?_
    obtain ⟨v1, hv11, hm⟩ := bind_some hm
    refine WL.op rfl (.slcLo hv11 Try.underlying28 Try.sizeOf55 (.tmp rfl) (.tmp rfl)) ?_
    refine WL.gv rfl rfl ?_
    refine WL.nr ?_
    refine WL.op rfl (.load ty27 (.tmp rfl)) ?_
    refine WL.mv rfl rfl ?_
    obtain ⟨find, hv12, hm⟩ := bind_some hm
    refine WL.op rfl (.call Try.call36 (r07_Find_spec _ _ _ _ hv12) ⟨(.tmp rfl), (.tmp rfl), trivial⟩) ?_
    refine WL.gv rfl rfl ?_
    refine WL.ns ?_
    refine W.seq ?_
    rcases bcases (decide ((find.length : Int) = (1 : Int))) with hb13 | hb13
    ·have hp14 := of_decide_eq_true hb13
     rw [if_pos hp14] at hm
     obtain ⟨v2, hv15, hm⟩ := bind_some hm
     refine W.draw [.c ((tL tapi_Id).is find), .c ((tI .i64).is (find.length : Int)), .c (tB.is (decide ((find.length : Int) = (1 : Int)))), .c (tB.is (decide ((find.length : Int) = (1 : Int)))), .c ((tL tapi_Id).is find), .c (tapi_Id.ptr v2), .c (tapi_Id.is v2), .c (tapi_Id.is id), .c (tB.is (decide (v2 = id))), .c (tB.is (decide (v2 = id)))] [([], [10]), ([0], []), ([1], []), ([2], []), ([3], [10]), ([3, 4], []), ([3, 5], []), ([3], [3]), ([3, 6, 7], []), ([3, 8], [])] Try.mixed rfl rfl rfl rfl ⟨.inr (Op1.move (.tmp rfl)), .inr (Op1.lenL Try.underlying31 (.tmp rfl)), .inr (Op1.eqI (.tmp rfl) .i64), .inr (Op1.move (.tmp rfl)), .inr (dr rfl rfl rfl hb13 (Op1.move (.tmp rfl))), .inr (dr rfl rfl rfl hb13 (Op1.idx hv15 Try.underlying31 Try.sizeOf23 (.tmp rfl) .i64)), .inr (dr rfl rfl rfl hb13 (Op1.load ty23 (.tmp rfl))), .inr (dr rfl rfl rfl hb13 (Op1.load ty23 (.tmp rfl))), .inr (dr rfl rfl rfl hb13 (Op1.eqSt (D := 2) rfl (by decide) eg23 eq23 (.tmp rfl) (.tmp rfl))), .inr (Op1.pickT (.tmp rfl) hb13 (.tmp rfl)), trivial⟩ ?_
     refine WN.seq ?_
     refine W.cond (.tmp rfl) (fun hc16 => ?_) (fun hc16 => ?_)
     ·have hp17 := of_decide_eq_true hc16
      rw [if_pos hp17] at hm
      refine W.sr ?_
      refine WL.mv rfl rfl ?_
      refine WL.gv rfl rfl ?_
      refine WL.op rfl (.assign .bool) ?_
      refine WL.ns ?_
      have hr18 := Option.some.inj hm
      clear hm
      subst hr18
      have hm := hk6
      try dsimp only at hm
      cases hm
      exact W.ret2 () rfl rfl (.tmp rfl) (.tmp rfl) trivial
     ·have hp17 := of_decide_eq_false hc16
      rw [if_neg hp17] at hm
      refine W.skip ?_
      refine WN.block ?_
      refine WN.seq ?_
      refine W.region ?_
      refine WL.mv rfl rfl ?_
      refine WL.lenL (s := 6) (.tmp rfl) fun hl19 => ?_
      refine WL.op rfl (.addI1 (.tmp rfl) .i64 hp9 hl19) ?_
      refine WL.gv rfl rfl ?_
      refine WL.nil ?_
      exact WN.again n7 (n0_ + 1) (Nat.lt_succ_self n7) hm ⟨Ent.q rfl, Ent.q rfl, Ent.q rfl, Ent.q rfl, trivial⟩ trivial
    ·have hp14 := of_decide_eq_false hb13
     rw [if_neg hp14] at hm
     refine W.draw [.c ((tL tapi_Id).is find), .c ((tI .i64).is (find.length : Int)), .c (tB.is (decide ((find.length : Int) = (1 : Int)))), .c (tB.is (decide ((find.length : Int) = (1 : Int)))), .c (Asn.eq undef), .c (Asn.eq undef), .c (Asn.eq undef), .c (Asn.eq undef), .c (Asn.eq undef), .c (tB.is false)] [([], [10]), ([0], []), ([1], []), ([2], []), ([3], [10]), ([3, 4], []), ([3, 5], []), ([3], [3]), ([3, 6, 7], []), ([3, 8], [])] Try.mixed rfl rfl rfl rfl ⟨.inr (Op1.move (.tmp rfl)), .inr (Op1.lenL Try.underlying31 (.tmp rfl)), .inr (Op1.eqI (.tmp rfl) .i64), .inr (Op1.move (.tmp rfl)), .inr (dp rfl rfl rfl hb13), .inr (dp rfl rfl rfl hb13), .inr (dp rfl rfl rfl hb13), .inr (dp rfl rfl rfl hb13), .inr (dp rfl rfl rfl hb13), .inr (Op1.pickF (.tmp rfl) hb13 .bool), trivial⟩ ?_
     refine WN.seq ?_
     refine W.condF (.tmp rfl) ?_
     refine W.skip ?_
     refine WN.block ?_
     refine WN.seq ?_
     refine W.region ?_
     refine WL.mv rfl rfl ?_
     refine WL.lenL (s := 6) (.tmp rfl) fun hl20 => ?_
     refine WL.op rfl (.addI1 (.tmp rfl) .i64 hp9 hl20) ?_
     refine WL.gv rfl rfl ?_
     refine WL.nil ?_
     exact WN.again n7 (n0_ + 1) (Nat.lt_succ_self n7) hm ⟨Ent.q rfl, Ent.q rfl, Ent.q rfl, Ent.q rfl, trivial⟩ trivial
   ·have hp9 := of_decide_eq_false hc8
    rw [if_neg hp9] at hm
    refine W.exit rfl ?_
    have hr21 := Option.some.inj hm
    clear hm
    subst hr21
    have hm := hk6
    try dsimp only at hm
    refine WN.seq ?_
    refine W.sr ?_
    refine WL.mv rfl rfl ?_
    refine WL.gv rfl rfl ?_
    refine WL.op rfl (.assign .bool) ?_
    refine WL.ns ?_
    cases hm
    exact W.ret2 () rfl rfl (.tmp rfl) (.tmp rfl) trivial

theorem law41_ResolveFullAddress_spec (n : Nat) (u : api_Unit) (at0_ : api_Id) (r : Bool) (hm : M.law41_ResolveFullAddress n u at0_ = some r) : FSpec Try.prog 5 [(tapi_Unit.is u), (tapi_Id.is at0_)] (tB.is r) := by
 unfold M.law41_ResolveFullAddress at hm
 refine FSpec.of Try.func5 rfl rfl rfl (fun g0 => ?_)
 refine W.sr ?_
 refine WL.op rfl (.box (.tmp rfl)) ?_
 refine WL.op rfl (.box (.tmp rfl)) ?_
 refine WL.op rfl (.assign .bool) ?_
 refine WL.ns ?_
 refine W.seq ?_
 refine W.sr ?_
 obtain ⟨awake, hv1, hm⟩ := bind_some hm
 refine WL.op rfl (.call Try.call7 (law41_awake_spec _ _ hv1) trivial) ?_
 refine WL.op rfl (.notB (.tmp rfl)) ?_
 refine WL.ns ?_
 refine W.cond (.tmp rfl) (fun hc2 => ?_) (fun hc2 => ?_)
 ·have hp3 := not_pos hc2
  rw [if_pos hp3] at hm
  refine W.sr ?_
  refine WL.op rfl (.assign .bool) ?_
  refine WL.ns ?_
  cases hm
  exact W.ret1 () rfl (.tmp rfl) trivial
 ·have hp3 := not_neg hc2
  rw [if_neg hp3] at hm
  refine W.skip ?_
  refine WN.seq ?_
  refine W.seq ?_
  refine W.sr ?_
  refine WL.op rfl (.load ty27 (.tmp rfl)) ?_
  obtain ⟨book, hv4, hm⟩ := bind_some hm
  refine WL.op rfl (.call Try.call8 (law41_book_spec _ _ _ hv4) ⟨(.tmp rfl), trivial⟩) ?_
  refine WL.op rfl (.notB (.tmp rfl)) ?_
  refine WL.ns ?_
  refine W.cond (.tmp rfl) (fun hc5 => ?_) (fun hc5 => ?_)
  ·have hp6 := not_pos hc5
   rw [if_pos hp6] at hm
   refine W.sr ?_
   refine WL.op rfl (.assign .bool) ?_
   refine WL.ns ?_
   cases hm
   exact W.ret1 () rfl (.tmp rfl) trivial
  ·have hp6 := not_neg hc5
   rw [if_neg hp6] at hm
   refine W.skip ?_
   refine WN.seq ?_
   refine W.sr ?_
   refine WL.op rfl (.load ty27 (.tmp rfl)) ?_
   obtain ⟨all, hv7, hm⟩ := bind_some hm
   refine WL.op rfl (.call Try.call17 (r06_All_spec _ _ _ hv7) ⟨(.tmp rfl), trivial⟩) ?_
   refine WL.gv rfl rfl ?_
   refine WL.ns ?_
   refine W.seq ?_
   refine W.sr ?_
   refine WL.op rfl (.assign .i64) ?_
   refine WL.ns ?_
   refine W.block ?_
   obtain ⟨s8, hs9, hk10⟩ := bind_some hm
   clear hm
   refine W.loop (fun m (s : Int) => M.law41_ResolveFullAddress_loop1 u at0_ all m s = some s8) (fun s => [(6, ((tI .i64).is s)), (2, (tapi_Unit.ptr u)), (3, (tapi_Id.ptr at0_)), (5, ((tL tapi_Id).is all))]) (fun s => []) _ (1 : Int) hs9 ⟨Ent.q rfl, Ent.q rfl, Ent.q rfl, Ent.q rfl, trivial⟩ trivial ?_
   rintro n11 i hm
   try dsimp only at hm
   change W _ _ _ _ _ _ _ [(6, ((tI .i64).is i)), (2, (tapi_Unit.ptr u)), (3, (tapi_Id.ptr at0_)), (5, ((tL tapi_Id).is all))] []
   cases n11 with
   | zero => rw [M.law41_ResolveFullAddress_loop1.eq_1] at hm; cases hm
   | succ n11 =>
    rw [M.law41_ResolveFullAddress_loop1.eq_2] at hm
    refine W.seq ?_
    refine W.sr ?_
    refine WL.mv rfl rfl ?_
    refine WL.mv rfl rfl ?_
    refine WL.op rfl (.lenL Try.underlying31 (.tmp rfl)) ?_
    refine WL.op rfl (.ltI (.tmp rfl) (.tmp rfl)) ?_
    refine WL.ns ?_
    refine W.cond (.tmp rfl) (fun hc12 => ?_) (fun hc12 => ?_)
    ·have hp13 := of_decide_eq_true hc12
     rw [if_pos hp13] at hm
     refine W.skip ?_
     refine WN.seq ?_
     refine W.seq ?_
     refine W.block ?_
     refine W.seq ?_
     obtain ⟨v, hv14, hm⟩ := bind_some hm
     obtain ⟨whole, hv15, hm⟩ := bind_some hm
     refine W.weakR (res' := []) trivial ?_
     refine W.drawM [.c (tapi_Unit.is u), .c ((tL tapi_Id).is all), .c ((tI .i64).is i), .c (tapi_Id.ptr v), .c (tapi_Id.is v), .c (Asn.tuple2 ((tL tapi_Step).is whole.1) (tB.is whole.2)), .c (Asn.tuple2 ((tL tapi_Step).is whole.1) (tB.is whole.2)), .c ((tL tapi_Step).is whole.1), .c (tB.is whole.2), .c ((tL tapi_Step).is whole.1), .c (tB.is whole.2)] [([], [2]), ([], [5]), ([], [6]), ([1, 2], []), ([3], []), ([0, 4], []), ([5], []), ([6], []), ([6], []), ([7], []), ([8], [])] [] [[], [], [], [], [], [], [], [], [], [], []] (fun m cv => match m with  | _ => []) (fun _ => none) Try.mixed rfl rfl rfl rfl rfl ⟨fun _ _ _ _ => rfl, ⟨fun _ _ _ _ => rfl, ⟨fun _ _ _ _ => rfl, ⟨fun _ _ _ _ => rfl, ⟨fun _ _ _ _ => rfl, ⟨fun _ _ _ _ => rfl, ⟨fun _ _ _ _ => rfl, ⟨fun _ _ _ _ => rfl, ⟨fun _ _ _ _ => rfl, ⟨fun _ _ _ _ => rfl, ⟨fun _ _ _ _ => rfl, trivial⟩⟩⟩⟩⟩⟩⟩⟩⟩⟩⟩ rfl ⟨mo fun cv => Op1.load ty27 (.tmp rfl), ⟨mo fun cv => Op1.move (.tmp rfl), ⟨mo fun cv => Op1.move (.tmp rfl), ⟨mo fun cv => Op1.idx hv14 Try.underlying31 Try.sizeOf23 (.tmp rfl) (.tmp rfl), ⟨mo fun cv => Op1.load ty23 (.tmp rfl), ⟨mo fun cv => Op1.call Try.call18 (r07_Whole_spec _ _ _ _ hv15) ⟨(.tmp rfl), (.tmp rfl), trivial⟩, ⟨mo fun cv => Op1.move (.tmp rfl), ⟨mo fun cv => Op1.extract0 (.tmp rfl), ⟨mo fun cv => Op1.extract1 (.tmp rfl), ⟨mo fun cv => Op1.assign (.tmp rfl), ⟨mo fun cv => Op1.assign (.tmp rfl), trivial⟩⟩⟩⟩⟩⟩⟩⟩⟩⟩⟩ trivial (fun cv => ?_)
     refine WN.seq ?_
     refine W.seq ?_
     obtain ⟨v1, hv16, hm⟩ := bind_some hm
     obtain ⟨short, hv17, hm⟩ := bind_some hm
     refine W.weakR (res' := []) trivial ?_
     refine W.drawM [.c (tapi_Unit.is u), .c ((tL tapi_Id).is all), .c ((tI .i64).is i), .c (tapi_Id.ptr v1), .c (tapi_Id.is v1), .c (Asn.tuple2 ((tL tapi_Step).is short.1) (tB.is short.2)), .c (Asn.tuple2 ((tL tapi_Step).is short.1) (tB.is short.2)), .c ((tL tapi_Step).is short.1), .c (tB.is short.2), .c ((tL tapi_Step).is short.1), .c (tB.is short.2)] [([], [2]), ([], [5]), ([], [6]), ([1, 2], []), ([3], []), ([0, 4], []), ([5], []), ([6], []), ([6], []), ([7], []), ([8], [])] [] [[], [], [], [], [], [], [], [], [], [], []] (fun m cv1 => match m with  | _ => []) (fun _ => none) Try.mixed rfl rfl rfl rfl rfl ⟨fun _ _ _ _ => rfl, ⟨fun _ _ _ _ => rfl, ⟨fun _ _ _ _ => rfl, ⟨fun _ _ _ _ => rfl, ⟨fun _ _ _ _ => rfl, ⟨fun _ _ _ _ => rfl, ⟨fun _ _ _ _ => rfl, ⟨fun _ _ _ _ => rfl, ⟨fun _ _ _ _ => rfl, ⟨fun _ _ _ _ => rfl, ⟨fun _ _ _ _ => rfl, trivial⟩⟩⟩⟩⟩⟩⟩⟩⟩⟩⟩ rfl ⟨mo fun cv1 => Op1.load ty27 (.tmp rfl), ⟨mo fun cv1 => Op1.move (.tmp rfl), ⟨mo fun cv1 => Op1.move (.tmp rfl), ⟨mo fun cv1 => Op1.idx hv16 Try.underlying31 Try.sizeOf23 (.tmp rfl) (.tmp rfl), ⟨mo fun cv1 => Op1.load ty23 (.tmp rfl), ⟨mo fun cv1 => Op1.call Try.call19 (r07_Short_spec _ _ _ _ hv17) ⟨(.tmp rfl), (.tmp rfl), trivial⟩, ⟨mo fun cv1 => Op1.move (.tmp rfl), ⟨mo fun cv1 => Op1.extract0 (.tmp rfl), ⟨mo fun cv1 => Op1.extract1 (.tmp rfl), ⟨mo fun cv1 => Op1.assign (.tmp rfl), ⟨mo fun cv1 => Op1.assign (.tmp rfl), trivial⟩⟩⟩⟩⟩⟩⟩⟩⟩⟩⟩ trivial (fun cv1 => ?_)
     refine WN.seq ?_
     refine W.sr ?_
     refine WL.op rfl (.load ty27 (.tmp rfl)) ?_
     refine WL.op rfl (.load ty23 (.tmp rfl)) ?_
     refine WL.mv rfl rfl ?_
     refine WL.op rfl (.build (s := tapi_Cite) (x := (⟨(0 : Int), whole.1, ([] : Str), (0 : Int), (0 : Int)⟩ : api_Cite)) zapi_Cite_f rfl Try.underlying30 (zapi_Cite_sz _ Try.underlying30) ze30 ⟨_, (tL tapi_Step), whole.1, _, _, rfl, Try.sizeOf28, (.tmp rfl), sapi_Cite_1, rfl⟩) ?_
     obtain ⟨resolv, hv18, hm⟩ := bind_some hm
     refine WL.op rfl (.call Try.call10 (resolve_Resolve_spec _ _ _ _ _ _ hv18) ⟨(.tmp rfl), (.tmp rfl), (.tmp rfl), (.nil (t := tapi_Id)), trivial⟩) ?_
     refine WL.mv rfl rfl ?_
     refine WL.op rfl (.extract0 (.tmp rfl)) ?_
     refine WL.op rfl (.extract1 (.tmp rfl)) ?_
     refine WL.gv rfl rfl ?_
     refine WL.gv rfl rfl ?_
     refine WL.nr ?_
     refine WL.op rfl (.load ty27 (.tmp rfl)) ?_
     refine WL.op rfl (.load ty23 (.tmp rfl)) ?_
     refine WL.mv rfl rfl ?_
     refine WL.op rfl (.build (s := tapi_Cite) (x := (⟨(0 : Int), short.1, ([] : Str), (0 : Int), (0 : Int)⟩ : api_Cite)) zapi_Cite_f rfl Try.underlying30 (zapi_Cite_sz _ Try.underlying30) ze30 ⟨_, (tL tapi_Step), short.1, _, _, rfl, Try.sizeOf28, (.tmp rfl), sapi_Cite_1, rfl⟩) ?_
     obtain ⟨resolv1, hv19, hm⟩ := bind_some hm
     refine WL.op rfl (.call Try.call10 (resolve_Resolve_spec _ _ _ _ _ _ hv19) ⟨(.tmp rfl), (.tmp rfl), (.tmp rfl), (.nil (t := tapi_Id)), trivial⟩) ?_
     refine WL.mv rfl rfl ?_
     refine WL.op rfl (.extract0 (.tmp rfl)) ?_
     refine WL.op rfl (.extract1 (.tmp rfl)) ?_
     refine WL.gv rfl rfl ?_
     refine WL.gv rfl rfl ?_
     refine WL.ns ?_
     refine W.seq ?_
     rcases bcases (decide (resolv.2 ≠ (0 : Int))) with hb20 | hb20
     ·have hp21 := of_decide_eq_true hb20
      rw [if_pos hp21] at hm
      refine W.draw [.c ((tI .i64).is resolv.2), .c (tB.is (decide (resolv.2 ≠ (0 : Int)))), .c (tB.is (decide (resolv.2 ≠ (0 : Int)))), .c (Asn.eq undef), .c (Asn.eq undef), .c (Asn.eq undef), .c (tB.is true), .c (tB.is true), .c (Asn.eq undef), .c (Asn.eq undef), .c (Asn.eq undef), .c (Asn.eq undef), .c (Asn.eq undef), .c (Asn.eq undef), .c (Asn.eq undef), .c (Asn.eq undef), .c (tB.is true), .c (tB.is true), .c (Asn.eq undef), .c (Asn.eq undef), .c (tB.is true), .c (tB.is true), .c (Asn.eq undef), .c (Asn.eq undef), .c (Asn.eq undef), .c (tB.is true), .c (tB.is true), .c (Asn.eq undef), .c (Asn.eq undef), .c (Asn.eq undef), .c (Asn.eq undef), .c (Asn.eq undef), .c (Asn.eq undef), .c (Asn.eq undef), .c (Asn.eq undef), .c (tB.is true)] [([], [12]), ([0], []), ([1], []), ([2], [11]), ([2, 3], []), ([2, 4], []), ([2, 5], []), ([6], []), ([7], [11]), ([7, 8], []), ([7, 9], []), ([7], [5]), ([7], [6]), ([7, 11, 12], []), ([7, 13], []), ([7, 10, 14], []), ([7, 15], []), ([16], []), ([17], [14]), ([17, 18], []), ([17, 19], []), ([20], []), ([21], [13]), ([21, 22], []), ([21, 23], []), ([21, 24], []), ([25], []), ([26], [13]), ([26, 27], []), ([26, 28], []), ([26], [5]), ([26], [6]), ([26, 30, 31], []), ([26, 32], []), ([26, 29, 33], []), ([26, 34], [])] Try.mixed rfl rfl rfl rfl (by exact ⟨.inr (Op1.move (.tmp rfl)), .inr (Op1.neI (.tmp rfl) .i64), .inr (Op1.move (.tmp rfl)), .inr (dp rfl rfl rfl hb20), .inr (dp rfl rfl rfl hb20), .inr (dp rfl rfl rfl hb20), .inr (Op1.pickT (.tmp rfl) hb20 .bool), .inr (Op1.move (.tmp rfl)), .inr (dp rfl rfl rfl rfl), .inr (dp rfl rfl rfl rfl), .inr (dp rfl rfl rfl rfl), .inr (dp rfl rfl rfl rfl), .inr (dp rfl rfl rfl rfl), .inr (dp rfl rfl rfl rfl), .inr (dp rfl rfl rfl rfl), .inr (dp rfl rfl rfl rfl), .inr (Op1.pickT (.tmp rfl) rfl .bool), .inr (Op1.move (.tmp rfl)), .inr (dp rfl rfl rfl rfl), .inr (dp rfl rfl rfl rfl), .inr (Op1.pickT (.tmp rfl) rfl .bool), .inr (Op1.move (.tmp rfl)), .inr (dp rfl rfl rfl rfl), .inr (dp rfl rfl rfl rfl), .inr (dp rfl rfl rfl rfl), .inr (Op1.pickT (.tmp rfl) rfl .bool), .inr (Op1.move (.tmp rfl)), .inr (dp rfl rfl rfl rfl), .inr (dp rfl rfl rfl rfl), .inr (dp rfl rfl rfl rfl), .inr (dp rfl rfl rfl rfl), .inr (dp rfl rfl rfl rfl), .inr (dp rfl rfl rfl rfl), .inr (dp rfl rfl rfl rfl), .inr (dp rfl rfl rfl rfl), .inr (Op1.pickT (.tmp rfl) rfl .bool), trivial⟩) ?_
      refine WN.seq ?_
      refine W.condT (.tmp rfl) ?_
      refine W.sr ?_
      refine WL.op rfl (.assign .bool) ?_
      refine WL.ns ?_
      have hr22 := Option.some.inj hm
      clear hm
      subst hr22
      have hm := hk10
      try dsimp only at hm
      cases hm
      exact W.ret1 () rfl (.tmp rfl) trivial
     ·have hp21 := of_decide_eq_false hb20
      rw [if_neg hp21] at hm
      rcases bcases (decide ((resolv.1.length : Int) ≠ (1 : Int))) with hb23 | hb23
      ·have hp24 := of_decide_eq_true hb23
       rw [if_pos hp24] at hm
       refine W.draw [.c ((tI .i64).is resolv.2), .c (tB.is (decide (resolv.2 ≠ (0 : Int)))), .c (tB.is (decide (resolv.2 ≠ (0 : Int)))), .c ((tL tapi_Id).is resolv.1), .c ((tI .i64).is (resolv.1.length : Int)), .c (tB.is (decide ((resolv.1.length : Int) ≠ (1 : Int)))), .c (tB.is (decide ((resolv.1.length : Int) ≠ (1 : Int)))), .c (tB.is (decide ((resolv.1.length : Int) ≠ (1 : Int)))), .c (Asn.eq undef), .c (Asn.eq undef), .c (Asn.eq undef), .c (Asn.eq undef), .c (Asn.eq undef), .c (Asn.eq undef), .c (Asn.eq undef), .c (Asn.eq undef), .c (tB.is true), .c (tB.is true), .c (Asn.eq undef), .c (Asn.eq undef), .c (tB.is true), .c (tB.is true), .c (Asn.eq undef), .c (Asn.eq undef), .c (Asn.eq undef), .c (tB.is true), .c (tB.is true), .c (Asn.eq undef), .c (Asn.eq undef), .c (Asn.eq undef), .c (Asn.eq undef), .c (Asn.eq undef), .c (Asn.eq undef), .c (Asn.eq undef), .c (Asn.eq undef), .c (tB.is true)] [([], [12]), ([0], []), ([1], []), ([2], [11]), ([2, 3], []), ([2, 4], []), ([2, 5], []), ([6], []), ([7], [11]), ([7, 8], []), ([7, 9], []), ([7], [5]), ([7], [6]), ([7, 11, 12], []), ([7, 13], []), ([7, 10, 14], []), ([7, 15], []), ([16], []), ([17], [14]), ([17, 18], []), ([17, 19], []), ([20], []), ([21], [13]), ([21, 22], []), ([21, 23], []), ([21, 24], []), ([25], []), ([26], [13]), ([26, 27], []), ([26, 28], []), ([26], [5]), ([26], [6]), ([26, 30, 31], []), ([26, 32], []), ([26, 29, 33], []), ([26, 34], [])] Try.mixed rfl rfl rfl rfl (by exact ⟨.inr (Op1.move (.tmp rfl)), .inr (Op1.neI (.tmp rfl) .i64), .inr (Op1.move (.tmp rfl)), .inr (dr rfl rfl rfl hb20 (Op1.move (.tmp rfl))), .inr (dr rfl rfl rfl hb20 (Op1.lenL Try.underlying31 (.tmp rfl))), .inr (dr rfl rfl rfl hb20 (Op1.neI (.tmp rfl) .i64)), .inr (Op1.pickF (.tmp rfl) hb20 (.tmp rfl)), .inr (Op1.move (.tmp rfl)), .inr (dp rfl rfl rfl hb23), .inr (dp rfl rfl rfl hb23), .inr (dp rfl rfl rfl hb23), .inr (dp rfl rfl rfl hb23), .inr (dp rfl rfl rfl hb23), .inr (dp rfl rfl rfl hb23), .inr (dp rfl rfl rfl hb23), .inr (dp rfl rfl rfl hb23), .inr (Op1.pickT (.tmp rfl) hb23 .bool), .inr (Op1.move (.tmp rfl)), .inr (dp rfl rfl rfl rfl), .inr (dp rfl rfl rfl rfl), .inr (Op1.pickT (.tmp rfl) rfl .bool), .inr (Op1.move (.tmp rfl)), .inr (dp rfl rfl rfl rfl), .inr (dp rfl rfl rfl rfl), .inr (dp rfl rfl rfl rfl), .inr (Op1.pickT (.tmp rfl) rfl .bool), .inr (Op1.move (.tmp rfl)), .inr (dp rfl rfl rfl rfl), .inr (dp rfl rfl rfl rfl), .inr (dp rfl rfl rfl rfl), .inr (dp rfl rfl rfl rfl), .inr (dp rfl rfl rfl rfl), .inr (dp rfl rfl rfl rfl), .inr (dp rfl rfl rfl rfl), .inr (dp rfl rfl rfl rfl), .inr (Op1.pickT (.tmp rfl) rfl .bool), trivial⟩) ?_
       refine WN.seq ?_
       refine W.condT (.tmp rfl) ?_
       refine W.sr ?_
       refine WL.op rfl (.assign .bool) ?_
       refine WL.ns ?_
       have hr25 := Option.some.inj hm
       clear hm
       subst hr25
       have hm := hk10
       try dsimp only at hm
       cases hm
       exact W.ret1 () rfl (.tmp rfl) trivial
      ·have hp24 := of_decide_eq_false hb23
       rw [if_neg hp24] at hm
       obtain ⟨v2, hv26, hm⟩ := bind_some hm
       obtain ⟨v3, hv27, hm⟩ := bind_some hm
       rcases bcases (decide (v2 ≠ v3)) with hb28 | hb28
       ·have hp29 := of_decide_eq_true hb28
        rw [if_pos hp29] at hm
        refine W.draw [.c ((tI .i64).is resolv.2), .c (tB.is (decide (resolv.2 ≠ (0 : Int)))), .c (tB.is (decide (resolv.2 ≠ (0 : Int)))), .c ((tL tapi_Id).is resolv.1), .c ((tI .i64).is (resolv.1.length : Int)), .c (tB.is (decide ((resolv.1.length : Int) ≠ (1 : Int)))), .c (tB.is (decide ((resolv.1.length : Int) ≠ (1 : Int)))), .c (tB.is (decide ((resolv.1.length : Int) ≠ (1 : Int)))), .c ((tL tapi_Id).is resolv.1), .c (tapi_Id.ptr v2), .c (tapi_Id.is v2), .c ((tL tapi_Id).is all), .c ((tI .i64).is i), .c (tapi_Id.ptr v3), .c (tapi_Id.is v3), .c (tB.is (decide (v2 ≠ v3))), .c (tB.is (decide (v2 ≠ v3))), .c (tB.is (decide (v2 ≠ v3))), .c (Asn.eq undef), .c (Asn.eq undef), .c (tB.is true), .c (tB.is true), .c (Asn.eq undef), .c (Asn.eq undef), .c (Asn.eq undef), .c (tB.is true), .c (tB.is true), .c (Asn.eq undef), .c (Asn.eq undef), .c (Asn.eq undef), .c (Asn.eq undef), .c (Asn.eq undef), .c (Asn.eq undef), .c (Asn.eq undef), .c (Asn.eq undef), .c (tB.is true)] [([], [12]), ([0], []), ([1], []), ([2], [11]), ([2, 3], []), ([2, 4], []), ([2, 5], []), ([6], []), ([7], [11]), ([7, 8], []), ([7, 9], []), ([7], [5]), ([7], [6]), ([7, 11, 12], []), ([7, 13], []), ([7, 10, 14], []), ([7, 15], []), ([16], []), ([17], [14]), ([17, 18], []), ([17, 19], []), ([20], []), ([21], [13]), ([21, 22], []), ([21, 23], []), ([21, 24], []), ([25], []), ([26], [13]), ([26, 27], []), ([26, 28], []), ([26], [5]), ([26], [6]), ([26, 30, 31], []), ([26, 32], []), ([26, 29, 33], []), ([26, 34], [])] Try.mixed rfl rfl rfl rfl (by exact ⟨.inr (Op1.move (.tmp rfl)), .inr (Op1.neI (.tmp rfl) .i64), .inr (Op1.move (.tmp rfl)), .inr (dr rfl rfl rfl hb20 (Op1.move (.tmp rfl))), .inr (dr rfl rfl rfl hb20 (Op1.lenL Try.underlying31 (.tmp rfl))), .inr (dr rfl rfl rfl hb20 (Op1.neI (.tmp rfl) .i64)), .inr (Op1.pickF (.tmp rfl) hb20 (.tmp rfl)), .inr (Op1.move (.tmp rfl)), .inr (dr rfl rfl rfl hb23 (Op1.move (.tmp rfl))), .inr (dr rfl rfl rfl hb23 (Op1.idx hv26 Try.underlying31 Try.sizeOf23 (.tmp rfl) .i64)), .inr (dr rfl rfl rfl hb23 (Op1.load ty23 (.tmp rfl))), .inr (dr rfl rfl rfl hb23 (Op1.move (.tmp rfl))), .inr (dr rfl rfl rfl hb23 (Op1.move (.tmp rfl))), .inr (dr rfl rfl rfl hb23 (Op1.idx hv27 Try.underlying31 Try.sizeOf23 (.tmp rfl) (.tmp rfl))), .inr (dr rfl rfl rfl hb23 (Op1.load ty23 (.tmp rfl))), .inr (dr rfl rfl rfl hb23 (Op1.neSt (D := 2) rfl (by decide) eg23 eq23 (.tmp rfl) (.tmp rfl))), .inr (Op1.pickF (.tmp rfl) hb23 (.tmp rfl)), .inr (Op1.move (.tmp rfl)), .inr (dp rfl rfl rfl hb28), .inr (dp rfl rfl rfl hb28), .inr (Op1.pickT (.tmp rfl) hb28 .bool), .inr (Op1.move (.tmp rfl)), .inr (dp rfl rfl rfl rfl), .inr (dp rfl rfl rfl rfl), .inr (dp rfl rfl rfl rfl), .inr (Op1.pickT (.tmp rfl) rfl .bool), .inr (Op1.move (.tmp rfl)), .inr (dp rfl rfl rfl rfl), .inr (dp rfl rfl rfl rfl), .inr (dp rfl rfl rfl rfl), .inr (dp rfl rfl rfl rfl), .inr (dp rfl rfl rfl rfl), .inr (dp rfl rfl rfl rfl), .inr (dp rfl rfl rfl rfl), .inr (dp rfl rfl rfl rfl), .inr (Op1.pickT (.tmp rfl) rfl .bool), trivial⟩) ?_
        refine WN.seq ?_
        refine W.condT (.tmp rfl) ?_
        refine W.sr ?_
        refine WL.op rfl (.assign .bool) ?_
        refine WL.ns ?_
        have hr30 := Option.some.inj hm
        clear hm
        subst hr30
        have hm := hk10
        try dsimp only at hm
        cases hm
        exact W.ret1 () rfl (.tmp rfl) trivial
       ·have hp29 := of_decide_eq_false hb28
        rw [if_neg hp29] at hm
        rcases bcases (decide (resolv1.2 ≠ (0 : Int))) with hb31 | hb31
        ·have hp32 := of_decide_eq_true hb31
         rw [if_pos hp32] at hm
         refine W.draw [.c ((tI .i64).is resolv.2), .c (tB.is (decide (resolv.2 ≠ (0 : Int)))), .c (tB.is (decide (resolv.2 ≠ (0 : Int)))), .c ((tL tapi_Id).is resolv.1), .c ((tI .i64).is (resolv.1.length : Int)), .c (tB.is (decide ((resolv.1.length : Int) ≠ (1 : Int)))), .c (tB.is (decide ((resolv.1.length : Int) ≠ (1 : Int)))), .c (tB.is (decide ((resolv.1.length : Int) ≠ (1 : Int)))), .c ((tL tapi_Id).is resolv.1), .c (tapi_Id.ptr v2), .c (tapi_Id.is v2), .c ((tL tapi_Id).is all), .c ((tI .i64).is i), .c (tapi_Id.ptr v3), .c (tapi_Id.is v3), .c (tB.is (decide (v2 ≠ v3))), .c (tB.is (decide (v2 ≠ v3))), .c (tB.is (decide (v2 ≠ v3))), .c ((tI .i64).is resolv1.2), .c (tB.is (decide (resolv1.2 ≠ (0 : Int)))), .c (tB.is (decide (resolv1.2 ≠ (0 : Int)))), .c (tB.is (decide (resolv1.2 ≠ (0 : Int)))), .c (Asn.eq undef), .c (Asn.eq undef), .c (Asn.eq undef), .c (tB.is true), .c (tB.is true), .c (Asn.eq undef), .c (Asn.eq undef), .c (Asn.eq undef), .c (Asn.eq undef), .c (Asn.eq undef), .c (Asn.eq undef), .c (Asn.eq undef), .c (Asn.eq undef), .c (tB.is true)] [([], [12]), ([0], []), ([1], []), ([2], [11]), ([2, 3], []), ([2, 4], []), ([2, 5], []), ([6], []), ([7], [11]), ([7, 8], []), ([7, 9], []), ([7], [5]), ([7], [6]), ([7, 11, 12], []), ([7, 13], []), ([7, 10, 14], []), ([7, 15], []), ([16], []), ([17], [14]), ([17, 18], []), ([17, 19], []), ([20], []), ([21], [13]), ([21, 22], []), ([21, 23], []), ([21, 24], []), ([25], []), ([26], [13]), ([26, 27], []), ([26, 28], []), ([26], [5]), ([26], [6]), ([26, 30, 31], []), ([26, 32], []), ([26, 29, 33], []), ([26, 34], [])] Try.mixed rfl rfl rfl rfl (by exact ⟨.inr (Op1.move (.tmp rfl)), .inr (Op1.neI (.tmp rfl) .i64), .inr (Op1.move (.tmp rfl)), .inr (dr rfl rfl rfl hb20 (Op1.move (.tmp rfl))), .inr (dr rfl rfl rfl hb20 (Op1.lenL Try.underlying31 (.tmp rfl))), .inr (dr rfl rfl rfl hb20 (Op1.neI (.tmp rfl) .i64)), .inr (Op1.pickF (.tmp rfl) hb20 (.tmp rfl)), .inr (Op1.move (.tmp rfl)), .inr (dr rfl rfl rfl hb23 (Op1.move (.tmp rfl))), .inr (dr rfl rfl rfl hb23 (Op1.idx hv26 Try.underlying31 Try.sizeOf23 (.tmp rfl) .i64)), .inr (dr rfl rfl rfl hb23 (Op1.load ty23 (.tmp rfl))), .inr (dr rfl rfl rfl hb23 (Op1.move (.tmp rfl))), .inr (dr rfl rfl rfl hb23 (Op1.move (.tmp rfl))), .inr (dr rfl rfl rfl hb23 (Op1.idx hv27 Try.underlying31 Try.sizeOf23 (.tmp rfl) (.tmp rfl))), .inr (dr rfl rfl rfl hb23 (Op1.load ty23 (.tmp rfl))), .inr (dr rfl rfl rfl hb23 (Op1.neSt (D := 2) rfl (by decide) eg23 eq23 (.tmp rfl) (.tmp rfl))), .inr (Op1.pickF (.tmp rfl) hb23 (.tmp rfl)), .inr (Op1.move (.tmp rfl)), .inr (dr rfl rfl rfl hb28 (Op1.move (.tmp rfl))), .inr (dr rfl rfl rfl hb28 (Op1.neI (.tmp rfl) .i64)), .inr (Op1.pickF (.tmp rfl) hb28 (.tmp rfl)), .inr (Op1.move (.tmp rfl)), .inr (dp rfl rfl rfl hb31), .inr (dp rfl rfl rfl hb31), .inr (dp rfl rfl rfl hb31), .inr (Op1.pickT (.tmp rfl) hb31 .bool), .inr (Op1.move (.tmp rfl)), .inr (dp rfl rfl rfl rfl), .inr (dp rfl rfl rfl rfl), .inr (dp rfl rfl rfl rfl), .inr (dp rfl rfl rfl rfl), .inr (dp rfl rfl rfl rfl), .inr (dp rfl rfl rfl rfl), .inr (dp rfl rfl rfl rfl), .inr (dp rfl rfl rfl rfl), .inr (Op1.pickT (.tmp rfl) rfl .bool), trivial⟩) ?_
         refine WN.seq ?_
         refine W.condT (.tmp rfl) ?_
         refine W.sr ?_
         refine WL.op rfl (.assign .bool) ?_
         refine WL.ns ?_
         have hr33 := Option.some.inj hm
         clear hm
         subst hr33
         have hm := hk10
         try dsimp only at hm
         cases hm
         exact W.ret1 () rfl (.tmp rfl) trivial
        ·have hp32 := of_decide_eq_false hb31
         rw [if_neg hp32] at hm
         rcases bcases (decide ((resolv1.1.length : Int) ≠ (1 : Int))) with hb34 | hb34
         ·have hp35 := of_decide_eq_true hb34
          rw [if_pos hp35] at hm
          refine W.draw [.c ((tI .i64).is resolv.2), .c (tB.is (decide (resolv.2 ≠ (0 : Int)))), .c (tB.is (decide (resolv.2 ≠ (0 : Int)))), .c ((tL tapi_Id).is resolv.1), .c ((tI .i64).is (resolv.1.length : Int)), .c (tB.is (decide ((resolv.1.length : Int) ≠ (1 : Int)))), .c (tB.is (decide ((resolv.1.length : Int) ≠ (1 : Int)))), .c (tB.is (decide ((resolv.1.length : Int) ≠ (1 : Int)))), .c ((tL tapi_Id).is resolv.1), .c (tapi_Id.ptr v2), .c (tapi_Id.is v2), .c ((tL tapi_Id).is all), .c ((tI .i64).is i), .c (tapi_Id.ptr v3), .c (tapi_Id.is v3), .c (tB.is (decide (v2 ≠ v3))), .c (tB.is (decide (v2 ≠ v3))), .c (tB.is (decide (v2 ≠ v3))), .c ((tI .i64).is resolv1.2), .c (tB.is (decide (resolv1.2 ≠ (0 : Int)))), .c (tB.is (decide (resolv1.2 ≠ (0 : Int)))), .c (tB.is (decide (resolv1.2 ≠ (0 : Int)))), .c ((tL tapi_Id).is resolv1.1), .c ((tI .i64).is (resolv1.1.length : Int)), .c (tB.is (decide ((resolv1.1.length : Int) ≠ (1 : Int)))), .c (tB.is (decide ((resolv1.1.length : Int) ≠ (1 : Int)))), .c (tB.is (decide ((resolv1.1.length : Int) ≠ (1 : Int)))), .c (Asn.eq undef), .c (Asn.eq undef), .c (Asn.eq undef), .c (Asn.eq undef), .c (Asn.eq undef), .c (Asn.eq undef), .c (Asn.eq undef), .c (Asn.eq undef), .c (tB.is true)] [([], [12]), ([0], []), ([1], []), ([2], [11]), ([2, 3], []), ([2, 4], []), ([2, 5], []), ([6], []), ([7], [11]), ([7, 8], []), ([7, 9], []), ([7], [5]), ([7], [6]), ([7, 11, 12], []), ([7, 13], []), ([7, 10, 14], []), ([7, 15], []), ([16], []), ([17], [14]), ([17, 18], []), ([17, 19], []), ([20], []), ([21], [13]), ([21, 22], []), ([21, 23], []), ([21, 24], []), ([25], []), ([26], [13]), ([26, 27], []), ([26, 28], []), ([26], [5]), ([26], [6]), ([26, 30, 31], []), ([26, 32], []), ([26, 29, 33], []), ([26, 34], [])] Try.mixed rfl rfl rfl rfl (by exact ⟨.inr (Op1.move (.tmp rfl)), .inr (Op1.neI (.tmp rfl) .i64), .inr (Op1.move (.tmp rfl)), .inr (dr rfl rfl rfl hb20 (Op1.move (.tmp rfl))), .inr (dr rfl rfl rfl hb20 (Op1.lenL Try.underlying31 (.tmp rfl))), .inr (dr rfl rfl rfl hb20 (Op1.neI (.tmp rfl) .i64)), .inr (Op1.pickF (.tmp rfl) hb20 (.tmp rfl)), .inr (Op1.move (.tmp rfl)), .inr (dr rfl rfl rfl hb23 (Op1.move (.tmp rfl))), .inr (dr rfl rfl rfl hb23 (Op1.idx hv26 Try.underlying31 Try.sizeOf23 (.tmp rfl) .i64)), .inr (dr rfl rfl rfl hb23 (Op1.load ty23 (.tmp rfl))), .inr (dr rfl rfl rfl hb23 (Op1.move (.tmp rfl))), .inr (dr rfl rfl rfl hb23 (Op1.move (.tmp rfl))), .inr (dr rfl rfl rfl hb23 (Op1.idx hv27 Try.underlying31 Try.sizeOf23 (.tmp rfl) (.tmp rfl))), .inr (dr rfl rfl rfl hb23 (Op1.load ty23 (.tmp rfl))), .inr (dr rfl rfl rfl hb23 (Op1.neSt (D := 2) rfl (by decide) eg23 eq23 (.tmp rfl) (.tmp rfl))), .inr (Op1.pickF (.tmp rfl) hb23 (.tmp rfl)), .inr (Op1.move (.tmp rfl)), .inr (dr rfl rfl rfl hb28 (Op1.move (.tmp rfl))), .inr (dr rfl rfl rfl hb28 (Op1.neI (.tmp rfl) .i64)), .inr (Op1.pickF (.tmp rfl) hb28 (.tmp rfl)), .inr (Op1.move (.tmp rfl)), .inr (dr rfl rfl rfl hb31 (Op1.move (.tmp rfl))), .inr (dr rfl rfl rfl hb31 (Op1.lenL Try.underlying31 (.tmp rfl))), .inr (dr rfl rfl rfl hb31 (Op1.neI (.tmp rfl) .i64)), .inr (Op1.pickF (.tmp rfl) hb31 (.tmp rfl)), .inr (Op1.move (.tmp rfl)), .inr (dp rfl rfl rfl hb34), .inr (dp rfl rfl rfl hb34), .inr (dp rfl rfl rfl hb34), .inr (dp rfl rfl rfl hb34), .inr (dp rfl rfl rfl hb34), .inr (dp rfl rfl rfl hb34), .inr (dp rfl rfl rfl hb34), .inr (dp rfl rfl rfl hb34), .inr (Op1.pickT (.tmp rfl) hb34 .bool), trivial⟩) ?_
          refine WN.seq ?_
          refine W.condT (.tmp rfl) ?_
          refine W.sr ?_
          refine WL.op rfl (.assign .bool) ?_
          refine WL.ns ?_
          have hr36 := Option.some.inj hm
          clear hm
          subst hr36
          have hm := hk10
          try dsimp only at hm
          cases hm
          exact W.ret1 () rfl (.tmp rfl) trivial
         ·have hp35 := of_decide_eq_false hb34
          rw [if_neg hp35] at hm
          obtain ⟨v4, hv37, hm⟩ := bind_some hm
          obtain ⟨v5, hv38, hm⟩ := bind_some hm
          refine W.draw [.c ((tI .i64).is resolv.2), .c (tB.is (decide (resolv.2 ≠ (0 : Int)))), .c (tB.is (decide (resolv.2 ≠ (0 : Int)))), .c ((tL tapi_Id).is resolv.1), .c ((tI .i64).is (resolv.1.length : Int)), .c (tB.is (decide ((resolv.1.length : Int) ≠ (1 : Int)))), .c (tB.is (decide ((resolv.1.length : Int) ≠ (1 : Int)))), .c (tB.is (decide ((resolv.1.length : Int) ≠ (1 : Int)))), .c ((tL tapi_Id).is resolv.1), .c (tapi_Id.ptr v2), .c (tapi_Id.is v2), .c ((tL tapi_Id).is all), .c ((tI .i64).is i), .c (tapi_Id.ptr v3), .c (tapi_Id.is v3), .c (tB.is (decide (v2 ≠ v3))), .c (tB.is (decide (v2 ≠ v3))), .c (tB.is (decide (v2 ≠ v3))), .c ((tI .i64).is resolv1.2), .c (tB.is (decide (resolv1.2 ≠ (0 : Int)))), .c (tB.is (decide (resolv1.2 ≠ (0 : Int)))), .c (tB.is (decide (resolv1.2 ≠ (0 : Int)))), .c ((tL tapi_Id).is resolv1.1), .c ((tI .i64).is (resolv1.1.length : Int)), .c (tB.is (decide ((resolv1.1.length : Int) ≠ (1 : Int)))), .c (tB.is (decide ((resolv1.1.length : Int) ≠ (1 : Int)))), .c (tB.is (decide ((resolv1.1.length : Int) ≠ (1 : Int)))), .c ((tL tapi_Id).is resolv1.1), .c (tapi_Id.ptr v4), .c (tapi_Id.is v4), .c ((tL tapi_Id).is all), .c ((tI .i64).is i), .c (tapi_Id.ptr v5), .c (tapi_Id.is v5), .c (tB.is (decide (v4 ≠ v5))), .c (tB.is (decide (v4 ≠ v5)))] [([], [12]), ([0], []), ([1], []), ([2], [11]), ([2, 3], []), ([2, 4], []), ([2, 5], []), ([6], []), ([7], [11]), ([7, 8], []), ([7, 9], []), ([7], [5]), ([7], [6]), ([7, 11, 12], []), ([7, 13], []), ([7, 10, 14], []), ([7, 15], []), ([16], []), ([17], [14]), ([17, 18], []), ([17, 19], []), ([20], []), ([21], [13]), ([21, 22], []), ([21, 23], []), ([21, 24], []), ([25], []), ([26], [13]), ([26, 27], []), ([26, 28], []), ([26], [5]), ([26], [6]), ([26, 30, 31], []), ([26, 32], []), ([26, 29, 33], []), ([26, 34], [])] Try.mixed rfl rfl rfl rfl (by exact ⟨.inr (Op1.move (.tmp rfl)), .inr (Op1.neI (.tmp rfl) .i64), .inr (Op1.move (.tmp rfl)), .inr (dr rfl rfl rfl hb20 (Op1.move (.tmp rfl))), .inr (dr rfl rfl rfl hb20 (Op1.lenL Try.underlying31 (.tmp rfl))), .inr (dr rfl rfl rfl hb20 (Op1.neI (.tmp rfl) .i64)), .inr (Op1.pickF (.tmp rfl) hb20 (.tmp rfl)), .inr (Op1.move (.tmp rfl)), .inr (dr rfl rfl rfl hb23 (Op1.move (.tmp rfl))), .inr (dr rfl rfl rfl hb23 (Op1.idx hv26 Try.underlying31 Try.sizeOf23 (.tmp rfl) .i64)), .inr (dr rfl rfl rfl hb23 (Op1.load ty23 (.tmp rfl))), .inr (dr rfl rfl rfl hb23 (Op1.move (.tmp rfl))), .inr (dr rfl rfl rfl hb23 (Op1.move (.tmp rfl))), .inr (dr rfl rfl rfl hb23 (Op1.idx hv27 Try.underlying31 Try.sizeOf23 (.tmp rfl) (.tmp rfl))), .inr (dr rfl rfl rfl hb23 (Op1.load ty23 (.tmp rfl))), .inr (dr rfl rfl rfl hb23 (Op1.neSt (D := 2) rfl (by decide) eg23 eq23 (.tmp rfl) (.tmp rfl))), .inr (Op1.pickF (.tmp rfl) hb23 (.tmp rfl)), .inr (Op1.move (.tmp rfl)), .inr (dr rfl rfl rfl hb28 (Op1.move (.tmp rfl))), .inr (dr rfl rfl rfl hb28 (Op1.neI (.tmp rfl) .i64)), .inr (Op1.pickF (.tmp rfl) hb28 (.tmp rfl)), .inr (Op1.move (.tmp rfl)), .inr (dr rfl rfl rfl hb31 (Op1.move (.tmp rfl))), .inr (dr rfl rfl rfl hb31 (Op1.lenL Try.underlying31 (.tmp rfl))), .inr (dr rfl rfl rfl hb31 (Op1.neI (.tmp rfl) .i64)), .inr (Op1.pickF (.tmp rfl) hb31 (.tmp rfl)), .inr (Op1.move (.tmp rfl)), .inr (dr rfl rfl rfl hb34 (Op1.move (.tmp rfl))), .inr (dr rfl rfl rfl hb34 (Op1.idx hv37 Try.underlying31 Try.sizeOf23 (.tmp rfl) .i64)), .inr (dr rfl rfl rfl hb34 (Op1.load ty23 (.tmp rfl))), .inr (dr rfl rfl rfl hb34 (Op1.move (.tmp rfl))), .inr (dr rfl rfl rfl hb34 (Op1.move (.tmp rfl))), .inr (dr rfl rfl rfl hb34 (Op1.idx hv38 Try.underlying31 Try.sizeOf23 (.tmp rfl) (.tmp rfl))), .inr (dr rfl rfl rfl hb34 (Op1.load ty23 (.tmp rfl))), .inr (dr rfl rfl rfl hb34 (Op1.neSt (D := 2) rfl (by decide) eg23 eq23 (.tmp rfl) (.tmp rfl))), .inr (Op1.pickF (.tmp rfl) hb34 (.tmp rfl)), trivial⟩) ?_
          refine WN.seq ?_
          refine W.cond (.tmp rfl) (fun hc39 => ?_) (fun hc39 => ?_)
          ·have hp40 := of_decide_eq_true hc39
           rw [if_pos hp40] at hm
           refine W.sr ?_
           refine WL.op rfl (.assign .bool) ?_
           refine WL.ns ?_
           have hr41 := Option.some.inj hm
           clear hm
           subst hr41
           have hm := hk10
           try dsimp only at hm
           cases hm
           exact W.ret1 () rfl (.tmp rfl) trivial
          ·have hp40 := of_decide_eq_false hc39
           rw [if_neg hp40] at hm
           refine W.skip ?_
           refine WN.block ?_
           refine WN.seq ?_
           refine W.region ?_
           refine WL.mv rfl rfl ?_
           refine WL.lenL (s := 5) (.tmp rfl) fun hl42 => ?_
           refine WL.op rfl (.addI1 (.tmp rfl) .i64 hp13 hl42) ?_
           refine WL.gv rfl rfl ?_
           refine WL.nil ?_
           exact WN.again n11 (i + 1) (Nat.lt_succ_self n11) hm ⟨Ent.q rfl, Ent.q rfl, Ent.q rfl, Ent.q rfl, trivial⟩ trivial
    ·have hp13 := of_decide_eq_false hc12
     rw [if_neg hp13] at hm
     refine W.exit rfl ?_
     have hr43 := Option.some.inj hm
     clear hm
     subst hr43
     have hm := hk10
     try dsimp only at hm
     refine WN.seq ?_
     refine W.sr ?_
     refine WL.op rfl (.assign .bool) ?_
     refine WL.ns ?_
     cases hm
     exact W.ret1 () rfl (.tmp rfl) trivial

theorem r06_Parent_spec : ∀ (n : Nat) (u : api_Unit) (id : api_Id) (r : api_Id × Int × Bool), M.r06_Parent n u id = some r → FSpec Try.prog 21 [(tapi_Unit.is u), (tapi_Id.is id)] (Asn.tuple3 (tapi_Id.is r.1) ((tI .i64).is r.2.1) (tB.is r.2.2)) := by
 intro n
 induction n with
 | zero => intro u id r hm; cases hm
 | succ n ih =>
  intro u id r hm
  rw [M.r06_Parent.eq_2] at hm
  refine FSpec.of Try.func21 rfl rfl rfl (fun g0 => ?_)
  refine W.sr ?_
  refine WL.op rfl (.box (.tmp rfl)) ?_
  refine WL.op rfl (.box (.tmp rfl)) ?_
  refine WL.opR rfl (OpR.alloc 4 ze23) (fun b => ?_)
  refine WL.op rfl (.assign .i64) ?_
  refine WL.op rfl (.assign .bool) ?_
  refine WL.ns ?_
  refine W.seq ?_
  refine W.sr ?_
  refine WL.op rfl (.fieldAddr Try.underlying27 rfl (fun w => ⟨2, Try.sizeOf23 w⟩) fapi_Unit_0 (.tmp rfl)) ?_
  refine WL.op rfl (.load ty23 (.tmp rfl)) ?_
  refine WL.op rfl (.load ty23 (.tmp rfl)) ?_
  refine WL.op rfl (.eqSt (D := 2) rfl (by decide) eg23 eq23 (.tmp rfl) (.tmp rfl)) ?_
  refine WL.ns ?_
  refine W.cond (.tmp rfl) (fun hc1 => ?_) (fun hc1 => ?_)
  ·have hp2 := of_decide_eq_true hc1
   rw [if_pos hp2] at hm
   refine W.sr ?_
   refine WL.op rfl (.build (s := tapi_Id) (x := (⟨(0 : Int), (0 : Int), (0 : Int)⟩ : api_Id)) zapi_Id_f rfl Try.underlying23 (zapi_Id_sz _ Try.underlying23) ze23 rfl) ?_
   refine WL.opU (OpR.storeB (b := b) 4 Try.sizeOf23 (Cellable.is tapi_Id (⟨(0 : Int), (0 : Int), (0 : Int)⟩ : api_Id)) rfl (.tmp rfl) (.tmp rfl)) (fun _ => ?_)
   refine WL.op rfl (.assign .i64) ?_
   refine WL.op rfl (.assign .bool) ?_
   refine WL.ns ?_
   cases hm
   exact W.retQ3 () rfl rfl (ResAt.cell 4 Try.isAgg23 Try.sizeOf23 rfl (.tmp rfl)) (ResAt.tmp (.tmp rfl)) (ResAt.tmp (.tmp rfl)) trivial
  ·have hp2 := of_decide_eq_false hc1
   rw [if_neg hp2] at hm
   refine W.skip ?_
   refine WN.seq ?_
   refine W.seq ?_
   refine W.sr ?_
   refine WL.op rfl (.assign .i64) ?_
   refine WL.ns ?_
   refine W.block ?_
   obtain ⟨s3, hs4, hk5⟩ := bind_some hm
   clear hm
   refine W.loop (fun m (s : Int × api_Id) => M.r06_Parent_loop1 u id (M.r06_Parent n) m s.1 s.2 = some s3) (fun s => [(7, ((tI .i64).is s.1)), (2, (tapi_Unit.ptr u)), (3, (tapi_Id.ptr id)), (4, (Bp b 0))]) (fun s => [(4, (Bx 3 true 23 (tapi_Id.is s.2) b))]) _ ((0 : Int), zapi_Id) hs4 ⟨Ent.q rfl, Ent.q rfl, Ent.q rfl, Ent.q rfl, trivial⟩ ⟨rfl, rfl, trivial⟩ ?_
   rintro n6 ⟨i, v⟩ hm
   try dsimp only at hm
   change W _ _ _ _ _ _ _ [(7, ((tI .i64).is i)), (2, (tapi_Unit.ptr u)), (3, (tapi_Id.ptr id)), (4, (Bp b 0))] [(4, (Bx 3 true 23 (tapi_Id.is v) b))]
   cases n6 with
   | zero => rw [M.r06_Parent_loop1.eq_1] at hm; cases hm
   | succ n6 =>
    rw [M.r06_Parent_loop1.eq_2] at hm
    refine W.seq ?_
    refine W.sr ?_
    refine WL.mv rfl rfl ?_
    refine WL.op rfl (.fieldAddr Try.underlying27 rfl (fun w => ⟨0, Try.sizeOf25 w⟩) fapi_Unit_5 (.tmp rfl)) ?_
    refine WL.op rfl (.load ty25 (.tmp rfl)) ?_
    refine WL.op rfl (.lenL Try.underlying25 (.tmp rfl)) ?_
    refine WL.op rfl (.ltI (.tmp rfl) (.tmp rfl)) ?_
    refine WL.ns ?_
    refine W.cond (.tmp rfl) (fun hc7 => ?_) (fun hc7 => ?_)
    ·have hp8 := of_decide_eq_true hc7
     rw [if_pos hp8] at hm
     refine W.skip ?_
     refine WN.seq ?_
     refine W.seq ?_
     refine W.block ?_
     refine W.seq ?_
     refine W.seq ?_
     obtain ⟨v1, hv9, hm⟩ := bind_some hm
     refine W.draw [.c ((tL tapi_Unit).ptr u.Kids), .c ((tL tapi_Unit).is u.Kids), .c ((tI .i64).is i), .c (tapi_Unit.ptr v1), .c (tapi_Id.ptr v1.Id), .c (tapi_Id.is v1.Id), .c (tapi_Id.is id), .c (tB.is (decide (v1.Id = id)))] [([], [2]), ([0], []), ([], [7]), ([1, 2], []), ([3], []), ([4], []), ([], [3]), ([5, 6], [])] Try.mixed rfl rfl rfl rfl ⟨.inr (Op1.fieldAddr Try.underlying27 rfl (fun w => ⟨0, Try.sizeOf25 w⟩) fapi_Unit_5 (.tmp rfl)), .inr (Op1.load ty25 (.tmp rfl)), .inr (Op1.move (.tmp rfl)), .inr (Op1.idx hv9 Try.underlying25 Try.sizeOf27 (.tmp rfl) (.tmp rfl)), .inr (Op1.fieldAddr Try.underlying27 rfl (fun w => ⟨2, Try.sizeOf23 w⟩) fapi_Unit_0 (.tmp rfl)), .inr (Op1.load ty23 (.tmp rfl)), .inr (Op1.load ty23 (.tmp rfl)), .inr (Op1.eqSt (D := 2) rfl (by decide) eg23 eq23 (.tmp rfl) (.tmp rfl)), trivial⟩ ?_
     refine WN.seq ?_
     refine W.cond (.tmp rfl) (fun hc10 => ?_) (fun hc10 => ?_)
     ·have hp11 := of_decide_eq_true hc10
      rw [if_pos hp11] at hm
      refine W.sr ?_
      refine WL.op rfl (.fieldAddr Try.underlying27 rfl (fun w => ⟨2, Try.sizeOf23 w⟩) fapi_Unit_0 (.tmp rfl)) ?_
      refine WL.op rfl (.load ty23 (.tmp rfl)) ?_
      refine WL.mv rfl rfl ?_
      refine WL.opU (OpR.storeB (b := b) 4 Try.sizeOf23 (Cellable.is tapi_Id u.Id) rfl (.tmp rfl) (.tmp rfl)) (fun _ => ?_)
      refine WL.gv rfl rfl ?_
      refine WL.op rfl (.assign .bool) ?_
      refine WL.ns ?_
      have hr12 := Option.some.inj hm
      clear hm
      subst hr12
      have hm := hk5
      try dsimp only at hm
      cases hm
      exact W.retQ3 () rfl rfl (ResAt.cell 4 Try.isAgg23 Try.sizeOf23 rfl (.tmp rfl)) (ResAt.tmp (.tmp rfl)) (ResAt.tmp (.tmp rfl)) trivial
     ·have hp11 := of_decide_eq_false hc10
      rw [if_neg hp11] at hm
      refine W.skip ?_
      refine WN.seq ?_
      refine W.seq ?_
      obtain ⟨v2, hv13, hm⟩ := bind_some hm
      obtain ⟨find, hv14, hm⟩ := bind_some hm
      refine W.weakR (res' := [(4, (Bx 3 true 23 (tapi_Id.is v) b))]) ⟨rfl, rfl, trivial⟩ ?_
      refine W.drawM [.c ((tL tapi_Unit).ptr u.Kids), .c ((tL tapi_Unit).is u.Kids), .c ((tI .i64).is i), .c (tapi_Unit.ptr v2), .c (tapi_Unit.is v2), .c (tapi_Id.is id), .c (Asn.tuple2 (tapi_Unit.is find.1) (tB.is find.2)), .c (Asn.tuple2 (tapi_Unit.is find.1) (tB.is find.2)), .c (tapi_Unit.is find.1), .c (tB.is find.2), .f (fun cv => (Bp (bk (cv 0)) 0)), .c Asn.any, .c (tB.is find.2)] [([], [2]), ([0], []), ([], [7]), ([1, 2], []), ([3], []), ([], [3]), ([4, 5], []), ([6], []), ([7], []), ([7], []), ([], []), ([8, 10], []), ([9], [])] [10, 11] [[], [], [], [], [], [], [], [], [], [], [true], [], []] (fun m cv => match m with | 0 => [(4, (Bx 3 true 23 (tapi_Id.is v) b))] | 1 => [(8, (Bx 8 true 27 (tapi_Unit.is zapi_Unit) (bk (cv 0)))), (4, (Bx 3 true 23 (tapi_Id.is v) b))] | _ => [(8, (Bx 8 true 27 (tapi_Unit.is find.1) (bk (cv 0)))), (4, (Bx 3 true 23 (tapi_Id.is v) b))]) (fun _ => none) Try.mixed rfl rfl rfl rfl rfl ⟨fun _ _ _ _ => rfl, ⟨fun _ _ _ _ => rfl, ⟨fun _ _ _ _ => rfl, ⟨fun _ _ _ _ => rfl, ⟨fun _ _ _ _ => rfl, ⟨fun _ _ _ _ => rfl, ⟨fun _ _ _ _ => rfl, ⟨fun _ _ _ _ => rfl, ⟨fun _ _ _ _ => rfl, ⟨fun _ _ _ _ => rfl, ⟨fun m hm c t => by simp only [DA.at, upd_dep (r := [true]) (j := 0) rfl hm], ⟨fun _ _ _ _ => rfl, ⟨fun _ _ _ _ => rfl, trivial⟩⟩⟩⟩⟩⟩⟩⟩⟩⟩⟩⟩⟩ rfl ⟨mo fun cv => Op1.fieldAddr Try.underlying27 rfl (fun w => ⟨0, Try.sizeOf25 w⟩) fapi_Unit_5 (.tmp rfl), ⟨mo fun cv => Op1.load ty25 (.tmp rfl), ⟨mo fun cv => Op1.move (.tmp rfl), ⟨mo fun cv => Op1.idx hv13 Try.underlying25 Try.sizeOf27 (.tmp rfl) (.tmp rfl), ⟨mo fun cv => Op1.load ty27 (.tmp rfl), ⟨mo fun cv => Op1.load ty23 (.tmp rfl), ⟨mo fun cv => Op1.call Try.call20 (r06_Find_spec _ _ _ _ hv14) ⟨(.tmp rfl), (.tmp rfl), trivial⟩, ⟨mo fun cv => Op1.move (.tmp rfl), ⟨mo fun cv => Op1.extract0 (.tmp rfl), ⟨mo fun cv => Op1.extract1 (.tmp rfl), ⟨.inl rfl, ⟨.inl rfl, ⟨mo fun cv => Op1.assign (.tmp rfl), trivial⟩⟩⟩⟩⟩⟩⟩⟩⟩⟩⟩⟩⟩ ⟨⟨_, _, _, [], (fun cv => [(8, (Bx 8 true 27 (tapi_Unit.is zapi_Unit) (bk (cv 0))))]), rfl, rfl, rfl, rfl, fun _ => rfl, fun _ _ => rfl, fun cv => OpR.viaB (OpR.alloc 8 ze27)⟩, ⟨⟨_, _, _, [8], (fun cv => [(8, (Bx 8 true 27 (tapi_Unit.is find.1) (bk (cv 0))))]), rfl, rfl, rfl, rfl, fun _ => rfl, fun _ _ => rfl, fun cv => OpR.viaU (OpR.storeB (b := (bk (cv 0))) 8 Try.sizeOf27 (Cellable.is tapi_Unit find.1) rfl (.tmp rfl) (.tmp rfl))⟩, trivial⟩⟩ (fun cv => ?_)
      refine WN.seq ?_
      refine W.sr ?_
      refine WL.mv rfl rfl ?_
      refine WL.ns ?_
      refine W.cond (.tmp rfl) (fun hc15 => ?_) (fun hc15 => ?_)
      ·have hp16 := hc15
       rw [if_pos hp16] at hm
       refine W.seq ?_
       obtain ⟨v3, hv17, hm⟩ := bind_some hm
       obtain ⟨parent, hv18, hm⟩ := bind_some hm
       refine W.weakR (res' := [(4, (Bx 3 true 23 (tapi_Id.is v) b)), (8, (Bx 8 true 27 (tapi_Unit.is find.1) (bk (cv 0))))]) ⟨rfl, rfl, ⟨rfl, rfl, trivial⟩⟩ ?_
       refine W.drawM [.c ((tL tapi_Unit).ptr u.Kids), .c ((tL tapi_Unit).is u.Kids), .c ((tI .i64).is i), .c (tapi_Unit.ptr v3), .c (tapi_Unit.is v3), .c (tapi_Id.is id), .c (Asn.tuple3 (tapi_Id.is parent.1) ((tI .i64).is parent.2.1) (tB.is parent.2.2)), .c (tapi_Id.is parent.1), .c ((tI .i64).is parent.2.1), .c (tB.is parent.2.2), .c Asn.any, .c ((tI .i64).is parent.2.1), .c (tB.is parent.2.2)] [([], [2]), ([0], []), ([], [7]), ([1, 2], []), ([3], []), ([], [3]), ([4, 5], []), ([6], []), ([6], []), ([6], []), ([7], [4]), ([8], []), ([9], [])] [10] [[], [], [], [], [], [], [], [], [], [], [], [], []] (fun m cv1 => match m with | 0 => [(4, (Bx 3 true 23 (tapi_Id.is v) b)), (8, (Bx 8 true 27 (tapi_Unit.is find.1) (bk (cv 0))))] | _ => [(4, (Bx 3 true 23 (tapi_Id.is parent.1) b)), (8, (Bx 8 true 27 (tapi_Unit.is find.1) (bk (cv 0))))]) (fun _ => none) Try.mixed rfl rfl rfl rfl rfl ⟨fun _ _ _ _ => rfl, ⟨fun _ _ _ _ => rfl, ⟨fun _ _ _ _ => rfl, ⟨fun _ _ _ _ => rfl, ⟨fun _ _ _ _ => rfl, ⟨fun _ _ _ _ => rfl, ⟨fun _ _ _ _ => rfl, ⟨fun _ _ _ _ => rfl, ⟨fun _ _ _ _ => rfl, ⟨fun _ _ _ _ => rfl, ⟨fun _ _ _ _ => rfl, ⟨fun _ _ _ _ => rfl, ⟨fun _ _ _ _ => rfl, trivial⟩⟩⟩⟩⟩⟩⟩⟩⟩⟩⟩⟩⟩ rfl ⟨mo fun cv1 => Op1.fieldAddr Try.underlying27 rfl (fun w => ⟨0, Try.sizeOf25 w⟩) fapi_Unit_5 (.tmp rfl), ⟨mo fun cv1 => Op1.load ty25 (.tmp rfl), ⟨mo fun cv1 => Op1.move (.tmp rfl), ⟨mo fun cv1 => Op1.idx hv17 Try.underlying25 Try.sizeOf27 (.tmp rfl) (.tmp rfl), ⟨mo fun cv1 => Op1.load ty27 (.tmp rfl), ⟨mo fun cv1 => Op1.load ty23 (.tmp rfl), ⟨mo fun cv1 => Op1.call Try.call21 (ih _ _ _ hv18) ⟨(.tmp rfl), (.tmp rfl), trivial⟩, ⟨mo fun cv1 => Op1.extract30 (.tmp rfl), ⟨mo fun cv1 => Op1.extract31 (.tmp rfl), ⟨mo fun cv1 => Op1.extract32 (.tmp rfl), ⟨.inl rfl, ⟨mo fun cv1 => Op1.assign (.tmp rfl), ⟨mo fun cv1 => Op1.assign (.tmp rfl), trivial⟩⟩⟩⟩⟩⟩⟩⟩⟩⟩⟩⟩⟩ ⟨⟨_, _, _, [4], (fun cv1 => [(4, (Bx 3 true 23 (tapi_Id.is parent.1) b))]), rfl, rfl, rfl, rfl, fun _ => rfl, fun _ _ => rfl, fun cv1 => OpR.viaU (OpR.storeB (b := b) 4 Try.sizeOf23 (Cellable.is tapi_Id parent.1) rfl (.tmp rfl) (.tmp rfl))⟩, trivial⟩ (fun cv1 => ?_)
       refine WN.seq ?_
       have hr19 := Option.some.inj hm
       clear hm
       subst hr19
       have hm := hk5
       try dsimp only at hm
       cases hm
       exact W.retQ3 () rfl rfl (ResAt.cell 4 Try.isAgg23 Try.sizeOf23 rfl (.tmp rfl)) (ResAt.tmp (.tmp rfl)) (ResAt.tmp (.tmp rfl)) trivial
      ·have hp16 := ne_of_false hc15
       rw [if_neg hp16] at hm
       refine W.skip ?_
       refine WN.block ?_
       refine WN.seq ?_
       refine W.region ?_
       refine WL.mv rfl rfl ?_
       refine WL.lenL (s := 17) (.tmp rfl) fun hl20 => ?_
       refine WL.op rfl (.addI1 (.tmp rfl) .i64 hp8 hl20) ?_
       refine WL.gv rfl rfl ?_
       refine WL.nil ?_
       exact WN.again n6 (i + 1, v) (Nat.lt_succ_self n6) hm ⟨Ent.q rfl, Ent.q rfl, Ent.q rfl, Ent.q rfl, trivial⟩ ⟨rfl, rfl, trivial⟩
    ·have hp8 := of_decide_eq_false hc7
     rw [if_neg hp8] at hm
     refine W.exit rfl ?_
     have hr21 := Option.some.inj hm
     clear hm
     subst hr21
     have hm := hk5
     try dsimp only at hm
     refine WN.seq ?_
     refine W.sr ?_
     refine WL.op rfl (.build (s := tapi_Id) (x := (⟨(0 : Int), (0 : Int), (0 : Int)⟩ : api_Id)) zapi_Id_f rfl Try.underlying23 (zapi_Id_sz _ Try.underlying23) ze23 rfl) ?_
     refine WL.opU (OpR.storeB (b := b) 4 Try.sizeOf23 (Cellable.is tapi_Id (⟨(0 : Int), (0 : Int), (0 : Int)⟩ : api_Id)) rfl (.tmp rfl) (.tmp rfl)) (fun _ => ?_)
     refine WL.op rfl (.assign .i64) ?_
     refine WL.op rfl (.assign .bool) ?_
     refine WL.ns ?_
     cases hm
     exact W.retQ3 () rfl rfl (ResAt.cell 4 Try.isAgg23 Try.sizeOf23 rfl (.tmp rfl)) (ResAt.tmp (.tmp rfl)) (ResAt.tmp (.tmp rfl)) trivial

theorem law41_ResolveRange_spec (n : Nat) (u : api_Unit) (at0_ : api_Id) (i : Int) (k : Int) (r : Bool) (hm : M.law41_ResolveRange n u at0_ i k = some r) : FSpec Try.prog 6 [(tapi_Unit.is u), (tapi_Id.is at0_), ((tI .i64).is i), ((tI .i64).is k)] (tB.is r) := by
 unfold M.law41_ResolveRange at hm
 refine FSpec.of Try.func6 rfl rfl rfl (fun g0 => ?_)
 refine W.sr ?_
 refine WL.op rfl (.box (.tmp rfl)) ?_
 refine WL.op rfl (.box (.tmp rfl)) ?_
 refine WL.op rfl (.assign .bool) ?_
 refine WL.ns ?_
 refine W.seq ?_
 refine W.sr ?_
 obtain ⟨awake, hv1, hm⟩ := bind_some hm
 refine WL.op rfl (.call Try.call7 (law41_awake_spec _ _ hv1) trivial) ?_
 refine WL.op rfl (.notB (.tmp rfl)) ?_
 refine WL.ns ?_
 refine W.cond (.tmp rfl) (fun hc2 => ?_) (fun hc2 => ?_)
 ·have hp3 := not_pos hc2
  rw [if_pos hp3] at hm
  refine W.sr ?_
  refine WL.op rfl (.assign .bool) ?_
  refine WL.ns ?_
  cases hm
  exact W.ret1 () rfl (.tmp rfl) trivial
 ·have hp3 := not_neg hc2
  rw [if_neg hp3] at hm
  refine W.skip ?_
  refine WN.seq ?_
  refine W.seq ?_
  refine W.sr ?_
  refine WL.op rfl (.load ty27 (.tmp rfl)) ?_
  obtain ⟨book, hv4, hm⟩ := bind_some hm
  refine WL.op rfl (.call Try.call8 (law41_book_spec _ _ _ hv4) ⟨(.tmp rfl), trivial⟩) ?_
  refine WL.op rfl (.notB (.tmp rfl)) ?_
  refine WL.ns ?_
  refine W.cond (.tmp rfl) (fun hc5 => ?_) (fun hc5 => ?_)
  ·have hp6 := not_pos hc5
   rw [if_pos hp6] at hm
   refine W.sr ?_
   refine WL.op rfl (.assign .bool) ?_
   refine WL.ns ?_
   cases hm
   exact W.ret1 () rfl (.tmp rfl) trivial
  ·have hp6 := not_neg hc5
   rw [if_neg hp6] at hm
   refine W.skip ?_
   refine WN.seq ?_
   refine W.sr ?_
   refine WL.op rfl (.load ty27 (.tmp rfl)) ?_
   obtain ⟨all, hv7, hm⟩ := bind_some hm
   refine WL.op rfl (.call Try.call17 (r06_All_spec _ _ _ hv7) ⟨(.tmp rfl), trivial⟩) ?_
   refine WL.gv rfl rfl ?_
   refine WL.ns ?_
   refine W.seq ?_
   obtain ⟨s8, hs9, hk10⟩ := bind_some hm
   clear hm
   refine W.join (fun s : Bool => s = s8) (fun s => [(56, (tB.is s)), (2, ((tI .i64).is i)), (3, ((tI .i64).is k)), (4, (tapi_Unit.ptr u)), (5, (tapi_Id.ptr at0_)), (9, ((tL tapi_Id).is all))]) (fun s => []) ?_ ?_
   ·rintro v hj94
    try dsimp only at hj94
    subst hj94
    have hm := hk10
    clear hk10
    try dsimp only at hm
    change W _ _ _ _ _ _ _ [(56, (tB.is v)), (2, ((tI .i64).is i)), (3, ((tI .i64).is k)), (4, (tapi_Unit.ptr u)), (5, (tapi_Id.ptr at0_)), (9, ((tL tapi_Id).is all))] []
    refine W.cond (.tmp rfl) (fun hc17 => ?_) (fun hc17 => ?_)
    ·have hp18 := hc17
     rw [if_pos hp18] at hm
     refine W.sr ?_
     refine WL.op rfl (.assign .bool) ?_
     refine WL.ns ?_
     cases hm
     exact W.ret1 () rfl (.tmp rfl) trivial
    ·have hp18 := ne_of_false hc17
     rw [if_neg hp18] at hm
     refine W.skip ?_
     refine WN.seq ?_
     refine W.seq ?_
     obtain ⟨v1, hv19, hm⟩ := bind_some hm
     obtain ⟨find, hv20, hm⟩ := bind_some hm
     refine W.weakR (res' := []) trivial ?_
     refine W.drawM [.c (tapi_Unit.is u), .c ((tL tapi_Id).is all), .c ((tI .i64).is i), .c (tapi_Id.ptr v1), .c (tapi_Id.is v1), .c (Asn.tuple2 (tapi_Unit.is find.1) (tB.is find.2)), .c (Asn.tuple2 (tapi_Unit.is find.1) (tB.is find.2)), .c (tapi_Unit.is find.1), .c (tB.is find.2), .f (fun cv => (Bp (bk (cv 0)) 0)), .c Asn.any, .c (tB.is find.2)] [([], [4]), ([], [9]), ([], [2]), ([1, 2], []), ([3], []), ([0, 4], []), ([5], []), ([6], []), ([6], []), ([], []), ([7, 9], []), ([8], [])] [9, 10] [[], [], [], [], [], [], [], [], [], [true], [], []] (fun m cv => match m with | 0 => [] | 1 => [(10, (Bx 8 true 27 (tapi_Unit.is zapi_Unit) (bk (cv 0))))] | _ => [(10, (Bx 8 true 27 (tapi_Unit.is find.1) (bk (cv 0))))]) (fun _ => none) Try.mixed rfl rfl rfl rfl rfl ⟨fun _ _ _ _ => rfl, ⟨fun _ _ _ _ => rfl, ⟨fun _ _ _ _ => rfl, ⟨fun _ _ _ _ => rfl, ⟨fun _ _ _ _ => rfl, ⟨fun _ _ _ _ => rfl, ⟨fun _ _ _ _ => rfl, ⟨fun _ _ _ _ => rfl, ⟨fun _ _ _ _ => rfl, ⟨fun m hm c t => by simp only [DA.at, upd_dep (r := [true]) (j := 0) rfl hm], ⟨fun _ _ _ _ => rfl, ⟨fun _ _ _ _ => rfl, trivial⟩⟩⟩⟩⟩⟩⟩⟩⟩⟩⟩⟩ rfl ⟨mo fun cv => Op1.load ty27 (.tmp rfl), ⟨mo fun cv => Op1.move (.tmp rfl), ⟨mo fun cv => Op1.move (.tmp rfl), ⟨mo fun cv => Op1.idx hv19 Try.underlying31 Try.sizeOf23 (.tmp rfl) (.tmp rfl), ⟨mo fun cv => Op1.load ty23 (.tmp rfl), ⟨mo fun cv => Op1.call Try.call20 (r06_Find_spec _ _ _ _ hv20) ⟨(.tmp rfl), (.tmp rfl), trivial⟩, ⟨mo fun cv => Op1.move (.tmp rfl), ⟨mo fun cv => Op1.extract0 (.tmp rfl), ⟨mo fun cv => Op1.extract1 (.tmp rfl), ⟨.inl rfl, ⟨.inl rfl, ⟨mo fun cv => Op1.assign (.tmp rfl), trivial⟩⟩⟩⟩⟩⟩⟩⟩⟩⟩⟩⟩ ⟨⟨_, _, _, [], (fun cv => [(10, (Bx 8 true 27 (tapi_Unit.is zapi_Unit) (bk (cv 0))))]), rfl, rfl, rfl, rfl, fun _ => rfl, fun _ _ => rfl, fun cv => OpR.viaB (OpR.alloc 10 ze27)⟩, ⟨⟨_, _, _, [10], (fun cv => [(10, (Bx 8 true 27 (tapi_Unit.is find.1) (bk (cv 0))))]), rfl, rfl, rfl, rfl, fun _ => rfl, fun _ _ => rfl, fun cv => OpR.viaU (OpR.storeB (b := (bk (cv 0))) 10 Try.sizeOf27 (Cellable.is tapi_Unit find.1) rfl (.tmp rfl) (.tmp rfl))⟩, trivial⟩⟩ (fun cv => ?_)
     refine WN.seq ?_
     refine W.seq ?_
     obtain ⟨v2, hv21, hm⟩ := bind_some hm
     obtain ⟨find1, hv22, hm⟩ := bind_some hm
     refine W.weakR (res' := [(10, (Bx 8 true 27 (tapi_Unit.is find.1) (bk (cv 0))))]) ⟨rfl, rfl, trivial⟩ ?_
     refine W.drawM [.c (tapi_Unit.is u), .c ((tL tapi_Id).is all), .c ((tI .i64).is k), .c (tapi_Id.ptr v2), .c (tapi_Id.is v2), .c (Asn.tuple2 (tapi_Unit.is find1.1) (tB.is find1.2)), .c (Asn.tuple2 (tapi_Unit.is find1.1) (tB.is find1.2)), .c (tapi_Unit.is find1.1), .c (tB.is find1.2), .f (fun cv1 => (Bp (bk (cv1 0)) 0)), .c Asn.any, .c (tB.is find1.2)] [([], [4]), ([], [9]), ([], [3]), ([1, 2], []), ([3], []), ([0, 4], []), ([5], []), ([6], []), ([6], []), ([], []), ([7, 9], []), ([8], [])] [9, 10] [[], [], [], [], [], [], [], [], [], [true], [], []] (fun m cv1 => match m with | 0 => [(10, (Bx 8 true 27 (tapi_Unit.is find.1) (bk (cv 0))))] | 1 => [(12, (Bx 8 true 27 (tapi_Unit.is zapi_Unit) (bk (cv1 0)))), (10, (Bx 8 true 27 (tapi_Unit.is find.1) (bk (cv 0))))] | _ => [(12, (Bx 8 true 27 (tapi_Unit.is find1.1) (bk (cv1 0)))), (10, (Bx 8 true 27 (tapi_Unit.is find.1) (bk (cv 0))))]) (fun _ => none) Try.mixed rfl rfl rfl rfl rfl ⟨fun _ _ _ _ => rfl, ⟨fun _ _ _ _ => rfl, ⟨fun _ _ _ _ => rfl, ⟨fun _ _ _ _ => rfl, ⟨fun _ _ _ _ => rfl, ⟨fun _ _ _ _ => rfl, ⟨fun _ _ _ _ => rfl, ⟨fun _ _ _ _ => rfl, ⟨fun _ _ _ _ => rfl, ⟨fun m hm c t => by simp only [DA.at, upd_dep (r := [true]) (j := 0) rfl hm], ⟨fun _ _ _ _ => rfl, ⟨fun _ _ _ _ => rfl, trivial⟩⟩⟩⟩⟩⟩⟩⟩⟩⟩⟩⟩ rfl ⟨mo fun cv1 => Op1.load ty27 (.tmp rfl), ⟨mo fun cv1 => Op1.move (.tmp rfl), ⟨mo fun cv1 => Op1.move (.tmp rfl), ⟨mo fun cv1 => Op1.idx hv21 Try.underlying31 Try.sizeOf23 (.tmp rfl) (.tmp rfl), ⟨mo fun cv1 => Op1.load ty23 (.tmp rfl), ⟨mo fun cv1 => Op1.call Try.call20 (r06_Find_spec _ _ _ _ hv22) ⟨(.tmp rfl), (.tmp rfl), trivial⟩, ⟨mo fun cv1 => Op1.move (.tmp rfl), ⟨mo fun cv1 => Op1.extract0 (.tmp rfl), ⟨mo fun cv1 => Op1.extract1 (.tmp rfl), ⟨.inl rfl, ⟨.inl rfl, ⟨mo fun cv1 => Op1.assign (.tmp rfl), trivial⟩⟩⟩⟩⟩⟩⟩⟩⟩⟩⟩⟩ ⟨⟨_, _, _, [], (fun cv1 => [(12, (Bx 8 true 27 (tapi_Unit.is zapi_Unit) (bk (cv1 0))))]), rfl, rfl, rfl, rfl, fun _ => rfl, fun _ _ => rfl, fun cv1 => OpR.viaB (OpR.alloc 12 ze27)⟩, ⟨⟨_, _, _, [12], (fun cv1 => [(12, (Bx 8 true 27 (tapi_Unit.is find1.1) (bk (cv1 0))))]), rfl, rfl, rfl, rfl, fun _ => rfl, fun _ _ => rfl, fun cv1 => OpR.viaU (OpR.storeB (b := (bk (cv1 0))) 12 Try.sizeOf27 (Cellable.is tapi_Unit find1.1) rfl (.tmp rfl) (.tmp rfl))⟩, trivial⟩⟩ (fun cv1 => ?_)
     refine WN.seq ?_
     refine W.seq ?_
     obtain ⟨v3, hv23, hm⟩ := bind_some hm
     obtain ⟨parent, hv24, hm⟩ := bind_some hm
     refine W.weakR (res' := [(10, (Bx 8 true 27 (tapi_Unit.is find.1) (bk (cv 0)))), (12, (Bx 8 true 27 (tapi_Unit.is find1.1) (bk (cv1 0))))]) ⟨rfl, rfl, ⟨rfl, rfl, trivial⟩⟩ ?_
     refine W.drawM [.c (tapi_Unit.is u), .c ((tL tapi_Id).is all), .c ((tI .i64).is i), .c (tapi_Id.ptr v3), .c (tapi_Id.is v3), .c (Asn.tuple3 (tapi_Id.is parent.1) ((tI .i64).is parent.2.1) (tB.is parent.2.2)), .c (Asn.tuple3 (tapi_Id.is parent.1) ((tI .i64).is parent.2.1) (tB.is parent.2.2)), .c (tapi_Id.is parent.1), .c ((tI .i64).is parent.2.1), .c (tB.is parent.2.2), .f (fun cv2 => (Bp (bk (cv2 0)) 0)), .c Asn.any, .c ((tI .i64).is parent.2.1), .c (tB.is parent.2.2)] [([], [4]), ([], [9]), ([], [2]), ([1, 2], []), ([3], []), ([0, 4], []), ([5], []), ([6], []), ([6], []), ([6], []), ([], []), ([7, 10], []), ([8], []), ([9], [])] [10, 11] [[], [], [], [], [], [], [], [], [], [], [true], [], [], []] (fun m cv2 => match m with | 0 => [(10, (Bx 8 true 27 (tapi_Unit.is find.1) (bk (cv 0)))), (12, (Bx 8 true 27 (tapi_Unit.is find1.1) (bk (cv1 0))))] | 1 => [(14, (Bx 3 true 23 (tapi_Id.is zapi_Id) (bk (cv2 0)))), (10, (Bx 8 true 27 (tapi_Unit.is find.1) (bk (cv 0)))), (12, (Bx 8 true 27 (tapi_Unit.is find1.1) (bk (cv1 0))))] | _ => [(14, (Bx 3 true 23 (tapi_Id.is parent.1) (bk (cv2 0)))), (10, (Bx 8 true 27 (tapi_Unit.is find.1) (bk (cv 0)))), (12, (Bx 8 true 27 (tapi_Unit.is find1.1) (bk (cv1 0))))]) (fun _ => none) Try.mixed rfl rfl rfl rfl rfl ⟨fun _ _ _ _ => rfl, ⟨fun _ _ _ _ => rfl, ⟨fun _ _ _ _ => rfl, ⟨fun _ _ _ _ => rfl, ⟨fun _ _ _ _ => rfl, ⟨fun _ _ _ _ => rfl, ⟨fun _ _ _ _ => rfl, ⟨fun _ _ _ _ => rfl, ⟨fun _ _ _ _ => rfl, ⟨fun _ _ _ _ => rfl, ⟨fun m hm c t => by simp only [DA.at, upd_dep (r := [true]) (j := 0) rfl hm], ⟨fun _ _ _ _ => rfl, ⟨fun _ _ _ _ => rfl, ⟨fun _ _ _ _ => rfl, trivial⟩⟩⟩⟩⟩⟩⟩⟩⟩⟩⟩⟩⟩⟩ rfl ⟨mo fun cv2 => Op1.load ty27 (.tmp rfl), ⟨mo fun cv2 => Op1.move (.tmp rfl), ⟨mo fun cv2 => Op1.move (.tmp rfl), ⟨mo fun cv2 => Op1.idx hv23 Try.underlying31 Try.sizeOf23 (.tmp rfl) (.tmp rfl), ⟨mo fun cv2 => Op1.load ty23 (.tmp rfl), ⟨mo fun cv2 => Op1.call Try.call21 (r06_Parent_spec _ _ _ _ hv24) ⟨(.tmp rfl), (.tmp rfl), trivial⟩, ⟨mo fun cv2 => Op1.move (.tmp rfl), ⟨mo fun cv2 => Op1.extract30 (.tmp rfl), ⟨mo fun cv2 => Op1.extract31 (.tmp rfl), ⟨mo fun cv2 => Op1.extract32 (.tmp rfl), ⟨.inl rfl, ⟨.inl rfl, ⟨mo fun cv2 => Op1.assign (.tmp rfl), ⟨mo fun cv2 => Op1.assign (.tmp rfl), trivial⟩⟩⟩⟩⟩⟩⟩⟩⟩⟩⟩⟩⟩⟩ ⟨⟨_, _, _, [], (fun cv2 => [(14, (Bx 3 true 23 (tapi_Id.is zapi_Id) (bk (cv2 0))))]), rfl, rfl, rfl, rfl, fun _ => rfl, fun _ _ => rfl, fun cv2 => OpR.viaB (OpR.alloc 14 ze23)⟩, ⟨⟨_, _, _, [14], (fun cv2 => [(14, (Bx 3 true 23 (tapi_Id.is parent.1) (bk (cv2 0))))]), rfl, rfl, rfl, rfl, fun _ => rfl, fun _ _ => rfl, fun cv2 => OpR.viaU (OpR.storeB (b := (bk (cv2 0))) 14 Try.sizeOf23 (Cellable.is tapi_Id parent.1) rfl (.tmp rfl) (.tmp rfl))⟩, trivial⟩⟩ (fun cv2 => ?_)
     refine WN.seq ?_
     refine W.seq ?_
     obtain ⟨v4, hv25, hm⟩ := bind_some hm
     obtain ⟨parent1, hv26, hm⟩ := bind_some hm
     refine W.weakR (res' := [(10, (Bx 8 true 27 (tapi_Unit.is find.1) (bk (cv 0)))), (12, (Bx 8 true 27 (tapi_Unit.is find1.1) (bk (cv1 0)))), (14, (Bx 3 true 23 (tapi_Id.is parent.1) (bk (cv2 0))))]) ⟨rfl, rfl, ⟨rfl, rfl, ⟨rfl, rfl, trivial⟩⟩⟩ ?_
     refine W.drawM [.c (tapi_Unit.is u), .c ((tL tapi_Id).is all), .c ((tI .i64).is k), .c (tapi_Id.ptr v4), .c (tapi_Id.is v4), .c (Asn.tuple3 (tapi_Id.is parent1.1) ((tI .i64).is parent1.2.1) (tB.is parent1.2.2)), .c (Asn.tuple3 (tapi_Id.is parent1.1) ((tI .i64).is parent1.2.1) (tB.is parent1.2.2)), .c (tapi_Id.is parent1.1), .c ((tI .i64).is parent1.2.1), .c (tB.is parent1.2.2), .f (fun cv3 => (Bp (bk (cv3 0)) 0)), .c Asn.any, .c ((tI .i64).is parent1.2.1), .c (tB.is parent1.2.2)] [([], [4]), ([], [9]), ([], [3]), ([1, 2], []), ([3], []), ([0, 4], []), ([5], []), ([6], []), ([6], []), ([6], []), ([], []), ([7, 10], []), ([8], []), ([9], [])] [10, 11] [[], [], [], [], [], [], [], [], [], [], [true], [], [], []] (fun m cv3 => match m with | 0 => [(10, (Bx 8 true 27 (tapi_Unit.is find.1) (bk (cv 0)))), (12, (Bx 8 true 27 (tapi_Unit.is find1.1) (bk (cv1 0)))), (14, (Bx 3 true 23 (tapi_Id.is parent.1) (bk (cv2 0))))] | 1 => [(17, (Bx 3 true 23 (tapi_Id.is zapi_Id) (bk (cv3 0)))), (10, (Bx 8 true 27 (tapi_Unit.is find.1) (bk (cv 0)))), (12, (Bx 8 true 27 (tapi_Unit.is find1.1) (bk (cv1 0)))), (14, (Bx 3 true 23 (tapi_Id.is parent.1) (bk (cv2 0))))] | _ => [(17, (Bx 3 true 23 (tapi_Id.is parent1.1) (bk (cv3 0)))), (10, (Bx 8 true 27 (tapi_Unit.is find.1) (bk (cv 0)))), (12, (Bx 8 true 27 (tapi_Unit.is find1.1) (bk (cv1 0)))), (14, (Bx 3 true 23 (tapi_Id.is parent.1) (bk (cv2 0))))]) (fun _ => none) Try.mixed rfl rfl rfl rfl rfl ⟨fun _ _ _ _ => rfl, ⟨fun _ _ _ _ => rfl, ⟨fun _ _ _ _ => rfl, ⟨fun _ _ _ _ => rfl, ⟨fun _ _ _ _ => rfl, ⟨fun _ _ _ _ => rfl, ⟨fun _ _ _ _ => rfl, ⟨fun _ _ _ _ => rfl, ⟨fun _ _ _ _ => rfl, ⟨fun _ _ _ _ => rfl, ⟨fun m hm c t => by simp only [DA.at, upd_dep (r := [true]) (j := 0) rfl hm], ⟨fun _ _ _ _ => rfl, ⟨fun _ _ _ _ => rfl, ⟨fun _ _ _ _ => rfl, trivial⟩⟩⟩⟩⟩⟩⟩⟩⟩⟩⟩⟩⟩⟩ rfl ⟨mo fun cv3 => Op1.load ty27 (.tmp rfl), ⟨mo fun cv3 => Op1.move (.tmp rfl), ⟨mo fun cv3 => Op1.move (.tmp rfl), ⟨mo fun cv3 => Op1.idx hv25 Try.underlying31 Try.sizeOf23 (.tmp rfl) (.tmp rfl), ⟨mo fun cv3 => Op1.load ty23 (.tmp rfl), ⟨mo fun cv3 => Op1.call Try.call21 (r06_Parent_spec _ _ _ _ hv26) ⟨(.tmp rfl), (.tmp rfl), trivial⟩, ⟨mo fun cv3 => Op1.move (.tmp rfl), ⟨mo fun cv3 => Op1.extract30 (.tmp rfl), ⟨mo fun cv3 => Op1.extract31 (.tmp rfl), ⟨mo fun cv3 => Op1.extract32 (.tmp rfl), ⟨.inl rfl, ⟨.inl rfl, ⟨mo fun cv3 => Op1.assign (.tmp rfl), ⟨mo fun cv3 => Op1.assign (.tmp rfl), trivial⟩⟩⟩⟩⟩⟩⟩⟩⟩⟩⟩⟩⟩⟩ ⟨⟨_, _, _, [], (fun cv3 => [(17, (Bx 3 true 23 (tapi_Id.is zapi_Id) (bk (cv3 0))))]), rfl, rfl, rfl, rfl, fun _ => rfl, fun _ _ => rfl, fun cv3 => OpR.viaB (OpR.alloc 17 ze23)⟩, ⟨⟨_, _, _, [17], (fun cv3 => [(17, (Bx 3 true 23 (tapi_Id.is parent1.1) (bk (cv3 0))))]), rfl, rfl, rfl, rfl, fun _ => rfl, fun _ _ => rfl, fun cv3 => OpR.viaU (OpR.storeB (b := (bk (cv3 0))) 17 Try.sizeOf23 (Cellable.is tapi_Id parent1.1) rfl (.tmp rfl) (.tmp rfl))⟩, trivial⟩⟩ (fun cv3 => ?_)
     refine WN.seq ?_
     refine W.seq ?_
     obtain ⟨s27, hs28, hk29⟩ := bind_some hm
     clear hm
     refine W.join (fun s : Bool => s = s27) (fun s => [(114, (tB.is s)), (2, ((tI .i64).is i)), (3, ((tI .i64).is k)), (4, (tapi_Unit.ptr u)), (5, (tapi_Id.ptr at0_)), (9, ((tL tapi_Id).is all)), (10, (Bp (bk (cv 0)) 0)), (12, (Bp (bk (cv1 0)) 0)), (14, (Bp (bk (cv2 0)) 0)), (15, ((tI .i64).is parent.2.1)), (18, ((tI .i64).is parent1.2.1))]) (fun s => [(10, (Bx 8 true 27 (tapi_Unit.is find.1) (bk (cv 0)))), (12, (Bx 8 true 27 (tapi_Unit.is find1.1) (bk (cv1 0)))), (14, (Bx 3 true 23 (tapi_Id.is parent.1) (bk (cv2 0)))), (17, (Bx 3 true 23 (tapi_Id.is parent1.1) (bk (cv3 0))))]) ?_ ?_
     ·rintro v5 hj93
      try dsimp only at hj93
      subst hj93
      have hm := hk29
      clear hk29
      try dsimp only at hm
      change W _ _ _ _ _ _ _ [(114, (tB.is v5)), (2, ((tI .i64).is i)), (3, ((tI .i64).is k)), (4, (tapi_Unit.ptr u)), (5, (tapi_Id.ptr at0_)), (9, ((tL tapi_Id).is all)), (10, (Bp (bk (cv 0)) 0)), (12, (Bp (bk (cv1 0)) 0)), (14, (Bp (bk (cv2 0)) 0)), (15, ((tI .i64).is parent.2.1)), (18, ((tI .i64).is parent1.2.1))] [(10, (Bx 8 true 27 (tapi_Unit.is find.1) (bk (cv 0)))), (12, (Bx 8 true 27 (tapi_Unit.is find1.1) (bk (cv1 0)))), (14, (Bx 3 true 23 (tapi_Id.is parent.1) (bk (cv2 0)))), (17, (Bx 3 true 23 (tapi_Id.is parent1.1) (bk (cv3 0))))]
      refine W.cond (.tmp rfl) (fun hc36 => ?_) (fun hc36 => ?_)
      ·have hp37 := hc36
       rw [if_pos hp37] at hm
       refine W.sr ?_
       refine WL.op rfl (.assign .bool) ?_
       refine WL.ns ?_
       cases hm
       exact W.ret1 () rfl (.tmp rfl) trivial
      ·have hp37 := ne_of_false hc36
       rw [if_neg hp37] at hm
       refine W.skip ?_
       refine WN.seq ?_
       refine W.seq ?_
       obtain ⟨v6, hv38, hm⟩ := bind_some hm
       obtain ⟨whole, hv39, hm⟩ := bind_some hm
       refine W.weakR (res' := [(10, (Bx 8 true 27 (tapi_Unit.is find.1) (bk (cv 0)))), (12, (Bx 8 true 27 (tapi_Unit.is find1.1) (bk (cv1 0)))), (14, (Bx 3 true 23 (tapi_Id.is parent.1) (bk (cv2 0)))), (17, (Bx 3 true 23 (tapi_Id.is parent1.1) (bk (cv3 0))))]) ⟨rfl, rfl, ⟨rfl, rfl, ⟨rfl, rfl, ⟨rfl, rfl, trivial⟩⟩⟩⟩ ?_
       refine W.drawM [.c (tapi_Unit.is u), .c ((tL tapi_Id).is all), .c ((tI .i64).is i), .c (tapi_Id.ptr v6), .c (tapi_Id.is v6), .c (Asn.tuple2 ((tL tapi_Step).is whole.1) (tB.is whole.2)), .c (Asn.tuple2 ((tL tapi_Step).is whole.1) (tB.is whole.2)), .c ((tL tapi_Step).is whole.1), .c (tB.is whole.2), .c ((tL tapi_Step).is whole.1), .c (tB.is whole.2)] [([], [4]), ([], [9]), ([], [2]), ([1, 2], []), ([3], []), ([0, 4], []), ([5], []), ([6], []), ([6], []), ([7], []), ([8], [])] [] [[], [], [], [], [], [], [], [], [], [], []] (fun m cv4 => match m with  | _ => [(10, (Bx 8 true 27 (tapi_Unit.is find.1) (bk (cv 0)))), (12, (Bx 8 true 27 (tapi_Unit.is find1.1) (bk (cv1 0)))), (14, (Bx 3 true 23 (tapi_Id.is parent.1) (bk (cv2 0)))), (17, (Bx 3 true 23 (tapi_Id.is parent1.1) (bk (cv3 0))))]) (fun _ => none) Try.mixed rfl rfl rfl rfl rfl ⟨fun _ _ _ _ => rfl, ⟨fun _ _ _ _ => rfl, ⟨fun _ _ _ _ => rfl, ⟨fun _ _ _ _ => rfl, ⟨fun _ _ _ _ => rfl, ⟨fun _ _ _ _ => rfl, ⟨fun _ _ _ _ => rfl, ⟨fun _ _ _ _ => rfl, ⟨fun _ _ _ _ => rfl, ⟨fun _ _ _ _ => rfl, ⟨fun _ _ _ _ => rfl, trivial⟩⟩⟩⟩⟩⟩⟩⟩⟩⟩⟩ rfl ⟨mo fun cv4 => Op1.load ty27 (.tmp rfl), ⟨mo fun cv4 => Op1.move (.tmp rfl), ⟨mo fun cv4 => Op1.move (.tmp rfl), ⟨mo fun cv4 => Op1.idx hv38 Try.underlying31 Try.sizeOf23 (.tmp rfl) (.tmp rfl), ⟨mo fun cv4 => Op1.load ty23 (.tmp rfl), ⟨mo fun cv4 => Op1.call Try.call18 (r07_Whole_spec _ _ _ _ hv39) ⟨(.tmp rfl), (.tmp rfl), trivial⟩, ⟨mo fun cv4 => Op1.move (.tmp rfl), ⟨mo fun cv4 => Op1.extract0 (.tmp rfl), ⟨mo fun cv4 => Op1.extract1 (.tmp rfl), ⟨mo fun cv4 => Op1.assign (.tmp rfl), ⟨mo fun cv4 => Op1.assign (.tmp rfl), trivial⟩⟩⟩⟩⟩⟩⟩⟩⟩⟩⟩ trivial (fun cv4 => ?_)
       refine WN.seq ?_
       refine W.seq ?_
       obtain ⟨v7, hv40, hm⟩ := bind_some hm
       obtain ⟨whole1, hv41, hm⟩ := bind_some hm
       refine W.weakR (res' := [(10, (Bx 8 true 27 (tapi_Unit.is find.1) (bk (cv 0)))), (12, (Bx 8 true 27 (tapi_Unit.is find1.1) (bk (cv1 0)))), (14, (Bx 3 true 23 (tapi_Id.is parent.1) (bk (cv2 0)))), (17, (Bx 3 true 23 (tapi_Id.is parent1.1) (bk (cv3 0))))]) ⟨rfl, rfl, ⟨rfl, rfl, ⟨rfl, rfl, ⟨rfl, rfl, trivial⟩⟩⟩⟩ ?_
       refine W.drawM [.c (tapi_Unit.is u), .c ((tL tapi_Id).is all), .c ((tI .i64).is k), .c (tapi_Id.ptr v7), .c (tapi_Id.is v7), .c (Asn.tuple2 ((tL tapi_Step).is whole1.1) (tB.is whole1.2)), .c (Asn.tuple2 ((tL tapi_Step).is whole1.1) (tB.is whole1.2)), .c ((tL tapi_Step).is whole1.1), .c (tB.is whole1.2), .c ((tL tapi_Step).is whole1.1), .c (tB.is whole1.2)] [([], [4]), ([], [9]), ([], [3]), ([1, 2], []), ([3], []), ([0, 4], []), ([5], []), ([6], []), ([6], []), ([7], []), ([8], [])] [] [[], [], [], [], [], [], [], [], [], [], []] (fun m cv5 => match m with  | _ => [(10, (Bx 8 true 27 (tapi_Unit.is find.1) (bk (cv 0)))), (12, (Bx 8 true 27 (tapi_Unit.is find1.1) (bk (cv1 0)))), (14, (Bx 3 true 23 (tapi_Id.is parent.1) (bk (cv2 0)))), (17, (Bx 3 true 23 (tapi_Id.is parent1.1) (bk (cv3 0))))]) (fun _ => none) Try.mixed rfl rfl rfl rfl rfl ⟨fun _ _ _ _ => rfl, ⟨fun _ _ _ _ => rfl, ⟨fun _ _ _ _ => rfl, ⟨fun _ _ _ _ => rfl, ⟨fun _ _ _ _ => rfl, ⟨fun _ _ _ _ => rfl, ⟨fun _ _ _ _ => rfl, ⟨fun _ _ _ _ => rfl, ⟨fun _ _ _ _ => rfl, ⟨fun _ _ _ _ => rfl, ⟨fun _ _ _ _ => rfl, trivial⟩⟩⟩⟩⟩⟩⟩⟩⟩⟩⟩ rfl ⟨mo fun cv5 => Op1.load ty27 (.tmp rfl), ⟨mo fun cv5 => Op1.move (.tmp rfl), ⟨mo fun cv5 => Op1.move (.tmp rfl), ⟨mo fun cv5 => Op1.idx hv40 Try.underlying31 Try.sizeOf23 (.tmp rfl) (.tmp rfl), ⟨mo fun cv5 => Op1.load ty23 (.tmp rfl), ⟨mo fun cv5 => Op1.call Try.call18 (r07_Whole_spec _ _ _ _ hv41) ⟨(.tmp rfl), (.tmp rfl), trivial⟩, ⟨mo fun cv5 => Op1.move (.tmp rfl), ⟨mo fun cv5 => Op1.extract0 (.tmp rfl), ⟨mo fun cv5 => Op1.extract1 (.tmp rfl), ⟨mo fun cv5 => Op1.assign (.tmp rfl), ⟨mo fun cv5 => Op1.assign (.tmp rfl), trivial⟩⟩⟩⟩⟩⟩⟩⟩⟩⟩⟩ trivial (fun cv5 => ?_)
       refine WN.seq ?_
       refine W.sr ?_
       refine WL.op rfl (.load ty27 (.tmp rfl)) ?_
       refine WL.op rfl (.load ty23 (.tmp rfl)) ?_
       refine WL.mv rfl rfl ?_
       refine WL.op rfl (.fieldAddrB (o := 0) Try.underlying27 rfl (fun w => ⟨0, Try.sizeOf9 w⟩) (.tmp rfl) rfl) ?_
       refine WL.op rfl (.loadBF 12 rfl ty9 fapi_Unit_2 rfl (.tmp rfl)) ?_
       refine WL.op rfl (.build (s := tapi_Cite) (x := (⟨(1 : Int), whole.1, find1.1.Label, (0 : Int), (0 : Int)⟩ : api_Cite)) zapi_Cite_f rfl Try.underlying30 (zapi_Cite_sz _ Try.underlying30) ze30 ⟨_, (tI .i64), (1 : Int), _, _, rfl, Try.sizeOf3, .i64, sapi_Cite_0, ⟨_, (tL tapi_Step), whole.1, _, _, rfl, Try.sizeOf28, (.tmp rfl), sapi_Cite_1, ⟨_, tS, find1.1.Label, _, _, rfl, Try.sizeOf9, (.tmp rfl), sapi_Cite_2, rfl⟩⟩⟩) ?_
       obtain ⟨resolv, hv42, hm⟩ := bind_some hm
       refine WL.op rfl (.call Try.call10 (resolve_Resolve_spec _ _ _ _ _ _ hv42) ⟨(.tmp rfl), (.tmp rfl), (.tmp rfl), (.nil (t := tapi_Id)), trivial⟩) ?_
       refine WL.mv rfl rfl ?_
       refine WL.op rfl (.extract0 (.tmp rfl)) ?_
       refine WL.op rfl (.extract1 (.tmp rfl)) ?_
       refine WL.gv rfl rfl ?_
       refine WL.gv rfl rfl ?_
       refine WL.nr ?_
       refine WL.op rfl (.load ty27 (.tmp rfl)) ?_
       refine WL.op rfl (.load ty23 (.tmp rfl)) ?_
       refine WL.mv rfl rfl ?_
       refine WL.op rfl (.fieldAddrB (o := 0) Try.underlying27 rfl (fun w => ⟨0, Try.sizeOf9 w⟩) (.tmp rfl) rfl) ?_
       refine WL.op rfl (.loadBF 10 rfl ty9 fapi_Unit_2 rfl (.tmp rfl)) ?_
       refine WL.op rfl (.build (s := tapi_Cite) (x := (⟨(1 : Int), whole1.1, find.1.Label, (0 : Int), (0 : Int)⟩ : api_Cite)) zapi_Cite_f rfl Try.underlying30 (zapi_Cite_sz _ Try.underlying30) ze30 ⟨_, (tI .i64), (1 : Int), _, _, rfl, Try.sizeOf3, .i64, sapi_Cite_0, ⟨_, (tL tapi_Step), whole1.1, _, _, rfl, Try.sizeOf28, (.tmp rfl), sapi_Cite_1, ⟨_, tS, find.1.Label, _, _, rfl, Try.sizeOf9, (.tmp rfl), sapi_Cite_2, rfl⟩⟩⟩) ?_
       obtain ⟨resolv1, hv43, hm⟩ := bind_some hm
       refine WL.op rfl (.call Try.call10 (resolve_Resolve_spec _ _ _ _ _ _ hv43) ⟨(.tmp rfl), (.tmp rfl), (.tmp rfl), (.nil (t := tapi_Id)), trivial⟩) ?_
       refine WL.mv rfl rfl ?_
       refine WL.op rfl (.extract0 (.tmp rfl)) ?_
       refine WL.op rfl (.extract1 (.tmp rfl)) ?_
       refine WL.gv rfl rfl ?_
       refine WL.gv rfl rfl ?_
       refine WL.ns ?_
       refine W.seq ?_
       refine W.seq ?_
       rcases bcases (decide (resolv.2 ≠ (0 : Int))) with hb44 | hb44
       ·have hp45 := of_decide_eq_true hb44
        rw [if_pos hp45] at hm
        refine W.draw [.c ((tI .i64).is resolv.2), .c (tB.is (decide (resolv.2 ≠ (0 : Int)))), .c (tB.is (decide (resolv.2 ≠ (0 : Int)))), .c (Asn.eq undef), .c (Asn.eq undef), .c (Asn.eq undef), .c (tB.is true), .c (tB.is true), .c (Asn.eq undef), .c (Asn.eq undef), .c (Asn.eq undef), .c (Asn.eq undef), .c (Asn.eq undef), .c (Asn.eq undef), .c (Asn.eq undef), .c (Asn.eq undef), .c (tB.is true), .c (tB.is true), .c (Asn.eq undef), .c (Asn.eq undef), .c (Asn.eq undef), .c (Asn.eq undef), .c (Asn.eq undef), .c (Asn.eq undef), .c (Asn.eq undef), .c (Asn.eq undef), .c (Asn.eq undef), .c (Asn.eq undef), .c (Asn.eq undef), .c (tB.is true)] [([], [25]), ([0], []), ([1], []), ([2], [24]), ([2, 3], []), ([2, 4], []), ([2, 5], []), ([6], []), ([7], [24]), ([7, 8], []), ([7, 9], []), ([7], [9]), ([7], [2]), ([7, 11, 12], []), ([7, 13], []), ([7, 10, 14], []), ([7, 15], []), ([16], []), ([17], [24]), ([17], [24]), ([17, 19], []), ([17, 20], []), ([17, 18, 21], []), ([17, 22], []), ([17], [9]), ([17], [3]), ([17, 24, 25], []), ([17, 26], []), ([17, 23, 27], []), ([17, 28], [])] Try.mixed rfl rfl rfl rfl (by exact ⟨.inr (Op1.move (.tmp rfl)), .inr (Op1.neI (.tmp rfl) .i64), .inr (Op1.move (.tmp rfl)), .inr (dp rfl rfl rfl hb44), .inr (dp rfl rfl rfl hb44), .inr (dp rfl rfl rfl hb44), .inr (Op1.pickT (.tmp rfl) hb44 .bool), .inr (Op1.move (.tmp rfl)), .inr (dp rfl rfl rfl rfl), .inr (dp rfl rfl rfl rfl), .inr (dp rfl rfl rfl rfl), .inr (dp rfl rfl rfl rfl), .inr (dp rfl rfl rfl rfl), .inr (dp rfl rfl rfl rfl), .inr (dp rfl rfl rfl rfl), .inr (dp rfl rfl rfl rfl), .inr (Op1.pickT (.tmp rfl) rfl .bool), .inr (Op1.move (.tmp rfl)), .inr (dp rfl rfl rfl rfl), .inr (dp rfl rfl rfl rfl), .inr (dp rfl rfl rfl rfl), .inr (dp rfl rfl rfl rfl), .inr (dp rfl rfl rfl rfl), .inr (dp rfl rfl rfl rfl), .inr (dp rfl rfl rfl rfl), .inr (dp rfl rfl rfl rfl), .inr (dp rfl rfl rfl rfl), .inr (dp rfl rfl rfl rfl), .inr (dp rfl rfl rfl rfl), .inr (Op1.pickT (.tmp rfl) rfl .bool), trivial⟩) ?_
        refine WN.seq ?_
        refine W.condT (.tmp rfl) ?_
        refine W.sr ?_
        refine WL.op rfl (.assign .bool) ?_
        refine WL.ns ?_
        cases hm
        exact W.ret1 () rfl (.tmp rfl) trivial
       ·have hp45 := of_decide_eq_false hb44
        rw [if_neg hp45] at hm
        rcases bcases (decide ((resolv.1.length : Int) < (1 : Int))) with hb46 | hb46
        ·have hp47 := of_decide_eq_true hb46
         rw [if_pos hp47] at hm
         refine W.draw [.c ((tI .i64).is resolv.2), .c (tB.is (decide (resolv.2 ≠ (0 : Int)))), .c (tB.is (decide (resolv.2 ≠ (0 : Int)))), .c ((tL tapi_Id).is resolv.1), .c ((tI .i64).is (resolv.1.length : Int)), .c (tB.is (decide ((resolv.1.length : Int) < (1 : Int)))), .c (tB.is (decide ((resolv.1.length : Int) < (1 : Int)))), .c (tB.is (decide ((resolv.1.length : Int) < (1 : Int)))), .c (Asn.eq undef), .c (Asn.eq undef), .c (Asn.eq undef), .c (Asn.eq undef), .c (Asn.eq undef), .c (Asn.eq undef), .c (Asn.eq undef), .c (Asn.eq undef), .c (tB.is true), .c (tB.is true), .c (Asn.eq undef), .c (Asn.eq undef), .c (Asn.eq undef), .c (Asn.eq undef), .c (Asn.eq undef), .c (Asn.eq undef), .c (Asn.eq undef), .c (Asn.eq undef), .c (Asn.eq undef), .c (Asn.eq undef), .c (Asn.eq undef), .c (tB.is true)] [([], [25]), ([0], []), ([1], []), ([2], [24]), ([2, 3], []), ([2, 4], []), ([2, 5], []), ([6], []), ([7], [24]), ([7, 8], []), ([7, 9], []), ([7], [9]), ([7], [2]), ([7, 11, 12], []), ([7, 13], []), ([7, 10, 14], []), ([7, 15], []), ([16], []), ([17], [24]), ([17], [24]), ([17, 19], []), ([17, 20], []), ([17, 18, 21], []), ([17, 22], []), ([17], [9]), ([17], [3]), ([17, 24, 25], []), ([17, 26], []), ([17, 23, 27], []), ([17, 28], [])] Try.mixed rfl rfl rfl rfl (by exact ⟨.inr (Op1.move (.tmp rfl)), .inr (Op1.neI (.tmp rfl) .i64), .inr (Op1.move (.tmp rfl)), .inr (dr rfl rfl rfl hb44 (Op1.move (.tmp rfl))), .inr (dr rfl rfl rfl hb44 (Op1.lenL Try.underlying31 (.tmp rfl))), .inr (dr rfl rfl rfl hb44 (Op1.ltI (.tmp rfl) .i64)), .inr (Op1.pickF (.tmp rfl) hb44 (.tmp rfl)), .inr (Op1.move (.tmp rfl)), .inr (dp rfl rfl rfl hb46), .inr (dp rfl rfl rfl hb46), .inr (dp rfl rfl rfl hb46), .inr (dp rfl rfl rfl hb46), .inr (dp rfl rfl rfl hb46), .inr (dp rfl rfl rfl hb46), .inr (dp rfl rfl rfl hb46), .inr (dp rfl rfl rfl hb46), .inr (Op1.pickT (.tmp rfl) hb46 .bool), .inr (Op1.move (.tmp rfl)), .inr (dp rfl rfl rfl rfl), .inr (dp rfl rfl rfl rfl), .inr (dp rfl rfl rfl rfl), .inr (dp rfl rfl rfl rfl), .inr (dp rfl rfl rfl rfl), .inr (dp rfl rfl rfl rfl), .inr (dp rfl rfl rfl rfl), .inr (dp rfl rfl rfl rfl), .inr (dp rfl rfl rfl rfl), .inr (dp rfl rfl rfl rfl), .inr (dp rfl rfl rfl rfl), .inr (Op1.pickT (.tmp rfl) rfl .bool), trivial⟩) ?_
         refine WN.seq ?_
         refine W.condT (.tmp rfl) ?_
         refine W.sr ?_
         refine WL.op rfl (.assign .bool) ?_
         refine WL.ns ?_
         cases hm
         exact W.ret1 () rfl (.tmp rfl) trivial
        ·have hp47 := of_decide_eq_false hb46
         rw [if_neg hp47] at hm
         obtain ⟨v8, hv48, hm⟩ := bind_some hm
         obtain ⟨v9, hv49, hm⟩ := bind_some hm
         rcases bcases (decide (v8 ≠ v9)) with hb50 | hb50
         ·have hp51 := of_decide_eq_true hb50
          rw [if_pos hp51] at hm
          refine W.draw [.c ((tI .i64).is resolv.2), .c (tB.is (decide (resolv.2 ≠ (0 : Int)))), .c (tB.is (decide (resolv.2 ≠ (0 : Int)))), .c ((tL tapi_Id).is resolv.1), .c ((tI .i64).is (resolv.1.length : Int)), .c (tB.is (decide ((resolv.1.length : Int) < (1 : Int)))), .c (tB.is (decide ((resolv.1.length : Int) < (1 : Int)))), .c (tB.is (decide ((resolv.1.length : Int) < (1 : Int)))), .c ((tL tapi_Id).is resolv.1), .c (tapi_Id.ptr v8), .c (tapi_Id.is v8), .c ((tL tapi_Id).is all), .c ((tI .i64).is i), .c (tapi_Id.ptr v9), .c (tapi_Id.is v9), .c (tB.is (decide (v8 ≠ v9))), .c (tB.is (decide (v8 ≠ v9))), .c (tB.is (decide (v8 ≠ v9))), .c (Asn.eq undef), .c (Asn.eq undef), .c (Asn.eq undef), .c (Asn.eq undef), .c (Asn.eq undef), .c (Asn.eq undef), .c (Asn.eq undef), .c (Asn.eq undef), .c (Asn.eq undef), .c (Asn.eq undef), .c (Asn.eq undef), .c (tB.is true)] [([], [25]), ([0], []), ([1], []), ([2], [24]), ([2, 3], []), ([2, 4], []), ([2, 5], []), ([6], []), ([7], [24]), ([7, 8], []), ([7, 9], []), ([7], [9]), ([7], [2]), ([7, 11, 12], []), ([7, 13], []), ([7, 10, 14], []), ([7, 15], []), ([16], []), ([17], [24]), ([17], [24]), ([17, 19], []), ([17, 20], []), ([17, 18, 21], []), ([17, 22], []), ([17], [9]), ([17], [3]), ([17, 24, 25], []), ([17, 26], []), ([17, 23, 27], []), ([17, 28], [])] Try.mixed rfl rfl rfl rfl (by exact ⟨.inr (Op1.move (.tmp rfl)), .inr (Op1.neI (.tmp rfl) .i64), .inr (Op1.move (.tmp rfl)), .inr (dr rfl rfl rfl hb44 (Op1.move (.tmp rfl))), .inr (dr rfl rfl rfl hb44 (Op1.lenL Try.underlying31 (.tmp rfl))), .inr (dr rfl rfl rfl hb44 (Op1.ltI (.tmp rfl) .i64)), .inr (Op1.pickF (.tmp rfl) hb44 (.tmp rfl)), .inr (Op1.move (.tmp rfl)), .inr (dr rfl rfl rfl hb46 (Op1.move (.tmp rfl))), .inr (dr rfl rfl rfl hb46 (Op1.idx hv48 Try.underlying31 Try.sizeOf23 (.tmp rfl) .i64)), .inr (dr rfl rfl rfl hb46 (Op1.load ty23 (.tmp rfl))), .inr (dr rfl rfl rfl hb46 (Op1.move (.tmp rfl))), .inr (dr rfl rfl rfl hb46 (Op1.move (.tmp rfl))), .inr (dr rfl rfl rfl hb46 (Op1.idx hv49 Try.underlying31 Try.sizeOf23 (.tmp rfl) (.tmp rfl))), .inr (dr rfl rfl rfl hb46 (Op1.load ty23 (.tmp rfl))), .inr (dr rfl rfl rfl hb46 (Op1.neSt (D := 2) rfl (by decide) eg23 eq23 (.tmp rfl) (.tmp rfl))), .inr (Op1.pickF (.tmp rfl) hb46 (.tmp rfl)), .inr (Op1.move (.tmp rfl)), .inr (dp rfl rfl rfl hb50), .inr (dp rfl rfl rfl hb50), .inr (dp rfl rfl rfl hb50), .inr (dp rfl rfl rfl hb50), .inr (dp rfl rfl rfl hb50), .inr (dp rfl rfl rfl hb50), .inr (dp rfl rfl rfl hb50), .inr (dp rfl rfl rfl hb50), .inr (dp rfl rfl rfl hb50), .inr (dp rfl rfl rfl hb50), .inr (dp rfl rfl rfl hb50), .inr (Op1.pickT (.tmp rfl) hb50 .bool), trivial⟩) ?_
          refine WN.seq ?_
          refine W.condT (.tmp rfl) ?_
          refine W.sr ?_
          refine WL.op rfl (.assign .bool) ?_
          refine WL.ns ?_
          cases hm
          exact W.ret1 () rfl (.tmp rfl) trivial
         ·have hp51 := of_decide_eq_false hb50
          rw [if_neg hp51] at hm
          obtain ⟨v10, hv52, hm⟩ := bind_some hm
          obtain ⟨v11, hv53, hm⟩ := bind_some hm
          obtain ⟨v12, hv54, hm⟩ := bind_some hm
          refine W.draw [.c ((tI .i64).is resolv.2), .c (tB.is (decide (resolv.2 ≠ (0 : Int)))), .c (tB.is (decide (resolv.2 ≠ (0 : Int)))), .c ((tL tapi_Id).is resolv.1), .c ((tI .i64).is (resolv.1.length : Int)), .c (tB.is (decide ((resolv.1.length : Int) < (1 : Int)))), .c (tB.is (decide ((resolv.1.length : Int) < (1 : Int)))), .c (tB.is (decide ((resolv.1.length : Int) < (1 : Int)))), .c ((tL tapi_Id).is resolv.1), .c (tapi_Id.ptr v8), .c (tapi_Id.is v8), .c ((tL tapi_Id).is all), .c ((tI .i64).is i), .c (tapi_Id.ptr v9), .c (tapi_Id.is v9), .c (tB.is (decide (v8 ≠ v9))), .c (tB.is (decide (v8 ≠ v9))), .c (tB.is (decide (v8 ≠ v9))), .c ((tL tapi_Id).is resolv.1), .c ((tL tapi_Id).is resolv.1), .c ((tI .i64).is (resolv.1.length : Int)), .c ((tI .i64).is v10), .c (tapi_Id.ptr v11), .c (tapi_Id.is v11), .c ((tL tapi_Id).is all), .c ((tI .i64).is k), .c (tapi_Id.ptr v12), .c (tapi_Id.is v12), .c (tB.is (decide (v11 ≠ v12))), .c (tB.is (decide (v11 ≠ v12)))] [([], [25]), ([0], []), ([1], []), ([2], [24]), ([2, 3], []), ([2, 4], []), ([2, 5], []), ([6], []), ([7], [24]), ([7, 8], []), ([7, 9], []), ([7], [9]), ([7], [2]), ([7, 11, 12], []), ([7, 13], []), ([7, 10, 14], []), ([7, 15], []), ([16], []), ([17], [24]), ([17], [24]), ([17, 19], []), ([17, 20], []), ([17, 18, 21], []), ([17, 22], []), ([17], [9]), ([17], [3]), ([17, 24, 25], []), ([17, 26], []), ([17, 23, 27], []), ([17, 28], [])] Try.mixed rfl rfl rfl rfl (by exact ⟨.inr (Op1.move (.tmp rfl)), .inr (Op1.neI (.tmp rfl) .i64), .inr (Op1.move (.tmp rfl)), .inr (dr rfl rfl rfl hb44 (Op1.move (.tmp rfl))), .inr (dr rfl rfl rfl hb44 (Op1.lenL Try.underlying31 (.tmp rfl))), .inr (dr rfl rfl rfl hb44 (Op1.ltI (.tmp rfl) .i64)), .inr (Op1.pickF (.tmp rfl) hb44 (.tmp rfl)), .inr (Op1.move (.tmp rfl)), .inr (dr rfl rfl rfl hb46 (Op1.move (.tmp rfl))), .inr (dr rfl rfl rfl hb46 (Op1.idx hv48 Try.underlying31 Try.sizeOf23 (.tmp rfl) .i64)), .inr (dr rfl rfl rfl hb46 (Op1.load ty23 (.tmp rfl))), .inr (dr rfl rfl rfl hb46 (Op1.move (.tmp rfl))), .inr (dr rfl rfl rfl hb46 (Op1.move (.tmp rfl))), .inr (dr rfl rfl rfl hb46 (Op1.idx hv49 Try.underlying31 Try.sizeOf23 (.tmp rfl) (.tmp rfl))), .inr (dr rfl rfl rfl hb46 (Op1.load ty23 (.tmp rfl))), .inr (dr rfl rfl rfl hb46 (Op1.neSt (D := 2) rfl (by decide) eg23 eq23 (.tmp rfl) (.tmp rfl))), .inr (Op1.pickF (.tmp rfl) hb46 (.tmp rfl)), .inr (Op1.move (.tmp rfl)), .inr (dr rfl rfl rfl hb50 (Op1.move (.tmp rfl))), .inr (dr rfl rfl rfl hb50 (Op1.move (.tmp rfl))), .inr (dr rfl rfl rfl hb50 (Op1.lenL Try.underlying31 (.tmp rfl))), .inr (dr rfl rfl rfl hb50 (Op1.subC hv52 (.tmp rfl) .i64)), .inr (dr rfl rfl rfl hb50 (Op1.idx hv53 Try.underlying31 Try.sizeOf23 (.tmp rfl) (.tmp rfl))), .inr (dr rfl rfl rfl hb50 (Op1.load ty23 (.tmp rfl))), .inr (dr rfl rfl rfl hb50 (Op1.move (.tmp rfl))), .inr (dr rfl rfl rfl hb50 (Op1.move (.tmp rfl))), .inr (dr rfl rfl rfl hb50 (Op1.idx hv54 Try.underlying31 Try.sizeOf23 (.tmp rfl) (.tmp rfl))), .inr (dr rfl rfl rfl hb50 (Op1.load ty23 (.tmp rfl))), .inr (dr rfl rfl rfl hb50 (Op1.neSt (D := 2) rfl (by decide) eg23 eq23 (.tmp rfl) (.tmp rfl))), .inr (Op1.pickF (.tmp rfl) hb50 (.tmp rfl)), trivial⟩) ?_
          refine WN.seq ?_
          refine W.cond (.tmp rfl) (fun hc55 => ?_) (fun hc55 => ?_)
          ·have hp56 := of_decide_eq_true hc55
           rw [if_pos hp56] at hm
           refine W.sr ?_
           refine WL.op rfl (.assign .bool) ?_
           refine WL.ns ?_
           cases hm
           exact W.ret1 () rfl (.tmp rfl) trivial
          ·have hp56 := of_decide_eq_false hc55
           rw [if_neg hp56] at hm
           refine W.skip ?_
           refine WN.seq ?_
           refine W.seq ?_
           refine W.sr ?_
           refine WL.mv rfl rfl ?_
           refine WL.mv rfl rfl ?_
           refine WL.op rfl (.eqI (.tmp rfl) (.tmp rfl)) ?_
           refine WL.ns ?_
           refine W.cond (.tmp rfl) (fun hc57 => ?_) (fun hc57 => ?_)
           ·have hp58 := of_decide_eq_true hc57
            rw [if_pos hp58] at hm
            obtain ⟨s59, hs60, hk61⟩ := bind_some hm
            clear hm
            refine W.join (fun s : Bool => s = s59) (fun s => [(8, (tB.is s))]) (fun s => [(10, (Bx 8 true 27 (tapi_Unit.is find.1) (bk (cv 0)))), (12, (Bx 8 true 27 (tapi_Unit.is find1.1) (bk (cv1 0)))), (14, (Bx 3 true 23 (tapi_Id.is parent.1) (bk (cv2 0)))), (17, (Bx 3 true 23 (tapi_Id.is parent1.1) (bk (cv3 0))))]) ?_ ?_
            ·rintro v13 hj66
             try dsimp only at hj66
             subst hj66
             have hm := hk61
             clear hk61
             try dsimp only at hm
             change W _ _ _ _ _ _ _ [(8, (tB.is v13))] [(10, (Bx 8 true 27 (tapi_Unit.is find.1) (bk (cv 0)))), (12, (Bx 8 true 27 (tapi_Unit.is find1.1) (bk (cv1 0)))), (14, (Bx 3 true 23 (tapi_Id.is parent.1) (bk (cv2 0)))), (17, (Bx 3 true 23 (tapi_Id.is parent1.1) (bk (cv3 0))))]
             cases hm
             exact W.ret1 () rfl (.tmp rfl) trivial
            ·have hm := hs60
             clear hs60
             refine W.region ?_
             refine WL.mv rfl rfl ?_
             refine WL.op rfl (.eqI (.tmp rfl) .i64) ?_
             refine WL.mv rfl rfl ?_
             rcases bcases (decide (resolv1.2 = (0 : Int))) with hb62 | hb62
             ·have hp63 := of_decide_eq_true hb62
              rw [if_pos hp63] at hm
              refine WL.run rfl rfl rfl rfl hb62 rfl rfl (Op1.move (.tmp rfl)) ?_
              refine WL.run rfl rfl rfl rfl hb62 rfl rfl (Op1.lenL Try.underlying31 (.tmp rfl)) ?_
              refine WL.run rfl rfl rfl rfl hb62 rfl rfl (Op1.eqI (.tmp rfl) .i64) ?_
              refine WL.op rfl (.pickT (.tmp rfl) hb62 (.tmp rfl)) ?_
              refine WL.mv rfl rfl ?_
              rcases bcases (decide ((resolv.1.length : Int) = (1 : Int))) with hb64 | hb64
              ·have hp65 := of_decide_eq_true hb64
               rw [if_pos hp65] at hm
               refine WL.run rfl rfl rfl rfl hb64 rfl rfl (Op1.move (.tmp rfl)) ?_
               refine WL.run rfl rfl rfl rfl hb64 rfl rfl (Op1.lenL Try.underlying31 (.tmp rfl)) ?_
               refine WL.run rfl rfl rfl rfl hb64 rfl rfl (Op1.eqI (.tmp rfl) .i64) ?_
               refine WL.op rfl (.pickT (.tmp rfl) hb64 (.tmp rfl)) ?_
               refine WL.gv rfl rfl ?_
               refine WL.nil ?_
               exact WN.meet (decide ((resolv1.1.length : Int) = (1 : Int))) (Option.some.inj hm) ⟨Ent.q rfl, trivial⟩ ⟨rfl, rfl, ⟨rfl, rfl, ⟨rfl, rfl, ⟨rfl, rfl, trivial⟩⟩⟩⟩
              ·have hp65 := of_decide_eq_false hb64
               rw [if_neg hp65] at hm
               iterate 3 refine WL.pass rfl rfl rfl rfl hb64 rfl rfl ?_
               refine WL.op rfl (.pickF (.tmp rfl) hb64 .bool) ?_
               refine WL.gv rfl rfl ?_
               refine WL.nil ?_
               exact WN.meet false (Option.some.inj hm) ⟨Ent.q rfl, trivial⟩ ⟨rfl, rfl, ⟨rfl, rfl, ⟨rfl, rfl, ⟨rfl, rfl, trivial⟩⟩⟩⟩
             ·have hp63 := of_decide_eq_false hb62
              rw [if_neg hp63] at hm
              iterate 3 refine WL.pass rfl rfl rfl rfl hb62 rfl rfl ?_
              refine WL.op rfl (.pickF (.tmp rfl) hb62 .bool) ?_
              refine WL.mv rfl rfl ?_
              iterate 3 refine WL.pass rfl rfl rfl rfl rfl rfl rfl ?_
              refine WL.op rfl (.pickF (.tmp rfl) rfl .bool) ?_
              refine WL.gv rfl rfl ?_
              refine WL.nil ?_
              exact WN.meet false (Option.some.inj hm) ⟨Ent.q rfl, trivial⟩ ⟨rfl, rfl, ⟨rfl, rfl, ⟨rfl, rfl, ⟨rfl, rfl, trivial⟩⟩⟩⟩
           ·have hp58 := of_decide_eq_false hc57
            rw [if_neg hp58] at hm
            refine W.skip ?_
            refine WN.seq ?_
            refine W.sr ?_
            refine WL.op rfl (.load ty27 (.tmp rfl)) ?_
            refine WL.op rfl (.loadB 14 Try.isAgg23 Try.sizeOf23 rfl (.tmp rfl)) ?_
            obtain ⟨find2, hv67, hm⟩ := bind_some hm
            refine WL.op rfl (.call Try.call20 (r06_Find_spec _ _ _ _ hv67) ⟨(.tmp rfl), (.tmp rfl), trivial⟩) ?_
            refine WL.mv rfl rfl ?_
            refine WL.op rfl (.extract0 (.tmp rfl)) ?_
            refine WL.op rfl (.extract1 (.tmp rfl)) ?_
            refine WL.opR rfl (OpR.alloc 28 ze27) (fun b => ?_)
            refine WL.opU (OpR.storeB (b := b) 28 Try.sizeOf27 (Cellable.is tapi_Unit find2.1) rfl (.tmp rfl) (.tmp rfl)) (fun _ => ?_)
            refine WL.sealed (t := tapi_Unit) (u := find2.1) 28 28 rfl rfl ?_
            refine WL.gv rfl rfl ?_
            refine WL.nr ?_
            refine WL.op rfl (.assign .i64) ?_
            refine WL.ns ?_
            refine W.seq ?_
            refine W.sr ?_
            refine WL.mv rfl rfl ?_
            refine WL.gv rfl rfl ?_
            refine WL.ns ?_
            refine W.block ?_
            obtain ⟨s68, hs69, hk70⟩ := bind_some hm
            clear hm
            refine W.loop (fun m (s : Int × Int) => M.law41_ResolveRange_loop1 find parent1 resolv find2 m s.1 s.2 = some s68) (fun s => [(30, ((tI .i64).is s.1)), (31, ((tI .i64).is s.2)), (10, (Bp (bk (cv 0)) 0)), (18, ((tI .i64).is parent1.2.1)), (24, ((tL tapi_Id).is resolv.1)), (26, ((tL tapi_Id).is resolv1.1)), (27, ((tI .i64).is resolv1.2)), (28, (tapi_Unit.ptr find2.1))]) (fun s => [(10, (Bx 8 true 27 (tapi_Unit.is find.1) (bk (cv 0)))), (12, (Bx 8 true 27 (tapi_Unit.is find1.1) (bk (cv1 0)))), (14, (Bx 3 true 23 (tapi_Id.is parent.1) (bk (cv2 0)))), (17, (Bx 3 true 23 (tapi_Id.is parent1.1) (bk (cv3 0))))]) _ ((0 : Int), parent.2.1) hs69 ⟨Ent.q rfl, Ent.q rfl, Ent.q rfl, Ent.q rfl, Ent.q rfl, Ent.q rfl, Ent.q rfl, Ent.q rfl, trivial⟩ ⟨rfl, rfl, ⟨rfl, rfl, ⟨rfl, rfl, ⟨rfl, rfl, trivial⟩⟩⟩⟩ ?_
            rintro n71 ⟨n0_, j⟩ hm
            try dsimp only at hm
            change W _ _ _ _ _ _ _ [(30, ((tI .i64).is n0_)), (31, ((tI .i64).is j)), (10, (Bp (bk (cv 0)) 0)), (18, ((tI .i64).is parent1.2.1)), (24, ((tL tapi_Id).is resolv.1)), (26, ((tL tapi_Id).is resolv1.1)), (27, ((tI .i64).is resolv1.2)), (28, (tapi_Unit.ptr find2.1))] [(10, (Bx 8 true 27 (tapi_Unit.is find.1) (bk (cv 0)))), (12, (Bx 8 true 27 (tapi_Unit.is find1.1) (bk (cv1 0)))), (14, (Bx 3 true 23 (tapi_Id.is parent.1) (bk (cv2 0)))), (17, (Bx 3 true 23 (tapi_Id.is parent1.1) (bk (cv3 0))))]
            cases n71 with
            | zero => rw [M.law41_ResolveRange_loop1.eq_1] at hm; cases hm
            | succ n71 =>
             rw [M.law41_ResolveRange_loop1.eq_2] at hm
             refine W.seq ?_
             refine W.sr ?_
             refine WL.mv rfl rfl ?_
             refine WL.mv rfl rfl ?_
             refine WL.op rfl (.leI (.tmp rfl) (.tmp rfl)) ?_
             refine WL.ns ?_
             refine W.cond (.tmp rfl) (fun hc72 => ?_) (fun hc72 => ?_)
             ·have hp73 := of_decide_eq_true hc72
              rw [if_pos hp73] at hm
              refine W.skip ?_
              refine WN.seq ?_
              refine W.seq ?_
              refine W.block ?_
              refine W.seq ?_
              obtain ⟨v14, hv74, hm⟩ := bind_some hm
              refine W.draw [.c ((tL tapi_Unit).ptr find2.1.Kids), .c ((tL tapi_Unit).is find2.1.Kids), .c ((tI .i64).is j), .c (tapi_Unit.ptr v14), .c ((tI .i64).ptr v14.Kind), .c ((tI .i64).is v14.Kind), .c (Bp (bk (cv 0)) 3), .c ((tI .i64).is find.1.Kind), .c (tB.is (decide (v14.Kind = find.1.Kind)))] [([], [28]), ([0], []), ([], [31]), ([1, 2], []), ([3], []), ([4], []), ([], [10]), ([6], []), ([5, 7], [])] Try.mixed rfl rfl rfl rfl ⟨.inr (Op1.fieldAddr Try.underlying27 rfl (fun w => ⟨0, Try.sizeOf25 w⟩) fapi_Unit_5 (.tmp rfl)), .inr (Op1.load ty25 (.tmp rfl)), .inr (Op1.move (.tmp rfl)), .inr (Op1.idx hv74 Try.underlying25 Try.sizeOf27 (.tmp rfl) (.tmp rfl)), .inr (Op1.fieldAddr Try.underlying27 rfl (fun w => ⟨0, Try.sizeOf3 w⟩) fapi_Unit_1 (.tmp rfl)), .inr (Op1.load ty3 (.tmp rfl)), .inr (Op1.fieldAddrB (o := 0) Try.underlying27 rfl (fun w => ⟨0, Try.sizeOf3 w⟩) (.tmp rfl) rfl), .inr (Op1.loadBF 10 rfl ty3 fapi_Unit_1 rfl (.tmp rfl)), .inr (Op1.eqI (.tmp rfl) (.tmp rfl)), trivial⟩ ?_
              refine WN.seq ?_
              refine W.cond (.tmp rfl) (fun hc75 => ?_) (fun hc75 => ?_)
              ·have hp76 := of_decide_eq_true hc75
               rw [if_pos hp76] at hm
               refine W.seq ?_
               refine W.seq ?_
               rcases bcases (decide ((resolv.1.length : Int) ≤ n0_)) with hb77 | hb77
               ·have hp78 := of_decide_eq_true hb77
                rw [if_pos hp78] at hm
                refine W.draw [.c ((tI .i64).is n0_), .c ((tL tapi_Id).is resolv.1), .c ((tI .i64).is (resolv.1.length : Int)), .c (tB.is (decide ((resolv.1.length : Int) ≤ n0_))), .c (tB.is (decide ((resolv.1.length : Int) ≤ n0_))), .c (Asn.eq undef), .c (Asn.eq undef), .c (Asn.eq undef), .c (Asn.eq undef), .c (Asn.eq undef), .c (Asn.eq undef), .c (Asn.eq undef), .c (Asn.eq undef), .c (Asn.eq undef), .c (Asn.eq undef), .c (Asn.eq undef), .c (tB.is true)] [([], [30]), ([], [24]), ([1], []), ([0, 2], []), ([3], []), ([4], [24]), ([4], [30]), ([4, 5, 6], []), ([4, 7], []), ([4], [28]), ([4, 9], []), ([4], [31]), ([4, 10, 11], []), ([4, 12], []), ([4, 13], []), ([4, 8, 14], []), ([4, 15], [])] Try.mixed rfl rfl rfl rfl ⟨.inr (Op1.move (.tmp rfl)), .inr (Op1.move (.tmp rfl)), .inr (Op1.lenL Try.underlying31 (.tmp rfl)), .inr (Op1.geI (.tmp rfl) (.tmp rfl)), .inr (Op1.move (.tmp rfl)), .inr (dp rfl rfl rfl hb77), .inr (dp rfl rfl rfl hb77), .inr (dp rfl rfl rfl hb77), .inr (dp rfl rfl rfl hb77), .inr (dp rfl rfl rfl hb77), .inr (dp rfl rfl rfl hb77), .inr (dp rfl rfl rfl hb77), .inr (dp rfl rfl rfl hb77), .inr (dp rfl rfl rfl hb77), .inr (dp rfl rfl rfl hb77), .inr (dp rfl rfl rfl hb77), .inr (Op1.pickT (.tmp rfl) hb77 .bool), trivial⟩ ?_
                refine WN.seq ?_
                refine W.condT (.tmp rfl) ?_
                refine W.sr ?_
                refine WL.op rfl (.assign .bool) ?_
                refine WL.ns ?_
                have hr79 := Option.some.inj hm
                clear hm
                subst hr79
                have hm := hk70
                try dsimp only at hm
                cases hm
                exact W.ret1 () rfl (.tmp rfl) trivial
               ·have hp78 := of_decide_eq_false hb77
                rw [if_neg hp78] at hm
                obtain ⟨v15, hv80, hm⟩ := bind_some hm
                obtain ⟨v16, hv81, hm⟩ := bind_some hm
                refine W.draw [.c ((tI .i64).is n0_), .c ((tL tapi_Id).is resolv.1), .c ((tI .i64).is (resolv.1.length : Int)), .c (tB.is (decide ((resolv.1.length : Int) ≤ n0_))), .c (tB.is (decide ((resolv.1.length : Int) ≤ n0_))), .c ((tL tapi_Id).is resolv.1), .c ((tI .i64).is n0_), .c (tapi_Id.ptr v15), .c (tapi_Id.is v15), .c ((tL tapi_Unit).ptr find2.1.Kids), .c ((tL tapi_Unit).is find2.1.Kids), .c ((tI .i64).is j), .c (tapi_Unit.ptr v16), .c (tapi_Id.ptr v16.Id), .c (tapi_Id.is v16.Id), .c (tB.is (decide (v15 ≠ v16.Id))), .c (tB.is (decide (v15 ≠ v16.Id)))] [([], [30]), ([], [24]), ([1], []), ([0, 2], []), ([3], []), ([4], [24]), ([4], [30]), ([4, 5, 6], []), ([4, 7], []), ([4], [28]), ([4, 9], []), ([4], [31]), ([4, 10, 11], []), ([4, 12], []), ([4, 13], []), ([4, 8, 14], []), ([4, 15], [])] Try.mixed rfl rfl rfl rfl ⟨.inr (Op1.move (.tmp rfl)), .inr (Op1.move (.tmp rfl)), .inr (Op1.lenL Try.underlying31 (.tmp rfl)), .inr (Op1.geI (.tmp rfl) (.tmp rfl)), .inr (Op1.move (.tmp rfl)), .inr (dr rfl rfl rfl hb77 (Op1.move (.tmp rfl))), .inr (dr rfl rfl rfl hb77 (Op1.move (.tmp rfl))), .inr (dr rfl rfl rfl hb77 (Op1.idx hv80 Try.underlying31 Try.sizeOf23 (.tmp rfl) (.tmp rfl))), .inr (dr rfl rfl rfl hb77 (Op1.load ty23 (.tmp rfl))), .inr (dr rfl rfl rfl hb77 (Op1.fieldAddr Try.underlying27 rfl (fun w => ⟨0, Try.sizeOf25 w⟩) fapi_Unit_5 (.tmp rfl))), .inr (dr rfl rfl rfl hb77 (Op1.load ty25 (.tmp rfl))), .inr (dr rfl rfl rfl hb77 (Op1.move (.tmp rfl))), .inr (dr rfl rfl rfl hb77 (Op1.idx hv81 Try.underlying25 Try.sizeOf27 (.tmp rfl) (.tmp rfl))), .inr (dr rfl rfl rfl hb77 (Op1.fieldAddr Try.underlying27 rfl (fun w => ⟨2, Try.sizeOf23 w⟩) fapi_Unit_0 (.tmp rfl))), .inr (dr rfl rfl rfl hb77 (Op1.load ty23 (.tmp rfl))), .inr (dr rfl rfl rfl hb77 (Op1.neSt (D := 2) rfl (by decide) eg23 eq23 (.tmp rfl) (.tmp rfl))), .inr (Op1.pickF (.tmp rfl) hb77 (.tmp rfl)), trivial⟩ ?_
                refine WN.seq ?_
                refine W.cond (.tmp rfl) (fun hc82 => ?_) (fun hc82 => ?_)
                ·have hp83 := of_decide_eq_true hc82
                 rw [if_pos hp83] at hm
                 refine W.sr ?_
                 refine WL.op rfl (.assign .bool) ?_
                 refine WL.ns ?_
                 have hr84 := Option.some.inj hm
                 clear hm
                 subst hr84
                 have hm := hk70
                 try dsimp only at hm
                 cases hm
                 exact W.ret1 () rfl (.tmp rfl) trivial
                ·have hp83 := of_decide_eq_false hc82
                 rw [if_neg hp83] at hm
                 refine W.skip ?_
                 refine WN.seq ?_
                 refine W.region ?_
                 refine WL.mv rfl rfl ?_
                 obtain ⟨v17, hv85, hm⟩ := bind_some hm
                 refine WL.op rfl (.addC hv85 (.tmp rfl) .i64) ?_
                 refine WL.gv rfl rfl ?_
                 refine WL.nil ?_
                 refine WN.block ?_
                 refine WN.seq ?_
                 refine W.region ?_
                 refine WL.mv rfl rfl ?_
                 obtain ⟨v18, hv86, hm⟩ := bind_some hm
                 refine WL.op rfl (.addC hv86 (.tmp rfl) .i64) ?_
                 refine WL.gv rfl rfl ?_
                 refine WL.nil ?_
                 exact WN.again n71 (v17, v18) (Nat.lt_succ_self n71) hm ⟨Ent.q rfl, Ent.q rfl, Ent.q rfl, Ent.q rfl, Ent.q rfl, Ent.q rfl, Ent.q rfl, Ent.q rfl, trivial⟩ ⟨rfl, rfl, ⟨rfl, rfl, ⟨rfl, rfl, ⟨rfl, rfl, trivial⟩⟩⟩⟩
              ·have hp76 := of_decide_eq_false hc75
               rw [if_neg hp76] at hm
               refine W.skip ?_
               refine WN.block ?_
               refine WN.seq ?_
               refine W.region ?_
               refine WL.mv rfl rfl ?_
               obtain ⟨v19, hv87, hm⟩ := bind_some hm
               refine WL.op rfl (.addC hv87 (.tmp rfl) .i64) ?_
               refine WL.gv rfl rfl ?_
               refine WL.nil ?_
               exact WN.again n71 (n0_, v19) (Nat.lt_succ_self n71) hm ⟨Ent.q rfl, Ent.q rfl, Ent.q rfl, Ent.q rfl, Ent.q rfl, Ent.q rfl, Ent.q rfl, Ent.q rfl, trivial⟩ ⟨rfl, rfl, ⟨rfl, rfl, ⟨rfl, rfl, ⟨rfl, rfl, trivial⟩⟩⟩⟩
             ·have hp73 := of_decide_eq_false hc72
              rw [if_neg hp73] at hm
              refine W.exit rfl ?_
              have hr88 := Option.some.inj hm
              clear hm
              subst hr88
              have hm := hk70
              try dsimp only at hm
              refine WN.seq ?_
              refine W.sr ?_
              refine WL.mv rfl rfl ?_
              refine WL.op rfl (.eqI (.tmp rfl) .i64) ?_
              refine WL.mv rfl rfl ?_
              rcases bcases (decide (resolv1.2 = (12 : Int))) with hb89 | hb89
              ·have hp90 := of_decide_eq_true hb89
               rw [if_pos hp90] at hm
               refine WL.run rfl rfl rfl rfl hb89 rfl rfl (Op1.move (.tmp rfl)) ?_
               refine WL.run rfl rfl rfl rfl hb89 rfl rfl (Op1.lenL Try.underlying31 (.tmp rfl)) ?_
               refine WL.run rfl rfl rfl rfl hb89 rfl rfl (Op1.eqI (.tmp rfl) .i64) ?_
               refine WL.op rfl (.pickT (.tmp rfl) hb89 (.tmp rfl)) ?_
               refine WL.mv rfl rfl ?_
               rcases bcases (decide ((resolv1.1.length : Int) = (0 : Int))) with hb91 | hb91
               ·have hp92 := of_decide_eq_true hb91
                rw [if_pos hp92] at hm
                refine WL.run rfl rfl rfl rfl hb91 rfl rfl (Op1.move (.tmp rfl)) ?_
                refine WL.run rfl rfl rfl rfl hb91 rfl rfl (Op1.move (.tmp rfl)) ?_
                refine WL.run rfl rfl rfl rfl hb91 rfl rfl (Op1.lenL Try.underlying31 (.tmp rfl)) ?_
                refine WL.run rfl rfl rfl rfl hb91 rfl rfl (Op1.eqI (.tmp rfl) (.tmp rfl)) ?_
                refine WL.op rfl (.pickT (.tmp rfl) hb91 (.tmp rfl)) ?_
                refine WL.gv rfl rfl ?_
                refine WL.ns ?_
                cases hm
                exact W.ret1 () rfl (.tmp rfl) trivial
               ·have hp92 := of_decide_eq_false hb91
                rw [if_neg hp92] at hm
                iterate 4 refine WL.pass rfl rfl rfl rfl hb91 rfl rfl ?_
                refine WL.op rfl (.pickF (.tmp rfl) hb91 .bool) ?_
                refine WL.gv rfl rfl ?_
                refine WL.ns ?_
                cases hm
                exact W.ret1 () rfl (.tmp rfl) trivial
              ·have hp90 := of_decide_eq_false hb89
               rw [if_neg hp90] at hm
               iterate 3 refine WL.pass rfl rfl rfl rfl hb89 rfl rfl ?_
               refine WL.op rfl (.pickF (.tmp rfl) hb89 .bool) ?_
               refine WL.mv rfl rfl ?_
               iterate 4 refine WL.pass rfl rfl rfl rfl rfl rfl rfl ?_
               refine WL.op rfl (.pickF (.tmp rfl) rfl .bool) ?_
               refine WL.gv rfl rfl ?_
               refine WL.ns ?_
               cases hm
               exact W.ret1 () rfl (.tmp rfl) trivial
     ·have hm := hs28
      clear hs28
      refine W.region ?_
      refine WL.op rfl (.loadB 14 Try.isAgg23 Try.sizeOf23 rfl (.tmp rfl)) ?_
      refine WL.op rfl (.loadB 17 Try.isAgg23 Try.sizeOf23 rfl (.tmp rfl)) ?_
      refine WL.op rfl (.neSt (D := 2) rfl (by decide) eg23 eq23 (.tmp rfl) (.tmp rfl)) ?_
      refine WL.mv rfl rfl ?_
      rcases bcases (decide (parent.1 ≠ parent1.1)) with hb30 | hb30
      ·have hp31 := of_decide_eq_true hb30
       rw [if_pos hp31] at hm
       iterate 5 refine WL.pass rfl rfl rfl rfl hb30 rfl rfl ?_
       refine WL.op rfl (.pickT (.tmp rfl) hb30 .bool) ?_
       refine WL.mv rfl rfl ?_
       iterate 3 refine WL.pass rfl rfl rfl rfl rfl rfl rfl ?_
       refine WL.op rfl (.pickT (.tmp rfl) rfl .bool) ?_
       refine WL.mv rfl rfl ?_
       iterate 3 refine WL.pass rfl rfl rfl rfl rfl rfl rfl ?_
       refine WL.op rfl (.pickT (.tmp rfl) rfl .bool) ?_
       refine WL.nil ?_
       exact WN.meet true (Option.some.inj hm) ⟨Ent.q rfl, Ent.q rfl, Ent.q rfl, Ent.q rfl, Ent.q rfl, Ent.q rfl, Ent.q rfl, Ent.q rfl, Ent.q rfl, Ent.q rfl, Ent.q rfl, trivial⟩ ⟨rfl, rfl, ⟨rfl, rfl, ⟨rfl, rfl, ⟨rfl, rfl, trivial⟩⟩⟩⟩
      ·have hp31 := of_decide_eq_false hb30
       rw [if_neg hp31] at hm
       refine WL.run rfl rfl rfl rfl hb30 rfl rfl (Op1.fieldAddrB (o := 0) Try.underlying27 rfl (fun w => ⟨0, Try.sizeOf3 w⟩) (.tmp rfl) rfl) ?_
       refine WL.run rfl rfl rfl rfl hb30 rfl rfl (Op1.loadBF 10 rfl ty3 fapi_Unit_1 rfl (.tmp rfl)) ?_
       refine WL.run rfl rfl rfl rfl hb30 rfl rfl (Op1.fieldAddrB (o := 0) Try.underlying27 rfl (fun w => ⟨0, Try.sizeOf3 w⟩) (.tmp rfl) rfl) ?_
       refine WL.run rfl rfl rfl rfl hb30 rfl rfl (Op1.loadBF 12 rfl ty3 fapi_Unit_1 rfl (.tmp rfl)) ?_
       refine WL.run rfl rfl rfl rfl hb30 rfl rfl (Op1.neI (.tmp rfl) (.tmp rfl)) ?_
       refine WL.op rfl (.pickF (.tmp rfl) hb30 (.tmp rfl)) ?_
       refine WL.mv rfl rfl ?_
       rcases bcases (decide (find.1.Kind ≠ find1.1.Kind)) with hb32 | hb32
       ·have hp33 := of_decide_eq_true hb32
        rw [if_pos hp33] at hm
        iterate 3 refine WL.pass rfl rfl rfl rfl hb32 rfl rfl ?_
        refine WL.op rfl (.pickT (.tmp rfl) hb32 .bool) ?_
        refine WL.mv rfl rfl ?_
        iterate 3 refine WL.pass rfl rfl rfl rfl rfl rfl rfl ?_
        refine WL.op rfl (.pickT (.tmp rfl) rfl .bool) ?_
        refine WL.nil ?_
        exact WN.meet true (Option.some.inj hm) ⟨Ent.q rfl, Ent.q rfl, Ent.q rfl, Ent.q rfl, Ent.q rfl, Ent.q rfl, Ent.q rfl, Ent.q rfl, Ent.q rfl, Ent.q rfl, Ent.q rfl, trivial⟩ ⟨rfl, rfl, ⟨rfl, rfl, ⟨rfl, rfl, ⟨rfl, rfl, trivial⟩⟩⟩⟩
       ·have hp33 := of_decide_eq_false hb32
        rw [if_neg hp33] at hm
        refine WL.run rfl rfl rfl rfl hb32 rfl rfl (Op1.fieldAddrB (o := 0) Try.underlying27 rfl (fun w => ⟨0, Try.sizeOf3 w⟩) (.tmp rfl) rfl) ?_
        refine WL.run rfl rfl rfl rfl hb32 rfl rfl (Op1.loadBF 10 rfl ty3 fapi_Unit_1 rfl (.tmp rfl)) ?_
        refine WL.run rfl rfl rfl rfl hb32 rfl rfl (Op1.eqI (.tmp rfl) .i64) ?_
        refine WL.op rfl (.pickF (.tmp rfl) hb32 (.tmp rfl)) ?_
        refine WL.mv rfl rfl ?_
        rcases bcases (decide (find.1.Kind = (6 : Int))) with hb34 | hb34
        ·have hp35 := of_decide_eq_true hb34
         rw [if_pos hp35] at hm
         iterate 3 refine WL.pass rfl rfl rfl rfl hb34 rfl rfl ?_
         refine WL.op rfl (.pickT (.tmp rfl) hb34 .bool) ?_
         refine WL.nil ?_
         exact WN.meet true (Option.some.inj hm) ⟨Ent.q rfl, Ent.q rfl, Ent.q rfl, Ent.q rfl, Ent.q rfl, Ent.q rfl, Ent.q rfl, Ent.q rfl, Ent.q rfl, Ent.q rfl, Ent.q rfl, trivial⟩ ⟨rfl, rfl, ⟨rfl, rfl, ⟨rfl, rfl, ⟨rfl, rfl, trivial⟩⟩⟩⟩
        ·have hp35 := of_decide_eq_false hb34
         rw [if_neg hp35] at hm
         refine WL.run rfl rfl rfl rfl hb34 rfl rfl (Op1.move (.tmp rfl)) ?_
         refine WL.run rfl rfl rfl rfl hb34 rfl rfl (Op1.move (.tmp rfl)) ?_
         refine WL.run rfl rfl rfl rfl hb34 rfl rfl (Op1.gtI (.tmp rfl) (.tmp rfl)) ?_
         refine WL.op rfl (.pickF (.tmp rfl) hb34 (.tmp rfl)) ?_
         refine WL.nil ?_
         exact WN.meet (decide (parent1.2.1 < parent.2.1)) (Option.some.inj hm) ⟨Ent.q rfl, Ent.q rfl, Ent.q rfl, Ent.q rfl, Ent.q rfl, Ent.q rfl, Ent.q rfl, Ent.q rfl, Ent.q rfl, Ent.q rfl, Ent.q rfl, trivial⟩ ⟨rfl, rfl, ⟨rfl, rfl, ⟨rfl, rfl, ⟨rfl, rfl, trivial⟩⟩⟩⟩
   ·have hm := hs9
    clear hs9
    refine W.region ?_
    refine WL.mv rfl rfl ?_
    refine WL.op rfl (.ltI (.tmp rfl) .i64) ?_
    refine WL.mv rfl rfl ?_
    rcases bcases (decide (i < (1 : Int))) with hb11 | hb11
    ·have hp12 := of_decide_eq_true hb11
     rw [if_pos hp12] at hm
     iterate 2 refine WL.pass rfl rfl rfl rfl hb11 rfl rfl ?_
     refine WL.op rfl (.pickT (.tmp rfl) hb11 .bool) ?_
     refine WL.mv rfl rfl ?_
     iterate 4 refine WL.pass rfl rfl rfl rfl rfl rfl rfl ?_
     refine WL.op rfl (.pickT (.tmp rfl) rfl .bool) ?_
     refine WL.mv rfl rfl ?_
     iterate 4 refine WL.pass rfl rfl rfl rfl rfl rfl rfl ?_
     refine WL.op rfl (.pickT (.tmp rfl) rfl .bool) ?_
     refine WL.nil ?_
     exact WN.meet true (Option.some.inj hm) ⟨Ent.q rfl, Ent.q rfl, Ent.q rfl, Ent.q rfl, Ent.q rfl, Ent.q rfl, trivial⟩ trivial
    ·have hp12 := of_decide_eq_false hb11
     rw [if_neg hp12] at hm
     refine WL.run rfl rfl rfl rfl hb11 rfl rfl (Op1.move (.tmp rfl)) ?_
     refine WL.run rfl rfl rfl rfl hb11 rfl rfl (Op1.ltI (.tmp rfl) .i64) ?_
     refine WL.op rfl (.pickF (.tmp rfl) hb11 (.tmp rfl)) ?_
     refine WL.mv rfl rfl ?_
     rcases bcases (decide (k < (1 : Int))) with hb13 | hb13
     ·have hp14 := of_decide_eq_true hb13
      rw [if_pos hp14] at hm
      iterate 4 refine WL.pass rfl rfl rfl rfl hb13 rfl rfl ?_
      refine WL.op rfl (.pickT (.tmp rfl) hb13 .bool) ?_
      refine WL.mv rfl rfl ?_
      iterate 4 refine WL.pass rfl rfl rfl rfl rfl rfl rfl ?_
      refine WL.op rfl (.pickT (.tmp rfl) rfl .bool) ?_
      refine WL.nil ?_
      exact WN.meet true (Option.some.inj hm) ⟨Ent.q rfl, Ent.q rfl, Ent.q rfl, Ent.q rfl, Ent.q rfl, Ent.q rfl, trivial⟩ trivial
     ·have hp14 := of_decide_eq_false hb13
      rw [if_neg hp14] at hm
      refine WL.run rfl rfl rfl rfl hb13 rfl rfl (Op1.move (.tmp rfl)) ?_
      refine WL.run rfl rfl rfl rfl hb13 rfl rfl (Op1.move (.tmp rfl)) ?_
      refine WL.run rfl rfl rfl rfl hb13 rfl rfl (Op1.lenL Try.underlying31 (.tmp rfl)) ?_
      refine WL.run rfl rfl rfl rfl hb13 rfl rfl (Op1.geI (.tmp rfl) (.tmp rfl)) ?_
      refine WL.op rfl (.pickF (.tmp rfl) hb13 (.tmp rfl)) ?_
      refine WL.mv rfl rfl ?_
      rcases bcases (decide ((all.length : Int) ≤ i)) with hb15 | hb15
      ·have hp16 := of_decide_eq_true hb15
       rw [if_pos hp16] at hm
       iterate 4 refine WL.pass rfl rfl rfl rfl hb15 rfl rfl ?_
       refine WL.op rfl (.pickT (.tmp rfl) hb15 .bool) ?_
       refine WL.nil ?_
       exact WN.meet true (Option.some.inj hm) ⟨Ent.q rfl, Ent.q rfl, Ent.q rfl, Ent.q rfl, Ent.q rfl, Ent.q rfl, trivial⟩ trivial
      ·have hp16 := of_decide_eq_false hb15
       rw [if_neg hp16] at hm
       refine WL.run rfl rfl rfl rfl hb15 rfl rfl (Op1.move (.tmp rfl)) ?_
       refine WL.run rfl rfl rfl rfl hb15 rfl rfl (Op1.move (.tmp rfl)) ?_
       refine WL.run rfl rfl rfl rfl hb15 rfl rfl (Op1.lenL Try.underlying31 (.tmp rfl)) ?_
       refine WL.run rfl rfl rfl rfl hb15 rfl rfl (Op1.geI (.tmp rfl) (.tmp rfl)) ?_
       refine WL.op rfl (.pickF (.tmp rfl) hb15 (.tmp rfl)) ?_
       refine WL.nil ?_
       exact WN.meet (decide ((all.length : Int) ≤ k)) (Option.some.inj hm) ⟨Ent.q rfl, Ent.q rfl, Ent.q rfl, Ent.q rfl, Ent.q rfl, Ent.q rfl, trivial⟩ trivial

end Go.Proofs.Ytlegkjbldofkmaa
