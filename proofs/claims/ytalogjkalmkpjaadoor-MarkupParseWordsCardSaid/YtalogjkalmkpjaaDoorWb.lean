/-
  The code does what the models say: written by program.
-/
import Derived.Test.YtalogjkalmkpjaaDoorWa
set_option linter.unusedVariables false
set_option linter.unusedSimpArgs false
namespace Go.Proofs.YtalogjkalmkpjaaDoor
open Go Go.Dec
set_option maxRecDepth 100000
set_option maxHeartbeats 4000000
theorem r53_Row_spec (n : Nat) (l : List api_TrackedWord) (r : Str) (hm : M.r53_Row n l = some r) : FSpec Tryd.prog 8 [((tL tapi_TrackedWord).is l)] (tS.is r) := by
 unfold M.r53_Row at hm
 refine FSpec.of Tryd.func8 rfl rfl rfl fun g0 => Aw <| Ao rfl (.assign (.str rfl (by decide))) <| An <| W.seq <| Aw <| WL.mv rfl rfl ?_
 obtain ⟨mayrow, hv1, hm⟩ := Bs hm
 refine Ao rfl (.call C9 (r53_MayRow_spec _ _ _ hv1) ⟨(.t rfl), trivial⟩) <| Ao rfl (.notB (.t rfl)) <| An <| W.cR hm (.t rfl) (fun hp3 hm => ?_) (fun hp3 hm => ?_)
 ·refine Aw <| Ao rfl (.assign (.str rfl (by decide))) <| WL.ns ?_
  cases hm
  exact W.ret1 () rfl (.t rfl) trivial
 ·refine W.skip <| Aq <| Aw <| Ao rfl (.assign (.str rfl (by decide))) <| Ar <| Ao rfl (.buildSlice (n := 3) (ys := [(0, ([] : Str)), (1, ([91, 43, 32] : Str)), (2, ([91, 45, 32] : Str))]) (z := ([] : Str)) (xs := [([] : Str), ([91, 43, 32] : Str), ([91, 45, 32] : Str)]) U43 el9 ze9 ⟨rfl, (.str rfl (by decide)), rfl, (.str rfl (by decide)), rfl, (.str rfl (by decide)), trivial⟩ (by simp) (by decide) rfl) <| Ag rfl rfl <| Ar <| Ao rfl (.buildSlice (n := 3) (ys := [(0, ([] : Str)), (1, ([32, 43, 93] : Str)), (2, ([32, 45, 93] : Str))]) (z := ([] : Str)) (xs := [([] : Str), ([32, 43, 93] : Str), ([32, 45, 93] : Str)]) U43 el9 ze9 ⟨rfl, (.str rfl (by decide)), rfl, (.str rfl (by decide)), rfl, (.str rfl (by decide)), trivial⟩ (by simp) (by decide) rfl) <| Ag rfl rfl <| An <| W.seq <| Aw <| Ao rfl (.assign .i64) <| An <| W.block ?_
  obtain ⟨s4, hs5, hk6⟩ := Bs hm
  clear hm
  refine W.loop (fun m (s : Str × Int) => M.r53_Row_loop1 l m s.1 s.2 = some s4) (fun s => [(3, (tS.is s.1)), (6, (I6.is s.2)), (0, ((tL tapi_TrackedWord).is l)), (4, ((tL tS).is ([([] : Str), ([91, 43, 32] : Str), ([91, 45, 32] : Str)]))), (5, ((tL tS).is ([([] : Str), ([32, 43, 93] : Str), ([32, 45, 93] : Str)])))]) (fun s => []) _ (([] : Str), (0 : Int)) hs5 ⟨.q rfl, .q rfl, .q rfl, .q rfl, .q rfl, trivial⟩ trivial ?_
  rintro n7 ⟨s0_, i⟩ hm
  try dsimp only at hm
  change W _ _ _ _ _ _ _ [(3, (tS.is s0_)), (6, (I6.is i)), (0, ((tL tapi_TrackedWord).is l)), (4, ((tL tS).is ([([] : Str), ([91, 43, 32] : Str), ([91, 45, 32] : Str)]))), (5, ((tL tS).is ([([] : Str), ([32, 43, 93] : Str), ([32, 45, 93] : Str)])))] []
  cases n7 with
  | zero => rw [M.r53_Row_loop1.eq_1] at hm; cases hm
  | succ n7 =>
   rw [M.r53_Row_loop1.eq_2] at hm
   refine W.seq <| Aw <| Am rfl rfl <| Am rfl rfl <| Ao rfl (.lenL U22 (.t rfl)) <| Ao rfl (.ltI (.t rfl) (.t rfl)) <| An <| W.cD hm (.t rfl) (fun hp9 hm => ?_) (fun hp9 hm => ?_)
   ·refine W.skip <| Aq <| W.seq <| W.block <| W.seq ?_
    rcases iteD hm with ⟨hp11, hb10, hm⟩ | ⟨hp11, hb10, hm⟩
    ·refine W.draw [.c _, .c _, .c _, .c _, .c _, .c _, .c _, .c _, .c _, .c _, .c _, .c _, .c _, .c _, .c _, .c _, .c _] [([], [6]), ([0], []), ([1], []), ([2], [0]), ([2], [6]), ([2, 4], []), ([2, 3, 5], []), ([2, 6], []), ([2, 7], []), ([2], [0]), ([2], [6]), ([2, 9, 10], []), ([2, 11], []), ([2, 12], []), ([2, 8, 13], []), ([2, 14], []), ([15], [])] Mx rfl rfl rfl rfl ⟨Dn (.move (.t rfl)), Dn (.eqI (.t rfl) .i64), Dn (.move (.t rfl)), Dp rfl hb10, Dp rfl hb10, Dp rfl hb10, Dp rfl hb10, Dp rfl hb10, Dp rfl hb10, Dp rfl hb10, Dp rfl hb10, Dp rfl hb10, Dp rfl hb10, Dp rfl hb10, Dp rfl hb10, Dn (.pickT (.t rfl) hb10 .bool), Dn (.assign (.t rfl)), trivial⟩ <| Aq <| W.seq ?_
     obtain ⟨v, hv12, hm⟩ := Bs hm
     rcases iteD hm with ⟨hp14, hb13, hm⟩ | ⟨hp14, hb13, hm⟩
     ·refine W.draw [.c _, .c _, .c _, .c _, .c _, .c _, .c _, .c _, .c _, .c _, .c _, .c _, .c _, .c _, .c _, .c _, .c _, .c _, .c _, .c _] [([], [6]), ([0], []), ([], [0]), ([2], []), ([1, 3], []), ([4], []), ([5], [0]), ([5], [6]), ([5, 7], []), ([5, 6, 8], []), ([5, 9], []), ([5, 10], []), ([5], [0]), ([5], [6]), ([5, 12, 13], []), ([5, 14], []), ([5, 15], []), ([5, 11, 16], []), ([5, 17], []), ([18], [])] Mx rfl rfl rfl rfl ⟨Dn (.move (.t rfl)), Dn (.addC hv12 (.t rfl) .i64), Dn (.move (.t rfl)), Dn (.lenL U22 (.t rfl)), Dn (.eqI (.t rfl) (.t rfl)), Dn (.move (.t rfl)), Dp rfl hb13, Dp rfl hb13, Dp rfl hb13, Dp rfl hb13, Dp rfl hb13, Dp rfl hb13, Dp rfl hb13, Dp rfl hb13, Dp rfl hb13, Dp rfl hb13, Dp rfl hb13, Dp rfl hb13, Dn (.pickT (.t rfl) hb13 .bool), Dn (.assign (.t rfl)), trivial⟩ <| WN.seq ?_
      obtain ⟨s15, hs16, hk17⟩ := Bs hm
      clear hm
      refine W.join (fun s : Str => s = s15) (fun s => [(3, (tS.is s)), (0, ((tL tapi_TrackedWord).is l)), (4, ((tL tS).is ([([] : Str), ([91, 43, 32] : Str), ([91, 45, 32] : Str)]))), (5, ((tL tS).is ([([] : Str), ([32, 43, 93] : Str), ([32, 45, 93] : Str)]))), (6, (I6.is i)), (7, (tB.is true)), (8, (tB.is true))]) (fun s => []) ?_ ?_
      ·rintro s0_1 hj43
       try dsimp only at hj43
       subst hj43
       have hm := hk17
       clear hk17
       try dsimp only at hm
       change W _ _ _ _ _ _ _ [(3, (tS.is s0_1)), (0, ((tL tapi_TrackedWord).is l)), (4, ((tL tS).is ([([] : Str), ([91, 43, 32] : Str), ([91, 45, 32] : Str)]))), (5, ((tL tS).is ([([] : Str), ([32, 43, 93] : Str), ([32, 45, 93] : Str)]))), (6, (I6.is i)), (7, (tB.is true)), (8, (tB.is true))] []
       obtain ⟨s21, hs22, hk23⟩ := Bs hm
       clear hm
       refine W.join (fun s : Str => s = s21) (fun s => [(3, (tS.is s)), (0, ((tL tapi_TrackedWord).is l)), (4, ((tL tS).is ([([] : Str), ([91, 43, 32] : Str), ([91, 45, 32] : Str)]))), (5, ((tL tS).is ([([] : Str), ([32, 43, 93] : Str), ([32, 45, 93] : Str)]))), (6, (I6.is i)), (8, (tB.is true))]) (fun s => []) ?_ ?_
       ·rintro s0_2 hj42
        try dsimp only at hj42
        subst hj42
        have hm := hk23
        clear hk23
        try dsimp only at hm
        change W _ _ _ _ _ _ _ [(3, (tS.is s0_2)), (0, ((tL tapi_TrackedWord).is l)), (4, ((tL tS).is ([([] : Str), ([91, 43, 32] : Str), ([91, 45, 32] : Str)]))), (5, ((tL tS).is ([([] : Str), ([32, 43, 93] : Str), ([32, 45, 93] : Str)]))), (6, (I6.is i)), (8, (tB.is true))] []
        obtain ⟨s27, hs28, hk29⟩ := Bs hm
        clear hm
        refine W.join (fun s : Str => s = s27) (fun s => [(3, (tS.is s)), (0, ((tL tapi_TrackedWord).is l)), (4, ((tL tS).is ([([] : Str), ([91, 43, 32] : Str), ([91, 45, 32] : Str)]))), (5, ((tL tS).is ([([] : Str), ([32, 43, 93] : Str), ([32, 45, 93] : Str)]))), (6, (I6.is i)), (8, (tB.is true))]) (fun s => []) ?_ ?_
        ·rintro s0_3 hj41
         try dsimp only at hj41
         subst hj41
         have hm := hk29
         clear hk29
         try dsimp only at hm
         change W _ _ _ _ _ _ _ [(3, (tS.is s0_3)), (0, ((tL tapi_TrackedWord).is l)), (4, ((tL tS).is ([([] : Str), ([91, 43, 32] : Str), ([91, 45, 32] : Str)]))), (5, ((tL tS).is ([([] : Str), ([32, 43, 93] : Str), ([32, 45, 93] : Str)]))), (6, (I6.is i)), (8, (tB.is true))] []
         refine Aw <| Am rfl rfl <| Am rfl rfl <| WL.mv rfl rfl ?_
         obtain ⟨v7, hv35, hm⟩ := Bs hm
         refine Ao rfl (.idx hv35 U22 Z38 (.t rfl) (.t rfl)) <| Ao rfl (.fieldAddr U38 rfl J9 fapi_TrackedWord_1 (.t rfl)) <| Ao rfl (.load ty9 (.t rfl)) ?_
         obtain ⟨v8, hv36, hm⟩ := Bs hm
         refine Ao rfl (.catC hv36 (.t rfl) (.t rfl)) <| Ag rfl rfl <| Ar <| Am rfl rfl <| An <| W.condT (.t rfl) <| W.region <| Am rfl rfl <| Am rfl rfl <| Am rfl rfl <| WL.mv rfl rfl ?_
         obtain ⟨v9, hv37, hm⟩ := Bs hm
         refine Ao rfl (.idx hv37 U22 Z38 (.t rfl) (.t rfl)) <| Ao rfl (.fieldAddr U38 rfl J3 fapi_TrackedWord_0 (.t rfl)) <| Ao rfl (.load ty3 (.t rfl)) ?_
         obtain ⟨v10, hv38, hm⟩ := Bs hm
         refine Ao rfl (.idx hv38 U43 Z9 (.t rfl) (.t rfl)) <| Ao rfl (.load ty9 (.t rfl)) ?_
         obtain ⟨v11, hv39, hm⟩ := Bs hm
         exact Ao rfl (.catC hv39 (.t rfl) (.t rfl)) <| Ag rfl rfl <| WL.nil <| WN.block <| Aq <| W.region <| Am rfl rfl <| WL.lenL (s := 0) (.t rfl) fun hl40 => Ao rfl (.addI1 (.t rfl) .i64 hp9 hl40) <| Ag rfl rfl <| WL.nil <| WN.again n7 (v11, i + 1) (Nat.lt_succ_self n7) hm ⟨.q rfl, .q rfl, .q rfl, .q rfl, .q rfl, trivial⟩ trivial
        ·have hm := hs28
         clear hs28
         refine Aw <| Am rfl rfl <| WL.mv rfl rfl ?_
         obtain ⟨v5, hv30, hm⟩ := Bs hm
         refine Ao rfl (.idx hv30 U22 Z38 (.t rfl) (.t rfl)) <| Ao rfl (.fieldAddr U38 rfl J9 fapi_TrackedWord_1 (.t rfl)) <| Ao rfl (.load ty9 (.t rfl)) ?_
         obtain ⟨specia, hv31, hm⟩ := Bs hm
         refine Ao rfl (.call C19 (r53_special_spec _ _ hv31) ⟨(.t rfl), trivial⟩) <| An <| W.cB hm (.t rfl) (fun hp33 hm => ?_) (fun hp33 hm => ?_)
         ·refine W.region <| Am rfl rfl <| Ao rfl (.buildSlice (n := 1) (ys := [(0, (92 : Int))]) (z := (0 : Int)) (xs := [(92 : Int)]) U48 el5 ze5 ⟨rfl, (.int (inR8.2 (by omega))), trivial⟩ (by simp) (by decide) rfl) <| Ao rfl (.strB U48 U9 U5 (.t rfl)) ?_
          obtain ⟨v6, hv34, hm⟩ := Bs hm
          exact Ao rfl (.catC hv34 (.t rfl) (.t rfl)) <| Ag rfl rfl <| WL.nil <| WN.meet v6 (Si hm) ⟨.q rfl, .q rfl, .q rfl, .q rfl, .q rfl, .q rfl, trivial⟩ trivial
         ·exact W.skip <| WN.meet s0_2 (Si hm) ⟨.q rfl, .q rfl, .q rfl, .q rfl, .q rfl, .q rfl, trivial⟩ trivial
       ·have hm := hs22
        clear hs22
        refine Aw <| Am rfl rfl <| An <| W.condT (.t rfl) <| W.region <| Am rfl rfl <| Am rfl rfl <| Am rfl rfl <| WL.mv rfl rfl ?_
        obtain ⟨v2, hv24, hm⟩ := Bs hm
        refine Ao rfl (.idx hv24 U22 Z38 (.t rfl) (.t rfl)) <| Ao rfl (.fieldAddr U38 rfl J3 fapi_TrackedWord_0 (.t rfl)) <| Ao rfl (.load ty3 (.t rfl)) ?_
        obtain ⟨v3, hv25, hm⟩ := Bs hm
        refine Ao rfl (.idx hv25 U43 Z9 (.t rfl) (.t rfl)) <| Ao rfl (.load ty9 (.t rfl)) ?_
        obtain ⟨v4, hv26, hm⟩ := Bs hm
        exact Ao rfl (.catC hv26 (.t rfl) (.t rfl)) <| Ag rfl rfl <| WL.nil <| WN.meet v4 (Si hm) ⟨.q rfl, .q rfl, .q rfl, .q rfl, .q rfl, .q rfl, trivial⟩ trivial
      ·have hm := hs16
       clear hs16
       refine Aw <| Am rfl rfl <| Ao rfl (.gtI (.t rfl) .i64) <| An <| W.cD hm (.t rfl) (fun hp19 hm => ?_) (fun hp19 hm => ?_)
       ·refine W.region <| WL.mv rfl rfl ?_
        obtain ⟨v1, hv20, hm⟩ := Bs hm
        exact Ao rfl (.catC hv20 (.t rfl) (.str rfl (by decide))) <| Ag rfl rfl <| WL.nil <| WN.meet v1 (Si hm) ⟨.q rfl, .q rfl, .q rfl, .q rfl, .q rfl, .q rfl, .q rfl, trivial⟩ trivial
       ·exact W.skip <| WN.meet s0_ (Si hm) ⟨.q rfl, .q rfl, .q rfl, .q rfl, .q rfl, .q rfl, .q rfl, trivial⟩ trivial
     ·obtain ⟨v12, hv44, hm⟩ := Bs hm
      obtain ⟨v13, hv45, hm⟩ := Bs hm
      obtain ⟨v14, hv46, hm⟩ := Bs hm
      refine W.draw [.c _, .c _, .c _, .c _, .c _, .c _, .c _, .c _, .c _, .c _, .c _, .c _, .c _, .c _, .c _, .c _, .c _, .c _, .c _, .c _] [([], [6]), ([0], []), ([], [0]), ([2], []), ([1, 3], []), ([4], []), ([5], [0]), ([5], [6]), ([5, 7], []), ([5, 6, 8], []), ([5, 9], []), ([5, 10], []), ([5], [0]), ([5], [6]), ([5, 12, 13], []), ([5, 14], []), ([5, 15], []), ([5, 11, 16], []), ([5, 17], []), ([18], [])] Mx rfl rfl rfl rfl ⟨Dn (.move (.t rfl)), Dn (.addC hv12 (.t rfl) .i64), Dn (.move (.t rfl)), Dn (.lenL U22 (.t rfl)), Dn (.eqI (.t rfl) (.t rfl)), Dn (.move (.t rfl)), Dr rfl hb13 (.move (.t rfl)), Dr rfl hb13 (.move (.t rfl)), Dr rfl hb13 (.addC hv44 (.t rfl) .i64), Dr rfl hb13 (.idx hv45 U22 Z38 (.t rfl) (.t rfl)), Dr rfl hb13 (.fieldAddr U38 rfl J3 fapi_TrackedWord_0 (.t rfl)), Dr rfl hb13 (.load ty3 (.t rfl)), Dr rfl hb13 (.move (.t rfl)), Dr rfl hb13 (.move (.t rfl)), Dr rfl hb13 (.idx hv46 U22 Z38 (.t rfl) (.t rfl)), Dr rfl hb13 (.fieldAddr U38 rfl J3 fapi_TrackedWord_0 (.t rfl)), Dr rfl hb13 (.load ty3 (.t rfl)), Dr rfl hb13 (.neI (.t rfl) (.t rfl)), Dn (.pickF (.t rfl) hb13 (.t rfl)), Dn (.assign (.t rfl)), trivial⟩ <| WN.seq ?_
      obtain ⟨s47, hs48, hk49⟩ := Bs hm
      clear hm
      refine W.join (fun s : Str => s = s47) (fun s => [(3, (tS.is s)), (0, ((tL tapi_TrackedWord).is l)), (4, ((tL tS).is ([([] : Str), ([91, 43, 32] : Str), ([91, 45, 32] : Str)]))), (5, ((tL tS).is ([([] : Str), ([32, 43, 93] : Str), ([32, 45, 93] : Str)]))), (6, (I6.is i)), (7, (tB.is true)), (8, (tB.is (decide (v13.State ≠ v14.State))))]) (fun s => []) ?_ ?_
      ·rintro s0_4 hj78
       try dsimp only at hj78
       subst hj78
       have hm := hk49
       clear hk49
       try dsimp only at hm
       change W _ _ _ _ _ _ _ [(3, (tS.is s0_4)), (0, ((tL tapi_TrackedWord).is l)), (4, ((tL tS).is ([([] : Str), ([91, 43, 32] : Str), ([91, 45, 32] : Str)]))), (5, ((tL tS).is ([([] : Str), ([32, 43, 93] : Str), ([32, 45, 93] : Str)]))), (6, (I6.is i)), (7, (tB.is true)), (8, (tB.is (decide (v13.State ≠ v14.State))))] []
       obtain ⟨s53, hs54, hk55⟩ := Bs hm
       clear hm
       refine W.join (fun s : Str => s = s53) (fun s => [(3, (tS.is s)), (0, ((tL tapi_TrackedWord).is l)), (4, ((tL tS).is ([([] : Str), ([91, 43, 32] : Str), ([91, 45, 32] : Str)]))), (5, ((tL tS).is ([([] : Str), ([32, 43, 93] : Str), ([32, 45, 93] : Str)]))), (6, (I6.is i)), (8, (tB.is (decide (v13.State ≠ v14.State))))]) (fun s => []) ?_ ?_
       ·rintro s0_5 hj77
        try dsimp only at hj77
        subst hj77
        have hm := hk55
        clear hk55
        try dsimp only at hm
        change W _ _ _ _ _ _ _ [(3, (tS.is s0_5)), (0, ((tL tapi_TrackedWord).is l)), (4, ((tL tS).is ([([] : Str), ([91, 43, 32] : Str), ([91, 45, 32] : Str)]))), (5, ((tL tS).is ([([] : Str), ([32, 43, 93] : Str), ([32, 45, 93] : Str)]))), (6, (I6.is i)), (8, (tB.is (decide (v13.State ≠ v14.State))))] []
        obtain ⟨s59, hs60, hk61⟩ := Bs hm
        clear hm
        refine W.join (fun s : Str => s = s59) (fun s => [(3, (tS.is s)), (0, ((tL tapi_TrackedWord).is l)), (4, ((tL tS).is ([([] : Str), ([91, 43, 32] : Str), ([91, 45, 32] : Str)]))), (5, ((tL tS).is ([([] : Str), ([32, 43, 93] : Str), ([32, 45, 93] : Str)]))), (6, (I6.is i)), (8, (tB.is (decide (v13.State ≠ v14.State))))]) (fun s => []) ?_ ?_
        ·rintro s0_6 hj76
         try dsimp only at hj76
         subst hj76
         have hm := hk61
         clear hk61
         try dsimp only at hm
         change W _ _ _ _ _ _ _ [(3, (tS.is s0_6)), (0, ((tL tapi_TrackedWord).is l)), (4, ((tL tS).is ([([] : Str), ([91, 43, 32] : Str), ([91, 45, 32] : Str)]))), (5, ((tL tS).is ([([] : Str), ([32, 43, 93] : Str), ([32, 45, 93] : Str)]))), (6, (I6.is i)), (8, (tB.is (decide (v13.State ≠ v14.State))))] []
         refine Aw <| Am rfl rfl <| Am rfl rfl <| WL.mv rfl rfl ?_
         obtain ⟨v21, hv67, hm⟩ := Bs hm
         refine Ao rfl (.idx hv67 U22 Z38 (.t rfl) (.t rfl)) <| Ao rfl (.fieldAddr U38 rfl J9 fapi_TrackedWord_1 (.t rfl)) <| Ao rfl (.load ty9 (.t rfl)) ?_
         obtain ⟨v22, hv68, hm⟩ := Bs hm
         refine Ao rfl (.catC hv68 (.t rfl) (.t rfl)) <| Ag rfl rfl <| Ar <| Am rfl rfl <| An <| W.cD hm (.t rfl) (fun hp70 hm => ?_) (fun hp70 hm => ?_)
         ·refine W.region <| Am rfl rfl <| Am rfl rfl <| Am rfl rfl <| WL.mv rfl rfl ?_
          obtain ⟨v23, hv71, hm⟩ := Bs hm
          refine Ao rfl (.idx hv71 U22 Z38 (.t rfl) (.t rfl)) <| Ao rfl (.fieldAddr U38 rfl J3 fapi_TrackedWord_0 (.t rfl)) <| Ao rfl (.load ty3 (.t rfl)) ?_
          obtain ⟨v24, hv72, hm⟩ := Bs hm
          refine Ao rfl (.idx hv72 U43 Z9 (.t rfl) (.t rfl)) <| Ao rfl (.load ty9 (.t rfl)) ?_
          obtain ⟨v25, hv73, hm⟩ := Bs hm
          exact Ao rfl (.catC hv73 (.t rfl) (.t rfl)) <| Ag rfl rfl <| WL.nil <| WN.block <| Aq <| W.region <| Am rfl rfl <| WL.lenL (s := 0) (.t rfl) fun hl74 => Ao rfl (.addI1 (.t rfl) .i64 hp9 hl74) <| Ag rfl rfl <| WL.nil <| WN.again n7 (v25, i + 1) (Nat.lt_succ_self n7) hm ⟨.q rfl, .q rfl, .q rfl, .q rfl, .q rfl, trivial⟩ trivial
         ·exact W.skip <| WN.block <| Aq <| W.region <| Am rfl rfl <| WL.lenL (s := 0) (.t rfl) fun hl75 => Ao rfl (.addI1 (.t rfl) .i64 hp9 hl75) <| Ag rfl rfl <| WL.nil <| WN.again n7 (v22, i + 1) (Nat.lt_succ_self n7) hm ⟨.q rfl, .q rfl, .q rfl, .q rfl, .q rfl, trivial⟩ trivial
        ·have hm := hs60
         clear hs60
         refine Aw <| Am rfl rfl <| WL.mv rfl rfl ?_
         obtain ⟨v19, hv62, hm⟩ := Bs hm
         refine Ao rfl (.idx hv62 U22 Z38 (.t rfl) (.t rfl)) <| Ao rfl (.fieldAddr U38 rfl J9 fapi_TrackedWord_1 (.t rfl)) <| Ao rfl (.load ty9 (.t rfl)) ?_
         obtain ⟨specia1, hv63, hm⟩ := Bs hm
         refine Ao rfl (.call C19 (r53_special_spec _ _ hv63) ⟨(.t rfl), trivial⟩) <| An <| W.cB hm (.t rfl) (fun hp65 hm => ?_) (fun hp65 hm => ?_)
         ·refine W.region <| Am rfl rfl <| Ao rfl (.buildSlice (n := 1) (ys := [(0, (92 : Int))]) (z := (0 : Int)) (xs := [(92 : Int)]) U48 el5 ze5 ⟨rfl, (.int (inR8.2 (by omega))), trivial⟩ (by simp) (by decide) rfl) <| Ao rfl (.strB U48 U9 U5 (.t rfl)) ?_
          obtain ⟨v20, hv66, hm⟩ := Bs hm
          exact Ao rfl (.catC hv66 (.t rfl) (.t rfl)) <| Ag rfl rfl <| WL.nil <| WN.meet v20 (Si hm) ⟨.q rfl, .q rfl, .q rfl, .q rfl, .q rfl, .q rfl, trivial⟩ trivial
         ·exact W.skip <| WN.meet s0_5 (Si hm) ⟨.q rfl, .q rfl, .q rfl, .q rfl, .q rfl, .q rfl, trivial⟩ trivial
       ·have hm := hs54
        clear hs54
        refine Aw <| Am rfl rfl <| An <| W.condT (.t rfl) <| W.region <| Am rfl rfl <| Am rfl rfl <| Am rfl rfl <| WL.mv rfl rfl ?_
        obtain ⟨v16, hv56, hm⟩ := Bs hm
        refine Ao rfl (.idx hv56 U22 Z38 (.t rfl) (.t rfl)) <| Ao rfl (.fieldAddr U38 rfl J3 fapi_TrackedWord_0 (.t rfl)) <| Ao rfl (.load ty3 (.t rfl)) ?_
        obtain ⟨v17, hv57, hm⟩ := Bs hm
        refine Ao rfl (.idx hv57 U43 Z9 (.t rfl) (.t rfl)) <| Ao rfl (.load ty9 (.t rfl)) ?_
        obtain ⟨v18, hv58, hm⟩ := Bs hm
        exact Ao rfl (.catC hv58 (.t rfl) (.t rfl)) <| Ag rfl rfl <| WL.nil <| WN.meet v18 (Si hm) ⟨.q rfl, .q rfl, .q rfl, .q rfl, .q rfl, .q rfl, trivial⟩ trivial
      ·have hm := hs48
       clear hs48
       refine Aw <| Am rfl rfl <| Ao rfl (.gtI (.t rfl) .i64) <| An <| W.cD hm (.t rfl) (fun hp51 hm => ?_) (fun hp51 hm => ?_)
       ·refine W.region <| WL.mv rfl rfl ?_
        obtain ⟨v15, hv52, hm⟩ := Bs hm
        exact Ao rfl (.catC hv52 (.t rfl) (.str rfl (by decide))) <| Ag rfl rfl <| WL.nil <| WN.meet v15 (Si hm) ⟨.q rfl, .q rfl, .q rfl, .q rfl, .q rfl, .q rfl, .q rfl, trivial⟩ trivial
       ·exact W.skip <| WN.meet s0_ (Si hm) ⟨.q rfl, .q rfl, .q rfl, .q rfl, .q rfl, .q rfl, .q rfl, trivial⟩ trivial
    ·obtain ⟨v26, hv79, hm⟩ := Bs hm
     obtain ⟨v27, hv80, hm⟩ := Bs hm
     obtain ⟨v28, hv81, hm⟩ := Bs hm
     refine W.draw [.c _, .c _, .c _, .c _, .c _, .c _, .c _, .c _, .c _, .c _, .c _, .c _, .c _, .c _, .c _, .c _, .c _] [([], [6]), ([0], []), ([1], []), ([2], [0]), ([2], [6]), ([2, 4], []), ([2, 3, 5], []), ([2, 6], []), ([2, 7], []), ([2], [0]), ([2], [6]), ([2, 9, 10], []), ([2, 11], []), ([2, 12], []), ([2, 8, 13], []), ([2, 14], []), ([15], [])] Mx rfl rfl rfl rfl ⟨Dn (.move (.t rfl)), Dn (.eqI (.t rfl) .i64), Dn (.move (.t rfl)), Dr rfl hb10 (.move (.t rfl)), Dr rfl hb10 (.move (.t rfl)), Dr rfl hb10 (.subC hv79 (.t rfl) .i64), Dr rfl hb10 (.idx hv80 U22 Z38 (.t rfl) (.t rfl)), Dr rfl hb10 (.fieldAddr U38 rfl J3 fapi_TrackedWord_0 (.t rfl)), Dr rfl hb10 (.load ty3 (.t rfl)), Dr rfl hb10 (.move (.t rfl)), Dr rfl hb10 (.move (.t rfl)), Dr rfl hb10 (.idx hv81 U22 Z38 (.t rfl) (.t rfl)), Dr rfl hb10 (.fieldAddr U38 rfl J3 fapi_TrackedWord_0 (.t rfl)), Dr rfl hb10 (.load ty3 (.t rfl)), Dr rfl hb10 (.neI (.t rfl) (.t rfl)), Dn (.pickF (.t rfl) hb10 (.t rfl)), Dn (.assign (.t rfl)), trivial⟩ <| Aq <| W.seq ?_
     obtain ⟨v29, hv82, hm⟩ := Bs hm
     rcases iteD hm with ⟨hp84, hb83, hm⟩ | ⟨hp84, hb83, hm⟩
     ·refine W.draw [.c _, .c _, .c _, .c _, .c _, .c _, .c _, .c _, .c _, .c _, .c _, .c _, .c _, .c _, .c _, .c _, .c _, .c _, .c _, .c _] [([], [6]), ([0], []), ([], [0]), ([2], []), ([1, 3], []), ([4], []), ([5], [0]), ([5], [6]), ([5, 7], []), ([5, 6, 8], []), ([5, 9], []), ([5, 10], []), ([5], [0]), ([5], [6]), ([5, 12, 13], []), ([5, 14], []), ([5, 15], []), ([5, 11, 16], []), ([5, 17], []), ([18], [])] Mx rfl rfl rfl rfl ⟨Dn (.move (.t rfl)), Dn (.addC hv82 (.t rfl) .i64), Dn (.move (.t rfl)), Dn (.lenL U22 (.t rfl)), Dn (.eqI (.t rfl) (.t rfl)), Dn (.move (.t rfl)), Dp rfl hb83, Dp rfl hb83, Dp rfl hb83, Dp rfl hb83, Dp rfl hb83, Dp rfl hb83, Dp rfl hb83, Dp rfl hb83, Dp rfl hb83, Dp rfl hb83, Dp rfl hb83, Dp rfl hb83, Dn (.pickT (.t rfl) hb83 .bool), Dn (.assign (.t rfl)), trivial⟩ <| WN.seq ?_
      obtain ⟨s85, hs86, hk87⟩ := Bs hm
      clear hm
      refine W.join (fun s : Str => s = s85) (fun s => [(3, (tS.is s)), (0, ((tL tapi_TrackedWord).is l)), (4, ((tL tS).is ([([] : Str), ([91, 43, 32] : Str), ([91, 45, 32] : Str)]))), (5, ((tL tS).is ([([] : Str), ([32, 43, 93] : Str), ([32, 45, 93] : Str)]))), (6, (I6.is i)), (7, (tB.is (decide (v27.State ≠ v28.State)))), (8, (tB.is true))]) (fun s => []) ?_ ?_
      ·rintro s0_7 hj115
       try dsimp only at hj115
       subst hj115
       have hm := hk87
       clear hk87
       try dsimp only at hm
       change W _ _ _ _ _ _ _ [(3, (tS.is s0_7)), (0, ((tL tapi_TrackedWord).is l)), (4, ((tL tS).is ([([] : Str), ([91, 43, 32] : Str), ([91, 45, 32] : Str)]))), (5, ((tL tS).is ([([] : Str), ([32, 43, 93] : Str), ([32, 45, 93] : Str)]))), (6, (I6.is i)), (7, (tB.is (decide (v27.State ≠ v28.State)))), (8, (tB.is true))] []
       obtain ⟨s91, hs92, hk93⟩ := Bs hm
       clear hm
       refine W.join (fun s : Str => s = s91) (fun s => [(3, (tS.is s)), (0, ((tL tapi_TrackedWord).is l)), (4, ((tL tS).is ([([] : Str), ([91, 43, 32] : Str), ([91, 45, 32] : Str)]))), (5, ((tL tS).is ([([] : Str), ([32, 43, 93] : Str), ([32, 45, 93] : Str)]))), (6, (I6.is i)), (8, (tB.is true))]) (fun s => []) ?_ ?_
       ·rintro s0_8 hj114
        try dsimp only at hj114
        subst hj114
        have hm := hk93
        clear hk93
        try dsimp only at hm
        change W _ _ _ _ _ _ _ [(3, (tS.is s0_8)), (0, ((tL tapi_TrackedWord).is l)), (4, ((tL tS).is ([([] : Str), ([91, 43, 32] : Str), ([91, 45, 32] : Str)]))), (5, ((tL tS).is ([([] : Str), ([32, 43, 93] : Str), ([32, 45, 93] : Str)]))), (6, (I6.is i)), (8, (tB.is true))] []
        obtain ⟨s99, hs100, hk101⟩ := Bs hm
        clear hm
        refine W.join (fun s : Str => s = s99) (fun s => [(3, (tS.is s)), (0, ((tL tapi_TrackedWord).is l)), (4, ((tL tS).is ([([] : Str), ([91, 43, 32] : Str), ([91, 45, 32] : Str)]))), (5, ((tL tS).is ([([] : Str), ([32, 43, 93] : Str), ([32, 45, 93] : Str)]))), (6, (I6.is i)), (8, (tB.is true))]) (fun s => []) ?_ ?_
        ·rintro s0_9 hj113
         try dsimp only at hj113
         subst hj113
         have hm := hk101
         clear hk101
         try dsimp only at hm
         change W _ _ _ _ _ _ _ [(3, (tS.is s0_9)), (0, ((tL tapi_TrackedWord).is l)), (4, ((tL tS).is ([([] : Str), ([91, 43, 32] : Str), ([91, 45, 32] : Str)]))), (5, ((tL tS).is ([([] : Str), ([32, 43, 93] : Str), ([32, 45, 93] : Str)]))), (6, (I6.is i)), (8, (tB.is true))] []
         refine Aw <| Am rfl rfl <| Am rfl rfl <| WL.mv rfl rfl ?_
         obtain ⟨v36, hv107, hm⟩ := Bs hm
         refine Ao rfl (.idx hv107 U22 Z38 (.t rfl) (.t rfl)) <| Ao rfl (.fieldAddr U38 rfl J9 fapi_TrackedWord_1 (.t rfl)) <| Ao rfl (.load ty9 (.t rfl)) ?_
         obtain ⟨v37, hv108, hm⟩ := Bs hm
         refine Ao rfl (.catC hv108 (.t rfl) (.t rfl)) <| Ag rfl rfl <| Ar <| Am rfl rfl <| An <| W.condT (.t rfl) <| W.region <| Am rfl rfl <| Am rfl rfl <| Am rfl rfl <| WL.mv rfl rfl ?_
         obtain ⟨v38, hv109, hm⟩ := Bs hm
         refine Ao rfl (.idx hv109 U22 Z38 (.t rfl) (.t rfl)) <| Ao rfl (.fieldAddr U38 rfl J3 fapi_TrackedWord_0 (.t rfl)) <| Ao rfl (.load ty3 (.t rfl)) ?_
         obtain ⟨v39, hv110, hm⟩ := Bs hm
         refine Ao rfl (.idx hv110 U43 Z9 (.t rfl) (.t rfl)) <| Ao rfl (.load ty9 (.t rfl)) ?_
         obtain ⟨v40, hv111, hm⟩ := Bs hm
         exact Ao rfl (.catC hv111 (.t rfl) (.t rfl)) <| Ag rfl rfl <| WL.nil <| WN.block <| Aq <| W.region <| Am rfl rfl <| WL.lenL (s := 0) (.t rfl) fun hl112 => Ao rfl (.addI1 (.t rfl) .i64 hp9 hl112) <| Ag rfl rfl <| WL.nil <| WN.again n7 (v40, i + 1) (Nat.lt_succ_self n7) hm ⟨.q rfl, .q rfl, .q rfl, .q rfl, .q rfl, trivial⟩ trivial
        ·have hm := hs100
         clear hs100
         refine Aw <| Am rfl rfl <| WL.mv rfl rfl ?_
         obtain ⟨v34, hv102, hm⟩ := Bs hm
         refine Ao rfl (.idx hv102 U22 Z38 (.t rfl) (.t rfl)) <| Ao rfl (.fieldAddr U38 rfl J9 fapi_TrackedWord_1 (.t rfl)) <| Ao rfl (.load ty9 (.t rfl)) ?_
         obtain ⟨specia2, hv103, hm⟩ := Bs hm
         refine Ao rfl (.call C19 (r53_special_spec _ _ hv103) ⟨(.t rfl), trivial⟩) <| An <| W.cB hm (.t rfl) (fun hp105 hm => ?_) (fun hp105 hm => ?_)
         ·refine W.region <| Am rfl rfl <| Ao rfl (.buildSlice (n := 1) (ys := [(0, (92 : Int))]) (z := (0 : Int)) (xs := [(92 : Int)]) U48 el5 ze5 ⟨rfl, (.int (inR8.2 (by omega))), trivial⟩ (by simp) (by decide) rfl) <| Ao rfl (.strB U48 U9 U5 (.t rfl)) ?_
          obtain ⟨v35, hv106, hm⟩ := Bs hm
          exact Ao rfl (.catC hv106 (.t rfl) (.t rfl)) <| Ag rfl rfl <| WL.nil <| WN.meet v35 (Si hm) ⟨.q rfl, .q rfl, .q rfl, .q rfl, .q rfl, .q rfl, trivial⟩ trivial
         ·exact W.skip <| WN.meet s0_8 (Si hm) ⟨.q rfl, .q rfl, .q rfl, .q rfl, .q rfl, .q rfl, trivial⟩ trivial
       ·have hm := hs92
        clear hs92
        refine Aw <| Am rfl rfl <| An <| W.cD hm (.t rfl) (fun hp95 hm => ?_) (fun hp95 hm => ?_)
        ·refine W.region <| Am rfl rfl <| Am rfl rfl <| Am rfl rfl <| WL.mv rfl rfl ?_
         obtain ⟨v31, hv96, hm⟩ := Bs hm
         refine Ao rfl (.idx hv96 U22 Z38 (.t rfl) (.t rfl)) <| Ao rfl (.fieldAddr U38 rfl J3 fapi_TrackedWord_0 (.t rfl)) <| Ao rfl (.load ty3 (.t rfl)) ?_
         obtain ⟨v32, hv97, hm⟩ := Bs hm
         refine Ao rfl (.idx hv97 U43 Z9 (.t rfl) (.t rfl)) <| Ao rfl (.load ty9 (.t rfl)) ?_
         obtain ⟨v33, hv98, hm⟩ := Bs hm
         exact Ao rfl (.catC hv98 (.t rfl) (.t rfl)) <| Ag rfl rfl <| WL.nil <| WN.meet v33 (Si hm) ⟨.q rfl, .q rfl, .q rfl, .q rfl, .q rfl, .q rfl, trivial⟩ trivial
        ·exact W.skip <| WN.meet s0_7 (Si hm) ⟨.q rfl, .q rfl, .q rfl, .q rfl, .q rfl, .q rfl, trivial⟩ trivial
      ·have hm := hs86
       clear hs86
       refine Aw <| Am rfl rfl <| Ao rfl (.gtI (.t rfl) .i64) <| An <| W.cD hm (.t rfl) (fun hp89 hm => ?_) (fun hp89 hm => ?_)
       ·refine W.region <| WL.mv rfl rfl ?_
        obtain ⟨v30, hv90, hm⟩ := Bs hm
        exact Ao rfl (.catC hv90 (.t rfl) (.str rfl (by decide))) <| Ag rfl rfl <| WL.nil <| WN.meet v30 (Si hm) ⟨.q rfl, .q rfl, .q rfl, .q rfl, .q rfl, .q rfl, .q rfl, trivial⟩ trivial
       ·exact W.skip <| WN.meet s0_ (Si hm) ⟨.q rfl, .q rfl, .q rfl, .q rfl, .q rfl, .q rfl, .q rfl, trivial⟩ trivial
     ·obtain ⟨v41, hv116, hm⟩ := Bs hm
      obtain ⟨v42, hv117, hm⟩ := Bs hm
      obtain ⟨v43, hv118, hm⟩ := Bs hm
      refine W.draw [.c _, .c _, .c _, .c _, .c _, .c _, .c _, .c _, .c _, .c _, .c _, .c _, .c _, .c _, .c _, .c _, .c _, .c _, .c _, .c _] [([], [6]), ([0], []), ([], [0]), ([2], []), ([1, 3], []), ([4], []), ([5], [0]), ([5], [6]), ([5, 7], []), ([5, 6, 8], []), ([5, 9], []), ([5, 10], []), ([5], [0]), ([5], [6]), ([5, 12, 13], []), ([5, 14], []), ([5, 15], []), ([5, 11, 16], []), ([5, 17], []), ([18], [])] Mx rfl rfl rfl rfl ⟨Dn (.move (.t rfl)), Dn (.addC hv82 (.t rfl) .i64), Dn (.move (.t rfl)), Dn (.lenL U22 (.t rfl)), Dn (.eqI (.t rfl) (.t rfl)), Dn (.move (.t rfl)), Dr rfl hb83 (.move (.t rfl)), Dr rfl hb83 (.move (.t rfl)), Dr rfl hb83 (.addC hv116 (.t rfl) .i64), Dr rfl hb83 (.idx hv117 U22 Z38 (.t rfl) (.t rfl)), Dr rfl hb83 (.fieldAddr U38 rfl J3 fapi_TrackedWord_0 (.t rfl)), Dr rfl hb83 (.load ty3 (.t rfl)), Dr rfl hb83 (.move (.t rfl)), Dr rfl hb83 (.move (.t rfl)), Dr rfl hb83 (.idx hv118 U22 Z38 (.t rfl) (.t rfl)), Dr rfl hb83 (.fieldAddr U38 rfl J3 fapi_TrackedWord_0 (.t rfl)), Dr rfl hb83 (.load ty3 (.t rfl)), Dr rfl hb83 (.neI (.t rfl) (.t rfl)), Dn (.pickF (.t rfl) hb83 (.t rfl)), Dn (.assign (.t rfl)), trivial⟩ <| WN.seq ?_
      obtain ⟨s119, hs120, hk121⟩ := Bs hm
      clear hm
      refine W.join (fun s : Str => s = s119) (fun s => [(3, (tS.is s)), (0, ((tL tapi_TrackedWord).is l)), (4, ((tL tS).is ([([] : Str), ([91, 43, 32] : Str), ([91, 45, 32] : Str)]))), (5, ((tL tS).is ([([] : Str), ([32, 43, 93] : Str), ([32, 45, 93] : Str)]))), (6, (I6.is i)), (7, (tB.is (decide (v27.State ≠ v28.State)))), (8, (tB.is (decide (v42.State ≠ v43.State))))]) (fun s => []) ?_ ?_
      ·rintro s0_10 hj152
       try dsimp only at hj152
       subst hj152
       have hm := hk121
       clear hk121
       try dsimp only at hm
       change W _ _ _ _ _ _ _ [(3, (tS.is s0_10)), (0, ((tL tapi_TrackedWord).is l)), (4, ((tL tS).is ([([] : Str), ([91, 43, 32] : Str), ([91, 45, 32] : Str)]))), (5, ((tL tS).is ([([] : Str), ([32, 43, 93] : Str), ([32, 45, 93] : Str)]))), (6, (I6.is i)), (7, (tB.is (decide (v27.State ≠ v28.State)))), (8, (tB.is (decide (v42.State ≠ v43.State))))] []
       obtain ⟨s125, hs126, hk127⟩ := Bs hm
       clear hm
       refine W.join (fun s : Str => s = s125) (fun s => [(3, (tS.is s)), (0, ((tL tapi_TrackedWord).is l)), (4, ((tL tS).is ([([] : Str), ([91, 43, 32] : Str), ([91, 45, 32] : Str)]))), (5, ((tL tS).is ([([] : Str), ([32, 43, 93] : Str), ([32, 45, 93] : Str)]))), (6, (I6.is i)), (8, (tB.is (decide (v42.State ≠ v43.State))))]) (fun s => []) ?_ ?_
       ·rintro s0_11 hj151
        try dsimp only at hj151
        subst hj151
        have hm := hk127
        clear hk127
        try dsimp only at hm
        change W _ _ _ _ _ _ _ [(3, (tS.is s0_11)), (0, ((tL tapi_TrackedWord).is l)), (4, ((tL tS).is ([([] : Str), ([91, 43, 32] : Str), ([91, 45, 32] : Str)]))), (5, ((tL tS).is ([([] : Str), ([32, 43, 93] : Str), ([32, 45, 93] : Str)]))), (6, (I6.is i)), (8, (tB.is (decide (v42.State ≠ v43.State))))] []
        obtain ⟨s133, hs134, hk135⟩ := Bs hm
        clear hm
        refine W.join (fun s : Str => s = s133) (fun s => [(3, (tS.is s)), (0, ((tL tapi_TrackedWord).is l)), (4, ((tL tS).is ([([] : Str), ([91, 43, 32] : Str), ([91, 45, 32] : Str)]))), (5, ((tL tS).is ([([] : Str), ([32, 43, 93] : Str), ([32, 45, 93] : Str)]))), (6, (I6.is i)), (8, (tB.is (decide (v42.State ≠ v43.State))))]) (fun s => []) ?_ ?_
        ·rintro s0_12 hj150
         try dsimp only at hj150
         subst hj150
         have hm := hk135
         clear hk135
         try dsimp only at hm
         change W _ _ _ _ _ _ _ [(3, (tS.is s0_12)), (0, ((tL tapi_TrackedWord).is l)), (4, ((tL tS).is ([([] : Str), ([91, 43, 32] : Str), ([91, 45, 32] : Str)]))), (5, ((tL tS).is ([([] : Str), ([32, 43, 93] : Str), ([32, 45, 93] : Str)]))), (6, (I6.is i)), (8, (tB.is (decide (v42.State ≠ v43.State))))] []
         refine Aw <| Am rfl rfl <| Am rfl rfl <| WL.mv rfl rfl ?_
         obtain ⟨v50, hv141, hm⟩ := Bs hm
         refine Ao rfl (.idx hv141 U22 Z38 (.t rfl) (.t rfl)) <| Ao rfl (.fieldAddr U38 rfl J9 fapi_TrackedWord_1 (.t rfl)) <| Ao rfl (.load ty9 (.t rfl)) ?_
         obtain ⟨v51, hv142, hm⟩ := Bs hm
         refine Ao rfl (.catC hv142 (.t rfl) (.t rfl)) <| Ag rfl rfl <| Ar <| Am rfl rfl <| An <| W.cD hm (.t rfl) (fun hp144 hm => ?_) (fun hp144 hm => ?_)
         ·refine W.region <| Am rfl rfl <| Am rfl rfl <| Am rfl rfl <| WL.mv rfl rfl ?_
          obtain ⟨v52, hv145, hm⟩ := Bs hm
          refine Ao rfl (.idx hv145 U22 Z38 (.t rfl) (.t rfl)) <| Ao rfl (.fieldAddr U38 rfl J3 fapi_TrackedWord_0 (.t rfl)) <| Ao rfl (.load ty3 (.t rfl)) ?_
          obtain ⟨v53, hv146, hm⟩ := Bs hm
          refine Ao rfl (.idx hv146 U43 Z9 (.t rfl) (.t rfl)) <| Ao rfl (.load ty9 (.t rfl)) ?_
          obtain ⟨v54, hv147, hm⟩ := Bs hm
          exact Ao rfl (.catC hv147 (.t rfl) (.t rfl)) <| Ag rfl rfl <| WL.nil <| WN.block <| Aq <| W.region <| Am rfl rfl <| WL.lenL (s := 0) (.t rfl) fun hl148 => Ao rfl (.addI1 (.t rfl) .i64 hp9 hl148) <| Ag rfl rfl <| WL.nil <| WN.again n7 (v54, i + 1) (Nat.lt_succ_self n7) hm ⟨.q rfl, .q rfl, .q rfl, .q rfl, .q rfl, trivial⟩ trivial
         ·exact W.skip <| WN.block <| Aq <| W.region <| Am rfl rfl <| WL.lenL (s := 0) (.t rfl) fun hl149 => Ao rfl (.addI1 (.t rfl) .i64 hp9 hl149) <| Ag rfl rfl <| WL.nil <| WN.again n7 (v51, i + 1) (Nat.lt_succ_self n7) hm ⟨.q rfl, .q rfl, .q rfl, .q rfl, .q rfl, trivial⟩ trivial
        ·have hm := hs134
         clear hs134
         refine Aw <| Am rfl rfl <| WL.mv rfl rfl ?_
         obtain ⟨v48, hv136, hm⟩ := Bs hm
         refine Ao rfl (.idx hv136 U22 Z38 (.t rfl) (.t rfl)) <| Ao rfl (.fieldAddr U38 rfl J9 fapi_TrackedWord_1 (.t rfl)) <| Ao rfl (.load ty9 (.t rfl)) ?_
         obtain ⟨specia3, hv137, hm⟩ := Bs hm
         refine Ao rfl (.call C19 (r53_special_spec _ _ hv137) ⟨(.t rfl), trivial⟩) <| An <| W.cB hm (.t rfl) (fun hp139 hm => ?_) (fun hp139 hm => ?_)
         ·refine W.region <| Am rfl rfl <| Ao rfl (.buildSlice (n := 1) (ys := [(0, (92 : Int))]) (z := (0 : Int)) (xs := [(92 : Int)]) U48 el5 ze5 ⟨rfl, (.int (inR8.2 (by omega))), trivial⟩ (by simp) (by decide) rfl) <| Ao rfl (.strB U48 U9 U5 (.t rfl)) ?_
          obtain ⟨v49, hv140, hm⟩ := Bs hm
          exact Ao rfl (.catC hv140 (.t rfl) (.t rfl)) <| Ag rfl rfl <| WL.nil <| WN.meet v49 (Si hm) ⟨.q rfl, .q rfl, .q rfl, .q rfl, .q rfl, .q rfl, trivial⟩ trivial
         ·exact W.skip <| WN.meet s0_11 (Si hm) ⟨.q rfl, .q rfl, .q rfl, .q rfl, .q rfl, .q rfl, trivial⟩ trivial
       ·have hm := hs126
        clear hs126
        refine Aw <| Am rfl rfl <| An <| W.cD hm (.t rfl) (fun hp129 hm => ?_) (fun hp129 hm => ?_)
        ·refine W.region <| Am rfl rfl <| Am rfl rfl <| Am rfl rfl <| WL.mv rfl rfl ?_
         obtain ⟨v45, hv130, hm⟩ := Bs hm
         refine Ao rfl (.idx hv130 U22 Z38 (.t rfl) (.t rfl)) <| Ao rfl (.fieldAddr U38 rfl J3 fapi_TrackedWord_0 (.t rfl)) <| Ao rfl (.load ty3 (.t rfl)) ?_
         obtain ⟨v46, hv131, hm⟩ := Bs hm
         refine Ao rfl (.idx hv131 U43 Z9 (.t rfl) (.t rfl)) <| Ao rfl (.load ty9 (.t rfl)) ?_
         obtain ⟨v47, hv132, hm⟩ := Bs hm
         exact Ao rfl (.catC hv132 (.t rfl) (.t rfl)) <| Ag rfl rfl <| WL.nil <| WN.meet v47 (Si hm) ⟨.q rfl, .q rfl, .q rfl, .q rfl, .q rfl, .q rfl, trivial⟩ trivial
        ·exact W.skip <| WN.meet s0_10 (Si hm) ⟨.q rfl, .q rfl, .q rfl, .q rfl, .q rfl, .q rfl, trivial⟩ trivial
      ·have hm := hs120
       clear hs120
       refine Aw <| Am rfl rfl <| Ao rfl (.gtI (.t rfl) .i64) <| An <| W.cD hm (.t rfl) (fun hp123 hm => ?_) (fun hp123 hm => ?_)
       ·refine W.region <| WL.mv rfl rfl ?_
        obtain ⟨v44, hv124, hm⟩ := Bs hm
        exact Ao rfl (.catC hv124 (.t rfl) (.str rfl (by decide))) <| Ag rfl rfl <| WL.nil <| WN.meet v44 (Si hm) ⟨.q rfl, .q rfl, .q rfl, .q rfl, .q rfl, .q rfl, .q rfl, trivial⟩ trivial
       ·exact W.skip <| WN.meet s0_ (Si hm) ⟨.q rfl, .q rfl, .q rfl, .q rfl, .q rfl, .q rfl, .q rfl, trivial⟩ trivial
   ·refine W.exit rfl ?_
    have hr153 := Si hm
    clear hm
    subst hr153
    have hm := hk6
    try dsimp only at hm
    refine Aq <| Aw <| Am rfl rfl <| Ag rfl rfl <| WL.ns ?_
    cases hm
    exact W.ret1 () rfl (.t rfl) trivial
theorem strings_Split_spec (s sep : Str) (r : List Str) (hm : splitM s sep = some r) : FSpecR Tryd.prog 21 [tS.is s, tS.is sep] [(700003, GlE 3)] (fun _ : Unit => (tL tS).is r) (fun _ => []) :=
 split_spec (fun s sep m w hs hm h1 => Tryd.strings_Split s sep m w hs hm h1) _ s sep r hm
theorem markup_unescape_spec (s0_ : Str) (r : Str × Bool) (hm : M.markup_unescape s0_ = some r) : FSpecR Tryd.prog 22 [(tS.is s0_)] [(700003, GlE 3)] (fun _ : Unit => (Asn.tuple2 (tS.is r.1) (tB.is r.2))) (fun _ => []) := by
 unfold M.markup_unescape at hm
 refine FSpecR.of Tryd.func22 rfl rfl rfl fun g0 => Aw <| Ao rfl (.assign (.str rfl (by decide))) <| Ao rfl (.assign .bool) <| An <| W.seq <| Aw <| Am rfl rfl <| Ao rfl (.eqS (.t rfl) (.str rfl (by decide))) <| An <| W.cB hm (.t rfl) (fun hp2 hm => ?_) (fun hp2 hm => ?_)
 ·refine Aw <| Ao rfl (.assign (.str rfl (by decide))) <| Ao rfl (.assign .bool) <| WL.ns ?_
  cases hm
  exact W.ret2 () rfl rfl (.t rfl) (.t rfl) trivial
 ·refine W.skip <| Aq <| W.seq ?_
  obtain ⟨s3, hs4, hk5⟩ := Bs hm
  clear hm
  refine W.join (fun s : Bool => s = s3) (fun s => [(18, (tB.is s)), (0, (tS.is s0_))]) (fun s => [(700003, GlE 3)]) ?_ ?_
  ·rintro v hj18
   try dsimp only at hj18
   subst hj18
   have hm := hk5
   clear hk5
   try dsimp only at hm
   change W _ _ _ _ _ _ _ [(18, (tB.is v)), (0, (tS.is s0_))] [(700003, GlE 3)]
   refine W.cB hm (.t rfl) (fun hp14 hm => ?_) (fun hp14 hm => ?_)
   ·refine Aw <| WL.mv rfl rfl ?_
    obtain ⟨v2, hv15, hm⟩ := Bs hm
    refine Ao rfl (.sslcLo hv15 U9 (.t rfl) .i64) <| Ag rfl rfl <| Ao rfl (.assign .bool) <| WL.ns ?_
    cases hm
    exact W.ret2 () rfl rfl (.t rfl) (.t rfl) trivial
   ·refine W.skip <| Aq <| Aw <| Am rfl rfl <| WL.mv rfl rfl ?_
    obtain ⟨v3, hv16, hm⟩ := Bs hm
    refine Ao rfl (.sslcHi hv16 U9 (.t rfl) .i64) ?_
    obtain ⟨contai1, hv17, hm⟩ := Bs hm
    refine Ao rfl (.callG (rin := [(700003, GlE 3)]) C34 (strings_Contains_spec _ _ _ hv17) ⟨rfl, trivial⟩ ⟨rfl, rfl, trivial⟩ ⟨(.str rfl (by decide)), (.t rfl), trivial⟩) <| Ao rfl (.notB (.t rfl)) <| Ag rfl rfl <| Ag rfl rfl <| WL.ns ?_
    cases hm
    exact W.ret2 () rfl rfl (.t rfl) (.t rfl) trivial
  ·have hm := hs4
   clear hs4
   refine W.region <| WL.mv rfl rfl ?_
   obtain ⟨b, hv6, hm⟩ := Bs hm
   refine Ao rfl (.sidx hv6 U9 (.t rfl) .i64) <| Ao rfl (.eqI (.t rfl) (.int (inR8.2 (by omega)))) <| WL.mv rfl rfl ?_
   rcases iteD hm with ⟨hp8, hb7, hm⟩ | ⟨hp8, hb7, hm⟩
   ·refine Ax rfl hb7 (.move (.t rfl)) <| Ax rfl hb7 (.lenS U9 (.t rfl)) <| Ax rfl hb7 (.gtI (.t rfl) .i64) <| Ao rfl (.pickT (.t rfl) hb7 (.t rfl)) <| WL.mv rfl rfl ?_
    rcases iteD hm with ⟨hp10, hb9, hm⟩ | ⟨hp10, hb9, hm⟩
    ·refine Ax rfl hb9 (.move (.t rfl)) ?_
     obtain ⟨v1, hv11, hm⟩ := Bs hm
     refine Ax rfl hb9 (.sslc hv11 U9 (.t rfl) .i64 .i64) ?_
     obtain ⟨contai, hv12, hm⟩ := Bs hm
     exact Ax rfl hb9 (.callG (rin := [(700003, GlE 3)]) C34 (strings_Contains_spec _ _ _ hv12) ⟨rfl, trivial⟩ ⟨rfl, rfl, trivial⟩ ⟨(.str rfl (by decide)), (.t rfl), trivial⟩) <| Ao rfl (.pickT (.t rfl) hb9 (.t rfl)) <| WL.nil <| WN.meet contai (Si hm) ⟨.q rfl, .q rfl, trivial⟩ ⟨rfl, rfl, trivial⟩
    ·exact Ap rfl hb9 <| Ap rfl hb9 <| Ap rfl hb9 <| Ao rfl (.pickF (.t rfl) hb9 .bool) <| WL.nil <| WN.meet false (Si hm) ⟨.q rfl, .q rfl, trivial⟩ ⟨rfl, rfl, trivial⟩
   ·exact Ap rfl hb7 <| Ap rfl hb7 <| Ap rfl hb7 <| Ao rfl (.pickF (.t rfl) hb7 .bool) <| Am rfl rfl <| Ap rfl rfl <| Ap rfl rfl <| Ap rfl rfl <| Ao rfl (.pickF (.t rfl) rfl .bool) <| WL.nil <| WN.meet false (Si hm) ⟨.q rfl, .q rfl, trivial⟩ ⟨rfl, rfl, trivial⟩
theorem markup_ParseWords_spec (n : Nat) (s0_ : Str) (r : (List api_TrackedWord) × Bool) (hm : M.markup_ParseWords n s0_ = some r) : FSpecR Tryd.prog 10 [(tS.is s0_)] [(700000, Gl (tA 3 tS) 0 gv0), (700001, Gl (tA 3 tS) 1 gv1), (700003, GlE 3)] (fun _ : Unit => (Asn.tuple2 ((tL tapi_TrackedWord).is r.1) (tB.is r.2))) (fun _ => []) := by
 unfold M.markup_ParseWords at hm
 refine FSpecR.of Tryd.func10 rfl rfl rfl fun g0 => Aw <| Ao rfl (.assign (.nil (t := tapi_TrackedWord))) <| Ao rfl (.assign .bool) <| An <| W.seq <| Aw <| Am rfl rfl <| Ao rfl (.eqS (.t rfl) (.str rfl (by decide))) <| An <| W.cB hm (.t rfl) (fun hp2 hm => ?_) (fun hp2 hm => ?_)
 ·refine Aw <| Ao rfl (.assign (.nil (t := tapi_TrackedWord))) <| Ao rfl (.assign .bool) <| WL.ns ?_
  cases hm
  exact W.ret2 () rfl rfl (.t rfl) (.t rfl) trivial
 ·refine W.skip <| Aq <| Aw <| WL.addNil (t := tapi_TrackedWord) (E := 38) 4 <| Ao rfl (.assign (Opd.nilO (t := tapi_TrackedWord))) <| Ar <| Ao rfl (.assign .i64) <| An <| W.seq <| Aw <| WL.mv rfl rfl ?_
  obtain ⟨split, hv3, hm⟩ := Bs hm
  refine Ao rfl (.callG (rin := [(700003, GlE 3)]) C21 (strings_Split_spec _ _ _ hv3) ⟨rfl, trivial⟩ ⟨rfl, rfl, trivial⟩ ⟨(.t rfl), (.str rfl (by decide)), trivial⟩) <| Ao rfl (.lenL U43 (.t rfl)) <| Ao rfl (.move .i64) <| An <| W.block ?_
  obtain ⟨s4, hs5, hk6⟩ := Bs hm
  clear hm
  refine W.loop (fun m (s : Int × List Str × List Str × (((List api_TrackedWord) × Int) × Tok)) => m = s.2.2.1.length ∧ split = s.2.1 ++ s.2.2.1 ∧ s.1 = (s.2.1.length : Int) ∧ M.markup_ParseWords_loop1 s.2.2.1 s.2.2.2.1.1 s.2.2.2.1.2 = some s4) (fun s => [(15, (I6.is s.1)), (4, (tO tapi_TrackedWord s.2.2.2.2 s.2.2.2.1.1)), (5, (I6.is s.2.2.2.1.2)), (0, (tS.is s0_)), (13, ((tL tS).is split)), (14, (I6.is (split.length : Int)))]) (fun s => [(4, Dec.Own tapi_TrackedWord 38 s.2.2.2.2 s.2.2.2.1.1.length), (700000, Gl (tA 3 tS) 0 gv0), (700001, Gl (tA 3 tS) 1 gv1), (700003, GlE 3)]) split.length ((0 : Int), [], split, ((([] : List api_TrackedWord), (0 : Int)), (none : Tok))) ⟨rfl, rfl, rfl, hs5⟩ ⟨.q rfl, .q rfl, .q rfl, .q rfl, .q rfl, .q rfl, trivial⟩ ⟨rfl, rfl, ⟨rfl, rfl, ⟨rfl, rfl, ⟨rfl, rfl, trivial⟩⟩⟩⟩ ?_
  rintro m ⟨i, pre, rest1, ⟨⟨out, state⟩, k⟩⟩ ⟨hn10, hxs7, hi8, hm⟩
  try dsimp only at hn10 hxs7 hi8 hm
  change W _ _ _ _ _ _ _ [(15, (I6.is i)), (4, (tO tapi_TrackedWord k out)), (5, (I6.is state)), (0, (tS.is s0_)), (13, ((tL tS).is split)), (14, (I6.is (split.length : Int)))] [(4, Dec.Own tapi_TrackedWord 38 k out.length), (700000, Gl (tA 3 tS) 0 gv0), (700001, Gl (tA 3 tS) 1 gv1), (700003, GlE 3)]
  refine W.lenL (s := 13) (.t rfl) fun hlen9 => Aw <| Ao rfl (.ltI (.t rfl) (.t rfl)) <| An <| W.seq <| W.cond (.t rfl) (fun hc12 => ?_) (fun hc12 => ?_)
  ·have hp13 := of_decide_eq_true hc12
   obtain ⟨e, es, hrest15⟩ := range_more hxs7 hi8 hp13
   subst hrest15
   rw [M.markup_ParseWords_loop1.eq_2] at hm
   refine W.skip <| Aq <| W.seq <| W.block <| Aw <| Ao rfl (.idxPre hxs7 hi8 U43 Z9 (.t rfl) (.t rfl)) <| Ao rfl (.load ty9 (.t rfl)) <| Ag rfl rfl <| Ar <| Am rfl rfl <| An <| W.block <| Aw <| Ao rfl (.eqS (.t rfl) (.str rfl (by decide))) <| Ag rfl rfl <| WL.ns ?_
   refine W.cB hm (.t rfl) (fun hp17 hm => ?_) (fun hp17 hm => ?_)
   ·exact W.region <| Ao rfl (.assign .i64) <| WL.nil <| WN.block <| WN.block <| Aq <| W.region <| Ao rfl (.addI (.t rfl) .i64 (range_inR hi8 hp13 hlen9)) <| Am rfl rfl <| WL.nil <| WN.again es.length (i + 1, pre ++ [e], es, ((out, (1 : Int)), k)) (range_lt hn10) ⟨rfl, range_step hxs7, range_idx hi8, hm⟩ ⟨.q rfl, .q rfl, .q rfl, .q rfl, .q rfl, .q rfl, trivial⟩ ⟨rfl, rfl, ⟨rfl, rfl, ⟨rfl, rfl, ⟨rfl, rfl, trivial⟩⟩⟩⟩
   ·refine Aw <| Ao rfl (.eqS (.t rfl) (.str rfl (by decide))) <| Ag rfl rfl <| An <| W.cB hm (.t rfl) (fun hp19 hm => ?_) (fun hp19 hm => ?_)
    ·exact W.region <| Ao rfl (.assign .i64) <| WL.nil <| WN.block <| WN.block <| Aq <| W.region <| Ao rfl (.addI (.t rfl) .i64 (range_inR hi8 hp13 hlen9)) <| Am rfl rfl <| WL.nil <| WN.again es.length (i + 1, pre ++ [e], es, ((out, (2 : Int)), k)) (range_lt hn10) ⟨rfl, range_step hxs7, range_idx hi8, hm⟩ ⟨.q rfl, .q rfl, .q rfl, .q rfl, .q rfl, .q rfl, trivial⟩ ⟨rfl, rfl, ⟨rfl, rfl, ⟨rfl, rfl, ⟨rfl, rfl, trivial⟩⟩⟩⟩
    ·obtain ⟨s20, hs21, hk22⟩ := Bs hm
     clear hm
     refine W.join (fun s : Bool => s = s20) (fun s => [(37, (tB.is s)), (0, (tS.is s0_)), (4, (tO tapi_TrackedWord k out)), (5, (I6.is state)), (7, (tS.is e)), (13, ((tL tS).is split)), (14, (I6.is (split.length : Int))), (15, (I6.is i))]) (fun s => [(4, Dec.Own tapi_TrackedWord 38 k out.length), (700000, Gl (tA 3 tS) 0 gv0), (700001, Gl (tA 3 tS) 1 gv1), (700003, GlE 3)]) ?_ ?_
     ·rintro v hj32
      try dsimp only at hj32
      subst hj32
      have hm := hk22
      clear hk22
      try dsimp only at hm
      change W _ _ _ _ _ _ _ [(37, (tB.is v)), (0, (tS.is s0_)), (4, (tO tapi_TrackedWord k out)), (5, (I6.is state)), (7, (tS.is e)), (13, ((tL tS).is split)), (14, (I6.is (split.length : Int))), (15, (I6.is i))] [(4, Dec.Own tapi_TrackedWord 38 k out.length), (700000, Gl (tA 3 tS) 0 gv0), (700001, Gl (tA 3 tS) 1 gv1), (700003, GlE 3)]
      refine W.cB hm (.t rfl) (fun hp26 hm => ?_) (fun hp26 hm => ?_)
      ·exact W.region <| Ao rfl (.assign .i64) <| WL.nil <| WN.block <| WN.block <| Aq <| W.region <| Ao rfl (.addI (.t rfl) .i64 (range_inR hi8 hp13 hlen9)) <| Am rfl rfl <| WL.nil <| WN.again es.length (i + 1, pre ++ [e], es, ((out, (0 : Int)), k)) (range_lt hn10) ⟨rfl, range_step hxs7, range_idx hi8, hm⟩ ⟨.q rfl, .q rfl, .q rfl, .q rfl, .q rfl, .q rfl, trivial⟩ ⟨rfl, rfl, ⟨rfl, rfl, ⟨rfl, rfl, ⟨rfl, rfl, trivial⟩⟩⟩⟩
      ·refine Aw <| WL.mv rfl rfl ?_
       obtain ⟨unesca, hv27, hm⟩ := Bs hm
       refine Ao rfl (.callG (rin := [(700003, GlE 3)]) C22 (markup_unescape_spec _ _ hv27) ⟨rfl, trivial⟩ ⟨rfl, rfl, trivial⟩ ⟨(.t rfl), trivial⟩) <| Am rfl rfl <| Ao rfl (.extract0 (.t rfl)) <| Ao rfl (.extract1 (.t rfl)) <| Ag rfl rfl <| Ag rfl rfl <| An <| W.seq <| Aw <| Am rfl rfl <| Ao rfl (.notB (.t rfl)) <| An <| W.cR hm (.t rfl) (fun hp29 hm => ?_) (fun hp29 hm => ?_)
       ·refine Aw <| Ao rfl (.assign (.nil (t := tapi_TrackedWord))) <| Ao rfl (.assign .bool) <| WL.ns ?_
        have hr30 := Si hm
        clear hm
        subst hr30
        have hm := hk6
        try dsimp only at hm
        cases hm
        exact W.ret2 () rfl rfl (.t rfl) (.t rfl) trivial
       ·refine W.skip <| Aq <| W.region <| Am rfl rfl <| Am rfl rfl <| Am rfl rfl <| Ao rfl (.build (s := tapi_TrackedWord) (x := (⟨state, unesca.1⟩ : api_TrackedWord)) zapi_TrackedWord_f rfl U38 (zapi_TrackedWord_sz _ U38) ze38 ⟨_, I6, state, _, _, rfl, Z3, (.t rfl), sapi_TrackedWord_0, ⟨_, tS, unesca.1, _, _, rfl, Z9, (.t rfl), sapi_TrackedWord_1, rfl⟩⟩) <| Ao rfl (.buildSlice (n := 1) (ys := [(0, (⟨state, unesca.1⟩ : api_TrackedWord))]) (z := zapi_TrackedWord) (xs := [(⟨state, unesca.1⟩ : api_TrackedWord)]) U22 el38 ze38 ⟨rfl, (.t rfl), trivial⟩ (by simp) (by decide) rfl) ?_
        obtain ⟨out1, hv31, hm⟩ := Bs hm
        exact WL.opR rfl (OpR.appC (key := 4) hv31 U22 el38 (.t rfl) (.t rfl) rfl) fun k1 => Ag rfl rfl <| WL.nil <| WN.block <| WN.block <| Aq <| W.region <| Ao rfl (.addI (.t rfl) .i64 (range_inR hi8 hp13 hlen9)) <| Am rfl rfl <| WL.nil <| WN.again es.length (i + 1, pre ++ [e], es, ((out1, state), k1)) (range_lt hn10) ⟨rfl, range_step hxs7, range_idx hi8, hm⟩ ⟨.q rfl, .q rfl, .q rfl, .q rfl, .q rfl, .q rfl, trivial⟩ ⟨rfl, rfl, ⟨rfl, rfl, ⟨rfl, rfl, ⟨rfl, rfl, trivial⟩⟩⟩⟩
     ·have hm := hs21
      clear hs21
      refine Aw <| Ao rfl (.eqS (.t rfl) (.str rfl (by decide))) <| Ag rfl rfl <| An <| W.cB hm (.t rfl) (fun hp24 hm => ?_) (fun hp24 hm => ?_)
      ·exact W.skip <| WN.meet (e == ([43, 93] : Str)) (Si hm) ⟨.q rfl, .q rfl, .q rfl, .q rfl, .q rfl, .q rfl, .q rfl, .q rfl, trivial⟩ ⟨rfl, rfl, ⟨rfl, rfl, ⟨rfl, rfl, ⟨rfl, rfl, trivial⟩⟩⟩⟩
      ·exact W.region <| Ao rfl (.eqS (.t rfl) (.str rfl (by decide))) <| Ag rfl rfl <| WL.nil <| WN.meet (e == ([45, 93] : Str)) (Si hm) ⟨.q rfl, .q rfl, .q rfl, .q rfl, .q rfl, .q rfl, .q rfl, .q rfl, trivial⟩ ⟨rfl, rfl, ⟨rfl, rfl, ⟨rfl, rfl, ⟨rfl, rfl, trivial⟩⟩⟩⟩
  ·have hrest15 := range_end hxs7 hi8 (of_decide_eq_false hc12)
   subst hrest15
   rw [M.markup_ParseWords_loop1.eq_1] at hm
   refine W.exit rfl ?_
   have hr33 := Si hm
   clear hm
   subst hr33
   have hm := hk6
   try dsimp only at hm
   refine Aq <| W.seq <| Aw <| WL.mv rfl rfl ?_
   obtain ⟨validr, hv34, hm⟩ := Bs hm
   refine Ao rfl (.call C15 (markup_validRow_spec _ _ _ hv34) ⟨(Opd.own (.t rfl)), trivial⟩) <| Ao rfl (.notB (.t rfl)) <| WL.mv rfl rfl ?_
   rcases iteR hm with ⟨hp36, hb35, hm⟩ | ⟨hp36, hb35, hm⟩
   ·refine Ap rfl hb35 <| Ap rfl hb35 <| Ap rfl hb35 <| Ap rfl hb35 <| Ao rfl (.pickT (.t rfl) hb35 .bool) <| An <| W.condT (.t rfl) <| Aw <| Ao rfl (.assign (.nil (t := tapi_TrackedWord))) <| Ao rfl (.assign .bool) <| WL.ns ?_
    cases hm
    exact W.ret2 () rfl rfl (.t rfl) (.t rfl) trivial
   ·refine Ax rfl hb35 (.move (.t rfl)) ?_
    obtain ⟨format, hv37, hm⟩ := Bs hm
    refine Ax rfl hb35 (.callG (rin := [(700000, Gl (tA 3 tS) 0 gv0), (700001, Gl (tA 3 tS) 1 gv1), (700003, GlE 3)]) C7 (markup_FormatWords_spec _ _ _ hv37) ⟨rfl, rfl, rfl, trivial⟩ ⟨rfl, rfl, ⟨rfl, rfl, ⟨rfl, rfl, trivial⟩⟩⟩ ⟨(Opd.own (.t rfl)), trivial⟩) <| Ax rfl hb35 (.move (.t rfl)) <| Ax rfl hb35 (.neS (.t rfl) (.t rfl)) <| Ao rfl (.pickF (.t rfl) hb35 (.t rfl)) <| An <| W.cB hm (.t rfl) (fun hp39 hm => ?_) (fun hp39 hm => ?_)
    ·refine Aw <| Ao rfl (.assign (.nil (t := tapi_TrackedWord))) <| Ao rfl (.assign .bool) <| WL.ns ?_
     cases hm
     exact W.ret2 () rfl rfl (.t rfl) (.t rfl) trivial
    ·refine W.skip <| Aq <| Aw <| Am rfl rfl <| Ag rfl rfl <| Ao rfl (.assign .bool) <| WL.ns ?_
     cases hm
     exact W.ret2 () rfl rfl (Opd.own (.t rfl)) (.t rfl) trivial
theorem r53_Rows_spec (n : Nat) (a : List api_TrackedWord) (b : List api_TrackedWord) (r : Bool) (hm : M.r53_Rows n a b = some r) : FSpec Tryd.prog 11 [((tL tapi_TrackedWord).is a), ((tL tapi_TrackedWord).is b)] (tB.is r) := by
 unfold M.r53_Rows at hm
 refine FSpec.of Tryd.func11 rfl rfl rfl fun g0 => Aw <| Ao rfl (.assign .bool) <| An <| W.seq <| Aw <| Am rfl rfl <| Ao rfl (.lenL U22 (.t rfl)) <| Am rfl rfl <| Ao rfl (.lenL U22 (.t rfl)) <| Ao rfl (.neI (.t rfl) (.t rfl)) <| An <| W.cD hm (.t rfl) (fun hp2 hm => ?_) (fun hp2 hm => ?_)
 ·refine Aw <| Ao rfl (.assign .bool) <| WL.ns ?_
  cases hm
  exact W.ret1 () rfl (.t rfl) trivial
 ·refine W.skip <| Aq <| W.seq <| Aw <| Ao rfl (.assign .i64) <| An <| W.block ?_
  obtain ⟨s3, hs4, hk5⟩ := Bs hm
  clear hm
  refine W.loop (fun m (s : Int) => M.r53_Rows_loop1 a b m s = some s3) (fun s => [(5, (I6.is s)), (0, ((tL tapi_TrackedWord).is a)), (1, ((tL tapi_TrackedWord).is b))]) (fun s => []) _ (0 : Int) hs4 ⟨.q rfl, .q rfl, .q rfl, trivial⟩ trivial ?_
  rintro n6 i hm
  try dsimp only at hm
  change W _ _ _ _ _ _ _ [(5, (I6.is i)), (0, ((tL tapi_TrackedWord).is a)), (1, ((tL tapi_TrackedWord).is b))] []
  cases n6 with
  | zero => rw [M.r53_Rows_loop1.eq_1] at hm; cases hm
  | succ n6 =>
   rw [M.r53_Rows_loop1.eq_2] at hm
   refine W.seq <| Aw <| Am rfl rfl <| Am rfl rfl <| Ao rfl (.lenL U22 (.t rfl)) <| Ao rfl (.ltI (.t rfl) (.t rfl)) <| An <| W.cD hm (.t rfl) (fun hp8 hm => ?_) (fun hp8 hm => ?_)
   ·refine W.skip <| Aq <| W.seq <| W.block <| W.seq ?_
    obtain ⟨v, hv9, hm⟩ := Bs hm
    obtain ⟨v1, hv10, hm⟩ := Bs hm
    refine W.draw [.c _, .c _, .c _, .c _, .c _, .c _, .c _, .c _, .c _] [([], [0]), ([], [5]), ([0, 1], []), ([2], []), ([], [1]), ([], [5]), ([4, 5], []), ([6], []), ([3, 7], [])] Mx rfl rfl rfl rfl ⟨Dn (.move (.t rfl)), Dn (.move (.t rfl)), Dn (.idx hv9 U22 Z38 (.t rfl) (.t rfl)), Dn (.load ty38 (.t rfl)), Dn (.move (.t rfl)), Dn (.move (.t rfl)), Dn (.idx hv10 U22 Z38 (.t rfl) (.t rfl)), Dn (.load ty38 (.t rfl)), Dn (.neSt (D := 2) rfl (by decide) eg38 eq38 (.t rfl) (.t rfl)), trivial⟩ <| Aq <| W.cD hm (.t rfl) (fun hp12 hm => ?_) (fun hp12 hm => ?_)
    ·refine Aw <| Ao rfl (.assign .bool) <| WL.ns ?_
     have hr13 := Si hm
     clear hm
     subst hr13
     have hm := hk5
     try dsimp only at hm
     cases hm
     exact W.ret1 () rfl (.t rfl) trivial
    ·exact W.skip <| WN.block <| Aq <| W.region <| Am rfl rfl <| WL.lenL (s := 0) (.t rfl) fun hl14 => Ao rfl (.addI1 (.t rfl) .i64 hp8 hl14) <| Ag rfl rfl <| WL.nil <| WN.again n6 (i + 1) (Nat.lt_succ_self n6) hm ⟨.q rfl, .q rfl, .q rfl, trivial⟩ trivial
   ·refine W.exit rfl ?_
    have hr15 := Si hm
    clear hm
    subst hr15
    have hm := hk5
    try dsimp only at hm
    refine Aq <| Aw <| Ao rfl (.assign .bool) <| WL.ns ?_
    cases hm
    exact W.ret1 () rfl (.t rfl) trivial
theorem law53_MarkupFormatWords_spec (n : Nat) (l : List api_TrackedWord) (r : Bool) (hm : M.law53_MarkupFormatWords n l = some r) : FSpecR Tryd.prog 3 [((tL tapi_TrackedWord).is l)] [(700000, Gl (tA 3 tS) 0 gv0), (700001, Gl (tA 3 tS) 1 gv1), (700002, Gl (tA 8 tS) 2 gv2), (700003, GlE 3), (700006, GlT Tryd.prog "internal/strconv.uint64pow10" .u64 Lib.pow10Tab)] (fun _ : Unit => (tB.is r)) (fun _ => []) := by
 unfold M.law53_MarkupFormatWords at hm
 refine FSpecR.of Tryd.func3 rfl rfl rfl fun g0 => Aw <| Ao rfl (.assign .bool) <| An <| W.seq <| W.sr ?_
 obtain ⟨awake, hv1, hm⟩ := Bs hm
 refine Ao rfl (.callG (rin := [(700000, Gl (tA 3 tS) 0 gv0), (700001, Gl (tA 3 tS) 1 gv1), (700002, Gl (tA 8 tS) 2 gv2), (700003, GlE 3), (700006, GlT Tryd.prog "internal/strconv.uint64pow10" .u64 Lib.pow10Tab)]) C5 (law53_awake_spec _ _ hv1) ⟨rfl, rfl, rfl, rfl, rfl, trivial⟩ ⟨rfl, rfl, ⟨rfl, rfl, ⟨rfl, rfl, ⟨rfl, rfl, ⟨rfl, rfl, trivial⟩⟩⟩⟩⟩ trivial) <| Ao rfl (.notB (.t rfl)) <| An <| W.cR hm (.t rfl) (fun hp3 hm => ?_) (fun hp3 hm => ?_)
 ·refine Aw <| Ao rfl (.assign .bool) <| WL.ns ?_
  cases hm
  exact W.ret1 () rfl (.t rfl) trivial
 ·refine W.skip <| Aq <| W.seq <| Aw <| Am rfl rfl <| Ao rfl (.build (s := tapi_TrackedUnit) (x := (⟨(0 : Int), (0 : Int), zapi_Id, ([] : Str), ([] : Str), false, ([] : List api_TrackedWord), l, ([] : List api_TrackedUnit)⟩ : api_TrackedUnit)) zapi_TrackedUnit_f rfl U29 (zapi_TrackedUnit_sz _ U29) ze29 ⟨_, (tL tapi_TrackedWord), l, _, _, rfl, Z22, (.t rfl), sapi_TrackedUnit_7, rfl⟩) ?_
  obtain ⟨few, hv4, hm⟩ := Bs hm
  refine Ao rfl (.call C6 (r53_Few_spec _ _ _ _ hv4) ⟨(.t rfl), .i64, trivial⟩) <| Ao rfl (.notB (.t rfl)) <| An <| W.cR hm (.t rfl) (fun hp6 hm => ?_) (fun hp6 hm => ?_)
  ·refine Aw <| Ao rfl (.assign .bool) <| WL.ns ?_
   cases hm
   exact W.ret1 () rfl (.t rfl) trivial
  ·refine W.skip <| Aq <| Aw <| WL.mv rfl rfl ?_
   obtain ⟨format, hv7, hm⟩ := Bs hm
   refine Ao rfl (.callG (rin := [(700000, Gl (tA 3 tS) 0 gv0), (700001, Gl (tA 3 tS) 1 gv1), (700003, GlE 3)]) C7 (markup_FormatWords_spec _ _ _ hv7) ⟨rfl, rfl, rfl, trivial⟩ ⟨rfl, rfl, ⟨rfl, rfl, ⟨rfl, rfl, trivial⟩⟩⟩ ⟨(.t rfl), trivial⟩) <| Ag rfl rfl <| An <| W.seq <| Aw <| Am rfl rfl <| WL.mv rfl rfl ?_
   obtain ⟨row, hv8, hm⟩ := Bs hm
   refine Ao rfl (.call C8 (r53_Row_spec _ _ _ hv8) ⟨(.t rfl), trivial⟩) <| Ao rfl (.neS (.t rfl) (.t rfl)) <| An <| W.cB hm (.t rfl) (fun hp10 hm => ?_) (fun hp10 hm => ?_)
   ·refine Aw <| Ao rfl (.assign .bool) <| WL.ns ?_
    cases hm
    exact W.ret1 () rfl (.t rfl) trivial
   ·refine W.skip <| Aq <| W.seq <| Aw <| WL.mv rfl rfl ?_
    obtain ⟨mayrow, hv11, hm⟩ := Bs hm
    refine Ao rfl (.call C9 (r53_MayRow_spec _ _ _ hv11) ⟨(.t rfl), trivial⟩) <| Ao rfl (.notB (.t rfl)) <| An <| W.cR hm (.t rfl) (fun hp13 hm => ?_) (fun hp13 hm => ?_)
    ·refine Aw <| Am rfl rfl <| Ao rfl (.eqS (.t rfl) (.str rfl (by decide))) <| Ag rfl rfl <| WL.ns ?_
     cases hm
     exact W.ret1 () rfl (.t rfl) trivial
    ·refine W.skip <| Aq <| Aw <| WL.mv rfl rfl ?_
     obtain ⟨parsew, hv14, hm⟩ := Bs hm
     refine Ao rfl (.callG (rin := [(700000, Gl (tA 3 tS) 0 gv0), (700001, Gl (tA 3 tS) 1 gv1), (700003, GlE 3)]) C10 (markup_ParseWords_spec _ _ _ hv14) ⟨rfl, rfl, rfl, trivial⟩ ⟨rfl, rfl, ⟨rfl, rfl, ⟨rfl, rfl, trivial⟩⟩⟩ ⟨(.t rfl), trivial⟩) <| Am rfl rfl <| Ao rfl (.extract0 (.t rfl)) <| Ao rfl (.extract1 (.t rfl)) <| Ag rfl rfl <| Ag rfl rfl <| Ar <| Am rfl rfl <| WL.mv rfl rfl ?_
     rcases iteB hm with ⟨hp16, hb15, hm⟩ | ⟨hp16, hb15, hm⟩
     ·refine Ax rfl hb15 (.move (.t rfl)) <| Ax rfl hb15 (.move (.t rfl)) ?_
      obtain ⟨rows, hv17, hm⟩ := Bs hm
      refine Ax rfl hb15 (.call C11 (r53_Rows_spec _ _ _ _ hv17) ⟨(.t rfl), (.t rfl), trivial⟩) <| Ao rfl (.pickT (.t rfl) hb15 (.t rfl)) <| Ag rfl rfl <| WL.ns ?_
      cases hm
      exact W.ret1 () rfl (.t rfl) trivial
     ·refine Ap rfl hb15 <| Ap rfl hb15 <| Ap rfl hb15 <| Ao rfl (.pickF (.t rfl) hb15 .bool) <| Ag rfl rfl <| WL.ns ?_
      cases hm
      exact W.ret1 () rfl (.t rfl) trivial
theorem r04_Pieces_spec (n : Nat) (s0_ : Str) (r : (List Str)) (hm : M.r04_Pieces n s0_ = some r) : FSpec Tryd.prog 23 [(tS.is s0_)] ((tL tS).is r) := by
 unfold M.r04_Pieces at hm
 refine FSpec.of Tryd.func23 rfl rfl rfl fun g0 => Aw <| Ao rfl (.assign (.nil (t := tS))) <| Ar <| WL.opR rfl (OpR.buildSlice (n := 0) (ys := []) (z := ([] : Str)) (xs := ([] : List Str)) 6 U43 el9 ze9 trivial (by simp) (by decide) rfl) fun k => Ag rfl rfl <| An <| W.seq <| Aw <| Am rfl rfl <| Ao rfl (.eqS (.t rfl) (.str rfl (by decide))) <| An <| W.cB hm (.t rfl) (fun hp2 hm => ?_) (fun hp2 hm => ?_)
 ·refine Aw <| Am rfl rfl <| Ag rfl rfl <| WL.ns ?_
  cases hm
  exact W.ret1 () rfl (Opd.own (.t rfl)) trivial
 ·refine W.skip <| Aq <| Aw <| Ao rfl (.assign .i64) <| An <| W.seq <| Aw <| Ao rfl (.assign .i64) <| An <| W.block ?_
  obtain ⟨s3, hs4, hk5⟩ := Bs hm
  clear hm
  refine W.loop (fun m (s : ((List Str) × Int × Int) × Tok) => M.r04_Pieces_loop1 s0_ m s.1.1 s.1.2.1 s.1.2.2 = some s3) (fun s => [(3, (tO tS s.2 s.1.1)), (4, (I6.is s.1.2.1)), (5, (I6.is s.1.2.2)), (0, (tS.is s0_))]) (fun s => [(6, Dec.Own tS 9 s.2 s.1.1.length)]) _ ((([] : List Str), (0 : Int), (0 : Int)), k) hs4 ⟨.q rfl, .q rfl, .q rfl, .q rfl, trivial⟩ ⟨rfl, rfl, trivial⟩ ?_
  rintro n6 ⟨⟨out, from0_, i⟩, k1⟩ hm
  try dsimp only at hm
  change W _ _ _ _ _ _ _ [(3, (tO tS k1 out)), (4, (I6.is from0_)), (5, (I6.is i)), (0, (tS.is s0_))] [(6, Dec.Own tS 9 k1 out.length)]
  cases n6 with
  | zero => rw [M.r04_Pieces_loop1.eq_1] at hm; cases hm
  | succ n6 =>
   rw [M.r04_Pieces_loop1.eq_2] at hm
   refine W.seq <| Aw <| Am rfl rfl <| Am rfl rfl <| Ao rfl (.lenS U9 (.t rfl)) <| Ao rfl (.leI (.t rfl) (.t rfl)) <| An <| W.cD hm (.t rfl) (fun hp8 hm => ?_) (fun hp8 hm => ?_)
   ·refine W.skip <| Aq <| W.seq <| W.block ?_
    obtain ⟨s9, hs10, hk11⟩ := Bs hm
    clear hm
    refine W.join (fun s : Bool => s = s9) (fun s => [(25, (tB.is s)), (0, (tS.is s0_)), (3, (tO tS k1 out)), (4, (I6.is from0_)), (5, (I6.is i))]) (fun s => [(6, Dec.Own tS 9 k1 out.length)]) ?_ ?_
    ·rintro v hj22
     try dsimp only at hj22
     subst hj22
     have hm := hk11
     clear hk11
     try dsimp only at hm
     change W _ _ _ _ _ _ _ [(25, (tB.is v)), (0, (tS.is s0_)), (3, (tO tS k1 out)), (4, (I6.is from0_)), (5, (I6.is i))] [(6, Dec.Own tS 9 k1 out.length)]
     refine W.cB hm (.t rfl) (fun hp16 hm => ?_) (fun hp16 hm => ?_)
     ·refine Aw <| Am rfl rfl <| Am rfl rfl <| Am rfl rfl <| WL.mv rfl rfl ?_
      obtain ⟨v1, hv17, hm⟩ := Bs hm
      refine Ao rfl (.sslc hv17 U9 (.t rfl) (.t rfl) (.t rfl)) <| Ao rfl (.buildSlice (n := 1) (ys := [(0, v1)]) (z := ([] : Str)) (xs := [v1]) U43 el9 ze9 ⟨rfl, (.t rfl), trivial⟩ (by simp) (by decide) rfl) ?_
      obtain ⟨out1, hv18, hm⟩ := Bs hm
      refine WL.opR rfl (OpR.appC (key := 6) hv18 U43 el9 (.t rfl) (.t rfl) rfl) fun k2 => Ag rfl rfl <| WL.nr1 <| WL.mv rfl rfl ?_
      obtain ⟨v2, hv19, hm⟩ := Bs hm
      refine Ao rfl (.addC hv19 (.t rfl) .i64) <| Ag rfl rfl <| WL.nil <| WN.block <| Aq <| W.region <| WL.mv rfl rfl ?_
      obtain ⟨v3, hv20, hm⟩ := Bs hm
      exact Ao rfl (.addC hv20 (.t rfl) .i64) <| Ag rfl rfl <| WL.nil <| WN.again n6 ((out1, v2, v3), k2) (Nat.lt_succ_self n6) hm ⟨.q rfl, .q rfl, .q rfl, .q rfl, trivial⟩ ⟨rfl, rfl, trivial⟩
     ·refine W.skip <| WN.block <| Aq <| W.region <| WL.mv rfl rfl ?_
      obtain ⟨v4, hv21, hm⟩ := Bs hm
      exact Ao rfl (.addC hv21 (.t rfl) .i64) <| Ag rfl rfl <| WL.nil <| WN.again n6 ((out, from0_, v4), k1) (Nat.lt_succ_self n6) hm ⟨.q rfl, .q rfl, .q rfl, .q rfl, trivial⟩ ⟨rfl, rfl, trivial⟩
    ·have hm := hs10
     clear hs10
     refine W.region <| Am rfl rfl <| Am rfl rfl <| Ao rfl (.lenS U9 (.t rfl)) <| Ao rfl (.eqI (.t rfl) (.t rfl)) <| WL.mv rfl rfl ?_
     rcases iteD hm with ⟨hp13, hb12, hm⟩ | ⟨hp13, hb12, hm⟩
     ·exact Ap rfl hb12 <| Ap rfl hb12 <| Ap rfl hb12 <| Ap rfl hb12 <| Ao rfl (.pickT (.t rfl) hb12 .bool) <| WL.nil <| WN.meet true (Si hm) ⟨.q rfl, .q rfl, .q rfl, .q rfl, .q rfl, trivial⟩ ⟨rfl, rfl, trivial⟩
     ·refine Ax rfl hb12 (.move (.t rfl)) <| Ax rfl hb12 (.move (.t rfl)) ?_
      obtain ⟨b, hv14, hm⟩ := Bs hm
      exact Ax rfl hb12 (.sidx hv14 U9 (.t rfl) (.t rfl)) <| Ax rfl hb12 (.eqI (.t rfl) (.int (inR8.2 (by omega)))) <| Ao rfl (.pickF (.t rfl) hb12 (.t rfl)) <| WL.nil <| WN.meet (decide ((b.toNat : Int) = (32 : Int))) (Si hm) ⟨.q rfl, .q rfl, .q rfl, .q rfl, .q rfl, trivial⟩ ⟨rfl, rfl, trivial⟩
   ·refine W.exit rfl ?_
    have hr23 := Si hm
    clear hm
    subst hr23
    have hm := hk5
    try dsimp only at hm
    refine Aq <| Aw <| Am rfl rfl <| Ag rfl rfl <| WL.ns ?_
    cases hm
    exact W.ret1 () rfl (Opd.own (.t rfl)) trivial
theorem r53_word_spec (n : Nat) (p : Str) (r : Str × Bool) (hm : M.r53_word n p = some r) : FSpec Tryd.prog 24 [(tS.is p)] (Asn.tuple2 (tS.is r.1) (tB.is r.2)) := by
 unfold M.r53_word at hm
 refine FSpec.of Tryd.func24 rfl rfl rfl fun g0 => Aw <| Ao rfl (.assign (.str rfl (by decide))) <| Ao rfl (.assign .bool) <| An <| W.seq ?_
 obtain ⟨s1, hs2, hk3⟩ := Bs hm
 clear hm
 refine W.join (fun s : Bool => s = s1) (fun s => [(16, (tB.is s)), (0, (tS.is p))]) (fun s => []) ?_ ?_
 ·rintro v hj26
  try dsimp only at hj26
  subst hj26
  have hm := hk3
  clear hk3
  try dsimp only at hm
  change W _ _ _ _ _ _ _ [(16, (tB.is v)), (0, (tS.is p))] []
  refine W.cB hm (.t rfl) (fun hp12 hm => ?_) (fun hp12 hm => ?_)
  ·refine W.seq ?_
   obtain ⟨v2, hv13, hm⟩ := Bs hm
   obtain ⟨v3, hv14, hm⟩ := Bs hm
   obtain ⟨word, hv15, hm⟩ := Bs hm
   refine W.draw [.c _, .c _, .c _, .c _, .c _, .c _, .c _] [([], [0]), ([0], []), ([], [0]), ([2], []), ([3], []), ([1], []), ([4], [])] Mx rfl rfl rfl rfl ⟨Dn (.move (.t rfl)), Dn (.sslcLo hv13 U9 (.t rfl) .i64), Dn (.move (.t rfl)), Dn (.sslcLo hv14 U9 (.t rfl) .i64), Dn (.call C20 (r04_Word_spec _ _ _ hv15) ⟨(.t rfl), trivial⟩), Dn (.assign (.t rfl)), Dn (.assign (.t rfl)), trivial⟩ <| WN.seq ?_
   cases hm
   exact W.ret2 () rfl rfl (.t rfl) (.t rfl) trivial
  ·refine W.skip <| Aq <| W.seq ?_
   obtain ⟨s16, hs17, hk18⟩ := Bs hm
   clear hm
   refine W.join (fun s : Bool => s = s16) (fun s => [(27, (tB.is s)), (0, (tS.is p))]) (fun s => []) ?_ ?_
   ·rintro v4 hj25
    try dsimp only at hj25
    subst hj25
    have hm := hk18
    clear hk18
    try dsimp only at hm
    change W _ _ _ _ _ _ _ [(27, (tB.is v4)), (0, (tS.is p))] []
    refine W.cB hm (.t rfl) (fun hp23 hm => ?_) (fun hp23 hm => ?_)
    ·refine Aw <| Ao rfl (.assign (.str rfl (by decide))) <| Ao rfl (.assign .bool) <| WL.ns ?_
     cases hm
     exact W.ret2 () rfl rfl (.t rfl) (.t rfl) trivial
    ·refine W.skip <| Aq <| Aw <| Am rfl rfl <| WL.mv rfl rfl ?_
     obtain ⟨word1, hv24, hm⟩ := Bs hm
     refine Ao rfl (.call C20 (r04_Word_spec _ _ _ hv24) ⟨(.t rfl), trivial⟩) <| Ag rfl rfl <| Ag rfl rfl <| WL.ns ?_
     cases hm
     exact W.ret2 () rfl rfl (.t rfl) (.t rfl) trivial
   ·have hm := hs17
    clear hs17
    refine W.region <| Am rfl rfl <| Ao rfl (.eqS (.t rfl) (.str rfl (by decide))) <| WL.mv rfl rfl ?_
    rcases iteB hm with ⟨hp20, hb19, hm⟩ | ⟨hp20, hb19, hm⟩
    ·exact Ap rfl hb19 <| Ap rfl hb19 <| Ao rfl (.pickT (.t rfl) hb19 .bool) <| WL.nil <| WN.meet true (Si hm) ⟨.q rfl, .q rfl, trivial⟩ trivial
    ·refine Ax rfl hb19 (.move (.t rfl)) ?_
     obtain ⟨specia1, hv21, hm⟩ := Bs hm
     exact Ax rfl hb19 (.call C19 (r53_special_spec _ _ hv21) ⟨(.t rfl), trivial⟩) <| Ao rfl (.pickF (.t rfl) hb19 (.t rfl)) <| WL.nil <| WN.meet specia1 (Si hm) ⟨.q rfl, .q rfl, trivial⟩ trivial
 ·have hm := hs2
  clear hs2
  refine W.region <| Am rfl rfl <| Ao rfl (.lenS U9 (.t rfl)) <| Ao rfl (.gtI (.t rfl) .i64) <| WL.mv rfl rfl ?_
  rcases iteD hm with ⟨hp5, hb4, hm⟩ | ⟨hp5, hb4, hm⟩
  ·refine Ax rfl hb4 (.move (.t rfl)) ?_
   obtain ⟨b, hv6, hm⟩ := Bs hm
   refine Ax rfl hb4 (.sidx hv6 U9 (.t rfl) .i64) <| Ax rfl hb4 (.eqI (.t rfl) (.int (inR8.2 (by omega)))) <| Ao rfl (.pickT (.t rfl) hb4 (.t rfl)) <| WL.mv rfl rfl ?_
   rcases iteD hm with ⟨hp8, hb7, hm⟩ | ⟨hp8, hb7, hm⟩
   ·refine Ax rfl hb7 (.move (.t rfl)) ?_
    obtain ⟨v1, hv9, hm⟩ := Bs hm
    refine Ax rfl hb7 (.sslcLo hv9 U9 (.t rfl) .i64) ?_
    obtain ⟨specia, hv10, hm⟩ := Bs hm
    exact Ax rfl hb7 (.call C19 (r53_special_spec _ _ hv10) ⟨(.t rfl), trivial⟩) <| Ao rfl (.pickT (.t rfl) hb7 (.t rfl)) <| WL.nil <| WN.meet specia (Si hm) ⟨.q rfl, .q rfl, trivial⟩ trivial
   ·exact Ap rfl hb7 <| Ap rfl hb7 <| Ap rfl hb7 <| Ao rfl (.pickF (.t rfl) hb7 .bool) <| WL.nil <| WN.meet false (Si hm) ⟨.q rfl, .q rfl, trivial⟩ trivial
  ·exact Ap rfl hb4 <| Ap rfl hb4 <| Ap rfl hb4 <| Ao rfl (.pickF (.t rfl) hb4 .bool) <| Am rfl rfl <| Ap rfl rfl <| Ap rfl rfl <| Ap rfl rfl <| Ao rfl (.pickF (.t rfl) rfl .bool) <| WL.nil <| WN.meet false (Si hm) ⟨.q rfl, .q rfl, trivial⟩ trivial
theorem r53_Words_spec (n : Nat) (s0_ : Str) (r : (List api_TrackedWord) × Bool) (hm : M.r53_Words n s0_ = some r) : FSpec Tryd.prog 12 [(tS.is s0_)] (Asn.tuple2 ((tL tapi_TrackedWord).is r.1) (tB.is r.2)) := by
 unfold M.r53_Words at hm
 refine FSpec.of Tryd.func12 rfl rfl rfl fun g0 => Aw <| Ao rfl (.assign (.nil (t := tapi_TrackedWord))) <| Ao rfl (.assign .bool) <| Ar <| WL.opR rfl (OpR.buildSlice (n := 0) (ys := []) (z := zapi_TrackedWord) (xs := ([] : List api_TrackedWord)) 10 U22 el38 ze38 trivial (by simp) (by decide) rfl) fun k => Ag rfl rfl <| An <| W.seq <| Aw <| Am rfl rfl <| Ao rfl (.eqS (.t rfl) (.str rfl (by decide))) <| An <| W.cB hm (.t rfl) (fun hp2 hm => ?_) (fun hp2 hm => ?_)
 ·refine Aw <| Am rfl rfl <| Ag rfl rfl <| Ao rfl (.assign .bool) <| WL.ns ?_
  cases hm
  exact W.ret2 () rfl rfl (Opd.own (.t rfl)) (.t rfl) trivial
 ·refine W.skip <| Aq <| Aw <| Ao rfl (.assign .i64) <| Ar <| WL.mv rfl rfl ?_
  obtain ⟨pieces, hv3, hm⟩ := Bs hm
  refine Ao rfl (.call C23 (r04_Pieces_spec _ _ _ hv3) ⟨(.t rfl), trivial⟩) <| Ag rfl rfl <| An <| W.seq <| Aw <| Ao rfl (.assign .i64) <| An <| W.block ?_
  obtain ⟨s4, hs5, hk6⟩ := Bs hm
  clear hm
  refine W.loop (fun m (s : ((List api_TrackedWord) × Int × Int) × Tok) => M.r53_Words_loop1 pieces m s.1.1 s.1.2.1 s.1.2.2 = some s4) (fun s => [(4, (tO tapi_TrackedWord s.2 s.1.1)), (5, (I6.is s.1.2.1)), (7, (I6.is s.1.2.2)), (0, (tS.is s0_)), (6, ((tL tS).is pieces))]) (fun s => [(10, Dec.Own tapi_TrackedWord 38 s.2 s.1.1.length)]) _ ((([] : List api_TrackedWord), (0 : Int), (0 : Int)), k) hs5 ⟨.q rfl, .q rfl, .q rfl, .q rfl, .q rfl, trivial⟩ ⟨rfl, rfl, trivial⟩ ?_
  rintro n7 ⟨⟨out, state, i⟩, k1⟩ hm
  try dsimp only at hm
  change W _ _ _ _ _ _ _ [(4, (tO tapi_TrackedWord k1 out)), (5, (I6.is state)), (7, (I6.is i)), (0, (tS.is s0_)), (6, ((tL tS).is pieces))] [(10, Dec.Own tapi_TrackedWord 38 k1 out.length)]
  cases n7 with
  | zero => rw [M.r53_Words_loop1.eq_1] at hm; cases hm
  | succ n7 =>
   rw [M.r53_Words_loop1.eq_2] at hm
   refine W.seq <| Aw <| Am rfl rfl <| Am rfl rfl <| Ao rfl (.lenL U43 (.t rfl)) <| Ao rfl (.ltI (.t rfl) (.t rfl)) <| An <| W.cD hm (.t rfl) (fun hp9 hm => ?_) (fun hp9 hm => ?_)
   ·refine W.skip <| Aq <| W.seq <| W.block <| Aw <| Am rfl rfl <| WL.mv rfl rfl ?_
    obtain ⟨v, hv10, hm⟩ := Bs hm
    refine Ao rfl (.idx hv10 U43 Z9 (.t rfl) (.t rfl)) <| Ao rfl (.load ty9 (.t rfl)) <| An <| W.block <| Aw <| Ao rfl (.eqS (.t rfl) (.str rfl (by decide))) <| Ag rfl rfl <| An <| W.cB hm (.t rfl) (fun hp12 hm => ?_) (fun hp12 hm => ?_)
    ·exact W.region <| Ao rfl (.assign .i64) <| WL.nil <| WN.block <| WN.block <| Aq <| W.region <| Am rfl rfl <| WL.lenL (s := 6) (.t rfl) fun hl13 => Ao rfl (.addI1 (.t rfl) .i64 hp9 hl13) <| Ag rfl rfl <| WL.nil <| WN.again n7 ((out, (1 : Int), i + 1), k1) (Nat.lt_succ_self n7) hm ⟨.q rfl, .q rfl, .q rfl, .q rfl, .q rfl, trivial⟩ ⟨rfl, rfl, trivial⟩
    ·refine Aw <| Ao rfl (.eqS (.t rfl) (.str rfl (by decide))) <| Ag rfl rfl <| An <| W.cB hm (.t rfl) (fun hp15 hm => ?_) (fun hp15 hm => ?_)
     ·exact W.region <| Ao rfl (.assign .i64) <| WL.nil <| WN.block <| WN.block <| Aq <| W.region <| Am rfl rfl <| WL.lenL (s := 6) (.t rfl) fun hl16 => Ao rfl (.addI1 (.t rfl) .i64 hp9 hl16) <| Ag rfl rfl <| WL.nil <| WN.again n7 ((out, (2 : Int), i + 1), k1) (Nat.lt_succ_self n7) hm ⟨.q rfl, .q rfl, .q rfl, .q rfl, .q rfl, trivial⟩ ⟨rfl, rfl, trivial⟩
     ·obtain ⟨s17, hs18, hk19⟩ := Bs hm
      clear hm
      refine W.join (fun s : Bool => s = s17) (fun s => [(46, (tB.is s)), (0, (tS.is s0_)), (4, (tO tapi_TrackedWord k1 out)), (5, (I6.is state)), (6, ((tL tS).is pieces)), (7, (I6.is i))]) (fun s => [(10, Dec.Own tapi_TrackedWord 38 k1 out.length)]) ?_ ?_
      ·rintro v1 hj32
       try dsimp only at hj32
       subst hj32
       have hm := hk19
       clear hk19
       try dsimp only at hm
       change W _ _ _ _ _ _ _ [(46, (tB.is v1)), (0, (tS.is s0_)), (4, (tO tapi_TrackedWord k1 out)), (5, (I6.is state)), (6, ((tL tS).is pieces)), (7, (I6.is i))] [(10, Dec.Own tapi_TrackedWord 38 k1 out.length)]
       refine W.cB hm (.t rfl) (fun hp23 hm => ?_) (fun hp23 hm => ?_)
       ·exact W.region <| Ao rfl (.assign .i64) <| WL.nil <| WN.block <| WN.block <| Aq <| W.region <| Am rfl rfl <| WL.lenL (s := 6) (.t rfl) fun hl24 => Ao rfl (.addI1 (.t rfl) .i64 hp9 hl24) <| Ag rfl rfl <| WL.nil <| WN.again n7 ((out, (0 : Int), i + 1), k1) (Nat.lt_succ_self n7) hm ⟨.q rfl, .q rfl, .q rfl, .q rfl, .q rfl, trivial⟩ ⟨rfl, rfl, trivial⟩
       ·refine Aw <| Am rfl rfl <| WL.mv rfl rfl ?_
        obtain ⟨v2, hv25, hm⟩ := Bs hm
        refine Ao rfl (.idx hv25 U43 Z9 (.t rfl) (.t rfl)) <| Ao rfl (.load ty9 (.t rfl)) ?_
        obtain ⟨word, hv26, hm⟩ := Bs hm
        refine Ao rfl (.call C24 (r53_word_spec _ _ _ hv26) ⟨(.t rfl), trivial⟩) <| Am rfl rfl <| Ao rfl (.extract0 (.t rfl)) <| Ao rfl (.extract1 (.t rfl)) <| Ag rfl rfl <| Ag rfl rfl <| An <| W.seq <| Aw <| Am rfl rfl <| Ao rfl (.notB (.t rfl)) <| An <| W.cR hm (.t rfl) (fun hp28 hm => ?_) (fun hp28 hm => ?_)
        ·refine Aw <| Ao rfl (.assign (.nil (t := tapi_TrackedWord))) <| Ao rfl (.assign .bool) <| WL.ns ?_
         have hr29 := Si hm
         clear hm
         subst hr29
         have hm := hk6
         try dsimp only at hm
         cases hm
         exact W.ret2 () rfl rfl (.t rfl) (.t rfl) trivial
        ·refine W.skip <| Aq <| W.region <| Am rfl rfl <| Am rfl rfl <| Am rfl rfl <| Ao rfl (.build (s := tapi_TrackedWord) (x := (⟨state, word.1⟩ : api_TrackedWord)) zapi_TrackedWord_f rfl U38 (zapi_TrackedWord_sz _ U38) ze38 ⟨_, I6, state, _, _, rfl, Z3, (.t rfl), sapi_TrackedWord_0, ⟨_, tS, word.1, _, _, rfl, Z9, (.t rfl), sapi_TrackedWord_1, rfl⟩⟩) <| Ao rfl (.buildSlice (n := 1) (ys := [(0, (⟨state, word.1⟩ : api_TrackedWord))]) (z := zapi_TrackedWord) (xs := [(⟨state, word.1⟩ : api_TrackedWord)]) U22 el38 ze38 ⟨rfl, (.t rfl), trivial⟩ (by simp) (by decide) rfl) ?_
         obtain ⟨out1, hv30, hm⟩ := Bs hm
         exact WL.opR rfl (OpR.appC (key := 10) hv30 U22 el38 (.t rfl) (.t rfl) rfl) fun k2 => Ag rfl rfl <| WL.nil <| WN.block <| WN.block <| Aq <| W.region <| Am rfl rfl <| WL.lenL (s := 6) (.t rfl) fun hl31 => Ao rfl (.addI1 (.t rfl) .i64 hp9 hl31) <| Ag rfl rfl <| WL.nil <| WN.again n7 ((out1, state, i + 1), k2) (Nat.lt_succ_self n7) hm ⟨.q rfl, .q rfl, .q rfl, .q rfl, .q rfl, trivial⟩ ⟨rfl, rfl, trivial⟩
      ·have hm := hs18
       clear hs18
       refine Aw <| Ao rfl (.eqS (.t rfl) (.str rfl (by decide))) <| Ag rfl rfl <| An <| W.cB hm (.t rfl) (fun hp21 hm => ?_) (fun hp21 hm => ?_)
       ·exact W.skip <| WN.meet (v == ([43, 93] : Str)) (Si hm) ⟨.q rfl, .q rfl, .q rfl, .q rfl, .q rfl, .q rfl, trivial⟩ ⟨rfl, rfl, trivial⟩
       ·exact W.region <| Ao rfl (.eqS (.t rfl) (.str rfl (by decide))) <| Ag rfl rfl <| WL.nil <| WN.meet (v == ([45, 93] : Str)) (Si hm) ⟨.q rfl, .q rfl, .q rfl, .q rfl, .q rfl, .q rfl, trivial⟩ ⟨rfl, rfl, trivial⟩
   ·refine W.exit rfl ?_
    have hr33 := Si hm
    clear hm
    subst hr33
    have hm := hk6
    try dsimp only at hm
    refine Aq <| W.seq <| Aw <| WL.mv rfl rfl ?_
    obtain ⟨mayrow, hv34, hm⟩ := Bs hm
    refine Ao rfl (.call C9 (r53_MayRow_spec _ _ _ hv34) ⟨(Opd.own (.t rfl)), trivial⟩) <| Ao rfl (.notB (.t rfl)) <| WL.mv rfl rfl ?_
    rcases iteR hm with ⟨hp36, hb35, hm⟩ | ⟨hp36, hb35, hm⟩
    ·refine Ap rfl hb35 <| Ap rfl hb35 <| Ap rfl hb35 <| Ap rfl hb35 <| Ao rfl (.pickT (.t rfl) hb35 .bool) <| An <| W.condT (.t rfl) <| Aw <| Ao rfl (.assign (.nil (t := tapi_TrackedWord))) <| Ao rfl (.assign .bool) <| WL.ns ?_
     cases hm
     exact W.ret2 () rfl rfl (.t rfl) (.t rfl) trivial
    ·refine Ax rfl hb35 (.move (.t rfl)) ?_
     obtain ⟨row, hv37, hm⟩ := Bs hm
     refine Ax rfl hb35 (.call C8 (r53_Row_spec _ _ _ hv37) ⟨(Opd.own (.t rfl)), trivial⟩) <| Ax rfl hb35 (.move (.t rfl)) <| Ax rfl hb35 (.neS (.t rfl) (.t rfl)) <| Ao rfl (.pickF (.t rfl) hb35 (.t rfl)) <| An <| W.cB hm (.t rfl) (fun hp39 hm => ?_) (fun hp39 hm => ?_)
     ·refine Aw <| Ao rfl (.assign (.nil (t := tapi_TrackedWord))) <| Ao rfl (.assign .bool) <| WL.ns ?_
      cases hm
      exact W.ret2 () rfl rfl (.t rfl) (.t rfl) trivial
     ·refine W.skip <| Aq <| Aw <| Am rfl rfl <| Ag rfl rfl <| Ao rfl (.assign .bool) <| WL.ns ?_
      cases hm
      exact W.ret2 () rfl rfl (Opd.own (.t rfl)) (.t rfl) trivial
theorem law53_MarkupParseWords_spec (n : Nat) (s0_ : Str) (r : Bool) (hm : M.law53_MarkupParseWords n s0_ = some r) : FSpecR Tryd.prog 4 [(tS.is s0_)] [(700000, Gl (tA 3 tS) 0 gv0), (700001, Gl (tA 3 tS) 1 gv1), (700002, Gl (tA 8 tS) 2 gv2), (700003, GlE 3), (700006, GlT Tryd.prog "internal/strconv.uint64pow10" .u64 Lib.pow10Tab)] (fun _ : Unit => (tB.is r)) (fun _ => []) := by
 unfold M.law53_MarkupParseWords at hm
 refine FSpecR.of Tryd.func4 rfl rfl rfl fun g0 => Aw <| Ao rfl (.assign .bool) <| An <| W.seq <| W.sr ?_
 obtain ⟨awake, hv1, hm⟩ := Bs hm
 refine Ao rfl (.callG (rin := [(700000, Gl (tA 3 tS) 0 gv0), (700001, Gl (tA 3 tS) 1 gv1), (700002, Gl (tA 8 tS) 2 gv2), (700003, GlE 3), (700006, GlT Tryd.prog "internal/strconv.uint64pow10" .u64 Lib.pow10Tab)]) C5 (law53_awake_spec _ _ hv1) ⟨rfl, rfl, rfl, rfl, rfl, trivial⟩ ⟨rfl, rfl, ⟨rfl, rfl, ⟨rfl, rfl, ⟨rfl, rfl, ⟨rfl, rfl, trivial⟩⟩⟩⟩⟩ trivial) <| Ao rfl (.notB (.t rfl)) <| An <| W.cR hm (.t rfl) (fun hp3 hm => ?_) (fun hp3 hm => ?_)
 ·refine Aw <| Ao rfl (.assign .bool) <| WL.ns ?_
  cases hm
  exact W.ret1 () rfl (.t rfl) trivial
 ·refine W.skip <| Aq <| W.seq <| Aw <| Am rfl rfl <| Ao rfl (.lenS U9 (.t rfl)) <| Ao rfl (.gtI (.t rfl) .i64) <| An <| W.cD hm (.t rfl) (fun hp5 hm => ?_) (fun hp5 hm => ?_)
  ·refine Aw <| Ao rfl (.assign .bool) <| WL.ns ?_
   cases hm
   exact W.ret1 () rfl (.t rfl) trivial
  ·refine W.skip <| Aq <| Aw <| WL.mv rfl rfl ?_
   obtain ⟨parsew, hv6, hm⟩ := Bs hm
   refine Ao rfl (.callG (rin := [(700000, Gl (tA 3 tS) 0 gv0), (700001, Gl (tA 3 tS) 1 gv1), (700003, GlE 3)]) C10 (markup_ParseWords_spec _ _ _ hv6) ⟨rfl, rfl, rfl, trivial⟩ ⟨rfl, rfl, ⟨rfl, rfl, ⟨rfl, rfl, trivial⟩⟩⟩ ⟨(.t rfl), trivial⟩) <| Am rfl rfl <| Ao rfl (.extract0 (.t rfl)) <| Ao rfl (.extract1 (.t rfl)) <| Ag rfl rfl <| Ag rfl rfl <| Ar <| WL.mv rfl rfl ?_
   obtain ⟨words, hv7, hm⟩ := Bs hm
   refine Ao rfl (.call C12 (r53_Words_spec _ _ _ hv7) ⟨(.t rfl), trivial⟩) <| Am rfl rfl <| Ao rfl (.extract0 (.t rfl)) <| Ao rfl (.extract1 (.t rfl)) <| Ag rfl rfl <| Ag rfl rfl <| Ar <| Am rfl rfl <| Am rfl rfl <| Ao rfl (.eqB U4 (.t rfl) (.t rfl)) <| WL.mv rfl rfl ?_
   rcases iteB hm with ⟨hp9, hb8, hm⟩ | ⟨hp9, hb8, hm⟩
   ·refine Ax rfl hb8 (.move (.t rfl)) <| Ax rfl hb8 (.move (.t rfl)) ?_
    obtain ⟨rows, hv10, hm⟩ := Bs hm
    refine Ax rfl hb8 (.call C11 (r53_Rows_spec _ _ _ _ hv10) ⟨(.t rfl), (.t rfl), trivial⟩) <| Ao rfl (.pickT (.t rfl) hb8 (.t rfl)) <| WL.mv rfl rfl ?_
    rcases iteB hm with ⟨hp12, hb11, hm⟩ | ⟨hp12, hb11, hm⟩
    ·refine Ax rfl hb11 (.move (.t rfl)) <| Ax rfl hb11 (.notB (.t rfl)) <| Ax rfl hb11 (.move (.t rfl)) ?_
     rcases iteR hm with ⟨hp14, hb13, hm⟩ | ⟨hp14, hb13, hm⟩
     ·refine Ap rfl hb13 <| Ap rfl hb13 <| Ap rfl hb13 <| Ap rfl hb13 <| Ax rfl hb11 (.pickT (.t rfl) hb13 .bool) <| Ao rfl (.pickT (.t rfl) hb11 (.t rfl)) <| Ag rfl rfl <| WL.ns ?_
      cases hm
      exact W.ret1 () rfl (.t rfl) trivial
     ·refine Ax rfl hb13 (.move (.t rfl)) ?_
      obtain ⟨format, hv15, hm⟩ := Bs hm
      refine Ax rfl hb13 (.callG (rin := [(700000, Gl (tA 3 tS) 0 gv0), (700001, Gl (tA 3 tS) 1 gv1), (700003, GlE 3)]) C7 (markup_FormatWords_spec _ _ _ hv15) ⟨rfl, rfl, rfl, trivial⟩ ⟨rfl, rfl, ⟨rfl, rfl, ⟨rfl, rfl, trivial⟩⟩⟩ ⟨(.t rfl), trivial⟩) <| Ax rfl hb13 (.move (.t rfl)) <| Ax rfl hb13 (.eqS (.t rfl) (.t rfl)) <| Ax rfl hb11 (.pickF (.t rfl) hb13 (.t rfl)) <| Ao rfl (.pickT (.t rfl) hb11 (.t rfl)) <| Ag rfl rfl <| WL.ns ?_
      cases hm
      exact W.ret1 () rfl (.t rfl) trivial
    ·refine Ap rfl hb11 <| Ap rfl hb11 <| Ap rfl hb11 <| WL.pass2 rfl rfl rfl rfl rfl rfl <| WL.pass2 rfl rfl rfl rfl rfl rfl <| WL.pass2 rfl rfl rfl rfl rfl rfl <| WL.pass2 rfl rfl rfl rfl rfl rfl <| Ap rfl hb11 <| Ao rfl (.pickF (.t rfl) hb11 .bool) <| Ag rfl rfl <| WL.ns ?_
     cases hm
     exact W.ret1 () rfl (.t rfl) trivial
   ·refine Ap rfl hb8 <| Ap rfl hb8 <| Ap rfl hb8 <| Ao rfl (.pickF (.t rfl) hb8 .bool) <| Am rfl rfl <| Ap rfl rfl <| Ap rfl rfl <| Ap rfl rfl <| WL.pass2 rfl rfl rfl rfl rfl rfl <| WL.pass2 rfl rfl rfl rfl rfl rfl <| WL.pass2 rfl rfl rfl rfl rfl rfl <| WL.pass2 rfl rfl rfl rfl rfl rfl <| Ap rfl rfl <| Ao rfl (.pickF (.t rfl) rfl .bool) <| Ag rfl rfl <| WL.ns ?_
    cases hm
    exact W.ret1 () rfl (.t rfl) trivial
end Go.Proofs.YtalogjkalmkpjaaDoor
