/-
  The code does what the models say: written by program.
-/
import Derived.Test.YtalogjkalmkpjaaGreatDoorWa
set_option linter.unusedVariables false
set_option linter.unusedSimpArgs false
namespace Go.Proofs.YtalogjkalmkpjaaGreatDoor
open Go Go.Dec
set_option maxRecDepth 100000
set_option maxHeartbeats 4000000
theorem r53_sign_spec (t : api_TrackedUnit) (r : Str) (hm : M.r53_sign t = some r) : FSpec Tryz.prog 103 [(tapi_TrackedUnit.is t)] (tS.is r) := by
 unfold M.r53_sign at hm
 refine FSpec.of Tryz.func103 rfl rfl rfl fun g0 => Aw <| Ao rfl (.box (.t rfl)) <| Ao rfl (.assign (.str rfl (by decide))) <| An <| W.seq <| Aw <| Ao rfl (.fieldAddr U33 rfl J4 fapi_TrackedUnit_5 (.t rfl)) <| Ao rfl (.load ty4 (.t rfl)) <| An <| W.cB hm (.t rfl) (fun hp2 hm => ?_) (fun hp2 hm => ?_)
 ·refine W.seq <| Aw <| Ao rfl (.fieldAddr U33 rfl J3 fapi_TrackedUnit_0 (.t rfl)) <| Ao rfl (.load ty3 (.t rfl)) <| Ao rfl (.eqI (.t rfl) .i64) <| An <| W.cD hm (.t rfl) (fun hp4 hm => ?_) (fun hp4 hm => ?_)
  ·refine Aw <| Ao rfl (.assign (.str rfl (by decide))) <| WL.ns ?_
   cases hm
   exact W.ret1 () rfl (.t rfl) trivial
  ·refine W.skip <| Aq <| Aw <| Ao rfl (.assign (.str rfl (by decide))) <| WL.ns ?_
   cases hm
   exact W.ret1 () rfl (.t rfl) trivial
 ·refine W.skip <| Aq <| Aw <| Ao rfl (.buildSlice (n := 3) (ys := [(0, ([61] : Str)), (1, ([43] : Str)), (2, ([45] : Str))]) (z := ([] : Str)) (xs := [([61] : Str), ([43] : Str), ([45] : Str)]) U38 el9 ze9 ⟨rfl, (.str rfl (by decide)), rfl, (.str rfl (by decide)), rfl, (.str rfl (by decide)), trivial⟩ (by simp) (by decide) rfl) <| Ag rfl rfl <| Ar <| Am rfl rfl <| Ao rfl (.fieldAddr U33 rfl J3 fapi_TrackedUnit_0 (.t rfl)) <| Ao rfl (.load ty3 (.t rfl)) ?_
  obtain ⟨v, hv5, hm⟩ := Bs hm
  refine Ao rfl (.idx hv5 U38 Z9 (.t rfl) (.t rfl)) <| Ao rfl (.load ty9 (.t rfl)) <| Ag rfl rfl <| WL.ns ?_
  cases hm
  exact W.ret1 () rfl (.t rfl) trivial
theorem r17_Digits_spec (n : Nat) (n0_ : Int) (r : Str) (hm : M.r17_Digits n n0_ = some r) : FSpec Tryz.prog 142 [(I6.is n0_)] (tS.is r) := by
 unfold M.r17_Digits at hm
 refine FSpec.of Tryz.func142 rfl rfl rfl fun g0 => Aw <| Ao rfl (.assign (.str rfl (by decide))) <| Ar <| Ao rfl (.assign (.str rfl (by decide))) <| An <| W.seq <| W.block ?_
 obtain ⟨s1, hs2, hk3⟩ := Bs hm
 clear hm
 refine W.loop (fun m (s : Int × Str) => M.r17_Digits_loop1 m s.1 s.2 = some s1) (fun s => [(0, (I6.is s.1)), (3, (tS.is s.2))]) (fun s => []) _ (n0_, ([] : Str)) hs2 ⟨.q rfl, .q rfl, trivial⟩ trivial ?_
 rintro n4 ⟨n0_1, s0_⟩ hm
 try dsimp only at hm
 change W _ _ _ _ _ _ _ [(0, (I6.is n0_1)), (3, (tS.is s0_))] []
 cases n4 with
 | zero => rw [M.r17_Digits_loop1.eq_1] at hm; cases hm
 | succ n4 =>
  rw [M.r17_Digits_loop1.eq_2] at hm
  refine W.seq <| Aw <| Am rfl rfl <| Ao rfl (.gtI (.t rfl) .i64) <| An <| W.cD hm (.t rfl) (fun hp6 hm => ?_) (fun hp6 hm => ?_)
  ·refine W.skip <| Aq <| W.block <| Aw <| WL.mv rfl rfl ?_
   obtain ⟨v, hv7, hm⟩ := Bs hm
   refine Ao rfl (.remC hv7 (.t rfl) .i64) ?_
   obtain ⟨v1, hv8, hm⟩ := Bs hm
   refine Ao rfl (.addC hv8 .i64 (.t rfl)) <| Ao rfl (.convTo8 U3 U5 (.t rfl)) <| Ao rfl (.buildSlice (n := 1) (ys := [(0, wrap8 v1)]) (z := (0 : Int)) (xs := [wrap8 v1]) U103 el5 ze5 ⟨rfl, (.t rfl), trivial⟩ (by simp) (by decide) rfl) <| Ao rfl (.strB U103 U9 U5 (.t rfl)) <| WL.mv rfl rfl ?_
   obtain ⟨v2, hv9, hm⟩ := Bs hm
   refine Ao rfl (.catC hv9 (.t rfl) (.t rfl)) <| Ag rfl rfl <| WL.nr1 <| WL.mv rfl rfl ?_
   obtain ⟨v3, hv10, hm⟩ := Bs hm
   exact Ao rfl (.quoC hv10 (.t rfl) .i64) <| Ag rfl rfl <| WL.nil <| WN.block <| WN.again n4 (v3, v2) (Nat.lt_succ_self n4) hm ⟨.q rfl, .q rfl, trivial⟩ trivial
  ·refine W.exit rfl ?_
   have hr11 := Si hm
   clear hm
   subst hr11
   have hm := hk3
   try dsimp only at hm
   refine Aq <| Aw <| WL.mv rfl rfl ?_
   obtain ⟨v4, hv12, hm⟩ := Bs hm
   refine Ao rfl (.addC hv12 .i64 (.t rfl)) <| Ao rfl (.convTo8 U3 U5 (.t rfl)) <| Ao rfl (.buildSlice (n := 1) (ys := [(0, wrap8 v4)]) (z := (0 : Int)) (xs := [wrap8 v4]) U103 el5 ze5 ⟨rfl, (.t rfl), trivial⟩ (by simp) (by decide) rfl) <| Ao rfl (.strB U103 U9 U5 (.t rfl)) <| WL.mv rfl rfl ?_
   obtain ⟨v5, hv13, hm⟩ := Bs hm
   refine Ao rfl (.catC hv13 (.t rfl) (.t rfl)) <| Ag rfl rfl <| WL.ns ?_
   cases hm
   exact W.ret1 () rfl (.t rfl) trivial
theorem r53_mark_spec (n : Nat) (id : api_Id) (r : Str) (hm : M.r53_mark n id = some r) : FSpec Tryz.prog 104 [(tapi_Id.is id)] (tS.is r) := by
 unfold M.r53_mark at hm
 refine FSpec.of Tryz.func104 rfl rfl rfl fun g0 => Aw <| Ao rfl (.box (.t rfl)) <| Ao rfl (.assign (.str rfl (by decide))) <| An <| W.seq ?_
 obtain ⟨digits, hv1, hm⟩ := Bs hm
 obtain ⟨v, hv2, hm⟩ := Bs hm
 obtain ⟨v1, hv3, hm⟩ := Bs hm
 obtain ⟨digits1, hv4, hm⟩ := Bs hm
 obtain ⟨v2, hv5, hm⟩ := Bs hm
 obtain ⟨v3, hv6, hm⟩ := Bs hm
 obtain ⟨digits2, hv7, hm⟩ := Bs hm
 obtain ⟨v4, hv8, hm⟩ := Bs hm
 refine W.draw [.c _, .c _, .c _, .c _, .c _, .c _, .c _, .c _, .c _, .c _, .c _, .c _, .c _, .c _, .c _] [([], [1]), ([0], []), ([1], []), ([2], []), ([3], []), ([], [1]), ([5], []), ([6], []), ([4, 7], []), ([8], []), ([], [1]), ([10], []), ([11], []), ([9, 12], []), ([13], [])] Mx rfl rfl rfl rfl ⟨Dn (.fieldAddr U23 rfl J3 fapi_Id_0 (.t rfl)), Dn (.load ty3 (.t rfl)), Dn (.call C142 (r17_Digits_spec _ _ _ hv1) ⟨(.t rfl), trivial⟩), Dn (.catC hv2 (.str rfl (by decide)) (.t rfl)), Dn (.catC hv3 (.t rfl) (.str rfl (by decide))), Dn (.fieldAddr U23 rfl J3 fapi_Id_1 (.t rfl)), Dn (.load ty3 (.t rfl)), Dn (.call C142 (r17_Digits_spec _ _ _ hv4) ⟨(.t rfl), trivial⟩), Dn (.catC hv5 (.t rfl) (.t rfl)), Dn (.catC hv6 (.t rfl) (.str rfl (by decide))), Dn (.fieldAddr U23 rfl J3 fapi_Id_2 (.t rfl)), Dn (.load ty3 (.t rfl)), Dn (.call C142 (r17_Digits_spec _ _ _ hv7) ⟨(.t rfl), trivial⟩), Dn (.catC hv8 (.t rfl) (.t rfl)), Dn (.assign (.t rfl)), trivial⟩ <| WN.seq ?_
 cases hm
 exact W.ret1 () rfl (.t rfl) trivial
theorem r06_Name_spec (kind : Int) (r : Str) (hm : M.r06_Name kind = some r) : FSpec Tryz.prog 105 [(I6.is kind)] (tS.is r) := by
 unfold M.r06_Name at hm
 refine FSpec.of Tryz.func105 rfl rfl rfl fun g0 => Aw <| Ao rfl (.assign (.str rfl (by decide))) <| Ar <| Ao rfl (.buildSlice (n := 8) (ys := [(0, ([98, 111, 111, 107] : Str)), (1, ([112, 97, 114, 116] : Str)), (2, ([115, 101, 99, 116, 105, 111, 110] : Str)), (3, ([112, 97, 114, 97, 103, 114, 97, 112, 104] : Str)), (4, ([116, 97, 98, 108, 101] : Str)), (5, ([114, 111, 119] : Str)), (6, ([99, 101, 108, 108] : Str)), (7, ([110, 111, 116, 101] : Str))]) (z := ([] : Str)) (xs := [([98, 111, 111, 107] : Str), ([112, 97, 114, 116] : Str), ([115, 101, 99, 116, 105, 111, 110] : Str), ([112, 97, 114, 97, 103, 114, 97, 112, 104] : Str), ([116, 97, 98, 108, 101] : Str), ([114, 111, 119] : Str), ([99, 101, 108, 108] : Str), ([110, 111, 116, 101] : Str)]) U38 el9 ze9 ⟨rfl, (.str rfl (by decide)), rfl, (.str rfl (by decide)), rfl, (.str rfl (by decide)), rfl, (.str rfl (by decide)), rfl, (.str rfl (by decide)), rfl, (.str rfl (by decide)), rfl, (.str rfl (by decide)), rfl, (.str rfl (by decide)), trivial⟩ (by simp) (by decide) rfl) <| Ag rfl rfl <| An <| W.seq <| Aw <| Am rfl rfl <| Ao rfl (.ltI (.t rfl) .i64) <| WL.mv rfl rfl ?_
 rcases iteD hm with ⟨hp2, hb1, hm⟩ | ⟨hp2, hb1, hm⟩
 ·refine Ap rfl hb1 <| Ap rfl hb1 <| Ao rfl (.pickT (.t rfl) hb1 .bool) <| An <| W.condT (.t rfl) <| Aw <| Ao rfl (.assign (.str rfl (by decide))) <| WL.ns ?_
  cases hm
  exact W.ret1 () rfl (.t rfl) trivial
 ·refine Ax rfl hb1 (.move (.t rfl)) <| Ax rfl hb1 (.gtI (.t rfl) .i64) <| Ao rfl (.pickF (.t rfl) hb1 (.t rfl)) <| An <| W.cD hm (.t rfl) (fun hp4 hm => ?_) (fun hp4 hm => ?_)
  ·refine Aw <| Ao rfl (.assign (.str rfl (by decide))) <| WL.ns ?_
   cases hm
   exact W.ret1 () rfl (.t rfl) trivial
  ·refine W.skip <| Aq <| Aw <| Am rfl rfl <| WL.mv rfl rfl ?_
   obtain ⟨v, hv5, hm⟩ := Bs hm
   refine Ao rfl (.idx hv5 U38 Z9 (.t rfl) (.t rfl)) <| Ao rfl (.load ty9 (.t rfl)) <| Ag rfl rfl <| WL.ns ?_
   cases hm
   exact W.ret1 () rfl (.t rfl) trivial
theorem r53_special_spec (s0_ : Str) (r : Bool) (hm : M.r53_special s0_ = some r) : FSpec Tryz.prog 143 [(tS.is s0_)] (tB.is r) := by
 unfold M.r53_special at hm
 refine FSpec.of Tryz.func143 rfl rfl rfl fun g0 => Aw <| Ao rfl (.assign .bool) <| Ar <| WL.mv rfl rfl ?_
 obtain ⟨b, hv1, hm⟩ := Bs hm
 refine Ao rfl (.sidx hv1 U9 (.t rfl) .i64) <| Ag rfl rfl <| Ar <| Am rfl rfl <| Ao rfl (.eqI (.t rfl) (.int (inR8.2 (by omega)))) <| WL.mv rfl rfl ?_
 rcases iteD hm with ⟨hp3, hb2, hm⟩ | ⟨hp3, hb2, hm⟩
 ·refine Ap rfl hb2 <| Ap rfl hb2 <| Ao rfl (.pickT (.t rfl) hb2 .bool) <| Am rfl rfl <| Ap rfl rfl <| Ap rfl rfl <| Ao rfl (.pickT (.t rfl) rfl .bool) <| Am rfl rfl <| Ap rfl rfl <| Ap rfl rfl <| Ao rfl (.pickT (.t rfl) rfl .bool) <| Am rfl rfl <| Ap rfl rfl <| Ap rfl rfl <| Ao rfl (.pickT (.t rfl) rfl .bool) <| WL.mv rfl rfl ?_
  refine Ap rfl rfl <| Ap rfl rfl <| Ao rfl (.pickT (.t rfl) rfl .bool) <| Am rfl rfl <| Ap rfl rfl <| Ap rfl rfl <| Ao rfl (.pickT (.t rfl) rfl .bool) <| Ag rfl rfl <| WL.ns ?_
  cases hm
  exact W.ret1 () rfl (.t rfl) trivial
 ·refine Ax rfl hb2 (.move (.t rfl)) <| Ax rfl hb2 (.eqI (.t rfl) (.int (inR8.2 (by omega)))) <| Ao rfl (.pickF (.t rfl) hb2 (.t rfl)) <| WL.mv rfl rfl ?_
  rcases iteD hm with ⟨hp5, hb4, hm⟩ | ⟨hp5, hb4, hm⟩
  ·refine Ap rfl hb4 <| Ap rfl hb4 <| Ao rfl (.pickT (.t rfl) hb4 .bool) <| Am rfl rfl <| Ap rfl rfl <| Ap rfl rfl <| Ao rfl (.pickT (.t rfl) rfl .bool) <| Am rfl rfl <| Ap rfl rfl <| Ap rfl rfl <| Ao rfl (.pickT (.t rfl) rfl .bool) <| Am rfl rfl <| Ap rfl rfl <| Ap rfl rfl <| Ao rfl (.pickT (.t rfl) rfl .bool) <| WL.mv rfl rfl ?_
   refine Ap rfl rfl <| Ap rfl rfl <| Ao rfl (.pickT (.t rfl) rfl .bool) <| Ag rfl rfl <| WL.ns ?_
   cases hm
   exact W.ret1 () rfl (.t rfl) trivial
  ·refine Ax rfl hb4 (.move (.t rfl)) <| Ax rfl hb4 (.eqI (.t rfl) (.int (inR8.2 (by omega)))) <| Ao rfl (.pickF (.t rfl) hb4 (.t rfl)) <| WL.mv rfl rfl ?_
   rcases iteD hm with ⟨hp7, hb6, hm⟩ | ⟨hp7, hb6, hm⟩
   ·refine Ap rfl hb6 <| Ap rfl hb6 <| Ao rfl (.pickT (.t rfl) hb6 .bool) <| Am rfl rfl <| Ap rfl rfl <| Ap rfl rfl <| Ao rfl (.pickT (.t rfl) rfl .bool) <| Am rfl rfl <| Ap rfl rfl <| Ap rfl rfl <| Ao rfl (.pickT (.t rfl) rfl .bool) <| Am rfl rfl <| Ap rfl rfl <| Ap rfl rfl <| Ao rfl (.pickT (.t rfl) rfl .bool) <| WL.gv rfl rfl ?_
    refine WL.ns ?_
    cases hm
    exact W.ret1 () rfl (.t rfl) trivial
   ·refine Ax rfl hb6 (.move (.t rfl)) <| Ax rfl hb6 (.eqI (.t rfl) (.int (inR8.2 (by omega)))) <| Ao rfl (.pickF (.t rfl) hb6 (.t rfl)) <| WL.mv rfl rfl ?_
    rcases iteD hm with ⟨hp9, hb8, hm⟩ | ⟨hp9, hb8, hm⟩
    ·refine Ap rfl hb8 <| Ap rfl hb8 <| Ao rfl (.pickT (.t rfl) hb8 .bool) <| Am rfl rfl <| Ap rfl rfl <| Ap rfl rfl <| Ao rfl (.pickT (.t rfl) rfl .bool) <| Am rfl rfl <| Ap rfl rfl <| Ap rfl rfl <| Ao rfl (.pickT (.t rfl) rfl .bool) <| Ag rfl rfl <| WL.ns ?_
     cases hm
     exact W.ret1 () rfl (.t rfl) trivial
    ·refine Ax rfl hb8 (.move (.t rfl)) <| Ax rfl hb8 (.eqI (.t rfl) (.int (inR8.2 (by omega)))) <| Ao rfl (.pickF (.t rfl) hb8 (.t rfl)) <| WL.mv rfl rfl ?_
     rcases iteD hm with ⟨hp11, hb10, hm⟩ | ⟨hp11, hb10, hm⟩
     ·refine Ap rfl hb10 <| Ap rfl hb10 <| Ao rfl (.pickT (.t rfl) hb10 .bool) <| Am rfl rfl <| Ap rfl rfl <| Ap rfl rfl <| Ao rfl (.pickT (.t rfl) rfl .bool) <| Ag rfl rfl <| WL.ns ?_
      cases hm
      exact W.ret1 () rfl (.t rfl) trivial
     ·refine Ax rfl hb10 (.move (.t rfl)) <| Ax rfl hb10 (.eqI (.t rfl) (.int (inR8.2 (by omega)))) <| Ao rfl (.pickF (.t rfl) hb10 (.t rfl)) <| WL.mv rfl rfl ?_
      rcases iteD hm with ⟨hp13, hb12, hm⟩ | ⟨hp13, hb12, hm⟩
      ·refine Ap rfl hb12 <| Ap rfl hb12 <| Ao rfl (.pickT (.t rfl) hb12 .bool) <| Ag rfl rfl <| WL.ns ?_
       cases hm
       exact W.ret1 () rfl (.t rfl) trivial
      ·refine Ax rfl hb12 (.move (.t rfl)) <| Ax rfl hb12 (.eqI (.t rfl) (.int (inR8.2 (by omega)))) <| Ao rfl (.pickF (.t rfl) hb12 (.t rfl)) <| Ag rfl rfl <| WL.ns ?_
       cases hm
       exact W.ret1 () rfl (.t rfl) trivial
theorem r53_Row_spec (n : Nat) (l : List api_TrackedWord) (r : Str) (hm : M.r53_Row n l = some r) : FSpec Tryz.prog 106 [((tL tapi_TrackedWord).is l)] (tS.is r) := by
 unfold M.r53_Row at hm
 refine FSpec.of Tryz.func106 rfl rfl rfl fun g0 => Aw <| Ao rfl (.assign (.str rfl (by decide))) <| An <| W.seq <| Aw <| WL.mv rfl rfl ?_
 obtain ⟨mayrow, hv1, hm⟩ := Bs hm
 refine Ao rfl (.call C93 (r53_MayRow_spec _ _ _ hv1) ⟨(.t rfl), trivial⟩) <| Ao rfl (.notB (.t rfl)) <| An <| W.cR hm (.t rfl) (fun hp3 hm => ?_) (fun hp3 hm => ?_)
 ·refine Aw <| Ao rfl (.assign (.str rfl (by decide))) <| WL.ns ?_
  cases hm
  exact W.ret1 () rfl (.t rfl) trivial
 ·refine W.skip <| Aq <| Aw <| Ao rfl (.assign (.str rfl (by decide))) <| Ar <| Ao rfl (.buildSlice (n := 3) (ys := [(0, ([] : Str)), (1, ([91, 43, 32] : Str)), (2, ([91, 45, 32] : Str))]) (z := ([] : Str)) (xs := [([] : Str), ([91, 43, 32] : Str), ([91, 45, 32] : Str)]) U38 el9 ze9 ⟨rfl, (.str rfl (by decide)), rfl, (.str rfl (by decide)), rfl, (.str rfl (by decide)), trivial⟩ (by simp) (by decide) rfl) <| Ag rfl rfl <| Ar <| Ao rfl (.buildSlice (n := 3) (ys := [(0, ([] : Str)), (1, ([32, 43, 93] : Str)), (2, ([32, 45, 93] : Str))]) (z := ([] : Str)) (xs := [([] : Str), ([32, 43, 93] : Str), ([32, 45, 93] : Str)]) U38 el9 ze9 ⟨rfl, (.str rfl (by decide)), rfl, (.str rfl (by decide)), rfl, (.str rfl (by decide)), trivial⟩ (by simp) (by decide) rfl) <| Ag rfl rfl <| An <| W.seq <| Aw <| Ao rfl (.assign .i64) <| An <| W.block ?_
  obtain ⟨s4, hs5, hk6⟩ := Bs hm
  clear hm
  refine W.loop (fun m (s : Str × Int) => M.r53_Row_loop1 l m s.1 s.2 = some s4) (fun s => [(3, (tS.is s.1)), (6, (I6.is s.2)), (0, ((tL tapi_TrackedWord).is l)), (4, ((tL tS).is ([([] : Str), ([91, 43, 32] : Str), ([91, 45, 32] : Str)]))), (5, ((tL tS).is ([([] : Str), ([32, 43, 93] : Str), ([32, 45, 93] : Str)])))]) (fun s => []) _ (([] : Str), (0 : Int)) hs5 ⟨.q rfl, .q rfl, .q rfl, .q rfl, .q rfl, trivial⟩ trivial ?_
  rintro n7 ⟨s0_, i⟩ hm
  try dsimp only at hm
  change W _ _ _ _ _ _ _ [(3, (tS.is s0_)), (6, (I6.is i)), (0, ((tL tapi_TrackedWord).is l)), (4, ((tL tS).is ([([] : Str), ([91, 43, 32] : Str), ([91, 45, 32] : Str)]))), (5, ((tL tS).is ([([] : Str), ([32, 43, 93] : Str), ([32, 45, 93] : Str)])))] []
  cases n7 with
  | zero => rw [M.r53_Row_loop1.eq_1] at hm; cases hm
  | succ n7 =>
   rw [M.r53_Row_loop1.eq_2] at hm
   refine W.seq <| Aw <| Am rfl rfl <| Am rfl rfl <| Ao rfl (.lenL U30 (.t rfl)) <| Ao rfl (.ltI (.t rfl) (.t rfl)) <| An <| W.cD hm (.t rfl) (fun hp9 hm => ?_) (fun hp9 hm => ?_)
   ·refine W.skip <| Aq <| W.seq <| W.block <| W.seq ?_
    rcases iteD hm with ⟨hp11, hb10, hm⟩ | ⟨hp11, hb10, hm⟩
    ·refine W.draw [.c _, .c _, .c _, .c _, .c _, .c _, .c _, .c _, .c _, .c _, .c _, .c _, .c _, .c _, .c _, .c _, .c _] [([], [6]), ([0], []), ([1], []), ([2], [0]), ([2], [6]), ([2, 4], []), ([2, 3, 5], []), ([2, 6], []), ([2, 7], []), ([2], [0]), ([2], [6]), ([2, 9, 10], []), ([2, 11], []), ([2, 12], []), ([2, 8, 13], []), ([2, 14], []), ([15], [])] Mx rfl rfl rfl rfl ⟨Dn (.move (.t rfl)), Dn (.eqI (.t rfl) .i64), Dn (.move (.t rfl)), Dp rfl hb10, Dp rfl hb10, Dp rfl hb10, Dp rfl hb10, Dp rfl hb10, Dp rfl hb10, Dp rfl hb10, Dp rfl hb10, Dp rfl hb10, Dp rfl hb10, Dp rfl hb10, Dp rfl hb10, Dn (.pickT (.t rfl) hb10 .bool), Dn (.assign (.t rfl)), trivial⟩ <| Aq <| W.seq ?_
     obtain ⟨v, hv12, hm⟩ := Bs hm
     rcases iteD hm with ⟨hp14, hb13, hm⟩ | ⟨hp14, hb13, hm⟩
     ·refine W.draw [.c _, .c _, .c _, .c _, .c _, .c _, .c _, .c _, .c _, .c _, .c _, .c _, .c _, .c _, .c _, .c _, .c _, .c _, .c _, .c _] [([], [6]), ([0], []), ([], [0]), ([2], []), ([1, 3], []), ([4], []), ([5], [0]), ([5], [6]), ([5, 7], []), ([5, 6, 8], []), ([5, 9], []), ([5, 10], []), ([5], [0]), ([5], [6]), ([5, 12, 13], []), ([5, 14], []), ([5, 15], []), ([5, 11, 16], []), ([5, 17], []), ([18], [])] Mx rfl rfl rfl rfl ⟨Dn (.move (.t rfl)), Dn (.addC hv12 (.t rfl) .i64), Dn (.move (.t rfl)), Dn (.lenL U30 (.t rfl)), Dn (.eqI (.t rfl) (.t rfl)), Dn (.move (.t rfl)), Dp rfl hb13, Dp rfl hb13, Dp rfl hb13, Dp rfl hb13, Dp rfl hb13, Dp rfl hb13, Dp rfl hb13, Dp rfl hb13, Dp rfl hb13, Dp rfl hb13, Dp rfl hb13, Dp rfl hb13, Dn (.pickT (.t rfl) hb13 .bool), Dn (.assign (.t rfl)), trivial⟩ <| WN.seq ?_
      obtain ⟨s15, hs16, hk17⟩ := Bs hm
      clear hm
      refine W.join (fun s : Str => s = s15) (fun s => [(3, (tS.is s)), (0, ((tL tapi_TrackedWord).is l)), (4, ((tL tS).is ([([] : Str), ([91, 43, 32] : Str), ([91, 45, 32] : Str)]))), (5, ((tL tS).is ([([] : Str), ([32, 43, 93] : Str), ([32, 45, 93] : Str)]))), (6, (I6.is i)), (7, (tB.is true)), (8, (tB.is true))]) (fun s => []) ?_ ?_
      ·rintro s0_1 hj43
       try dsimp only at hj43
       subst hj43
       have hm := hk17
       clear hk17
       try dsimp only at hm
       change W _ _ _ _ _ _ _ [(3, (tS.is s0_1)), (0, ((tL tapi_TrackedWord).is l)), (4, ((tL tS).is ([([] : Str), ([91, 43, 32] : Str), ([91, 45, 32] : Str)]))), (5, ((tL tS).is ([([] : Str), ([32, 43, 93] : Str), ([32, 45, 93] : Str)]))), (6, (I6.is i)), (7, (tB.is true)), (8, (tB.is true))] []
       obtain ⟨s21, hs22, hk23⟩ := Bs hm
       clear hm
       refine W.join (fun s : Str => s = s21) (fun s => [(3, (tS.is s)), (0, ((tL tapi_TrackedWord).is l)), (4, ((tL tS).is ([([] : Str), ([91, 43, 32] : Str), ([91, 45, 32] : Str)]))), (5, ((tL tS).is ([([] : Str), ([32, 43, 93] : Str), ([32, 45, 93] : Str)]))), (6, (I6.is i)), (8, (tB.is true))]) (fun s => []) ?_ ?_
       ·rintro s0_2 hj42
        try dsimp only at hj42
        subst hj42
        have hm := hk23
        clear hk23
        try dsimp only at hm
        change W _ _ _ _ _ _ _ [(3, (tS.is s0_2)), (0, ((tL tapi_TrackedWord).is l)), (4, ((tL tS).is ([([] : Str), ([91, 43, 32] : Str), ([91, 45, 32] : Str)]))), (5, ((tL tS).is ([([] : Str), ([32, 43, 93] : Str), ([32, 45, 93] : Str)]))), (6, (I6.is i)), (8, (tB.is true))] []
        obtain ⟨s27, hs28, hk29⟩ := Bs hm
        clear hm
        refine W.join (fun s : Str => s = s27) (fun s => [(3, (tS.is s)), (0, ((tL tapi_TrackedWord).is l)), (4, ((tL tS).is ([([] : Str), ([91, 43, 32] : Str), ([91, 45, 32] : Str)]))), (5, ((tL tS).is ([([] : Str), ([32, 43, 93] : Str), ([32, 45, 93] : Str)]))), (6, (I6.is i)), (8, (tB.is true))]) (fun s => []) ?_ ?_
        ·rintro s0_3 hj41
         try dsimp only at hj41
         subst hj41
         have hm := hk29
         clear hk29
         try dsimp only at hm
         change W _ _ _ _ _ _ _ [(3, (tS.is s0_3)), (0, ((tL tapi_TrackedWord).is l)), (4, ((tL tS).is ([([] : Str), ([91, 43, 32] : Str), ([91, 45, 32] : Str)]))), (5, ((tL tS).is ([([] : Str), ([32, 43, 93] : Str), ([32, 45, 93] : Str)]))), (6, (I6.is i)), (8, (tB.is true))] []
         refine Aw <| Am rfl rfl <| Am rfl rfl <| WL.mv rfl rfl ?_
         obtain ⟨v7, hv35, hm⟩ := Bs hm
         refine Ao rfl (.idx hv35 U30 Z53 (.t rfl) (.t rfl)) <| Ao rfl (.fieldAddr U53 rfl J9 fapi_TrackedWord_1 (.t rfl)) <| Ao rfl (.load ty9 (.t rfl)) ?_
         obtain ⟨v8, hv36, hm⟩ := Bs hm
         refine Ao rfl (.catC hv36 (.t rfl) (.t rfl)) <| Ag rfl rfl <| Ar <| Am rfl rfl <| An <| W.condT (.t rfl) <| W.region <| Am rfl rfl <| Am rfl rfl <| Am rfl rfl <| WL.mv rfl rfl ?_
         obtain ⟨v9, hv37, hm⟩ := Bs hm
         refine Ao rfl (.idx hv37 U30 Z53 (.t rfl) (.t rfl)) <| Ao rfl (.fieldAddr U53 rfl J3 fapi_TrackedWord_0 (.t rfl)) <| Ao rfl (.load ty3 (.t rfl)) ?_
         obtain ⟨v10, hv38, hm⟩ := Bs hm
         refine Ao rfl (.idx hv38 U38 Z9 (.t rfl) (.t rfl)) <| Ao rfl (.load ty9 (.t rfl)) ?_
         obtain ⟨v11, hv39, hm⟩ := Bs hm
         exact Ao rfl (.catC hv39 (.t rfl) (.t rfl)) <| Ag rfl rfl <| WL.nil <| WN.block <| Aq <| W.region <| Am rfl rfl <| WL.lenL (s := 0) (.t rfl) fun hl40 => Ao rfl (.addI1 (.t rfl) .i64 hp9 hl40) <| Ag rfl rfl <| WL.nil <| WN.again n7 (v11, i + 1) (Nat.lt_succ_self n7) hm ⟨.q rfl, .q rfl, .q rfl, .q rfl, .q rfl, trivial⟩ trivial
        ·have hm := hs28
         clear hs28
         refine Aw <| Am rfl rfl <| WL.mv rfl rfl ?_
         obtain ⟨v5, hv30, hm⟩ := Bs hm
         refine Ao rfl (.idx hv30 U30 Z53 (.t rfl) (.t rfl)) <| Ao rfl (.fieldAddr U53 rfl J9 fapi_TrackedWord_1 (.t rfl)) <| Ao rfl (.load ty9 (.t rfl)) ?_
         obtain ⟨specia, hv31, hm⟩ := Bs hm
         refine Ao rfl (.call C143 (r53_special_spec _ _ hv31) ⟨(.t rfl), trivial⟩) <| An <| W.cB hm (.t rfl) (fun hp33 hm => ?_) (fun hp33 hm => ?_)
         ·refine W.region <| Am rfl rfl <| Ao rfl (.buildSlice (n := 1) (ys := [(0, (92 : Int))]) (z := (0 : Int)) (xs := [(92 : Int)]) U103 el5 ze5 ⟨rfl, (.int (inR8.2 (by omega))), trivial⟩ (by simp) (by decide) rfl) <| Ao rfl (.strB U103 U9 U5 (.t rfl)) ?_
          obtain ⟨v6, hv34, hm⟩ := Bs hm
          exact Ao rfl (.catC hv34 (.t rfl) (.t rfl)) <| Ag rfl rfl <| WL.nil <| WN.meet v6 (Si hm) ⟨.q rfl, .q rfl, .q rfl, .q rfl, .q rfl, .q rfl, trivial⟩ trivial
         ·exact W.skip <| WN.meet s0_2 (Si hm) ⟨.q rfl, .q rfl, .q rfl, .q rfl, .q rfl, .q rfl, trivial⟩ trivial
       ·have hm := hs22
        clear hs22
        refine Aw <| Am rfl rfl <| An <| W.condT (.t rfl) <| W.region <| Am rfl rfl <| Am rfl rfl <| Am rfl rfl <| WL.mv rfl rfl ?_
        obtain ⟨v2, hv24, hm⟩ := Bs hm
        refine Ao rfl (.idx hv24 U30 Z53 (.t rfl) (.t rfl)) <| Ao rfl (.fieldAddr U53 rfl J3 fapi_TrackedWord_0 (.t rfl)) <| Ao rfl (.load ty3 (.t rfl)) ?_
        obtain ⟨v3, hv25, hm⟩ := Bs hm
        refine Ao rfl (.idx hv25 U38 Z9 (.t rfl) (.t rfl)) <| Ao rfl (.load ty9 (.t rfl)) ?_
        obtain ⟨v4, hv26, hm⟩ := Bs hm
        exact Ao rfl (.catC hv26 (.t rfl) (.t rfl)) <| Ag rfl rfl <| WL.nil <| WN.meet v4 (Si hm) ⟨.q rfl, .q rfl, .q rfl, .q rfl, .q rfl, .q rfl, trivial⟩ trivial
      ·have hm := hs16
       clear hs16
       refine Aw <| Am rfl rfl <| Ao rfl (.gtI (.t rfl) .i64) <| An <| W.cD hm (.t rfl) (fun hp19 hm => ?_) (fun hp19 hm => ?_)
       ·refine W.region <| WL.mv rfl rfl ?_
        obtain ⟨v1, hv20, hm⟩ := Bs hm
        exact Ao rfl (.catC hv20 (.t rfl) (.str rfl (by decide))) <| Ag rfl rfl <| WL.nil <| WN.meet v1 (Si hm) ⟨.q rfl, .q rfl, .q rfl, .q rfl, .q rfl, .q rfl, .q rfl, trivial⟩ trivial
       ·exact W.skip <| WN.meet s0_ (Si hm) ⟨.q rfl, .q rfl, .q rfl, .q rfl, .q rfl, .q rfl, .q rfl, trivial⟩ trivial
     ·obtain ⟨v12, hv44, hm⟩ := Bs hm
      obtain ⟨v13, hv45, hm⟩ := Bs hm
      obtain ⟨v14, hv46, hm⟩ := Bs hm
      refine W.draw [.c _, .c _, .c _, .c _, .c _, .c _, .c _, .c _, .c _, .c _, .c _, .c _, .c _, .c _, .c _, .c _, .c _, .c _, .c _, .c _] [([], [6]), ([0], []), ([], [0]), ([2], []), ([1, 3], []), ([4], []), ([5], [0]), ([5], [6]), ([5, 7], []), ([5, 6, 8], []), ([5, 9], []), ([5, 10], []), ([5], [0]), ([5], [6]), ([5, 12, 13], []), ([5, 14], []), ([5, 15], []), ([5, 11, 16], []), ([5, 17], []), ([18], [])] Mx rfl rfl rfl rfl ⟨Dn (.move (.t rfl)), Dn (.addC hv12 (.t rfl) .i64), Dn (.move (.t rfl)), Dn (.lenL U30 (.t rfl)), Dn (.eqI (.t rfl) (.t rfl)), Dn (.move (.t rfl)), Dr rfl hb13 (.move (.t rfl)), Dr rfl hb13 (.move (.t rfl)), Dr rfl hb13 (.addC hv44 (.t rfl) .i64), Dr rfl hb13 (.idx hv45 U30 Z53 (.t rfl) (.t rfl)), Dr rfl hb13 (.fieldAddr U53 rfl J3 fapi_TrackedWord_0 (.t rfl)), Dr rfl hb13 (.load ty3 (.t rfl)), Dr rfl hb13 (.move (.t rfl)), Dr rfl hb13 (.move (.t rfl)), Dr rfl hb13 (.idx hv46 U30 Z53 (.t rfl) (.t rfl)), Dr rfl hb13 (.fieldAddr U53 rfl J3 fapi_TrackedWord_0 (.t rfl)), Dr rfl hb13 (.load ty3 (.t rfl)), Dr rfl hb13 (.neI (.t rfl) (.t rfl)), Dn (.pickF (.t rfl) hb13 (.t rfl)), Dn (.assign (.t rfl)), trivial⟩ <| WN.seq ?_
      obtain ⟨s47, hs48, hk49⟩ := Bs hm
      clear hm
      refine W.join (fun s : Str => s = s47) (fun s => [(3, (tS.is s)), (0, ((tL tapi_TrackedWord).is l)), (4, ((tL tS).is ([([] : Str), ([91, 43, 32] : Str), ([91, 45, 32] : Str)]))), (5, ((tL tS).is ([([] : Str), ([32, 43, 93] : Str), ([32, 45, 93] : Str)]))), (6, (I6.is i)), (7, (tB.is true)), (8, (tB.is (decide (v13.State ≠ v14.State))))]) (fun s => []) ?_ ?_
      ·rintro s0_4 hj78
       try dsimp only at hj78
       subst hj78
       have hm := hk49
       clear hk49
       try dsimp only at hm
       change W _ _ _ _ _ _ _ [(3, (tS.is s0_4)), (0, ((tL tapi_TrackedWord).is l)), (4, ((tL tS).is ([([] : Str), ([91, 43, 32] : Str), ([91, 45, 32] : Str)]))), (5, ((tL tS).is ([([] : Str), ([32, 43, 93] : Str), ([32, 45, 93] : Str)]))), (6, (I6.is i)), (7, (tB.is true)), (8, (tB.is (decide (v13.State ≠ v14.State))))] []
       obtain ⟨s53, hs54, hk55⟩ := Bs hm
       clear hm
       refine W.join (fun s : Str => s = s53) (fun s => [(3, (tS.is s)), (0, ((tL tapi_TrackedWord).is l)), (4, ((tL tS).is ([([] : Str), ([91, 43, 32] : Str), ([91, 45, 32] : Str)]))), (5, ((tL tS).is ([([] : Str), ([32, 43, 93] : Str), ([32, 45, 93] : Str)]))), (6, (I6.is i)), (8, (tB.is (decide (v13.State ≠ v14.State))))]) (fun s => []) ?_ ?_
       ·rintro s0_5 hj77
        try dsimp only at hj77
        subst hj77
        have hm := hk55
        clear hk55
        try dsimp only at hm
        change W _ _ _ _ _ _ _ [(3, (tS.is s0_5)), (0, ((tL tapi_TrackedWord).is l)), (4, ((tL tS).is ([([] : Str), ([91, 43, 32] : Str), ([91, 45, 32] : Str)]))), (5, ((tL tS).is ([([] : Str), ([32, 43, 93] : Str), ([32, 45, 93] : Str)]))), (6, (I6.is i)), (8, (tB.is (decide (v13.State ≠ v14.State))))] []
        obtain ⟨s59, hs60, hk61⟩ := Bs hm
        clear hm
        refine W.join (fun s : Str => s = s59) (fun s => [(3, (tS.is s)), (0, ((tL tapi_TrackedWord).is l)), (4, ((tL tS).is ([([] : Str), ([91, 43, 32] : Str), ([91, 45, 32] : Str)]))), (5, ((tL tS).is ([([] : Str), ([32, 43, 93] : Str), ([32, 45, 93] : Str)]))), (6, (I6.is i)), (8, (tB.is (decide (v13.State ≠ v14.State))))]) (fun s => []) ?_ ?_
        ·rintro s0_6 hj76
         try dsimp only at hj76
         subst hj76
         have hm := hk61
         clear hk61
         try dsimp only at hm
         change W _ _ _ _ _ _ _ [(3, (tS.is s0_6)), (0, ((tL tapi_TrackedWord).is l)), (4, ((tL tS).is ([([] : Str), ([91, 43, 32] : Str), ([91, 45, 32] : Str)]))), (5, ((tL tS).is ([([] : Str), ([32, 43, 93] : Str), ([32, 45, 93] : Str)]))), (6, (I6.is i)), (8, (tB.is (decide (v13.State ≠ v14.State))))] []
         refine Aw <| Am rfl rfl <| Am rfl rfl <| WL.mv rfl rfl ?_
         obtain ⟨v21, hv67, hm⟩ := Bs hm
         refine Ao rfl (.idx hv67 U30 Z53 (.t rfl) (.t rfl)) <| Ao rfl (.fieldAddr U53 rfl J9 fapi_TrackedWord_1 (.t rfl)) <| Ao rfl (.load ty9 (.t rfl)) ?_
         obtain ⟨v22, hv68, hm⟩ := Bs hm
         refine Ao rfl (.catC hv68 (.t rfl) (.t rfl)) <| Ag rfl rfl <| Ar <| Am rfl rfl <| An <| W.cD hm (.t rfl) (fun hp70 hm => ?_) (fun hp70 hm => ?_)
         ·refine W.region <| Am rfl rfl <| Am rfl rfl <| Am rfl rfl <| WL.mv rfl rfl ?_
          obtain ⟨v23, hv71, hm⟩ := Bs hm
          refine Ao rfl (.idx hv71 U30 Z53 (.t rfl) (.t rfl)) <| Ao rfl (.fieldAddr U53 rfl J3 fapi_TrackedWord_0 (.t rfl)) <| Ao rfl (.load ty3 (.t rfl)) ?_
          obtain ⟨v24, hv72, hm⟩ := Bs hm
          refine Ao rfl (.idx hv72 U38 Z9 (.t rfl) (.t rfl)) <| Ao rfl (.load ty9 (.t rfl)) ?_
          obtain ⟨v25, hv73, hm⟩ := Bs hm
          exact Ao rfl (.catC hv73 (.t rfl) (.t rfl)) <| Ag rfl rfl <| WL.nil <| WN.block <| Aq <| W.region <| Am rfl rfl <| WL.lenL (s := 0) (.t rfl) fun hl74 => Ao rfl (.addI1 (.t rfl) .i64 hp9 hl74) <| Ag rfl rfl <| WL.nil <| WN.again n7 (v25, i + 1) (Nat.lt_succ_self n7) hm ⟨.q rfl, .q rfl, .q rfl, .q rfl, .q rfl, trivial⟩ trivial
         ·exact W.skip <| WN.block <| Aq <| W.region <| Am rfl rfl <| WL.lenL (s := 0) (.t rfl) fun hl75 => Ao rfl (.addI1 (.t rfl) .i64 hp9 hl75) <| Ag rfl rfl <| WL.nil <| WN.again n7 (v22, i + 1) (Nat.lt_succ_self n7) hm ⟨.q rfl, .q rfl, .q rfl, .q rfl, .q rfl, trivial⟩ trivial
        ·have hm := hs60
         clear hs60
         refine Aw <| Am rfl rfl <| WL.mv rfl rfl ?_
         obtain ⟨v19, hv62, hm⟩ := Bs hm
         refine Ao rfl (.idx hv62 U30 Z53 (.t rfl) (.t rfl)) <| Ao rfl (.fieldAddr U53 rfl J9 fapi_TrackedWord_1 (.t rfl)) <| Ao rfl (.load ty9 (.t rfl)) ?_
         obtain ⟨specia1, hv63, hm⟩ := Bs hm
         refine Ao rfl (.call C143 (r53_special_spec _ _ hv63) ⟨(.t rfl), trivial⟩) <| An <| W.cB hm (.t rfl) (fun hp65 hm => ?_) (fun hp65 hm => ?_)
         ·refine W.region <| Am rfl rfl <| Ao rfl (.buildSlice (n := 1) (ys := [(0, (92 : Int))]) (z := (0 : Int)) (xs := [(92 : Int)]) U103 el5 ze5 ⟨rfl, (.int (inR8.2 (by omega))), trivial⟩ (by simp) (by decide) rfl) <| Ao rfl (.strB U103 U9 U5 (.t rfl)) ?_
          obtain ⟨v20, hv66, hm⟩ := Bs hm
          exact Ao rfl (.catC hv66 (.t rfl) (.t rfl)) <| Ag rfl rfl <| WL.nil <| WN.meet v20 (Si hm) ⟨.q rfl, .q rfl, .q rfl, .q rfl, .q rfl, .q rfl, trivial⟩ trivial
         ·exact W.skip <| WN.meet s0_5 (Si hm) ⟨.q rfl, .q rfl, .q rfl, .q rfl, .q rfl, .q rfl, trivial⟩ trivial
       ·have hm := hs54
        clear hs54
        refine Aw <| Am rfl rfl <| An <| W.condT (.t rfl) <| W.region <| Am rfl rfl <| Am rfl rfl <| Am rfl rfl <| WL.mv rfl rfl ?_
        obtain ⟨v16, hv56, hm⟩ := Bs hm
        refine Ao rfl (.idx hv56 U30 Z53 (.t rfl) (.t rfl)) <| Ao rfl (.fieldAddr U53 rfl J3 fapi_TrackedWord_0 (.t rfl)) <| Ao rfl (.load ty3 (.t rfl)) ?_
        obtain ⟨v17, hv57, hm⟩ := Bs hm
        refine Ao rfl (.idx hv57 U38 Z9 (.t rfl) (.t rfl)) <| Ao rfl (.load ty9 (.t rfl)) ?_
        obtain ⟨v18, hv58, hm⟩ := Bs hm
        exact Ao rfl (.catC hv58 (.t rfl) (.t rfl)) <| Ag rfl rfl <| WL.nil <| WN.meet v18 (Si hm) ⟨.q rfl, .q rfl, .q rfl, .q rfl, .q rfl, .q rfl, trivial⟩ trivial
      ·have hm := hs48
       clear hs48
       refine Aw <| Am rfl rfl <| Ao rfl (.gtI (.t rfl) .i64) <| An <| W.cD hm (.t rfl) (fun hp51 hm => ?_) (fun hp51 hm => ?_)
       ·refine W.region <| WL.mv rfl rfl ?_
        obtain ⟨v15, hv52, hm⟩ := Bs hm
        exact Ao rfl (.catC hv52 (.t rfl) (.str rfl (by decide))) <| Ag rfl rfl <| WL.nil <| WN.meet v15 (Si hm) ⟨.q rfl, .q rfl, .q rfl, .q rfl, .q rfl, .q rfl, .q rfl, trivial⟩ trivial
       ·exact W.skip <| WN.meet s0_ (Si hm) ⟨.q rfl, .q rfl, .q rfl, .q rfl, .q rfl, .q rfl, .q rfl, trivial⟩ trivial
    ·obtain ⟨v26, hv79, hm⟩ := Bs hm
     obtain ⟨v27, hv80, hm⟩ := Bs hm
     obtain ⟨v28, hv81, hm⟩ := Bs hm
     refine W.draw [.c _, .c _, .c _, .c _, .c _, .c _, .c _, .c _, .c _, .c _, .c _, .c _, .c _, .c _, .c _, .c _, .c _] [([], [6]), ([0], []), ([1], []), ([2], [0]), ([2], [6]), ([2, 4], []), ([2, 3, 5], []), ([2, 6], []), ([2, 7], []), ([2], [0]), ([2], [6]), ([2, 9, 10], []), ([2, 11], []), ([2, 12], []), ([2, 8, 13], []), ([2, 14], []), ([15], [])] Mx rfl rfl rfl rfl ⟨Dn (.move (.t rfl)), Dn (.eqI (.t rfl) .i64), Dn (.move (.t rfl)), Dr rfl hb10 (.move (.t rfl)), Dr rfl hb10 (.move (.t rfl)), Dr rfl hb10 (.subC hv79 (.t rfl) .i64), Dr rfl hb10 (.idx hv80 U30 Z53 (.t rfl) (.t rfl)), Dr rfl hb10 (.fieldAddr U53 rfl J3 fapi_TrackedWord_0 (.t rfl)), Dr rfl hb10 (.load ty3 (.t rfl)), Dr rfl hb10 (.move (.t rfl)), Dr rfl hb10 (.move (.t rfl)), Dr rfl hb10 (.idx hv81 U30 Z53 (.t rfl) (.t rfl)), Dr rfl hb10 (.fieldAddr U53 rfl J3 fapi_TrackedWord_0 (.t rfl)), Dr rfl hb10 (.load ty3 (.t rfl)), Dr rfl hb10 (.neI (.t rfl) (.t rfl)), Dn (.pickF (.t rfl) hb10 (.t rfl)), Dn (.assign (.t rfl)), trivial⟩ <| Aq <| W.seq ?_
     obtain ⟨v29, hv82, hm⟩ := Bs hm
     rcases iteD hm with ⟨hp84, hb83, hm⟩ | ⟨hp84, hb83, hm⟩
     ·refine W.draw [.c _, .c _, .c _, .c _, .c _, .c _, .c _, .c _, .c _, .c _, .c _, .c _, .c _, .c _, .c _, .c _, .c _, .c _, .c _, .c _] [([], [6]), ([0], []), ([], [0]), ([2], []), ([1, 3], []), ([4], []), ([5], [0]), ([5], [6]), ([5, 7], []), ([5, 6, 8], []), ([5, 9], []), ([5, 10], []), ([5], [0]), ([5], [6]), ([5, 12, 13], []), ([5, 14], []), ([5, 15], []), ([5, 11, 16], []), ([5, 17], []), ([18], [])] Mx rfl rfl rfl rfl ⟨Dn (.move (.t rfl)), Dn (.addC hv82 (.t rfl) .i64), Dn (.move (.t rfl)), Dn (.lenL U30 (.t rfl)), Dn (.eqI (.t rfl) (.t rfl)), Dn (.move (.t rfl)), Dp rfl hb83, Dp rfl hb83, Dp rfl hb83, Dp rfl hb83, Dp rfl hb83, Dp rfl hb83, Dp rfl hb83, Dp rfl hb83, Dp rfl hb83, Dp rfl hb83, Dp rfl hb83, Dp rfl hb83, Dn (.pickT (.t rfl) hb83 .bool), Dn (.assign (.t rfl)), trivial⟩ <| WN.seq ?_
      obtain ⟨s85, hs86, hk87⟩ := Bs hm
      clear hm
      refine W.join (fun s : Str => s = s85) (fun s => [(3, (tS.is s)), (0, ((tL tapi_TrackedWord).is l)), (4, ((tL tS).is ([([] : Str), ([91, 43, 32] : Str), ([91, 45, 32] : Str)]))), (5, ((tL tS).is ([([] : Str), ([32, 43, 93] : Str), ([32, 45, 93] : Str)]))), (6, (I6.is i)), (7, (tB.is (decide (v27.State ≠ v28.State)))), (8, (tB.is true))]) (fun s => []) ?_ ?_
      ·rintro s0_7 hj115
       try dsimp only at hj115
       subst hj115
       have hm := hk87
       clear hk87
       try dsimp only at hm
       change W _ _ _ _ _ _ _ [(3, (tS.is s0_7)), (0, ((tL tapi_TrackedWord).is l)), (4, ((tL tS).is ([([] : Str), ([91, 43, 32] : Str), ([91, 45, 32] : Str)]))), (5, ((tL tS).is ([([] : Str), ([32, 43, 93] : Str), ([32, 45, 93] : Str)]))), (6, (I6.is i)), (7, (tB.is (decide (v27.State ≠ v28.State)))), (8, (tB.is true))] []
       obtain ⟨s91, hs92, hk93⟩ := Bs hm
       clear hm
       refine W.join (fun s : Str => s = s91) (fun s => [(3, (tS.is s)), (0, ((tL tapi_TrackedWord).is l)), (4, ((tL tS).is ([([] : Str), ([91, 43, 32] : Str), ([91, 45, 32] : Str)]))), (5, ((tL tS).is ([([] : Str), ([32, 43, 93] : Str), ([32, 45, 93] : Str)]))), (6, (I6.is i)), (8, (tB.is true))]) (fun s => []) ?_ ?_
       ·rintro s0_8 hj114
        try dsimp only at hj114
        subst hj114
        have hm := hk93
        clear hk93
        try dsimp only at hm
        change W _ _ _ _ _ _ _ [(3, (tS.is s0_8)), (0, ((tL tapi_TrackedWord).is l)), (4, ((tL tS).is ([([] : Str), ([91, 43, 32] : Str), ([91, 45, 32] : Str)]))), (5, ((tL tS).is ([([] : Str), ([32, 43, 93] : Str), ([32, 45, 93] : Str)]))), (6, (I6.is i)), (8, (tB.is true))] []
        obtain ⟨s99, hs100, hk101⟩ := Bs hm
        clear hm
        refine W.join (fun s : Str => s = s99) (fun s => [(3, (tS.is s)), (0, ((tL tapi_TrackedWord).is l)), (4, ((tL tS).is ([([] : Str), ([91, 43, 32] : Str), ([91, 45, 32] : Str)]))), (5, ((tL tS).is ([([] : Str), ([32, 43, 93] : Str), ([32, 45, 93] : Str)]))), (6, (I6.is i)), (8, (tB.is true))]) (fun s => []) ?_ ?_
        ·rintro s0_9 hj113
         try dsimp only at hj113
         subst hj113
         have hm := hk101
         clear hk101
         try dsimp only at hm
         change W _ _ _ _ _ _ _ [(3, (tS.is s0_9)), (0, ((tL tapi_TrackedWord).is l)), (4, ((tL tS).is ([([] : Str), ([91, 43, 32] : Str), ([91, 45, 32] : Str)]))), (5, ((tL tS).is ([([] : Str), ([32, 43, 93] : Str), ([32, 45, 93] : Str)]))), (6, (I6.is i)), (8, (tB.is true))] []
         refine Aw <| Am rfl rfl <| Am rfl rfl <| WL.mv rfl rfl ?_
         obtain ⟨v36, hv107, hm⟩ := Bs hm
         refine Ao rfl (.idx hv107 U30 Z53 (.t rfl) (.t rfl)) <| Ao rfl (.fieldAddr U53 rfl J9 fapi_TrackedWord_1 (.t rfl)) <| Ao rfl (.load ty9 (.t rfl)) ?_
         obtain ⟨v37, hv108, hm⟩ := Bs hm
         refine Ao rfl (.catC hv108 (.t rfl) (.t rfl)) <| Ag rfl rfl <| Ar <| Am rfl rfl <| An <| W.condT (.t rfl) <| W.region <| Am rfl rfl <| Am rfl rfl <| Am rfl rfl <| WL.mv rfl rfl ?_
         obtain ⟨v38, hv109, hm⟩ := Bs hm
         refine Ao rfl (.idx hv109 U30 Z53 (.t rfl) (.t rfl)) <| Ao rfl (.fieldAddr U53 rfl J3 fapi_TrackedWord_0 (.t rfl)) <| Ao rfl (.load ty3 (.t rfl)) ?_
         obtain ⟨v39, hv110, hm⟩ := Bs hm
         refine Ao rfl (.idx hv110 U38 Z9 (.t rfl) (.t rfl)) <| Ao rfl (.load ty9 (.t rfl)) ?_
         obtain ⟨v40, hv111, hm⟩ := Bs hm
         exact Ao rfl (.catC hv111 (.t rfl) (.t rfl)) <| Ag rfl rfl <| WL.nil <| WN.block <| Aq <| W.region <| Am rfl rfl <| WL.lenL (s := 0) (.t rfl) fun hl112 => Ao rfl (.addI1 (.t rfl) .i64 hp9 hl112) <| Ag rfl rfl <| WL.nil <| WN.again n7 (v40, i + 1) (Nat.lt_succ_self n7) hm ⟨.q rfl, .q rfl, .q rfl, .q rfl, .q rfl, trivial⟩ trivial
        ·have hm := hs100
         clear hs100
         refine Aw <| Am rfl rfl <| WL.mv rfl rfl ?_
         obtain ⟨v34, hv102, hm⟩ := Bs hm
         refine Ao rfl (.idx hv102 U30 Z53 (.t rfl) (.t rfl)) <| Ao rfl (.fieldAddr U53 rfl J9 fapi_TrackedWord_1 (.t rfl)) <| Ao rfl (.load ty9 (.t rfl)) ?_
         obtain ⟨specia2, hv103, hm⟩ := Bs hm
         refine Ao rfl (.call C143 (r53_special_spec _ _ hv103) ⟨(.t rfl), trivial⟩) <| An <| W.cB hm (.t rfl) (fun hp105 hm => ?_) (fun hp105 hm => ?_)
         ·refine W.region <| Am rfl rfl <| Ao rfl (.buildSlice (n := 1) (ys := [(0, (92 : Int))]) (z := (0 : Int)) (xs := [(92 : Int)]) U103 el5 ze5 ⟨rfl, (.int (inR8.2 (by omega))), trivial⟩ (by simp) (by decide) rfl) <| Ao rfl (.strB U103 U9 U5 (.t rfl)) ?_
          obtain ⟨v35, hv106, hm⟩ := Bs hm
          exact Ao rfl (.catC hv106 (.t rfl) (.t rfl)) <| Ag rfl rfl <| WL.nil <| WN.meet v35 (Si hm) ⟨.q rfl, .q rfl, .q rfl, .q rfl, .q rfl, .q rfl, trivial⟩ trivial
         ·exact W.skip <| WN.meet s0_8 (Si hm) ⟨.q rfl, .q rfl, .q rfl, .q rfl, .q rfl, .q rfl, trivial⟩ trivial
       ·have hm := hs92
        clear hs92
        refine Aw <| Am rfl rfl <| An <| W.cD hm (.t rfl) (fun hp95 hm => ?_) (fun hp95 hm => ?_)
        ·refine W.region <| Am rfl rfl <| Am rfl rfl <| Am rfl rfl <| WL.mv rfl rfl ?_
         obtain ⟨v31, hv96, hm⟩ := Bs hm
         refine Ao rfl (.idx hv96 U30 Z53 (.t rfl) (.t rfl)) <| Ao rfl (.fieldAddr U53 rfl J3 fapi_TrackedWord_0 (.t rfl)) <| Ao rfl (.load ty3 (.t rfl)) ?_
         obtain ⟨v32, hv97, hm⟩ := Bs hm
         refine Ao rfl (.idx hv97 U38 Z9 (.t rfl) (.t rfl)) <| Ao rfl (.load ty9 (.t rfl)) ?_
         obtain ⟨v33, hv98, hm⟩ := Bs hm
         exact Ao rfl (.catC hv98 (.t rfl) (.t rfl)) <| Ag rfl rfl <| WL.nil <| WN.meet v33 (Si hm) ⟨.q rfl, .q rfl, .q rfl, .q rfl, .q rfl, .q rfl, trivial⟩ trivial
        ·exact W.skip <| WN.meet s0_7 (Si hm) ⟨.q rfl, .q rfl, .q rfl, .q rfl, .q rfl, .q rfl, trivial⟩ trivial
      ·have hm := hs86
       clear hs86
       refine Aw <| Am rfl rfl <| Ao rfl (.gtI (.t rfl) .i64) <| An <| W.cD hm (.t rfl) (fun hp89 hm => ?_) (fun hp89 hm => ?_)
       ·refine W.region <| WL.mv rfl rfl ?_
        obtain ⟨v30, hv90, hm⟩ := Bs hm
        exact Ao rfl (.catC hv90 (.t rfl) (.str rfl (by decide))) <| Ag rfl rfl <| WL.nil <| WN.meet v30 (Si hm) ⟨.q rfl, .q rfl, .q rfl, .q rfl, .q rfl, .q rfl, .q rfl, trivial⟩ trivial
       ·exact W.skip <| WN.meet s0_ (Si hm) ⟨.q rfl, .q rfl, .q rfl, .q rfl, .q rfl, .q rfl, .q rfl, trivial⟩ trivial
     ·obtain ⟨v41, hv116, hm⟩ := Bs hm
      obtain ⟨v42, hv117, hm⟩ := Bs hm
      obtain ⟨v43, hv118, hm⟩ := Bs hm
      refine W.draw [.c _, .c _, .c _, .c _, .c _, .c _, .c _, .c _, .c _, .c _, .c _, .c _, .c _, .c _, .c _, .c _, .c _, .c _, .c _, .c _] [([], [6]), ([0], []), ([], [0]), ([2], []), ([1, 3], []), ([4], []), ([5], [0]), ([5], [6]), ([5, 7], []), ([5, 6, 8], []), ([5, 9], []), ([5, 10], []), ([5], [0]), ([5], [6]), ([5, 12, 13], []), ([5, 14], []), ([5, 15], []), ([5, 11, 16], []), ([5, 17], []), ([18], [])] Mx rfl rfl rfl rfl ⟨Dn (.move (.t rfl)), Dn (.addC hv82 (.t rfl) .i64), Dn (.move (.t rfl)), Dn (.lenL U30 (.t rfl)), Dn (.eqI (.t rfl) (.t rfl)), Dn (.move (.t rfl)), Dr rfl hb83 (.move (.t rfl)), Dr rfl hb83 (.move (.t rfl)), Dr rfl hb83 (.addC hv116 (.t rfl) .i64), Dr rfl hb83 (.idx hv117 U30 Z53 (.t rfl) (.t rfl)), Dr rfl hb83 (.fieldAddr U53 rfl J3 fapi_TrackedWord_0 (.t rfl)), Dr rfl hb83 (.load ty3 (.t rfl)), Dr rfl hb83 (.move (.t rfl)), Dr rfl hb83 (.move (.t rfl)), Dr rfl hb83 (.idx hv118 U30 Z53 (.t rfl) (.t rfl)), Dr rfl hb83 (.fieldAddr U53 rfl J3 fapi_TrackedWord_0 (.t rfl)), Dr rfl hb83 (.load ty3 (.t rfl)), Dr rfl hb83 (.neI (.t rfl) (.t rfl)), Dn (.pickF (.t rfl) hb83 (.t rfl)), Dn (.assign (.t rfl)), trivial⟩ <| WN.seq ?_
      obtain ⟨s119, hs120, hk121⟩ := Bs hm
      clear hm
      refine W.join (fun s : Str => s = s119) (fun s => [(3, (tS.is s)), (0, ((tL tapi_TrackedWord).is l)), (4, ((tL tS).is ([([] : Str), ([91, 43, 32] : Str), ([91, 45, 32] : Str)]))), (5, ((tL tS).is ([([] : Str), ([32, 43, 93] : Str), ([32, 45, 93] : Str)]))), (6, (I6.is i)), (7, (tB.is (decide (v27.State ≠ v28.State)))), (8, (tB.is (decide (v42.State ≠ v43.State))))]) (fun s => []) ?_ ?_
      ·rintro s0_10 hj152
       try dsimp only at hj152
       subst hj152
       have hm := hk121
       clear hk121
       try dsimp only at hm
       change W _ _ _ _ _ _ _ [(3, (tS.is s0_10)), (0, ((tL tapi_TrackedWord).is l)), (4, ((tL tS).is ([([] : Str), ([91, 43, 32] : Str), ([91, 45, 32] : Str)]))), (5, ((tL tS).is ([([] : Str), ([32, 43, 93] : Str), ([32, 45, 93] : Str)]))), (6, (I6.is i)), (7, (tB.is (decide (v27.State ≠ v28.State)))), (8, (tB.is (decide (v42.State ≠ v43.State))))] []
       obtain ⟨s125, hs126, hk127⟩ := Bs hm
       clear hm
       refine W.join (fun s : Str => s = s125) (fun s => [(3, (tS.is s)), (0, ((tL tapi_TrackedWord).is l)), (4, ((tL tS).is ([([] : Str), ([91, 43, 32] : Str), ([91, 45, 32] : Str)]))), (5, ((tL tS).is ([([] : Str), ([32, 43, 93] : Str), ([32, 45, 93] : Str)]))), (6, (I6.is i)), (8, (tB.is (decide (v42.State ≠ v43.State))))]) (fun s => []) ?_ ?_
       ·rintro s0_11 hj151
        try dsimp only at hj151
        subst hj151
        have hm := hk127
        clear hk127
        try dsimp only at hm
        change W _ _ _ _ _ _ _ [(3, (tS.is s0_11)), (0, ((tL tapi_TrackedWord).is l)), (4, ((tL tS).is ([([] : Str), ([91, 43, 32] : Str), ([91, 45, 32] : Str)]))), (5, ((tL tS).is ([([] : Str), ([32, 43, 93] : Str), ([32, 45, 93] : Str)]))), (6, (I6.is i)), (8, (tB.is (decide (v42.State ≠ v43.State))))] []
        obtain ⟨s133, hs134, hk135⟩ := Bs hm
        clear hm
        refine W.join (fun s : Str => s = s133) (fun s => [(3, (tS.is s)), (0, ((tL tapi_TrackedWord).is l)), (4, ((tL tS).is ([([] : Str), ([91, 43, 32] : Str), ([91, 45, 32] : Str)]))), (5, ((tL tS).is ([([] : Str), ([32, 43, 93] : Str), ([32, 45, 93] : Str)]))), (6, (I6.is i)), (8, (tB.is (decide (v42.State ≠ v43.State))))]) (fun s => []) ?_ ?_
        ·rintro s0_12 hj150
         try dsimp only at hj150
         subst hj150
         have hm := hk135
         clear hk135
         try dsimp only at hm
         change W _ _ _ _ _ _ _ [(3, (tS.is s0_12)), (0, ((tL tapi_TrackedWord).is l)), (4, ((tL tS).is ([([] : Str), ([91, 43, 32] : Str), ([91, 45, 32] : Str)]))), (5, ((tL tS).is ([([] : Str), ([32, 43, 93] : Str), ([32, 45, 93] : Str)]))), (6, (I6.is i)), (8, (tB.is (decide (v42.State ≠ v43.State))))] []
         refine Aw <| Am rfl rfl <| Am rfl rfl <| WL.mv rfl rfl ?_
         obtain ⟨v50, hv141, hm⟩ := Bs hm
         refine Ao rfl (.idx hv141 U30 Z53 (.t rfl) (.t rfl)) <| Ao rfl (.fieldAddr U53 rfl J9 fapi_TrackedWord_1 (.t rfl)) <| Ao rfl (.load ty9 (.t rfl)) ?_
         obtain ⟨v51, hv142, hm⟩ := Bs hm
         refine Ao rfl (.catC hv142 (.t rfl) (.t rfl)) <| Ag rfl rfl <| Ar <| Am rfl rfl <| An <| W.cD hm (.t rfl) (fun hp144 hm => ?_) (fun hp144 hm => ?_)
         ·refine W.region <| Am rfl rfl <| Am rfl rfl <| Am rfl rfl <| WL.mv rfl rfl ?_
          obtain ⟨v52, hv145, hm⟩ := Bs hm
          refine Ao rfl (.idx hv145 U30 Z53 (.t rfl) (.t rfl)) <| Ao rfl (.fieldAddr U53 rfl J3 fapi_TrackedWord_0 (.t rfl)) <| Ao rfl (.load ty3 (.t rfl)) ?_
          obtain ⟨v53, hv146, hm⟩ := Bs hm
          refine Ao rfl (.idx hv146 U38 Z9 (.t rfl) (.t rfl)) <| Ao rfl (.load ty9 (.t rfl)) ?_
          obtain ⟨v54, hv147, hm⟩ := Bs hm
          exact Ao rfl (.catC hv147 (.t rfl) (.t rfl)) <| Ag rfl rfl <| WL.nil <| WN.block <| Aq <| W.region <| Am rfl rfl <| WL.lenL (s := 0) (.t rfl) fun hl148 => Ao rfl (.addI1 (.t rfl) .i64 hp9 hl148) <| Ag rfl rfl <| WL.nil <| WN.again n7 (v54, i + 1) (Nat.lt_succ_self n7) hm ⟨.q rfl, .q rfl, .q rfl, .q rfl, .q rfl, trivial⟩ trivial
         ·exact W.skip <| WN.block <| Aq <| W.region <| Am rfl rfl <| WL.lenL (s := 0) (.t rfl) fun hl149 => Ao rfl (.addI1 (.t rfl) .i64 hp9 hl149) <| Ag rfl rfl <| WL.nil <| WN.again n7 (v51, i + 1) (Nat.lt_succ_self n7) hm ⟨.q rfl, .q rfl, .q rfl, .q rfl, .q rfl, trivial⟩ trivial
        ·have hm := hs134
         clear hs134
         refine Aw <| Am rfl rfl <| WL.mv rfl rfl ?_
         obtain ⟨v48, hv136, hm⟩ := Bs hm
         refine Ao rfl (.idx hv136 U30 Z53 (.t rfl) (.t rfl)) <| Ao rfl (.fieldAddr U53 rfl J9 fapi_TrackedWord_1 (.t rfl)) <| Ao rfl (.load ty9 (.t rfl)) ?_
         obtain ⟨specia3, hv137, hm⟩ := Bs hm
         refine Ao rfl (.call C143 (r53_special_spec _ _ hv137) ⟨(.t rfl), trivial⟩) <| An <| W.cB hm (.t rfl) (fun hp139 hm => ?_) (fun hp139 hm => ?_)
         ·refine W.region <| Am rfl rfl <| Ao rfl (.buildSlice (n := 1) (ys := [(0, (92 : Int))]) (z := (0 : Int)) (xs := [(92 : Int)]) U103 el5 ze5 ⟨rfl, (.int (inR8.2 (by omega))), trivial⟩ (by simp) (by decide) rfl) <| Ao rfl (.strB U103 U9 U5 (.t rfl)) ?_
          obtain ⟨v49, hv140, hm⟩ := Bs hm
          exact Ao rfl (.catC hv140 (.t rfl) (.t rfl)) <| Ag rfl rfl <| WL.nil <| WN.meet v49 (Si hm) ⟨.q rfl, .q rfl, .q rfl, .q rfl, .q rfl, .q rfl, trivial⟩ trivial
         ·exact W.skip <| WN.meet s0_11 (Si hm) ⟨.q rfl, .q rfl, .q rfl, .q rfl, .q rfl, .q rfl, trivial⟩ trivial
       ·have hm := hs126
        clear hs126
        refine Aw <| Am rfl rfl <| An <| W.cD hm (.t rfl) (fun hp129 hm => ?_) (fun hp129 hm => ?_)
        ·refine W.region <| Am rfl rfl <| Am rfl rfl <| Am rfl rfl <| WL.mv rfl rfl ?_
         obtain ⟨v45, hv130, hm⟩ := Bs hm
         refine Ao rfl (.idx hv130 U30 Z53 (.t rfl) (.t rfl)) <| Ao rfl (.fieldAddr U53 rfl J3 fapi_TrackedWord_0 (.t rfl)) <| Ao rfl (.load ty3 (.t rfl)) ?_
         obtain ⟨v46, hv131, hm⟩ := Bs hm
         refine Ao rfl (.idx hv131 U38 Z9 (.t rfl) (.t rfl)) <| Ao rfl (.load ty9 (.t rfl)) ?_
         obtain ⟨v47, hv132, hm⟩ := Bs hm
         exact Ao rfl (.catC hv132 (.t rfl) (.t rfl)) <| Ag rfl rfl <| WL.nil <| WN.meet v47 (Si hm) ⟨.q rfl, .q rfl, .q rfl, .q rfl, .q rfl, .q rfl, trivial⟩ trivial
        ·exact W.skip <| WN.meet s0_10 (Si hm) ⟨.q rfl, .q rfl, .q rfl, .q rfl, .q rfl, .q rfl, trivial⟩ trivial
      ·have hm := hs120
       clear hs120
       refine Aw <| Am rfl rfl <| Ao rfl (.gtI (.t rfl) .i64) <| An <| W.cD hm (.t rfl) (fun hp123 hm => ?_) (fun hp123 hm => ?_)
       ·refine W.region <| WL.mv rfl rfl ?_
        obtain ⟨v44, hv124, hm⟩ := Bs hm
        exact Ao rfl (.catC hv124 (.t rfl) (.str rfl (by decide))) <| Ag rfl rfl <| WL.nil <| WN.meet v44 (Si hm) ⟨.q rfl, .q rfl, .q rfl, .q rfl, .q rfl, .q rfl, .q rfl, trivial⟩ trivial
       ·exact W.skip <| WN.meet s0_ (Si hm) ⟨.q rfl, .q rfl, .q rfl, .q rfl, .q rfl, .q rfl, .q rfl, trivial⟩ trivial
   ·refine W.exit rfl ?_
    have hr153 := Si hm
    clear hm
    subst hr153
    have hm := hk6
    try dsimp only at hm
    refine Aq <| Aw <| Am rfl rfl <| Ag rfl rfl <| WL.ns ?_
    cases hm
    exact W.ret1 () rfl (.t rfl) trivial
theorem r53_line_spec (n : Nat) (t : api_TrackedUnit) (depth : Int) (r : Str) (hm : M.r53_line n t depth = some r) : FSpec Tryz.prog 69 [(tapi_TrackedUnit.is t), (I6.is depth)] (tS.is r) := by
 unfold M.r53_line at hm
 refine FSpec.of Tryz.func69 rfl rfl rfl fun g0 => Aw <| Ao rfl (.box (.t rfl)) <| Ao rfl (.assign (.str rfl (by decide))) <| Ar <| Ao rfl (.assign (.str rfl (by decide))) <| An <| W.seq <| Aw <| Ao rfl (.assign .i64) <| An <| W.block ?_
 obtain ⟨s1, hs2, hk3⟩ := Bs hm
 clear hm
 refine W.loop (fun m (s : Str × Int) => M.r53_line_loop1 depth m s.1 s.2 = some s1) (fun s => [(5, (tS.is s.1)), (6, (I6.is s.2)), (1, (I6.is depth)), (2, (tapi_TrackedUnit.ptr t))]) (fun s => []) _ (([] : Str), (0 : Int)) hs2 ⟨.q rfl, .q rfl, .q rfl, .q rfl, trivial⟩ trivial ?_
 rintro n4 ⟨s0_, i⟩ hm
 try dsimp only at hm
 change W _ _ _ _ _ _ _ [(5, (tS.is s0_)), (6, (I6.is i)), (1, (I6.is depth)), (2, (tapi_TrackedUnit.ptr t))] []
 cases n4 with
 | zero => rw [M.r53_line_loop1.eq_1] at hm; cases hm
 | succ n4 =>
  rw [M.r53_line_loop1.eq_2] at hm
  refine W.seq <| Aw <| Am rfl rfl <| Am rfl rfl <| Ao rfl (.ltI (.t rfl) (.t rfl)) <| An <| W.cD hm (.t rfl) (fun hp6 hm => ?_) (fun hp6 hm => ?_)
  ·refine W.skip <| Aq <| W.seq <| W.block <| W.region <| WL.mv rfl rfl ?_
   obtain ⟨v, hv7, hm⟩ := Bs hm
   refine Ao rfl (.catC hv7 (.t rfl) (.str rfl (by decide))) <| Ag rfl rfl <| WL.nil <| WN.block <| Aq <| W.region <| WL.mv rfl rfl ?_
   obtain ⟨v1, hv8, hm⟩ := Bs hm
   exact Ao rfl (.addC hv8 (.t rfl) .i64) <| Ag rfl rfl <| WL.nil <| WN.again n4 (v, v1) (Nat.lt_succ_self n4) hm ⟨.q rfl, .q rfl, .q rfl, .q rfl, trivial⟩ trivial
  ·refine W.exit rfl ?_
   have hr9 := Si hm
   clear hm
   subst hr9
   have hm := hk3
   try dsimp only at hm
   refine Aq <| Aw <| Am rfl rfl <| Ao rfl (.load ty33 (.t rfl)) ?_
   obtain ⟨sign, hv10, hm⟩ := Bs hm
   refine Ao rfl (.call C103 (r53_sign_spec _ _ hv10) ⟨(.t rfl), trivial⟩) ?_
   obtain ⟨v2, hv11, hm⟩ := Bs hm
   refine Ao rfl (.catC hv11 (.t rfl) (.t rfl)) ?_
   obtain ⟨v3, hv12, hm⟩ := Bs hm
   refine Ao rfl (.catC hv12 (.t rfl) (.str rfl (by decide))) <| Ag rfl rfl <| An <| W.seq <| Aw <| Ao rfl (.load ty33 (.t rfl)) ?_
   obtain ⟨sign1, hv13, hm⟩ := Bs hm
   refine Ao rfl (.call C103 (r53_sign_spec _ _ hv13) ⟨(.t rfl), trivial⟩) <| Ao rfl (.eqS (.t rfl) (.str rfl (by decide))) <| An <| W.cB hm (.t rfl) (fun hp15 hm => ?_) (fun hp15 hm => ?_)
   ·refine Aw <| Am rfl rfl <| Ao rfl (.fieldAddr U33 rfl J23 fapi_TrackedUnit_2 (.t rfl)) <| Ao rfl (.load ty23 (.t rfl)) ?_
    obtain ⟨mark, hv16, hm⟩ := Bs hm
    refine Ao rfl (.call C104 (r53_mark_spec _ _ _ hv16) ⟨(.t rfl), trivial⟩) ?_
    obtain ⟨v4, hv17, hm⟩ := Bs hm
    refine Ao rfl (.catC hv17 (.t rfl) (.t rfl)) <| Ag rfl rfl <| WL.ns ?_
    cases hm
    exact W.ret1 () rfl (.t rfl) trivial
   ·refine W.skip <| Aq <| Aw <| Am rfl rfl <| Ao rfl (.fieldAddr U33 rfl J3 fapi_TrackedUnit_1 (.t rfl)) <| Ao rfl (.load ty3 (.t rfl)) ?_
    obtain ⟨name, hv18, hm⟩ := Bs hm
    refine Ao rfl (.call C105 (r06_Name_spec _ _ hv18) ⟨(.t rfl), trivial⟩) ?_
    obtain ⟨v5, hv19, hm⟩ := Bs hm
    refine Ao rfl (.catC hv19 (.t rfl) (.t rfl)) <| Ag rfl rfl <| WL.ns ?_
    obtain ⟨s20, hs21, hk22⟩ := Bs hm
    clear hm
    refine W.join (fun s : Str => s = s20) (fun s => [(5, (tS.is s)), (2, (tapi_TrackedUnit.ptr t))]) (fun s => []) ?_ ?_
    ·rintro s0_1 hj52
     try dsimp only at hj52
     subst hj52
     have hm := hk22
     clear hk22
     try dsimp only at hm
     change W _ _ _ _ _ _ _ [(5, (tS.is s0_1)), (2, (tapi_TrackedUnit.ptr t))] []
     obtain ⟨s27, hs28, hk29⟩ := Bs hm
     clear hm
     refine W.join (fun s : Str => s = s27) (fun s => [(5, (tS.is s)), (2, (tapi_TrackedUnit.ptr t))]) (fun s => []) ?_ ?_
     ·rintro s0_2 hj51
      try dsimp only at hj51
      subst hj51
      have hm := hk29
      clear hk29
      try dsimp only at hm
      change W _ _ _ _ _ _ _ [(5, (tS.is s0_2)), (2, (tapi_TrackedUnit.ptr t))] []
      refine Aw <| WL.mv rfl rfl ?_
      obtain ⟨v10, hv34, hm⟩ := Bs hm
      refine Ao rfl (.catC hv34 (.t rfl) (.str rfl (by decide))) <| Ao rfl (.fieldAddr U33 rfl J23 fapi_TrackedUnit_2 (.t rfl)) <| Ao rfl (.load ty23 (.t rfl)) ?_
      obtain ⟨mark1, hv35, hm⟩ := Bs hm
      refine Ao rfl (.call C104 (r53_mark_spec _ _ _ hv35) ⟨(.t rfl), trivial⟩) ?_
      obtain ⟨v11, hv36, hm⟩ := Bs hm
      refine Ao rfl (.catC hv36 (.t rfl) (.t rfl)) <| Ag rfl rfl <| WL.ns ?_
      obtain ⟨s37, hs38, hk39⟩ := Bs hm
      clear hm
      refine W.join (fun s : Str => s = s37) (fun s => [(5, (tS.is s)), (2, (tapi_TrackedUnit.ptr t))]) (fun s => []) ?_ ?_
      ·rintro s0_3 hj50
       try dsimp only at hj50
       subst hj50
       have hm := hk39
       clear hk39
       try dsimp only at hm
       change W _ _ _ _ _ _ _ [(5, (tS.is s0_3)), (2, (tapi_TrackedUnit.ptr t))] []
       refine W.seq <| Aw <| Ao rfl (.fieldAddr U33 rfl J30 fapi_TrackedUnit_7 (.t rfl)) <| Ao rfl (.load ty30 (.t rfl)) <| Ao rfl (.lenL U30 (.t rfl)) <| Ao rfl (.gtI (.t rfl) .i64) <| An <| W.cD hm (.t rfl) (fun hp46 hm => ?_) (fun hp46 hm => ?_)
       ·refine W.region <| WL.mv rfl rfl ?_
        obtain ⟨v14, hv47, hm⟩ := Bs hm
        refine Ao rfl (.catC hv47 (.t rfl) (.str rfl (by decide))) <| Ao rfl (.fieldAddr U33 rfl J30 fapi_TrackedUnit_7 (.t rfl)) <| Ao rfl (.load ty30 (.t rfl)) ?_
        obtain ⟨row1, hv48, hm⟩ := Bs hm
        refine Ao rfl (.call C106 (r53_Row_spec _ _ _ hv48) ⟨(.t rfl), trivial⟩) ?_
        obtain ⟨v15, hv49, hm⟩ := Bs hm
        refine Ao rfl (.catC hv49 (.t rfl) (.t rfl)) <| Ag rfl rfl <| Ar <| Am rfl rfl <| Ag rfl rfl <| WL.ns ?_
        cases hm
        exact W.ret1 () rfl (.t rfl) trivial
       ·refine W.skip <| Aq <| Aw <| Am rfl rfl <| Ag rfl rfl <| WL.ns ?_
        cases hm
        exact W.ret1 () rfl (.t rfl) trivial
      ·have hm := hs38
       clear hs38
       refine Aw <| Ao rfl (.fieldAddr U33 rfl J30 fapi_TrackedUnit_6 (.t rfl)) <| Ao rfl (.load ty30 (.t rfl)) <| Ao rfl (.lenL U30 (.t rfl)) <| Ao rfl (.gtI (.t rfl) .i64) <| An <| W.cD hm (.t rfl) (fun hp41 hm => ?_) (fun hp41 hm => ?_)
       ·refine W.region <| WL.mv rfl rfl ?_
        obtain ⟨v12, hv42, hm⟩ := Bs hm
        refine Ao rfl (.catC hv42 (.t rfl) (.str rfl (by decide))) <| Ao rfl (.fieldAddr U33 rfl J30 fapi_TrackedUnit_6 (.t rfl)) <| Ao rfl (.load ty30 (.t rfl)) ?_
        obtain ⟨row, hv43, hm⟩ := Bs hm
        refine Ao rfl (.call C106 (r53_Row_spec _ _ _ hv43) ⟨(.t rfl), trivial⟩) ?_
        obtain ⟨v13, hv44, hm⟩ := Bs hm
        exact Ao rfl (.catC hv44 (.t rfl) (.t rfl)) <| Ag rfl rfl <| WL.nil <| WN.meet v13 (Si hm) ⟨.q rfl, .q rfl, trivial⟩ trivial
       ·exact W.skip <| WN.meet v11 (Si hm) ⟨.q rfl, .q rfl, trivial⟩ trivial
     ·have hm := hs28
      clear hs28
      refine Aw <| Ao rfl (.fieldAddr U33 rfl J9 fapi_TrackedUnit_4 (.t rfl)) <| Ao rfl (.load ty9 (.t rfl)) <| Ao rfl (.neS (.t rfl) (.str rfl (by decide))) <| An <| W.cB hm (.t rfl) (fun hp31 hm => ?_) (fun hp31 hm => ?_)
      ·refine W.region <| WL.mv rfl rfl ?_
       obtain ⟨v8, hv32, hm⟩ := Bs hm
       refine Ao rfl (.catC hv32 (.t rfl) (.str rfl (by decide))) <| Ao rfl (.fieldAddr U33 rfl J9 fapi_TrackedUnit_4 (.t rfl)) <| Ao rfl (.load ty9 (.t rfl)) ?_
       obtain ⟨v9, hv33, hm⟩ := Bs hm
       exact Ao rfl (.catC hv33 (.t rfl) (.t rfl)) <| Ag rfl rfl <| WL.nil <| WN.meet v9 (Si hm) ⟨.q rfl, .q rfl, trivial⟩ trivial
      ·exact W.skip <| WN.meet s0_1 (Si hm) ⟨.q rfl, .q rfl, trivial⟩ trivial
    ·have hm := hs21
     clear hs21
     refine Aw <| Ao rfl (.fieldAddr U33 rfl J9 fapi_TrackedUnit_3 (.t rfl)) <| Ao rfl (.load ty9 (.t rfl)) <| Ao rfl (.neS (.t rfl) (.str rfl (by decide))) <| An <| W.cB hm (.t rfl) (fun hp24 hm => ?_) (fun hp24 hm => ?_)
     ·refine W.region <| WL.mv rfl rfl ?_
      obtain ⟨v6, hv25, hm⟩ := Bs hm
      refine Ao rfl (.catC hv25 (.t rfl) (.str rfl (by decide))) <| Ao rfl (.fieldAddr U33 rfl J9 fapi_TrackedUnit_3 (.t rfl)) <| Ao rfl (.load ty9 (.t rfl)) ?_
      obtain ⟨v7, hv26, hm⟩ := Bs hm
      exact Ao rfl (.catC hv26 (.t rfl) (.t rfl)) <| Ag rfl rfl <| WL.nil <| WN.meet v7 (Si hm) ⟨.q rfl, .q rfl, trivial⟩ trivial
     ·exact W.skip <| WN.meet v5 (Si hm) ⟨.q rfl, .q rfl, trivial⟩ trivial
theorem r53_lines_spec : ∀ (n : Nat) (t : api_TrackedUnit) (depth : Int) (r : List Str), M.r53_lines n t depth = some r → FSpec Tryz.prog 34 [(tapi_TrackedUnit.is t), (I6.is depth)] ((tL tS).is r) := by
 intro n
 induction n with
 | zero => intro t depth r hm; cases hm
 | succ n ih =>
  intro t depth r hm
  rw [M.r53_lines.eq_2] at hm
  refine FSpec.of Tryz.func34 rfl rfl rfl fun g0 => Aw <| Ao rfl (.box (.t rfl)) <| Ao rfl (.assign (.nil (t := tS))) <| Ar <| Ao rfl (.load ty33 (.t rfl)) <| WL.mv rfl rfl ?_
  obtain ⟨line, hv1, hm⟩ := Bs hm
  refine Ao rfl (.call C69 (r53_line_spec _ _ _ _ hv1) ⟨(.t rfl), (.t rfl), trivial⟩) <| WL.opR rfl (OpR.buildSlice (n := 1) (ys := [(0, line)]) (z := ([] : Str)) (xs := [line]) 10 U38 el9 ze9 ⟨rfl, (.t rfl), trivial⟩ (by simp) (by decide) rfl) fun k => Ag rfl rfl <| An <| W.seq <| Aw <| Ao rfl (.assign .i64) <| An <| W.block ?_
  obtain ⟨s2, hs3, hk4⟩ := Bs hm
  clear hm
  refine W.loop (fun m (s : ((List Str) × Int) × Tok) => M.r53_lines_loop1 t depth (M.r53_lines n) m s.1.1 s.1.2 = some s2) (fun s => [(5, (tO tS s.2 s.1.1)), (6, (I6.is s.1.2)), (1, (I6.is depth)), (2, (tapi_TrackedUnit.ptr t))]) (fun s => [(10, Dec.Own tS 9 s.2 s.1.1.length)]) _ (([line], (0 : Int)), k) hs3 ⟨.q rfl, .q rfl, .q rfl, .q rfl, trivial⟩ ⟨rfl, rfl, trivial⟩ ?_
  rintro n5 ⟨⟨out, i⟩, k1⟩ hm
  try dsimp only at hm
  change W _ _ _ _ _ _ _ [(5, (tO tS k1 out)), (6, (I6.is i)), (1, (I6.is depth)), (2, (tapi_TrackedUnit.ptr t))] [(10, Dec.Own tS 9 k1 out.length)]
  cases n5 with
  | zero => rw [M.r53_lines_loop1.eq_1] at hm; cases hm
  | succ n5 =>
   rw [M.r53_lines_loop1.eq_2] at hm
   refine W.seq <| Aw <| Am rfl rfl <| Ao rfl (.fieldAddr U33 rfl J31 fapi_TrackedUnit_8 (.t rfl)) <| Ao rfl (.load ty31 (.t rfl)) <| Ao rfl (.lenL U31 (.t rfl)) <| Ao rfl (.ltI (.t rfl) (.t rfl)) <| An <| W.cD hm (.t rfl) (fun hp7 hm => ?_) (fun hp7 hm => ?_)
   ·refine W.skip <| Aq <| W.seq <| W.block <| W.region <| Am rfl rfl <| Ao rfl (.fieldAddr U33 rfl J31 fapi_TrackedUnit_8 (.t rfl)) <| Ao rfl (.load ty31 (.t rfl)) <| WL.mv rfl rfl ?_
    obtain ⟨v, hv8, hm⟩ := Bs hm
    refine Ao rfl (.idx hv8 U31 Z33 (.t rfl) (.t rfl)) <| Ao rfl (.load ty33 (.t rfl)) <| WL.mv rfl rfl ?_
    obtain ⟨v1, hv9, hm⟩ := Bs hm
    refine Ao rfl (.addC hv9 (.t rfl) .i64) ?_
    obtain ⟨lines, hv10, hm⟩ := Bs hm
    refine Ao rfl (.call C34 (ih _ _ _ hv10) ⟨(.t rfl), (.t rfl), trivial⟩) ?_
    obtain ⟨out1, hv11, hm⟩ := Bs hm
    exact WL.opR rfl (OpR.appC (key := 10) hv11 U38 el9 (.t rfl) (.t rfl) rfl) fun k2 => Ag rfl rfl <| WL.nil <| WN.block <| Aq <| W.region <| Am rfl rfl <| WL.lenL (s := 13) (.t rfl) fun hl12 => Ao rfl (.addI1 (.t rfl) .i64 hp7 hl12) <| Ag rfl rfl <| WL.nil <| WN.again n5 ((out1, i + 1), k2) (Nat.lt_succ_self n5) hm ⟨.q rfl, .q rfl, .q rfl, .q rfl, trivial⟩ ⟨rfl, rfl, trivial⟩
   ·refine W.exit rfl ?_
    have hr13 := Si hm
    clear hm
    subst hr13
    have hm := hk4
    try dsimp only at hm
    refine Aq <| Aw <| Am rfl rfl <| Ag rfl rfl <| WL.ns ?_
    cases hm
    exact W.ret1 () rfl (Opd.own (.t rfl)) trivial
theorem r53_Text_spec (n : Nat) (t : api_TrackedUnit) (r : Str × Int) (hm : M.r53_Text n t = some r) : FSpec Tryz.prog 15 [(tapi_TrackedUnit.is t)] (Asn.tuple2 (tS.is r.1) (I6.is r.2)) := by
 unfold M.r53_Text at hm
 refine FSpec.of Tryz.func15 rfl rfl rfl fun g0 => Aw <| Ao rfl (.box (.t rfl)) <| Ao rfl (.assign (.str rfl (by decide))) <| Ao rfl (.assign .i64) <| An <| W.seq <| Aw <| Ao rfl (.load ty33 (.t rfl)) ?_
 obtain ⟨may, hv1, hm⟩ := Bs hm
 refine Ao rfl (.call C9 (r53_May_spec _ _ _ hv1) ⟨(.t rfl), trivial⟩) <| Ao rfl (.notB (.t rfl)) <| An <| W.cR hm (.t rfl) (fun hp3 hm => ?_) (fun hp3 hm => ?_)
 ·refine Aw <| Ao rfl (.assign (.str rfl (by decide))) <| Ao rfl (.assign .i64) <| WL.ns ?_
  cases hm
  exact W.ret2 () rfl rfl (.t rfl) (.t rfl) trivial
 ·refine W.skip <| Aq <| Aw <| Ao rfl (.assign (.str rfl (by decide))) <| Ar <| Ao rfl (.load ty33 (.t rfl)) ?_
  obtain ⟨lines, hv4, hm⟩ := Bs hm
  refine Ao rfl (.call C34 (r53_lines_spec _ _ _ _ hv4) ⟨(.t rfl), .i64, trivial⟩) <| Ag rfl rfl <| An <| W.seq <| Aw <| Ao rfl (.assign .i64) <| An <| W.block ?_
  obtain ⟨s5, hs6, hk7⟩ := Bs hm
  clear hm
  refine W.loop (fun m (s : Str × Int) => M.r53_Text_loop1 lines m s.1 s.2 = some s5) (fun s => [(4, (tS.is s.1)), (6, (I6.is s.2)), (5, ((tL tS).is lines))]) (fun s => []) _ (([] : Str), (0 : Int)) hs6 ⟨.q rfl, .q rfl, .q rfl, trivial⟩ trivial ?_
  rintro n8 ⟨s0_, i⟩ hm
  try dsimp only at hm
  change W _ _ _ _ _ _ _ [(4, (tS.is s0_)), (6, (I6.is i)), (5, ((tL tS).is lines))] []
  cases n8 with
  | zero => rw [M.r53_Text_loop1.eq_1] at hm; cases hm
  | succ n8 =>
   rw [M.r53_Text_loop1.eq_2] at hm
   refine W.seq <| Aw <| Am rfl rfl <| Am rfl rfl <| Ao rfl (.lenL U38 (.t rfl)) <| Ao rfl (.ltI (.t rfl) (.t rfl)) <| An <| W.cD hm (.t rfl) (fun hp10 hm => ?_) (fun hp10 hm => ?_)
   ·refine W.skip <| Aq <| W.seq <| W.block <| W.region <| Am rfl rfl <| Am rfl rfl <| WL.mv rfl rfl ?_
    obtain ⟨v, hv11, hm⟩ := Bs hm
    refine Ao rfl (.idx hv11 U38 Z9 (.t rfl) (.t rfl)) <| Ao rfl (.load ty9 (.t rfl)) ?_
    obtain ⟨v1, hv12, hm⟩ := Bs hm
    refine Ao rfl (.catC hv12 (.t rfl) (.t rfl)) ?_
    obtain ⟨v2, hv13, hm⟩ := Bs hm
    exact Ao rfl (.catC hv13 (.t rfl) (.str rfl (by decide))) <| Ag rfl rfl <| WL.nil <| WN.block <| Aq <| W.region <| Am rfl rfl <| WL.lenL (s := 5) (.t rfl) fun hl14 => Ao rfl (.addI1 (.t rfl) .i64 hp10 hl14) <| Ag rfl rfl <| WL.nil <| WN.again n8 (v2, i + 1) (Nat.lt_succ_self n8) hm ⟨.q rfl, .q rfl, .q rfl, trivial⟩ trivial
   ·refine W.exit rfl ?_
    have hr15 := Si hm
    clear hm
    subst hr15
    have hm := hk7
    try dsimp only at hm
    refine Aq <| W.seq <| Aw <| Am rfl rfl <| Ao rfl (.lenS U9 (.t rfl)) <| Ao rfl (.gtI (.t rfl) .i64) <| An <| W.cD hm (.t rfl) (fun hp17 hm => ?_) (fun hp17 hm => ?_)
    ·refine Aw <| Ao rfl (.assign (.str rfl (by decide))) <| Ao rfl (.assign .i64) <| WL.ns ?_
     cases hm
     exact W.ret2 () rfl rfl (.t rfl) (.t rfl) trivial
    ·refine W.skip <| Aq <| Aw <| Am rfl rfl <| Ag rfl rfl <| Ao rfl (.assign .i64) <| WL.ns ?_
     cases hm
     exact W.ret2 () rfl rfl (.t rfl) (.t rfl) trivial
theorem r53_Lines_spec (n : Nat) (t : api_TrackedUnit) (r : List Str) (hm : M.r53_Lines n t = some r) : FSpec Tryz.prog 17 [(tapi_TrackedUnit.is t)] ((tL tS).is r) := by
 unfold M.r53_Lines at hm
 refine FSpec.of Tryz.func17 rfl rfl rfl fun g0 => Aw <| Ao rfl (.box (.t rfl)) <| Ao rfl (.assign (.nil (t := tS))) <| An <| W.seq <| Aw <| Ao rfl (.load ty33 (.t rfl)) ?_
 obtain ⟨may, hv1, hm⟩ := Bs hm
 refine Ao rfl (.call C9 (r53_May_spec _ _ _ hv1) ⟨(.t rfl), trivial⟩) <| Ao rfl (.notB (.t rfl)) <| An <| W.cR hm (.t rfl) (fun hp3 hm => ?_) (fun hp3 hm => ?_)
 ·refine Aw <| Ao rfl (.buildSlice (n := 0) (ys := []) (z := ([] : Str)) (xs := ([] : List Str)) U38 el9 ze9 trivial (by simp) (by decide) rfl) <| Ag rfl rfl <| WL.ns ?_
  cases hm
  exact W.ret1 () rfl (.t rfl) trivial
 ·refine W.skip <| Aq <| Aw <| Ao rfl (.load ty33 (.t rfl)) ?_
  obtain ⟨lines, hv4, hm⟩ := Bs hm
  refine Ao rfl (.call C34 (r53_lines_spec _ _ _ _ hv4) ⟨(.t rfl), .i64, trivial⟩) <| Ag rfl rfl <| WL.ns ?_
  cases hm
  exact W.ret1 () rfl (.t rfl) trivial
theorem r04_Same_spec (n : Nat) (a : List Str) (b : List Str) (r : Bool) (hm : M.r04_Same n a b = some r) : FSpec Tryz.prog 16 [((tL tS).is a), ((tL tS).is b)] (tB.is r) := by
 unfold M.r04_Same at hm
 refine FSpec.of Tryz.func16 rfl rfl rfl fun g0 => Aw <| Ao rfl (.assign .bool) <| An <| W.seq <| Aw <| Am rfl rfl <| Ao rfl (.lenL U38 (.t rfl)) <| Am rfl rfl <| Ao rfl (.lenL U38 (.t rfl)) <| Ao rfl (.neI (.t rfl) (.t rfl)) <| An <| W.cD hm (.t rfl) (fun hp2 hm => ?_) (fun hp2 hm => ?_)
 ·refine Aw <| Ao rfl (.assign .bool) <| WL.ns ?_
  cases hm
  exact W.ret1 () rfl (.t rfl) trivial
 ·refine W.skip <| Aq <| W.seq <| Aw <| Ao rfl (.assign .i64) <| An <| W.block ?_
  obtain ⟨s3, hs4, hk5⟩ := Bs hm
  clear hm
  refine W.loop (fun m (s : Int) => M.r04_Same_loop1 a b m s = some s3) (fun s => [(5, (I6.is s)), (0, ((tL tS).is a)), (1, ((tL tS).is b))]) (fun s => []) _ (0 : Int) hs4 ⟨.q rfl, .q rfl, .q rfl, trivial⟩ trivial ?_
  rintro n6 i hm
  try dsimp only at hm
  change W _ _ _ _ _ _ _ [(5, (I6.is i)), (0, ((tL tS).is a)), (1, ((tL tS).is b))] []
  cases n6 with
  | zero => rw [M.r04_Same_loop1.eq_1] at hm; cases hm
  | succ n6 =>
   rw [M.r04_Same_loop1.eq_2] at hm
   refine W.seq <| Aw <| Am rfl rfl <| Am rfl rfl <| Ao rfl (.lenL U38 (.t rfl)) <| Ao rfl (.ltI (.t rfl) (.t rfl)) <| An <| W.cD hm (.t rfl) (fun hp8 hm => ?_) (fun hp8 hm => ?_)
   ·refine W.skip <| Aq <| W.seq <| W.block <| W.seq ?_
    obtain ⟨v, hv9, hm⟩ := Bs hm
    obtain ⟨v1, hv10, hm⟩ := Bs hm
    refine W.draw [.c _, .c _, .c _, .c _, .c _, .c _, .c _, .c _, .c _] [([], [0]), ([], [5]), ([0, 1], []), ([2], []), ([], [1]), ([], [5]), ([4, 5], []), ([6], []), ([3, 7], [])] Mx rfl rfl rfl rfl ⟨Dn (.move (.t rfl)), Dn (.move (.t rfl)), Dn (.idx hv9 U38 Z9 (.t rfl) (.t rfl)), Dn (.load ty9 (.t rfl)), Dn (.move (.t rfl)), Dn (.move (.t rfl)), Dn (.idx hv10 U38 Z9 (.t rfl) (.t rfl)), Dn (.load ty9 (.t rfl)), Dn (.neS (.t rfl) (.t rfl)), trivial⟩ <| Aq <| W.cB hm (.t rfl) (fun hp12 hm => ?_) (fun hp12 hm => ?_)
    ·refine Aw <| Ao rfl (.assign .bool) <| WL.ns ?_
     have hr13 := Si hm
     clear hm
     subst hr13
     have hm := hk5
     try dsimp only at hm
     cases hm
     exact W.ret1 () rfl (.t rfl) trivial
    ·exact W.skip <| WN.block <| Aq <| W.region <| Am rfl rfl <| WL.lenL (s := 0) (.t rfl) fun hl14 => Ao rfl (.addI1 (.t rfl) .i64 hp8 hl14) <| Ag rfl rfl <| WL.nil <| WN.again n6 (i + 1) (Nat.lt_succ_self n6) hm ⟨.q rfl, .q rfl, .q rfl, trivial⟩ trivial
   ·refine W.exit rfl ?_
    have hr15 := Si hm
    clear hm
    subst hr15
    have hm := hk5
    try dsimp only at hm
    refine Aq <| Aw <| Ao rfl (.assign .bool) <| WL.ns ?_
    cases hm
    exact W.ret1 () rfl (.t rfl) trivial
theorem strings_trimLeftByte_spec (n : Nat) (s0_ : Str) (c : Int) (r : Str) (hm : M.strings_trimLeftByte n s0_ c = some r) : FSpec Tryz.prog 108 [(tS.is s0_), ((tI .u8).is c)] (tS.is r) := by
 unfold M.strings_trimLeftByte at hm
 refine FSpec.of Tryz.func108 rfl rfl rfl fun g0 => Aw <| Ao rfl (.assign (.str rfl (by decide))) <| An <| W.seq <| W.block ?_
 obtain ⟨s1, hs2, hk3⟩ := Bs hm
 clear hm
 refine W.loop (fun m (s : Str) => M.strings_trimLeftByte_loop1 c m s = some s1) (fun s => [(0, (tS.is s)), (1, ((tI .u8).is c))]) (fun s => []) _ s0_ hs2 ⟨.q rfl, .q rfl, trivial⟩ trivial ?_
 rintro n4 s0_1 hm
 try dsimp only at hm
 change W _ _ _ _ _ _ _ [(0, (tS.is s0_1)), (1, ((tI .u8).is c))] []
 cases n4 with
 | zero => rw [M.strings_trimLeftByte_loop1.eq_1] at hm; cases hm
 | succ n4 =>
  rw [M.strings_trimLeftByte_loop1.eq_2] at hm
  refine W.seq <| Aw <| Am rfl rfl <| Ao rfl (.lenS U9 (.t rfl)) <| Ao rfl (.gtI (.t rfl) .i64) <| WL.mv rfl rfl ?_
  rcases iteD hm with ⟨hp6, hb5, hm⟩ | ⟨hp6, hb5, hm⟩
  ·refine Ax rfl hb5 (.move (.t rfl)) ?_
   obtain ⟨b, hv7, hm⟩ := Bs hm
   refine Ax rfl hb5 (.sidx hv7 U9 (.t rfl) .i64) <| Ax rfl hb5 (.move (.t rfl)) <| Ax rfl hb5 (.eqI (.t rfl) (.t rfl)) <| Ao rfl (.pickT (.t rfl) hb5 (.t rfl)) <| An <| W.cD hm (.t rfl) (fun hp9 hm => ?_) (fun hp9 hm => ?_)
   ·refine W.skip <| Aq <| W.block <| W.region <| WL.mv rfl rfl ?_
    obtain ⟨v, hv10, hm⟩ := Bs hm
    exact Ao rfl (.sslcLo hv10 U9 (.t rfl) .i64) <| Ag rfl rfl <| WL.nil <| WN.block <| WN.again n4 v (Nat.lt_succ_self n4) hm ⟨.q rfl, .q rfl, trivial⟩ trivial
   ·refine W.exit rfl ?_
    have hr11 := Si hm
    clear hm
    subst hr11
    have hm := hk3
    try dsimp only at hm
    refine Aq <| Aw <| Am rfl rfl <| Ag rfl rfl <| WL.ns ?_
    cases hm
    exact W.ret1 () rfl (.t rfl) trivial
  ·refine Ap rfl hb5 <| Ap rfl hb5 <| Ap rfl hb5 <| Ap rfl hb5 <| Ao rfl (.pickF (.t rfl) hb5 .bool) <| An <| W.condF (.t rfl) <| W.exit rfl ?_
   have hr12 := Si hm
   clear hm
   subst hr12
   have hm := hk3
   try dsimp only at hm
   refine Aq <| Aw <| Am rfl rfl <| Ag rfl rfl <| WL.ns ?_
   cases hm
   exact W.ret1 () rfl (.t rfl) trivial
theorem strings_makeASCIISet_spec (n : Nat) (chars : Str) (r : (List Bool) × Bool) (hm : M.strings_makeASCIISet n chars = some r) : FSpec Tryz.prog 109 [(tS.is chars)] (Asn.tuple2 ((tA 256 tB).is r.1) (tB.is r.2)) := by
 unfold M.strings_makeASCIISet at hm
 refine FSpec.of Tryz.func109 rfl rfl rfl fun g0 => Aw <| WL.opR rfl (OpR.alloc 2 ze151) fun b => Ao rfl (.assign .bool) <| An <| W.seq <| Aw <| Ao rfl (.assign .i64) <| An <| W.block ?_
 obtain ⟨s1, hs2, hk3⟩ := Bs hm
 clear hm
 refine W.loop (fun m (s : Int × (List Bool)) => M.strings_makeASCIISet_loop1 chars m s.1 s.2 = some s1) (fun s => [(4, (I6.is s.1)), (0, (tS.is chars)), (2, (Bp b 0))]) (fun s => [(2, (Bx 256 true 151 ((tA 256 tB).is s.2) b))]) _ ((0 : Int), (List.replicate 256 false)) hs2 ⟨.q rfl, .q rfl, .q rfl, trivial⟩ ⟨rfl, rfl, trivial⟩ ?_
 rintro n4 ⟨i, as0_⟩ hm
 try dsimp only at hm
 change W _ _ _ _ _ _ _ [(4, (I6.is i)), (0, (tS.is chars)), (2, (Bp b 0))] [(2, (Bx 256 true 151 ((tA 256 tB).is as0_) b))]
 cases n4 with
 | zero => rw [M.strings_makeASCIISet_loop1.eq_1] at hm; cases hm
 | succ n4 =>
  rw [M.strings_makeASCIISet_loop1.eq_2] at hm
  refine W.seq <| Aw <| Am rfl rfl <| Am rfl rfl <| Ao rfl (.lenS U9 (.t rfl)) <| Ao rfl (.ltI (.t rfl) (.t rfl)) <| An <| W.cD hm (.t rfl) (fun hp6 hm => ?_) (fun hp6 hm => ?_)
  ·refine W.skip <| Aq <| W.seq <| W.block <| Aw <| Am rfl rfl <| WL.mv rfl rfl ?_
   obtain ⟨b1, hv7, hm⟩ := Bs hm
   refine Ao rfl (.sidx hv7 U9 (.t rfl) (.t rfl)) <| Ag rfl rfl <| An <| W.seq <| Aw <| Am rfl rfl <| Ao rfl (.geI (.t rfl) (.int (inR8.2 (by omega)))) <| An <| W.cD hm (.t rfl) (fun hp9 hm => ?_) (fun hp9 hm => ?_)
   ·refine Aw <| Ao rfl (.loadB 2 Y151 Z151 rfl (.t rfl)) <| WL.opU (OpR.storeB (b := b) 2 Z151 (Cellable.is (tA 256 tB) as0_) rfl (.t rfl) (.t rfl)) fun _ => Ao rfl (.assign .bool) <| WL.ns ?_
    have hr10 := Si hm
    clear hm
    subst hr10
    have hm := hk3
    try dsimp only at hm
    cases hm
    exact W.retQ2 () rfl rfl (ResAt.cell 2 Y151 Z151 rfl (.t rfl)) (ResAt.tmp (.t rfl)) trivial
   ·refine W.skip <| Aq <| W.region <| WL.mv rfl rfl ?_
    obtain ⟨_, hv11, hm⟩ := Bs hm
    exact Ao rfl (.indexAddrB U151 Z4 (.t rfl) (.t rfl) (rngC_in hv11)) <| WL.opU (OpR.storeBF (b := b) 2 rfl ty4 (FldSet.arr (rngC_nat hv11)) rfl (arr_le (rngC_nat hv11)) (.t rfl) .bool) fun _ => WL.nil <| WN.block <| Aq <| W.region <| Am rfl rfl <| WL.lenS (s := 0) (.t rfl) fun hl12 => Ao rfl (.addI1 (.t rfl) .i64 hp6 hl12) <| Ag rfl rfl <| WL.nil <| WN.again n4 (i + 1, as0_.set (b1.toNat : Int).toNat true) (Nat.lt_succ_self n4) hm ⟨.q rfl, .q rfl, .q rfl, trivial⟩ ⟨rfl, rfl, trivial⟩
  ·refine W.exit rfl ?_
   have hr13 := Si hm
   clear hm
   subst hr13
   have hm := hk3
   try dsimp only at hm
   refine Aq <| Aw <| Ao rfl (.loadB 2 Y151 Z151 rfl (.t rfl)) <| WL.opU (OpR.storeB (b := b) 2 Z151 (Cellable.is (tA 256 tB) as0_) rfl (.t rfl) (.t rfl)) fun _ => Ao rfl (.assign .bool) <| WL.ns ?_
   cases hm
   exact W.retQ2 () rfl rfl (ResAt.cell 2 Y151 Z151 rfl (.t rfl)) (ResAt.tmp (.t rfl)) trivial
theorem strings_asciiSet_contains_spec (as0_ : List Bool) (c : Int) (r : Bool) (hm : M.strings_asciiSet_contains as0_ c = some r) : FSpec Tryz.prog 148 [((tA 256 tB).ptr as0_), ((tI .u8).is c)] (tB.is r) := by
 unfold M.strings_asciiSet_contains at hm
 refine FSpec.of Tryz.func148 rfl rfl rfl fun g0 => Aw <| Ao rfl (.assign .bool) <| Ar <| Am rfl rfl <| Am rfl rfl <| Ao rfl (.nilCheck (.t rfl)) ?_
 obtain ⟨v, hv1, hm⟩ := Bs hm
 refine Ao rfl (.idxA hv1 U151 Z4 (.t rfl) (.t rfl)) <| Ao rfl (.load ty4 (.t rfl)) <| Ag rfl rfl <| WL.ns ?_
 cases hm
 exact W.ret1 () rfl (.t rfl) trivial
theorem strings_trimLeftASCII_spec (n : Nat) (s0_ : Str) (as0_ : List Bool) (r : Str) (hm : M.strings_trimLeftASCII n s0_ as0_ = some r) : FSpec Tryz.prog 110 [(tS.is s0_), ((tA 256 tB).ptr as0_)] (tS.is r) := by
 unfold M.strings_trimLeftASCII at hm
 refine FSpec.of Tryz.func110 rfl rfl rfl fun g0 => Aw <| Ao rfl (.assign (.str rfl (by decide))) <| An <| W.seq <| W.block ?_
 obtain ⟨s1, hs2, hk3⟩ := Bs hm
 clear hm
 refine W.loop (fun m (s : Str) => M.strings_trimLeftASCII_loop1 as0_ m s = some s1) (fun s => [(0, (tS.is s)), (1, ((tA 256 tB).ptr as0_))]) (fun s => []) _ s0_ hs2 ⟨.q rfl, .q rfl, trivial⟩ trivial ?_
 rintro n4 s0_1 hm
 try dsimp only at hm
 change W _ _ _ _ _ _ _ [(0, (tS.is s0_1)), (1, ((tA 256 tB).ptr as0_))] []
 cases n4 with
 | zero => rw [M.strings_trimLeftASCII_loop1.eq_1] at hm; cases hm
 | succ n4 =>
  rw [M.strings_trimLeftASCII_loop1.eq_2] at hm
  refine W.seq <| Aw <| Am rfl rfl <| Ao rfl (.lenS U9 (.t rfl)) <| Ao rfl (.gtI (.t rfl) .i64) <| An <| W.cD hm (.t rfl) (fun hp6 hm => ?_) (fun hp6 hm => ?_)
  ·refine W.skip <| Aq <| W.block <| W.seq <| Aw <| Am rfl rfl <| WL.mv rfl rfl ?_
   obtain ⟨b, hv7, hm⟩ := Bs hm
   refine Ao rfl (.sidx hv7 U9 (.t rfl) .i64) ?_
   obtain ⟨contai, hv8, hm⟩ := Bs hm
   refine Ao rfl (.call C148 (strings_asciiSet_contains_spec _ _ _ hv8) ⟨(.t rfl), (.t rfl), trivial⟩) <| Ao rfl (.notB (.t rfl)) <| An <| W.cR hm (.t rfl) (fun hp10 hm => ?_) (fun hp10 hm => ?_)
   ·refine W.exit rfl ?_
    have hr11 := Si hm
    clear hm
    subst hr11
    have hm := hk3
    try dsimp only at hm
    refine Aq <| Aw <| Am rfl rfl <| Ag rfl rfl <| WL.ns ?_
    cases hm
    exact W.ret1 () rfl (.t rfl) trivial
   ·refine W.skip <| Aq <| W.region <| WL.mv rfl rfl ?_
    obtain ⟨v, hv12, hm⟩ := Bs hm
    exact Ao rfl (.sslcLo hv12 U9 (.t rfl) .i64) <| Ag rfl rfl <| WL.nil <| WN.block <| WN.again n4 v (Nat.lt_succ_self n4) hm ⟨.q rfl, .q rfl, trivial⟩ trivial
  ·refine W.exit rfl ?_
   have hr13 := Si hm
   clear hm
   subst hr13
   have hm := hk3
   try dsimp only at hm
   refine Aq <| Aw <| Am rfl rfl <| Ag rfl rfl <| WL.ns ?_
   cases hm
   exact W.ret1 () rfl (.t rfl) trivial
theorem strings_TrimLeft_spec (n : Nat) (s0_ : Str) (cutset : Str) (r : Str) (hm : M.strings_TrimLeft n s0_ cutset = some r) : FSpec Tryz.prog 71 [(tS.is s0_), (tS.is cutset)] (tS.is r) := by
 unfold M.strings_TrimLeft at hm
 refine FSpec.of Tryz.func71 rfl rfl rfl fun g0 => Aw <| Ao rfl (.assign (.str rfl (by decide))) <| An <| W.seq ?_
 obtain ⟨s1, hs2, hk3⟩ := Bs hm
 clear hm
 refine W.join (fun s : Bool => s = s1) (fun s => [(12, (tB.is s)), (0, (tS.is s0_)), (1, (tS.is cutset))]) (fun s => []) ?_ ?_
 ·rintro v hj23
  try dsimp only at hj23
  subst hj23
  have hm := hk3
  clear hk3
  try dsimp only at hm
  change W _ _ _ _ _ _ _ [(12, (tB.is v)), (0, (tS.is s0_)), (1, (tS.is cutset))] []
  refine W.cB hm (.t rfl) (fun hp7 hm => ?_) (fun hp7 hm => ?_)
  ·refine Aw <| Am rfl rfl <| Ag rfl rfl <| WL.ns ?_
   cases hm
   exact W.ret1 () rfl (.t rfl) trivial
  ·refine W.skip <| Aq <| W.seq ?_
   obtain ⟨s8, hs9, hk10⟩ := Bs hm
   clear hm
   refine W.join (fun s : Bool => s = s8) (fun s => [(21, (tB.is s)), (0, (tS.is s0_)), (1, (tS.is cutset))]) (fun s => []) ?_ ?_
   ·rintro v1 hj22
    try dsimp only at hj22
    subst hj22
    have hm := hk10
    clear hk10
    try dsimp only at hm
    change W _ _ _ _ _ _ _ [(21, (tB.is v1)), (0, (tS.is s0_)), (1, (tS.is cutset))] []
    refine W.cB hm (.t rfl) (fun hp15 hm => ?_) (fun hp15 hm => ?_)
    ·refine Aw <| Am rfl rfl <| WL.mv rfl rfl ?_
     obtain ⟨b1, hv16, hm⟩ := Bs hm
     refine Ao rfl (.sidx hv16 U9 (.t rfl) .i64) ?_
     obtain ⟨trimle, hv17, hm⟩ := Bs hm
     refine Ao rfl (.call C108 (strings_trimLeftByte_spec _ _ _ _ hv17) ⟨(.t rfl), (.t rfl), trivial⟩) <| Ag rfl rfl <| WL.ns ?_
     cases hm
     exact W.ret1 () rfl (.t rfl) trivial
    ·refine W.skip <| Aq <| W.seq <| Aw <| WL.mv rfl rfl ?_
     obtain ⟨makeas, hv18, hm⟩ := Bs hm
     refine Ao rfl (.call C109 (strings_makeASCIISet_spec _ _ _ hv18) ⟨(.t rfl), trivial⟩) <| Am rfl rfl <| Ao rfl (.extract0 (.t rfl)) <| Ao rfl (.extract1 (.t rfl)) <| WL.opR rfl (OpR.alloc 5 ze151) fun b2 => WL.opU (OpR.storeB (b := b2) 5 Z151 (Cellable.is (tA 256 tB) makeas.1) rfl (.t rfl) (.t rfl)) fun _ => WL.sealed (t := (tA 256 tB)) (u := makeas.1) 5 5 rfl rfl <| Ag rfl rfl <| Ar <| Am rfl rfl <| An <| W.cB hm (.t rfl) (fun hp20 hm => ?_) (fun hp20 hm => ?_)
     ·refine Aw <| WL.mv rfl rfl ?_
      obtain ⟨trimle1, hv21, hm⟩ := Bs hm
      refine Ao rfl (.call C110 (strings_trimLeftASCII_spec _ _ _ _ hv21) ⟨(.t rfl), (.t rfl), trivial⟩) <| Ag rfl rfl <| WL.ns ?_
      cases hm
      exact W.ret1 () rfl (.t rfl) trivial
     ·cases hm
   ·have hm := hs9
    clear hs9
    refine W.region <| Am rfl rfl <| Ao rfl (.lenS U9 (.t rfl)) <| Ao rfl (.eqI (.t rfl) .i64) <| WL.mv rfl rfl ?_
    rcases iteD hm with ⟨hp12, hb11, hm⟩ | ⟨hp12, hb11, hm⟩
    ·refine Ax rfl hb11 (.move (.t rfl)) ?_
     obtain ⟨b, hv13, hm⟩ := Bs hm
     exact Ax rfl hb11 (.sidx hv13 U9 (.t rfl) .i64) <| Ax rfl hb11 (.ltI (.t rfl) (.int (inR8.2 (by omega)))) <| Ao rfl (.pickT (.t rfl) hb11 (.t rfl)) <| WL.nil <| WN.meet (decide ((b.toNat : Int) < (128 : Int))) (Si hm) ⟨.q rfl, .q rfl, .q rfl, trivial⟩ trivial
    ·exact Ap rfl hb11 <| Ap rfl hb11 <| Ap rfl hb11 <| Ao rfl (.pickF (.t rfl) hb11 .bool) <| WL.nil <| WN.meet false (Si hm) ⟨.q rfl, .q rfl, .q rfl, trivial⟩ trivial
 ·have hm := hs2
  clear hs2
  refine W.region <| Am rfl rfl <| Ao rfl (.eqS (.t rfl) (.str rfl (by decide))) <| WL.mv rfl rfl ?_
  rcases iteB hm with ⟨hp5, hb4, hm⟩ | ⟨hp5, hb4, hm⟩
  ·exact Ap rfl hb4 <| Ap rfl hb4 <| Ao rfl (.pickT (.t rfl) hb4 .bool) <| WL.nil <| WN.meet true (Si hm) ⟨.q rfl, .q rfl, .q rfl, trivial⟩ trivial
  ·exact Ax rfl hb4 (.move (.t rfl)) <| Ax rfl hb4 (.eqS (.t rfl) (.str rfl (by decide))) <| Ao rfl (.pickF (.t rfl) hb4 (.t rfl)) <| WL.nil <| WN.meet (cutset == ([] : Str)) (Si hm) ⟨.q rfl, .q rfl, .q rfl, trivial⟩ trivial
theorem strings_Cut_spec (s sep : Str) (r : Str × Str × Bool) (hm : cutM s sep = some r) : FSpecR Tryz.prog 35 [tS.is s, tS.is sep] [(700003, GlE 3)] (fun _ : Unit => Asn.tuple3 (tS.is r.1) (tS.is r.2.1) (tB.is r.2.2)) (fun _ => []) :=
 cut_spec (fun s sep m w hs hm => Tryz.strings_Cut s sep m w hs hm) _ s sep r hm
theorem strings_Split_spec (s sep : Str) (r : List Str) (hm : splitM s sep = some r) : FSpecR Tryz.prog 112 [tS.is s, tS.is sep] [(700003, GlE 3)] (fun _ : Unit => (tL tS).is r) (fun _ => []) :=
 split_spec (fun s sep m w hs hm h1 => Tryz.strings_Split s sep m w hs hm h1) _ s sep r hm
theorem internal_stringslite_HasPrefix_spec (s0_ : Str) (prefix0_ : Str) (r : Bool) (hm : M.internal_stringslite_HasPrefix s0_ prefix0_ = some r) : FSpec Tryz.prog 138 [(tS.is s0_), (tS.is prefix0_)] (tB.is r) := by
 unfold M.internal_stringslite_HasPrefix at hm
 refine FSpec.of Tryz.func138 rfl rfl rfl fun g0 => Aw <| Ao rfl (.assign .bool) <| Ar <| Am rfl rfl <| Ao rfl (.lenS U9 (.t rfl)) <| Am rfl rfl <| Ao rfl (.lenS U9 (.t rfl)) <| Ao rfl (.geI (.t rfl) (.t rfl)) <| WL.mv rfl rfl ?_
 rcases iteD hm with ⟨hp2, hb1, hm⟩ | ⟨hp2, hb1, hm⟩
 ·refine Ax rfl hb1 (.move (.t rfl)) <| Ax rfl hb1 (.move (.t rfl)) <| Ax rfl hb1 (.lenS U9 (.t rfl)) ?_
  obtain ⟨v, hv3, hm⟩ := Bs hm
  refine Ax rfl hb1 (.sslcHi hv3 U9 (.t rfl) (.t rfl)) <| Ax rfl hb1 (.move (.t rfl)) <| Ax rfl hb1 (.eqS (.t rfl) (.t rfl)) <| Ao rfl (.pickT (.t rfl) hb1 (.t rfl)) <| Ag rfl rfl <| WL.ns ?_
  cases hm
  exact W.ret1 () rfl (.t rfl) trivial
 ·refine Ap rfl hb1 <| Ap rfl hb1 <| Ap rfl hb1 <| Ap rfl hb1 <| Ap rfl hb1 <| Ap rfl hb1 <| Ao rfl (.pickF (.t rfl) hb1 .bool) <| Ag rfl rfl <| WL.ns ?_
  cases hm
  exact W.ret1 () rfl (.t rfl) trivial
theorem internal_stringslite_TrimPrefix_spec (s0_ : Str) (prefix0_ : Str) (r : Str) (hm : M.internal_stringslite_TrimPrefix s0_ prefix0_ = some r) : FSpec Tryz.prog 175 [(tS.is s0_), (tS.is prefix0_)] (tS.is r) := by
 unfold M.internal_stringslite_TrimPrefix at hm
 refine FSpec.of Tryz.func175 rfl rfl rfl fun g0 => Aw <| Ao rfl (.assign (.str rfl (by decide))) <| An <| W.seq <| Aw <| Am rfl rfl <| WL.mv rfl rfl ?_
 obtain ⟨haspre, hv1, hm⟩ := Bs hm
 refine Ao rfl (.call C138 (internal_stringslite_HasPrefix_spec _ _ _ hv1) ⟨(.t rfl), (.t rfl), trivial⟩) <| An <| W.cB hm (.t rfl) (fun hp3 hm => ?_) (fun hp3 hm => ?_)
 ·refine Aw <| Am rfl rfl <| Am rfl rfl <| Ao rfl (.lenS U9 (.t rfl)) ?_
  obtain ⟨v, hv4, hm⟩ := Bs hm
  refine Ao rfl (.sslcLo hv4 U9 (.t rfl) (.t rfl)) <| Ag rfl rfl <| WL.ns ?_
  cases hm
  exact W.ret1 () rfl (.t rfl) trivial
 ·refine W.skip <| Aq <| Aw <| Am rfl rfl <| Ag rfl rfl <| WL.ns ?_
  cases hm
  exact W.ret1 () rfl (.t rfl) trivial
theorem strings_TrimPrefix_spec (s0_ : Str) (prefix0_ : Str) (r : Str) (hm : M.strings_TrimPrefix s0_ prefix0_ = some r) : FSpec Tryz.prog 152 [(tS.is s0_), (tS.is prefix0_)] (tS.is r) := by
 unfold M.strings_TrimPrefix at hm
 refine FSpec.of Tryz.func152 rfl rfl rfl fun g0 => Aw <| Ao rfl (.assign (.str rfl (by decide))) <| Ar <| Am rfl rfl <| WL.mv rfl rfl ?_
 obtain ⟨trimpr, hv1, hm⟩ := Bs hm
 refine Ao rfl (.call C175 (internal_stringslite_TrimPrefix_spec _ _ _ hv1) ⟨(.t rfl), (.t rfl), trivial⟩) <| Ag rfl rfl <| WL.ns ?_
 cases hm
 exact W.ret1 () rfl (.t rfl) trivial
theorem strconv_Atoi_spec (s : Str) (r : Int × Bool) (hm : atoiB s = some r) : FSpecR Tryz.prog 153 [tS.is s] [(700008, GlI 8), (700009, GlI 9)] (fun _ : Unit => Asn.tuple2 (I6.is r.1) (tEb.is r.2)) (fun _ => []) :=
 atoiB_spec (fun s h v hv w => Tryz.strconv_Atoi_ok s h v hv w) (fun s h hv ev w h1 h2 => Tryz.strconv_Atoi_syntax s h hv ev w h1 h2) (fun s h hv ev w h1 h2 => Tryz.strconv_Atoi_range s h hv ev w h1 h2) _ _ s r hm
theorem markup_parseID_spec (s0_ : Str) (r : api_Id × Bool) (hm : M.markup_parseID s0_ = some r) : FSpecR Tryz.prog 113 [(tS.is s0_)] [(700003, GlE 3), (700007, GlT Tryz.prog "internal/strconv.uint64pow10" .u64 Lib.pow10Tab), (700008, GlI 8), (700009, GlI 9)] (fun _ : Unit => (Asn.tuple2 (tapi_Id.is r.1) (tB.is r.2))) (fun _ => []) := by
 unfold M.markup_parseID at hm
 refine FSpecR.of Tryz.func113 rfl rfl rfl fun g0 => Aw <| WL.opR rfl (OpR.alloc 2 ze23) fun b => Ao rfl (.assign .bool) <| Ar <| WL.mv rfl rfl ?_
 obtain ⟨trimpr, hv1, hm⟩ := Bs hm
 refine Ao rfl (.call C152 (strings_TrimPrefix_spec _ _ _ hv1) ⟨(.t rfl), (.str rfl (by decide)), trivial⟩) ?_
 obtain ⟨split, hv2, hm⟩ := Bs hm
 refine Ao rfl (.callG (rin := [(700003, GlE 3)]) C112 (strings_Split_spec _ _ _ hv2) ⟨rfl, trivial⟩ ⟨rfl, rfl, trivial⟩ ⟨(.t rfl), (.str rfl (by decide)), trivial⟩) <| Ag rfl rfl <| An <| W.seq <| Aw <| Am rfl rfl <| Ao rfl (.lenL U38 (.t rfl)) <| Ao rfl (.neI (.t rfl) .i64) <| An <| W.cD hm (.t rfl) (fun hp4 hm => ?_) (fun hp4 hm => ?_)
 ·refine Aw <| Ao rfl (.build (s := tapi_Id) (x := (⟨(0 : Int), (0 : Int), (0 : Int)⟩ : api_Id)) zapi_Id_f rfl U23 (zapi_Id_sz _ U23) ze23 rfl) <| WL.opU (OpR.storeB (b := b) 2 Z23 (Cellable.is tapi_Id (⟨(0 : Int), (0 : Int), (0 : Int)⟩ : api_Id)) rfl (.t rfl) (.t rfl)) fun _ => Ao rfl (.assign .bool) <| WL.ns ?_
  cases hm
  exact W.retQ2 () rfl rfl (ResAt.cell 2 Y23 Z23 rfl (.t rfl)) (ResAt.tmp (.t rfl)) trivial
 ·refine W.skip <| Aq <| Aw <| WL.opR rfl (OpR.alloc 5 ze202) fun b1 => An <| W.seq <| Aw <| Am rfl rfl <| Ao rfl (.lenL U38 (.t rfl)) <| Ao rfl (.move .i64) <| An <| W.block ?_
  obtain ⟨s5, hs6, hk7⟩ := Bs hm
  clear hm
  refine W.loop (fun m (s : Int × List Str × List Str × (api_Id × (List Int))) => m = s.2.2.1.length ∧ split = s.2.1 ++ s.2.2.1 ∧ s.1 = (s.2.1.length : Int) ∧ M.markup_parseID_loop1 s.2.2.1 s.1 s.2.2.2.1 s.2.2.2.2 = some s5) (fun s => [(20, (I6.is s.1)), (0, (tS.is s0_)), (2, (Bp b 0)), (5, (Bp b1 0)), (18, ((tL tS).is split)), (19, (I6.is (split.length : Int)))]) (fun s => [(2, (Bx 3 true 23 (tapi_Id.is s.2.2.2.1) b)), (5, (Bx 3 true 202 ((tA 3 I6).is s.2.2.2.2) b1)), (700003, GlE 3), (700007, GlT Tryz.prog "internal/strconv.uint64pow10" .u64 Lib.pow10Tab), (700008, GlI 8), (700009, GlI 9)]) split.length ((0 : Int), [], split, (zapi_Id, (List.replicate 3 (0 : Int)))) ⟨rfl, rfl, rfl, hs6⟩ ⟨.q rfl, .q rfl, .q rfl, .q rfl, .q rfl, .q rfl, trivial⟩ ⟨rfl, rfl, ⟨rfl, rfl, ⟨rfl, rfl, ⟨rfl, rfl, ⟨rfl, rfl, ⟨rfl, rfl, trivial⟩⟩⟩⟩⟩⟩ ?_
  rintro m ⟨i, pre, rest1, ⟨v, n0_⟩⟩ ⟨hn11, hxs8, hi9, hm⟩
  try dsimp only at hn11 hxs8 hi9 hm
  change W _ _ _ _ _ _ _ [(20, (I6.is i)), (0, (tS.is s0_)), (2, (Bp b 0)), (5, (Bp b1 0)), (18, ((tL tS).is split)), (19, (I6.is (split.length : Int)))] [(2, (Bx 3 true 23 (tapi_Id.is v) b)), (5, (Bx 3 true 202 ((tA 3 I6).is n0_) b1)), (700003, GlE 3), (700007, GlT Tryz.prog "internal/strconv.uint64pow10" .u64 Lib.pow10Tab), (700008, GlI 8), (700009, GlI 9)]
  refine W.lenL (s := 18) (.t rfl) fun hlen10 => Aw <| Ao rfl (.ltI (.t rfl) (.t rfl)) <| An <| W.seq <| W.cond (.t rfl) (fun hc13 => ?_) (fun hc13 => ?_)
  ·have hp14 := of_decide_eq_true hc13
   obtain ⟨e, es, hrest16⟩ := range_more hxs8 hi9 hp14
   subst hrest16
   rw [M.markup_parseID_loop1.eq_2] at hm
   refine W.skip <| Aq <| W.seq <| W.block <| Aw <| Am rfl rfl <| Ao rfl (.idxPre hxs8 hi9 U38 Z9 (.t rfl) (.t rfl)) <| Ao rfl (.load ty9 (.t rfl)) <| Ag rfl rfl <| Ag rfl rfl <| Ar <| WL.mv rfl rfl ?_
   obtain ⟨atoi, hv17, hm⟩ := Bs hm
   refine Ao rfl (.callG (rin := [(700008, GlI 8), (700009, GlI 9)]) C153 (strconv_Atoi_spec _ _ hv17) ⟨rfl, rfl, trivial⟩ ⟨rfl, rfl, ⟨rfl, rfl, trivial⟩⟩ ⟨(.t rfl), trivial⟩) <| Am rfl rfl <| Ao rfl (.extract0 (.t rfl)) <| Ao rfl (.extract1 (.t rfl)) <| Ag rfl rfl <| Ag rfl rfl <| An <| W.seq <| Aw <| Am rfl rfl <| Ao rfl (.neNilE Tryz.underlying108 (.t rfl)) <| An <| W.cB hm (.t rfl) (fun hp19 hm => ?_) (fun hp19 hm => ?_)
   ·refine Aw <| Ao rfl (.build (s := tapi_Id) (x := (⟨(0 : Int), (0 : Int), (0 : Int)⟩ : api_Id)) zapi_Id_f rfl U23 (zapi_Id_sz _ U23) ze23 rfl) <| WL.opU (OpR.storeB (b := b) 2 Z23 (Cellable.is tapi_Id (⟨(0 : Int), (0 : Int), (0 : Int)⟩ : api_Id)) rfl (.t rfl) (.t rfl)) fun _ => Ao rfl (.assign .bool) <| WL.ns ?_
    have hr20 := Si hm
    clear hm
    subst hr20
    have hm := hk7
    try dsimp only at hm
    cases hm
    exact W.retQ2 () rfl rfl (ResAt.cell 2 Y23 Z23 rfl (.t rfl)) (ResAt.tmp (.t rfl)) trivial
   ·refine W.skip <| Aq <| W.region <| Am rfl rfl <| WL.mv rfl rfl ?_
    obtain ⟨_, hv21, hm⟩ := Bs hm
    exact Ao rfl (.indexAddrB U202 Z3 (.t rfl) (.t rfl) (rngC_in hv21)) <| WL.opU (OpR.storeBF (b := b1) 5 rfl ty3 (FldSet.arr (rngC_nat hv21)) rfl (arr_le (rngC_nat hv21)) (.t rfl) (.t rfl)) fun _ => WL.nil <| WN.block <| Aq <| W.region <| Ao rfl (.addI (.t rfl) .i64 (range_inR hi9 hp14 hlen10)) <| Am rfl rfl <| WL.nil <| WN.again es.length (i + 1, pre ++ [e], es, (v, n0_.set i.toNat atoi.1)) (range_lt hn11) ⟨rfl, range_step hxs8, range_idx hi9, hm⟩ ⟨.q rfl, .q rfl, .q rfl, .q rfl, .q rfl, .q rfl, trivial⟩ ⟨rfl, rfl, ⟨rfl, rfl, ⟨rfl, rfl, ⟨rfl, rfl, ⟨rfl, rfl, ⟨rfl, rfl, trivial⟩⟩⟩⟩⟩⟩
  ·have hrest16 := range_end hxs8 hi9 (of_decide_eq_false hc13)
   subst hrest16
   rw [M.markup_parseID_loop1.eq_1] at hm
   refine W.exit rfl ?_
   have hr22 := Si hm
   clear hm
   subst hr22
   have hm := hk7
   try dsimp only at hm
   refine Aq <| W.sr ?_
   obtain ⟨_, hv23, hm⟩ := Bs hm
   refine Ao rfl (.indexAddrB U202 Z3 (.t rfl) .i64 (rngC_in hv23)) <| Ao rfl (.loadBF 5 rfl ty3 (Fld.arr (rngC_nat hv23) (0 : Int)) rfl (.t rfl)) ?_
   obtain ⟨_, hv24, hm⟩ := Bs hm
   refine Ao rfl (.indexAddrB U202 Z3 (.t rfl) .i64 (rngC_in hv24)) <| Ao rfl (.loadBF 5 rfl ty3 (Fld.arr (rngC_nat hv24) (0 : Int)) rfl (.t rfl)) ?_
   obtain ⟨_, hv25, hm⟩ := Bs hm
   refine Ao rfl (.indexAddrB U202 Z3 (.t rfl) .i64 (rngC_in hv25)) <| Ao rfl (.loadBF 5 rfl ty3 (Fld.arr (rngC_nat hv25) (0 : Int)) rfl (.t rfl)) <| Ao rfl (.build (s := tapi_Id) (x := (⟨(n0_[(0 : Int).toNat]?).getD (0 : Int), (n0_[(1 : Int).toNat]?).getD (0 : Int), (n0_[(2 : Int).toNat]?).getD (0 : Int)⟩ : api_Id)) zapi_Id_f rfl U23 (zapi_Id_sz _ U23) ze23 ⟨_, I6, ((n0_[(0 : Int).toNat]?).getD (0 : Int)), _, _, rfl, Z3, (.t rfl), sapi_Id_0, ⟨_, I6, ((n0_[(1 : Int).toNat]?).getD (0 : Int)), _, _, rfl, Z3, (.t rfl), sapi_Id_1, ⟨_, I6, ((n0_[(2 : Int).toNat]?).getD (0 : Int)), _, _, rfl, Z3, (.t rfl), sapi_Id_2, rfl⟩⟩⟩) <| WL.opR rfl (OpR.alloc 10 ze23) fun b2 => WL.opU (OpR.storeB (b := b2) 10 Z23 (Cellable.is tapi_Id (⟨(n0_[(0 : Int).toNat]?).getD (0 : Int), (n0_[(1 : Int).toNat]?).getD (0 : Int), (n0_[(2 : Int).toNat]?).getD (0 : Int)⟩ : api_Id)) rfl (.t rfl) (.t rfl)) fun _ => WL.sealed (t := tapi_Id) (u := (⟨(n0_[(0 : Int).toNat]?).getD (0 : Int), (n0_[(1 : Int).toNat]?).getD (0 : Int), (n0_[(2 : Int).toNat]?).getD (0 : Int)⟩ : api_Id)) 10 10 rfl rfl <| An <| W.seq ?_
   obtain ⟨validi, hv26, hm⟩ := Bs hm
   rcases iteB hm with ⟨hp28, hb27, hm⟩ | ⟨hp28, hb27, hm⟩
   ·obtain ⟨format, hv29, hm⟩ := Bs hm
    refine W.weakR (res' := [(2, (Bx 3 true 23 (tapi_Id.is v) b)), (5, (Bx 3 true 202 ((tA 3 I6).is n0_) b1)), (700003, GlE 3), (700007, GlT Tryz.prog "internal/strconv.uint64pow10" .u64 Lib.pow10Tab), (700008, GlI 8), (700009, GlI 9)]) ⟨rfl, rfl, ⟨rfl, rfl, ⟨rfl, rfl, ⟨rfl, rfl, ⟨rfl, rfl, ⟨rfl, rfl, trivial⟩⟩⟩⟩⟩⟩ <| W.drawM [.c (tapi_Id.is (⟨(n0_[(0 : Int).toNat]?).getD (0 : Int), (n0_[(1 : Int).toNat]?).getD (0 : Int), (n0_[(2 : Int).toNat]?).getD (0 : Int)⟩ : api_Id)), .c (tapi_Id.is (⟨(n0_[(0 : Int).toNat]?).getD (0 : Int), (n0_[(1 : Int).toNat]?).getD (0 : Int), (n0_[(2 : Int).toNat]?).getD (0 : Int)⟩ : api_Id)), .c (tB.is validi), .c (tB.is validi), .c (tapi_Id.is (⟨(n0_[(0 : Int).toNat]?).getD (0 : Int), (n0_[(1 : Int).toNat]?).getD (0 : Int), (n0_[(2 : Int).toNat]?).getD (0 : Int)⟩ : api_Id)), .c (tS.is format), .c (tS.is s0_), .c (tB.is (format == s0_)), .c (tB.is (format == s0_)), .c Asn.any, .c (tB.is (format == s0_))] [([], [10]), ([], [10]), ([1], []), ([2], []), ([3], [10]), ([3, 4], []), ([3], [0]), ([3, 5, 6], []), ([3, 7], []), ([0], [2]), ([8], [])] [9] [[], [], [], [], [], [], [], [], [], [], []] (fun m cv => match m with | 0 => [(2, (Bx 3 true 23 (tapi_Id.is v) b)), (5, (Bx 3 true 202 ((tA 3 I6).is n0_) b1)), (700003, GlE 3), (700007, GlT Tryz.prog "internal/strconv.uint64pow10" .u64 Lib.pow10Tab), (700008, GlI 8), (700009, GlI 9)] | _ => [(2, (Bx 3 true 23 (tapi_Id.is (⟨(n0_[(0 : Int).toNat]?).getD (0 : Int), (n0_[(1 : Int).toNat]?).getD (0 : Int), (n0_[(2 : Int).toNat]?).getD (0 : Int)⟩ : api_Id)) b)), (5, (Bx 3 true 202 ((tA 3 I6).is n0_) b1)), (700003, GlE 3), (700007, GlT Tryz.prog "internal/strconv.uint64pow10" .u64 Lib.pow10Tab), (700008, GlI 8), (700009, GlI 9)]) (fun _ => none) Mx rfl rfl rfl rfl rfl ⟨fun _ _ _ _ => rfl, ⟨fun _ _ _ _ => rfl, ⟨fun _ _ _ _ => rfl, ⟨fun _ _ _ _ => rfl, ⟨fun _ _ _ _ => rfl, ⟨fun _ _ _ _ => rfl, ⟨fun _ _ _ _ => rfl, ⟨fun _ _ _ _ => rfl, ⟨fun _ _ _ _ => rfl, ⟨fun _ _ _ _ => rfl, ⟨fun _ _ _ _ => rfl, trivial⟩⟩⟩⟩⟩⟩⟩⟩⟩⟩⟩ rfl ⟨mo fun cv => Op1.load ty23 (.t rfl), ⟨mo fun cv => Op1.load ty23 (.t rfl), ⟨mo fun cv => Op1.call C74 (markup_validID_spec _ _ hv26) ⟨(.t rfl), trivial⟩, ⟨mo fun cv => Op1.move (.t rfl), ⟨mo fun cv => (dr rfl rfl rfl hb27 (Op1.load ty23 (.t rfl))), ⟨.inr ⟨fun cv => [(700007, GlT Tryz.prog "internal/strconv.uint64pow10" .u64 Lib.pow10Tab)], (AllUpTo.at ⟨(fun _ _ => ⟨rfl, rfl, trivial⟩), (fun hw => absurd hw (by decide))⟩), fun cv => (dr rfl rfl rfl hb27 (Op1.callG (rin := [(700007, GlT Tryz.prog "internal/strconv.uint64pow10" .u64 Lib.pow10Tab)]) C64 (markup_formatID_spec _ _ hv29) ⟨rfl, trivial⟩ ⟨rfl, rfl, trivial⟩ ⟨(.t rfl), trivial⟩))⟩, ⟨mo fun cv => (dr rfl rfl rfl hb27 (Op1.move (.t rfl))), ⟨mo fun cv => (dr rfl rfl rfl hb27 (Op1.eqS (.t rfl) (.t rfl))), ⟨mo fun cv => Op1.pickT (.t rfl) hb27 (.t rfl), ⟨.inl rfl, ⟨mo fun cv => Op1.assign (.t rfl), trivial⟩⟩⟩⟩⟩⟩⟩⟩⟩⟩⟩ ⟨⟨_, _, _, [2], (fun cv => [(2, (Bx 3 true 23 (tapi_Id.is (⟨(n0_[(0 : Int).toNat]?).getD (0 : Int), (n0_[(1 : Int).toNat]?).getD (0 : Int), (n0_[(2 : Int).toNat]?).getD (0 : Int)⟩ : api_Id)) b))]), rfl, rfl, rfl, rfl, fun _ => rfl, fun _ _ => rfl, fun cv => OpR.viaU (OpR.storeB (b := b) 2 Z23 (Cellable.is tapi_Id (⟨(n0_[(0 : Int).toNat]?).getD (0 : Int), (n0_[(1 : Int).toNat]?).getD (0 : Int), (n0_[(2 : Int).toNat]?).getD (0 : Int)⟩ : api_Id)) rfl (.t rfl) (.t rfl))⟩, trivial⟩ fun cv => WN.seq ?_
    cases hm
    exact W.retQ2 () rfl rfl (ResAt.cell 2 Y23 Z23 rfl (.t rfl)) (ResAt.tmp (.t rfl)) trivial
   ·refine W.weakR (res' := [(2, (Bx 3 true 23 (tapi_Id.is v) b)), (5, (Bx 3 true 202 ((tA 3 I6).is n0_) b1)), (700003, GlE 3), (700007, GlT Tryz.prog "internal/strconv.uint64pow10" .u64 Lib.pow10Tab), (700008, GlI 8), (700009, GlI 9)]) ⟨rfl, rfl, ⟨rfl, rfl, ⟨rfl, rfl, ⟨rfl, rfl, ⟨rfl, rfl, ⟨rfl, rfl, trivial⟩⟩⟩⟩⟩⟩ <| W.drawM [.c (tapi_Id.is (⟨(n0_[(0 : Int).toNat]?).getD (0 : Int), (n0_[(1 : Int).toNat]?).getD (0 : Int), (n0_[(2 : Int).toNat]?).getD (0 : Int)⟩ : api_Id)), .c (tapi_Id.is (⟨(n0_[(0 : Int).toNat]?).getD (0 : Int), (n0_[(1 : Int).toNat]?).getD (0 : Int), (n0_[(2 : Int).toNat]?).getD (0 : Int)⟩ : api_Id)), .c (tB.is validi), .c (tB.is validi), .c Un, .c Un, .c Un, .c Un, .c (tB.is false), .c Asn.any, .c (tB.is false)] [([], [10]), ([], [10]), ([1], []), ([2], []), ([3], [10]), ([3, 4], []), ([3], [0]), ([3, 5, 6], []), ([3, 7], []), ([0], [2]), ([8], [])] [9] [[], [], [], [], [], [], [], [], [], [], []] (fun m cv => match m with | 0 => [(2, (Bx 3 true 23 (tapi_Id.is v) b)), (5, (Bx 3 true 202 ((tA 3 I6).is n0_) b1)), (700003, GlE 3), (700007, GlT Tryz.prog "internal/strconv.uint64pow10" .u64 Lib.pow10Tab), (700008, GlI 8), (700009, GlI 9)] | _ => [(2, (Bx 3 true 23 (tapi_Id.is (⟨(n0_[(0 : Int).toNat]?).getD (0 : Int), (n0_[(1 : Int).toNat]?).getD (0 : Int), (n0_[(2 : Int).toNat]?).getD (0 : Int)⟩ : api_Id)) b)), (5, (Bx 3 true 202 ((tA 3 I6).is n0_) b1)), (700003, GlE 3), (700007, GlT Tryz.prog "internal/strconv.uint64pow10" .u64 Lib.pow10Tab), (700008, GlI 8), (700009, GlI 9)]) (fun _ => none) Mx rfl rfl rfl rfl rfl ⟨fun _ _ _ _ => rfl, ⟨fun _ _ _ _ => rfl, ⟨fun _ _ _ _ => rfl, ⟨fun _ _ _ _ => rfl, ⟨fun _ _ _ _ => rfl, ⟨fun _ _ _ _ => rfl, ⟨fun _ _ _ _ => rfl, ⟨fun _ _ _ _ => rfl, ⟨fun _ _ _ _ => rfl, ⟨fun _ _ _ _ => rfl, ⟨fun _ _ _ _ => rfl, trivial⟩⟩⟩⟩⟩⟩⟩⟩⟩⟩⟩ rfl ⟨mo fun cv => Op1.load ty23 (.t rfl), ⟨mo fun cv => Op1.load ty23 (.t rfl), ⟨mo fun cv => Op1.call C74 (markup_validID_spec _ _ hv26) ⟨(.t rfl), trivial⟩, ⟨mo fun cv => Op1.move (.t rfl), ⟨mo fun cv => (dp rfl rfl rfl hb27), ⟨mo fun cv => (dp rfl rfl rfl hb27), ⟨mo fun cv => (dp rfl rfl rfl hb27), ⟨mo fun cv => (dp rfl rfl rfl hb27), ⟨mo fun cv => Op1.pickF (.t rfl) hb27 .bool, ⟨.inl rfl, ⟨mo fun cv => Op1.assign (.t rfl), trivial⟩⟩⟩⟩⟩⟩⟩⟩⟩⟩⟩ ⟨⟨_, _, _, [2], (fun cv => [(2, (Bx 3 true 23 (tapi_Id.is (⟨(n0_[(0 : Int).toNat]?).getD (0 : Int), (n0_[(1 : Int).toNat]?).getD (0 : Int), (n0_[(2 : Int).toNat]?).getD (0 : Int)⟩ : api_Id)) b))]), rfl, rfl, rfl, rfl, fun _ => rfl, fun _ _ => rfl, fun cv => OpR.viaU (OpR.storeB (b := b) 2 Z23 (Cellable.is tapi_Id (⟨(n0_[(0 : Int).toNat]?).getD (0 : Int), (n0_[(1 : Int).toNat]?).getD (0 : Int), (n0_[(2 : Int).toNat]?).getD (0 : Int)⟩ : api_Id)) rfl (.t rfl) (.t rfl))⟩, trivial⟩ fun cv => WN.seq ?_
    cases hm
    exact W.retQ2 () rfl rfl (ResAt.cell 2 Y23 Z23 rfl (.t rfl)) (ResAt.tmp (.t rfl)) trivial
theorem markup_parseFront_spec (n : Nat) (s0_ : Str) (t : api_TrackedUnit) (b : Nat) (r : Bool × api_TrackedUnit) (hm : M.markup_parseFront n s0_ t = some r) : FSpecR Tryz.prog 72 [(tS.is s0_), (Bp b 0)] [(1, (Bx 11 true 33 ((tapi_TrackedUnit_k8 none).is t) b)), (700002, Gl (tA 8 tS) 2 gv2), (700003, GlE 3), (700007, GlT Tryz.prog "internal/strconv.uint64pow10" .u64 Lib.pow10Tab), (700008, GlI 8), (700009, GlI 9)] (fun kx : Unit => (tB.is r.1)) (fun kx : Unit => [(1, (Bx 11 true 33 ((tapi_TrackedUnit_k8 none).is r.2) b)), (700002, Gl (tA 8 tS) 2 gv2), (700003, GlE 3), (700007, GlT Tryz.prog "internal/strconv.uint64pow10" .u64 Lib.pow10Tab), (700008, GlI 8), (700009, GlI 9)]) := by
 unfold M.markup_parseFront at hm
 refine FSpecR.of Tryz.func72 rfl rfl rfl fun g0 => Aw <| Ao rfl (.assign .bool) <| Ar <| WL.mv rfl rfl ?_
 obtain ⟨split, hv1, hm⟩ := Bs hm
 refine Ao rfl (.callG (rin := [(700003, GlE 3)]) C112 (strings_Split_spec _ _ _ hv1) ⟨rfl, trivial⟩ ⟨rfl, rfl, trivial⟩ ⟨(.t rfl), (.str rfl (by decide)), trivial⟩) <| Ag rfl rfl <| Ar <| Am rfl rfl <| Am rfl rfl <| Ao rfl (.lenL U38 (.t rfl)) ?_
 obtain ⟨v, hv2, hm⟩ := Bs hm
 refine Ao rfl (.subC hv2 (.t rfl) .i64) ?_
 obtain ⟨v1, hv3, hm⟩ := Bs hm
 refine Ao rfl (.idx hv3 U38 Z9 (.t rfl) (.t rfl)) <| Ao rfl (.load ty9 (.t rfl)) ?_
 obtain ⟨parsei, hv4, hm⟩ := Bs hm
 refine Ao rfl (.callG (rin := [(700003, GlE 3), (700007, GlT Tryz.prog "internal/strconv.uint64pow10" .u64 Lib.pow10Tab), (700008, GlI 8), (700009, GlI 9)]) C113 (markup_parseID_spec _ _ hv4) ⟨rfl, rfl, rfl, rfl, trivial⟩ ⟨rfl, rfl, ⟨rfl, rfl, ⟨rfl, rfl, ⟨rfl, rfl, trivial⟩⟩⟩⟩ ⟨(.t rfl), trivial⟩) <| Am rfl rfl <| Ao rfl (.extract0 (.t rfl)) <| Ao rfl (.extract1 (.t rfl)) <| WL.opR rfl (OpR.alloc 6 ze23) fun b1 => WL.opU (OpR.storeB (b := b1) 6 Z23 (Cellable.is tapi_Id parsei.1) rfl (.t rfl) (.t rfl)) fun _ => WL.sealed (t := tapi_Id) (u := parsei.1) 6 6 rfl rfl <| Ag rfl rfl <| An <| W.seq <| Aw <| Am rfl rfl <| Ao rfl (.notB (.t rfl)) <| An <| W.cR hm (.t rfl) (fun hp6 hm => ?_) (fun hp6 hm => ?_)
 ·refine Aw <| Ao rfl (.assign .bool) <| WL.ns ?_
  cases hm
  exact W.ret1 () rfl (.t rfl) ⟨rfl, rfl, ⟨rfl, rfl, ⟨rfl, rfl, ⟨rfl, rfl, ⟨rfl, rfl, ⟨rfl, rfl, trivial⟩⟩⟩⟩⟩⟩
 ·refine W.skip <| Aq <| Aw <| Am rfl rfl <| Ao rfl (.load ty23 (.t rfl)) <| Ao rfl (.nilCheckB (.t rfl)) <| Ao rfl (.fieldAddrB (o := 0) U33 rfl J23 (.t rfl) rfl) <| WL.opU (OpR.storeBF (b := b) 1 rfl ty23 (sapi_TrackedUnit_k8_2 none) rfl (show 2 + 3 ≤ 11 by decide) (.t rfl) (.t rfl)) fun _ => Ar <| Am rfl rfl <| Am rfl rfl <| Ao rfl (.lenL U38 (.t rfl)) ?_
  obtain ⟨v2, hv7, hm⟩ := Bs hm
  refine Ao rfl (.subC hv7 (.t rfl) .i64) ?_
  obtain ⟨v3, hv8, hm⟩ := Bs hm
  refine Ao rfl (.slcHi hv8 U38 Z9 (.t rfl) (.t rfl)) <| Ag rfl rfl <| An <| W.seq <| Aw <| Ao rfl (.assign .i64) <| An <| W.block ?_
  obtain ⟨s9, hs10, hk11⟩ := Bs hm
  clear hm
  refine W.loop (fun m (s : Int × api_TrackedUnit) => M.markup_parseFront_loop1 v3 m s.1 s.2 = some s9) (fun s => [(8, (I6.is s.1)), (1, (Bp b 0)), (5, ((tL tS).is v3))]) (fun s => [(1, (Bx 11 true 33 ((tapi_TrackedUnit_k8 none).is s.2) b)), (700002, Gl (tA 8 tS) 2 gv2), (700003, GlE 3), (700007, GlT Tryz.prog "internal/strconv.uint64pow10" .u64 Lib.pow10Tab), (700008, GlI 8), (700009, GlI 9)]) _ ((0 : Int), ({ t with Id := parsei.1 } : api_TrackedUnit)) hs10 ⟨.q rfl, .q rfl, .q rfl, trivial⟩ ⟨rfl, rfl, ⟨rfl, rfl, ⟨rfl, rfl, ⟨rfl, rfl, ⟨rfl, rfl, ⟨rfl, rfl, trivial⟩⟩⟩⟩⟩⟩ ?_
  rintro n12 ⟨kind, t1⟩ hm
  try dsimp only at hm
  change W _ _ _ _ _ _ _ [(8, (I6.is kind)), (1, (Bp b 0)), (5, ((tL tS).is v3))] [(1, (Bx 11 true 33 ((tapi_TrackedUnit_k8 none).is t1) b)), (700002, Gl (tA 8 tS) 2 gv2), (700003, GlE 3), (700007, GlT Tryz.prog "internal/strconv.uint64pow10" .u64 Lib.pow10Tab), (700008, GlI 8), (700009, GlI 9)]
  cases n12 with
  | zero => rw [M.markup_parseFront_loop1.eq_1] at hm; cases hm
  | succ n12 =>
   rw [M.markup_parseFront_loop1.eq_2] at hm
   refine W.seq ?_
   obtain ⟨s13, hs14, hk15⟩ := Bs hm
   clear hm
   refine W.join (fun s : Bool => s = s13) (fun s => [(38, (tB.is s)), (1, (Bp b 0)), (5, ((tL tS).is v3)), (8, (I6.is kind))]) (fun s => [(1, (Bx 11 true 33 ((tapi_TrackedUnit_k8 none).is t1) b)), (700002, Gl (tA 8 tS) 2 gv2), (700003, GlE 3), (700007, GlT Tryz.prog "internal/strconv.uint64pow10" .u64 Lib.pow10Tab), (700008, GlI 8), (700009, GlI 9)]) ?_ ?_
   ·rintro v4 hj44
    try dsimp only at hj44
    subst hj44
    have hm := hk15
    clear hk15
    try dsimp only at hm
    change W _ _ _ _ _ _ _ [(38, (tB.is v4)), (1, (Bp b 0)), (5, ((tL tS).is v3)), (8, (I6.is kind))] [(1, (Bx 11 true 33 ((tapi_TrackedUnit_k8 none).is t1) b)), (700002, Gl (tA 8 tS) 2 gv2), (700003, GlE 3), (700007, GlT Tryz.prog "internal/strconv.uint64pow10" .u64 Lib.pow10Tab), (700008, GlI 8), (700009, GlI 9)]
    refine W.cB hm (.t rfl) (fun hp19 hm => ?_) (fun hp19 hm => ?_)
    ·refine W.skip <| Aq <| W.seq <| W.block <| W.seq ?_
     obtain ⟨kindna, hv20, hm⟩ := Bs hm
     obtain ⟨v5, hv21, hm⟩ := Bs hm
     refine W.draw [.c _, .c _, .c _, .c _, .c _, .c _] [([], [8]), ([0], []), ([], [5]), ([2], []), ([3], []), ([1, 4], [])] Mx rfl rfl rfl rfl ⟨Dn (.move (.t rfl)), Dn (.callG (rin := [(700002, Gl (tA 8 tS) 2 gv2)]) C65 (unit_KindName_spec _ _ hv20) ⟨rfl, trivial⟩ ⟨rfl, rfl, trivial⟩ ⟨(.t rfl), trivial⟩), Dn (.move (.t rfl)), Dn (.idx hv21 U38 Z9 (.t rfl) .i64), Dn (.load ty9 (.t rfl)), Dn (.eqS (.t rfl) (.t rfl)), trivial⟩ <| Aq <| W.cB hm (.t rfl) (fun hp23 hm => ?_) (fun hp23 hm => ?_)
     ·refine W.region <| Am rfl rfl <| Am rfl rfl <| Ao rfl (.nilCheckB (.t rfl)) <| Ao rfl (.fieldAddrB (o := 0) U33 rfl J3 (.t rfl) rfl) <| WL.opU (OpR.storeBF (b := b) 1 rfl ty3 (sapi_TrackedUnit_k8_1 none) rfl (show 1 + 1 ≤ 11 by decide) (.t rfl) (.t rfl)) fun _ => WL.nil <| WN.block <| Aq <| W.region <| WL.mv rfl rfl ?_
      obtain ⟨v6, hv24, hm⟩ := Bs hm
      exact Ao rfl (.addC hv24 (.t rfl) .i64) <| Ag rfl rfl <| WL.nil <| WN.again n12 (v6, ({ t1 with Kind := kind } : api_TrackedUnit)) (Nat.lt_succ_self n12) hm ⟨.q rfl, .q rfl, .q rfl, trivial⟩ ⟨rfl, rfl, ⟨rfl, rfl, ⟨rfl, rfl, ⟨rfl, rfl, ⟨rfl, rfl, ⟨rfl, rfl, trivial⟩⟩⟩⟩⟩⟩
     ·refine W.skip <| WN.block <| Aq <| W.region <| WL.mv rfl rfl ?_
      obtain ⟨v7, hv25, hm⟩ := Bs hm
      exact Ao rfl (.addC hv25 (.t rfl) .i64) <| Ag rfl rfl <| WL.nil <| WN.again n12 (v7, t1) (Nat.lt_succ_self n12) hm ⟨.q rfl, .q rfl, .q rfl, trivial⟩ ⟨rfl, rfl, ⟨rfl, rfl, ⟨rfl, rfl, ⟨rfl, rfl, ⟨rfl, rfl, ⟨rfl, rfl, trivial⟩⟩⟩⟩⟩⟩
    ·refine W.exit rfl ?_
     have hr26 := Si hm
     clear hm
     subst hr26
     have hm := hk11
     try dsimp only at hm
     refine Aq <| W.seq <| W.block ?_
     obtain ⟨s27, hs28, hk29⟩ := Bs hm
     clear hm
     refine W.join (fun s : Bool => s = s27) (fun s => [(51, (tB.is s)), (1, (Bp b 0)), (5, ((tL tS).is v3))]) (fun s => [(1, (Bx 11 true 33 ((tapi_TrackedUnit_k8 none).is t1) b)), (700002, Gl (tA 8 tS) 2 gv2), (700003, GlE 3), (700007, GlT Tryz.prog "internal/strconv.uint64pow10" .u64 Lib.pow10Tab), (700008, GlI 8), (700009, GlI 9)]) ?_ ?_
     ·rintro v8 hj43
      try dsimp only at hj43
      subst hj43
      have hm := hk29
      clear hk29
      try dsimp only at hm
      change W _ _ _ _ _ _ _ [(51, (tB.is v8)), (1, (Bp b 0)), (5, ((tL tS).is v3))] [(1, (Bx 11 true 33 ((tapi_TrackedUnit_k8 none).is t1) b)), (700002, Gl (tA 8 tS) 2 gv2), (700003, GlE 3), (700007, GlT Tryz.prog "internal/strconv.uint64pow10" .u64 Lib.pow10Tab), (700008, GlI 8), (700009, GlI 9)]
      refine W.cB hm (.t rfl) (fun hp34 hm => ?_) (fun hp34 hm => ?_)
      ·refine W.region <| Am rfl rfl <| WL.mv rfl rfl ?_
       obtain ⟨v10, hv35, hm⟩ := Bs hm
       refine Ao rfl (.idx hv35 U38 Z9 (.t rfl) .i64) <| Ao rfl (.load ty9 (.t rfl)) <| Ao rfl (.nilCheckB (.t rfl)) <| Ao rfl (.fieldAddrB (o := 0) U33 rfl J9 (.t rfl) rfl) <| WL.opU (OpR.storeBF (b := b) 1 rfl ty9 (sapi_TrackedUnit_k8_4 none) rfl (show 6 + 1 ≤ 11 by decide) (.t rfl) (.t rfl)) fun _ => WL.nil <| WN.block <| Aq <| Aw <| Ao rfl (.assign .bool) <| WL.ns ?_
       cases hm
       exact W.ret1 () rfl (.t rfl) ⟨rfl, rfl, ⟨rfl, rfl, ⟨rfl, rfl, ⟨rfl, rfl, ⟨rfl, rfl, ⟨rfl, rfl, trivial⟩⟩⟩⟩⟩⟩
      ·refine Aw <| Am rfl rfl <| Ao rfl (.lenL U38 (.t rfl)) <| Ao rfl (.eqI (.t rfl) .i64) <| Ag rfl rfl <| An <| W.cD hm (.t rfl) (fun hp37 hm => ?_) (fun hp37 hm => ?_)
       ·obtain ⟨v11, hv38, hm⟩ := Bs hm
        obtain ⟨v12, hv39, hm⟩ := Bs hm
        refine W.weakR (res' := [(1, (Bx 11 true 33 ((tapi_TrackedUnit_k8 none).is t1) b)), (700002, Gl (tA 8 tS) 2 gv2), (700003, GlE 3), (700007, GlT Tryz.prog "internal/strconv.uint64pow10" .u64 Lib.pow10Tab), (700008, GlI 8), (700009, GlI 9)]) ⟨rfl, rfl, ⟨rfl, rfl, ⟨rfl, rfl, ⟨rfl, rfl, ⟨rfl, rfl, ⟨rfl, rfl, trivial⟩⟩⟩⟩⟩⟩ <| W.drawM [.c (Bp b 0), .c (Bp b 0), .c ((tL tS).is v3), .c (tS.ptr v11), .c (tS.is v11), .c ((tL tS).is v3), .c (tS.ptr v12), .c (tS.is v12), .c (Bp b 0), .c (Bp b 5), .c Asn.any, .c (Bp b 0), .c (Bp b 6), .c Asn.any] [([], [1]), ([], [1]), ([], [5]), ([2], []), ([3], []), ([], [5]), ([5], []), ([6], []), ([0], []), ([8], []), ([4, 9], []), ([1], []), ([11], []), ([7, 12], [])] [10, 13] [[], [], [], [], [], [], [], [], [], [], [], [], [], []] (fun m cv => match m with | 0 => [(1, (Bx 11 true 33 ((tapi_TrackedUnit_k8 none).is t1) b)), (700002, Gl (tA 8 tS) 2 gv2), (700003, GlE 3), (700007, GlT Tryz.prog "internal/strconv.uint64pow10" .u64 Lib.pow10Tab), (700008, GlI 8), (700009, GlI 9)] | 1 => [(1, (Bx 11 true 33 ((tapi_TrackedUnit_k8 none).is ({ t1 with Label := v11 } : api_TrackedUnit)) b)), (700002, Gl (tA 8 tS) 2 gv2), (700003, GlE 3), (700007, GlT Tryz.prog "internal/strconv.uint64pow10" .u64 Lib.pow10Tab), (700008, GlI 8), (700009, GlI 9)] | _ => [(1, (Bx 11 true 33 ((tapi_TrackedUnit_k8 none).is ({ ({ t1 with Label := v11 } : api_TrackedUnit) with Was := v12 } : api_TrackedUnit)) b)), (700002, Gl (tA 8 tS) 2 gv2), (700003, GlE 3), (700007, GlT Tryz.prog "internal/strconv.uint64pow10" .u64 Lib.pow10Tab), (700008, GlI 8), (700009, GlI 9)]) (fun _ => none) Mx rfl rfl rfl rfl rfl ⟨fun _ _ _ _ => rfl, ⟨fun _ _ _ _ => rfl, ⟨fun _ _ _ _ => rfl, ⟨fun _ _ _ _ => rfl, ⟨fun _ _ _ _ => rfl, ⟨fun _ _ _ _ => rfl, ⟨fun _ _ _ _ => rfl, ⟨fun _ _ _ _ => rfl, ⟨fun _ _ _ _ => rfl, ⟨fun _ _ _ _ => rfl, ⟨fun _ _ _ _ => rfl, ⟨fun _ _ _ _ => rfl, ⟨fun _ _ _ _ => rfl, ⟨fun _ _ _ _ => rfl, trivial⟩⟩⟩⟩⟩⟩⟩⟩⟩⟩⟩⟩⟩⟩ rfl ⟨mo fun cv => Op1.move (.t rfl), ⟨mo fun cv => Op1.move (.t rfl), ⟨mo fun cv => Op1.move (.t rfl), ⟨mo fun cv => Op1.idx hv38 U38 Z9 (.t rfl) .i64, ⟨mo fun cv => Op1.load ty9 (.t rfl), ⟨mo fun cv => Op1.move (.t rfl), ⟨mo fun cv => Op1.idx hv39 U38 Z9 (.t rfl) .i64, ⟨mo fun cv => Op1.load ty9 (.t rfl), ⟨mo fun cv => Op1.nilCheckB (.t rfl), ⟨mo fun cv => Op1.fieldAddrB (o := 0) U33 rfl J9 (.t rfl) rfl, ⟨.inl rfl, ⟨mo fun cv => Op1.nilCheckB (.t rfl), ⟨mo fun cv => Op1.fieldAddrB (o := 0) U33 rfl J9 (.t rfl) rfl, ⟨.inl rfl, trivial⟩⟩⟩⟩⟩⟩⟩⟩⟩⟩⟩⟩⟩⟩ ⟨⟨_, _, _, [1], (fun cv => [(1, (Bx 11 true 33 ((tapi_TrackedUnit_k8 none).is ({ t1 with Label := v11 } : api_TrackedUnit)) b))]), rfl, rfl, rfl, rfl, fun _ => rfl, fun _ _ => rfl, fun cv => OpR.viaU (OpR.storeBF (b := b) 1 rfl ty9 (sapi_TrackedUnit_k8_3 none) rfl (show 5 + 1 ≤ 11 by decide) (.t rfl) (.t rfl))⟩, ⟨⟨_, _, _, [1], (fun cv => [(1, (Bx 11 true 33 ((tapi_TrackedUnit_k8 none).is ({ ({ t1 with Label := v11 } : api_TrackedUnit) with Was := v12 } : api_TrackedUnit)) b))]), rfl, rfl, rfl, rfl, fun _ => rfl, fun _ _ => rfl, fun cv => OpR.viaU (OpR.storeBF (b := b) 1 rfl ty9 (sapi_TrackedUnit_k8_4 none) rfl (show 6 + 1 ≤ 11 by decide) (.t rfl) (.t rfl))⟩, trivial⟩⟩ fun cv => WN.block <| Aq <| Aw <| Ao rfl (.assign .bool) <| WL.ns ?_
        cases hm
        exact W.ret1 () rfl (.t rfl) ⟨rfl, rfl, ⟨rfl, rfl, ⟨rfl, rfl, ⟨rfl, rfl, ⟨rfl, rfl, ⟨rfl, rfl, trivial⟩⟩⟩⟩⟩⟩
       ·refine Aw <| Am rfl rfl <| Ao rfl (.lenL U38 (.t rfl)) <| Ao rfl (.eqI (.t rfl) .i64) <| Ag rfl rfl <| An <| W.cD hm (.t rfl) (fun hp41 hm => ?_) (fun hp41 hm => ?_)
        ·refine W.region <| Am rfl rfl <| WL.mv rfl rfl ?_
         obtain ⟨v13, hv42, hm⟩ := Bs hm
         refine Ao rfl (.idx hv42 U38 Z9 (.t rfl) .i64) <| Ao rfl (.load ty9 (.t rfl)) <| Ao rfl (.nilCheckB (.t rfl)) <| Ao rfl (.fieldAddrB (o := 0) U33 rfl J9 (.t rfl) rfl) <| WL.opU (OpR.storeBF (b := b) 1 rfl ty9 (sapi_TrackedUnit_k8_3 none) rfl (show 5 + 1 ≤ 11 by decide) (.t rfl) (.t rfl)) fun _ => WL.nil <| WN.block <| Aq <| Aw <| Ao rfl (.assign .bool) <| WL.ns ?_
         cases hm
         exact W.ret1 () rfl (.t rfl) ⟨rfl, rfl, ⟨rfl, rfl, ⟨rfl, rfl, ⟨rfl, rfl, ⟨rfl, rfl, ⟨rfl, rfl, trivial⟩⟩⟩⟩⟩⟩
        ·refine W.skip <| WN.block <| Aq <| Aw <| Ao rfl (.assign .bool) <| WL.ns ?_
         cases hm
         exact W.ret1 () rfl (.t rfl) ⟨rfl, rfl, ⟨rfl, rfl, ⟨rfl, rfl, ⟨rfl, rfl, ⟨rfl, rfl, ⟨rfl, rfl, trivial⟩⟩⟩⟩⟩⟩
     ·have hm := hs28
      clear hs28
      refine W.region <| Am rfl rfl <| Ao rfl (.lenL U38 (.t rfl)) <| Ao rfl (.eqI (.t rfl) .i64) <| WL.mv rfl rfl ?_
      rcases iteD hm with ⟨hp31, hb30, hm⟩ | ⟨hp31, hb30, hm⟩
      ·refine Ax rfl hb30 (.move (.t rfl)) ?_
       obtain ⟨v9, hv32, hm⟩ := Bs hm
       exact Ax rfl hb30 (.idx hv32 U38 Z9 (.t rfl) .i64) <| Ax rfl hb30 (.load ty9 (.t rfl)) <| Ax rfl hb30 (.eqS (.t rfl) (.str rfl (by decide))) <| Ao rfl (.pickT (.t rfl) hb30 (.t rfl)) <| Ag rfl rfl <| WL.nil <| WN.meet (v9 == ([119, 97, 115] : Str)) (Si hm) ⟨.q rfl, .q rfl, .q rfl, trivial⟩ ⟨rfl, rfl, ⟨rfl, rfl, ⟨rfl, rfl, ⟨rfl, rfl, ⟨rfl, rfl, ⟨rfl, rfl, trivial⟩⟩⟩⟩⟩⟩
      ·exact Ap rfl hb30 <| Ap rfl hb30 <| Ap rfl hb30 <| Ap rfl hb30 <| Ao rfl (.pickF (.t rfl) hb30 .bool) <| Ag rfl rfl <| WL.nil <| WN.meet false (Si hm) ⟨.q rfl, .q rfl, .q rfl, trivial⟩ ⟨rfl, rfl, ⟨rfl, rfl, ⟨rfl, rfl, ⟨rfl, rfl, ⟨rfl, rfl, ⟨rfl, rfl, trivial⟩⟩⟩⟩⟩⟩
   ·have hm := hs14
    clear hs14
    refine W.region <| Am rfl rfl <| Ao rfl (.leI (.t rfl) .i64) <| WL.mv rfl rfl ?_
    rcases iteD hm with ⟨hp17, hb16, hm⟩ | ⟨hp17, hb16, hm⟩
    ·exact Ax rfl hb16 (.move (.t rfl)) <| Ax rfl hb16 (.lenL U38 (.t rfl)) <| Ax rfl hb16 (.gtI (.t rfl) .i64) <| Ao rfl (.pickT (.t rfl) hb16 (.t rfl)) <| WL.nil <| WN.meet (decide ((0 : Int) < (v3.length : Int))) (Si hm) ⟨.q rfl, .q rfl, .q rfl, .q rfl, trivial⟩ ⟨rfl, rfl, ⟨rfl, rfl, ⟨rfl, rfl, ⟨rfl, rfl, ⟨rfl, rfl, ⟨rfl, rfl, trivial⟩⟩⟩⟩⟩⟩
    ·exact Ap rfl hb16 <| Ap rfl hb16 <| Ap rfl hb16 <| Ao rfl (.pickF (.t rfl) hb16 .bool) <| WL.nil <| WN.meet false (Si hm) ⟨.q rfl, .q rfl, .q rfl, .q rfl, trivial⟩ ⟨rfl, rfl, ⟨rfl, rfl, ⟨rfl, rfl, ⟨rfl, rfl, ⟨rfl, rfl, ⟨rfl, rfl, trivial⟩⟩⟩⟩⟩⟩
theorem markup_unescape_spec (s0_ : Str) (r : Str × Bool) (hm : M.markup_unescape s0_ = some r) : FSpecR Tryz.prog 114 [(tS.is s0_)] [(700003, GlE 3)] (fun _ : Unit => (Asn.tuple2 (tS.is r.1) (tB.is r.2))) (fun _ => []) := by
 unfold M.markup_unescape at hm
 refine FSpecR.of Tryz.func114 rfl rfl rfl fun g0 => Aw <| Ao rfl (.assign (.str rfl (by decide))) <| Ao rfl (.assign .bool) <| An <| W.seq <| Aw <| Am rfl rfl <| Ao rfl (.eqS (.t rfl) (.str rfl (by decide))) <| An <| W.cB hm (.t rfl) (fun hp2 hm => ?_) (fun hp2 hm => ?_)
 ·refine Aw <| Ao rfl (.assign (.str rfl (by decide))) <| Ao rfl (.assign .bool) <| WL.ns ?_
  cases hm
  exact W.ret2 () rfl rfl (.t rfl) (.t rfl) trivial
 ·refine W.skip <| Aq <| W.seq ?_
  obtain ⟨s3, hs4, hk5⟩ := Bs hm
  clear hm
  refine W.join (fun s : Bool => s = s3) (fun s => [(18, (tB.is s)), (0, (tS.is s0_))]) (fun s => [(700003, GlE 3)]) ?_ ?_
  ·rintro v hj18
   try dsimp only at hj18
   subst hj18
   have hm := hk5
   clear hk5
   try dsimp only at hm
   change W _ _ _ _ _ _ _ [(18, (tB.is v)), (0, (tS.is s0_))] [(700003, GlE 3)]
   refine W.cB hm (.t rfl) (fun hp14 hm => ?_) (fun hp14 hm => ?_)
   ·refine Aw <| WL.mv rfl rfl ?_
    obtain ⟨v2, hv15, hm⟩ := Bs hm
    refine Ao rfl (.sslcLo hv15 U9 (.t rfl) .i64) <| Ag rfl rfl <| Ao rfl (.assign .bool) <| WL.ns ?_
    cases hm
    exact W.ret2 () rfl rfl (.t rfl) (.t rfl) trivial
   ·refine W.skip <| Aq <| Aw <| Am rfl rfl <| WL.mv rfl rfl ?_
    obtain ⟨v3, hv16, hm⟩ := Bs hm
    refine Ao rfl (.sslcHi hv16 U9 (.t rfl) .i64) ?_
    obtain ⟨contai1, hv17, hm⟩ := Bs hm
    refine Ao rfl (.callG (rin := [(700003, GlE 3)]) C117 (strings_Contains_spec _ _ _ hv17) ⟨rfl, trivial⟩ ⟨rfl, rfl, trivial⟩ ⟨(.str rfl (by decide)), (.t rfl), trivial⟩) <| Ao rfl (.notB (.t rfl)) <| Ag rfl rfl <| Ag rfl rfl <| WL.ns ?_
    cases hm
    exact W.ret2 () rfl rfl (.t rfl) (.t rfl) trivial
  ·have hm := hs4
   clear hs4
   refine W.region <| WL.mv rfl rfl ?_
   obtain ⟨b, hv6, hm⟩ := Bs hm
   refine Ao rfl (.sidx hv6 U9 (.t rfl) .i64) <| Ao rfl (.eqI (.t rfl) (.int (inR8.2 (by omega)))) <| WL.mv rfl rfl ?_
   rcases iteD hm with ⟨hp8, hb7, hm⟩ | ⟨hp8, hb7, hm⟩
   ·refine Ax rfl hb7 (.move (.t rfl)) <| Ax rfl hb7 (.lenS U9 (.t rfl)) <| Ax rfl hb7 (.gtI (.t rfl) .i64) <| Ao rfl (.pickT (.t rfl) hb7 (.t rfl)) <| WL.mv rfl rfl ?_
    rcases iteD hm with ⟨hp10, hb9, hm⟩ | ⟨hp10, hb9, hm⟩
    ·refine Ax rfl hb9 (.move (.t rfl)) ?_
     obtain ⟨v1, hv11, hm⟩ := Bs hm
     refine Ax rfl hb9 (.sslc hv11 U9 (.t rfl) .i64 .i64) ?_
     obtain ⟨contai, hv12, hm⟩ := Bs hm
     exact Ax rfl hb9 (.callG (rin := [(700003, GlE 3)]) C117 (strings_Contains_spec _ _ _ hv12) ⟨rfl, trivial⟩ ⟨rfl, rfl, trivial⟩ ⟨(.str rfl (by decide)), (.t rfl), trivial⟩) <| Ao rfl (.pickT (.t rfl) hb9 (.t rfl)) <| WL.nil <| WN.meet contai (Si hm) ⟨.q rfl, .q rfl, trivial⟩ ⟨rfl, rfl, trivial⟩
    ·exact Ap rfl hb9 <| Ap rfl hb9 <| Ap rfl hb9 <| Ao rfl (.pickF (.t rfl) hb9 .bool) <| WL.nil <| WN.meet false (Si hm) ⟨.q rfl, .q rfl, trivial⟩ ⟨rfl, rfl, trivial⟩
   ·exact Ap rfl hb7 <| Ap rfl hb7 <| Ap rfl hb7 <| Ao rfl (.pickF (.t rfl) hb7 .bool) <| Am rfl rfl <| Ap rfl rfl <| Ap rfl rfl <| Ap rfl rfl <| Ao rfl (.pickF (.t rfl) rfl .bool) <| WL.nil <| WN.meet false (Si hm) ⟨.q rfl, .q rfl, trivial⟩ ⟨rfl, rfl, trivial⟩
theorem markup_ParseWords_spec (n : Nat) (s0_ : Str) (r : (List api_TrackedWord) × Bool) (hm : M.markup_ParseWords n s0_ = some r) : FSpecR Tryz.prog 73 [(tS.is s0_)] [(700000, Gl (tA 3 tS) 0 gv0), (700001, Gl (tA 3 tS) 1 gv1), (700003, GlE 3)] (fun _ : Unit => (Asn.tuple2 ((tL tapi_TrackedWord).is r.1) (tB.is r.2))) (fun _ => []) := by
 unfold M.markup_ParseWords at hm
 refine FSpecR.of Tryz.func73 rfl rfl rfl fun g0 => Aw <| Ao rfl (.assign (.nil (t := tapi_TrackedWord))) <| Ao rfl (.assign .bool) <| An <| W.seq <| Aw <| Am rfl rfl <| Ao rfl (.eqS (.t rfl) (.str rfl (by decide))) <| An <| W.cB hm (.t rfl) (fun hp2 hm => ?_) (fun hp2 hm => ?_)
 ·refine Aw <| Ao rfl (.assign (.nil (t := tapi_TrackedWord))) <| Ao rfl (.assign .bool) <| WL.ns ?_
  cases hm
  exact W.ret2 () rfl rfl (.t rfl) (.t rfl) trivial
 ·refine W.skip <| Aq <| Aw <| WL.addNil (t := tapi_TrackedWord) (E := 53) 4 <| Ao rfl (.assign (Opd.nilO (t := tapi_TrackedWord))) <| Ar <| Ao rfl (.assign .i64) <| An <| W.seq <| Aw <| WL.mv rfl rfl ?_
  obtain ⟨split, hv3, hm⟩ := Bs hm
  refine Ao rfl (.callG (rin := [(700003, GlE 3)]) C112 (strings_Split_spec _ _ _ hv3) ⟨rfl, trivial⟩ ⟨rfl, rfl, trivial⟩ ⟨(.t rfl), (.str rfl (by decide)), trivial⟩) <| Ao rfl (.lenL U38 (.t rfl)) <| Ao rfl (.move .i64) <| An <| W.block ?_
  obtain ⟨s4, hs5, hk6⟩ := Bs hm
  clear hm
  refine W.loop (fun m (s : Int × List Str × List Str × (((List api_TrackedWord) × Int) × Tok)) => m = s.2.2.1.length ∧ split = s.2.1 ++ s.2.2.1 ∧ s.1 = (s.2.1.length : Int) ∧ M.markup_ParseWords_loop1 s.2.2.1 s.2.2.2.1.1 s.2.2.2.1.2 = some s4) (fun s => [(15, (I6.is s.1)), (4, (tO tapi_TrackedWord s.2.2.2.2 s.2.2.2.1.1)), (5, (I6.is s.2.2.2.1.2)), (0, (tS.is s0_)), (13, ((tL tS).is split)), (14, (I6.is (split.length : Int)))]) (fun s => [(4, Dec.Own tapi_TrackedWord 53 s.2.2.2.2 s.2.2.2.1.1.length), (700000, Gl (tA 3 tS) 0 gv0), (700001, Gl (tA 3 tS) 1 gv1), (700003, GlE 3)]) split.length ((0 : Int), [], split, ((([] : List api_TrackedWord), (0 : Int)), (none : Tok))) ⟨rfl, rfl, rfl, hs5⟩ ⟨.q rfl, .q rfl, .q rfl, .q rfl, .q rfl, .q rfl, trivial⟩ ⟨rfl, rfl, ⟨rfl, rfl, ⟨rfl, rfl, ⟨rfl, rfl, trivial⟩⟩⟩⟩ ?_
  rintro m ⟨i, pre, rest1, ⟨⟨out, state⟩, k⟩⟩ ⟨hn10, hxs7, hi8, hm⟩
  try dsimp only at hn10 hxs7 hi8 hm
  change W _ _ _ _ _ _ _ [(15, (I6.is i)), (4, (tO tapi_TrackedWord k out)), (5, (I6.is state)), (0, (tS.is s0_)), (13, ((tL tS).is split)), (14, (I6.is (split.length : Int)))] [(4, Dec.Own tapi_TrackedWord 53 k out.length), (700000, Gl (tA 3 tS) 0 gv0), (700001, Gl (tA 3 tS) 1 gv1), (700003, GlE 3)]
  refine W.lenL (s := 13) (.t rfl) fun hlen9 => Aw <| Ao rfl (.ltI (.t rfl) (.t rfl)) <| An <| W.seq <| W.cond (.t rfl) (fun hc12 => ?_) (fun hc12 => ?_)
  ·have hp13 := of_decide_eq_true hc12
   obtain ⟨e, es, hrest15⟩ := range_more hxs7 hi8 hp13
   subst hrest15
   rw [M.markup_ParseWords_loop1.eq_2] at hm
   refine W.skip <| Aq <| W.seq <| W.block <| Aw <| Ao rfl (.idxPre hxs7 hi8 U38 Z9 (.t rfl) (.t rfl)) <| Ao rfl (.load ty9 (.t rfl)) <| Ag rfl rfl <| Ar <| Am rfl rfl <| An <| W.block <| Aw <| Ao rfl (.eqS (.t rfl) (.str rfl (by decide))) <| Ag rfl rfl <| WL.ns ?_
   refine W.cB hm (.t rfl) (fun hp17 hm => ?_) (fun hp17 hm => ?_)
   ·exact W.region <| Ao rfl (.assign .i64) <| WL.nil <| WN.block <| WN.block <| Aq <| W.region <| Ao rfl (.addI (.t rfl) .i64 (range_inR hi8 hp13 hlen9)) <| Am rfl rfl <| WL.nil <| WN.again es.length (i + 1, pre ++ [e], es, ((out, (1 : Int)), k)) (range_lt hn10) ⟨rfl, range_step hxs7, range_idx hi8, hm⟩ ⟨.q rfl, .q rfl, .q rfl, .q rfl, .q rfl, .q rfl, trivial⟩ ⟨rfl, rfl, ⟨rfl, rfl, ⟨rfl, rfl, ⟨rfl, rfl, trivial⟩⟩⟩⟩
   ·refine Aw <| Ao rfl (.eqS (.t rfl) (.str rfl (by decide))) <| Ag rfl rfl <| An <| W.cB hm (.t rfl) (fun hp19 hm => ?_) (fun hp19 hm => ?_)
    ·exact W.region <| Ao rfl (.assign .i64) <| WL.nil <| WN.block <| WN.block <| Aq <| W.region <| Ao rfl (.addI (.t rfl) .i64 (range_inR hi8 hp13 hlen9)) <| Am rfl rfl <| WL.nil <| WN.again es.length (i + 1, pre ++ [e], es, ((out, (2 : Int)), k)) (range_lt hn10) ⟨rfl, range_step hxs7, range_idx hi8, hm⟩ ⟨.q rfl, .q rfl, .q rfl, .q rfl, .q rfl, .q rfl, trivial⟩ ⟨rfl, rfl, ⟨rfl, rfl, ⟨rfl, rfl, ⟨rfl, rfl, trivial⟩⟩⟩⟩
    ·obtain ⟨s20, hs21, hk22⟩ := Bs hm
     clear hm
     refine W.join (fun s : Bool => s = s20) (fun s => [(37, (tB.is s)), (0, (tS.is s0_)), (4, (tO tapi_TrackedWord k out)), (5, (I6.is state)), (7, (tS.is e)), (13, ((tL tS).is split)), (14, (I6.is (split.length : Int))), (15, (I6.is i))]) (fun s => [(4, Dec.Own tapi_TrackedWord 53 k out.length), (700000, Gl (tA 3 tS) 0 gv0), (700001, Gl (tA 3 tS) 1 gv1), (700003, GlE 3)]) ?_ ?_
     ·rintro v hj32
      try dsimp only at hj32
      subst hj32
      have hm := hk22
      clear hk22
      try dsimp only at hm
      change W _ _ _ _ _ _ _ [(37, (tB.is v)), (0, (tS.is s0_)), (4, (tO tapi_TrackedWord k out)), (5, (I6.is state)), (7, (tS.is e)), (13, ((tL tS).is split)), (14, (I6.is (split.length : Int))), (15, (I6.is i))] [(4, Dec.Own tapi_TrackedWord 53 k out.length), (700000, Gl (tA 3 tS) 0 gv0), (700001, Gl (tA 3 tS) 1 gv1), (700003, GlE 3)]
      refine W.cB hm (.t rfl) (fun hp26 hm => ?_) (fun hp26 hm => ?_)
      ·exact W.region <| Ao rfl (.assign .i64) <| WL.nil <| WN.block <| WN.block <| Aq <| W.region <| Ao rfl (.addI (.t rfl) .i64 (range_inR hi8 hp13 hlen9)) <| Am rfl rfl <| WL.nil <| WN.again es.length (i + 1, pre ++ [e], es, ((out, (0 : Int)), k)) (range_lt hn10) ⟨rfl, range_step hxs7, range_idx hi8, hm⟩ ⟨.q rfl, .q rfl, .q rfl, .q rfl, .q rfl, .q rfl, trivial⟩ ⟨rfl, rfl, ⟨rfl, rfl, ⟨rfl, rfl, ⟨rfl, rfl, trivial⟩⟩⟩⟩
      ·refine Aw <| WL.mv rfl rfl ?_
       obtain ⟨unesca, hv27, hm⟩ := Bs hm
       refine Ao rfl (.callG (rin := [(700003, GlE 3)]) C114 (markup_unescape_spec _ _ hv27) ⟨rfl, trivial⟩ ⟨rfl, rfl, trivial⟩ ⟨(.t rfl), trivial⟩) <| Am rfl rfl <| Ao rfl (.extract0 (.t rfl)) <| Ao rfl (.extract1 (.t rfl)) <| Ag rfl rfl <| Ag rfl rfl <| An <| W.seq <| Aw <| Am rfl rfl <| Ao rfl (.notB (.t rfl)) <| An <| W.cR hm (.t rfl) (fun hp29 hm => ?_) (fun hp29 hm => ?_)
       ·refine Aw <| Ao rfl (.assign (.nil (t := tapi_TrackedWord))) <| Ao rfl (.assign .bool) <| WL.ns ?_
        have hr30 := Si hm
        clear hm
        subst hr30
        have hm := hk6
        try dsimp only at hm
        cases hm
        exact W.ret2 () rfl rfl (.t rfl) (.t rfl) trivial
       ·refine W.skip <| Aq <| W.region <| Am rfl rfl <| Am rfl rfl <| Am rfl rfl <| Ao rfl (.build (s := tapi_TrackedWord) (x := (⟨state, unesca.1⟩ : api_TrackedWord)) zapi_TrackedWord_f rfl U53 (zapi_TrackedWord_sz _ U53) ze53 ⟨_, I6, state, _, _, rfl, Z3, (.t rfl), sapi_TrackedWord_0, ⟨_, tS, unesca.1, _, _, rfl, Z9, (.t rfl), sapi_TrackedWord_1, rfl⟩⟩) <| Ao rfl (.buildSlice (n := 1) (ys := [(0, (⟨state, unesca.1⟩ : api_TrackedWord))]) (z := zapi_TrackedWord) (xs := [(⟨state, unesca.1⟩ : api_TrackedWord)]) U30 el53 ze53 ⟨rfl, (.t rfl), trivial⟩ (by simp) (by decide) rfl) ?_
        obtain ⟨out1, hv31, hm⟩ := Bs hm
        exact WL.opR rfl (OpR.appC (key := 4) hv31 U30 el53 (.t rfl) (.t rfl) rfl) fun k1 => Ag rfl rfl <| WL.nil <| WN.block <| WN.block <| Aq <| W.region <| Ao rfl (.addI (.t rfl) .i64 (range_inR hi8 hp13 hlen9)) <| Am rfl rfl <| WL.nil <| WN.again es.length (i + 1, pre ++ [e], es, ((out1, state), k1)) (range_lt hn10) ⟨rfl, range_step hxs7, range_idx hi8, hm⟩ ⟨.q rfl, .q rfl, .q rfl, .q rfl, .q rfl, .q rfl, trivial⟩ ⟨rfl, rfl, ⟨rfl, rfl, ⟨rfl, rfl, ⟨rfl, rfl, trivial⟩⟩⟩⟩
     ·have hm := hs21
      clear hs21
      refine Aw <| Ao rfl (.eqS (.t rfl) (.str rfl (by decide))) <| Ag rfl rfl <| An <| W.cB hm (.t rfl) (fun hp24 hm => ?_) (fun hp24 hm => ?_)
      ·exact W.skip <| WN.meet (e == ([43, 93] : Str)) (Si hm) ⟨.q rfl, .q rfl, .q rfl, .q rfl, .q rfl, .q rfl, .q rfl, .q rfl, trivial⟩ ⟨rfl, rfl, ⟨rfl, rfl, ⟨rfl, rfl, ⟨rfl, rfl, trivial⟩⟩⟩⟩
      ·exact W.region <| Ao rfl (.eqS (.t rfl) (.str rfl (by decide))) <| Ag rfl rfl <| WL.nil <| WN.meet (e == ([45, 93] : Str)) (Si hm) ⟨.q rfl, .q rfl, .q rfl, .q rfl, .q rfl, .q rfl, .q rfl, .q rfl, trivial⟩ ⟨rfl, rfl, ⟨rfl, rfl, ⟨rfl, rfl, ⟨rfl, rfl, trivial⟩⟩⟩⟩
  ·have hrest15 := range_end hxs7 hi8 (of_decide_eq_false hc12)
   subst hrest15
   rw [M.markup_ParseWords_loop1.eq_1] at hm
   refine W.exit rfl ?_
   have hr33 := Si hm
   clear hm
   subst hr33
   have hm := hk6
   try dsimp only at hm
   refine Aq <| W.seq <| Aw <| WL.mv rfl rfl ?_
   obtain ⟨validr, hv34, hm⟩ := Bs hm
   refine Ao rfl (.call C43 (markup_validRow_spec _ _ _ hv34) ⟨(Opd.own (.t rfl)), trivial⟩) <| Ao rfl (.notB (.t rfl)) <| WL.mv rfl rfl ?_
   rcases iteR hm with ⟨hp36, hb35, hm⟩ | ⟨hp36, hb35, hm⟩
   ·refine Ap rfl hb35 <| Ap rfl hb35 <| Ap rfl hb35 <| Ap rfl hb35 <| Ao rfl (.pickT (.t rfl) hb35 .bool) <| An <| W.condT (.t rfl) <| Aw <| Ao rfl (.assign (.nil (t := tapi_TrackedWord))) <| Ao rfl (.assign .bool) <| WL.ns ?_
    cases hm
    exact W.ret2 () rfl rfl (.t rfl) (.t rfl) trivial
   ·refine Ax rfl hb35 (.move (.t rfl)) ?_
    obtain ⟨format, hv37, hm⟩ := Bs hm
    refine Ax rfl hb35 (.callG (rin := [(700000, Gl (tA 3 tS) 0 gv0), (700001, Gl (tA 3 tS) 1 gv1), (700003, GlE 3)]) C23 (markup_FormatWords_spec _ _ _ hv37) ⟨rfl, rfl, rfl, trivial⟩ ⟨rfl, rfl, ⟨rfl, rfl, ⟨rfl, rfl, trivial⟩⟩⟩ ⟨(Opd.own (.t rfl)), trivial⟩) <| Ax rfl hb35 (.move (.t rfl)) <| Ax rfl hb35 (.neS (.t rfl) (.t rfl)) <| Ao rfl (.pickF (.t rfl) hb35 (.t rfl)) <| An <| W.cB hm (.t rfl) (fun hp39 hm => ?_) (fun hp39 hm => ?_)
    ·refine Aw <| Ao rfl (.assign (.nil (t := tapi_TrackedWord))) <| Ao rfl (.assign .bool) <| WL.ns ?_
     cases hm
     exact W.ret2 () rfl rfl (.t rfl) (.t rfl) trivial
    ·refine W.skip <| Aq <| Aw <| Am rfl rfl <| Ag rfl rfl <| Ao rfl (.assign .bool) <| WL.ns ?_
     cases hm
     exact W.ret2 () rfl rfl (Opd.own (.t rfl)) (.t rfl) trivial
theorem markup_parseLine_spec (n : Nat) (s0_ : Str) (r : api_TrackedUnit × Int × Bool) (hm : M.markup_parseLine n s0_ = some r) : FSpecR Tryz.prog 36 [(tS.is s0_)] [(700000, Gl (tA 3 tS) 0 gv0), (700001, Gl (tA 3 tS) 1 gv1), (700002, Gl (tA 8 tS) 2 gv2), (700003, GlE 3), (700007, GlT Tryz.prog "internal/strconv.uint64pow10" .u64 Lib.pow10Tab), (700008, GlI 8), (700009, GlI 9)] (fun _ : Unit => (Asn.tuple3 ((tapi_TrackedUnit_k8 none).is r.1) (I6.is r.2.1) (tB.is r.2.2))) (fun _ => []) := by
 unfold M.markup_parseLine at hm
 refine FSpecR.of Tryz.func36 rfl rfl rfl fun g0 => Aw <| WL.opR rfl (OpR.alloc 2 zeapi_TrackedUnit_k8) fun b => Ao rfl (.assign .i64) <| Ao rfl (.assign .bool) <| Ar <| WL.mv rfl rfl ?_
 obtain ⟨trimle, hv1, hm⟩ := Bs hm
 refine Ao rfl (.call C71 (strings_TrimLeft_spec _ _ _ _ hv1) ⟨(.t rfl), (.str rfl (by decide)), trivial⟩) <| Ag rfl rfl <| Ar <| Am rfl rfl <| Ao rfl (.lenS U9 (.t rfl)) <| Am rfl rfl <| Ao rfl (.lenS U9 (.t rfl)) ?_
 obtain ⟨v, hv2, hm⟩ := Bs hm
 refine Ao rfl (.subC hv2 (.t rfl) (.t rfl)) ?_
 obtain ⟨v1, hv3, hm⟩ := Bs hm
 refine Ao rfl (.quoC hv3 (.t rfl) .i64) <| Ag rfl rfl <| An <| W.seq ?_
 obtain ⟨s4, hs5, hk6⟩ := Bs hm
 clear hm
 refine W.join (fun s : Bool => s = s4) (fun s => [(29, (tB.is s)), (0, (tS.is s0_)), (2, (Bp b 0)), (5, (tS.is trimle)), (6, (I6.is v1))]) (fun s => [(2, (Bx 11 true 33 ((tapi_TrackedUnit_k8 none).is zapi_TrackedUnit) b)), (700000, Gl (tA 3 tS) 0 gv0), (700001, Gl (tA 3 tS) 1 gv1), (700002, Gl (tA 8 tS) 2 gv2), (700003, GlE 3), (700007, GlT Tryz.prog "internal/strconv.uint64pow10" .u64 Lib.pow10Tab), (700008, GlI 8), (700009, GlI 9)]) ?_ ?_
 ·rintro v2 hj74
  try dsimp only at hj74
  subst hj74
  have hm := hk6
  clear hk6
  try dsimp only at hm
  change W _ _ _ _ _ _ _ [(29, (tB.is v2)), (0, (tS.is s0_)), (2, (Bp b 0)), (5, (tS.is trimle)), (6, (I6.is v1))] [(2, (Bx 11 true 33 ((tapi_TrackedUnit_k8 none).is zapi_TrackedUnit) b)), (700000, Gl (tA 3 tS) 0 gv0), (700001, Gl (tA 3 tS) 1 gv1), (700002, Gl (tA 8 tS) 2 gv2), (700003, GlE 3), (700007, GlT Tryz.prog "internal/strconv.uint64pow10" .u64 Lib.pow10Tab), (700008, GlI 8), (700009, GlI 9)]
  refine W.cB hm (.t rfl) (fun hp11 hm => ?_) (fun hp11 hm => ?_)
  ·refine Aw <| Ao rfl (.build (s := (tapi_TrackedUnit_k8 none)) (x := (⟨(0 : Int), (0 : Int), zapi_Id, ([] : Str), ([] : Str), false, ([] : List api_TrackedWord), ([] : List api_TrackedWord), ([] : List api_TrackedUnit)⟩ : api_TrackedUnit)) zapi_TrackedUnit_f rfl U33 (zapi_TrackedUnit_sz _ U33) zeapi_TrackedUnit_k8 rfl) <| WL.opU (OpR.storeB (b := b) 2 Z33 (Cellable.is (tapi_TrackedUnit_k8 none) (⟨(0 : Int), (0 : Int), zapi_Id, ([] : Str), ([] : Str), false, ([] : List api_TrackedWord), ([] : List api_TrackedWord), ([] : List api_TrackedUnit)⟩ : api_TrackedUnit)) rfl (.t rfl) (.t rfl)) fun _ => Ao rfl (.assign .i64) <| Ao rfl (.assign .bool) <| WL.ns ?_
   cases hm
   exact W.retQ3 () rfl rfl (ResAt.cell 2 Y33 Z33 rfl (.t rfl)) (ResAt.tmp (.t rfl)) (ResAt.tmp (.t rfl)) trivial
  ·refine W.skip <| Aq <| Aw <| WL.opR rfl (OpR.alloc 7 zeapi_TrackedUnit_k8) fun b2 => WL.ns ?_
   obtain ⟨s12, hs13, hk14⟩ := Bs hm
   clear hm
   refine W.join (fun s : api_TrackedUnit × api_TrackedUnit => (Sum.inl s : (api_TrackedUnit × api_TrackedUnit) ⊕ (api_TrackedUnit × Int × Bool)) = s12) (fun s => [(0, (tS.is s0_)), (2, (Bp b 0)), (5, (tS.is trimle)), (6, (I6.is v1)), (7, (Bp b2 0))]) (fun s => [(2, (Bx 11 true 33 ((tapi_TrackedUnit_k8 none).is s.1) b)), (7, (Bx 11 true 33 ((tapi_TrackedUnit_k8 none).is s.2) b2)), (700000, Gl (tA 3 tS) 0 gv0), (700001, Gl (tA 3 tS) 1 gv1), (700002, Gl (tA 8 tS) 2 gv2), (700003, GlE 3), (700007, GlT Tryz.prog "internal/strconv.uint64pow10" .u64 Lib.pow10Tab), (700008, GlI 8), (700009, GlI 9)]) ?_ ?_
   ·rintro ⟨v3, t⟩ hj73
    try dsimp only at hj73
    subst hj73
    have hm := hk14
    clear hk14
    try dsimp only at hm
    change W _ _ _ _ _ _ _ [(0, (tS.is s0_)), (2, (Bp b 0)), (5, (tS.is trimle)), (6, (I6.is v1)), (7, (Bp b2 0))] [(2, (Bx 11 true 33 ((tapi_TrackedUnit_k8 none).is v3) b)), (7, (Bx 11 true 33 ((tapi_TrackedUnit_k8 none).is t) b2)), (700000, Gl (tA 3 tS) 0 gv0), (700001, Gl (tA 3 tS) 1 gv1), (700002, Gl (tA 8 tS) 2 gv2), (700003, GlE 3), (700007, GlT Tryz.prog "internal/strconv.uint64pow10" .u64 Lib.pow10Tab), (700008, GlI 8), (700009, GlI 9)]
    refine Aw <| WL.mv rfl rfl ?_
    obtain ⟨v4, hv27, hm⟩ := Bs hm
    refine Ao rfl (.sslcLo hv27 U9 (.t rfl) .i64) ?_
    obtain ⟨cut, hv28, hm⟩ := Bs hm
    refine Ao rfl (.callG (rin := [(700003, GlE 3)]) C35 (strings_Cut_spec _ _ _ hv28) ⟨rfl, trivial⟩ ⟨rfl, rfl, trivial⟩ ⟨(.t rfl), (.str rfl (by decide)), trivial⟩) <| Am rfl rfl <| Ao rfl (.extract30 (.t rfl)) <| Ao rfl (.extract31 (.t rfl)) <| Ao rfl (.extract32 (.t rfl)) <| Ag rfl rfl <| Ag rfl rfl <| Ag rfl rfl <| Ar <| WL.mv rfl rfl ?_
    obtain ⟨cut1, hv29, hm⟩ := Bs hm
    refine Ao rfl (.callG (rin := [(700003, GlE 3)]) C35 (strings_Cut_spec _ _ _ hv29) ⟨rfl, trivial⟩ ⟨rfl, rfl, trivial⟩ ⟨(.t rfl), (.str rfl (by decide)), trivial⟩) <| Am rfl rfl <| Ao rfl (.extract30 (.t rfl)) <| Ao rfl (.extract31 (.t rfl)) <| Ao rfl (.extract32 (.t rfl)) <| Ag rfl rfl <| Ag rfl rfl <| Ag rfl rfl <| Ar <| WL.mv rfl rfl ?_
    obtain ⟨⟨parsef, t1⟩, hv30, hm⟩ := Bs hm
    dsimp only at hm
    refine WL.weakR (res' := [(7, (Bx 11 true 33 ((tapi_TrackedUnit_k8 none).is t) b2)), (700002, Gl (tA 8 tS) 2 gv2), (700003, GlE 3), (700007, GlT Tryz.prog "internal/strconv.uint64pow10" .u64 Lib.pow10Tab), (700008, GlI 8), (700009, GlI 9), (2, (Bx 11 true 33 ((tapi_TrackedUnit_k8 none).is v3) b)), (700000, Gl (tA 3 tS) 0 gv0), (700001, Gl (tA 3 tS) 1 gv1)]) ⟨rfl, rfl, ⟨rfl, rfl, ⟨rfl, rfl, ⟨rfl, rfl, ⟨rfl, rfl, ⟨rfl, rfl, ⟨rfl, rfl, ⟨rfl, rfl, ⟨rfl, rfl, trivial⟩⟩⟩⟩⟩⟩⟩⟩⟩ <| WL.opR rfl (OpR.call (us := [7, 700002, 700003, 700007, 700008, 700009]) (A := fun kx : Unit => (tB.is parsef)) C72 (FSpecR.keys (rin' := [(7, (Bx 11 true 33 ((tapi_TrackedUnit_k8 none).is t) b2)), (700002, Gl (tA 8 tS) 2 gv2), (700003, GlE 3), (700007, GlT Tryz.prog "internal/strconv.uint64pow10" .u64 Lib.pow10Tab), (700008, GlI 8), (700009, GlI 9)]) (out' := fun kx : Unit => [(7, (Bx 11 true 33 ((tapi_TrackedUnit_k8 none).is t1) b2)), (700002, Gl (tA 8 tS) 2 gv2), (700003, GlE 3), (700007, GlT Tryz.prog "internal/strconv.uint64pow10" .u64 Lib.pow10Tab), (700008, GlI 8), (700009, GlI 9)]) (markup_parseFront_spec _ _ _ _ _ hv30) rfl (fun _ => rfl)) rfl ⟨(.t rfl), (.t rfl), trivial⟩) fun _ => Ag rfl rfl <| WL.ns ?_
    obtain ⟨s31, hs32, hk33⟩ := Bs hm
    clear hm
    refine W.join (fun s : Bool × api_TrackedUnit => s = s31) (fun s => [(13, (tB.is s.1)), (0, (tS.is s0_)), (2, (Bp b 0)), (6, (I6.is v1)), (7, (Bp b2 0)), (9, (tS.is cut.2.1)), (10, (tB.is cut.2.2))]) (fun s => [(7, (Bx 11 true 33 ((tapi_TrackedUnit_k8 none).is s.2) b2)), (2, (Bx 11 true 33 ((tapi_TrackedUnit_k8 none).is v3) b)), (700000, Gl (tA 3 tS) 0 gv0), (700001, Gl (tA 3 tS) 1 gv1), (700002, Gl (tA 8 tS) 2 gv2), (700003, GlE 3), (700007, GlT Tryz.prog "internal/strconv.uint64pow10" .u64 Lib.pow10Tab), (700008, GlI 8), (700009, GlI 9)]) ?_ ?_
    ·rintro ⟨ok, t2⟩ hj72
     try dsimp only at hj72
     subst hj72
     have hm := hk33
     clear hk33
     try dsimp only at hm
     change W _ _ _ _ _ _ _ [(13, (tB.is ok)), (0, (tS.is s0_)), (2, (Bp b 0)), (6, (I6.is v1)), (7, (Bp b2 0)), (9, (tS.is cut.2.1)), (10, (tB.is cut.2.2))] [(7, (Bx 11 true 33 ((tapi_TrackedUnit_k8 none).is t2) b2)), (2, (Bx 11 true 33 ((tapi_TrackedUnit_k8 none).is v3) b)), (700000, Gl (tA 3 tS) 0 gv0), (700001, Gl (tA 3 tS) 1 gv1), (700002, Gl (tA 8 tS) 2 gv2), (700003, GlE 3), (700007, GlT Tryz.prog "internal/strconv.uint64pow10" .u64 Lib.pow10Tab), (700008, GlI 8), (700009, GlI 9)]
     obtain ⟨s43, hs44, hk45⟩ := Bs hm
     clear hm
     refine W.join (fun s : Bool × api_TrackedUnit => s = s43) (fun s => [(13, (tB.is s.1)), (0, (tS.is s0_)), (2, (Bp b 0)), (6, (I6.is v1)), (7, (Bp b2 0))]) (fun s => [(7, (Bx 11 true 33 ((tapi_TrackedUnit_k8 none).is s.2) b2)), (2, (Bx 11 true 33 ((tapi_TrackedUnit_k8 none).is v3) b)), (700000, Gl (tA 3 tS) 0 gv0), (700001, Gl (tA 3 tS) 1 gv1), (700002, Gl (tA 8 tS) 2 gv2), (700003, GlE 3), (700007, GlT Tryz.prog "internal/strconv.uint64pow10" .u64 Lib.pow10Tab), (700008, GlI 8), (700009, GlI 9)]) ?_ ?_
     ·rintro ⟨ok1, t3⟩ hj71
      try dsimp only at hj71
      subst hj71
      have hm := hk45
      clear hk45
      try dsimp only at hm
      change W _ _ _ _ _ _ _ [(13, (tB.is ok1)), (0, (tS.is s0_)), (2, (Bp b 0)), (6, (I6.is v1)), (7, (Bp b2 0))] [(7, (Bx 11 true 33 ((tapi_TrackedUnit_k8 none).is t3) b2)), (2, (Bx 11 true 33 ((tapi_TrackedUnit_k8 none).is v3) b)), (700000, Gl (tA 3 tS) 0 gv0), (700001, Gl (tA 3 tS) 1 gv1), (700002, Gl (tA 8 tS) 2 gv2), (700003, GlE 3), (700007, GlT Tryz.prog "internal/strconv.uint64pow10" .u64 Lib.pow10Tab), (700008, GlI 8), (700009, GlI 9)]
      refine W.seq ?_
      obtain ⟨s55, hs56, hk57⟩ := Bs hm
      clear hm
      refine W.join (fun s : Bool => s = s55) (fun s => [(103, (tB.is s)), (2, (Bp b 0)), (6, (I6.is v1)), (7, (Bp b2 0))]) (fun s => [(2, (Bx 11 true 33 ((tapi_TrackedUnit_k8 none).is v3) b)), (7, (Bx 11 true 33 ((tapi_TrackedUnit_k8 none).is t3) b2)), (700000, Gl (tA 3 tS) 0 gv0), (700001, Gl (tA 3 tS) 1 gv1), (700002, Gl (tA 8 tS) 2 gv2), (700003, GlE 3), (700007, GlT Tryz.prog "internal/strconv.uint64pow10" .u64 Lib.pow10Tab), (700008, GlI 8), (700009, GlI 9)]) ?_ ?_
      ·rintro v7 hj70
       try dsimp only at hj70
       subst hj70
       have hm := hk57
       clear hk57
       try dsimp only at hm
       change W _ _ _ _ _ _ _ [(103, (tB.is v7)), (2, (Bp b 0)), (6, (I6.is v1)), (7, (Bp b2 0))] [(2, (Bx 11 true 33 ((tapi_TrackedUnit_k8 none).is v3) b)), (7, (Bx 11 true 33 ((tapi_TrackedUnit_k8 none).is t3) b2)), (700000, Gl (tA 3 tS) 0 gv0), (700001, Gl (tA 3 tS) 1 gv1), (700002, Gl (tA 8 tS) 2 gv2), (700003, GlE 3), (700007, GlT Tryz.prog "internal/strconv.uint64pow10" .u64 Lib.pow10Tab), (700008, GlI 8), (700009, GlI 9)]
       refine W.cB hm (.t rfl) (fun hp69 hm => ?_) (fun hp69 hm => ?_)
       ·refine Aw <| Ao rfl (.build (s := (tapi_TrackedUnit_k8 none)) (x := (⟨(0 : Int), (0 : Int), zapi_Id, ([] : Str), ([] : Str), false, ([] : List api_TrackedWord), ([] : List api_TrackedWord), ([] : List api_TrackedUnit)⟩ : api_TrackedUnit)) zapi_TrackedUnit_f rfl U33 (zapi_TrackedUnit_sz _ U33) zeapi_TrackedUnit_k8 rfl) <| WL.opU (OpR.storeB (b := b) 2 Z33 (Cellable.is (tapi_TrackedUnit_k8 none) (⟨(0 : Int), (0 : Int), zapi_Id, ([] : Str), ([] : Str), false, ([] : List api_TrackedWord), ([] : List api_TrackedWord), ([] : List api_TrackedUnit)⟩ : api_TrackedUnit)) rfl (.t rfl) (.t rfl)) fun _ => Ao rfl (.assign .i64) <| Ao rfl (.assign .bool) <| WL.ns ?_
        cases hm
        exact W.retQ3 () rfl rfl (ResAt.cell 2 Y33 Z33 rfl (.t rfl)) (ResAt.tmp (.t rfl)) (ResAt.tmp (.t rfl)) trivial
       ·refine W.skip <| Aq <| Aw <| Ao rfl (.loadB 7 Y33 Z33 rfl (.t rfl)) <| Am rfl rfl <| WL.opU (OpR.storeB (b := b) 2 Z33 (Cellable.is (tapi_TrackedUnit_k8 none) t3) rfl (.t rfl) (.t rfl)) fun _ => Ag rfl rfl <| Ao rfl (.assign .bool) <| WL.ns ?_
        cases hm
        exact W.retQ3 () rfl rfl (ResAt.cell 2 Y33 Z33 rfl (.t rfl)) (ResAt.tmp (.t rfl)) (ResAt.tmp (.t rfl)) trivial
      ·have hm := hs56
       clear hs56
       refine W.region <| Am rfl rfl <| Ao rfl (.notB (.t rfl)) <| WL.mv rfl rfl ?_
       rcases iteR hm with ⟨hp59, hb58, hm⟩ | ⟨hp59, hb58, hm⟩
       ·refine Ap rfl hb58 <| Ap rfl hb58 <| Ap rfl hb58 <| Ap rfl hb58 <| WL.pass2 rfl rfl rfl rfl rfl rfl <| WL.pass2 rfl rfl rfl rfl rfl rfl <| WL.pass2 rfl rfl rfl rfl rfl rfl <| Ap rfl hb58 <| Ao rfl (.pickT (.t rfl) hb58 .bool) <| Am rfl rfl <| Ap rfl rfl <| Ap rfl rfl <| Ap rfl rfl <| Ap rfl rfl <| Ap rfl rfl <| Ao rfl (.pickT (.t rfl) rfl .bool) ?_
        exact WL.nil <| WN.meet true (Si hm) ⟨.q rfl, .q rfl, .q rfl, .q rfl, trivial⟩ ⟨rfl, rfl, ⟨rfl, rfl, ⟨rfl, rfl, ⟨rfl, rfl, ⟨rfl, rfl, ⟨rfl, rfl, ⟨rfl, rfl, ⟨rfl, rfl, ⟨rfl, rfl, trivial⟩⟩⟩⟩⟩⟩⟩⟩⟩
       ·refine Ax rfl hb58 (.loadB 7 Y33 Z33 rfl (.t rfl)) ?_
        obtain ⟨validu, hv60, hm⟩ := Bs hm
        refine Ax rfl hb58 (.call C59 (markup_validUnit_spec _ _ _ hv60) ⟨(Opd.leT (leapi_TrackedUnit_k8 none) (.t rfl)), trivial⟩) <| Ax rfl hb58 (.notB (.t rfl)) <| Ax rfl hb58 (.move (.t rfl)) ?_
        rcases iteR hm with ⟨hp62, hb61, hm⟩ | ⟨hp62, hb61, hm⟩
        ·refine Ax rfl hb61 (.loadB 7 Y33 Z33 rfl (.t rfl)) ?_
         obtain ⟨isplac, hv63, hm⟩ := Bs hm
         refine Ax rfl hb61 (.call C37 (markup_isPlaceholder_spec _ _ hv63) ⟨(Opd.leT (leapi_TrackedUnit_k8 none) (.t rfl)), trivial⟩) <| Ax rfl hb61 (.notB (.t rfl)) <| Ax rfl hb58 (.pickT (.t rfl) hb61 (.t rfl)) <| Ao rfl (.pickF (.t rfl) hb58 (.t rfl)) <| WL.mv rfl rfl ?_
         rcases iteR hm with ⟨hp65, hb64, hm⟩ | ⟨hp65, hb64, hm⟩
         ·exact Ap rfl hb64 <| Ap rfl hb64 <| Ap rfl hb64 <| Ap rfl hb64 <| Ap rfl hb64 <| Ao rfl (.pickT (.t rfl) hb64 .bool) <| WL.nil <| WN.meet true (Si hm) ⟨.q rfl, .q rfl, .q rfl, .q rfl, trivial⟩ ⟨rfl, rfl, ⟨rfl, rfl, ⟨rfl, rfl, ⟨rfl, rfl, ⟨rfl, rfl, ⟨rfl, rfl, ⟨rfl, rfl, ⟨rfl, rfl, ⟨rfl, rfl, trivial⟩⟩⟩⟩⟩⟩⟩⟩⟩
         ·refine Ax rfl hb64 (.loadB 7 Y33 Z33 rfl (.t rfl)) <| Ax rfl hb64 (.move (.t rfl)) ?_
          obtain ⟨line, hv66, hm⟩ := Bs hm
          exact Ax rfl hb64 (.callG (rin := [(700000, Gl (tA 3 tS) 0 gv0), (700001, Gl (tA 3 tS) 1 gv1), (700002, Gl (tA 8 tS) 2 gv2), (700003, GlE 3), (700007, GlT Tryz.prog "internal/strconv.uint64pow10" .u64 Lib.pow10Tab)]) C31 (markup_line_spec _ _ _ _ hv66) ⟨rfl, rfl, rfl, rfl, rfl, trivial⟩ ⟨rfl, rfl, ⟨rfl, rfl, ⟨rfl, rfl, ⟨rfl, rfl, ⟨rfl, rfl, trivial⟩⟩⟩⟩⟩ ⟨(Opd.leT (leapi_TrackedUnit_k8 none) (.t rfl)), (.t rfl), trivial⟩) <| Ax rfl hb64 (.move (.t rfl)) <| Ax rfl hb64 (.neS (.t rfl) (.t rfl)) <| Ao rfl (.pickF (.t rfl) hb64 (.t rfl)) <| WL.nil <| WN.meet (line != s0_) (Si hm) ⟨.q rfl, .q rfl, .q rfl, .q rfl, trivial⟩ ⟨rfl, rfl, ⟨rfl, rfl, ⟨rfl, rfl, ⟨rfl, rfl, ⟨rfl, rfl, ⟨rfl, rfl, ⟨rfl, rfl, ⟨rfl, rfl, ⟨rfl, rfl, trivial⟩⟩⟩⟩⟩⟩⟩⟩⟩
        ·refine Ap rfl hb61 <| Ap rfl hb61 <| Ap rfl hb61 <| Ax rfl hb58 (.pickF (.t rfl) hb61 .bool) <| Ao rfl (.pickF (.t rfl) hb58 (.t rfl)) <| Am rfl rfl <| Ax rfl rfl (.loadB 7 Y33 Z33 rfl (.t rfl)) <| Ax rfl rfl (.move (.t rfl)) ?_
         obtain ⟨line1, hv67, hm⟩ := Bs hm
         exact Ax rfl rfl (.callG (rin := [(700000, Gl (tA 3 tS) 0 gv0), (700001, Gl (tA 3 tS) 1 gv1), (700002, Gl (tA 8 tS) 2 gv2), (700003, GlE 3), (700007, GlT Tryz.prog "internal/strconv.uint64pow10" .u64 Lib.pow10Tab)]) C31 (markup_line_spec _ _ _ _ hv67) ⟨rfl, rfl, rfl, rfl, rfl, trivial⟩ ⟨rfl, rfl, ⟨rfl, rfl, ⟨rfl, rfl, ⟨rfl, rfl, ⟨rfl, rfl, trivial⟩⟩⟩⟩⟩ ⟨(Opd.leT (leapi_TrackedUnit_k8 none) (.t rfl)), (.t rfl), trivial⟩) <| Ax rfl rfl (.move (.t rfl)) <| Ax rfl rfl (.neS (.t rfl) (.t rfl)) <| Ao rfl (.pickF (.t rfl) rfl (.t rfl)) <| WL.nil <| WN.meet (line1 != s0_) (Si hm) ⟨.q rfl, .q rfl, .q rfl, .q rfl, trivial⟩ ⟨rfl, rfl, ⟨rfl, rfl, ⟨rfl, rfl, ⟨rfl, rfl, ⟨rfl, rfl, ⟨rfl, rfl, ⟨rfl, rfl, ⟨rfl, rfl, ⟨rfl, rfl, trivial⟩⟩⟩⟩⟩⟩⟩⟩⟩
     ·have hm := hs44
      clear hs44
      obtain ⟨s46, hs47, hk48⟩ := Bs hm
      clear hm
      refine W.join (fun s : Bool => s = s46) (fun s => [(78, (tB.is s)), (0, (tS.is s0_)), (2, (Bp b 0)), (6, (I6.is v1)), (7, (Bp b2 0)), (9, (tS.is cut.2.1)), (13, (tB.is ok))]) (fun s => [(2, (Bx 11 true 33 ((tapi_TrackedUnit_k8 none).is v3) b)), (7, (Bx 11 true 33 ((tapi_TrackedUnit_k8 none).is t2) b2)), (700000, Gl (tA 3 tS) 0 gv0), (700001, Gl (tA 3 tS) 1 gv1), (700002, Gl (tA 8 tS) 2 gv2), (700003, GlE 3), (700007, GlT Tryz.prog "internal/strconv.uint64pow10" .u64 Lib.pow10Tab), (700008, GlI 8), (700009, GlI 9)]) ?_ ?_
      ·rintro v6 hj54
       try dsimp only at hj54
       subst hj54
       have hm := hk48
       clear hk48
       try dsimp only at hm
       change W _ _ _ _ _ _ _ [(78, (tB.is v6)), (0, (tS.is s0_)), (2, (Bp b 0)), (6, (I6.is v1)), (7, (Bp b2 0)), (9, (tS.is cut.2.1)), (13, (tB.is ok))] [(2, (Bx 11 true 33 ((tapi_TrackedUnit_k8 none).is v3) b)), (7, (Bx 11 true 33 ((tapi_TrackedUnit_k8 none).is t2) b2)), (700000, Gl (tA 3 tS) 0 gv0), (700001, Gl (tA 3 tS) 1 gv1), (700002, Gl (tA 8 tS) 2 gv2), (700003, GlE 3), (700007, GlT Tryz.prog "internal/strconv.uint64pow10" .u64 Lib.pow10Tab), (700008, GlI 8), (700009, GlI 9)]
       refine W.cB hm (.t rfl) (fun hp52 hm => ?_) (fun hp52 hm => ?_)
       ·refine W.region <| WL.mv rfl rfl ?_
        obtain ⟨parsew1, hv53, hm⟩ := Bs hm
        exact Ao rfl (.callG (rin := [(700000, Gl (tA 3 tS) 0 gv0), (700001, Gl (tA 3 tS) 1 gv1), (700003, GlE 3)]) C73 (markup_ParseWords_spec _ _ _ hv53) ⟨rfl, rfl, rfl, trivial⟩ ⟨rfl, rfl, ⟨rfl, rfl, ⟨rfl, rfl, trivial⟩⟩⟩ ⟨(.t rfl), trivial⟩) <| Am rfl rfl <| Ao rfl (.extract0 (.t rfl)) <| Ao rfl (.extract1 (.t rfl)) <| Ao rfl (.fieldAddrB (o := 0) U33 rfl J30 (.t rfl) rfl) <| WL.opU (OpR.storeBF (b := b2) 7 rfl ty30 (sapi_TrackedUnit_k8_7 none) rfl (show 9 + 1 ≤ 11 by decide) (.t rfl) (.t rfl)) fun _ => Ag rfl rfl <| WL.nil <| WN.meet (parsew1.2, ({ t2 with Words := parsew1.1 } : api_TrackedUnit)) (Si hm) ⟨.q rfl, .q rfl, .q rfl, .q rfl, .q rfl, trivial⟩ ⟨rfl, rfl, ⟨rfl, rfl, ⟨rfl, rfl, ⟨rfl, rfl, ⟨rfl, rfl, ⟨rfl, rfl, ⟨rfl, rfl, ⟨rfl, rfl, ⟨rfl, rfl, trivial⟩⟩⟩⟩⟩⟩⟩⟩⟩
       ·exact W.skip <| WN.meet (ok, t2) (Si hm) ⟨.q rfl, .q rfl, .q rfl, .q rfl, .q rfl, trivial⟩ ⟨rfl, rfl, ⟨rfl, rfl, ⟨rfl, rfl, ⟨rfl, rfl, ⟨rfl, rfl, ⟨rfl, rfl, ⟨rfl, rfl, ⟨rfl, rfl, ⟨rfl, rfl, trivial⟩⟩⟩⟩⟩⟩⟩⟩⟩
      ·have hm := hs47
       clear hs47
       refine W.region <| Am rfl rfl <| WL.mv rfl rfl ?_
       rcases iteB hm with ⟨hp50, hb49, hm⟩ | ⟨hp50, hb49, hm⟩
       ·exact Ax rfl hb49 (.move (.t rfl)) <| Ao rfl (.pickT (.t rfl) hb49 (.t rfl)) <| WL.nil <| WN.meet ok (Si hm) ⟨.q rfl, .q rfl, .q rfl, .q rfl, .q rfl, .q rfl, .q rfl, trivial⟩ ⟨rfl, rfl, ⟨rfl, rfl, ⟨rfl, rfl, ⟨rfl, rfl, ⟨rfl, rfl, ⟨rfl, rfl, ⟨rfl, rfl, ⟨rfl, rfl, ⟨rfl, rfl, trivial⟩⟩⟩⟩⟩⟩⟩⟩⟩
       ·exact Ap rfl hb49 <| Ao rfl (.pickF (.t rfl) hb49 .bool) <| WL.nil <| WN.meet false (Si hm) ⟨.q rfl, .q rfl, .q rfl, .q rfl, .q rfl, .q rfl, .q rfl, trivial⟩ ⟨rfl, rfl, ⟨rfl, rfl, ⟨rfl, rfl, ⟨rfl, rfl, ⟨rfl, rfl, ⟨rfl, rfl, ⟨rfl, rfl, ⟨rfl, rfl, ⟨rfl, rfl, trivial⟩⟩⟩⟩⟩⟩⟩⟩⟩
    ·have hm := hs32
     clear hs32
     obtain ⟨s34, hs35, hk36⟩ := Bs hm
     clear hm
     refine W.join (fun s : Bool => s = s34) (fun s => [(68, (tB.is s)), (0, (tS.is s0_)), (2, (Bp b 0)), (6, (I6.is v1)), (7, (Bp b2 0)), (9, (tS.is cut.2.1)), (10, (tB.is cut.2.2)), (11, (tS.is cut1.2.1)), (13, (tB.is parsef))]) (fun s => [(2, (Bx 11 true 33 ((tapi_TrackedUnit_k8 none).is v3) b)), (7, (Bx 11 true 33 ((tapi_TrackedUnit_k8 none).is t1) b2)), (700000, Gl (tA 3 tS) 0 gv0), (700001, Gl (tA 3 tS) 1 gv1), (700002, Gl (tA 8 tS) 2 gv2), (700003, GlE 3), (700007, GlT Tryz.prog "internal/strconv.uint64pow10" .u64 Lib.pow10Tab), (700008, GlI 8), (700009, GlI 9)]) ?_ ?_
     ·rintro v5 hj42
      try dsimp only at hj42
      subst hj42
      have hm := hk36
      clear hk36
      try dsimp only at hm
      change W _ _ _ _ _ _ _ [(68, (tB.is v5)), (0, (tS.is s0_)), (2, (Bp b 0)), (6, (I6.is v1)), (7, (Bp b2 0)), (9, (tS.is cut.2.1)), (10, (tB.is cut.2.2)), (11, (tS.is cut1.2.1)), (13, (tB.is parsef))] [(2, (Bx 11 true 33 ((tapi_TrackedUnit_k8 none).is v3) b)), (7, (Bx 11 true 33 ((tapi_TrackedUnit_k8 none).is t1) b2)), (700000, Gl (tA 3 tS) 0 gv0), (700001, Gl (tA 3 tS) 1 gv1), (700002, Gl (tA 8 tS) 2 gv2), (700003, GlE 3), (700007, GlT Tryz.prog "internal/strconv.uint64pow10" .u64 Lib.pow10Tab), (700008, GlI 8), (700009, GlI 9)]
      refine W.cB hm (.t rfl) (fun hp40 hm => ?_) (fun hp40 hm => ?_)
      ·refine W.region <| WL.mv rfl rfl ?_
       obtain ⟨parsew, hv41, hm⟩ := Bs hm
       exact Ao rfl (.callG (rin := [(700000, Gl (tA 3 tS) 0 gv0), (700001, Gl (tA 3 tS) 1 gv1), (700003, GlE 3)]) C73 (markup_ParseWords_spec _ _ _ hv41) ⟨rfl, rfl, rfl, trivial⟩ ⟨rfl, rfl, ⟨rfl, rfl, ⟨rfl, rfl, trivial⟩⟩⟩ ⟨(.t rfl), trivial⟩) <| Am rfl rfl <| Ao rfl (.extract0 (.t rfl)) <| Ao rfl (.extract1 (.t rfl)) <| Ao rfl (.fieldAddrB (o := 0) U33 rfl J30 (.t rfl) rfl) <| WL.opU (OpR.storeBF (b := b2) 7 rfl ty30 (sapi_TrackedUnit_k8_6 none) rfl (show 8 + 1 ≤ 11 by decide) (.t rfl) (.t rfl)) fun _ => Ag rfl rfl <| WL.nil <| WN.meet (parsew.2, ({ t1 with Head := parsew.1 } : api_TrackedUnit)) (Si hm) ⟨.q rfl, .q rfl, .q rfl, .q rfl, .q rfl, .q rfl, .q rfl, trivial⟩ ⟨rfl, rfl, ⟨rfl, rfl, ⟨rfl, rfl, ⟨rfl, rfl, ⟨rfl, rfl, ⟨rfl, rfl, ⟨rfl, rfl, ⟨rfl, rfl, ⟨rfl, rfl, trivial⟩⟩⟩⟩⟩⟩⟩⟩⟩
      ·exact W.skip <| WN.meet (parsef, t1) (Si hm) ⟨.q rfl, .q rfl, .q rfl, .q rfl, .q rfl, .q rfl, .q rfl, trivial⟩ ⟨rfl, rfl, ⟨rfl, rfl, ⟨rfl, rfl, ⟨rfl, rfl, ⟨rfl, rfl, ⟨rfl, rfl, ⟨rfl, rfl, ⟨rfl, rfl, ⟨rfl, rfl, trivial⟩⟩⟩⟩⟩⟩⟩⟩⟩
     ·have hm := hs35
      clear hs35
      refine W.region <| Am rfl rfl <| WL.mv rfl rfl ?_
      rcases iteB hm with ⟨hp38, hb37, hm⟩ | ⟨hp38, hb37, hm⟩
      ·exact Ax rfl hb37 (.move (.t rfl)) <| Ao rfl (.pickT (.t rfl) hb37 (.t rfl)) <| WL.nil <| WN.meet parsef (Si hm) ⟨.q rfl, .q rfl, .q rfl, .q rfl, .q rfl, .q rfl, .q rfl, .q rfl, .q rfl, trivial⟩ ⟨rfl, rfl, ⟨rfl, rfl, ⟨rfl, rfl, ⟨rfl, rfl, ⟨rfl, rfl, ⟨rfl, rfl, ⟨rfl, rfl, ⟨rfl, rfl, ⟨rfl, rfl, trivial⟩⟩⟩⟩⟩⟩⟩⟩⟩
      ·exact Ap rfl hb37 <| Ao rfl (.pickF (.t rfl) hb37 .bool) <| WL.nil <| WN.meet false (Si hm) ⟨.q rfl, .q rfl, .q rfl, .q rfl, .q rfl, .q rfl, .q rfl, .q rfl, .q rfl, trivial⟩ ⟨rfl, rfl, ⟨rfl, rfl, ⟨rfl, rfl, ⟨rfl, rfl, ⟨rfl, rfl, ⟨rfl, rfl, ⟨rfl, rfl, ⟨rfl, rfl, ⟨rfl, rfl, trivial⟩⟩⟩⟩⟩⟩⟩⟩⟩
   ·have hm := hs13
    clear hs13
    refine Aw <| WL.mv rfl rfl ?_
    obtain ⟨b3, hv15, hm⟩ := Bs hm
    refine Ao rfl (.sidx hv15 U9 (.t rfl) .i64) <| An <| W.block <| Aw <| Ao rfl (.eqI (.t rfl) (.int (inR8.2 (by omega)))) <| Ag rfl rfl <| An <| W.cD hm (.t rfl) (fun hp17 hm => ?_) (fun hp17 hm => ?_)
    ·exact W.skip <| WN.block <| WN.meet (zapi_TrackedUnit, zapi_TrackedUnit) (Si hm) ⟨.q rfl, .q rfl, .q rfl, .q rfl, .q rfl, trivial⟩ ⟨rfl, rfl, ⟨rfl, rfl, ⟨rfl, rfl, ⟨rfl, rfl, ⟨rfl, rfl, ⟨rfl, rfl, ⟨rfl, rfl, ⟨rfl, rfl, ⟨rfl, rfl, trivial⟩⟩⟩⟩⟩⟩⟩⟩⟩
    ·refine Aw <| Ao rfl (.eqI (.t rfl) (.int (inR8.2 (by omega)))) <| Ag rfl rfl <| An <| W.cD hm (.t rfl) (fun hp19 hm => ?_) (fun hp19 hm => ?_)
     ·exact W.region <| Ao rfl (.fieldAddrB (o := 0) U33 rfl J3 (.t rfl) rfl) <| WL.opU (OpR.storeBF (b := b2) 7 rfl ty3 (sapi_TrackedUnit_k8_0 none) rfl (show 0 + 1 ≤ 11 by decide) (.t rfl) .i64) fun _ => WL.nil <| WN.block <| WN.meet (zapi_TrackedUnit, ({ zapi_TrackedUnit with State := (1 : Int) } : api_TrackedUnit)) (Si hm) ⟨.q rfl, .q rfl, .q rfl, .q rfl, .q rfl, trivial⟩ ⟨rfl, rfl, ⟨rfl, rfl, ⟨rfl, rfl, ⟨rfl, rfl, ⟨rfl, rfl, ⟨rfl, rfl, ⟨rfl, rfl, ⟨rfl, rfl, ⟨rfl, rfl, trivial⟩⟩⟩⟩⟩⟩⟩⟩⟩
     ·refine Aw <| Ao rfl (.eqI (.t rfl) (.int (inR8.2 (by omega)))) <| Ag rfl rfl <| An <| W.cD hm (.t rfl) (fun hp21 hm => ?_) (fun hp21 hm => ?_)
      ·exact W.region <| Ao rfl (.fieldAddrB (o := 0) U33 rfl J3 (.t rfl) rfl) <| WL.opU (OpR.storeBF (b := b2) 7 rfl ty3 (sapi_TrackedUnit_k8_0 none) rfl (show 0 + 1 ≤ 11 by decide) (.t rfl) .i64) fun _ => Ao rfl (.fieldAddrB (o := 0) U33 rfl J4 (.t rfl) rfl) <| WL.opU (OpR.storeBF (b := b2) 7 rfl ty4 (sapi_TrackedUnit_k8_5 none) rfl (show 7 + 1 ≤ 11 by decide) (.t rfl) .bool) fun _ => WL.nil <| WN.block <| WN.meet (zapi_TrackedUnit, ({ ({ zapi_TrackedUnit with State := (1 : Int) } : api_TrackedUnit) with Moved := true } : api_TrackedUnit)) (Si hm) ⟨.q rfl, .q rfl, .q rfl, .q rfl, .q rfl, trivial⟩ ⟨rfl, rfl, ⟨rfl, rfl, ⟨rfl, rfl, ⟨rfl, rfl, ⟨rfl, rfl, ⟨rfl, rfl, ⟨rfl, rfl, ⟨rfl, rfl, ⟨rfl, rfl, trivial⟩⟩⟩⟩⟩⟩⟩⟩⟩
      ·refine Aw <| Ao rfl (.eqI (.t rfl) (.int (inR8.2 (by omega)))) <| Ag rfl rfl <| An <| W.cD hm (.t rfl) (fun hp23 hm => ?_) (fun hp23 hm => ?_)
       ·exact W.region <| Ao rfl (.fieldAddrB (o := 0) U33 rfl J3 (.t rfl) rfl) <| WL.opU (OpR.storeBF (b := b2) 7 rfl ty3 (sapi_TrackedUnit_k8_0 none) rfl (show 0 + 1 ≤ 11 by decide) (.t rfl) .i64) fun _ => WL.nil <| WN.block <| WN.meet (zapi_TrackedUnit, ({ zapi_TrackedUnit with State := (2 : Int) } : api_TrackedUnit)) (Si hm) ⟨.q rfl, .q rfl, .q rfl, .q rfl, .q rfl, trivial⟩ ⟨rfl, rfl, ⟨rfl, rfl, ⟨rfl, rfl, ⟨rfl, rfl, ⟨rfl, rfl, ⟨rfl, rfl, ⟨rfl, rfl, ⟨rfl, rfl, ⟨rfl, rfl, trivial⟩⟩⟩⟩⟩⟩⟩⟩⟩
       ·refine Aw <| Ao rfl (.eqI (.t rfl) (.int (inR8.2 (by omega)))) <| Ag rfl rfl <| An <| W.cD hm (.t rfl) (fun hp25 hm => ?_) (fun hp25 hm => ?_)
        ·exact W.region <| Ao rfl (.fieldAddrB (o := 0) U33 rfl J3 (.t rfl) rfl) <| WL.opU (OpR.storeBF (b := b2) 7 rfl ty3 (sapi_TrackedUnit_k8_0 none) rfl (show 0 + 1 ≤ 11 by decide) (.t rfl) .i64) fun _ => Ao rfl (.fieldAddrB (o := 0) U33 rfl J4 (.t rfl) rfl) <| WL.opU (OpR.storeBF (b := b2) 7 rfl ty4 (sapi_TrackedUnit_k8_5 none) rfl (show 7 + 1 ≤ 11 by decide) (.t rfl) .bool) fun _ => WL.nil <| WN.block <| WN.meet (zapi_TrackedUnit, ({ ({ zapi_TrackedUnit with State := (2 : Int) } : api_TrackedUnit) with Moved := true } : api_TrackedUnit)) (Si hm) ⟨.q rfl, .q rfl, .q rfl, .q rfl, .q rfl, trivial⟩ ⟨rfl, rfl, ⟨rfl, rfl, ⟨rfl, rfl, ⟨rfl, rfl, ⟨rfl, rfl, ⟨rfl, rfl, ⟨rfl, rfl, ⟨rfl, rfl, ⟨rfl, rfl, trivial⟩⟩⟩⟩⟩⟩⟩⟩⟩
        ·refine Aw <| Ao rfl (.build (s := (tapi_TrackedUnit_k8 none)) (x := (⟨(0 : Int), (0 : Int), zapi_Id, ([] : Str), ([] : Str), false, ([] : List api_TrackedWord), ([] : List api_TrackedWord), ([] : List api_TrackedUnit)⟩ : api_TrackedUnit)) zapi_TrackedUnit_f rfl U33 (zapi_TrackedUnit_sz _ U33) zeapi_TrackedUnit_k8 rfl) <| WL.opU (OpR.storeB (b := b) 2 Z33 (Cellable.is (tapi_TrackedUnit_k8 none) (⟨(0 : Int), (0 : Int), zapi_Id, ([] : Str), ([] : Str), false, ([] : List api_TrackedWord), ([] : List api_TrackedWord), ([] : List api_TrackedUnit)⟩ : api_TrackedUnit)) rfl (.t rfl) (.t rfl)) fun _ => Ao rfl (.assign .i64) <| Ao rfl (.assign .bool) <| WL.ns ?_
         have hr26 := Si hm
         clear hm
         subst hr26
         have hm := hk14
         try dsimp only at hm
         cases hm
         exact W.retQ3 () rfl rfl (ResAt.cell 2 Y33 Z33 rfl (.t rfl)) (ResAt.tmp (.t rfl)) (ResAt.tmp (.t rfl)) trivial
 ·have hm := hs5
  clear hs5
  refine W.region <| Am rfl rfl <| Ao rfl (.lenS U9 (.t rfl)) <| Ao rfl (.ltI (.t rfl) .i64) <| WL.mv rfl rfl ?_
  rcases iteD hm with ⟨hp8, hb7, hm⟩ | ⟨hp8, hb7, hm⟩
  ·exact Ap rfl hb7 <| Ap rfl hb7 <| Ap rfl hb7 <| Ao rfl (.pickT (.t rfl) hb7 .bool) <| WL.nil <| WN.meet true (Si hm) ⟨.q rfl, .q rfl, .q rfl, .q rfl, .q rfl, trivial⟩ ⟨rfl, rfl, ⟨rfl, rfl, ⟨rfl, rfl, ⟨rfl, rfl, ⟨rfl, rfl, ⟨rfl, rfl, ⟨rfl, rfl, ⟨rfl, rfl, trivial⟩⟩⟩⟩⟩⟩⟩⟩
  ·refine Ax rfl hb7 (.move (.t rfl)) ?_
   obtain ⟨b1, hv9, hm⟩ := Bs hm
   exact Ax rfl hb7 (.sidx hv9 U9 (.t rfl) .i64) <| Ax rfl hb7 (.neI (.t rfl) (.int (inR8.2 (by omega)))) <| Ao rfl (.pickF (.t rfl) hb7 (.t rfl)) <| WL.nil <| WN.meet (decide ((b1.toNat : Int) ≠ (32 : Int))) (Si hm) ⟨.q rfl, .q rfl, .q rfl, .q rfl, .q rfl, trivial⟩ ⟨rfl, rfl, ⟨rfl, rfl, ⟨rfl, rfl, ⟨rfl, rfl, ⟨rfl, rfl, ⟨rfl, rfl, ⟨rfl, rfl, ⟨rfl, rfl, trivial⟩⟩⟩⟩⟩⟩⟩⟩
end Go.Proofs.YtalogjkalmkpjaaGreatDoor
