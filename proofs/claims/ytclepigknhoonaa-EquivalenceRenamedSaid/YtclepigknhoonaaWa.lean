/-
  The code does what the models say: written by program.
-/
import Derived.Test.YtclepigknhoonaaTy
set_option linter.unusedVariables false
set_option linter.unusedSimpArgs false
namespace Go.Proofs.Ytclepigknhoonaa
open Go Go.Dec

set_option maxRecDepth 100000
set_option maxHeartbeats 4000000
theorem r06_size_spec : ∀ (n : Nat) (u : api_Unit) (deep : Int) (most : Int) (r : Int), M.r06_size n u deep most = some r → FSpec Try.prog 27 [(tapi_Unit.is u), (I6.is deep), (I6.is most)] (I6.is r) := by
 intro n
 induction n with
 | zero => intro u deep most r hm; cases hm
 | succ n ih =>
  intro u deep most r hm
  rw [M.r06_size.eq_2] at hm
  refine FSpec.of Try.func27 rfl rfl rfl fun g0 => Aw <| Ao rfl (.box (.t rfl)) <| Ao rfl (.assign .i64) <| An <| W.seq <| Aw <| Am rfl rfl <| Ao rfl (.gtI (.t rfl) .i64) <| An <| W.cD hm (.t rfl) (fun hp2 hm => ?_) (fun hp2 hm => ?_)
  ·refine Aw <| WL.mv rfl rfl ?_
   obtain ⟨v, hv3, hm⟩ := Bs hm
   refine Ao rfl (.addC hv3 (.t rfl) .i64) <| Ag rfl rfl <| WL.ns ?_
   cases hm
   exact W.ret1 () rfl (.t rfl) trivial
  ·refine W.skip <| Aq <| Aw <| Ao rfl (.assign .i64) <| An <| W.seq <| Aw <| Ao rfl (.assign .i64) <| An <| W.block ?_
   obtain ⟨s4, hs5, hk6⟩ := Bs hm
   clear hm
   refine W.loop (fun m (s : Int × Int) => M.r06_size_loop1 u deep most (M.r06_size n) m s.1 s.2 = some s4) (fun s => [(7, (I6.is s.1)), (8, (I6.is s.2)), (1, (I6.is deep)), (2, (I6.is most)), (3, (tapi_Unit.ptr u))]) (fun s => []) _ ((1 : Int), (0 : Int)) hs5 ⟨.q rfl, .q rfl, .q rfl, .q rfl, .q rfl, trivial⟩ trivial ?_
   rintro n7 ⟨n0_, i⟩ hm
   try dsimp only at hm
   change W _ _ _ _ _ _ _ [(7, (I6.is n0_)), (8, (I6.is i)), (1, (I6.is deep)), (2, (I6.is most)), (3, (tapi_Unit.ptr u))] []
   cases n7 with
   | zero => rw [M.r06_size_loop1.eq_1] at hm; cases hm
   | succ n7 =>
    rw [M.r06_size_loop1.eq_2] at hm
    refine W.seq ?_
    obtain ⟨s8, hs9, hk10⟩ := Bs hm
    clear hm
    refine W.join (fun s : Bool => s = s8) (fun s => [(22, (tB.is s)), (1, (I6.is deep)), (2, (I6.is most)), (3, (tapi_Unit.ptr u)), (7, (I6.is n0_)), (8, (I6.is i))]) (fun s => []) ?_ ?_
    ·rintro v1 hj22
     try dsimp only at hj22
     subst hj22
     have hm := hk10
     clear hk10
     try dsimp only at hm
     change W _ _ _ _ _ _ _ [(22, (tB.is v1)), (1, (I6.is deep)), (2, (I6.is most)), (3, (tapi_Unit.ptr u)), (7, (I6.is n0_)), (8, (I6.is i))] []
     refine W.cB hm (.t rfl) (fun hp14 hm => ?_) (fun hp14 hm => ?_)
     ·refine W.skip <| Aq <| W.seq <| W.block <| W.region <| Am rfl rfl <| Ao rfl (.fieldAddr U27 rfl J25 fapi_Unit_5 (.t rfl)) <| Ao rfl (.load ty25 (.t rfl)) <| WL.mv rfl rfl ?_
      obtain ⟨v2, hv15, hm⟩ := Bs hm
      refine Ao rfl (.idx hv15 U25 Z27 (.t rfl) (.t rfl)) <| Ao rfl (.load ty27 (.t rfl)) <| WL.mv rfl rfl ?_
      obtain ⟨v3, hv16, hm⟩ := Bs hm
      refine Ao rfl (.addC hv16 (.t rfl) .i64) <| Am rfl rfl <| WL.mv rfl rfl ?_
      obtain ⟨v4, hv17, hm⟩ := Bs hm
      refine Ao rfl (.subC hv17 (.t rfl) (.t rfl)) ?_
      obtain ⟨size, hv18, hm⟩ := Bs hm
      refine Ao rfl (.call C27 (ih _ _ _ _ hv18) ⟨(.t rfl), (.t rfl), (.t rfl), trivial⟩) ?_
      obtain ⟨v5, hv19, hm⟩ := Bs hm
      refine Ao rfl (.addC hv19 (.t rfl) (.t rfl)) <| Ag rfl rfl <| WL.nil <| WN.block <| Aq <| W.region <| WL.mv rfl rfl ?_
      obtain ⟨v6, hv20, hm⟩ := Bs hm
      exact Ao rfl (.addC hv20 (.t rfl) .i64) <| Ag rfl rfl <| WL.nil <| WN.again n7 (v5, v6) (Nat.lt_succ_self n7) hm ⟨.q rfl, .q rfl, .q rfl, .q rfl, .q rfl, trivial⟩ trivial
     ·refine W.exit rfl ?_
      have hr21 := Si hm
      clear hm
      subst hr21
      have hm := hk6
      try dsimp only at hm
      refine Aq <| Aw <| Am rfl rfl <| Ag rfl rfl <| WL.ns ?_
      cases hm
      exact W.ret1 () rfl (.t rfl) trivial
    ·have hm := hs9
     clear hs9
     refine W.region <| Am rfl rfl <| Ao rfl (.fieldAddr U27 rfl J25 fapi_Unit_5 (.t rfl)) <| Ao rfl (.load ty25 (.t rfl)) <| Ao rfl (.lenL U25 (.t rfl)) <| Ao rfl (.ltI (.t rfl) (.t rfl)) <| WL.mv rfl rfl ?_
     rcases iteD hm with ⟨hp12, hb11, hm⟩ | ⟨hp12, hb11, hm⟩
     ·exact Ax rfl hb11 (.move (.t rfl)) <| Ax rfl hb11 (.move (.t rfl)) <| Ax rfl hb11 (.leI (.t rfl) (.t rfl)) <| Ao rfl (.pickT (.t rfl) hb11 (.t rfl)) <| WL.nil <| WN.meet (decide (n0_ ≤ most)) (Si hm) ⟨.q rfl, .q rfl, .q rfl, .q rfl, .q rfl, .q rfl, trivial⟩ trivial
     ·exact Ap rfl hb11 <| Ap rfl hb11 <| Ap rfl hb11 <| Ao rfl (.pickF (.t rfl) hb11 .bool) <| WL.nil <| WN.meet false (Si hm) ⟨.q rfl, .q rfl, .q rfl, .q rfl, .q rfl, .q rfl, trivial⟩ trivial

theorem r06_short_spec (n : Nat) (l : List api_Word) (r : Bool) (hm : M.r06_short n l = some r) : FSpec Try.prog 37 [((tL tapi_Word).is l)] (tB.is r) := by
 unfold M.r06_short at hm
 refine FSpec.of Try.func37 rfl rfl rfl fun g0 => Aw <| Ao rfl (.assign .bool) <| An <| W.seq <| Aw <| Ao rfl (.assign .i64) <| An <| W.block ?_
 obtain ⟨s1, hs2, hk3⟩ := Bs hm
 clear hm
 refine W.loop (fun m (s : Int) => M.r06_short_loop1 l m s = some s1) (fun s => [(3, (I6.is s)), (0, ((tL tapi_Word).is l))]) (fun s => []) _ (0 : Int) hs2 ⟨.q rfl, .q rfl, trivial⟩ trivial ?_
 rintro n4 i hm
 try dsimp only at hm
 change W _ _ _ _ _ _ _ [(3, (I6.is i)), (0, ((tL tapi_Word).is l))] []
 cases n4 with
 | zero => rw [M.r06_short_loop1.eq_1] at hm; cases hm
 | succ n4 =>
  rw [M.r06_short_loop1.eq_2] at hm
  refine W.seq <| Aw <| Am rfl rfl <| Am rfl rfl <| Ao rfl (.lenL U24 (.t rfl)) <| Ao rfl (.ltI (.t rfl) (.t rfl)) <| An <| W.cD hm (.t rfl) (fun hp6 hm => ?_) (fun hp6 hm => ?_)
  ·refine W.skip <| Aq <| W.seq <| W.block <| Aw <| Am rfl rfl <| WL.mv rfl rfl ?_
   obtain ⟨v, hv7, hm⟩ := Bs hm
   refine Ao rfl (.idx hv7 U24 Z49 (.t rfl) (.t rfl)) <| Ao rfl (.fieldAddr U49 rfl J9 fapi_Word_0 (.t rfl)) <| Ao rfl (.load ty9 (.t rfl)) <| Ao rfl (.lenS U9 (.t rfl)) <| Ao rfl (.gtI (.t rfl) .i64) <| An <| W.cD hm (.t rfl) (fun hp9 hm => ?_) (fun hp9 hm => ?_)
   ·refine Aw <| Ao rfl (.assign .bool) <| WL.ns ?_
    have hr10 := Si hm
    clear hm
    subst hr10
    have hm := hk3
    try dsimp only at hm
    cases hm
    exact W.ret1 () rfl (.t rfl) trivial
   ·exact W.skip <| WN.block <| Aq <| W.region <| Am rfl rfl <| WL.lenL (s := 0) (.t rfl) fun hl11 => Ao rfl (.addI1 (.t rfl) .i64 hp6 hl11) <| Ag rfl rfl <| WL.nil <| WN.again n4 (i + 1) (Nat.lt_succ_self n4) hm ⟨.q rfl, .q rfl, trivial⟩ trivial
  ·refine W.exit rfl ?_
   have hr12 := Si hm
   clear hm
   subst hr12
   have hm := hk3
   try dsimp only at hm
   refine Aq <| Aw <| Am rfl rfl <| Ao rfl (.lenL U24 (.t rfl)) <| Ao rfl (.leI (.t rfl) .i64) <| Ag rfl rfl <| WL.ns ?_
   cases hm
   exact W.ret1 () rfl (.t rfl) trivial

theorem r06_words_spec : ∀ (n : Nat) (u : api_Unit) (r : Bool), M.r06_words n u = some r → FSpec Try.prog 28 [(tapi_Unit.is u)] (tB.is r) := by
 intro n
 induction n with
 | zero => intro u r hm; cases hm
 | succ n ih =>
  intro u r hm
  rw [M.r06_words.eq_2] at hm
  refine FSpec.of Try.func28 rfl rfl rfl fun g0 => Aw <| Ao rfl (.box (.t rfl)) <| Ao rfl (.assign .bool) <| An <| W.seq ?_
  obtain ⟨s1, hs2, hk3⟩ := Bs hm
  clear hm
  refine W.join (fun s : Bool => s = s1) (fun s => [(19, (tB.is s)), (1, (tapi_Unit.ptr u))]) (fun s => []) ?_ ?_
  ·rintro v hj25
   try dsimp only at hj25
   subst hj25
   have hm := hk3
   clear hk3
   try dsimp only at hm
   change W _ _ _ _ _ _ _ [(19, (tB.is v)), (1, (tapi_Unit.ptr u))] []
   refine W.cB hm (.t rfl) (fun hp11 hm => ?_) (fun hp11 hm => ?_)
   ·refine Aw <| Ao rfl (.assign .bool) <| WL.ns ?_
    cases hm
    exact W.ret1 () rfl (.t rfl) trivial
   ·refine W.skip <| Aq <| W.seq <| Aw <| Ao rfl (.assign .i64) <| An <| W.block ?_
    obtain ⟨s12, hs13, hk14⟩ := Bs hm
    clear hm
    refine W.loop (fun m (s : Int) => M.r06_words_loop1 u (M.r06_words n) m s = some s12) (fun s => [(3, (I6.is s)), (1, (tapi_Unit.ptr u))]) (fun s => []) _ (0 : Int) hs13 ⟨.q rfl, .q rfl, trivial⟩ trivial ?_
    rintro n15 i hm
    try dsimp only at hm
    change W _ _ _ _ _ _ _ [(3, (I6.is i)), (1, (tapi_Unit.ptr u))] []
    cases n15 with
    | zero => rw [M.r06_words_loop1.eq_1] at hm; cases hm
    | succ n15 =>
     rw [M.r06_words_loop1.eq_2] at hm
     refine W.seq <| Aw <| Am rfl rfl <| Ao rfl (.fieldAddr U27 rfl J25 fapi_Unit_5 (.t rfl)) <| Ao rfl (.load ty25 (.t rfl)) <| Ao rfl (.lenL U25 (.t rfl)) <| Ao rfl (.ltI (.t rfl) (.t rfl)) <| An <| W.cD hm (.t rfl) (fun hp17 hm => ?_) (fun hp17 hm => ?_)
     ·refine W.skip <| Aq <| W.seq <| W.block <| Aw <| Ao rfl (.fieldAddr U27 rfl J25 fapi_Unit_5 (.t rfl)) <| Ao rfl (.load ty25 (.t rfl)) <| WL.mv rfl rfl ?_
      obtain ⟨v1, hv18, hm⟩ := Bs hm
      refine Ao rfl (.idx hv18 U25 Z27 (.t rfl) (.t rfl)) <| Ao rfl (.load ty27 (.t rfl)) ?_
      obtain ⟨words, hv19, hm⟩ := Bs hm
      refine Ao rfl (.call C28 (ih _ _ hv19) ⟨(.t rfl), trivial⟩) <| Ao rfl (.notB (.t rfl)) <| An <| W.cR hm (.t rfl) (fun hp21 hm => ?_) (fun hp21 hm => ?_)
      ·refine Aw <| Ao rfl (.assign .bool) <| WL.ns ?_
       have hr22 := Si hm
       clear hm
       subst hr22
       have hm := hk14
       try dsimp only at hm
       cases hm
       exact W.ret1 () rfl (.t rfl) trivial
      ·exact W.skip <| WN.block <| Aq <| W.region <| Am rfl rfl <| WL.lenL (s := 22) (.t rfl) fun hl23 => Ao rfl (.addI1 (.t rfl) .i64 hp17 hl23) <| Ag rfl rfl <| WL.nil <| WN.again n15 (i + 1) (Nat.lt_succ_self n15) hm ⟨.q rfl, .q rfl, trivial⟩ trivial
     ·refine W.exit rfl ?_
      have hr24 := Si hm
      clear hm
      subst hr24
      have hm := hk14
      try dsimp only at hm
      refine Aq <| Aw <| Ao rfl (.assign .bool) <| WL.ns ?_
      cases hm
      exact W.ret1 () rfl (.t rfl) trivial
  ·have hm := hs2
   clear hs2
   refine W.region <| Ao rfl (.fieldAddr U27 rfl J9 fapi_Unit_2 (.t rfl)) <| Ao rfl (.load ty9 (.t rfl)) <| Ao rfl (.lenS U9 (.t rfl)) <| Ao rfl (.gtI (.t rfl) .i64) <| WL.mv rfl rfl ?_
   rcases iteD hm with ⟨hp5, hb4, hm⟩ | ⟨hp5, hb4, hm⟩
   ·exact Ap rfl hb4 <| Ap rfl hb4 <| Ap rfl hb4 <| Ap rfl hb4 <| Ao rfl (.pickT (.t rfl) hb4 .bool) <| Am rfl rfl <| Ap rfl rfl <| Ap rfl rfl <| Ap rfl rfl <| Ap rfl rfl <| Ao rfl (.pickT (.t rfl) rfl .bool) <| WL.nil <| WN.meet true (Si hm) ⟨.q rfl, .q rfl, trivial⟩ trivial
   ·refine Ax rfl hb4 (.fieldAddr U27 rfl J24 fapi_Unit_3 (.t rfl)) <| Ax rfl hb4 (.load ty24 (.t rfl)) ?_
    obtain ⟨short, hv6, hm⟩ := Bs hm
    refine Ax rfl hb4 (.call C37 (r06_short_spec _ _ _ hv6) ⟨(.t rfl), trivial⟩) <| Ax rfl hb4 (.notB (.t rfl)) <| Ao rfl (.pickF (.t rfl) hb4 (.t rfl)) <| WL.mv rfl rfl ?_
    rcases iteR hm with ⟨hp8, hb7, hm⟩ | ⟨hp8, hb7, hm⟩
    ·exact Ap rfl hb7 <| Ap rfl hb7 <| Ap rfl hb7 <| Ap rfl hb7 <| Ao rfl (.pickT (.t rfl) hb7 .bool) <| WL.nil <| WN.meet true (Si hm) ⟨.q rfl, .q rfl, trivial⟩ trivial
    ·refine Ax rfl hb7 (.fieldAddr U27 rfl J24 fapi_Unit_4 (.t rfl)) <| Ax rfl hb7 (.load ty24 (.t rfl)) ?_
     obtain ⟨short1, hv9, hm⟩ := Bs hm
     exact Ax rfl hb7 (.call C37 (r06_short_spec _ _ _ hv9) ⟨(.t rfl), trivial⟩) <| Ax rfl hb7 (.notB (.t rfl)) <| Ao rfl (.pickF (.t rfl) hb7 (.t rfl)) <| WL.nil <| WN.meet (!short1) (Si hm) ⟨.q rfl, .q rfl, trivial⟩ trivial

theorem r06_Few_spec (n : Nat) (u : api_Unit) (most : Int) (r : Bool) (hm : M.r06_Few n u most = some r) : FSpec Try.prog 18 [(tapi_Unit.is u), (I6.is most)] (tB.is r) := by
 unfold M.r06_Few at hm
 refine FSpec.of Try.func18 rfl rfl rfl fun g0 => Aw <| Ao rfl (.box (.t rfl)) <| Ao rfl (.assign .bool) <| Ar <| Ao rfl (.load ty27 (.t rfl)) <| WL.mv rfl rfl ?_
 obtain ⟨size, hv1, hm⟩ := Bs hm
 refine Ao rfl (.call C27 (r06_size_spec _ _ _ _ _ hv1) ⟨(.t rfl), .i64, (.t rfl), trivial⟩) <| Am rfl rfl <| Ao rfl (.leI (.t rfl) (.t rfl)) <| WL.mv rfl rfl ?_
 rcases iteD hm with ⟨hp3, hb2, hm⟩ | ⟨hp3, hb2, hm⟩
 ·refine Ax rfl hb2 (.load ty27 (.t rfl)) ?_
  obtain ⟨words, hv4, hm⟩ := Bs hm
  refine Ax rfl hb2 (.call C28 (r06_words_spec _ _ _ hv4) ⟨(.t rfl), trivial⟩) <| Ao rfl (.pickT (.t rfl) hb2 (.t rfl)) <| Ag rfl rfl <| WL.ns ?_
  cases hm
  exact W.ret1 () rfl (.t rfl) trivial
 ·refine Ap rfl hb2 <| Ap rfl hb2 <| Ao rfl (.pickF (.t rfl) hb2 .bool) <| Ag rfl rfl <| WL.ns ?_
  cases hm
  exact W.ret1 () rfl (.t rfl) trivial

theorem law48_heavy_spec (n : Nat) (a : api_Unit) (b : api_Unit) (l : List api_Destination) (x : List api_Meaning) (y : List api_Meaning) (r : Bool) (hm : M.law48_heavy n a b l x y = some r) : FSpec Try.prog 7 [(tapi_Unit.is a), (tapi_Unit.is b), ((tL tapi_Destination).is l), ((tL tapi_Meaning).is x), ((tL tapi_Meaning).is y)] (tB.is r) := by
 unfold M.law48_heavy at hm
 refine FSpec.of Try.func7 rfl rfl rfl fun g0 => Aw <| Ao rfl (.box (.t rfl)) <| Ao rfl (.box (.t rfl)) <| Ao rfl (.assign .bool) <| An <| W.seq ?_
 obtain ⟨s1, hs2, hk3⟩ := Bs hm
 clear hm
 refine W.join (fun s : Bool => s = s1) (fun s => [(33, (tB.is s)), (3, ((tL tapi_Meaning).is x)), (4, ((tL tapi_Meaning).is y))]) (fun s => []) ?_ ?_
 ·rintro v hj33
  try dsimp only at hj33
  subst hj33
  have hm := hk3
  clear hk3
  try dsimp only at hm
  change W _ _ _ _ _ _ _ [(33, (tB.is v)), (3, ((tL tapi_Meaning).is x)), (4, ((tL tapi_Meaning).is y))] []
  refine W.cB hm (.t rfl) (fun hp14 hm => ?_) (fun hp14 hm => ?_)
  ·refine Aw <| Ao rfl (.assign .bool) <| WL.ns ?_
   cases hm
   exact W.ret1 () rfl (.t rfl) trivial
  ·refine W.skip <| Aq <| W.seq <| Aw <| WL.opR rfl (OpR.buildSlice (n := 0) (ys := []) (z := zapi_Meaning) (xs := ([] : List api_Meaning)) 34 U28 el44 ze44 trivial (by simp) (by decide) rfl) fun k => WL.mv rfl rfl ?_
   obtain ⟨out, hv15, hm⟩ := Bs hm
   refine WL.opR rfl (OpR.appC (key := 34) hv15 U28 el44 (.t rfl) (.t rfl) rfl) fun k1 => WL.mv rfl rfl ?_
   obtain ⟨out1, hv16, hm⟩ := Bs hm
   refine WL.opR rfl (OpR.appC (key := 34) hv16 U28 el44 (.t rfl) (.t rfl) rfl) fun k2 => Ao rfl (.lenL U28 (Opd.own (.t rfl))) <| Ao rfl (.move .i64) <| An <| W.block ?_
   obtain ⟨s17, hs18, hk19⟩ := Bs hm
   clear hm
   refine W.loop (fun m (s : Int × List api_Meaning × List api_Meaning × Unit) => m = s.2.2.1.length ∧ out1 = s.2.1 ++ s.2.2.1 ∧ s.1 = (s.2.1.length : Int) ∧ M.law48_heavy_loop1 s.2.2.1 = some s17) (fun s => [(40, (I6.is s.1)), (38, (tO tapi_Meaning k2 out1)), (39, (I6.is (out1.length : Int)))]) (fun s => [(34, Dec.Own tapi_Meaning 44 k2 out1.length)]) out1.length ((0 : Int), [], out1, ()) ⟨rfl, rfl, rfl, hs18⟩ ⟨.q rfl, .q rfl, .q rfl, trivial⟩ ⟨rfl, rfl, trivial⟩ ?_
   rintro m ⟨i, pre, rest1, _⟩ ⟨hn23, hxs20, hi21, hm⟩
   try dsimp only at hn23 hxs20 hi21 hm
   change W _ _ _ _ _ _ _ [(40, (I6.is i)), (38, (tO tapi_Meaning k2 out1)), (39, (I6.is (out1.length : Int)))] [(34, Dec.Own tapi_Meaning 44 k2 out1.length)]
   refine W.lenL (s := 38) (Opd.own (.t rfl)) fun hlen22 => Aw <| Ao rfl (.ltI (.t rfl) (.t rfl)) <| An <| W.seq <| W.cond (.t rfl) (fun hc25 => ?_) (fun hc25 => ?_)
   ·have hp26 := of_decide_eq_true hc25
    obtain ⟨e, es, hrest28⟩ := range_more hxs20 hi21 hp26
    subst hrest28
    rw [M.law48_heavy_loop1.eq_2] at hm
    refine W.skip <| Aq <| W.seq <| W.block <| Aw <| Ao rfl (.idxPre hxs20 hi21 U28 Z44 (Opd.own (.t rfl)) (.t rfl)) <| Ao rfl (.load ty44 (.t rfl)) <| WL.opR rfl (OpR.alloc 12 ze44) fun b1 => WL.opU (OpR.storeB (b := b1) 12 Z44 (Cellable.is tapi_Meaning e) rfl (.t rfl) (.t rfl)) fun _ => WL.sealed (t := tapi_Meaning) (u := e) 12 12 rfl rfl <| Ar <| Ao rfl (.fieldAddr U44 rfl J36 fapi_Meaning_2 (.t rfl)) <| Ao rfl (.load ty36 (.t rfl)) <| Ao rfl (.lenL U36 (.t rfl)) <| Ao rfl (.gtI (.t rfl) .i64) <| WL.ns ?_
    refine W.cD hm (.t rfl) (fun hp30 hm => ?_) (fun hp30 hm => ?_)
    ·refine Aw <| Ao rfl (.assign .bool) <| WL.ns ?_
     have hr31 := Si hm
     clear hm
     subst hr31
     have hm := hk19
     try dsimp only at hm
     cases hm
     exact W.ret1 () rfl (.t rfl) trivial
    ·exact W.skip <| WN.block <| Aq <| W.region <| Ao rfl (.addI (.t rfl) .i64 (range_inR hi21 hp26 hlen22)) <| Am rfl rfl <| WL.nil <| WN.again es.length (i + 1, pre ++ [e], es, ()) (range_lt hn23) ⟨rfl, range_step hxs20, range_idx hi21, hm⟩ ⟨.q rfl, .q rfl, .q rfl, trivial⟩ ⟨rfl, rfl, trivial⟩
   ·have hrest28 := range_end hxs20 hi21 (of_decide_eq_false hc25)
    subst hrest28
    rw [M.law48_heavy_loop1.eq_1] at hm
    refine W.exit rfl ?_
    have hr32 := Si hm
    clear hm
    subst hr32
    have hm := hk19
    try dsimp only at hm
    refine Aq <| Aw <| Ao rfl (.assign .bool) <| WL.ns ?_
    cases hm
    exact W.ret1 () rfl (.t rfl) trivial
 ·have hm := hs2
  clear hs2
  refine W.region <| Ao rfl (.load ty27 (.t rfl)) ?_
  obtain ⟨few, hv4, hm⟩ := Bs hm
  refine Ao rfl (.call C18 (r06_Few_spec _ _ _ _ hv4) ⟨(.t rfl), .i64, trivial⟩) <| Ao rfl (.notB (.t rfl)) <| WL.mv rfl rfl ?_
  rcases iteR hm with ⟨hp6, hb5, hm⟩ | ⟨hp6, hb5, hm⟩
  ·refine Ap rfl hb5 <| Ap rfl hb5 <| Ap rfl hb5 <| Ao rfl (.pickT (.t rfl) hb5 .bool) <| Am rfl rfl <| Ap rfl rfl <| Ap rfl rfl <| Ap rfl rfl <| Ao rfl (.pickT (.t rfl) rfl .bool) <| Am rfl rfl <| Ap rfl rfl <| Ap rfl rfl <| Ap rfl rfl <| Ap rfl rfl <| Ap rfl rfl <| Ap rfl rfl ?_
   exact Ao rfl (.pickT (.t rfl) rfl .bool) <| WL.nil <| WN.meet true (Si hm) ⟨.q rfl, .q rfl, .q rfl, trivial⟩ trivial
  ·refine Ax rfl hb5 (.load ty27 (.t rfl)) ?_
   obtain ⟨few1, hv7, hm⟩ := Bs hm
   refine Ax rfl hb5 (.call C18 (r06_Few_spec _ _ _ _ hv7) ⟨(.t rfl), .i64, trivial⟩) <| Ax rfl hb5 (.notB (.t rfl)) <| Ao rfl (.pickF (.t rfl) hb5 (.t rfl)) <| WL.mv rfl rfl ?_
   rcases iteR hm with ⟨hp9, hb8, hm⟩ | ⟨hp9, hb8, hm⟩
   ·exact Ap rfl hb8 <| Ap rfl hb8 <| Ap rfl hb8 <| Ao rfl (.pickT (.t rfl) hb8 .bool) <| Am rfl rfl <| Ap rfl rfl <| Ap rfl rfl <| Ap rfl rfl <| Ap rfl rfl <| Ap rfl rfl <| Ap rfl rfl <| Ao rfl (.pickT (.t rfl) rfl .bool) <| WL.nil <| WN.meet true (Si hm) ⟨.q rfl, .q rfl, .q rfl, trivial⟩ trivial
   ·refine Ax rfl hb8 (.move (.t rfl)) <| Ax rfl hb8 (.lenL U32 (.t rfl)) <| Ax rfl hb8 (.gtI (.t rfl) .i64) <| Ao rfl (.pickF (.t rfl) hb8 (.t rfl)) <| WL.mv rfl rfl ?_
    rcases iteD hm with ⟨hp11, hb10, hm⟩ | ⟨hp11, hb10, hm⟩
    ·exact Ap rfl hb10 <| Ap rfl hb10 <| Ap rfl hb10 <| Ap rfl hb10 <| Ap rfl hb10 <| Ap rfl hb10 <| Ao rfl (.pickT (.t rfl) hb10 .bool) <| WL.nil <| WN.meet true (Si hm) ⟨.q rfl, .q rfl, .q rfl, trivial⟩ trivial
    ·refine Ax rfl hb10 (.move (.t rfl)) <| Ax rfl hb10 (.lenL U28 (.t rfl)) <| Ax rfl hb10 (.move (.t rfl)) <| Ax rfl hb10 (.lenL U28 (.t rfl)) ?_
     obtain ⟨v1, hv12, hm⟩ := Bs hm
     exact Ax rfl hb10 (.addC hv12 (.t rfl) (.t rfl)) <| Ax rfl hb10 (.gtI (.t rfl) .i64) <| Ao rfl (.pickF (.t rfl) hb10 (.t rfl)) <| WL.nil <| WN.meet (decide ((40 : Int) < v1)) (Si hm) ⟨.q rfl, .q rfl, .q rfl, trivial⟩ trivial

theorem r06_All_spec : ∀ (n : Nat) (u : api_Unit) (r : (List api_Id)), M.r06_All n u = some r → FSpec Try.prog 14 [(tapi_Unit.is u)] ((tL tapi_Id).is r) := by
 intro n
 induction n with
 | zero => intro u r hm; cases hm
 | succ n ih =>
  intro u r hm
  rw [M.r06_All.eq_2] at hm
  refine FSpec.of Try.func14 rfl rfl rfl fun g0 => Aw <| Ao rfl (.box (.t rfl)) <| Ao rfl (.assign (.nil (t := tapi_Id))) <| Ar <| Ao rfl (.fieldAddr U27 rfl J23 fapi_Unit_0 (.t rfl)) <| Ao rfl (.load ty23 (.t rfl)) <| WL.opR rfl (OpR.buildSlice (n := 1) (ys := [(0, u.Id)]) (z := zapi_Id) (xs := [u.Id]) 7 U36 el23 ze23 ⟨rfl, (.t rfl), trivial⟩ (by simp) (by decide) rfl) fun k => Ag rfl rfl <| An <| W.seq <| Aw <| Ao rfl (.assign .i64) <| An <| W.block ?_
  obtain ⟨s1, hs2, hk3⟩ := Bs hm
  clear hm
  refine W.loop (fun m (s : ((List api_Id) × Int) × Tok) => M.r06_All_loop1 u (M.r06_All n) m s.1.1 s.1.2 = some s1) (fun s => [(3, (tO tapi_Id s.2 s.1.1)), (4, (I6.is s.1.2)), (1, (tapi_Unit.ptr u))]) (fun s => [(7, Dec.Own tapi_Id 23 s.2 s.1.1.length)]) _ (([u.Id], (0 : Int)), k) hs2 ⟨.q rfl, .q rfl, .q rfl, trivial⟩ ⟨rfl, rfl, trivial⟩ ?_
  rintro n4 ⟨⟨out, i⟩, k1⟩ hm
  try dsimp only at hm
  change W _ _ _ _ _ _ _ [(3, (tO tapi_Id k1 out)), (4, (I6.is i)), (1, (tapi_Unit.ptr u))] [(7, Dec.Own tapi_Id 23 k1 out.length)]
  cases n4 with
  | zero => rw [M.r06_All_loop1.eq_1] at hm; cases hm
  | succ n4 =>
   rw [M.r06_All_loop1.eq_2] at hm
   refine W.seq <| Aw <| Am rfl rfl <| Ao rfl (.fieldAddr U27 rfl J25 fapi_Unit_5 (.t rfl)) <| Ao rfl (.load ty25 (.t rfl)) <| Ao rfl (.lenL U25 (.t rfl)) <| Ao rfl (.ltI (.t rfl) (.t rfl)) <| An <| W.cD hm (.t rfl) (fun hp6 hm => ?_) (fun hp6 hm => ?_)
   ·refine W.skip <| Aq <| W.seq <| W.block <| W.region <| Am rfl rfl <| Ao rfl (.fieldAddr U27 rfl J25 fapi_Unit_5 (.t rfl)) <| Ao rfl (.load ty25 (.t rfl)) <| WL.mv rfl rfl ?_
    obtain ⟨v, hv7, hm⟩ := Bs hm
    refine Ao rfl (.idx hv7 U25 Z27 (.t rfl) (.t rfl)) <| Ao rfl (.load ty27 (.t rfl)) ?_
    obtain ⟨all, hv8, hm⟩ := Bs hm
    refine Ao rfl (.call C14 (ih _ _ hv8) ⟨(.t rfl), trivial⟩) ?_
    obtain ⟨out1, hv9, hm⟩ := Bs hm
    exact WL.opR rfl (OpR.appC (key := 7) hv9 U36 el23 (.t rfl) (.t rfl) rfl) fun k2 => Ag rfl rfl <| WL.nil <| WN.block <| Aq <| W.region <| Am rfl rfl <| WL.lenL (s := 10) (.t rfl) fun hl10 => Ao rfl (.addI1 (.t rfl) .i64 hp6 hl10) <| Ag rfl rfl <| WL.nil <| WN.again n4 ((out1, i + 1), k2) (Nat.lt_succ_self n4) hm ⟨.q rfl, .q rfl, .q rfl, trivial⟩ ⟨rfl, rfl, trivial⟩
   ·refine W.exit rfl ?_
    have hr11 := Si hm
    clear hm
    subst hr11
    have hm := hk3
    try dsimp only at hm
    refine Aq <| Aw <| Am rfl rfl <| Ag rfl rfl <| WL.ns ?_
    cases hm
    exact W.ret1 () rfl (Opd.own (.t rfl)) trivial

theorem law48_once_spec (n : Nat) (u : api_Unit) (r : Bool) (hm : M.law48_once n u = some r) : FSpec Try.prog 8 [(tapi_Unit.is u)] (tB.is r) := by
 unfold M.law48_once at hm
 refine FSpec.of Try.func8 rfl rfl rfl fun g0 => Aw <| Ao rfl (.box (.t rfl)) <| Ao rfl (.assign .bool) <| Ar <| Ao rfl (.load ty27 (.t rfl)) ?_
 obtain ⟨all, hv1, hm⟩ := Bs hm
 refine Ao rfl (.call C14 (r06_All_spec _ _ _ hv1) ⟨(.t rfl), trivial⟩) <| Ag rfl rfl <| An <| W.seq <| Aw <| Am rfl rfl <| Ao rfl (.lenL U36 (.t rfl)) <| Ao rfl (.move .i64) <| An <| W.block ?_
 obtain ⟨s2, hs3, hk4⟩ := Bs hm
 clear hm
 refine W.loop (fun m (s : Int) => M.law48_once_loop1 all m s = some s2) (fun s => [(10, (I6.is s)), (3, ((tL tapi_Id).is all)), (9, (I6.is (all.length : Int)))]) (fun s => []) _ (0 : Int) hs3 ⟨.q rfl, .q rfl, .q rfl, trivial⟩ trivial ?_
 rintro n5 v hm
 try dsimp only at hm
 change W _ _ _ _ _ _ _ [(10, (I6.is v)), (3, ((tL tapi_Id).is all)), (9, (I6.is (all.length : Int)))] []
 cases n5 with
 | zero => rw [M.law48_once_loop1.eq_1] at hm; cases hm
 | succ n5 =>
  rw [M.law48_once_loop1.eq_2] at hm
  refine Aw <| Ao rfl (.ltI (.t rfl) (.t rfl)) <| An <| W.seq <| W.cD hm (.t rfl) (fun hp7 hm => ?_) (fun hp7 hm => ?_)
  ·refine W.skip <| Aq <| W.seq <| W.block <| Aw <| Am rfl rfl <| Ag rfl rfl <| Ar <| Ao rfl (.assign .i64) <| An <| W.block ?_
   obtain ⟨s8, hs9, hk10⟩ := Bs hm
   clear hm
   refine W.loop (fun m (s : Int) => M.law48_once_loop2 all v m s = some s8) (fun s => [(5, (I6.is s)), (3, ((tL tapi_Id).is all)), (4, (I6.is v)), (9, (I6.is (all.length : Int))), (10, (I6.is v))]) (fun s => []) _ (0 : Int) hs9 ⟨.q rfl, .q rfl, .q rfl, .q rfl, .q rfl, trivial⟩ trivial ?_
   rintro n11 k hm
   try dsimp only at hm
   change W _ _ _ _ _ _ _ [(5, (I6.is k)), (3, ((tL tapi_Id).is all)), (4, (I6.is v)), (9, (I6.is (all.length : Int))), (10, (I6.is v))] []
   cases n11 with
   | zero => rw [M.law48_once_loop2.eq_1] at hm; cases hm
   | succ n11 =>
    rw [M.law48_once_loop2.eq_2] at hm
    refine W.seq <| Aw <| Am rfl rfl <| Am rfl rfl <| Ao rfl (.ltI (.t rfl) (.t rfl)) <| An <| W.cD hm (.t rfl) (fun hp13 hm => ?_) (fun hp13 hm => ?_)
    ·refine W.skip <| Aq <| W.seq <| W.block <| W.seq ?_
     obtain ⟨v1, hv14, hm⟩ := Bs hm
     obtain ⟨v2, hv15, hm⟩ := Bs hm
     refine W.draw [.c _, .c _, .c _, .c _, .c _, .c _, .c _, .c _, .c _] [([], [3]), ([], [4]), ([0, 1], []), ([2], []), ([], [3]), ([], [5]), ([4, 5], []), ([6], []), ([3, 7], [])] Mx rfl rfl rfl rfl ⟨Dn (.move (.t rfl)), Dn (.move (.t rfl)), Dn (.idx hv14 U36 Z23 (.t rfl) (.t rfl)), Dn (.load ty23 (.t rfl)), Dn (.move (.t rfl)), Dn (.move (.t rfl)), Dn (.idx hv15 U36 Z23 (.t rfl) (.t rfl)), Dn (.load ty23 (.t rfl)), Dn (.eqSt (D := 2) rfl (by decide) eg23 eq23 (.t rfl) (.t rfl)), trivial⟩ <| Aq <| W.cD hm (.t rfl) (fun hp17 hm => ?_) (fun hp17 hm => ?_)
     ·refine Aw <| Ao rfl (.assign .bool) <| WL.ns ?_
      have hr18 := Si hm
      clear hm
      subst hr18
      have hm := hk10
      try dsimp only at hm
      have hr19 := Si hm
      clear hm
      subst hr19
      have hm := hk4
      try dsimp only at hm
      cases hm
      exact W.ret1 () rfl (.t rfl) trivial
     ·refine W.skip <| WN.block <| Aq <| W.region <| WL.mv rfl rfl ?_
      obtain ⟨v3, hv20, hm⟩ := Bs hm
      exact Ao rfl (.addC hv20 (.t rfl) .i64) <| Ag rfl rfl <| WL.nil <| WN.again n11 v3 (Nat.lt_succ_self n11) hm ⟨.q rfl, .q rfl, .q rfl, .q rfl, .q rfl, trivial⟩ trivial
    ·refine W.exit rfl ?_
     have hr21 := Si hm
     clear hm
     subst hr21
     have hm := hk10
     try dsimp only at hm
     refine WN.block <| Aq <| W.region ?_
     obtain ⟨v4, hv22, hm⟩ := Bs hm
     exact Ao rfl (.addC hv22 (.t rfl) .i64) <| Am rfl rfl <| WL.nil <| WN.again n5 v4 (Nat.lt_succ_self n5) hm ⟨.q rfl, .q rfl, .q rfl, trivial⟩ trivial
  ·refine W.exit rfl ?_
   have hr23 := Si hm
   clear hm
   subst hr23
   have hm := hk4
   try dsimp only at hm
   refine Aq <| Aw <| Ao rfl (.assign .bool) <| WL.ns ?_
   cases hm
   exact W.ret1 () rfl (.t rfl) trivial

theorem law48_awake_1_spec (n0_ : Int) (r : api_Id) (hm : M.law48_awake_1 n0_ = some r) : FSpec Try.prog 19 [(I6.is n0_)] (tapi_Id.is r) := by
 unfold M.law48_awake_1 at hm
 refine FSpec.of Try.func19 rfl rfl rfl fun g0 => Aw <| WL.opR rfl (OpR.alloc 2 ze23) fun b => Ar <| Am rfl rfl <| Ao rfl (.build (s := tapi_Id) (x := (⟨(1 : Int), (0 : Int), n0_⟩ : api_Id)) zapi_Id_f rfl U23 (zapi_Id_sz _ U23) ze23 ⟨_, I6, (1 : Int), _, _, rfl, Z3, .i64, sapi_Id_0, ⟨_, I6, n0_, _, _, rfl, Z3, (.t rfl), sapi_Id_2, rfl⟩⟩) <| WL.opU (OpR.storeB (b := b) 2 Z23 (Cellable.is tapi_Id (⟨(1 : Int), (0 : Int), n0_⟩ : api_Id)) rfl (.t rfl) (.t rfl)) fun _ => WL.ns ?_
 cases hm
 exact W.retQ1 () rfl (ResAt.cell 2 Y23 Z23 rfl (.t rfl)) trivial

theorem law48_awake_2_spec (l : List Str) (r : (List api_Word)) (hm : M.law48_awake_2 l = some r) : FSpec Try.prog 20 [((tL tS).is l)] ((tL tapi_Word).is r) := by
 unfold M.law48_awake_2 at hm
 refine FSpec.of Try.func20 rfl rfl rfl fun g0 => Aw <| Ao rfl (.assign (.nil (t := tapi_Word))) <| Ar <| WL.addNil (t := tapi_Word) (E := 49) 3 <| Ao rfl (.assign (Opd.nilO (t := tapi_Word))) <| An <| W.seq <| Aw <| Am rfl rfl <| Ao rfl (.lenL U60 (.t rfl)) <| Ao rfl (.move .i64) <| An <| W.block ?_
 obtain ⟨s1, hs2, hk3⟩ := Bs hm
 clear hm
 refine W.loop (fun m (s : Int × List Str × List Str × (((List api_Word)) × Tok)) => m = s.2.2.1.length ∧ l = s.2.1 ++ s.2.2.1 ∧ s.1 = (s.2.1.length : Int) ∧ M.law48_awake_2_loop1 s.2.2.1 s.2.2.2.1 = some s1) (fun s => [(8, (I6.is s.1)), (3, (tO tapi_Word s.2.2.2.2 s.2.2.2.1)), (6, ((tL tS).is l)), (7, (I6.is (l.length : Int)))]) (fun s => [(3, Dec.Own tapi_Word 49 s.2.2.2.2 s.2.2.2.1.length)]) l.length ((0 : Int), [], l, (([] : List api_Word), (none : Tok))) ⟨rfl, rfl, rfl, hs2⟩ ⟨.q rfl, .q rfl, .q rfl, .q rfl, trivial⟩ ⟨rfl, rfl, trivial⟩ ?_
 rintro m ⟨i, pre, rest1, ⟨out, k⟩⟩ ⟨hn7, hxs4, hi5, hm⟩
 try dsimp only at hn7 hxs4 hi5 hm
 change W _ _ _ _ _ _ _ [(8, (I6.is i)), (3, (tO tapi_Word k out)), (6, ((tL tS).is l)), (7, (I6.is (l.length : Int)))] [(3, Dec.Own tapi_Word 49 k out.length)]
 refine W.lenL (s := 6) (.t rfl) fun hlen6 => Aw <| Ao rfl (.ltI (.t rfl) (.t rfl)) <| An <| W.seq <| W.cond (.t rfl) (fun hc9 => ?_) (fun hc9 => ?_)
 ·have hp10 := of_decide_eq_true hc9
  obtain ⟨e, es, hrest12⟩ := range_more hxs4 hi5 hp10
  subst hrest12
  rw [M.law48_awake_2_loop1.eq_2] at hm
  refine W.skip <| Aq <| W.seq <| W.block <| Aw <| Ao rfl (.idxPre hxs4 hi5 U60 Z9 (.t rfl) (.t rfl)) <| Ao rfl (.load ty9 (.t rfl)) <| Ag rfl rfl <| WL.nr1 <| Am rfl rfl <| Am rfl rfl <| Ao rfl (.build (s := tapi_Word) (x := (⟨e, zapi_Mark⟩ : api_Word)) zapi_Word_f rfl U49 (zapi_Word_sz _ U49) ze49 ⟨_, tS, e, _, _, rfl, Z9, (.t rfl), sapi_Word_0, rfl⟩) <| Ao rfl (.buildSlice (n := 1) (ys := [(0, (⟨e, zapi_Mark⟩ : api_Word))]) (z := zapi_Word) (xs := [(⟨e, zapi_Mark⟩ : api_Word)]) U24 el49 ze49 ⟨rfl, (.t rfl), trivial⟩ (by simp) (by decide) rfl) ?_
  obtain ⟨out1, hv13, hm⟩ := Bs hm
  exact WL.opR rfl (OpR.appC (key := 3) hv13 U24 el49 (.t rfl) (.t rfl) rfl) fun k1 => Ag rfl rfl <| WL.nil <| WN.block <| Aq <| W.region <| Ao rfl (.addI (.t rfl) .i64 (range_inR hi5 hp10 hlen6)) <| Am rfl rfl <| WL.nil <| WN.again es.length (i + 1, pre ++ [e], es, (out1, k1)) (range_lt hn7) ⟨rfl, range_step hxs4, range_idx hi5, hm⟩ ⟨.q rfl, .q rfl, .q rfl, .q rfl, trivial⟩ ⟨rfl, rfl, trivial⟩
 ·have hrest12 := range_end hxs4 hi5 (of_decide_eq_false hc9)
  subst hrest12
  rw [M.law48_awake_2_loop1.eq_1] at hm
  refine W.exit rfl ?_
  have hr14 := Si hm
  clear hm
  subst hr14
  have hm := hk3
  try dsimp only at hm
  refine Aq <| Aw <| Am rfl rfl <| Ag rfl rfl <| WL.ns ?_
  cases hm
  exact W.ret1 () rfl (Opd.own (.t rfl)) trivial

theorem equivalence_made_spec (a : api_Unit) (b : api_Unit) (l : List api_Destination) (r : equivalence_table) (hm : M.equivalence_made a b l = some r) : FSpec Try.prog 22 [(tapi_Unit.is a), (tapi_Unit.is b), ((tL tapi_Destination).is l)] ((tPt tequivalence_table).is r) := by
 unfold M.equivalence_made at hm
 refine FSpec.of Try.func22 rfl rfl rfl fun g0 => Aw <| Ao rfl (.box (.t rfl)) <| Ao rfl (.box (.t rfl)) <| Ao rfl (.assign (show Opd _ (Operand.const (Value.pointer none)) (Asn.eq (Value.pointer none)) from fun _ _ _ => rfl)) <| Ar <| Ao rfl (.load ty27 (.t rfl)) <| Ao rfl (.load ty27 (.t rfl)) <| WL.opR rfl (OpR.makeMapA tapi_Id tapi_Id 23 12) fun b1 => WL.opR rfl (OpR.makeMapA tapi_Id tapi_Id 23 13) fun b2 => Ao rfl (.buildT (s := (tMap (tP tapi_Unit (tP tapi_Unit (tP (tM tapi_Id (tL tapi_Id)) (tOne (tM tapi_Id (tL tapi_Id)))))) (fun x : equivalence_table => (x.a_, x.b_, x.to_, x.from_)))) (s' := (tMap (tP tapi_Unit (tP tapi_Unit (tP (tMb b1) (tOne (tMb b2))))) (fun x : equivalence_table => (x.a_, x.b_, x.to_, x.from_)))) (x := (⟨a, b, ([] : List (api_Id × (List api_Id))), ([] : List (api_Id × (List api_Id)))⟩ : equivalence_table)) zequivalence_table_f rfl Try.underlying76 (zequivalence_table_sz _ Try.underlying76) ze76 ⟨(tMap (tP tapi_Unit (tP tapi_Unit (tP (tM tapi_Id (tL tapi_Id)) (tOne (tM tapi_Id (tL tapi_Id)))))) (fun x : equivalence_table => (x.a_, x.b_, x.to_, x.from_))), _, tapi_Unit, a, _, _, rfl, Z27, (.t rfl), FldSet.toT ((FldSet.map (m := (fun x : equivalence_table => (x.a_, x.b_, x.to_, x.from_))) (f' := fun x y => { x with a_ := y }) (FldSet.here tapi_Unit (tP tapi_Unit (tP (tM tapi_Id (tL tapi_Id)) (tOne (tM tapi_Id (tL tapi_Id)))))) (fun _ _ => rfl)).cast rfl rfl), ⟨(tMap (tP tapi_Unit (tP tapi_Unit (tP (tM tapi_Id (tL tapi_Id)) (tOne (tM tapi_Id (tL tapi_Id)))))) (fun x : equivalence_table => (x.a_, x.b_, x.to_, x.from_))), _, tapi_Unit, b, _, _, rfl, Z27, (.t rfl), FldSet.toT ((FldSet.map (m := (fun x : equivalence_table => (x.a_, x.b_, x.to_, x.from_))) (f' := fun x y => { x with b_ := y }) (FldSet.next (s := tapi_Unit) (FldSet.here tapi_Unit (tP (tM tapi_Id (tL tapi_Id)) (tOne (tM tapi_Id (tL tapi_Id)))))) (fun _ _ => rfl)).cast rfl rfl), ⟨(tMap (tP tapi_Unit (tP tapi_Unit (tP (tMb b1) (tOne (tM tapi_Id (tL tapi_Id)))))) (fun x : equivalence_table => (x.a_, x.b_, x.to_, x.from_))), _, (tMb b1), ([] : List (api_Id × (List api_Id))), _, _, rfl, Z74, (Opd.toMb (.t rfl)), ((FldSetT.map (m := (fun x : equivalence_table => (x.a_, x.b_, x.to_, x.from_))) (f' := fun x y => { x with to_ := y }) (FldSetT.next (s := tapi_Unit) (FldSetT.next (s := tapi_Unit) (FldSetT.here (tM tapi_Id (tL tapi_Id)) (tMb b1) (tOne (tM tapi_Id (tL tapi_Id))) rfl))) (fun _ _ => rfl)).cast rfl rfl), ⟨(tMap (tP tapi_Unit (tP tapi_Unit (tP (tMb b1) (tOne (tMb b2))))) (fun x : equivalence_table => (x.a_, x.b_, x.to_, x.from_))), _, (tMb b2), ([] : List (api_Id × (List api_Id))), _, _, rfl, Z74, (Opd.toMb (.t rfl)), ((FldSetT.map (m := (fun x : equivalence_table => (x.a_, x.b_, x.to_, x.from_))) (f' := fun x y => { x with from_ := y }) (FldSetT.next (s := tapi_Unit) (FldSetT.next (s := tapi_Unit) (FldSetT.next (s := (tMb b1)) (FldSetT.one (tM tapi_Id (tL tapi_Id)) (tMb b2) rfl)))) (fun _ _ => rfl)).cast rfl rfl), ⟨rfl, rfl⟩⟩⟩⟩⟩) <| Ao rfl (.box (.t rfl)) <| Ag rfl rfl <| An <| W.seq <| W.sr ?_
 refine Am rfl rfl <| Ao rfl (.lenL U32 (.t rfl)) <| Ao rfl (.move .i64) <| An <| W.block ?_
 obtain ⟨s1, hs2, hk3⟩ := Bs hm
 clear hm
 refine W.loop (fun m (s : Int × List api_Destination × List api_Destination × (((List (api_Id × (List api_Id))) × (List (api_Id × (List api_Id)))) × (List Tok × List Tok))) => m = s.2.2.1.length ∧ l = s.2.1 ++ s.2.2.1 ∧ s.1 = (s.2.1.length : Int) ∧ M.equivalence_made_loop1 s.2.2.1 s.2.2.2.1.1 s.2.2.2.1.2 = some s1) (fun s => [(18, (I6.is s.1)), (7, ((tMap (tP tapi_Unit (tP tapi_Unit (tP (tMb b1) (tOne (tMb b2))))) (fun x : equivalence_table => (x.a_, x.b_, x.to_, x.from_))).ptr (⟨a, b, ([] : List (api_Id × (List api_Id))), ([] : List (api_Id × (List api_Id)))⟩ : equivalence_table))), (16, ((tL tapi_Destination).is l)), (17, (I6.is (l.length : Int)))]) (fun s => [(12, MpA tapi_Id tapi_Id 23 s.2.2.2.1.1 s.2.2.2.2.1 b1), (13, MpA tapi_Id tapi_Id 23 s.2.2.2.1.2 s.2.2.2.2.2 b2)]) l.length ((0 : Int), [], l, ((([] : List (api_Id × (List api_Id))), ([] : List (api_Id × (List api_Id)))), (([] : List Tok), ([] : List Tok)))) ⟨rfl, rfl, rfl, hs2⟩ ⟨.q rfl, .q rfl, .q rfl, .q rfl, trivial⟩ ⟨rfl, rfl, ⟨rfl, rfl, trivial⟩⟩ ?_
 rintro m ⟨i, pre, rest1, ⟨⟨v, v1⟩, ⟨k, k1⟩⟩⟩ ⟨hn7, hxs4, hi5, hm⟩
 try dsimp only at hn7 hxs4 hi5 hm
 change W _ _ _ _ _ _ _ [(18, (I6.is i)), (7, ((tMap (tP tapi_Unit (tP tapi_Unit (tP (tMb b1) (tOne (tMb b2))))) (fun x : equivalence_table => (x.a_, x.b_, x.to_, x.from_))).ptr (⟨a, b, ([] : List (api_Id × (List api_Id))), ([] : List (api_Id × (List api_Id)))⟩ : equivalence_table))), (16, ((tL tapi_Destination).is l)), (17, (I6.is (l.length : Int)))] [(12, MpA tapi_Id tapi_Id 23 v k b1), (13, MpA tapi_Id tapi_Id 23 v1 k1 b2)]
 refine W.lenL (s := 16) (.t rfl) fun hlen6 => Aw <| Ao rfl (.ltI (.t rfl) (.t rfl)) <| An <| W.seq <| W.cond (.t rfl) (fun hc9 => ?_) (fun hc9 => ?_)
 ·have hp10 := of_decide_eq_true hc9
  obtain ⟨e, es, hrest12⟩ := range_more hxs4 hi5 hp10
  subst hrest12
  rw [M.equivalence_made_loop1.eq_2] at hm
  refine W.skip <| Aq <| W.seq <| W.block <| Aw <| Ao rfl (.idxPre hxs4 hi5 U32 Z56 (.t rfl) (.t rfl)) <| Ao rfl (.load ty56 (.t rfl)) <| WL.opR rfl (OpR.alloc 9 ze56) fun b3 => WL.opU (OpR.storeB (b := b3) 9 Z56 (Cellable.is tapi_Destination e) rfl (.t rfl) (.t rfl)) fun _ => WL.sealed (t := tapi_Destination) (u := e) 9 9 rfl rfl <| An <| W.seq ?_
  obtain ⟨out, hv13, hm⟩ := Bs hm
  refine W.weakR (res' := [(12, MpA tapi_Id tapi_Id 23 v k b1), (13, MpA tapi_Id tapi_Id 23 v1 k1 b2)]) ⟨rfl, rfl, ⟨rfl, rfl, trivial⟩⟩ <| W.drawM [.c ((tMap (tP tapi_Unit (tP tapi_Unit (tP (tMb b1) (tOne (tMb b2))))) (fun x : equivalence_table => (x.a_, x.b_, x.to_, x.from_))).ptr (⟨a, b, ([] : List (api_Id × (List api_Id))), ([] : List (api_Id × (List api_Id)))⟩ : equivalence_table)), .c ((tMap (tP tapi_Unit (tP tapi_Unit (tP (tMb b1) (tOne (tMb b2))))) (fun x : equivalence_table => (x.a_, x.b_, x.to_, x.from_))).ptr (⟨a, b, ([] : List (api_Id × (List api_Id))), ([] : List (api_Id × (List api_Id)))⟩ : equivalence_table)), .c ((tMb b1 : Ty (List (api_Id × (List api_Id)))).ptr ((⟨a, b, ([] : List (api_Id × (List api_Id))), ([] : List (api_Id × (List api_Id)))⟩ : equivalence_table).to_)), .c (Mv b1), .c (tapi_Id.ptr e.From), .c (tapi_Id.is e.From), .c (tapi_Id.ptr e.To), .c (tapi_Id.is e.To), .c ((tL tapi_Id).is [e.To]), .f (fun cv => (Asn.tuple2 (tO tapi_Id (kgetT e.From v k) (mget v e.From [])) (Stamp (bk (cv 0))))), .c (tO tapi_Id (kgetT e.From v k) (mget v e.From [])), .f (fun cv => (tO tapi_Id (cv 1) out)), .f (fun cv => (Stamp (bk (cv 0)))), .c Asn.any] [([], [7]), ([0], []), ([1], []), ([2], []), ([], [9]), ([4], []), ([], [9]), ([6], []), ([7], []), ([3, 5], []), ([9], []), ([8, 10], []), ([9], []), ([3, 11, 12], [])] [9, 11, 13] [[], [], [], [], [], [], [], [], [], [true], [], [false, true], [true], []] (fun m cv => match m with | 0 => [(12, MpA tapi_Id tapi_Id 23 v k b1), (13, MpA tapi_Id tapi_Id 23 v1 k1 b2)] | 1 => [(12, MpH tapi_Id tapi_Id 23 v k e.From (bk (cv 0)) b1), (32, Dec.Own tapi_Id 23 (kgetT e.From v k) (mget v e.From []).length), (13, MpA tapi_Id tapi_Id 23 v1 k1 b2)] | 2 => [(32, Dec.Own tapi_Id 23 (cv 1) out.length), (12, MpH tapi_Id tapi_Id 23 v k e.From (bk (cv 0)) b1), (13, MpA tapi_Id tapi_Id 23 v1 k1 b2)] | _ => [(12, MpA tapi_Id tapi_Id 23 (mset v e.From out) (kput e.From (cv 1) (mopen e.From v) (kopen e.From v k)) b1), (13, MpA tapi_Id tapi_Id 23 v1 k1 b2)]) (fun _ => none) Mx rfl rfl rfl rfl rfl ⟨fun _ _ _ _ => rfl, ⟨fun _ _ _ _ => rfl, ⟨fun _ _ _ _ => rfl, ⟨fun _ _ _ _ => rfl, ⟨fun _ _ _ _ => rfl, ⟨fun _ _ _ _ => rfl, ⟨fun _ _ _ _ => rfl, ⟨fun _ _ _ _ => rfl, ⟨fun _ _ _ _ => rfl, ⟨fun m hm c t => by simp only [DA.at, upd_dep (r := [true]) (j := 0) rfl hm], ⟨fun _ _ _ _ => rfl, ⟨fun m hm c t => by simp only [DA.at, upd_dep (r := [false, true]) (j := 1) rfl hm], ⟨fun m hm c t => by simp only [DA.at, upd_dep (r := [true]) (j := 0) rfl hm], ⟨fun _ _ _ _ => rfl, trivial⟩⟩⟩⟩⟩⟩⟩⟩⟩⟩⟩⟩⟩⟩ rfl ⟨mo fun cv => Op1.move (.t rfl), ⟨mo fun cv => Op1.nilCheck (.t rfl), ⟨mo fun cv => Op1.fieldAddr (t := (tMb b1)) (f := fun x : equivalence_table => x.to_) Try.underlying76 rfl J74 ((Fld.map (m := (fun x : equivalence_table => (x.a_, x.b_, x.to_, x.from_))) (Fld.next (s := tapi_Unit) (Fld.next (s := tapi_Unit) (Fld.here (tMb b1) (tOne (tMb b2)))))).cast rfl rfl) (.t rfl), ⟨mo fun cv => Op1.ofMb (Op1.load (t := (tMb b1)) ⟨ty74.agg, ty74.size⟩ (.t rfl)), ⟨mo fun cv => Op1.fieldAddr U56 rfl J23 fapi_Destination_0 (.t rfl), ⟨mo fun cv => Op1.load ty23 (.t rfl), ⟨mo fun cv => Op1.fieldAddr U56 rfl J23 fapi_Destination_1 (.t rfl), ⟨mo fun cv => Op1.load ty23 (.t rfl), ⟨mo fun cv => Op1.buildSlice (n := 1) (ys := [(0, e.To)]) (z := zapi_Id) (xs := [e.To]) U36 el23 ze23 ⟨rfl, (.t rfl), trivial⟩ (by simp) (by decide) rfl, ⟨.inl rfl, ⟨mo fun cv => Op1.extract0 (.t rfl), ⟨.inl rfl, ⟨mo fun cv => Op1.extract1 (.t rfl), ⟨.inl rfl, trivial⟩⟩⟩⟩⟩⟩⟩⟩⟩⟩⟩⟩⟩⟩ ⟨⟨_, _, _, [12], (fun cv => [(12, MpH tapi_Id tapi_Id 23 v k e.From (bk (cv 0)) b1), (32, Dec.Own tapi_Id 23 (kgetT e.From v k) (mget v e.From []).length)]), rfl, rfl, rfl, rfl, fun _ => rfl, fun _ _ => rfl, fun cv => OpR.viaB (OpR.mapEntry 12 32 U74 kt23 Try.zeroValue36 rfl (.t rfl) (.t rfl))⟩, ⟨⟨_, _, _, [32], (fun cv => [(32, Dec.Own tapi_Id 23 (cv 1) out.length)]), rfl, rfl, rfl, rfl, fun _ => rfl, fun _ _ => rfl, fun cv => OpR.appC (key := 32) hv13 U36 el23 (.t rfl) (.t rfl) rfl⟩, ⟨⟨_, _, _, [12, 32], (fun cv => [(12, MpA tapi_Id tapi_Id 23 (mset v e.From out) (kput e.From (cv 1) (mopen e.From v) (kopen e.From v k)) b1)]), rfl, rfl, rfl, rfl, fun _ => rfl, fun _ _ => rfl, fun cv => OpR.viaU (OpR.entryStore (b := b1) (k' := (cv 1)) (xs := out) 12 32 (by first | exact .inl rfl | exact .inr rfl) (.t rfl) (.t rfl) (.t rfl))⟩, trivial⟩⟩⟩ fun cv => WN.seq ?_
  obtain ⟨out1, hv14, hm⟩ := Bs hm
  exact W.weakR (res' := [(12, MpA tapi_Id tapi_Id 23 (mset v e.From out) (kput e.From (cv 1) (mopen e.From v) (kopen e.From v k)) b1), (13, MpA tapi_Id tapi_Id 23 v1 k1 b2)]) ⟨rfl, rfl, ⟨rfl, rfl, trivial⟩⟩ <| W.drawM [.c ((tMap (tP tapi_Unit (tP tapi_Unit (tP (tMb b1) (tOne (tMb b2))))) (fun x : equivalence_table => (x.a_, x.b_, x.to_, x.from_))).ptr (⟨a, b, ([] : List (api_Id × (List api_Id))), ([] : List (api_Id × (List api_Id)))⟩ : equivalence_table)), .c ((tMap (tP tapi_Unit (tP tapi_Unit (tP (tMb b1) (tOne (tMb b2))))) (fun x : equivalence_table => (x.a_, x.b_, x.to_, x.from_))).ptr (⟨a, b, ([] : List (api_Id × (List api_Id))), ([] : List (api_Id × (List api_Id)))⟩ : equivalence_table)), .c ((tMb b2 : Ty (List (api_Id × (List api_Id)))).ptr ((⟨a, b, ([] : List (api_Id × (List api_Id))), ([] : List (api_Id × (List api_Id)))⟩ : equivalence_table).from_)), .c (Mv b2), .c (tapi_Id.ptr e.To), .c (tapi_Id.is e.To), .c (tapi_Id.ptr e.From), .c (tapi_Id.is e.From), .c ((tL tapi_Id).is [e.From]), .f (fun cv1 => (Asn.tuple2 (tO tapi_Id (kgetT e.To v1 k1) (mget v1 e.To [])) (Stamp (bk (cv1 0))))), .c (tO tapi_Id (kgetT e.To v1 k1) (mget v1 e.To [])), .f (fun cv1 => (tO tapi_Id (cv1 1) out1)), .f (fun cv1 => (Stamp (bk (cv1 0)))), .c Asn.any] [([], [7]), ([0], []), ([1], []), ([2], []), ([], [9]), ([4], []), ([], [9]), ([6], []), ([7], []), ([3, 5], []), ([9], []), ([8, 10], []), ([9], []), ([3, 11, 12], [])] [9, 11, 13] [[], [], [], [], [], [], [], [], [], [true], [], [false, true], [true], []] (fun m cv1 => match m with | 0 => [(12, MpA tapi_Id tapi_Id 23 (mset v e.From out) (kput e.From (cv 1) (mopen e.From v) (kopen e.From v k)) b1), (13, MpA tapi_Id tapi_Id 23 v1 k1 b2)] | 1 => [(13, MpH tapi_Id tapi_Id 23 v1 k1 e.To (bk (cv1 0)) b2), (45, Dec.Own tapi_Id 23 (kgetT e.To v1 k1) (mget v1 e.To []).length), (12, MpA tapi_Id tapi_Id 23 (mset v e.From out) (kput e.From (cv 1) (mopen e.From v) (kopen e.From v k)) b1)] | 2 => [(45, Dec.Own tapi_Id 23 (cv1 1) out1.length), (13, MpH tapi_Id tapi_Id 23 v1 k1 e.To (bk (cv1 0)) b2), (12, MpA tapi_Id tapi_Id 23 (mset v e.From out) (kput e.From (cv 1) (mopen e.From v) (kopen e.From v k)) b1)] | _ => [(13, MpA tapi_Id tapi_Id 23 (mset v1 e.To out1) (kput e.To (cv1 1) (mopen e.To v1) (kopen e.To v1 k1)) b2), (12, MpA tapi_Id tapi_Id 23 (mset v e.From out) (kput e.From (cv 1) (mopen e.From v) (kopen e.From v k)) b1)]) (fun _ => none) Mx rfl rfl rfl rfl rfl ⟨fun _ _ _ _ => rfl, ⟨fun _ _ _ _ => rfl, ⟨fun _ _ _ _ => rfl, ⟨fun _ _ _ _ => rfl, ⟨fun _ _ _ _ => rfl, ⟨fun _ _ _ _ => rfl, ⟨fun _ _ _ _ => rfl, ⟨fun _ _ _ _ => rfl, ⟨fun _ _ _ _ => rfl, ⟨fun m hm c t => by simp only [DA.at, upd_dep (r := [true]) (j := 0) rfl hm], ⟨fun _ _ _ _ => rfl, ⟨fun m hm c t => by simp only [DA.at, upd_dep (r := [false, true]) (j := 1) rfl hm], ⟨fun m hm c t => by simp only [DA.at, upd_dep (r := [true]) (j := 0) rfl hm], ⟨fun _ _ _ _ => rfl, trivial⟩⟩⟩⟩⟩⟩⟩⟩⟩⟩⟩⟩⟩⟩ rfl ⟨mo fun cv1 => Op1.move (.t rfl), ⟨mo fun cv1 => Op1.nilCheck (.t rfl), ⟨mo fun cv1 => Op1.fieldAddr (t := (tMb b2)) (f := fun x : equivalence_table => x.from_) Try.underlying76 rfl J74 ((Fld.map (m := (fun x : equivalence_table => (x.a_, x.b_, x.to_, x.from_))) (Fld.next (s := tapi_Unit) (Fld.next (s := tapi_Unit) (Fld.next (s := (tMb b1)) (Fld.one (tMb b2)))))).cast rfl rfl) (.t rfl), ⟨mo fun cv1 => Op1.ofMb (Op1.load (t := (tMb b2)) ⟨ty74.agg, ty74.size⟩ (.t rfl)), ⟨mo fun cv1 => Op1.fieldAddr U56 rfl J23 fapi_Destination_1 (.t rfl), ⟨mo fun cv1 => Op1.load ty23 (.t rfl), ⟨mo fun cv1 => Op1.fieldAddr U56 rfl J23 fapi_Destination_0 (.t rfl), ⟨mo fun cv1 => Op1.load ty23 (.t rfl), ⟨mo fun cv1 => Op1.buildSlice (n := 1) (ys := [(0, e.From)]) (z := zapi_Id) (xs := [e.From]) U36 el23 ze23 ⟨rfl, (.t rfl), trivial⟩ (by simp) (by decide) rfl, ⟨.inl rfl, ⟨mo fun cv1 => Op1.extract0 (.t rfl), ⟨.inl rfl, ⟨mo fun cv1 => Op1.extract1 (.t rfl), ⟨.inl rfl, trivial⟩⟩⟩⟩⟩⟩⟩⟩⟩⟩⟩⟩⟩⟩ ⟨⟨_, _, _, [13], (fun cv1 => [(13, MpH tapi_Id tapi_Id 23 v1 k1 e.To (bk (cv1 0)) b2), (45, Dec.Own tapi_Id 23 (kgetT e.To v1 k1) (mget v1 e.To []).length)]), rfl, rfl, rfl, rfl, fun _ => rfl, fun _ _ => rfl, fun cv1 => OpR.viaB (OpR.mapEntry 13 45 U74 kt23 Try.zeroValue36 rfl (.t rfl) (.t rfl))⟩, ⟨⟨_, _, _, [45], (fun cv1 => [(45, Dec.Own tapi_Id 23 (cv1 1) out1.length)]), rfl, rfl, rfl, rfl, fun _ => rfl, fun _ _ => rfl, fun cv1 => OpR.appC (key := 45) hv14 U36 el23 (.t rfl) (.t rfl) rfl⟩, ⟨⟨_, _, _, [13, 45], (fun cv1 => [(13, MpA tapi_Id tapi_Id 23 (mset v1 e.To out1) (kput e.To (cv1 1) (mopen e.To v1) (kopen e.To v1 k1)) b2)]), rfl, rfl, rfl, rfl, fun _ => rfl, fun _ _ => rfl, fun cv1 => OpR.viaU (OpR.entryStore (b := b2) (k' := (cv1 1)) (xs := out1) 13 45 (by first | exact .inl rfl | exact .inr rfl) (.t rfl) (.t rfl) (.t rfl))⟩, trivial⟩⟩⟩ fun cv1 => WN.block <| Aq <| W.region <| Ao rfl (.addI (.t rfl) .i64 (range_inR hi5 hp10 hlen6)) <| Am rfl rfl <| WL.nil <| WN.again es.length (i + 1, pre ++ [e], es, ((mset v e.From out, mset v1 e.To out1), (kput e.From (cv 1) (mopen e.From v) (kopen e.From v k), kput e.To (cv1 1) (mopen e.To v1) (kopen e.To v1 k1)))) (range_lt hn7) ⟨rfl, range_step hxs4, range_idx hi5, hm⟩ ⟨.q rfl, .q rfl, .q rfl, .q rfl, trivial⟩ ⟨rfl, rfl, ⟨rfl, rfl, trivial⟩⟩
 ·have hrest12 := range_end hxs4 hi5 (of_decide_eq_false hc9)
  subst hrest12
  rw [M.equivalence_made_loop1.eq_1] at hm
  refine W.exit rfl ?_
  have hr15 := Si hm
  clear hm
  subst hr15
  have hm := hk3
  try dsimp only at hm
  refine Aq <| Aw <| Am rfl rfl <| Ag rfl rfl <| WL.ns ?_
  have hr := Si hm
  clear hm
  subst hr
  exact W.dropA 12 rfl <| W.sealMap 12 rfl <| W.dropA 13 rfl <| W.sealMap 13 rfl <| W.slotG ((tPt tequivalence_table).is ({ (⟨a, b, ([] : List (api_Id × (List api_Id))), ([] : List (api_Id × (List api_Id)))⟩ : equivalence_table) with to_ := v, from_ := v1 } : equivalence_table)) 6 rfl (fun _ _ hr hA => ptr_tPt (CvT.at (CvT.map (CvT.pair CvT.same (CvT.pair CvT.same (CvT.pair (CvT.mp (hr.at (key := 12) rfl)) (CvT.one (CvT.mp (hr.at (key := 13) rfl))))))) hA)) <| W.ret1 () rfl (.t rfl) trivial

theorem equivalence_table_flaw_1_spec (why : Int) (s0_ : Str) (c : api_Unit) (r : api_Finding) (hm : M.equivalence_table_flaw_1 why s0_ c = some r) : FSpec Try.prog 38 [(I6.is why), (tS.is s0_), (tapi_Unit.ptr c)] (tapi_Finding.is r) := by
 unfold M.equivalence_table_flaw_1 at hm
 refine FSpec.of Try.func38 rfl rfl rfl fun g0 => Aw <| WL.opR rfl (OpR.alloc 5 ze53) fun b => Ar <| Ao rfl (.fieldAddr U27 rfl J23 fapi_Unit_0 (.t rfl)) <| Ao rfl (.load ty23 (.t rfl)) <| Am rfl rfl <| Am rfl rfl <| Ao rfl (.build (s := tapi_Finding) (x := (⟨(0 : Int), c.Id, why, s0_⟩ : api_Finding)) zapi_Finding_f rfl U53 (zapi_Finding_sz _ U53) ze53 ⟨_, tapi_Id, c.Id, _, _, rfl, Z23, (.t rfl), sapi_Finding_1, ⟨_, I6, why, _, _, rfl, Z51, (.t rfl), sapi_Finding_2, ⟨_, tS, s0_, _, _, rfl, Z9, (.t rfl), sapi_Finding_3, rfl⟩⟩⟩) <| WL.opU (OpR.storeB (b := b) 5 Z53 (Cellable.is tapi_Finding (⟨(0 : Int), c.Id, why, s0_⟩ : api_Finding)) rfl (.t rfl) (.t rfl)) fun _ => WL.ns ?_
 cases hm
 exact W.retQ1 () rfl (ResAt.cell 5 Y53 Z53 rfl (.t rfl)) trivial

theorem unit_way_spec : ∀ (n : Nat) (u : api_Unit) (id : api_Id) (r : (List api_Unit)), M.unit_way n u id = some r → FSpec Try.prog 34 [(tapi_Unit.is u), (tapi_Id.is id)] ((tLn tapi_Unit).is r) := by
 intro n
 induction n with
 | zero => intro u id r hm; cases hm
 | succ n ih =>
  intro u id r hm
  rw [M.unit_way.eq_2] at hm
  refine FSpec.of Try.func34 rfl rfl rfl fun g0 => Aw <| Ao rfl (.box (.t rfl)) <| Ao rfl (.box (.t rfl)) <| Ao rfl (.assign (.nilN (t := tapi_Unit))) <| An <| W.seq <| Aw <| Ao rfl (.fieldAddr U27 rfl J23 fapi_Unit_0 (.t rfl)) <| Ao rfl (.load ty23 (.t rfl)) <| Ao rfl (.load ty23 (.t rfl)) <| Ao rfl (.eqSt (D := 2) rfl (by decide) eg23 eq23 (.t rfl) (.t rfl)) <| An <| W.cD hm (.t rfl) (fun hp2 hm => ?_) (fun hp2 hm => ?_)
  ·refine Aw <| Ao rfl (.load ty27 (.t rfl)) <| Ao rfl (.buildSlice (n := 1) (ys := [(0, u)]) (z := zapi_Unit) (xs := [u]) U25 el27 ze27 ⟨rfl, (.t rfl), trivial⟩ (by simp) (by decide) rfl) <| Ag rfl rfl <| WL.ns ?_
   obtain ⟨_, hz3, hm⟩ := Bs hm
   cases hm
   exact W.ret1 () rfl (Opd.asLn (neC_ne hz3) (.t rfl)) trivial
  ·refine W.skip <| Aq <| W.seq <| Aw <| Ao rfl (.fieldAddr U27 rfl J25 fapi_Unit_5 (.t rfl)) <| Ao rfl (.load ty25 (.t rfl)) <| Ao rfl (.lenL U25 (.t rfl)) <| Ao rfl (.move .i64) <| An <| W.block ?_
   obtain ⟨s5, hs6, hk7⟩ := Bs hm
   clear hm
   refine W.loop (fun m (s : Int × List api_Unit × List api_Unit × Unit) => m = s.2.2.1.length ∧ u.Kids = s.2.1 ++ s.2.2.1 ∧ s.1 = (s.2.1.length : Int) ∧ M.unit_way_loop1 u id (M.unit_way n) s.2.2.1 = some s5) (fun s => [(17, (I6.is s.1)), (2, (tapi_Unit.ptr u)), (3, (tapi_Id.ptr id)), (15, ((tL tapi_Unit).is u.Kids)), (16, (I6.is (u.Kids.length : Int)))]) (fun s => []) u.Kids.length ((0 : Int), [], u.Kids, ()) ⟨rfl, rfl, rfl, hs6⟩ ⟨.q rfl, .q rfl, .q rfl, .q rfl, .q rfl, trivial⟩ trivial ?_
   rintro m ⟨i, pre, rest1, _⟩ ⟨hn11, hxs8, hi9, hm⟩
   try dsimp only at hn11 hxs8 hi9 hm
   change W _ _ _ _ _ _ _ [(17, (I6.is i)), (2, (tapi_Unit.ptr u)), (3, (tapi_Id.ptr id)), (15, ((tL tapi_Unit).is u.Kids)), (16, (I6.is (u.Kids.length : Int)))] []
   refine W.lenL (s := 15) (.t rfl) fun hlen10 => Aw <| Ao rfl (.ltI (.t rfl) (.t rfl)) <| An <| W.seq <| W.cond (.t rfl) (fun hc13 => ?_) (fun hc13 => ?_)
   ·have hp14 := of_decide_eq_true hc13
    obtain ⟨e, es, hrest16⟩ := range_more hxs8 hi9 hp14
    subst hrest16
    rw [M.unit_way_loop1.eq_2] at hm
    refine W.skip <| Aq <| W.seq <| W.block <| Aw <| Ao rfl (.idxPre hxs8 hi9 U25 Z27 (.t rfl) (.t rfl)) <| Ao rfl (.load ty27 (.t rfl)) <| WL.opR rfl (OpR.alloc 6 ze27) fun b => WL.opU (OpR.storeB (b := b) 6 Z27 (Cellable.is tapi_Unit e) rfl (.t rfl) (.t rfl)) fun _ => WL.sealed (t := tapi_Unit) (u := e) 6 6 rfl rfl <| Ar <| Ao rfl (.load ty27 (.t rfl)) <| Ao rfl (.load ty23 (.t rfl)) ?_
    obtain ⟨way, hv17, hm⟩ := Bs hm
    refine Ao rfl (.call C34 (ih _ _ _ hv17) ⟨(.t rfl), (.t rfl), trivial⟩) <| Ag rfl rfl <| Ar <| Am rfl rfl <| Ao rfl (.neNil U25 (.t rfl)) <| An <| W.cR hm (.t rfl) (fun hp19 hm => ?_) (fun hp19 hm => ?_)
    ·refine Aw <| Ao rfl (.load ty27 (.t rfl)) <| WL.opR rfl (OpR.buildSlice (n := 1) (ys := [(0, u)]) (z := zapi_Unit) (xs := [u]) 27 U25 el27 ze27 ⟨rfl, (.t rfl), trivial⟩ (by simp) (by decide) rfl) fun k => WL.mv rfl rfl ?_
     obtain ⟨out, hv20, hm⟩ := Bs hm
     refine WL.opR rfl (OpR.appC (key := 27) hv20 U25 el27 (.t rfl) (Opd.tLn (.t rfl)) rfl) fun k1 => Ag rfl rfl <| WL.ns ?_
     obtain ⟨_, hz21, hm⟩ := Bs hm
     have hr23 := Si hm
     clear hm
     subst hr23
     have hm := hk7
     try dsimp only at hm
     cases hm
     exact W.ret1 () rfl (Opd.asLn (neC_ne hz21) (Opd.own (.t rfl))) trivial
    ·exact W.skip <| WN.block <| Aq <| W.region <| Ao rfl (.addI (.t rfl) .i64 (range_inR hi9 hp14 hlen10)) <| Am rfl rfl <| WL.nil <| WN.again es.length (i + 1, pre ++ [e], es, ()) (range_lt hn11) ⟨rfl, range_step hxs8, range_idx hi9, hm⟩ ⟨.q rfl, .q rfl, .q rfl, .q rfl, .q rfl, trivial⟩ trivial
   ·have hrest16 := range_end hxs8 hi9 (of_decide_eq_false hc13)
    subst hrest16
    rw [M.unit_way_loop1.eq_1] at hm
    refine W.exit rfl ?_
    have hr24 := Si hm
    clear hm
    subst hr24
    have hm := hk7
    try dsimp only at hm
    refine Aq <| Aw <| Ao rfl (.assign (.nilN (t := tapi_Unit))) <| WL.ns ?_
    cases hm
    exact W.ret1 () rfl (.t rfl) trivial

theorem slices_Clone_api_Word_api_Word_spec (l : List api_Word) (r : List api_Word) (hm : M.slices_Clone_api_Word_api_Word l = some r) : FSpecR Try.prog 53 [(tL tapi_Word).is l] [] (fun k : Tok => tO tapi_Word k r) (fun k => [(5, Dec.Own tapi_Word 49 k r.length)]) := by
 unfold M.slices_Clone_api_Word_api_Word at hm
 refine FSpecR.of Try.func53 rfl rfl rfl fun g0 => W.seq <| W.region <| Ao rfl (.assign (.nil (t := tapi_Word))) <| WL.nil <| Aq <| W.seq <| W.seq <| W.region <| Ao rfl (.move (.t rfl)) <| WL.opR rfl (OpR.eqNil U24 (.t rfl)) fun b => WL.nil <| Aq <| W.cond (.t rfl) (fun hc => ?_) (fun hc => ?_)
 ·have hl := b.2 hc
  subst hl
  have hr : [] = r := by simpa [appC] using hm
  subst hr
  exact W.seq <| W.region <| WL.addNil (t := tapi_Word) (E := 49) 5 <| Ao rfl (.assign (Opd.nilO (t := tapi_Word))) <| WL.nil <| Aq <| W.ret1 (none : Tok) rfl (.t rfl) ⟨rfl, rfl, trivial⟩
 ·exact W.skip <| Aq <| W.seq <| W.region <| WL.opR rfl (OpR.buildSlice (n := 0) (ys := []) (z := zapi_Word) (xs := []) 5 U24 el49 ze49 trivial (by simp) (by decide) rfl) fun k5 => Ao rfl (.move (.t rfl)) <| WL.opR rfl (OpR.appC (key := 5) hm U24 el49 (.t rfl) (.t rfl) rfl) fun k7 => Ao rfl (.assign (.t rfl)) <| WL.nil <| Aq <| W.ret1 k7 rfl (.t rfl) ⟨rfl, rfl, trivial⟩

theorem unit_copied_spec : ∀ (n : Nat) (u : api_Unit) (r : api_Unit), M.unit_copied n u = some r → FSpec Try.prog 44 [(tapi_Unit.is u)] (tapi_Unit.is r) := by
 intro n
 induction n with
 | zero => intro u r hm; cases hm
 | succ n ih =>
  intro u r hm
  rw [M.unit_copied.eq_2] at hm
  refine FSpec.of Try.func44 rfl rfl rfl fun g0 => Aw <| WL.opR rfl (OpR.boxB 1 (Cellable.is tapi_Unit u) (.t rfl)) fun b => WL.opR rfl (OpR.alloc 2 ze27) fun b1 => An <| W.seq ?_
  obtain ⟨word, hv1, hm⟩ := Bs hm
  obtain ⟨word1, hv2, hm⟩ := Bs hm
  refine W.weakR (res' := [(1, (Bx 8 true 27 (tapi_Unit.is u) b)), (2, (Bx 8 true 27 (tapi_Unit.is zapi_Unit) b1))]) ⟨rfl, rfl, ⟨rfl, rfl, trivial⟩⟩ <| W.drawM [.c (Bp b 5), .c ((tL tapi_Word).is u.Head), .c ((tL tapi_Word).is word), .c (Bp b 6), .c ((tL tapi_Word).is u.Words), .c ((tL tapi_Word).is word1), .c (Bp b 5), .c Asn.any, .c (Bp b 6), .c Asn.any] [([], [1]), ([0], []), ([1], []), ([], [1]), ([3], []), ([4], []), ([], [1]), ([2, 6], []), ([], [1]), ([5, 8], [])] [7, 9] [[], [], [], [], [], [], [], [], [], []] (fun m cv => match m with | 0 => [(1, (Bx 8 true 27 (tapi_Unit.is u) b)), (2, (Bx 8 true 27 (tapi_Unit.is zapi_Unit) b1))] | 1 => [(1, (Bx 8 true 27 (tapi_Unit.is ({ u with Head := word } : api_Unit)) b)), (2, (Bx 8 true 27 (tapi_Unit.is zapi_Unit) b1))] | _ => [(1, (Bx 8 true 27 (tapi_Unit.is ({ ({ u with Head := word } : api_Unit) with Words := word1 } : api_Unit)) b)), (2, (Bx 8 true 27 (tapi_Unit.is zapi_Unit) b1))]) (fun _ => none) Mx rfl rfl rfl rfl rfl ⟨fun _ _ _ _ => rfl, ⟨fun _ _ _ _ => rfl, ⟨fun _ _ _ _ => rfl, ⟨fun _ _ _ _ => rfl, ⟨fun _ _ _ _ => rfl, ⟨fun _ _ _ _ => rfl, ⟨fun _ _ _ _ => rfl, ⟨fun _ _ _ _ => rfl, ⟨fun _ _ _ _ => rfl, ⟨fun _ _ _ _ => rfl, trivial⟩⟩⟩⟩⟩⟩⟩⟩⟩⟩ rfl ⟨mo fun cv => Op1.fieldAddrB (o := 0) U27 rfl J24 (.t rfl) rfl, ⟨.inr ⟨fun cv => [(1, (Bx 8 true 27 (tapi_Unit.is u) b))], (AllUpTo.at ⟨⟨(fun _ _ => ⟨rfl, rfl, trivial⟩), (fun hw => absurd hw (by decide))⟩, (fun hw => absurd hw (by decide))⟩), fun cv => Op1.loadBF 1 rfl ty24 fapi_Unit_3 rfl (.t rfl)⟩, ⟨mo fun cv => Op1.call C53 ((slices_Clone_api_Word_api_Word_spec _ _ hv1).read fun _ _ _ => tO_tL) ⟨(.t rfl), trivial⟩, ⟨mo fun cv => Op1.fieldAddrB (o := 0) U27 rfl J24 (.t rfl) rfl, ⟨.inr ⟨fun cv => [(1, (Bx 8 true 27 (tapi_Unit.is u) b))], (AllUpTo.at ⟨⟨(fun _ _ => ⟨rfl, rfl, trivial⟩), (fun hw => absurd hw (by decide))⟩, (fun hw => absurd hw (by decide))⟩), fun cv => Op1.loadBF 1 rfl ty24 fapi_Unit_4 rfl (.t rfl)⟩, ⟨mo fun cv => Op1.call C53 ((slices_Clone_api_Word_api_Word_spec _ _ hv2).read fun _ _ _ => tO_tL) ⟨(.t rfl), trivial⟩, ⟨mo fun cv => Op1.fieldAddrB (o := 0) U27 rfl J24 (.t rfl) rfl, ⟨.inl rfl, ⟨mo fun cv => Op1.fieldAddrB (o := 0) U27 rfl J24 (.t rfl) rfl, ⟨.inl rfl, trivial⟩⟩⟩⟩⟩⟩⟩⟩⟩⟩ ⟨⟨_, _, _, [1], (fun cv => [(1, (Bx 8 true 27 (tapi_Unit.is ({ u with Head := word } : api_Unit)) b))]), rfl, rfl, rfl, rfl, fun _ => rfl, fun _ _ => rfl, fun cv => OpR.viaU (OpR.storeBF (b := b) 1 rfl ty24 sapi_Unit_3 rfl (by decide) (.t rfl) (.t rfl))⟩, ⟨⟨_, _, _, [1], (fun cv => [(1, (Bx 8 true 27 (tapi_Unit.is ({ ({ u with Head := word } : api_Unit) with Words := word1 } : api_Unit)) b))]), rfl, rfl, rfl, rfl, fun _ => rfl, fun _ _ => rfl, fun cv => OpR.viaU (OpR.storeBF (b := b) 1 rfl ty24 sapi_Unit_4 rfl (by decide) (.t rfl) (.t rfl))⟩, trivial⟩⟩ fun cv => Aq <| Aw <| WL.addNil (t := tapi_Unit) (E := 27) 3 <| Ao rfl (.assign (Opd.nilO (t := tapi_Unit))) <| An <| W.seq <| Aw <| Ao rfl (.fieldAddrB (o := 0) U27 rfl J25 (.t rfl) rfl) <| Ao rfl (.loadBF 1 rfl ty25 fapi_Unit_5 rfl (.t rfl)) <| Ao rfl (.lenL U25 (.t rfl)) <| Ao rfl (.move .i64) <| An <| W.block ?_
  obtain ⟨s3, hs4, hk5⟩ := Bs hm
  clear hm
  refine W.loop (fun m (s : Int × List api_Unit × List api_Unit × (((List api_Unit)) × Tok)) => m = s.2.2.1.length ∧ ({ ({ u with Head := word } : api_Unit) with Words := word1 } : api_Unit).Kids = s.2.1 ++ s.2.2.1 ∧ s.1 = (s.2.1.length : Int) ∧ M.unit_copied_loop1 (M.unit_copied n) s.2.2.1 s.2.2.2.1 = some s3) (fun s => [(17, (I6.is s.1)), (3, (tO tapi_Unit s.2.2.2.2 s.2.2.2.1)), (1, (Bp b 0)), (2, (Bp b1 0)), (15, ((tL tapi_Unit).is (({ ({ u with Head := word } : api_Unit) with Words := word1 } : api_Unit).Kids))), (16, (I6.is ((({ ({ u with Head := word } : api_Unit) with Words := word1 } : api_Unit).Kids).length : Int)))]) (fun s => [(3, Dec.Own tapi_Unit 27 s.2.2.2.2 s.2.2.2.1.length), (1, (Bx 8 true 27 (tapi_Unit.is ({ ({ u with Head := word } : api_Unit) with Words := word1 } : api_Unit)) b)), (2, (Bx 8 true 27 (tapi_Unit.is zapi_Unit) b1))]) (({ ({ u with Head := word } : api_Unit) with Words := word1 } : api_Unit).Kids).length ((0 : Int), [], ({ ({ u with Head := word } : api_Unit) with Words := word1 } : api_Unit).Kids, (([] : List api_Unit), (none : Tok))) ⟨rfl, rfl, rfl, hs4⟩ ⟨.q rfl, .q rfl, .q rfl, .q rfl, .q rfl, .q rfl, trivial⟩ ⟨rfl, rfl, ⟨rfl, rfl, ⟨rfl, rfl, trivial⟩⟩⟩ ?_
  rintro m ⟨i, pre, rest1, ⟨kids, k⟩⟩ ⟨hn9, hxs6, hi7, hm⟩
  try dsimp only at hn9 hxs6 hi7 hm
  change W _ _ _ _ _ _ _ [(17, (I6.is i)), (3, (tO tapi_Unit k kids)), (1, (Bp b 0)), (2, (Bp b1 0)), (15, ((tL tapi_Unit).is (({ ({ u with Head := word } : api_Unit) with Words := word1 } : api_Unit).Kids))), (16, (I6.is ((({ ({ u with Head := word } : api_Unit) with Words := word1 } : api_Unit).Kids).length : Int)))] [(3, Dec.Own tapi_Unit 27 k kids.length), (1, (Bx 8 true 27 (tapi_Unit.is ({ ({ u with Head := word } : api_Unit) with Words := word1 } : api_Unit)) b)), (2, (Bx 8 true 27 (tapi_Unit.is zapi_Unit) b1))]
  refine W.lenL (s := 15) (.t rfl) fun hlen8 => Aw <| Ao rfl (.ltI (.t rfl) (.t rfl)) <| An <| W.seq <| W.cond (.t rfl) (fun hc11 => ?_) (fun hc11 => ?_)
  ·have hp12 := of_decide_eq_true hc11
   obtain ⟨e, es, hrest14⟩ := range_more hxs6 hi7 hp12
   subst hrest14
   rw [M.unit_copied_loop1.eq_2] at hm
   refine W.skip <| Aq <| W.seq <| W.block <| Aw <| Ao rfl (.idxPre hxs6 hi7 U25 Z27 (.t rfl) (.t rfl)) <| Ao rfl (.load ty27 (.t rfl)) <| WL.opR rfl (OpR.alloc 5 ze27) fun b2 => WL.opU (OpR.storeB (b := b2) 5 Z27 (Cellable.is tapi_Unit e) rfl (.t rfl) (.t rfl)) fun _ => WL.sealed (t := tapi_Unit) (u := e) 5 5 rfl rfl <| WL.nr1 <| Am rfl rfl <| Ao rfl (.load ty27 (.t rfl)) ?_
   obtain ⟨copied, hv15, hm⟩ := Bs hm
   refine Ao rfl (.call C44 (ih _ _ hv15) ⟨(.t rfl), trivial⟩) <| Ao rfl (.buildSlice (n := 1) (ys := [(0, copied)]) (z := zapi_Unit) (xs := [copied]) U25 el27 ze27 ⟨rfl, (.t rfl), trivial⟩ (by simp) (by decide) rfl) ?_
   obtain ⟨kids1, hv16, hm⟩ := Bs hm
   exact WL.opR rfl (OpR.appC (key := 3) hv16 U25 el27 (.t rfl) (.t rfl) rfl) fun k1 => Ag rfl rfl <| WL.nil <| WN.block <| Aq <| W.region <| Ao rfl (.addI (.t rfl) .i64 (range_inR hi7 hp12 hlen8)) <| Am rfl rfl <| WL.nil <| WN.again es.length (i + 1, pre ++ [e], es, (kids1, k1)) (range_lt hn9) ⟨rfl, range_step hxs6, range_idx hi7, hm⟩ ⟨.q rfl, .q rfl, .q rfl, .q rfl, .q rfl, .q rfl, trivial⟩ ⟨rfl, rfl, ⟨rfl, rfl, ⟨rfl, rfl, trivial⟩⟩⟩
  ·have hrest14 := range_end hxs6 hi7 (of_decide_eq_false hc11)
   subst hrest14
   rw [M.unit_copied_loop1.eq_1] at hm
   refine W.exit rfl ?_
   have hr17 := Si hm
   clear hm
   subst hr17
   have hm := hk5
   try dsimp only at hm
   refine Aq <| Aw <| Am rfl rfl <| Ao rfl (.fieldAddrB (o := 0) U27 rfl J25 (.t rfl) rfl) <| WL.opU (OpR.storeBF (b := b) 1 rfl ty25 sapi_Unit_5 rfl (by decide) (.t rfl) (Opd.own (.t rfl))) fun _ => Ar <| Ao rfl (.loadB 1 Y27 Z27 rfl (.t rfl)) <| WL.opU (OpR.storeB (b := b1) 2 Z27 (Cellable.is tapi_Unit ({ ({ ({ u with Head := word } : api_Unit) with Words := word1 } : api_Unit) with Kids := kids } : api_Unit)) rfl (.t rfl) (.t rfl)) fun _ => WL.ns ?_
   cases hm
   exact W.retQ1 () rfl (ResAt.cell 2 Y27 Z27 rfl (.t rfl)) trivial

theorem unit_Find_spec (n : Nat) (u : api_Unit) (id : api_Id) (r : api_Unit × Bool) (hm : M.unit_Find n u id = some r) : FSpec Try.prog 39 [(tapi_Unit.is u), (tapi_Id.is id)] (Asn.tuple2 (tapi_Unit.is r.1) (tB.is r.2)) := by
 unfold M.unit_Find at hm
 refine FSpec.of Try.func39 rfl rfl rfl fun g0 => Aw <| Ao rfl (.box (.t rfl)) <| Ao rfl (.box (.t rfl)) <| WL.opR rfl (OpR.alloc 4 ze27) fun b => Ao rfl (.assign .bool) <| Ar <| Ao rfl (.load ty27 (.t rfl)) <| Ao rfl (.load ty23 (.t rfl)) ?_
 obtain ⟨way, hv1, hm⟩ := Bs hm
 refine Ao rfl (.call C34 (unit_way_spec _ _ _ _ hv1) ⟨(.t rfl), (.t rfl), trivial⟩) <| Ag rfl rfl <| An <| W.seq <| Aw <| Am rfl rfl <| Ao rfl (.lenL U25 (Opd.tLn (.t rfl))) <| Ao rfl (.eqI (.t rfl) .i64) <| An <| W.cD hm (.t rfl) (fun hp3 hm => ?_) (fun hp3 hm => ?_)
 ·refine Aw <| Ao rfl (.build (s := tapi_Unit) (x := (⟨zapi_Id, (0 : Int), ([] : Str), ([] : List api_Word), ([] : List api_Word), ([] : List api_Unit)⟩ : api_Unit)) zapi_Unit_f rfl U27 (zapi_Unit_sz _ U27) ze27 rfl) <| WL.opU (OpR.storeB (b := b) 4 Z27 (Cellable.is tapi_Unit (⟨zapi_Id, (0 : Int), ([] : Str), ([] : List api_Word), ([] : List api_Word), ([] : List api_Unit)⟩ : api_Unit)) rfl (.t rfl) (.t rfl)) fun _ => Ao rfl (.assign .bool) <| WL.ns ?_
  cases hm
  exact W.retQ2 () rfl rfl (ResAt.cell 4 Y27 Z27 rfl (.t rfl)) (ResAt.tmp (.t rfl)) trivial
 ·refine W.skip <| Aq <| Aw <| Am rfl rfl <| Am rfl rfl <| Ao rfl (.lenL U25 (Opd.tLn (.t rfl))) ?_
  obtain ⟨v, hv4, hm⟩ := Bs hm
  refine Ao rfl (.subC hv4 (.t rfl) .i64) ?_
  obtain ⟨v1, hv5, hm⟩ := Bs hm
  refine Ao rfl (.idx hv5 U25 Z27 (Opd.tLn (.t rfl)) (.t rfl)) <| Ao rfl (.load ty27 (.t rfl)) ?_
  obtain ⟨copied, hv6, hm⟩ := Bs hm
  refine Ao rfl (.call C44 (unit_copied_spec _ _ _ hv6) ⟨(.t rfl), trivial⟩) <| WL.opU (OpR.storeB (b := b) 4 Z27 (Cellable.is tapi_Unit copied) rfl (.t rfl) (.t rfl)) fun _ => Ao rfl (.assign .bool) <| WL.ns ?_
  cases hm
  exact W.retQ2 () rfl rfl (ResAt.cell 4 Y27 Z27 rfl (.t rfl)) (ResAt.tmp (.t rfl)) trivial

theorem equivalence_inner_spec (n : Nat) (u : api_Unit) (id : api_Id) (r : Bool) (hm : M.equivalence_inner n u id = some r) : FSpec Try.prog 33 [(tapi_Unit.is u), (tapi_Id.is id)] (tB.is r) := by
 unfold M.equivalence_inner at hm
 refine FSpec.of Try.func33 rfl rfl rfl fun g0 => Aw <| Ao rfl (.box (.t rfl)) <| Ao rfl (.box (.t rfl)) <| Ao rfl (.assign .bool) <| Ar <| Ao rfl (.load ty27 (.t rfl)) <| Ao rfl (.load ty23 (.t rfl)) ?_
 obtain ⟨find, hv1, hm⟩ := Bs hm
 refine Ao rfl (.call C39 (unit_Find_spec _ _ _ _ hv1) ⟨(.t rfl), (.t rfl), trivial⟩) <| Am rfl rfl <| Ao rfl (.extract0 (.t rfl)) <| Ao rfl (.extract1 (.t rfl)) <| WL.opR rfl (OpR.alloc 5 ze27) fun b => WL.opU (OpR.storeB (b := b) 5 Z27 (Cellable.is tapi_Unit find.1) rfl (.t rfl) (.t rfl)) fun _ => WL.sealed (t := tapi_Unit) (u := find.1) 5 5 rfl rfl <| Ag rfl rfl <| Ar <| Am rfl rfl <| WL.mv rfl rfl ?_
 rcases iteB hm with ⟨hp3, hb2, hm⟩ | ⟨hp3, hb2, hm⟩
 ·refine Ax rfl hb2 (.load ty23 (.t rfl)) <| Ax rfl hb2 (.fieldAddr U27 rfl J23 fapi_Unit_0 (.t rfl)) <| Ax rfl hb2 (.load ty23 (.t rfl)) <| Ax rfl hb2 (.neSt (D := 2) rfl (by decide) eg23 eq23 (.t rfl) (.t rfl)) <| Ao rfl (.pickT (.t rfl) hb2 (.t rfl)) <| Ag rfl rfl <| WL.ns ?_
  cases hm
  exact W.ret1 () rfl (.t rfl) trivial
 ·refine Ap rfl hb2 <| Ap rfl hb2 <| Ap rfl hb2 <| Ap rfl hb2 <| Ao rfl (.pickF (.t rfl) hb2 .bool) <| Ag rfl rfl <| WL.ns ?_
  cases hm
  exact W.ret1 () rfl (.t rfl) trivial

theorem equivalence_table_goes_spec (n : Nat) (t : equivalence_table) (id : api_Id) (r : api_Id × Bool) (hm : M.equivalence_table_goes n t id = some r) : FSpec Try.prog 25 [(tequivalence_table.ptr t), (tapi_Id.is id)] (Asn.tuple2 (tapi_Id.is r.1) (tB.is r.2)) := by
 unfold M.equivalence_table_goes at hm
 refine FSpec.of Try.func25 rfl rfl rfl fun g0 => Aw <| Ao rfl (.box (.t rfl)) <| WL.opR rfl (OpR.alloc 4 ze23) fun b => Ao rfl (.assign .bool) <| An <| W.seq <| W.draw [.c _, .c _, .c _, .c _, .c _, .c _, .c _] [([], [0]), ([0], []), ([1], []), ([2], []), ([], [3]), ([3, 4], []), ([5], [])] Mx rfl rfl rfl rfl ⟨Dn (.move (.t rfl)), Dn (.nilCheck (.t rfl)), Dn (.fieldAddr Try.underlying76 rfl J74 fequivalence_table_2 (.t rfl)), Dn (.load ty74 (.t rfl)), Dn (.load ty23 (.t rfl)), Dn (.lookupS U74 kt23 ze36 (.t rfl) (.t rfl)), Dn (.assign (.t rfl)), trivial⟩ <| Aq <| W.seq <| W.seq ?_
 rcases iteD hm with ⟨hp2, hb1, hm⟩ | ⟨hp2, hb1, hm⟩
 ·refine W.draw [.c _, .c _, .c _, .c _, .c _, .c _, .c _, .c _, .c _, .c _, .c _, .c _, .c _, .c _] [([], [6]), ([0], []), ([1], []), ([2], []), ([3], [0]), ([3, 4], []), ([3, 5], []), ([3, 6], []), ([3], [6]), ([3, 8], []), ([3, 9], []), ([3, 7, 10], []), ([3, 11], []), ([3, 12], [])] Mx rfl rfl rfl rfl ⟨Dn (.move (.t rfl)), Dn (.lenL U36 (.t rfl)), Dn (.neI (.t rfl) .i64), Dn (.move (.t rfl)), Dp rfl hb1, Dp rfl hb1, Dp rfl hb1, Dp rfl hb1, Dp rfl hb1, Dp rfl hb1, Dp rfl hb1, Dp rfl hb1, Dp rfl hb1, Dn (.pickT (.t rfl) hb1 .bool), trivial⟩ <| Aq <| W.condT (.t rfl) <| Aw <| Ao rfl (.build (s := tapi_Id) (x := (⟨(0 : Int), (0 : Int), (0 : Int)⟩ : api_Id)) zapi_Id_f rfl U23 (zapi_Id_sz _ U23) ze23 rfl) <| WL.opU (OpR.storeB (b := b) 4 Z23 (Cellable.is tapi_Id (⟨(0 : Int), (0 : Int), (0 : Int)⟩ : api_Id)) rfl (.t rfl) (.t rfl)) fun _ => Ao rfl (.assign .bool) <| WL.ns ?_
  cases hm
  exact W.retQ2 () rfl rfl (ResAt.cell 4 Y23 Z23 rfl (.t rfl)) (ResAt.tmp (.t rfl)) trivial
 ·obtain ⟨v, hv3, hm⟩ := Bs hm
  obtain ⟨inner, hv4, hm⟩ := Bs hm
  refine W.draw [.c _, .c _, .c _, .c _, .c _, .c _, .c _, .c _, .c _, .c _, .c _, .c _, .c _, .c _] [([], [6]), ([0], []), ([1], []), ([2], []), ([3], [0]), ([3, 4], []), ([3, 5], []), ([3, 6], []), ([3], [6]), ([3, 8], []), ([3, 9], []), ([3, 7, 10], []), ([3, 11], []), ([3, 12], [])] Mx rfl rfl rfl rfl ⟨Dn (.move (.t rfl)), Dn (.lenL U36 (.t rfl)), Dn (.neI (.t rfl) .i64), Dn (.move (.t rfl)), Dr rfl hb1 (.move (.t rfl)), Dr rfl hb1 (.nilCheck (.t rfl)), Dr rfl hb1 (.fieldAddr Try.underlying76 rfl J27 fequivalence_table_1 (.t rfl)), Dr rfl hb1 (.load ty27 (.t rfl)), Dr rfl hb1 (.move (.t rfl)), Dr rfl hb1 (.idx hv3 U36 Z23 (.t rfl) .i64), Dr rfl hb1 (.load ty23 (.t rfl)), Dr rfl hb1 (.call C33 (equivalence_inner_spec _ _ _ _ hv4) ⟨(.t rfl), (.t rfl), trivial⟩), Dr rfl hb1 (.notB (.t rfl)), Dn (.pickF (.t rfl) hb1 (.t rfl)), trivial⟩ <| Aq <| W.cR hm (.t rfl) (fun hp6 hm => ?_) (fun hp6 hm => ?_)
  ·refine Aw <| Ao rfl (.build (s := tapi_Id) (x := (⟨(0 : Int), (0 : Int), (0 : Int)⟩ : api_Id)) zapi_Id_f rfl U23 (zapi_Id_sz _ U23) ze23 rfl) <| WL.opU (OpR.storeB (b := b) 4 Z23 (Cellable.is tapi_Id (⟨(0 : Int), (0 : Int), (0 : Int)⟩ : api_Id)) rfl (.t rfl) (.t rfl)) fun _ => Ao rfl (.assign .bool) <| WL.ns ?_
   cases hm
   exact W.retQ2 () rfl rfl (ResAt.cell 4 Y23 Z23 rfl (.t rfl)) (ResAt.tmp (.t rfl)) trivial
  ·refine W.skip <| Aq <| Aw <| WL.mv rfl rfl ?_
   obtain ⟨v1, hv7, hm⟩ := Bs hm
   refine Ao rfl (.idx hv7 U36 Z23 (.t rfl) .i64) <| Ao rfl (.load ty23 (.t rfl)) <| WL.opU (OpR.storeB (b := b) 4 Z23 (Cellable.is tapi_Id v1) rfl (.t rfl) (.t rfl)) fun _ => Ao rfl (.assign .bool) <| WL.ns ?_
   cases hm
   exact W.retQ2 () rfl rfl (ResAt.cell 4 Y23 Z23 rfl (.t rfl)) (ResAt.tmp (.t rfl)) trivial

theorem equivalence_texts_spec (l : List api_Word) (r : (List Str)) (hm : M.equivalence_texts l = some r) : FSpec Try.prog 41 [((tL tapi_Word).is l)] ((tL tS).is r) := by
 unfold M.equivalence_texts at hm
 refine FSpec.of Try.func41 rfl rfl rfl fun g0 => Aw <| Ao rfl (.assign (.nil (t := tS))) <| Ar <| WL.addNil (t := tS) (E := 9) 3 <| Ao rfl (.assign (Opd.nilO (t := tS))) <| An <| W.seq <| Aw <| Am rfl rfl <| Ao rfl (.lenL U24 (.t rfl)) <| Ao rfl (.move .i64) <| An <| W.block ?_
 obtain ⟨s1, hs2, hk3⟩ := Bs hm
 clear hm
 refine W.loop (fun m (s : Int × List api_Word × List api_Word × (((List Str)) × Tok)) => m = s.2.2.1.length ∧ l = s.2.1 ++ s.2.2.1 ∧ s.1 = (s.2.1.length : Int) ∧ M.equivalence_texts_loop1 s.2.2.1 s.2.2.2.1 = some s1) (fun s => [(8, (I6.is s.1)), (3, (tO tS s.2.2.2.2 s.2.2.2.1)), (6, ((tL tapi_Word).is l)), (7, (I6.is (l.length : Int)))]) (fun s => [(3, Dec.Own tS 9 s.2.2.2.2 s.2.2.2.1.length)]) l.length ((0 : Int), [], l, (([] : List Str), (none : Tok))) ⟨rfl, rfl, rfl, hs2⟩ ⟨.q rfl, .q rfl, .q rfl, .q rfl, trivial⟩ ⟨rfl, rfl, trivial⟩ ?_
 rintro m ⟨i, pre, rest1, ⟨out, k⟩⟩ ⟨hn7, hxs4, hi5, hm⟩
 try dsimp only at hn7 hxs4 hi5 hm
 change W _ _ _ _ _ _ _ [(8, (I6.is i)), (3, (tO tS k out)), (6, ((tL tapi_Word).is l)), (7, (I6.is (l.length : Int)))] [(3, Dec.Own tS 9 k out.length)]
 refine W.lenL (s := 6) (.t rfl) fun hlen6 => Aw <| Ao rfl (.ltI (.t rfl) (.t rfl)) <| An <| W.seq <| W.cond (.t rfl) (fun hc9 => ?_) (fun hc9 => ?_)
 ·have hp10 := of_decide_eq_true hc9
  obtain ⟨e, es, hrest12⟩ := range_more hxs4 hi5 hp10
  subst hrest12
  rw [M.equivalence_texts_loop1.eq_2] at hm
  refine W.skip <| Aq <| W.seq <| W.block <| Aw <| Ao rfl (.idxPre hxs4 hi5 U24 Z49 (.t rfl) (.t rfl)) <| Ao rfl (.load ty49 (.t rfl)) <| WL.opR rfl (OpR.alloc 5 ze49) fun b => WL.opU (OpR.storeB (b := b) 5 Z49 (Cellable.is tapi_Word e) rfl (.t rfl) (.t rfl)) fun _ => WL.sealed (t := tapi_Word) (u := e) 5 5 rfl rfl <| WL.nr1 <| Am rfl rfl <| Ao rfl (.fieldAddr U49 rfl J9 fapi_Word_0 (.t rfl)) <| Ao rfl (.load ty9 (.t rfl)) <| Ao rfl (.buildSlice (n := 1) (ys := [(0, e.Text)]) (z := ([] : Str)) (xs := [e.Text]) U60 el9 ze9 ⟨rfl, (.t rfl), trivial⟩ (by simp) (by decide) rfl) ?_
  obtain ⟨out1, hv13, hm⟩ := Bs hm
  exact WL.opR rfl (OpR.appC (key := 3) hv13 U60 el9 (.t rfl) (.t rfl) rfl) fun k1 => Ag rfl rfl <| WL.nil <| WN.block <| Aq <| W.region <| Ao rfl (.addI (.t rfl) .i64 (range_inR hi5 hp10 hlen6)) <| Am rfl rfl <| WL.nil <| WN.again es.length (i + 1, pre ++ [e], es, (out1, k1)) (range_lt hn7) ⟨rfl, range_step hxs4, range_idx hi5, hm⟩ ⟨.q rfl, .q rfl, .q rfl, .q rfl, trivial⟩ ⟨rfl, rfl, trivial⟩
 ·have hrest12 := range_end hxs4 hi5 (of_decide_eq_false hc9)
  subst hrest12
  rw [M.equivalence_texts_loop1.eq_1] at hm
  refine W.exit rfl ?_
  have hr14 := Si hm
  clear hm
  subst hr14
  have hm := hk3
  try dsimp only at hm
  refine Aq <| Aw <| Am rfl rfl <| Ag rfl rfl <| WL.ns ?_
  cases hm
  exact W.ret1 () rfl (Opd.own (.t rfl)) trivial

theorem slices_Equal_string_string_spec (n : Nat) (s1_ : List Str) (s2_ : List Str) (r : Bool) (hm : M.slices_Equal_string_string n s1_ s2_ = some r) : FSpec Try.prog 45 [((tL tS).is s1_), ((tL tS).is s2_)] (tB.is r) := by
 unfold M.slices_Equal_string_string at hm
 refine FSpec.of Try.func45 rfl rfl rfl fun g0 => Aw <| Ao rfl (.assign .bool) <| An <| W.seq <| Aw <| Am rfl rfl <| Ao rfl (.lenL U60 (.t rfl)) <| Am rfl rfl <| Ao rfl (.lenL U60 (.t rfl)) <| Ao rfl (.neI (.t rfl) (.t rfl)) <| An <| W.cD hm (.t rfl) (fun hp2 hm => ?_) (fun hp2 hm => ?_)
 ·refine Aw <| Ao rfl (.assign .bool) <| WL.ns ?_
  cases hm
  exact W.ret1 () rfl (.t rfl) trivial
 ·refine W.skip <| Aq <| W.seq <| Aw <| Am rfl rfl <| Ao rfl (.lenL U60 (.t rfl)) <| Ao rfl (.move .i64) <| An <| W.block ?_
  obtain ⟨s3, hs4, hk5⟩ := Bs hm
  clear hm
  refine W.loop (fun m (s : Int) => M.slices_Equal_string_string_loop1 s1_ s2_ m s = some s3) (fun s => [(13, (I6.is s)), (0, ((tL tS).is s1_)), (1, ((tL tS).is s2_)), (12, (I6.is (s1_.length : Int)))]) (fun s => []) _ (0 : Int) hs4 ⟨.q rfl, .q rfl, .q rfl, .q rfl, trivial⟩ trivial ?_
  rintro n6 v hm
  try dsimp only at hm
  change W _ _ _ _ _ _ _ [(13, (I6.is v)), (0, ((tL tS).is s1_)), (1, ((tL tS).is s2_)), (12, (I6.is (s1_.length : Int)))] []
  cases n6 with
  | zero => rw [M.slices_Equal_string_string_loop1.eq_1] at hm; cases hm
  | succ n6 =>
   rw [M.slices_Equal_string_string_loop1.eq_2] at hm
   refine Aw <| Ao rfl (.ltI (.t rfl) (.t rfl)) <| An <| W.seq <| W.cD hm (.t rfl) (fun hp8 hm => ?_) (fun hp8 hm => ?_)
   ·refine W.skip <| Aq <| W.seq <| W.block <| Aw <| Am rfl rfl <| Ag rfl rfl <| An <| W.seq ?_
    obtain ⟨v1, hv9, hm⟩ := Bs hm
    obtain ⟨v2, hv10, hm⟩ := Bs hm
    refine W.draw [.c _, .c _, .c _, .c _, .c _, .c _, .c _, .c _, .c _] [([], [0]), ([], [5]), ([0, 1], []), ([2], []), ([], [1]), ([], [5]), ([4, 5], []), ([6], []), ([3, 7], [])] Mx rfl rfl rfl rfl ⟨Dn (.move (.t rfl)), Dn (.move (.t rfl)), Dn (.idx hv9 U60 Z9 (.t rfl) (.t rfl)), Dn (.load ty9 (.t rfl)), Dn (.move (.t rfl)), Dn (.move (.t rfl)), Dn (.idx hv10 U60 Z9 (.t rfl) (.t rfl)), Dn (.load ty9 (.t rfl)), Dn (.neS (.t rfl) (.t rfl)), trivial⟩ <| Aq <| W.cB hm (.t rfl) (fun hp12 hm => ?_) (fun hp12 hm => ?_)
    ·refine Aw <| Ao rfl (.assign .bool) <| WL.ns ?_
     have hr13 := Si hm
     clear hm
     subst hr13
     have hm := hk5
     try dsimp only at hm
     cases hm
     exact W.ret1 () rfl (.t rfl) trivial
    ·exact W.skip <| WN.block <| Aq <| W.region <| WL.lenL (s := 0) (.t rfl) fun hl14 => Ao rfl (.addI1 (.t rfl) .i64 hp8 hl14) <| Am rfl rfl <| WL.nil <| WN.again n6 (v + 1) (Nat.lt_succ_self n6) hm ⟨.q rfl, .q rfl, .q rfl, .q rfl, trivial⟩ trivial
   ·refine W.exit rfl ?_
    have hr15 := Si hm
    clear hm
    subst hr15
    have hm := hk5
    try dsimp only at hm
    refine Aq <| Aw <| Ao rfl (.assign .bool) <| WL.ns ?_
    cases hm
    exact W.ret1 () rfl (.t rfl) trivial

theorem wordseq_Equal_spec (n : Nat) (a : List Str) (b : List Str) (r : Bool) (hm : M.wordseq_Equal n a b = some r) : FSpec Try.prog 40 [((tL tS).is a), ((tL tS).is b)] (tB.is r) := by
 unfold M.wordseq_Equal at hm
 refine FSpec.of Try.func40 rfl rfl rfl fun g0 => Aw <| Ao rfl (.assign .bool) <| Ar <| Am rfl rfl <| WL.mv rfl rfl ?_
 obtain ⟨string, hv1, hm⟩ := Bs hm
 refine Ao rfl (.call C45 (slices_Equal_string_string_spec _ _ _ _ hv1) ⟨(.t rfl), (.t rfl), trivial⟩) <| Ag rfl rfl <| WL.ns ?_
 cases hm
 exact W.ret1 () rfl (.t rfl) trivial

theorem citation_reader_just_1_spec (s0_ : Str) (c : Str) (r : Bool) (hm : M.citation_reader_just_1 s0_ c = some r) : FSpec Try.prog 79 [(tS.is s0_), (tS.ptr c)] (tB.is r) := by
 unfold M.citation_reader_just_1 at hm
 refine FSpec.of Try.func79 rfl rfl rfl fun g0 => Aw <| Ao rfl (.assign .bool) <| Ar <| Am rfl rfl <| Ao rfl (.load ty9 (.t rfl)) <| Ao rfl (.eqS (.t rfl) (.t rfl)) <| Ag rfl rfl <| WL.ns ?_
 cases hm
 exact W.ret1 () rfl (.t rfl) trivial

theorem strings_IndexByte_spec (s : Str) (c r : Int) (hm : ixM s c = some r) : FSpec Try.prog 92 [tS.is s, (tI .u8).is c] (I6.is r) :=
 indexByte_spec (fun s c w => Try.strings_IndexByte s c w) s c r hm

theorem citation_reader_word_spec (r0_ : citation_reader) (is : Str → Option Bool) (b : Nat) (r : (Str × Bool) × citation_reader) (hm : M.citation_reader_word r0_ is = some r) : FSpecR Try.prog 78 [(Bp b 0), (tF Try.prog (fun s : Str × Bool => is s.1 = some s.2) (fun s : Str × Bool => [tS.is s.1]) (fun s : Str × Bool => (tB.is s.2)))] [(0, (Bx 3 true 117 (tcitation_reader.is r0_) b))] (fun kx : Unit => (Asn.tuple2 (tS.is r.1.1) (tB.is r.1.2))) (fun kx : Unit => [(0, (Bx 3 true 117 (tcitation_reader.is r.2) b))]) := by
 unfold M.citation_reader_word at hm
 refine FSpecR.of Try.func78 rfl rfl rfl fun g0 => Aw <| Ao rfl (.assign (.str rfl (by decide))) <| Ao rfl (.assign .bool) <| An <| W.seq <| W.seq ?_
 rcases iteB hm with ⟨hp2, hb1, hm⟩ | ⟨hp2, hb1, hm⟩
 ·refine W.draw [.c _, .c _, .c _, .c _, .c _, .c _, .c _, .c _, .c _, .c _, .c _, .c _, .c _, .c _, .c _, .c _] [([], [0]), ([0], []), ([1], []), ([2], []), ([3], []), ([4], [0]), ([4, 5], []), ([4, 6], []), ([4, 7], []), ([4], [0]), ([4, 9], []), ([4, 10], []), ([4, 11], []), ([4, 12], []), ([4, 8, 13], []), ([4, 14], [])] Mx rfl rfl rfl rfl ⟨Dn (.move (.t rfl)), Dn (.nilCheckB (.t rfl)), Dn (.fieldAddrB (o := 0) Try.underlying117 rfl J4 (.t rfl) rfl), Dn (.loadBF 0 rfl ty4 fcitation_reader_2 rfl (.t rfl)), Dn (.move (.t rfl)), Dp rfl hb1, Dp rfl hb1, Dp rfl hb1, Dp rfl hb1, Dp rfl hb1, Dp rfl hb1, Dp rfl hb1, Dp rfl hb1, Dp rfl hb1, Dp rfl hb1, Dn (.pickT (.t rfl) hb1 .bool), trivial⟩ <| Aq <| W.condT (.t rfl) <| Aw <| Ao rfl (.assign (.str rfl (by decide))) <| Ao rfl (.assign .bool) <| WL.ns ?_
  cases hm
  exact W.ret2 () rfl rfl (.t rfl) (.t rfl) ⟨rfl, rfl, trivial⟩
 ·refine W.draw [.c _, .c _, .c _, .c _, .c _, .c _, .c _, .c _, .c _, .c _, .c _, .c _, .c _, .c _, .c _, .c _] [([], [0]), ([0], []), ([1], []), ([2], []), ([3], []), ([4], [0]), ([4, 5], []), ([4, 6], []), ([4, 7], []), ([4], [0]), ([4, 9], []), ([4, 10], []), ([4, 11], []), ([4, 12], []), ([4, 8, 13], []), ([4, 14], [])] Mx rfl rfl rfl rfl ⟨Dn (.move (.t rfl)), Dn (.nilCheckB (.t rfl)), Dn (.fieldAddrB (o := 0) Try.underlying117 rfl J4 (.t rfl) rfl), Dn (.loadBF 0 rfl ty4 fcitation_reader_2 rfl (.t rfl)), Dn (.move (.t rfl)), Dr rfl hb1 (.move (.t rfl)), Dr rfl hb1 (.nilCheckB (.t rfl)), Dr rfl hb1 (.fieldAddrB (o := 0) Try.underlying117 rfl J3 (.t rfl) rfl), Dr rfl hb1 (.loadBF 0 rfl ty3 fcitation_reader_1 rfl (.t rfl)), Dr rfl hb1 (.move (.t rfl)), Dr rfl hb1 (.nilCheckB (.t rfl)), Dr rfl hb1 (.fieldAddrB (o := 0) Try.underlying117 rfl J60 (.t rfl) rfl), Dr rfl hb1 (.loadBF 0 rfl ty60 fcitation_reader_0 rfl (.t rfl)), Dr rfl hb1 (.lenL U60 (.t rfl)), Dr rfl hb1 (.geI (.t rfl) (.t rfl)), Dn (.pickF (.t rfl) hb1 (.t rfl)), trivial⟩ <| Aq <| W.cD hm (.t rfl) (fun hp4 hm => ?_) (fun hp4 hm => ?_)
  ·refine Aw <| Ao rfl (.assign (.str rfl (by decide))) <| Ao rfl (.assign .bool) <| WL.ns ?_
   cases hm
   exact W.ret2 () rfl rfl (.t rfl) (.t rfl) ⟨rfl, rfl, trivial⟩
  ·refine W.skip <| Aq <| W.seq ?_
   obtain ⟨v, hv5, hm⟩ := Bs hm
   refine W.draw [.c _, .c _, .c _, .c _, .c _, .c _, .c _, .c _, .c _, .c _, .c _] [([], [0]), ([0], []), ([1], []), ([2], []), ([], [0]), ([4], []), ([5], []), ([6], []), ([3, 7], []), ([8], []), ([9], [])] Mx rfl rfl rfl rfl ⟨Dn (.move (.t rfl)), Dn (.nilCheckB (.t rfl)), Dn (.fieldAddrB (o := 0) Try.underlying117 rfl J60 (.t rfl) rfl), Dn (.loadBF 0 rfl ty60 fcitation_reader_0 rfl (.t rfl)), Dn (.move (.t rfl)), Dn (.nilCheckB (.t rfl)), Dn (.fieldAddrB (o := 0) Try.underlying117 rfl J3 (.t rfl) rfl), Dn (.loadBF 0 rfl ty3 fcitation_reader_1 rfl (.t rfl)), Dn (.idx hv5 U60 Z9 (.t rfl) (.t rfl)), Dn (.load ty9 (.t rfl)), Dn (.assign (.t rfl)), trivial⟩ <| WN.seq ?_
   obtain ⟨s6, hs7, hk8⟩ := Bs hm
   clear hm
   refine W.join (fun s : Str × citation_reader => (Sum.inl s : (Str × citation_reader) ⊕ ((Str × Bool) × citation_reader)) = s6) (fun s => [(6, (tS.is s.1)), (0, (Bp b 0))]) (fun s => [(0, (Bx 3 true 117 (tcitation_reader.is s.2) b))]) ?_ ?_
   ·rintro ⟨s0_, r0_1⟩ hj30
    try dsimp only at hj30
    subst hj30
    have hm := hk8
    clear hk8
    try dsimp only at hm
    change W _ _ _ _ _ _ _ [(6, (tS.is s0_)), (0, (Bp b 0))] [(0, (Bx 3 true 117 (tcitation_reader.is r0_1) b))]
    refine Aw <| Am rfl rfl <| Ao rfl (.nilCheckB (.t rfl)) <| Ao rfl (.fieldAddrB (o := 0) Try.underlying117 rfl J3 (.t rfl) rfl) <| Ao rfl (.loadBF 0 rfl ty3 fcitation_reader_1 rfl (.t rfl)) ?_
    obtain ⟨v7, hv29, hm⟩ := Bs hm
    refine Ao rfl (.addC hv29 (.t rfl) .i64) <| Ao rfl (.nilCheckB (.t rfl)) <| Ao rfl (.fieldAddrB (o := 0) Try.underlying117 rfl J3 (.t rfl) rfl) <| WL.opU (OpR.storeBF (b := b) 0 rfl ty3 scitation_reader_1 rfl (by decide) (.t rfl) (.t rfl)) fun _ => Ar <| Am rfl rfl <| Ag rfl rfl <| Ao rfl (.assign .bool) <| WL.ns ?_
    cases hm
    exact W.ret2 () rfl rfl (.t rfl) (.t rfl) ⟨rfl, rfl, trivial⟩
   ·have hm := hs7
    clear hs7
    refine Aw <| Am rfl rfl <| WL.mv rfl rfl ?_
    obtain ⟨v1, hv9, hm⟩ := Bs hm
    refine Ao rfl (.callF (ok := (fun s : Str × Bool => is s.1 = some s.2)) (As := (fun s : Str × Bool => [tS.is s.1])) (A := (fun s : Str × Bool => (tB.is s.2))) (s := (v, v1)) (.t rfl) hv9 ⟨(.t rfl), trivial⟩) <| Ao rfl (.notB (.t rfl)) <| An <| W.cR hm (.t rfl) (fun hp11 hm => ?_) (fun hp11 hm => ?_)
    ·refine Aw <| Am rfl rfl <| Ao rfl (.lenS U9 (.t rfl)) ?_
     obtain ⟨v2, hv12, hm⟩ := Bs hm
     refine Ao rfl (.subC hv12 (.t rfl) .i64) <| Ag rfl rfl <| An <| W.seq ?_
     obtain ⟨s13, hs14, hk15⟩ := Bs hm
     clear hm
     refine W.join (fun s : Bool => s = s13) (fun s => [(57, (tB.is s)), (0, (Bp b 0)), (6, (tS.is v)), (7, (I6.is v2))]) (fun s => [(0, (Bx 3 true 117 (tcitation_reader.is r0_) b))]) ?_ ?_
     ·rintro v3 hj28
      try dsimp only at hj28
      subst hj28
      have hm := hk15
      clear hk15
      try dsimp only at hm
      change W _ _ _ _ _ _ _ [(57, (tB.is v3)), (0, (Bp b 0)), (6, (tS.is v)), (7, (I6.is v2))] [(0, (Bx 3 true 117 (tcitation_reader.is r0_) b))]
      refine W.cB hm (.t rfl) (fun hp25 hm => ?_) (fun hp25 hm => ?_)
      ·refine Aw <| Ao rfl (.assign (.str rfl (by decide))) <| Ao rfl (.assign .bool) <| WL.ns ?_
       have hr26 := Si hm
       clear hm
       subst hr26
       have hm := hk8
       try dsimp only at hm
       cases hm
       exact W.ret2 () rfl rfl (.t rfl) (.t rfl) ⟨rfl, rfl, trivial⟩
      ·refine W.skip <| Aq <| W.region <| Am rfl rfl <| Am rfl rfl <| WL.mv rfl rfl ?_
       obtain ⟨v6, hv27, hm⟩ := Bs hm
       exact Ao rfl (.sslcHi hv27 U9 (.t rfl) (.t rfl)) <| Ag rfl rfl <| Ao rfl (.nilCheckB (.t rfl)) <| Ao rfl (.fieldAddrB (o := 0) Try.underlying117 rfl J4 (.t rfl) rfl) <| WL.opU (OpR.storeBF (b := b) 0 rfl ty4 scitation_reader_2 rfl (by decide) (.t rfl) .bool) fun _ => WL.nil <| WN.meet (v6, ({ r0_ with ended_ := true } : citation_reader)) (Si hm) ⟨.q rfl, .q rfl, trivial⟩ ⟨rfl, rfl, trivial⟩
     ·have hm := hs14
      clear hs14
      refine W.region <| Am rfl rfl <| Ao rfl (.ltI (.t rfl) .i64) <| WL.mv rfl rfl ?_
      rcases iteD hm with ⟨hp17, hb16, hm⟩ | ⟨hp17, hb16, hm⟩
      ·exact Ap rfl hb16 <| Ap rfl hb16 <| Ap rfl hb16 <| Ap rfl hb16 <| Ap rfl hb16 <| Ao rfl (.pickT (.t rfl) hb16 .bool) <| Am rfl rfl <| Ap rfl rfl <| Ap rfl rfl <| Ap rfl rfl <| Ap rfl rfl <| Ap rfl rfl <| Ap rfl rfl <| Ao rfl (.pickT (.t rfl) rfl .bool) <| WL.nil <| WN.meet true (Si hm) ⟨.q rfl, .q rfl, .q rfl, .q rfl, trivial⟩ ⟨rfl, rfl, trivial⟩
      ·refine Ax rfl hb16 (.move (.t rfl)) <| Ax rfl hb16 (.move (.t rfl)) ?_
       obtain ⟨b1, hv18, hm⟩ := Bs hm
       refine Ax rfl hb16 (.sidx hv18 U9 (.t rfl) (.t rfl)) ?_
       obtain ⟨indexb, hv19, hm⟩ := Bs hm
       refine Ax rfl hb16 (.call C92 (strings_IndexByte_spec _ _ _ hv19) ⟨(.str rfl (by decide)), (.t rfl), trivial⟩) <| Ax rfl hb16 (.ltI (.t rfl) .i64) <| Ao rfl (.pickF (.t rfl) hb16 (.t rfl)) <| WL.mv rfl rfl ?_
       rcases iteD hm with ⟨hp21, hb20, hm⟩ | ⟨hp21, hb20, hm⟩
       ·exact Ap rfl hb20 <| Ap rfl hb20 <| Ap rfl hb20 <| Ap rfl hb20 <| Ap rfl hb20 <| Ap rfl hb20 <| Ao rfl (.pickT (.t rfl) hb20 .bool) <| WL.nil <| WN.meet true (Si hm) ⟨.q rfl, .q rfl, .q rfl, .q rfl, trivial⟩ ⟨rfl, rfl, trivial⟩
       ·refine Ax rfl hb20 (.move (.t rfl)) <| Ax rfl hb20 (.move (.t rfl)) <| Ax rfl hb20 (.move (.t rfl)) ?_
        obtain ⟨v4, hv22, hm⟩ := Bs hm
        refine Ax rfl hb20 (.sslcHi hv22 U9 (.t rfl) (.t rfl)) ?_
        obtain ⟨v5, hv23, hm⟩ := Bs hm
        exact Ax rfl hb20 (.callF (ok := (fun s : Str × Bool => is s.1 = some s.2)) (As := (fun s : Str × Bool => [tS.is s.1])) (A := (fun s : Str × Bool => (tB.is s.2))) (s := (v4, v5)) (.t rfl) hv23 ⟨(.t rfl), trivial⟩) <| Ax rfl hb20 (.notB (.t rfl)) <| Ao rfl (.pickF (.t rfl) hb20 (.t rfl)) <| WL.nil <| WN.meet (!v5) (Si hm) ⟨.q rfl, .q rfl, .q rfl, .q rfl, trivial⟩ ⟨rfl, rfl, trivial⟩
    ·exact W.skip <| WN.meet (v, r0_) (Si hm) ⟨.q rfl, .q rfl, trivial⟩ ⟨rfl, rfl, trivial⟩

theorem citation_reader_just_spec (r0_ : citation_reader) (want : Str) (b : Nat) (r : Bool × citation_reader) (hm : M.citation_reader_just r0_ want = some r) : FSpecR Try.prog 64 [(Bp b 0), (tS.is want)] [(0, (Bx 3 true 117 (tcitation_reader.is r0_) b))] (fun kx : Unit => (tB.is r.1)) (fun kx : Unit => [(0, (Bx 3 true 117 (tcitation_reader.is r.2) b))]) := by
 unfold M.citation_reader_just at hm
 refine FSpecR.of Try.func64 rfl rfl rfl fun g0 => Aw <| Ao rfl (.box (.t rfl)) <| Ao rfl (.assign .bool) <| Ar <| Am rfl rfl <| Ao rfl (.makeFunc (ok := (fun s : Str × Bool => (fun s0 => M.citation_reader_just_1 s0 want) s.1 = some s.2)) (As := (fun s : Str × Bool => [tS.is s.1])) (A := (fun s : Str × Bool => (tB.is s.2))) (Cs := [(tS.ptr want)]) (cap := [.tmp 3]) C79 ⟨(.t rfl), trivial⟩ (fun s hs => citation_reader_just_1_spec _ _ _ hs)) ?_
 obtain ⟨⟨word, r0_1⟩, hv1, hm⟩ := Bs hm
 dsimp only at hm
 refine WL.weakR (res' := [(0, (Bx 3 true 117 (tcitation_reader.is r0_) b))]) ⟨rfl, rfl, trivial⟩ <| WL.opR rfl (OpR.call (us := [0]) (A := fun kx : Unit => (Asn.tuple2 (tS.is word.1) (tB.is word.2))) C78 (FSpecR.keys (rin' := [(0, (Bx 3 true 117 (tcitation_reader.is r0_) b))]) (out' := fun kx : Unit => [(0, (Bx 3 true 117 (tcitation_reader.is r0_1) b))]) (citation_reader_word_spec _ _ _ _ hv1) rfl (fun _ => rfl)) rfl ⟨(.t rfl), (.t rfl), trivial⟩) fun _ => Am rfl rfl <| Ao rfl (.extract0 (.t rfl)) <| Ao rfl (.extract1 (.t rfl)) <| Ag rfl rfl <| Ag rfl rfl <| Ar <| Am rfl rfl <| Ag rfl rfl <| WL.ns ?_
 cases hm
 exact W.ret1 () rfl (.t rfl) ⟨rfl, rfl, trivial⟩

theorem citation_single_spec  (r : (List Str)) (hm : M.citation_single  = some r) : FSpec Try.prog 81 [] ((tL tS).is r) := by
 unfold M.citation_single at hm
 refine FSpec.of Try.func81 rfl rfl rfl fun g0 => Aw <| Ao rfl (.assign (.nil (t := tS))) <| Ar <| Ao rfl (.buildSlice (n := 8) (ys := [(1, ([112, 97, 114, 116] : Str)), (2, ([115, 101, 99, 116, 105, 111, 110] : Str)), (3, ([112, 97, 114, 97, 103, 114, 97, 112, 104] : Str)), (4, ([116, 97, 98, 108, 101] : Str)), (5, ([114, 111, 119] : Str)), (6, ([99, 101, 108, 108] : Str)), (7, ([110, 111, 116, 101] : Str))]) (z := ([] : Str)) (xs := [([] : Str), ([112, 97, 114, 116] : Str), ([115, 101, 99, 116, 105, 111, 110] : Str), ([112, 97, 114, 97, 103, 114, 97, 112, 104] : Str), ([116, 97, 98, 108, 101] : Str), ([114, 111, 119] : Str), ([99, 101, 108, 108] : Str), ([110, 111, 116, 101] : Str)]) U60 el9 ze9 ⟨rfl, (.str rfl (by decide)), rfl, (.str rfl (by decide)), rfl, (.str rfl (by decide)), rfl, (.str rfl (by decide)), rfl, (.str rfl (by decide)), rfl, (.str rfl (by decide)), rfl, (.str rfl (by decide)), trivial⟩ (by simp) (by decide) rfl) <| Ag rfl rfl <| WL.ns ?_
 cases hm
 exact W.ret1 () rfl (.t rfl) trivial

theorem slices_Index_string_string_spec (n : Nat) (s0_ : List Str) (v : Str) (r : Int) (hm : M.slices_Index_string_string n s0_ v = some r) : FSpec Try.prog 98 [((tL tS).is s0_), (tS.is v)] (I6.is r) := by
 unfold M.slices_Index_string_string at hm
 refine FSpec.of Try.func98 rfl rfl rfl fun g0 => Aw <| Ao rfl (.assign .i64) <| An <| W.seq <| Aw <| Am rfl rfl <| Ao rfl (.lenL U60 (.t rfl)) <| Ao rfl (.move .i64) <| An <| W.block ?_
 obtain ⟨s1, hs2, hk3⟩ := Bs hm
 clear hm
 refine W.loop (fun m (s : Int) => M.slices_Index_string_string_loop1 s0_ v m s = some s1) (fun s => [(8, (I6.is s)), (0, ((tL tS).is s0_)), (1, (tS.is v)), (7, (I6.is (s0_.length : Int)))]) (fun s => []) _ (0 : Int) hs2 ⟨.q rfl, .q rfl, .q rfl, .q rfl, trivial⟩ trivial ?_
 rintro n4 v1 hm
 try dsimp only at hm
 change W _ _ _ _ _ _ _ [(8, (I6.is v1)), (0, ((tL tS).is s0_)), (1, (tS.is v)), (7, (I6.is (s0_.length : Int)))] []
 cases n4 with
 | zero => rw [M.slices_Index_string_string_loop1.eq_1] at hm; cases hm
 | succ n4 =>
  rw [M.slices_Index_string_string_loop1.eq_2] at hm
  refine Aw <| Ao rfl (.ltI (.t rfl) (.t rfl)) <| An <| W.seq <| W.cD hm (.t rfl) (fun hp6 hm => ?_) (fun hp6 hm => ?_)
  ·refine W.skip <| Aq <| W.seq <| W.block <| Aw <| Am rfl rfl <| Ag rfl rfl <| Ar <| Am rfl rfl <| Am rfl rfl <| WL.mv rfl rfl ?_
   obtain ⟨v2, hv7, hm⟩ := Bs hm
   refine Ao rfl (.idx hv7 U60 Z9 (.t rfl) (.t rfl)) <| Ao rfl (.load ty9 (.t rfl)) <| Ao rfl (.eqS (.t rfl) (.t rfl)) <| An <| W.cB hm (.t rfl) (fun hp9 hm => ?_) (fun hp9 hm => ?_)
   ·refine Aw <| Am rfl rfl <| Ag rfl rfl <| WL.ns ?_
    have hr10 := Si hm
    clear hm
    subst hr10
    have hm := hk3
    try dsimp only at hm
    cases hm
    exact W.ret1 () rfl (.t rfl) trivial
   ·exact W.skip <| WN.block <| Aq <| W.region <| WL.lenL (s := 0) (.t rfl) fun hl11 => Ao rfl (.addI1 (.t rfl) .i64 hp6 hl11) <| Am rfl rfl <| WL.nil <| WN.again n4 (v1 + 1) (Nat.lt_succ_self n4) hm ⟨.q rfl, .q rfl, .q rfl, .q rfl, trivial⟩ trivial
  ·refine W.exit rfl ?_
   have hr12 := Si hm
   clear hm
   subst hr12
   have hm := hk3
   try dsimp only at hm
   refine Aq <| Aw <| Ao rfl (.assign .i64) <| WL.ns ?_
   cases hm
   exact W.ret1 () rfl (.t rfl) trivial

theorem citation_kind_spec (n : Nat) (l : List Str) (word : Str) (r : Int) (hm : M.citation_kind n l word = some r) : FSpec Try.prog 94 [((tL tS).is l), (tS.is word)] (I6.is r) := by
 unfold M.citation_kind at hm
 refine FSpec.of Try.func94 rfl rfl rfl fun g0 => Aw <| Ao rfl (.assign .i64) <| An <| W.seq <| Aw <| Am rfl rfl <| Ao rfl (.eqS (.t rfl) (.str rfl (by decide))) <| An <| W.cB hm (.t rfl) (fun hp2 hm => ?_) (fun hp2 hm => ?_)
 ·refine Aw <| Ao rfl (.assign .i64) <| WL.ns ?_
  cases hm
  exact W.ret1 () rfl (.t rfl) trivial
 ·refine W.skip <| Aq <| Aw <| Am rfl rfl <| WL.mv rfl rfl ?_
  obtain ⟨string, hv3, hm⟩ := Bs hm
  refine Ao rfl (.call C98 (slices_Index_string_string_spec _ _ _ _ hv3) ⟨(.t rfl), (.t rfl), trivial⟩) <| Ao rfl (.maxI (.t rfl) .i64) <| Ag rfl rfl <| WL.ns ?_
  cases hm
  exact W.ret1 () rfl (.t rfl) trivial

theorem citation_reader_kind_1_spec (n : Nat) (s0_ : Str) (c : List Str) (r : Bool) (hm : M.citation_reader_kind_1 n s0_ c = some r) : FSpec Try.prog 93 [(tS.is s0_), ((tL tS).ptr c)] (tB.is r) := by
 unfold M.citation_reader_kind_1 at hm
 refine FSpec.of Try.func93 rfl rfl rfl fun g0 => Aw <| Ao rfl (.assign .bool) <| Ar <| Ao rfl (.load ty60 (.t rfl)) <| WL.mv rfl rfl ?_
 obtain ⟨kind, hv1, hm⟩ := Bs hm
 refine Ao rfl (.call C94 (citation_kind_spec _ _ _ _ hv1) ⟨(.t rfl), (.t rfl), trivial⟩) <| Ao rfl (.gtI (.t rfl) .i64) <| Ag rfl rfl <| WL.ns ?_
 cases hm
 exact W.ret1 () rfl (.t rfl) trivial

theorem citation_reader_kind_spec (n : Nat) (r0_ : citation_reader) (l : List Str) (b : Nat) (r : (Int × Bool) × citation_reader) (hm : M.citation_reader_kind n r0_ l = some r) : FSpecR Try.prog 80 [(Bp b 0), ((tL tS).is l)] [(0, (Bx 3 true 117 (tcitation_reader.is r0_) b))] (fun kx : Unit => (Asn.tuple2 (I6.is r.1.1) (tB.is r.1.2))) (fun kx : Unit => [(0, (Bx 3 true 117 (tcitation_reader.is r.2) b))]) := by
 unfold M.citation_reader_kind at hm
 refine FSpecR.of Try.func80 rfl rfl rfl fun g0 => Aw <| Ao rfl (.box (.t rfl)) <| Ao rfl (.assign .i64) <| Ao rfl (.assign .bool) <| Ar <| Am rfl rfl <| Ao rfl (.makeFunc (ok := (fun s : Str × Bool => (fun s0 => M.citation_reader_kind_1 n s0 l) s.1 = some s.2)) (As := (fun s : Str × Bool => [tS.is s.1])) (A := (fun s : Str × Bool => (tB.is s.2))) (Cs := [((tL tS).ptr l)]) (cap := [.tmp 3]) C93 ⟨(.t rfl), trivial⟩ (fun s hs => citation_reader_kind_1_spec _ _ _ _ hs)) ?_
 obtain ⟨⟨word, r0_1⟩, hv1, hm⟩ := Bs hm
 dsimp only at hm
 refine WL.weakR (res' := [(0, (Bx 3 true 117 (tcitation_reader.is r0_) b))]) ⟨rfl, rfl, trivial⟩ <| WL.opR rfl (OpR.call (us := [0]) (A := fun kx : Unit => (Asn.tuple2 (tS.is word.1) (tB.is word.2))) C78 (FSpecR.keys (rin' := [(0, (Bx 3 true 117 (tcitation_reader.is r0_) b))]) (out' := fun kx : Unit => [(0, (Bx 3 true 117 (tcitation_reader.is r0_1) b))]) (citation_reader_word_spec _ _ _ _ hv1) rfl (fun _ => rfl)) rfl ⟨(.t rfl), (.t rfl), trivial⟩) fun _ => Am rfl rfl <| Ao rfl (.extract0 (.t rfl)) <| Ao rfl (.extract1 (.t rfl)) <| Ag rfl rfl <| Ag rfl rfl <| Ar <| Ao rfl (.load ty60 (.t rfl)) <| WL.mv rfl rfl ?_
 obtain ⟨kind, hv2, hm⟩ := Bs hm
 refine Ao rfl (.call C94 (citation_kind_spec _ _ _ _ hv2) ⟨(.t rfl), (.t rfl), trivial⟩) <| Am rfl rfl <| Ag rfl rfl <| Ag rfl rfl <| WL.ns ?_
 cases hm
 exact W.ret2 () rfl rfl (.t rfl) (.t rfl) ⟨rfl, rfl, trivial⟩

theorem strings_indexFunc_spec (n : Nat) (s0_ : Str) (f : Int → Option Bool) (truth : Bool) (r : Int) (hm : M.strings_indexFunc n s0_ f truth = some r) : FSpec Try.prog 99 [(tS.is s0_), (tF Try.prog (fun s : Int × Bool => f s.1 = some s.2) (fun s : Int × Bool => [(tI .i32).is s.1]) (fun s : Int × Bool => (tB.is s.2))), (tB.is truth)] (I6.is r) := by
 unfold M.strings_indexFunc at hm
 refine FSpec.of Try.func99 rfl rfl rfl fun g0 => Aw <| Ao rfl (.assign .i64) <| An <| W.seq <| Aw <| Am rfl rfl <| WL.opR rfl (OpR.range 10 U9 (.t rfl)) fun b => An <| W.block ?_
 obtain ⟨s1, hs2, hk3⟩ := Bs hm
 clear hm
 refine W.loop (fun m (s : Nat) => M.strings_indexFunc_loop1 s0_ f truth m s = some s1) (fun s => [(1, (tF Try.prog (fun s : Int × Bool => f s.1 = some s.2) (fun s : Int × Bool => [(tI .i32).is s.1]) (fun s : Int × Bool => (tB.is s.2)))), (2, (tB.is truth)), (10, (Bp b 0))]) (fun s => [(10, It s0_ s b)]) _ 0 hs2 ⟨.q rfl, .q rfl, .q rfl, trivial⟩ ⟨rfl, rfl, trivial⟩ ?_
 rintro n4 v hm
 try dsimp only at hm
 change W _ _ _ _ _ _ _ [(1, (tF Try.prog (fun s : Int × Bool => f s.1 = some s.2) (fun s : Int × Bool => [(tI .i32).is s.1]) (fun s : Int × Bool => (tB.is s.2)))), (2, (tB.is truth)), (10, (Bp b 0))] [(10, It s0_ v b)]
 cases n4 with
 | zero => rw [M.strings_indexFunc_loop1.eq_1] at hm; cases hm
 | succ n4 =>
  rw [M.strings_indexFunc_loop1.eq_2] at hm
  refine W.sr ?_
  by_cases hp5 : v < s0_.length
  ·rw [if_pos hp5] at hm
   refine WL.opR rfl (OpR.nextT (b := b) 10 hp5 rfl (.t rfl)) fun _ => Ao rfl (.extract30 (.t rfl)) <| An <| W.seq <| W.condT (.t rfl) <| W.skip <| Aq <| W.block <| Aw <| Ao rfl (.extract31 (.t rfl)) <| Ao rfl (.extract32 (.t rfl)) <| Ag rfl rfl <| Ag rfl rfl <| Ar <| Am rfl rfl <| WL.mv rfl rfl ?_
   obtain ⟨v1, hv6, hm⟩ := Bs hm
   refine Ao rfl (.callF (ok := (fun s : Int × Bool => f s.1 = some s.2)) (As := (fun s : Int × Bool => [(tI .i32).is s.1])) (A := (fun s : Int × Bool => (tB.is s.2))) (s := (((runeAt s0_ v).1 : Int), v1)) (.t rfl) hv6 ⟨(.t rfl), trivial⟩) <| Am rfl rfl <| Ao rfl (.eqB U4 (.t rfl) (.t rfl)) <| An <| W.cB hm (.t rfl) (fun hp8 hm => ?_) (fun hp8 hm => ?_)
   ·refine Aw <| Am rfl rfl <| Ag rfl rfl <| WL.ns ?_
    have hr9 := Si hm
    clear hm
    subst hr9
    have hm := hk3
    try dsimp only at hm
    cases hm
    exact W.ret1 () rfl (.t rfl) trivial
   ·exact W.skip <| WN.block <| WN.again n4 (v + (runeAt s0_ v).2) (Nat.lt_succ_self n4) hm ⟨.q rfl, .q rfl, .q rfl, trivial⟩ ⟨rfl, rfl, trivial⟩
  ·rw [if_neg hp5] at hm
   refine Ao rfl (.nextF 10 hp5 rfl (.t rfl)) <| Ao rfl (.extract10 (.t rfl)) <| An <| W.seq <| W.condF (.t rfl) <| W.exit rfl ?_
   have hr10 := Si hm
   clear hm
   subst hr10
   have hm := hk3
   try dsimp only at hm
   refine Aq <| Aw <| Ao rfl (.assign .i64) <| WL.ns ?_
   cases hm
   exact W.ret1 () rfl (.t rfl) trivial

theorem strings_IndexFunc_spec (n : Nat) (s0_ : Str) (f : Int → Option Bool) (r : Int) (hm : M.strings_IndexFunc n s0_ f = some r) : FSpec Try.prog 96 [(tS.is s0_), (tF Try.prog (fun s : Int × Bool => f s.1 = some s.2) (fun s : Int × Bool => [(tI .i32).is s.1]) (fun s : Int × Bool => (tB.is s.2)))] (I6.is r) := by
 unfold M.strings_IndexFunc at hm
 refine FSpec.of Try.func96 rfl rfl rfl fun g0 => Aw <| Ao rfl (.assign .i64) <| Ar <| Am rfl rfl <| WL.mv rfl rfl ?_
 obtain ⟨indexf, hv1, hm⟩ := Bs hm
 refine Ao rfl (.call C99 (strings_indexFunc_spec _ _ _ _ _ hv1) ⟨(.t rfl), (.t rfl), .bool, trivial⟩) <| Ag rfl rfl <| WL.ns ?_
 cases hm
 exact W.ret1 () rfl (.t rfl) trivial

theorem label_parted_1_spec (b : Int) (r : Bool) (hm : M.label_parted_1 b = some r) : FSpec Try.prog 97 [((tI .i32).is b)] (tB.is r) := by
 unfold M.label_parted_1 at hm
 refine FSpec.of Try.func97 rfl rfl rfl fun g0 => Aw <| Ao rfl (.assign .bool) <| Ar <| Am rfl rfl <| Ao rfl (.ltI (.t rfl) (.int (inR32.2 (by omega)))) <| WL.mv rfl rfl ?_
 rcases iteD hm with ⟨hp2, hb1, hm⟩ | ⟨hp2, hb1, hm⟩
 ·refine Ap rfl hb1 <| Ap rfl hb1 <| Ao rfl (.pickT (.t rfl) hb1 .bool) <| Ag rfl rfl <| WL.ns ?_
  cases hm
  exact W.ret1 () rfl (.t rfl) trivial
 ·refine Ax rfl hb1 (.move (.t rfl)) <| Ax rfl hb1 (.gtI (.t rfl) (.int (inR32.2 (by omega)))) <| Ao rfl (.pickF (.t rfl) hb1 (.t rfl)) <| Ag rfl rfl <| WL.ns ?_
  cases hm
  exact W.ret1 () rfl (.t rfl) trivial

theorem label_parted_spec (n : Nat) (s0_ : Str) (r : Str × Str) (hm : M.label_parted n s0_ = some r) : FSpec Try.prog 86 [(tS.is s0_)] (Asn.tuple2 (tS.is r.1) (tS.is r.2)) := by
 unfold M.label_parted at hm
 refine FSpec.of Try.func86 rfl rfl rfl fun g0 => Aw <| Ao rfl (.assign (.str rfl (by decide))) <| Ao rfl (.assign (.str rfl (by decide))) <| Ar <| WL.mv rfl rfl ?_
 obtain ⟨indexf, hv1, hm⟩ := Bs hm
 refine Ao rfl (.call C96 (strings_IndexFunc_spec _ _ _ _ hv1) ⟨(.t rfl), (Opd.fn C97 (fun s hs => label_parted_1_spec _ _ hs)), trivial⟩) <| Ag rfl rfl <| An <| W.seq <| Aw <| Am rfl rfl <| Ao rfl (.ltI (.t rfl) .i64) <| An <| W.cD hm (.t rfl) (fun hp3 hm => ?_) (fun hp3 hm => ?_)
 ·refine Aw <| Am rfl rfl <| Ag rfl rfl <| Ao rfl (.assign (.str rfl (by decide))) <| WL.ns ?_
  cases hm
  exact W.ret2 () rfl rfl (.t rfl) (.t rfl) trivial
 ·refine W.skip <| Aq <| W.seq ?_
  obtain ⟨v, hv4, hm⟩ := Bs hm
  obtain ⟨v1, hv5, hm⟩ := Bs hm
  refine W.draw [.c _, .c _, .c _, .c _, .c _, .c _, .c _, .c _] [([], [0]), ([], [4]), ([0, 1], []), ([], [0]), ([], [4]), ([3, 4], []), ([2], []), ([5], [])] Mx rfl rfl rfl rfl ⟨Dn (.move (.t rfl)), Dn (.move (.t rfl)), Dn (.sslcHi hv4 U9 (.t rfl) (.t rfl)), Dn (.move (.t rfl)), Dn (.move (.t rfl)), Dn (.sslcLo hv5 U9 (.t rfl) (.t rfl)), Dn (.assign (.t rfl)), Dn (.assign (.t rfl)), trivial⟩ <| WN.seq ?_
  cases hm
  exact W.ret2 () rfl rfl (.t rfl) (.t rfl) trivial

theorem strings_ContainsFunc_spec (n : Nat) (s0_ : Str) (f : Int → Option Bool) (r : Bool) (hm : M.strings_ContainsFunc n s0_ f = some r) : FSpec Try.prog 88 [(tS.is s0_), (tF Try.prog (fun s : Int × Bool => f s.1 = some s.2) (fun s : Int × Bool => [(tI .i32).is s.1]) (fun s : Int × Bool => (tB.is s.2)))] (tB.is r) := by
 unfold M.strings_ContainsFunc at hm
 refine FSpec.of Try.func88 rfl rfl rfl fun g0 => Aw <| Ao rfl (.assign .bool) <| Ar <| Am rfl rfl <| WL.mv rfl rfl ?_
 obtain ⟨indexf, hv1, hm⟩ := Bs hm
 refine Ao rfl (.call C96 (strings_IndexFunc_spec _ _ _ _ hv1) ⟨(.t rfl), (.t rfl), trivial⟩) <| Ao rfl (.geI (.t rfl) .i64) <| Ag rfl rfl <| WL.ns ?_
 cases hm
 exact W.ret1 () rfl (.t rfl) trivial

theorem label_Valid_1_spec (b : Int) (r : Bool) (hm : M.label_Valid_1 b = some r) : FSpec Try.prog 87 [((tI .i32).is b)] (tB.is r) := by
 unfold M.label_Valid_1 at hm
 refine FSpec.of Try.func87 rfl rfl rfl fun g0 => Aw <| Ao rfl (.assign .bool) <| Ar <| Am rfl rfl <| Ao rfl (.ltI (.t rfl) (.int (inR32.2 (by omega)))) <| WL.mv rfl rfl ?_
 rcases iteD hm with ⟨hp2, hb1, hm⟩ | ⟨hp2, hb1, hm⟩
 ·refine Ap rfl hb1 <| Ap rfl hb1 <| Ao rfl (.pickT (.t rfl) hb1 .bool) <| Ag rfl rfl <| WL.ns ?_
  cases hm
  exact W.ret1 () rfl (.t rfl) trivial
 ·refine Ax rfl hb1 (.move (.t rfl)) <| Ax rfl hb1 (.gtI (.t rfl) (.int (inR32.2 (by omega)))) <| Ao rfl (.pickF (.t rfl) hb1 (.t rfl)) <| Ag rfl rfl <| WL.ns ?_
  cases hm
  exact W.ret1 () rfl (.t rfl) trivial

theorem label_Valid_spec (n : Nat) (s0_ : Str) (r : Bool) (hm : M.label_Valid n s0_ = some r) : FSpec Try.prog 69 [(tS.is s0_)] (tB.is r) := by
 unfold M.label_Valid at hm
 refine FSpec.of Try.func69 rfl rfl rfl fun g0 => Aw <| Ao rfl (.assign .bool) <| Ar <| WL.mv rfl rfl ?_
 obtain ⟨parted, hv1, hm⟩ := Bs hm
 refine Ao rfl (.call C86 (label_parted_spec _ _ _ hv1) ⟨(.t rfl), trivial⟩) <| Am rfl rfl <| Ao rfl (.extract0 (.t rfl)) <| Ao rfl (.extract1 (.t rfl)) <| Ag rfl rfl <| Ag rfl rfl <| Ar <| Ao rfl (.assign .func) <| Ar <| Am rfl rfl <| Ao rfl (.lenS U9 (.t rfl)) <| Ao rfl (.geI (.t rfl) .i64) <| WL.mv rfl rfl ?_
 rcases iteD hm with ⟨hp3, hb2, hm⟩ | ⟨hp3, hb2, hm⟩
 ·refine Ax rfl hb2 (.move (.t rfl)) <| Ax rfl hb2 (.lenS U9 (.t rfl)) <| Ax rfl hb2 (.leI (.t rfl) .i64) <| Ao rfl (.pickT (.t rfl) hb2 (.t rfl)) <| WL.mv rfl rfl ?_
  rcases iteD hm with ⟨hp5, hb4, hm⟩ | ⟨hp5, hb4, hm⟩
  ·refine Ax rfl hb4 (.move (.t rfl)) ?_
   obtain ⟨b, hv6, hm⟩ := Bs hm
   refine Ax rfl hb4 (.sidx hv6 U9 (.t rfl) .i64) <| Ax rfl hb4 (.neI (.t rfl) (.int (inR8.2 (by omega)))) <| Ao rfl (.pickT (.t rfl) hb4 (.t rfl)) <| WL.mv rfl rfl ?_
   rcases iteD hm with ⟨hp8, hb7, hm⟩ | ⟨hp8, hb7, hm⟩
   ·refine Ax rfl hb7 (.move (.t rfl)) <| Ax rfl hb7 (.lenS U9 (.t rfl)) <| Ax rfl hb7 (.leI (.t rfl) .i64) <| Ao rfl (.pickT (.t rfl) hb7 (.t rfl)) <| WL.mv rfl rfl ?_
    rcases iteD hm with ⟨hp10, hb9, hm⟩ | ⟨hp10, hb9, hm⟩
    ·refine Ax rfl hb9 (.move (.t rfl)) <| Ax rfl hb9 (.move (.t rfl)) ?_
     obtain ⟨contai, hv11, hm⟩ := Bs hm
     refine Ax rfl hb9 (.call C88 (strings_ContainsFunc_spec _ _ _ _ hv11) ⟨(.t rfl), (Opd.fnE (.t rfl) C87 (fun s hs => label_Valid_1_spec _ _ hs)), trivial⟩) <| Ax rfl hb9 (.notB (.t rfl)) <| Ao rfl (.pickT (.t rfl) hb9 (.t rfl)) <| Ag rfl rfl <| WL.ns ?_
     cases hm
     exact W.ret1 () rfl (.t rfl) trivial
    ·refine Ap rfl hb9 <| Ap rfl hb9 <| Ap rfl hb9 <| Ap rfl hb9 <| Ao rfl (.pickF (.t rfl) hb9 .bool) <| Ag rfl rfl <| WL.ns ?_
     cases hm
     exact W.ret1 () rfl (.t rfl) trivial
   ·refine Ap rfl hb7 <| Ap rfl hb7 <| Ap rfl hb7 <| Ao rfl (.pickF (.t rfl) hb7 .bool) <| Am rfl rfl <| Ap rfl rfl <| Ap rfl rfl <| Ap rfl rfl <| Ap rfl rfl <| Ao rfl (.pickF (.t rfl) rfl .bool) <| Ag rfl rfl <| WL.ns ?_
    cases hm
    exact W.ret1 () rfl (.t rfl) trivial
  ·refine Ap rfl hb4 <| Ap rfl hb4 <| Ap rfl hb4 <| Ao rfl (.pickF (.t rfl) hb4 .bool) <| Am rfl rfl <| Ap rfl rfl <| Ap rfl rfl <| Ap rfl rfl <| Ao rfl (.pickF (.t rfl) rfl .bool) <| Am rfl rfl <| Ap rfl rfl <| Ap rfl rfl <| Ap rfl rfl <| Ap rfl rfl <| Ao rfl (.pickF (.t rfl) rfl .bool) <| WL.gv rfl rfl ?_
   refine WL.ns ?_
   cases hm
   exact W.ret1 () rfl (.t rfl) trivial
 ·refine Ap rfl hb2 <| Ap rfl hb2 <| Ap rfl hb2 <| Ao rfl (.pickF (.t rfl) hb2 .bool) <| Am rfl rfl <| Ap rfl rfl <| Ap rfl rfl <| Ap rfl rfl <| Ao rfl (.pickF (.t rfl) rfl .bool) <| Am rfl rfl <| Ap rfl rfl <| Ap rfl rfl <| Ap rfl rfl <| Ao rfl (.pickF (.t rfl) rfl .bool) <| Am rfl rfl <| Ap rfl rfl ?_
  refine Ap rfl rfl <| Ap rfl rfl <| Ap rfl rfl <| Ao rfl (.pickF (.t rfl) rfl .bool) <| Ag rfl rfl <| WL.ns ?_
  cases hm
  exact W.ret1 () rfl (.t rfl) trivial

theorem citation_reader_step_spec (n : Nat) (r0_ : citation_reader) (l : List Str) (b : Nat) (r : (api_Step × Bool) × citation_reader) (hm : M.citation_reader_step n r0_ l = some r) : FSpecR Try.prog 76 [(Bp b 0), ((tL tS).is l)] [(0, (Bx 3 true 117 (tcitation_reader.is r0_) b))] (fun kx : Unit => (Asn.tuple2 (tapi_Step.is r.1.1) (tB.is r.1.2))) (fun kx : Unit => [(0, (Bx 3 true 117 (tcitation_reader.is r.2) b))]) := by
 unfold M.citation_reader_step at hm
 refine FSpecR.of Try.func76 rfl rfl rfl fun g0 => Aw <| WL.opR rfl (OpR.alloc 4 ze124) fun b1 => Ao rfl (.assign .bool) <| Ar <| Am rfl rfl <| Ao rfl (.nilCheckB (.t rfl)) <| Ao rfl (.loadB 0 Y117 Z117 rfl (.t rfl)) <| WL.opR rfl (OpR.alloc 6 ze117) fun b2 => WL.opU (OpR.storeB (b := b2) 6 Z117 (Cellable.is tcitation_reader r0_) rfl (.t rfl) (.t rfl)) fun _ => WL.sealed (t := tcitation_reader) (u := r0_) 6 6 rfl rfl <| Ar <| Am rfl rfl <| WL.mv rfl rfl ?_
 obtain ⟨⟨kind, r0_1⟩, hv1, hm⟩ := Bs hm
 dsimp only at hm
 refine WL.weakR (res' := [(0, (Bx 3 true 117 (tcitation_reader.is r0_) b)), (4, (Bx 2 true 124 (tapi_Step.is zapi_Step) b1))]) ⟨rfl, rfl, ⟨rfl, rfl, trivial⟩⟩ <| WL.opR rfl (OpR.call (us := [0]) (A := fun kx : Unit => (Asn.tuple2 (I6.is kind.1) (tB.is kind.2))) C80 (FSpecR.keys (rin' := [(0, (Bx 3 true 117 (tcitation_reader.is r0_) b))]) (out' := fun kx : Unit => [(0, (Bx 3 true 117 (tcitation_reader.is r0_1) b))]) (citation_reader_kind_spec _ _ _ _ _ hv1) rfl (fun _ => rfl)) rfl ⟨(.t rfl), (.t rfl), trivial⟩) fun _ => Am rfl rfl <| Ao rfl (.extract0 (.t rfl)) <| Ao rfl (.extract1 (.t rfl)) <| Ag rfl rfl <| Ag rfl rfl <| Ar <| WL.mv rfl rfl ?_
 obtain ⟨⟨word, r0_2⟩, hv2, hm⟩ := Bs hm
 dsimp only at hm
 refine WL.weakR (res' := [(0, (Bx 3 true 117 (tcitation_reader.is r0_1) b)), (4, (Bx 2 true 124 (tapi_Step.is zapi_Step) b1))]) ⟨rfl, rfl, ⟨rfl, rfl, trivial⟩⟩ <| WL.opR rfl (OpR.call (us := [0]) (A := fun kx : Unit => (Asn.tuple2 (tS.is word.1) (tB.is word.2))) C78 (FSpecR.keys (rin' := [(0, (Bx 3 true 117 (tcitation_reader.is r0_1) b))]) (out' := fun kx : Unit => [(0, (Bx 3 true 117 (tcitation_reader.is r0_2) b))]) (citation_reader_word_spec _ _ _ _ hv2) rfl (fun _ => rfl)) rfl ⟨(.t rfl), (Opd.fn C69 (fun s hs => label_Valid_spec _ _ _ hs)), trivial⟩) fun _ => Am rfl rfl <| Ao rfl (.extract0 (.t rfl)) <| Ao rfl (.extract1 (.t rfl)) <| Ag rfl rfl <| Ag rfl rfl <| An <| W.seq ?_
 obtain ⟨s3, hs4, hk5⟩ := Bs hm
 clear hm
 refine W.join (fun s : Bool => s = s3) (fun s => [(30, (tB.is s)), (0, (Bp b 0)), (4, (Bp b1 0)), (6, (tcitation_reader.ptr r0_)), (7, (I6.is kind.1)), (9, (tS.is word.1))]) (fun s => [(0, (Bx 3 true 117 (tcitation_reader.is r0_2) b)), (4, (Bx 2 true 124 (tapi_Step.is zapi_Step) b1))]) ?_ ?_
 ·rintro v hj10
  try dsimp only at hj10
  subst hj10
  have hm := hk5
  clear hk5
  try dsimp only at hm
  change W _ _ _ _ _ _ _ [(30, (tB.is v)), (0, (Bp b 0)), (4, (Bp b1 0)), (6, (tcitation_reader.ptr r0_)), (7, (I6.is kind.1)), (9, (tS.is word.1))] [(0, (Bx 3 true 117 (tcitation_reader.is r0_2) b)), (4, (Bx 2 true 124 (tapi_Step.is zapi_Step) b1))]
  refine W.cB hm (.t rfl) (fun hp9 hm => ?_) (fun hp9 hm => ?_)
  ·refine Aw <| Am rfl rfl <| Ao rfl (.load ty117 (.t rfl)) <| Ao rfl (.nilCheckB (.t rfl)) <| WL.opU (OpR.storeB (b := b) 0 Z117 (Cellable.is tcitation_reader r0_) rfl (.t rfl) (.t rfl)) fun _ => Ar <| Ao rfl (.build (s := tapi_Step) (x := (⟨(0 : Int), ([] : Str)⟩ : api_Step)) zapi_Step_f rfl U124 (zapi_Step_sz _ U124) ze124 rfl) <| WL.opU (OpR.storeB (b := b1) 4 Z124 (Cellable.is tapi_Step (⟨(0 : Int), ([] : Str)⟩ : api_Step)) rfl (.t rfl) (.t rfl)) fun _ => Ao rfl (.assign .bool) <| WL.ns ?_
   cases hm
   exact W.retQ2 () rfl rfl (ResAt.cell 4 Y124 Z124 rfl (.t rfl)) (ResAt.tmp (.t rfl)) ⟨rfl, rfl, trivial⟩
  ·refine W.skip <| Aq <| Aw <| Am rfl rfl <| Am rfl rfl <| Ao rfl (.build (s := tapi_Step) (x := (⟨kind.1, word.1⟩ : api_Step)) zapi_Step_f rfl U124 (zapi_Step_sz _ U124) ze124 ⟨_, I6, kind.1, _, _, rfl, Z3, (.t rfl), sapi_Step_0, ⟨_, tS, word.1, _, _, rfl, Z9, (.t rfl), sapi_Step_1, rfl⟩⟩) <| WL.opU (OpR.storeB (b := b1) 4 Z124 (Cellable.is tapi_Step (⟨kind.1, word.1⟩ : api_Step)) rfl (.t rfl) (.t rfl)) fun _ => Ao rfl (.assign .bool) <| WL.ns ?_
   cases hm
   exact W.retQ2 () rfl rfl (ResAt.cell 4 Y124 Z124 rfl (.t rfl)) (ResAt.tmp (.t rfl)) ⟨rfl, rfl, trivial⟩
 ·have hm := hs4
  clear hs4
  refine W.region <| Am rfl rfl <| Ao rfl (.notB (.t rfl)) <| WL.mv rfl rfl ?_
  rcases iteR hm with ⟨hp7, hb6, hm⟩ | ⟨hp7, hb6, hm⟩
  ·exact Ap rfl hb6 <| Ap rfl hb6 <| Ao rfl (.pickT (.t rfl) hb6 .bool) <| WL.nil <| WN.meet true (Si hm) ⟨.q rfl, .q rfl, .q rfl, .q rfl, .q rfl, .q rfl, trivial⟩ ⟨rfl, rfl, ⟨rfl, rfl, trivial⟩⟩
  ·exact Ax rfl hb6 (.move (.t rfl)) <| Ax rfl hb6 (.notB (.t rfl)) <| Ao rfl (.pickF (.t rfl) hb6 (.t rfl)) <| WL.nil <| WN.meet (!word.2) (Si hm) ⟨.q rfl, .q rfl, .q rfl, .q rfl, .q rfl, .q rfl, trivial⟩ ⟨rfl, rfl, ⟨rfl, rfl, trivial⟩⟩

theorem citation_reader_more_spec (n : Nat) (r0_ : citation_reader) (p : List api_Step) (b : Nat) (k : Tok) (r : ((List api_Step)) × citation_reader) (hm : M.citation_reader_more n r0_ p = some r) : FSpecR Try.prog 75 [(Bp b 0), (tO tapi_Step k p)] [(0, (Bx 3 true 117 (tcitation_reader.is r0_) b)), (1000001, Dec.Own tapi_Step 124 k p.length)] (fun kx : Tok => tO tapi_Step kx r.1) (fun kx : Tok => [(0, (Bx 3 true 117 (tcitation_reader.is r.2) b)), (77777, Dec.Own tapi_Step 124 kx r.1.length)]) := by
 unfold M.citation_reader_more at hm
 refine FSpecR.of Try.func75 rfl rfl rfl fun g0 => Aw <| WL.addNil (t := tapi_Step) (E := 124) 4 <| Ao rfl (.assign (Opd.nilO (t := tapi_Step))) <| An <| W.seq <| W.block ?_
 obtain ⟨s1, hs2, hk3⟩ := Bs hm
 clear hm
 refine W.loop (fun m (s : ((List api_Step) × citation_reader) × Tok) => M.citation_reader_more_loop1 m s.1.1 s.1.2 = some s1) (fun s => [(1, (tO tapi_Step s.2 s.1.1)), (0, (Bp b 0))]) (fun s => [(1000001, Dec.Own tapi_Step 124 s.2 s.1.1.length), (0, (Bx 3 true 117 (tcitation_reader.is s.1.2) b))]) _ ((p, r0_), k) hs2 ⟨.q rfl, .q rfl, trivial⟩ ⟨rfl, rfl, ⟨rfl, rfl, trivial⟩⟩ ?_
 rintro n4 ⟨⟨p1, r0_1⟩, k1⟩ hm
 try dsimp only at hm
 change W _ _ _ _ _ _ _ [(1, (tO tapi_Step k1 p1)), (0, (Bp b 0))] [(1000001, Dec.Own tapi_Step 124 k1 p1.length), (0, (Bx 3 true 117 (tcitation_reader.is r0_1) b))]
 cases n4 with
 | zero => rw [M.citation_reader_more_loop1.eq_1] at hm; cases hm
 | succ n4 =>
  rw [M.citation_reader_more_loop1.eq_2] at hm
  refine W.seq <| Aw <| Am rfl rfl <| Ao rfl (.lenL U94 (Opd.own (.t rfl))) <| Ao rfl (.ltI (.t rfl) .i64) <| An <| W.cD hm (.t rfl) (fun hp6 hm => ?_) (fun hp6 hm => ?_)
  ·refine W.skip <| Aq <| W.block <| Aw <| WL.mv rfl rfl ?_
   obtain ⟨single, hv7, hm⟩ := Bs hm
   refine Ao rfl (.call C81 (citation_single_spec _ hv7) trivial) ?_
   obtain ⟨⟨step, r0_2⟩, hv8, hm⟩ := Bs hm
   dsimp only at hm
   refine WL.weakR (res' := [(0, (Bx 3 true 117 (tcitation_reader.is r0_1) b)), (1000001, Dec.Own tapi_Step 124 k1 p1.length)]) ⟨rfl, rfl, ⟨rfl, rfl, trivial⟩⟩ <| WL.opR rfl (OpR.call (us := [0]) (A := fun kx : Unit => (Asn.tuple2 (tapi_Step.is step.1) (tB.is step.2))) C76 (FSpecR.keys (rin' := [(0, (Bx 3 true 117 (tcitation_reader.is r0_1) b))]) (out' := fun kx : Unit => [(0, (Bx 3 true 117 (tcitation_reader.is r0_2) b))]) (citation_reader_step_spec _ _ _ _ _ hv8) rfl (fun _ => rfl)) rfl ⟨(.t rfl), (.t rfl), trivial⟩) fun _ => Am rfl rfl <| Ao rfl (.extract0 (.t rfl)) <| Ao rfl (.extract1 (.t rfl)) <| WL.opR rfl (OpR.alloc 5 ze124) fun b1 => WL.opU (OpR.storeB (b := b1) 5 Z124 (Cellable.is tapi_Step step.1) rfl (.t rfl) (.t rfl)) fun _ => WL.sealed (t := tapi_Step) (u := step.1) 5 5 rfl rfl <| Ag rfl rfl <| An <| W.seq <| Aw <| Am rfl rfl <| Ao rfl (.notB (.t rfl)) <| An <| W.cR hm (.t rfl) (fun hp10 hm => ?_) (fun hp10 hm => ?_)
   ·refine W.exit rfl ?_
    have hr11 := Si hm
    clear hm
    subst hr11
    have hm := hk3
    try dsimp only at hm
    refine Aq <| Aw <| Am rfl rfl <| Ag rfl rfl <| WL.ns ?_
    have hr := Si hm
    clear hm
    subst hr
    exact W.weakR (res' := [(0, (Bx 3 true 117 (tcitation_reader.is r0_2) b)), (1000001, Dec.Own tapi_Step 124 k1 p1.length)]) ⟨rfl, rfl, ⟨rfl, rfl, trivial⟩⟩ <| W.rekey (res' := [(0, (Bx 3 true 117 (tcitation_reader.is r0_2) b)), (77777, Dec.Own tapi_Step 124 k1 p1.length)]) rfl <| W.ret1 k1 rfl (.t rfl) ⟨rfl, rfl, ⟨rfl, rfl, trivial⟩⟩
   ·refine W.skip <| Aq <| W.region <| Am rfl rfl <| Ao rfl (.load ty124 (.t rfl)) <| Ao rfl (.buildSlice (n := 1) (ys := [(0, step.1)]) (z := zapi_Step) (xs := [step.1]) U94 el124 ze124 ⟨rfl, (.t rfl), trivial⟩ (by simp) (by decide) rfl) ?_
    obtain ⟨out, hv12, hm⟩ := Bs hm
    exact WL.opR rfl (OpR.appC (key := 1000001) hv12 U94 el124 (.t rfl) (.t rfl) rfl) fun k2 => Ag rfl rfl <| WL.nil <| WN.block <| WN.again n4 ((out, r0_2), k2) (Nat.lt_succ_self n4) hm ⟨.q rfl, .q rfl, trivial⟩ ⟨rfl, rfl, ⟨rfl, rfl, trivial⟩⟩
  ·refine W.exit rfl ?_
   have hr13 := Si hm
   clear hm
   subst hr13
   have hm := hk3
   try dsimp only at hm
   refine Aq <| Aw <| Am rfl rfl <| Ag rfl rfl <| WL.ns ?_
   have hr := Si hm
   clear hm
   subst hr
   exact W.weakR (res' := [(0, (Bx 3 true 117 (tcitation_reader.is r0_1) b)), (1000001, Dec.Own tapi_Step 124 k1 p1.length)]) ⟨rfl, rfl, ⟨rfl, rfl, trivial⟩⟩ <| W.rekey (res' := [(0, (Bx 3 true 117 (tcitation_reader.is r0_1) b)), (77777, Dec.Own tapi_Step 124 k1 p1.length)]) rfl <| W.ret1 k1 rfl (.t rfl) ⟨rfl, rfl, ⟨rfl, rfl, trivial⟩⟩

theorem citation_reader_path_spec (n : Nat) (r0_ : citation_reader) (b : Nat) (r : ((List api_Step)) × citation_reader) (hm : M.citation_reader_path n r0_ = some r) : FSpecR Try.prog 61 [(Bp b 0)] [(0, (Bx 3 true 117 (tcitation_reader.is r0_) b))] (fun kx : Tok => tO tapi_Step kx r.1) (fun kx : Tok => [(0, (Bx 3 true 117 (tcitation_reader.is r.2) b)), (77777, Dec.Own tapi_Step 124 kx r.1.length)]) := by
 unfold M.citation_reader_path at hm
 refine FSpecR.of Try.func61 rfl rfl rfl fun g0 => Aw <| WL.addNil (t := tapi_Step) (E := 124) 2 <| Ao rfl (.assign (Opd.nilO (t := tapi_Step))) <| Ar <| WL.addNil (t := tapi_Step) (E := 124) 3 <| Ao rfl (.assign (Opd.nilO (t := tapi_Step))) <| WL.ns ?_
 obtain ⟨s1, hs2, hk3⟩ := Bs hm
 clear hm
 refine W.join (fun s : ((List api_Step) × citation_reader) × Tok => s.1 = s1) (fun s => [(3, (tO tapi_Step s.2 s.1.1)), (0, (Bp b 0))]) (fun s => [(3, Dec.Own tapi_Step 124 s.2 s.1.1.length), (0, (Bx 3 true 117 (tcitation_reader.is s.1.2) b))]) ?_ ?_
 ·rintro ⟨⟨p, r0_1⟩, k⟩ hj9
  try dsimp only at hj9
  subst hj9
  have hm := hk3
  clear hk3
  try dsimp only at hm
  change W _ _ _ _ _ _ _ [(3, (tO tapi_Step k p)), (0, (Bp b 0))] [(3, Dec.Own tapi_Step 124 k p.length), (0, (Bx 3 true 117 (tcitation_reader.is r0_1) b))]
  refine Aw <| Am rfl rfl <| WL.mv rfl rfl ?_
  obtain ⟨⟨more, r0_3⟩, hv8, hm⟩ := Bs hm
  dsimp only at hm
  refine WL.weakR (res' := [(0, (Bx 3 true 117 (tcitation_reader.is r0_1) b)), (3, Dec.Own tapi_Step 124 k p.length)]) ⟨rfl, rfl, ⟨rfl, rfl, trivial⟩⟩ <| WL.opR rfl (OpR.call (us := [0, 3]) (A := fun kx : Tok => (tO tapi_Step kx more)) C75 (FSpecR.keys (rin' := [(0, (Bx 3 true 117 (tcitation_reader.is r0_1) b)), (3, Dec.Own tapi_Step 124 k p.length)]) (out' := fun kx : Tok => [(0, (Bx 3 true 117 (tcitation_reader.is r0_3) b)), (12, Dec.Own tapi_Step 124 kx more.length)]) (citation_reader_more_spec _ _ _ _ _ _ hv8) rfl (fun _ => rfl)) rfl ⟨(.t rfl), (.t rfl), trivial⟩) fun k2 => Ag rfl rfl <| WL.ns ?_
  have hr := Si hm
  clear hm
  subst hr
  exact W.weakR (res' := [(0, (Bx 3 true 117 (tcitation_reader.is r0_3) b)), (12, Dec.Own tapi_Step 124 k2 more.length)]) ⟨rfl, rfl, ⟨rfl, rfl, trivial⟩⟩ <| W.rekey (res' := [(0, (Bx 3 true 117 (tcitation_reader.is r0_3) b)), (77777, Dec.Own tapi_Step 124 k2 more.length)]) rfl <| W.ret1 k2 rfl (.t rfl) ⟨rfl, rfl, ⟨rfl, rfl, trivial⟩⟩
 ·have hm := hs2
  clear hs2
  refine Aw <| WL.mv rfl rfl ?_
  obtain ⟨⟨just, r0_2⟩, hv4, hm⟩ := Bs hm
  dsimp only at hm
  refine WL.weakR (res' := [(0, (Bx 3 true 117 (tcitation_reader.is r0_) b)), (2, Dec.Own tapi_Step 124 (none : Tok) ([] : List api_Step).length), (3, Dec.Own tapi_Step 124 (none : Tok) ([] : List api_Step).length)]) ⟨rfl, rfl, ⟨rfl, rfl, ⟨rfl, rfl, trivial⟩⟩⟩ <| WL.opR rfl (OpR.call (us := [0]) (A := fun kx : Unit => (tB.is just)) C64 (FSpecR.keys (rin' := [(0, (Bx 3 true 117 (tcitation_reader.is r0_) b))]) (out' := fun kx : Unit => [(0, (Bx 3 true 117 (tcitation_reader.is r0_2) b))]) (citation_reader_just_spec _ _ _ _ hv4) rfl (fun _ => rfl)) rfl ⟨(.t rfl), (.str rfl (by decide)), trivial⟩) fun _ => An <| W.cB hm (.t rfl) (fun hp6 hm => ?_) (fun hp6 hm => ?_)
  ·refine W.region <| Am rfl rfl <| Ao rfl (.build (s := tapi_Step) (x := (⟨(0 : Int), ([] : Str)⟩ : api_Step)) zapi_Step_f rfl U124 (zapi_Step_sz _ U124) ze124 rfl) <| Ao rfl (.buildSlice (n := 1) (ys := [(0, (⟨(0 : Int), ([] : Str)⟩ : api_Step))]) (z := zapi_Step) (xs := [(⟨(0 : Int), ([] : Str)⟩ : api_Step)]) U94 el124 ze124 ⟨rfl, (.t rfl), trivial⟩ (by simp) (by decide) rfl) ?_
   obtain ⟨p1, hv7, hm⟩ := Bs hm
   exact WL.opR rfl (OpR.appC (key := 3) hv7 U94 el124 (.t rfl) (.t rfl) rfl) fun k1 => Ag rfl rfl <| WL.nil <| WN.meet ((p1, r0_2), k1) (Si hm) ⟨.q rfl, .q rfl, trivial⟩ ⟨rfl, rfl, ⟨rfl, rfl, trivial⟩⟩
  ·exact W.skip <| WN.meet ((([] : List api_Step), r0_2), (none : Tok)) (Si hm) ⟨.q rfl, .q rfl, trivial⟩ ⟨rfl, rfl, ⟨rfl, rfl, trivial⟩⟩

theorem citation_forms_1_spec (n : Nat) (r0_ : citation_reader) (b : Nat) (r : api_Cite × citation_reader) (hm : M.citation_forms_1 n r0_ = some r) : FSpecR Try.prog 60 [(Bp b 0)] [(0, (Bx 3 true 117 (tcitation_reader.is r0_) b))] (fun kx : Unit => (tapi_Cite.is r.1)) (fun kx : Unit => [(0, (Bx 3 true 117 (tcitation_reader.is r.2) b))]) := by
 unfold M.citation_forms_1 at hm
 refine FSpecR.of Try.func60 rfl rfl rfl fun g0 => Aw <| WL.opR rfl (OpR.alloc 2 ze96) fun b1 => Ar <| WL.mv rfl rfl ?_
 obtain ⟨⟨path, r0_1⟩, hv1, hm⟩ := Bs hm
 dsimp only at hm
 refine WL.weakR (res' := [(0, (Bx 3 true 117 (tcitation_reader.is r0_) b)), (2, (Bx 5 true 96 (tapi_Cite.is zapi_Cite) b1))]) ⟨rfl, rfl, ⟨rfl, rfl, trivial⟩⟩ <| WL.opR rfl (OpR.call (us := [0]) (A := fun kx : Tok => (tO tapi_Step kx path)) C61 (FSpecR.keys (rin' := [(0, (Bx 3 true 117 (tcitation_reader.is r0_) b))]) (out' := fun kx : Tok => [(0, (Bx 3 true 117 (tcitation_reader.is r0_1) b)), (4, Dec.Own tapi_Step 124 kx path.length)]) (citation_reader_path_spec _ _ _ _ hv1) rfl (fun _ => rfl)) rfl ⟨(.t rfl), trivial⟩) fun k => Ao rfl (.build (s := tapi_Cite) (x := (⟨(0 : Int), path, ([] : Str), (0 : Int), (0 : Int)⟩ : api_Cite)) zapi_Cite_f rfl U96 (zapi_Cite_sz _ U96) ze96 ⟨_, (tL tapi_Step), path, _, _, rfl, Z94, (Opd.own (.t rfl)), sapi_Cite_1, rfl⟩) <| WL.opU (OpR.storeB (b := b1) 2 Z96 (Cellable.is tapi_Cite (⟨(0 : Int), path, ([] : Str), (0 : Int), (0 : Int)⟩ : api_Cite)) rfl (.t rfl) (.t rfl)) fun _ => WL.ns ?_
 cases hm
 exact W.retQ1 () rfl (ResAt.cell 2 Y96 Z96 rfl (.t rfl)) ⟨rfl, rfl, trivial⟩

theorem citation_plural_spec  (r : (List Str)) (hm : M.citation_plural  = some r) : FSpec Try.prog 77 [] ((tL tS).is r) := by
 unfold M.citation_plural at hm
 refine FSpec.of Try.func77 rfl rfl rfl fun g0 => Aw <| Ao rfl (.assign (.nil (t := tS))) <| Ar <| Ao rfl (.buildSlice (n := 8) (ys := [(1, ([112, 97, 114, 116, 115] : Str)), (2, ([115, 101, 99, 116, 105, 111, 110, 115] : Str)), (3, ([112, 97, 114, 97, 103, 114, 97, 112, 104, 115] : Str)), (4, ([116, 97, 98, 108, 101, 115] : Str)), (5, ([114, 111, 119, 115] : Str)), (7, ([110, 111, 116, 101, 115] : Str))]) (z := ([] : Str)) (xs := [([] : Str), ([112, 97, 114, 116, 115] : Str), ([115, 101, 99, 116, 105, 111, 110, 115] : Str), ([112, 97, 114, 97, 103, 114, 97, 112, 104, 115] : Str), ([116, 97, 98, 108, 101, 115] : Str), ([114, 111, 119, 115] : Str), ([] : Str), ([110, 111, 116, 101, 115] : Str)]) U60 el9 ze9 ⟨rfl, (.str rfl (by decide)), rfl, (.str rfl (by decide)), rfl, (.str rfl (by decide)), rfl, (.str rfl (by decide)), rfl, (.str rfl (by decide)), rfl, (.str rfl (by decide)), trivial⟩ (by simp) (by decide) rfl) <| Ag rfl rfl <| WL.ns ?_
 cases hm
 exact W.ret1 () rfl (.t rfl) trivial

theorem citation_reader_span_spec (n : Nat) (r0_ : citation_reader) (b : Nat) (r : api_Cite × citation_reader) (hm : M.citation_reader_span n r0_ = some r) : FSpecR Try.prog 62 [(Bp b 0)] [(0, (Bx 3 true 117 (tcitation_reader.is r0_) b))] (fun kx : Unit => (tapi_Cite.is r.1)) (fun kx : Unit => [(0, (Bx 3 true 117 (tcitation_reader.is r.2) b))]) := by
 unfold M.citation_reader_span at hm
 refine FSpecR.of Try.func62 rfl rfl rfl fun g0 => Aw <| WL.opR rfl (OpR.alloc 2 ze96) fun b1 => Ar <| WL.mv rfl rfl ?_
 obtain ⟨⟨path, r0_1⟩, hv1, hm⟩ := Bs hm
 dsimp only at hm
 refine WL.weakR (res' := [(0, (Bx 3 true 117 (tcitation_reader.is r0_) b)), (2, (Bx 5 true 96 (tapi_Cite.is zapi_Cite) b1))]) ⟨rfl, rfl, ⟨rfl, rfl, trivial⟩⟩ <| WL.opR rfl (OpR.call (us := [0]) (A := fun kx : Tok => (tO tapi_Step kx path)) C61 (FSpecR.keys (rin' := [(0, (Bx 3 true 117 (tcitation_reader.is r0_) b))]) (out' := fun kx : Tok => [(0, (Bx 3 true 117 (tcitation_reader.is r0_1) b)), (7, Dec.Own tapi_Step 124 kx path.length)]) (citation_reader_path_spec _ _ _ _ hv1) rfl (fun _ => rfl)) rfl ⟨(.t rfl), trivial⟩) fun k => Ao rfl (.buildT (s := tapi_Cite) (s' := (tapi_Cite_k1 k)) (x := (⟨(1 : Int), path, ([] : Str), (0 : Int), (0 : Int)⟩ : api_Cite)) zapi_Cite_f rfl U96 (zapi_Cite_sz _ U96) ze96 ⟨tapi_Cite, _, I6, (1 : Int), _, _, rfl, Z3, .i64, FldSet.toT sapi_Cite_0, ⟨(tapi_Cite_k1 k), _, (tOT tapi_Step k), path, _, _, rfl, Z94, (Opd.toOT (.t rfl)), (s0api_Cite_k1 k), ⟨rfl, rfl⟩⟩⟩) <| WL.opR rfl (OpR.alloc 3 ze96) fun b2 => WL.opU (OpR.storeB (b := b2) 3 Z96 (Cellable.is (tapi_Cite_k1 k) (⟨(1 : Int), path, ([] : Str), (0 : Int), (0 : Int)⟩ : api_Cite)) rfl (.t rfl) (.t rfl)) fun _ => WL.nil <| WN.weakR (res' := [(7, Dec.Own tapi_Step 124 k path.length), (0, (Bx 3 true 117 (tcitation_reader.is r0_1) b)), (2, (Bx 5 true 96 (tapi_Cite.is zapi_Cite) b1)), (3, (Bx 5 true 96 ((tapi_Cite_k1 k).is (⟨(1 : Int), path, ([] : Str), (0 : Int), (0 : Int)⟩ : api_Cite)) b2))]) ⟨rfl, rfl, ⟨rfl, rfl, ⟨rfl, rfl, ⟨rfl, rfl, trivial⟩⟩⟩⟩ <| WN.rekey (res' := [(1000003, Dec.Own tapi_Step 124 k path.length), (0, (Bx 3 true 117 (tcitation_reader.is r0_1) b)), (2, (Bx 5 true 96 (tapi_Cite.is zapi_Cite) b1)), (3, (Bx 5 true 96 ((tapi_Cite_k1 k).is (⟨(1 : Int), path, ([] : Str), (0 : Int), (0 : Int)⟩ : api_Cite)) b2))]) rfl <| Aq <| Aw <| WL.mv rfl rfl ?_
 obtain ⟨plural, hv2, hm⟩ := Bs hm
 refine Ao rfl (.call C77 (citation_plural_spec _ hv2) trivial) ?_
 obtain ⟨⟨step, r0_2⟩, hv3, hm⟩ := Bs hm
 dsimp only at hm
 refine WL.weakR (res' := [(0, (Bx 3 true 117 (tcitation_reader.is r0_1) b)), (1000003, Dec.Own tapi_Step 124 k path.length), (2, (Bx 5 true 96 (tapi_Cite.is zapi_Cite) b1)), (3, (Bx 5 true 96 ((tapi_Cite_k1 k).is (⟨(1 : Int), path, ([] : Str), (0 : Int), (0 : Int)⟩ : api_Cite)) b2))]) ⟨rfl, rfl, ⟨rfl, rfl, ⟨rfl, rfl, ⟨rfl, rfl, trivial⟩⟩⟩⟩ <| WL.opR rfl (OpR.call (us := [0]) (A := fun kx : Unit => (Asn.tuple2 (tapi_Step.is step.1) (tB.is step.2))) C76 (FSpecR.keys (rin' := [(0, (Bx 3 true 117 (tcitation_reader.is r0_1) b))]) (out' := fun kx : Unit => [(0, (Bx 3 true 117 (tcitation_reader.is r0_2) b))]) (citation_reader_step_spec _ _ _ _ _ hv3) rfl (fun _ => rfl)) rfl ⟨(.t rfl), (.t rfl), trivial⟩) fun _ => Am rfl rfl <| Ao rfl (.extract0 (.t rfl)) <| Ao rfl (.extract1 (.t rfl)) <| WL.opR rfl (OpR.alloc 4 ze124) fun b3 => WL.opU (OpR.storeB (b := b3) 4 Z124 (Cellable.is tapi_Step step.1) rfl (.t rfl) (.t rfl)) fun _ => WL.sealed (t := tapi_Step) (u := step.1) 4 4 rfl rfl <| Ag rfl rfl <| An <| W.seq ?_
 obtain ⟨s4, hs5, hk6⟩ := Bs hm
 clear hm
 refine W.join (fun s : Bool × citation_reader => s = s4) (fun s => [(21, (tB.is s.1)), (0, (Bp b 0)), (2, (Bp b1 0)), (3, (Bp b2 0)), (4, (tapi_Step.ptr step.1))]) (fun s => [(1000003, Dec.Own tapi_Step 124 k path.length), (0, (Bx 3 true 117 (tcitation_reader.is s.2) b)), (2, (Bx 5 true 96 (tapi_Cite.is zapi_Cite) b1)), (3, (Bx 5 true 96 ((tapi_Cite_k1 k).is (⟨(1 : Int), path, ([] : Str), (0 : Int), (0 : Int)⟩ : api_Cite)) b2))]) ?_ ?_
 ·rintro ⟨v, r0_3⟩ hj14
  try dsimp only at hj14
  subst hj14
  have hm := hk6
  clear hk6
  try dsimp only at hm
  change W _ _ _ _ _ _ _ [(21, (tB.is v)), (0, (Bp b 0)), (2, (Bp b1 0)), (3, (Bp b2 0)), (4, (tapi_Step.ptr step.1))] [(1000003, Dec.Own tapi_Step 124 k path.length), (0, (Bx 3 true 117 (tcitation_reader.is r0_3) b)), (2, (Bx 5 true 96 (tapi_Cite.is zapi_Cite) b1)), (3, (Bx 5 true 96 ((tapi_Cite_k1 k).is (⟨(1 : Int), path, ([] : Str), (0 : Int), (0 : Int)⟩ : api_Cite)) b2))]
  refine W.cB hm (.t rfl) (fun hp11 hm => ?_) (fun hp11 hm => ?_)
  ·refine Aw <| Ao rfl (.loadB 3 Y96 Z96 rfl (.t rfl)) <| WL.opU (OpR.storeB (b := b1) 2 Z96 (Cellable.is tapi_Cite (⟨(1 : Int), path, ([] : Str), (0 : Int), (0 : Int)⟩ : api_Cite)) rfl (.t rfl) (Opd.leT (leapi_Cite_k1 k) (.t rfl))) fun _ => WL.ns ?_
   cases hm
   exact W.retQ1 () rfl (ResAt.cell 2 Y96 Z96 rfl (.t rfl)) ⟨rfl, rfl, trivial⟩
  ·refine W.skip <| Aq <| Aw <| Ao rfl (.fieldAddrB (o := 0) U96 rfl J94 (.t rfl) rfl) <| Ao rfl (.ofOT (Op1.loadBF (t := (tOT tapi_Step k)) (f := fun x : api_Cite => x.Path) (u := (⟨(1 : Int), path, ([] : Str), (0 : Int), (0 : Int)⟩ : api_Cite)) 3 rfl ⟨ty94.agg, ty94.size⟩ (fapi_Cite_k1_1 k) rfl (.t rfl))) <| Ao rfl (.load ty124 (.t rfl)) <| Ao rfl (.buildSlice (n := 1) (ys := [(0, step.1)]) (z := zapi_Step) (xs := [step.1]) U94 el124 ze124 ⟨rfl, (.t rfl), trivial⟩ (by simp) (by decide) rfl) ?_
   obtain ⟨out, hv12, hm⟩ := Bs hm
   refine WL.opR rfl (OpR.appC (key := 1000003) hv12 U94 el124 (.t rfl) (.t rfl) rfl) fun k1 => Ao rfl (.fieldAddrB (o := 0) U96 rfl J94 (.t rfl) rfl) <| WL.opU (OpR.storeBFT (b := b2) (s := (tapi_Cite_k1 k)) (s' := (tapi_Cite_k1 k1)) (t := (tOT tapi_Step k1)) 3 rfl rfl ⟨ty94.agg, ty94.size⟩ (sTapi_Cite_k1 k k1) rfl (show 1 + 1 ≤ 5 by decide) (.t rfl) (Opd.toOT (.t rfl))) fun _ => Ar <| WL.mv rfl rfl ?_
   obtain ⟨⟨word, r0_5⟩, hv13, hm⟩ := Bs hm
   dsimp only at hm
   refine WL.weakR (res' := [(0, (Bx 3 true 117 (tcitation_reader.is r0_3) b)), (1000003, Dec.Own tapi_Step 124 k1 out.length), (2, (Bx 5 true 96 (tapi_Cite.is zapi_Cite) b1)), (3, (Bx 5 true 96 ((tapi_Cite_k1 k1).is ({ (⟨(1 : Int), path, ([] : Str), (0 : Int), (0 : Int)⟩ : api_Cite) with Path := out } : api_Cite)) b2))]) ⟨rfl, rfl, ⟨rfl, rfl, ⟨rfl, rfl, ⟨rfl, rfl, trivial⟩⟩⟩⟩ <| WL.opR rfl (OpR.call (us := [0]) (A := fun kx : Unit => (Asn.tuple2 (tS.is word.1) (tB.is word.2))) C78 (FSpecR.keys (rin' := [(0, (Bx 3 true 117 (tcitation_reader.is r0_3) b))]) (out' := fun kx : Unit => [(0, (Bx 3 true 117 (tcitation_reader.is r0_5) b))]) (citation_reader_word_spec _ _ _ _ hv13) rfl (fun _ => rfl)) rfl ⟨(.t rfl), (Opd.fn C69 (fun s hs => label_Valid_spec _ _ _ hs)), trivial⟩) fun _ => Am rfl rfl <| Ao rfl (.extract0 (.t rfl)) <| Ao rfl (.extract1 (.t rfl)) <| Ao rfl (.fieldAddrB (o := 0) U96 rfl J9 (.t rfl) rfl) <| WL.opU (OpR.storeBF (b := b2) 3 rfl ty9 (sapi_Cite_k1_2 k1) rfl (show 2 + 1 ≤ 5 by decide) (.t rfl) (.t rfl)) fun _ => Ar <| Ao rfl (.loadB 3 Y96 Z96 rfl (.t rfl)) <| WL.opU (OpR.storeB (b := b1) 2 Z96 (Cellable.is tapi_Cite ({ ({ (⟨(1 : Int), path, ([] : Str), (0 : Int), (0 : Int)⟩ : api_Cite) with Path := out } : api_Cite) with To := word.1 } : api_Cite)) rfl (.t rfl) (Opd.leT (leapi_Cite_k1 k1) (.t rfl))) fun _ => WL.ns ?_
   cases hm
   exact W.retQ1 () rfl (ResAt.cell 2 Y96 Z96 rfl (.t rfl)) ⟨rfl, rfl, trivial⟩
 ·have hm := hs5
  clear hs5
  refine W.region <| Am rfl rfl <| Ao rfl (.notB (.t rfl)) <| WL.mv rfl rfl ?_
  rcases iteR hm with ⟨hp8, hb7, hm⟩ | ⟨hp8, hb7, hm⟩
  ·exact Ap rfl hb7 <| Ap rfl hb7 <| Ap rfl hb7 <| Ao rfl (.pickT (.t rfl) hb7 .bool) <| WL.nil <| WN.meet (true, r0_2) (Si hm) ⟨.q rfl, .q rfl, .q rfl, .q rfl, .q rfl, trivial⟩ ⟨rfl, rfl, ⟨rfl, rfl, ⟨rfl, rfl, ⟨rfl, rfl, trivial⟩⟩⟩⟩
  ·refine Ax rfl hb7 (.move (.t rfl)) ?_
   obtain ⟨⟨just, r0_4⟩, hv9, hm⟩ := Bs hm
   dsimp only at hm
   exact WL.weakR (res' := [(0, (Bx 3 true 117 (tcitation_reader.is r0_2) b)), (1000003, Dec.Own tapi_Step 124 k path.length), (2, (Bx 5 true 96 (tapi_Cite.is zapi_Cite) b1)), (3, (Bx 5 true 96 ((tapi_Cite_k1 k).is (⟨(1 : Int), path, ([] : Str), (0 : Int), (0 : Int)⟩ : api_Cite)) b2))]) ⟨rfl, rfl, ⟨rfl, rfl, ⟨rfl, rfl, ⟨rfl, rfl, trivial⟩⟩⟩⟩ <| WL.runR rfl rfl rfl rfl hb7 rfl rfl (OpR.call (us := [0]) (A := fun kx : Unit => (tB.is just)) C64 (FSpecR.keys (rin' := [(0, (Bx 3 true 117 (tcitation_reader.is r0_2) b))]) (out' := fun kx : Unit => [(0, (Bx 3 true 117 (tcitation_reader.is r0_4) b))]) (citation_reader_just_spec _ _ _ _ hv9) rfl (fun _ => rfl)) rfl ⟨(.t rfl), (.str rfl (by decide)), trivial⟩) fun _ => Ax rfl hb7 (.notB (.t rfl)) <| Ao rfl (.pickF (.t rfl) hb7 (.t rfl)) <| WL.nil <| WN.meet (!just, r0_4) (Si hm) ⟨.q rfl, .q rfl, .q rfl, .q rfl, .q rfl, trivial⟩ ⟨rfl, rfl, ⟨rfl, rfl, ⟨rfl, rfl, ⟨rfl, rfl, trivial⟩⟩⟩⟩

theorem citation_reader_beside_spec (n : Nat) (r0_ : citation_reader) (b : Nat) (r : ((List api_Step)) × citation_reader) (hm : M.citation_reader_beside n r0_ = some r) : FSpecR Try.prog 65 [(Bp b 0)] [(0, (Bx 3 true 117 (tcitation_reader.is r0_) b))] (fun kx : Tok => tO tapi_Step kx r.1) (fun kx : Tok => [(0, (Bx 3 true 117 (tcitation_reader.is r.2) b)), (77777, Dec.Own tapi_Step 124 kx r.1.length)]) := by
 unfold M.citation_reader_beside at hm
 refine FSpecR.of Try.func65 rfl rfl rfl fun g0 => Aw <| WL.addNil (t := tapi_Step) (E := 124) 2 <| Ao rfl (.assign (Opd.nilO (t := tapi_Step))) <| Ar <| WL.mv rfl rfl ?_
 obtain ⟨single, hv1, hm⟩ := Bs hm
 refine Ao rfl (.call C81 (citation_single_spec _ hv1) trivial) ?_
 obtain ⟨⟨kind, r0_1⟩, hv2, hm⟩ := Bs hm
 dsimp only at hm
 refine WL.weakR (res' := [(0, (Bx 3 true 117 (tcitation_reader.is r0_) b)), (2, Dec.Own tapi_Step 124 (none : Tok) ([] : List api_Step).length)]) ⟨rfl, rfl, ⟨rfl, rfl, trivial⟩⟩ <| WL.opR rfl (OpR.call (us := [0]) (A := fun kx : Unit => (Asn.tuple2 (I6.is kind.1) (tB.is kind.2))) C80 (FSpecR.keys (rin' := [(0, (Bx 3 true 117 (tcitation_reader.is r0_) b))]) (out' := fun kx : Unit => [(0, (Bx 3 true 117 (tcitation_reader.is r0_1) b))]) (citation_reader_kind_spec _ _ _ _ _ hv2) rfl (fun _ => rfl)) rfl ⟨(.t rfl), (.t rfl), trivial⟩) fun _ => Am rfl rfl <| Ao rfl (.extract0 (.t rfl)) <| Ao rfl (.extract1 (.t rfl)) <| Ag rfl rfl <| Ag rfl rfl <| An <| W.seq <| Aw <| Am rfl rfl <| Ao rfl (.notB (.t rfl)) <| An <| W.cR hm (.t rfl) (fun hp4 hm => ?_) (fun hp4 hm => ?_)
 ·refine Aw <| WL.addNil (t := tapi_Step) (E := 124) 2 <| Ao rfl (.assign (Opd.nilO (t := tapi_Step))) <| WL.ns ?_
  have hr := Si hm
  clear hm
  subst hr
  exact W.weakR (res' := [(0, (Bx 3 true 117 (tcitation_reader.is r0_1) b)), (2, Dec.Own tapi_Step 124 (none : Tok) ([] : List api_Step).length)]) ⟨rfl, rfl, ⟨rfl, rfl, trivial⟩⟩ <| W.rekey (res' := [(0, (Bx 3 true 117 (tcitation_reader.is r0_1) b)), (77777, Dec.Own tapi_Step 124 (none : Tok) ([] : List api_Step).length)]) rfl <| W.ret1 (none : Tok) rfl (.t rfl) ⟨rfl, rfl, ⟨rfl, rfl, trivial⟩⟩
 ·refine W.skip <| Aq <| Aw <| Am rfl rfl <| Am rfl rfl <| Ao rfl (.build (s := tapi_Step) (x := (⟨kind.1, ([] : Str)⟩ : api_Step)) zapi_Step_f rfl U124 (zapi_Step_sz _ U124) ze124 ⟨_, I6, kind.1, _, _, rfl, Z3, (.t rfl), sapi_Step_0, rfl⟩) <| WL.opR rfl (OpR.buildSlice (n := 1) (ys := [(0, (⟨kind.1, ([] : Str)⟩ : api_Step))]) (z := zapi_Step) (xs := [(⟨kind.1, ([] : Str)⟩ : api_Step)]) 16 U94 el124 ze124 ⟨rfl, (.t rfl), trivial⟩ (by simp) (by decide) rfl) (fun k => ?_)
  obtain ⟨⟨more, r0_2⟩, hv5, hm⟩ := Bs hm
  dsimp only at hm
  refine WL.weakR (res' := [(0, (Bx 3 true 117 (tcitation_reader.is r0_1) b)), (16, Dec.Own tapi_Step 124 k ([(⟨kind.1, ([] : Str)⟩ : api_Step)]).length), (2, Dec.Own tapi_Step 124 (none : Tok) ([] : List api_Step).length)]) ⟨rfl, rfl, ⟨rfl, rfl, ⟨rfl, rfl, trivial⟩⟩⟩ <| WL.opR rfl (OpR.call (us := [0, 16]) (A := fun kx : Tok => (tO tapi_Step kx more)) C75 (FSpecR.keys (rin' := [(0, (Bx 3 true 117 (tcitation_reader.is r0_1) b)), (16, Dec.Own tapi_Step 124 k ([(⟨kind.1, ([] : Str)⟩ : api_Step)]).length)]) (out' := fun kx : Tok => [(0, (Bx 3 true 117 (tcitation_reader.is r0_2) b)), (17, Dec.Own tapi_Step 124 kx more.length)]) (citation_reader_more_spec _ _ _ _ _ _ hv5) rfl (fun _ => rfl)) rfl ⟨(.t rfl), (.t rfl), trivial⟩) fun k1 => Ag rfl rfl <| WL.ns ?_
  have hr := Si hm
  clear hm
  subst hr
  exact W.weakR (res' := [(0, (Bx 3 true 117 (tcitation_reader.is r0_2) b)), (17, Dec.Own tapi_Step 124 k1 more.length)]) ⟨rfl, rfl, ⟨rfl, rfl, trivial⟩⟩ <| W.rekey (res' := [(0, (Bx 3 true 117 (tcitation_reader.is r0_2) b)), (77777, Dec.Own tapi_Step 124 k1 more.length)]) rfl <| W.ret1 k1 rfl (.t rfl) ⟨rfl, rfl, ⟨rfl, rfl, trivial⟩⟩

theorem citation_forms_2_spec (n : Nat) (r0_ : citation_reader) (b : Nat) (r : api_Cite × citation_reader) (hm : M.citation_forms_2 n r0_ = some r) : FSpecR Try.prog 63 [(Bp b 0)] [(0, (Bx 3 true 117 (tcitation_reader.is r0_) b))] (fun kx : Unit => (tapi_Cite.is r.1)) (fun kx : Unit => [(0, (Bx 3 true 117 (tcitation_reader.is r.2) b))]) := by
 unfold M.citation_forms_2 at hm
 refine FSpecR.of Try.func63 rfl rfl rfl fun g0 => Aw <| WL.opR rfl (OpR.alloc 2 ze96) fun b1 => An <| W.seq <| Aw <| WL.mv rfl rfl ?_
 obtain ⟨⟨just, r0_1⟩, hv1, hm⟩ := Bs hm
 dsimp only at hm
 refine WL.weakR (res' := [(0, (Bx 3 true 117 (tcitation_reader.is r0_) b)), (2, (Bx 5 true 96 (tapi_Cite.is zapi_Cite) b1))]) ⟨rfl, rfl, ⟨rfl, rfl, trivial⟩⟩ <| WL.opR rfl (OpR.call (us := [0]) (A := fun kx : Unit => (tB.is just)) C64 (FSpecR.keys (rin' := [(0, (Bx 3 true 117 (tcitation_reader.is r0_) b))]) (out' := fun kx : Unit => [(0, (Bx 3 true 117 (tcitation_reader.is r0_1) b))]) (citation_reader_just_spec _ _ _ _ hv1) rfl (fun _ => rfl)) rfl ⟨(.t rfl), (.str rfl (by decide)), trivial⟩) fun _ => Ao rfl (.notB (.t rfl)) <| An <| W.cR hm (.t rfl) (fun hp3 hm => ?_) (fun hp3 hm => ?_)
 ·refine Aw <| Ao rfl (.build (s := tapi_Cite) (x := (⟨(2 : Int), ([] : List api_Step), ([] : Str), (0 : Int), (0 : Int)⟩ : api_Cite)) zapi_Cite_f rfl U96 (zapi_Cite_sz _ U96) ze96 ⟨_, I6, (2 : Int), _, _, rfl, Z3, .i64, sapi_Cite_0, rfl⟩) <| WL.opU (OpR.storeB (b := b1) 2 Z96 (Cellable.is tapi_Cite (⟨(2 : Int), ([] : List api_Step), ([] : Str), (0 : Int), (0 : Int)⟩ : api_Cite)) rfl (.t rfl) (.t rfl)) fun _ => WL.ns ?_
  cases hm
  exact W.retQ1 () rfl (ResAt.cell 2 Y96 Z96 rfl (.t rfl)) ⟨rfl, rfl, trivial⟩
 ·refine W.skip <| Aq <| Aw <| WL.mv rfl rfl ?_
  obtain ⟨⟨beside, r0_2⟩, hv4, hm⟩ := Bs hm
  dsimp only at hm
  refine WL.weakR (res' := [(0, (Bx 3 true 117 (tcitation_reader.is r0_1) b)), (2, (Bx 5 true 96 (tapi_Cite.is zapi_Cite) b1))]) ⟨rfl, rfl, ⟨rfl, rfl, trivial⟩⟩ <| WL.opR rfl (OpR.call (us := [0]) (A := fun kx : Tok => (tO tapi_Step kx beside)) C65 (FSpecR.keys (rin' := [(0, (Bx 3 true 117 (tcitation_reader.is r0_1) b))]) (out' := fun kx : Tok => [(0, (Bx 3 true 117 (tcitation_reader.is r0_2) b)), (8, Dec.Own tapi_Step 124 kx beside.length)]) (citation_reader_beside_spec _ _ _ _ hv4) rfl (fun _ => rfl)) rfl ⟨(.t rfl), trivial⟩) fun k => Ao rfl (.build (s := tapi_Cite) (x := (⟨(2 : Int), beside, ([] : Str), (0 : Int), (0 : Int)⟩ : api_Cite)) zapi_Cite_f rfl U96 (zapi_Cite_sz _ U96) ze96 ⟨_, I6, (2 : Int), _, _, rfl, Z3, .i64, sapi_Cite_0, ⟨_, (tL tapi_Step), beside, _, _, rfl, Z94, (Opd.own (.t rfl)), sapi_Cite_1, rfl⟩⟩) <| WL.opU (OpR.storeB (b := b1) 2 Z96 (Cellable.is tapi_Cite (⟨(2 : Int), beside, ([] : Str), (0 : Int), (0 : Int)⟩ : api_Cite)) rfl (.t rfl) (.t rfl)) fun _ => WL.ns ?_
  cases hm
  exact W.retQ1 () rfl (ResAt.cell 2 Y96 Z96 rfl (.t rfl)) ⟨rfl, rfl, trivial⟩

theorem citation_forms_3_spec (n : Nat) (r0_ : citation_reader) (b : Nat) (r : api_Cite × citation_reader) (hm : M.citation_forms_3 n r0_ = some r) : FSpecR Try.prog 66 [(Bp b 0)] [(0, (Bx 3 true 117 (tcitation_reader.is r0_) b))] (fun kx : Unit => (tapi_Cite.is r.1)) (fun kx : Unit => [(0, (Bx 3 true 117 (tcitation_reader.is r.2) b))]) := by
 unfold M.citation_forms_3 at hm
 refine FSpecR.of Try.func66 rfl rfl rfl fun g0 => Aw <| WL.opR rfl (OpR.alloc 2 ze96) fun b1 => An <| W.seq ?_
 obtain ⟨s1, hs2, hk3⟩ := Bs hm
 clear hm
 refine W.join (fun s : Bool × citation_reader => s = s1) (fun s => [(10, (tB.is s.1)), (0, (Bp b 0)), (2, (Bp b1 0))]) (fun s => [(0, (Bx 3 true 117 (tcitation_reader.is s.2) b)), (2, (Bx 5 true 96 (tapi_Cite.is zapi_Cite) b1))]) ?_ ?_
 ·rintro ⟨v, r0_1⟩ hj11
  try dsimp only at hj11
  subst hj11
  have hm := hk3
  clear hk3
  try dsimp only at hm
  change W _ _ _ _ _ _ _ [(10, (tB.is v)), (0, (Bp b 0)), (2, (Bp b1 0))] [(0, (Bx 3 true 117 (tcitation_reader.is r0_1) b)), (2, (Bx 5 true 96 (tapi_Cite.is zapi_Cite) b1))]
  refine W.cB hm (.t rfl) (fun hp9 hm => ?_) (fun hp9 hm => ?_)
  ·refine Aw <| Ao rfl (.build (s := tapi_Cite) (x := (⟨(3 : Int), ([] : List api_Step), ([] : Str), (0 : Int), (0 : Int)⟩ : api_Cite)) zapi_Cite_f rfl U96 (zapi_Cite_sz _ U96) ze96 ⟨_, I6, (3 : Int), _, _, rfl, Z3, .i64, sapi_Cite_0, rfl⟩) <| WL.opU (OpR.storeB (b := b1) 2 Z96 (Cellable.is tapi_Cite (⟨(3 : Int), ([] : List api_Step), ([] : Str), (0 : Int), (0 : Int)⟩ : api_Cite)) rfl (.t rfl) (.t rfl)) fun _ => WL.ns ?_
   cases hm
   exact W.retQ1 () rfl (ResAt.cell 2 Y96 Z96 rfl (.t rfl)) ⟨rfl, rfl, trivial⟩
  ·refine W.skip <| Aq <| Aw <| WL.mv rfl rfl ?_
   obtain ⟨⟨beside, r0_4⟩, hv10, hm⟩ := Bs hm
   dsimp only at hm
   refine WL.weakR (res' := [(0, (Bx 3 true 117 (tcitation_reader.is r0_1) b)), (2, (Bx 5 true 96 (tapi_Cite.is zapi_Cite) b1))]) ⟨rfl, rfl, ⟨rfl, rfl, trivial⟩⟩ <| WL.opR rfl (OpR.call (us := [0]) (A := fun kx : Tok => (tO tapi_Step kx beside)) C65 (FSpecR.keys (rin' := [(0, (Bx 3 true 117 (tcitation_reader.is r0_1) b))]) (out' := fun kx : Tok => [(0, (Bx 3 true 117 (tcitation_reader.is r0_4) b)), (13, Dec.Own tapi_Step 124 kx beside.length)]) (citation_reader_beside_spec _ _ _ _ hv10) rfl (fun _ => rfl)) rfl ⟨(.t rfl), trivial⟩) fun k => Ao rfl (.build (s := tapi_Cite) (x := (⟨(3 : Int), beside, ([] : Str), (0 : Int), (0 : Int)⟩ : api_Cite)) zapi_Cite_f rfl U96 (zapi_Cite_sz _ U96) ze96 ⟨_, I6, (3 : Int), _, _, rfl, Z3, .i64, sapi_Cite_0, ⟨_, (tL tapi_Step), beside, _, _, rfl, Z94, (Opd.own (.t rfl)), sapi_Cite_1, rfl⟩⟩) <| WL.opU (OpR.storeB (b := b1) 2 Z96 (Cellable.is tapi_Cite (⟨(3 : Int), beside, ([] : Str), (0 : Int), (0 : Int)⟩ : api_Cite)) rfl (.t rfl) (.t rfl)) fun _ => WL.ns ?_
   cases hm
   exact W.retQ1 () rfl (ResAt.cell 2 Y96 Z96 rfl (.t rfl)) ⟨rfl, rfl, trivial⟩
 ·have hm := hs2
  clear hs2
  refine W.region <| WL.mv rfl rfl ?_
  obtain ⟨⟨just, r0_2⟩, hv4, hm⟩ := Bs hm
  dsimp only at hm
  refine WL.weakR (res' := [(0, (Bx 3 true 117 (tcitation_reader.is r0_) b)), (2, (Bx 5 true 96 (tapi_Cite.is zapi_Cite) b1))]) ⟨rfl, rfl, ⟨rfl, rfl, trivial⟩⟩ <| WL.opR rfl (OpR.call (us := [0]) (A := fun kx : Unit => (tB.is just)) C64 (FSpecR.keys (rin' := [(0, (Bx 3 true 117 (tcitation_reader.is r0_) b))]) (out' := fun kx : Unit => [(0, (Bx 3 true 117 (tcitation_reader.is r0_2) b))]) (citation_reader_just_spec _ _ _ _ hv4) rfl (fun _ => rfl)) rfl ⟨(.t rfl), (.str rfl (by decide)), trivial⟩) fun _ => Ao rfl (.notB (.t rfl)) <| WL.mv rfl rfl ?_
  rcases iteR hm with ⟨hp6, hb5, hm⟩ | ⟨hp6, hb5, hm⟩
  ·exact Ap rfl hb5 <| Ap rfl hb5 <| Ap rfl hb5 <| Ao rfl (.pickT (.t rfl) hb5 .bool) <| WL.nil <| WN.meet (true, r0_2) (Si hm) ⟨.q rfl, .q rfl, .q rfl, trivial⟩ ⟨rfl, rfl, ⟨rfl, rfl, trivial⟩⟩
  ·refine Ax rfl hb5 (.move (.t rfl)) ?_
   obtain ⟨⟨just1, r0_3⟩, hv7, hm⟩ := Bs hm
   dsimp only at hm
   exact WL.weakR (res' := [(0, (Bx 3 true 117 (tcitation_reader.is r0_2) b)), (2, (Bx 5 true 96 (tapi_Cite.is zapi_Cite) b1))]) ⟨rfl, rfl, ⟨rfl, rfl, trivial⟩⟩ <| WL.runR rfl rfl rfl rfl hb5 rfl rfl (OpR.call (us := [0]) (A := fun kx : Unit => (tB.is just1)) C64 (FSpecR.keys (rin' := [(0, (Bx 3 true 117 (tcitation_reader.is r0_2) b))]) (out' := fun kx : Unit => [(0, (Bx 3 true 117 (tcitation_reader.is r0_3) b))]) (citation_reader_just_spec _ _ _ _ hv7) rfl (fun _ => rfl)) rfl ⟨(.t rfl), (.str rfl (by decide)), trivial⟩) fun _ => Ax rfl hb5 (.notB (.t rfl)) <| Ao rfl (.pickF (.t rfl) hb5 (.t rfl)) <| WL.nil <| WN.meet (!just1, r0_3) (Si hm) ⟨.q rfl, .q rfl, .q rfl, trivial⟩ ⟨rfl, rfl, ⟨rfl, rfl, trivial⟩⟩

theorem citation_forms_4_spec (n : Nat) (r0_ : citation_reader) (b : Nat) (r : api_Cite × citation_reader) (hm : M.citation_forms_4 n r0_ = some r) : FSpecR Try.prog 67 [(Bp b 0)] [(0, (Bx 3 true 117 (tcitation_reader.is r0_) b))] (fun kx : Unit => (tapi_Cite.is r.1)) (fun kx : Unit => [(0, (Bx 3 true 117 (tcitation_reader.is r.2) b))]) := by
 unfold M.citation_forms_4 at hm
 refine FSpecR.of Try.func67 rfl rfl rfl fun g0 => Aw <| WL.opR rfl (OpR.alloc 2 ze96) fun b1 => An <| W.seq <| Aw <| WL.mv rfl rfl ?_
 obtain ⟨⟨just, r0_1⟩, hv1, hm⟩ := Bs hm
 dsimp only at hm
 refine WL.weakR (res' := [(0, (Bx 3 true 117 (tcitation_reader.is r0_) b)), (2, (Bx 5 true 96 (tapi_Cite.is zapi_Cite) b1))]) ⟨rfl, rfl, ⟨rfl, rfl, trivial⟩⟩ <| WL.opR rfl (OpR.call (us := [0]) (A := fun kx : Unit => (tB.is just)) C64 (FSpecR.keys (rin' := [(0, (Bx 3 true 117 (tcitation_reader.is r0_) b))]) (out' := fun kx : Unit => [(0, (Bx 3 true 117 (tcitation_reader.is r0_1) b))]) (citation_reader_just_spec _ _ _ _ hv1) rfl (fun _ => rfl)) rfl ⟨(.t rfl), (.str rfl (by decide)), trivial⟩) fun _ => Ao rfl (.notB (.t rfl)) <| An <| W.cR hm (.t rfl) (fun hp3 hm => ?_) (fun hp3 hm => ?_)
 ·refine Aw <| Ao rfl (.build (s := tapi_Cite) (x := (⟨(4 : Int), ([] : List api_Step), ([] : Str), (0 : Int), (0 : Int)⟩ : api_Cite)) zapi_Cite_f rfl U96 (zapi_Cite_sz _ U96) ze96 ⟨_, I6, (4 : Int), _, _, rfl, Z3, .i64, sapi_Cite_0, rfl⟩) <| WL.opU (OpR.storeB (b := b1) 2 Z96 (Cellable.is tapi_Cite (⟨(4 : Int), ([] : List api_Step), ([] : Str), (0 : Int), (0 : Int)⟩ : api_Cite)) rfl (.t rfl) (.t rfl)) fun _ => WL.ns ?_
  cases hm
  exact W.retQ1 () rfl (ResAt.cell 2 Y96 Z96 rfl (.t rfl)) ⟨rfl, rfl, trivial⟩
 ·refine W.skip <| Aq <| Aw <| WL.mv rfl rfl ?_
  obtain ⟨⟨path, r0_2⟩, hv4, hm⟩ := Bs hm
  dsimp only at hm
  refine WL.weakR (res' := [(0, (Bx 3 true 117 (tcitation_reader.is r0_1) b)), (2, (Bx 5 true 96 (tapi_Cite.is zapi_Cite) b1))]) ⟨rfl, rfl, ⟨rfl, rfl, trivial⟩⟩ <| WL.opR rfl (OpR.call (us := [0]) (A := fun kx : Tok => (tO tapi_Step kx path)) C61 (FSpecR.keys (rin' := [(0, (Bx 3 true 117 (tcitation_reader.is r0_1) b))]) (out' := fun kx : Tok => [(0, (Bx 3 true 117 (tcitation_reader.is r0_2) b)), (8, Dec.Own tapi_Step 124 kx path.length)]) (citation_reader_path_spec _ _ _ _ hv4) rfl (fun _ => rfl)) rfl ⟨(.t rfl), trivial⟩) fun k => Ao rfl (.build (s := tapi_Cite) (x := (⟨(4 : Int), path, ([] : Str), (0 : Int), (0 : Int)⟩ : api_Cite)) zapi_Cite_f rfl U96 (zapi_Cite_sz _ U96) ze96 ⟨_, I6, (4 : Int), _, _, rfl, Z3, .i64, sapi_Cite_0, ⟨_, (tL tapi_Step), path, _, _, rfl, Z94, (Opd.own (.t rfl)), sapi_Cite_1, rfl⟩⟩) <| WL.opU (OpR.storeB (b := b1) 2 Z96 (Cellable.is tapi_Cite (⟨(4 : Int), path, ([] : Str), (0 : Int), (0 : Int)⟩ : api_Cite)) rfl (.t rfl) (.t rfl)) fun _ => WL.ns ?_
  cases hm
  exact W.retQ1 () rfl (ResAt.cell 2 Y96 Z96 rfl (.t rfl)) ⟨rfl, rfl, trivial⟩

theorem citation_forms_spec (n : Nat)  (r : (List (citation_reader → Option (api_Cite × citation_reader)))) (hm : M.citation_forms n  = some r) : FSpec Try.prog 57 [] ((tL (tFnR Try.prog tcitation_reader 117 (fun y : api_Cite => (tapi_Cite.is y)))).is r) := by
 unfold M.citation_forms at hm
 refine FSpec.of Try.func57 rfl rfl rfl fun g0 => Aw <| Ao rfl (.assign (.nil (t := (tFnR Try.prog tcitation_reader 117 (fun y : api_Cite => (tapi_Cite.is y)))))) <| Ar <| Ao rfl (.buildSlice (n := 5) (ys := [(0, (fun s0 => M.citation_forms_1 n s0)), (1, (fun s0 => M.citation_reader_span n s0)), (2, (fun s0 => M.citation_forms_2 n s0)), (3, (fun s0 => M.citation_forms_3 n s0)), (4, (fun s0 => M.citation_forms_4 n s0))]) (z := (fun _ => none : citation_reader → Option (api_Cite × citation_reader))) (xs := [(fun s0 => M.citation_forms_1 n s0), (fun s0 => M.citation_reader_span n s0), (fun s0 => M.citation_forms_2 n s0), (fun s0 => M.citation_forms_3 n s0), (fun s0 => M.citation_forms_4 n s0)]) U112 el114 ze114 ⟨rfl, (Opd.fnR C60 (fun b x y x' h => citation_forms_1_spec _ _ _ _ h)), rfl, (Opd.fnR C62 (fun b x y x' h => citation_reader_span_spec _ _ _ _ h)), rfl, (Opd.fnR C63 (fun b x y x' h => citation_forms_2_spec _ _ _ _ h)), rfl, (Opd.fnR C66 (fun b x y x' h => citation_forms_3_spec _ _ _ _ h)), rfl, (Opd.fnR C67 (fun b x y x' h => citation_forms_4_spec _ _ _ _ h)), trivial⟩ (by simp) (by decide) rfl) <| Ag rfl rfl <| WL.ns ?_
 cases hm
 exact W.ret1 () rfl (.t rfl) trivial

theorem citation_book_spec (s0_ : api_Step) (r : Bool) (hm : M.citation_book s0_ = some r) : FSpec Try.prog 82 [(tapi_Step.is s0_)] (tB.is r) := by
 unfold M.citation_book at hm
 refine FSpec.of Try.func82 rfl rfl rfl fun g0 => Aw <| Ao rfl (.box (.t rfl)) <| Ao rfl (.assign .bool) <| Ar <| Ao rfl (.load ty124 (.t rfl)) <| Ao rfl (.build (s := tapi_Step) (x := (⟨(0 : Int), ([] : Str)⟩ : api_Step)) zapi_Step_f rfl U124 (zapi_Step_sz _ U124) ze124 ⟨_, I6, (0 : Int), _, _, rfl, Z3, .i64, sapi_Step_0, rfl⟩) <| Ao rfl (.eqSt (D := 2) rfl (by decide) eg124 eq124 (.t rfl) (.t rfl)) <| Ag rfl rfl <| WL.ns ?_
 cases hm
 exact W.ret1 () rfl (.t rfl) trivial

theorem slices_IndexFunc_api_Step_api_Step_spec (n : Nat) (s0_ : List api_Step) (f : api_Step → Option Bool) (r : Int) (hm : M.slices_IndexFunc_api_Step_api_Step n s0_ f = some r) : FSpec Try.prog 95 [((tL tapi_Step).is s0_), (tF Try.prog (fun s : api_Step × Bool => f s.1 = some s.2) (fun s : api_Step × Bool => [tapi_Step.is s.1]) (fun s : api_Step × Bool => (tB.is s.2)))] (I6.is r) := by
 unfold M.slices_IndexFunc_api_Step_api_Step at hm
 refine FSpec.of Try.func95 rfl rfl rfl fun g0 => Aw <| Ao rfl (.assign .i64) <| An <| W.seq <| Aw <| Am rfl rfl <| Ao rfl (.lenL U94 (.t rfl)) <| Ao rfl (.move .i64) <| An <| W.block ?_
 obtain ⟨s1, hs2, hk3⟩ := Bs hm
 clear hm
 refine W.loop (fun m (s : Int) => M.slices_IndexFunc_api_Step_api_Step_loop1 s0_ f m s = some s1) (fun s => [(8, (I6.is s)), (0, ((tL tapi_Step).is s0_)), (1, (tF Try.prog (fun s : api_Step × Bool => f s.1 = some s.2) (fun s : api_Step × Bool => [tapi_Step.is s.1]) (fun s : api_Step × Bool => (tB.is s.2)))), (7, (I6.is (s0_.length : Int)))]) (fun s => []) _ (0 : Int) hs2 ⟨.q rfl, .q rfl, .q rfl, .q rfl, trivial⟩ trivial ?_
 rintro n4 v hm
 try dsimp only at hm
 change W _ _ _ _ _ _ _ [(8, (I6.is v)), (0, ((tL tapi_Step).is s0_)), (1, (tF Try.prog (fun s : api_Step × Bool => f s.1 = some s.2) (fun s : api_Step × Bool => [tapi_Step.is s.1]) (fun s : api_Step × Bool => (tB.is s.2)))), (7, (I6.is (s0_.length : Int)))] []
 cases n4 with
 | zero => rw [M.slices_IndexFunc_api_Step_api_Step_loop1.eq_1] at hm; cases hm
 | succ n4 =>
  rw [M.slices_IndexFunc_api_Step_api_Step_loop1.eq_2] at hm
  refine Aw <| Ao rfl (.ltI (.t rfl) (.t rfl)) <| An <| W.seq <| W.cD hm (.t rfl) (fun hp6 hm => ?_) (fun hp6 hm => ?_)
  ·refine W.skip <| Aq <| W.seq <| W.block <| Aw <| Am rfl rfl <| Ag rfl rfl <| Ar <| Am rfl rfl <| Am rfl rfl <| WL.mv rfl rfl ?_
   obtain ⟨v1, hv7, hm⟩ := Bs hm
   refine Ao rfl (.idx hv7 U94 Z124 (.t rfl) (.t rfl)) <| Ao rfl (.load ty124 (.t rfl)) ?_
   obtain ⟨v2, hv8, hm⟩ := Bs hm
   refine Ao rfl (.callF (ok := (fun s : api_Step × Bool => f s.1 = some s.2)) (As := (fun s : api_Step × Bool => [tapi_Step.is s.1])) (A := (fun s : api_Step × Bool => (tB.is s.2))) (s := (v1, v2)) (.t rfl) hv8 ⟨(.t rfl), trivial⟩) <| An <| W.cB hm (.t rfl) (fun hp10 hm => ?_) (fun hp10 hm => ?_)
   ·refine Aw <| Am rfl rfl <| Ag rfl rfl <| WL.ns ?_
    have hr11 := Si hm
    clear hm
    subst hr11
    have hm := hk3
    try dsimp only at hm
    cases hm
    exact W.ret1 () rfl (.t rfl) trivial
   ·exact W.skip <| WN.block <| Aq <| W.region <| WL.lenL (s := 0) (.t rfl) fun hl12 => Ao rfl (.addI1 (.t rfl) .i64 hp6 hl12) <| Am rfl rfl <| WL.nil <| WN.again n4 (v + 1) (Nat.lt_succ_self n4) hm ⟨.q rfl, .q rfl, .q rfl, .q rfl, trivial⟩ trivial
  ·refine W.exit rfl ?_
   have hr13 := Si hm
   clear hm
   subst hr13
   have hm := hk3
   try dsimp only at hm
   refine Aq <| Aw <| Ao rfl (.assign .i64) <| WL.ns ?_
   cases hm
   exact W.ret1 () rfl (.t rfl) trivial

theorem slices_ContainsFunc_api_Step_api_Step_spec (n : Nat) (s0_ : List api_Step) (f : api_Step → Option Bool) (r : Bool) (hm : M.slices_ContainsFunc_api_Step_api_Step n s0_ f = some r) : FSpec Try.prog 83 [((tL tapi_Step).is s0_), (tF Try.prog (fun s : api_Step × Bool => f s.1 = some s.2) (fun s : api_Step × Bool => [tapi_Step.is s.1]) (fun s : api_Step × Bool => (tB.is s.2)))] (tB.is r) := by
 unfold M.slices_ContainsFunc_api_Step_api_Step at hm
 refine FSpec.of Try.func83 rfl rfl rfl fun g0 => Aw <| Ao rfl (.assign .bool) <| Ar <| Am rfl rfl <| WL.mv rfl rfl ?_
 obtain ⟨step, hv1, hm⟩ := Bs hm
 refine Ao rfl (.call C95 (slices_IndexFunc_api_Step_api_Step_spec _ _ _ _ hv1) ⟨(.t rfl), (.t rfl), trivial⟩) <| Ao rfl (.geI (.t rfl) .i64) <| Ag rfl rfl <| WL.ns ?_
 cases hm
 exact W.ret1 () rfl (.t rfl) trivial

theorem citation_named_spec (n : Nat) (s0_ : api_Step) (r : Bool) (hm : M.citation_named n s0_ = some r) : FSpec Try.prog 85 [(tapi_Step.is s0_)] (tB.is r) := by
 unfold M.citation_named at hm
 refine FSpec.of Try.func85 rfl rfl rfl fun g0 => Aw <| Ao rfl (.box (.t rfl)) <| Ao rfl (.assign .bool) <| Ar <| Ao rfl (.fieldAddr U124 rfl J3 fapi_Step_0 (.t rfl)) <| Ao rfl (.load ty3 (.t rfl)) <| Ao rfl (.geI (.t rfl) .i64) <| WL.mv rfl rfl ?_
 rcases iteD hm with ⟨hp2, hb1, hm⟩ | ⟨hp2, hb1, hm⟩
 ·refine Ax rfl hb1 (.fieldAddr U124 rfl J3 fapi_Step_0 (.t rfl)) <| Ax rfl hb1 (.load ty3 (.t rfl)) <| Ax rfl hb1 (.leI (.t rfl) .i64) <| Ao rfl (.pickT (.t rfl) hb1 (.t rfl)) <| WL.mv rfl rfl ?_
  rcases iteD hm with ⟨hp4, hb3, hm⟩ | ⟨hp4, hb3, hm⟩
  ·refine Ax rfl hb3 (.fieldAddr U124 rfl J9 fapi_Step_1 (.t rfl)) <| Ax rfl hb3 (.load ty9 (.t rfl)) ?_
   obtain ⟨valid, hv5, hm⟩ := Bs hm
   refine Ax rfl hb3 (.call C69 (label_Valid_spec _ _ _ hv5) ⟨(.t rfl), trivial⟩) <| Ao rfl (.pickT (.t rfl) hb3 (.t rfl)) <| Ag rfl rfl <| WL.ns ?_
   cases hm
   exact W.ret1 () rfl (.t rfl) trivial
  ·refine Ap rfl hb3 <| Ap rfl hb3 <| Ap rfl hb3 <| Ao rfl (.pickF (.t rfl) hb3 .bool) <| Ag rfl rfl <| WL.ns ?_
   cases hm
   exact W.ret1 () rfl (.t rfl) trivial
 ·refine Ap rfl hb1 <| Ap rfl hb1 <| Ap rfl hb1 <| Ao rfl (.pickF (.t rfl) hb1 .bool) <| Am rfl rfl <| Ap rfl rfl <| Ap rfl rfl <| Ap rfl rfl <| Ao rfl (.pickF (.t rfl) rfl .bool) <| Ag rfl rfl <| WL.ns ?_
  cases hm
  exact W.ret1 () rfl (.t rfl) trivial

theorem citation_plain_1_spec (n : Nat) (s0_ : api_Step) (r : Bool) (hm : M.citation_plain_1 n s0_ = some r) : FSpec Try.prog 84 [(tapi_Step.is s0_)] (tB.is r) := by
 unfold M.citation_plain_1 at hm
 refine FSpec.of Try.func84 rfl rfl rfl fun g0 => Aw <| Ao rfl (.box (.t rfl)) <| Ao rfl (.assign .bool) <| Ar <| Ao rfl (.load ty124 (.t rfl)) ?_
 obtain ⟨named, hv1, hm⟩ := Bs hm
 refine Ao rfl (.call C85 (citation_named_spec _ _ _ hv1) ⟨(.t rfl), trivial⟩) <| Ao rfl (.notB (.t rfl)) <| Ag rfl rfl <| WL.ns ?_
 cases hm
 exact W.ret1 () rfl (.t rfl) trivial

theorem citation_plain_spec (n : Nat) (p : List api_Step) (r : Bool) (hm : M.citation_plain n p = some r) : FSpec Try.prog 68 [((tL tapi_Step).is p)] (tB.is r) := by
 unfold M.citation_plain at hm
 refine FSpec.of Try.func68 rfl rfl rfl fun g0 => Aw <| Ao rfl (.assign .bool) <| WL.ns ?_
 obtain ⟨s1, hs2, hk3⟩ := Bs hm
 clear hm
 refine W.join (fun s : (List api_Step) => s = s1) (fun s => [(0, ((tL tapi_Step).is s))]) (fun s => []) ?_ ?_
 ·rintro p1 hj14
  try dsimp only at hj14
  subst hj14
  have hm := hk3
  clear hk3
  try dsimp only at hm
  change W _ _ _ _ _ _ _ [(0, ((tL tapi_Step).is p1))] []
  refine Aw <| Am rfl rfl <| Ao rfl (.lenL U94 (.t rfl)) <| Ao rfl (.gtI (.t rfl) .i64) <| WL.mv rfl rfl ?_
  rcases iteD hm with ⟨hp12, hb11, hm⟩ | ⟨hp12, hb11, hm⟩
  ·refine Ax rfl hb11 (.move (.t rfl)) ?_
   obtain ⟨step, hv13, hm⟩ := Bs hm
   refine Ax rfl hb11 (.call C83 (slices_ContainsFunc_api_Step_api_Step_spec _ _ _ _ hv13) ⟨(.t rfl), (Opd.fn C84 (fun s hs => citation_plain_1_spec _ _ _ hs)), trivial⟩) <| Ax rfl hb11 (.notB (.t rfl)) <| Ao rfl (.pickT (.t rfl) hb11 (.t rfl)) <| Ag rfl rfl <| WL.ns ?_
   cases hm
   exact W.ret1 () rfl (.t rfl) trivial
  ·refine Ap rfl hb11 <| Ap rfl hb11 <| Ap rfl hb11 <| Ao rfl (.pickF (.t rfl) hb11 .bool) <| Ag rfl rfl <| WL.ns ?_
   cases hm
   exact W.ret1 () rfl (.t rfl) trivial
 ·have hm := hs2
  clear hs2
  refine Aw <| Am rfl rfl <| Ao rfl (.lenL U94 (.t rfl)) <| Ao rfl (.gtI (.t rfl) .i64) <| WL.mv rfl rfl ?_
  rcases iteD hm with ⟨hp5, hb4, hm⟩ | ⟨hp5, hb4, hm⟩
  ·refine Ax rfl hb4 (.move (.t rfl)) ?_
   obtain ⟨v, hv6, hm⟩ := Bs hm
   refine Ax rfl hb4 (.idx hv6 U94 Z124 (.t rfl) .i64) <| Ax rfl hb4 (.load ty124 (.t rfl)) ?_
   obtain ⟨book, hv7, hm⟩ := Bs hm
   refine Ax rfl hb4 (.call C82 (citation_book_spec _ _ hv7) ⟨(.t rfl), trivial⟩) <| Ao rfl (.pickT (.t rfl) hb4 (.t rfl)) <| An <| W.cB hm (.t rfl) (fun hp9 hm => ?_) (fun hp9 hm => ?_)
   ·refine W.region <| WL.mv rfl rfl ?_
    obtain ⟨v1, hv10, hm⟩ := Bs hm
    exact Ao rfl (.slcLo hv10 U94 Z124 (.t rfl) .i64) <| Ag rfl rfl <| WL.nil <| WN.meet v1 (Si hm) ⟨.q rfl, trivial⟩ trivial
   ·exact W.skip <| WN.meet p (Si hm) ⟨.q rfl, trivial⟩ trivial
  ·exact Ap rfl hb4 <| Ap rfl hb4 <| Ap rfl hb4 <| Ap rfl hb4 <| Ao rfl (.pickF (.t rfl) hb4 .bool) <| An <| W.condF (.t rfl) <| W.skip <| WN.meet p (Si hm) ⟨.q rfl, trivial⟩ trivial

theorem citation_near_1_spec (n : Nat) (s0_ : api_Step) (r : Bool) (hm : M.citation_near_1 n s0_ = some r) : FSpec Try.prog 89 [(tapi_Step.is s0_)] (tB.is r) := by
 unfold M.citation_near_1 at hm
 refine FSpec.of Try.func89 rfl rfl rfl fun g0 => Aw <| Ao rfl (.box (.t rfl)) <| Ao rfl (.assign .bool) <| Ar <| Ao rfl (.load ty124 (.t rfl)) ?_
 obtain ⟨named, hv1, hm⟩ := Bs hm
 refine Ao rfl (.call C85 (citation_named_spec _ _ _ hv1) ⟨(.t rfl), trivial⟩) <| Ao rfl (.notB (.t rfl)) <| Ag rfl rfl <| WL.ns ?_
 cases hm
 exact W.ret1 () rfl (.t rfl) trivial

theorem citation_near_spec (n : Nat) (p : List api_Step) (r : Bool) (hm : M.citation_near n p = some r) : FSpec Try.prog 70 [((tL tapi_Step).is p)] (tB.is r) := by
 unfold M.citation_near at hm
 refine FSpec.of Try.func70 rfl rfl rfl fun g0 => Aw <| Ao rfl (.assign .bool) <| An <| W.seq ?_
 obtain ⟨s1, hs2, hk3⟩ := Bs hm
 clear hm
 refine W.join (fun s : Bool => s = s1) (fun s => [(26, (tB.is s)), (0, ((tL tapi_Step).is p))]) (fun s => []) ?_ ?_
 ·rintro v hj17
  try dsimp only at hj17
  subst hj17
  have hm := hk3
  clear hk3
  try dsimp only at hm
  change W _ _ _ _ _ _ _ [(26, (tB.is v)), (0, ((tL tapi_Step).is p))] []
  refine W.cB hm (.t rfl) (fun hp14 hm => ?_) (fun hp14 hm => ?_)
  ·refine Aw <| Ao rfl (.assign .bool) <| WL.ns ?_
   cases hm
   exact W.ret1 () rfl (.t rfl) trivial
  ·refine W.skip <| Aq <| Aw <| WL.mv rfl rfl ?_
   obtain ⟨v4, hv15, hm⟩ := Bs hm
   refine Ao rfl (.slcLo hv15 U94 Z124 (.t rfl) .i64) ?_
   obtain ⟨step, hv16, hm⟩ := Bs hm
   refine Ao rfl (.call C83 (slices_ContainsFunc_api_Step_api_Step_spec _ _ _ _ hv16) ⟨(.t rfl), (Opd.fn C89 (fun s hs => citation_near_1_spec _ _ _ hs)), trivial⟩) <| Ao rfl (.notB (.t rfl)) <| Ag rfl rfl <| WL.ns ?_
   cases hm
   exact W.ret1 () rfl (.t rfl) trivial
 ·have hm := hs2
  clear hs2
  refine W.region <| Am rfl rfl <| Ao rfl (.lenL U94 (.t rfl)) <| Ao rfl (.eqI (.t rfl) .i64) <| WL.mv rfl rfl ?_
  rcases iteD hm with ⟨hp5, hb4, hm⟩ | ⟨hp5, hb4, hm⟩
  ·refine Ap rfl hb4 <| Ap rfl hb4 <| Ap rfl hb4 <| Ap rfl hb4 <| Ap rfl hb4 <| Ao rfl (.pickT (.t rfl) hb4 .bool) <| Am rfl rfl <| Ap rfl rfl <| Ap rfl rfl <| Ap rfl rfl <| Ap rfl rfl <| Ap rfl rfl <| Ao rfl (.pickT (.t rfl) rfl .bool) <| Am rfl rfl <| Ap rfl rfl <| Ap rfl rfl ?_
   exact Ap rfl rfl <| Ap rfl rfl <| Ap rfl rfl <| Ao rfl (.pickT (.t rfl) rfl .bool) <| WL.nil <| WN.meet true (Si hm) ⟨.q rfl, .q rfl, trivial⟩ trivial
  ·refine Ax rfl hb4 (.move (.t rfl)) ?_
   obtain ⟨v1, hv6, hm⟩ := Bs hm
   refine Ax rfl hb4 (.idx hv6 U94 Z124 (.t rfl) .i64) <| Ax rfl hb4 (.fieldAddr U124 rfl J9 fapi_Step_1 (.t rfl)) <| Ax rfl hb4 (.load ty9 (.t rfl)) <| Ax rfl hb4 (.neS (.t rfl) (.str rfl (by decide))) <| Ao rfl (.pickF (.t rfl) hb4 (.t rfl)) <| WL.mv rfl rfl ?_
   rcases iteB hm with ⟨hp8, hb7, hm⟩ | ⟨hp8, hb7, hm⟩
   ·exact Ap rfl hb7 <| Ap rfl hb7 <| Ap rfl hb7 <| Ap rfl hb7 <| Ap rfl hb7 <| Ao rfl (.pickT (.t rfl) hb7 .bool) <| Am rfl rfl <| Ap rfl rfl <| Ap rfl rfl <| Ap rfl rfl <| Ap rfl rfl <| Ap rfl rfl <| Ao rfl (.pickT (.t rfl) rfl .bool) <| WL.nil <| WN.meet true (Si hm) ⟨.q rfl, .q rfl, trivial⟩ trivial
   ·refine Ax rfl hb7 (.move (.t rfl)) ?_
    obtain ⟨v2, hv9, hm⟩ := Bs hm
    refine Ax rfl hb7 (.idx hv9 U94 Z124 (.t rfl) .i64) <| Ax rfl hb7 (.fieldAddr U124 rfl J3 fapi_Step_0 (.t rfl)) <| Ax rfl hb7 (.load ty3 (.t rfl)) <| Ax rfl hb7 (.ltI (.t rfl) .i64) <| Ao rfl (.pickF (.t rfl) hb7 (.t rfl)) <| WL.mv rfl rfl ?_
    rcases iteD hm with ⟨hp11, hb10, hm⟩ | ⟨hp11, hb10, hm⟩
    ·exact Ap rfl hb10 <| Ap rfl hb10 <| Ap rfl hb10 <| Ap rfl hb10 <| Ap rfl hb10 <| Ao rfl (.pickT (.t rfl) hb10 .bool) <| WL.nil <| WN.meet true (Si hm) ⟨.q rfl, .q rfl, trivial⟩ trivial
    ·refine Ax rfl hb10 (.move (.t rfl)) ?_
     obtain ⟨v3, hv12, hm⟩ := Bs hm
     exact Ax rfl hb10 (.idx hv12 U94 Z124 (.t rfl) .i64) <| Ax rfl hb10 (.fieldAddr U124 rfl J3 fapi_Step_0 (.t rfl)) <| Ax rfl hb10 (.load ty3 (.t rfl)) <| Ax rfl hb10 (.gtI (.t rfl) .i64) <| Ao rfl (.pickF (.t rfl) hb10 (.t rfl)) <| WL.nil <| WN.meet (decide ((7 : Int) < v3.Kind)) (Si hm) ⟨.q rfl, .q rfl, trivial⟩ trivial

theorem citation_Valid_spec (n : Nat) (c : api_Cite) (r : Bool) (hm : M.citation_Valid n c = some r) : FSpec Try.prog 58 [(tapi_Cite.is c)] (tB.is r) := by
 unfold M.citation_Valid at hm
 refine FSpec.of Try.func58 rfl rfl rfl fun g0 => Aw <| Ao rfl (.box (.t rfl)) <| Ao rfl (.assign .bool) <| An <| W.seq ?_
 obtain ⟨s1, hs2, hk3⟩ := Bs hm
 clear hm
 refine W.join (fun s : Bool => s = s1) (fun s => [(15, (tB.is s)), (1, (tapi_Cite.ptr c))]) (fun s => []) ?_ ?_
 ·rintro v hj36
  try dsimp only at hj36
  subst hj36
  have hm := hk3
  clear hk3
  try dsimp only at hm
  change W _ _ _ _ _ _ _ [(15, (tB.is v)), (1, (tapi_Cite.ptr c))] []
  refine W.cB hm (.t rfl) (fun hp7 hm => ?_) (fun hp7 hm => ?_)
  ·refine Aw <| Ao rfl (.assign .bool) <| WL.ns ?_
   cases hm
   exact W.ret1 () rfl (.t rfl) trivial
  ·refine W.skip <| Aq <| W.seq <| Aw <| Ao rfl (.fieldAddr U96 rfl J3 fapi_Cite_0 (.t rfl)) <| Ao rfl (.load ty3 (.t rfl)) <| An <| W.block ?_
   obtain ⟨s8, hs9, hk10⟩ := Bs hm
   clear hm
   refine W.join (fun s : Bool => s = s8) (fun s => [(18, (tB.is s)), (1, (tapi_Cite.ptr c)), (17, (I6.is c.Kind))]) (fun s => []) ?_ ?_
   ·rintro v1 hj35
    try dsimp only at hj35
    subst hj35
    have hm := hk10
    clear hk10
    try dsimp only at hm
    change W _ _ _ _ _ _ _ [(18, (tB.is v1)), (1, (tapi_Cite.ptr c)), (17, (I6.is c.Kind))] []
    refine W.cB hm (.t rfl) (fun hp14 hm => ?_) (fun hp14 hm => ?_)
    ·refine Aw <| Ao rfl (.fieldAddr U96 rfl J94 fapi_Cite_1 (.t rfl)) <| Ao rfl (.load ty94 (.t rfl)) ?_
     obtain ⟨plain, hv15, hm⟩ := Bs hm
     refine Ao rfl (.call C68 (citation_plain_spec _ _ _ hv15) ⟨(.t rfl), trivial⟩) <| Ag rfl rfl <| WL.ns ?_
     cases hm
     exact W.ret1 () rfl (.t rfl) trivial
    ·refine Aw <| Ao rfl (.eqI (.t rfl) .i64) <| Ag rfl rfl <| An <| W.cD hm (.t rfl) (fun hp17 hm => ?_) (fun hp17 hm => ?_)
     ·refine Aw <| Ao rfl (.fieldAddr U96 rfl J94 fapi_Cite_1 (.t rfl)) <| Ao rfl (.load ty94 (.t rfl)) ?_
      obtain ⟨plain1, hv18, hm⟩ := Bs hm
      refine Ao rfl (.call C68 (citation_plain_spec _ _ _ hv18) ⟨(.t rfl), trivial⟩) <| WL.mv rfl rfl ?_
      rcases iteB hm with ⟨hp20, hb19, hm⟩ | ⟨hp20, hb19, hm⟩
      ·refine Ax rfl hb19 (.fieldAddr U96 rfl J9 fapi_Cite_2 (.t rfl)) <| Ax rfl hb19 (.load ty9 (.t rfl)) ?_
       obtain ⟨valid, hv21, hm⟩ := Bs hm
       refine Ax rfl hb19 (.call C69 (label_Valid_spec _ _ _ hv21) ⟨(.t rfl), trivial⟩) <| Ao rfl (.pickT (.t rfl) hb19 (.t rfl)) <| WL.mv rfl rfl ?_
       rcases iteB hm with ⟨hp23, hb22, hm⟩ | ⟨hp23, hb22, hm⟩
       ·refine Ax rfl hb22 (.fieldAddr U96 rfl J94 fapi_Cite_1 (.t rfl)) <| Ax rfl hb22 (.load ty94 (.t rfl)) <| Ax rfl hb22 (.fieldAddr U96 rfl J94 fapi_Cite_1 (.t rfl)) <| Ax rfl hb22 (.load ty94 (.t rfl)) <| Ax rfl hb22 (.lenL U94 (.t rfl)) ?_
        obtain ⟨v2, hv24, hm⟩ := Bs hm
        refine Ax rfl hb22 (.subC hv24 (.t rfl) .i64) ?_
        obtain ⟨v3, hv25, hm⟩ := Bs hm
        refine Ax rfl hb22 (.idx hv25 U94 Z124 (.t rfl) (.t rfl)) <| Ax rfl hb22 (.fieldAddr U124 rfl J3 fapi_Step_0 (.t rfl)) <| Ax rfl hb22 (.load ty3 (.t rfl)) <| Ax rfl hb22 (.neI (.t rfl) .i64) <| Ao rfl (.pickT (.t rfl) hb22 (.t rfl)) <| Ag rfl rfl <| WL.ns ?_
        cases hm
        exact W.ret1 () rfl (.t rfl) trivial
       ·refine Ap rfl hb22 <| Ap rfl hb22 <| Ap rfl hb22 <| Ap rfl hb22 <| Ap rfl hb22 <| Ap rfl hb22 <| Ap rfl hb22 <| Ap rfl hb22 <| Ap rfl hb22 <| Ap rfl hb22 <| Ao rfl (.pickF (.t rfl) hb22 .bool) <| Ag rfl rfl <| WL.ns ?_
        cases hm
        exact W.ret1 () rfl (.t rfl) trivial
      ·refine Ap rfl hb19 <| Ap rfl hb19 <| Ap rfl hb19 <| Ao rfl (.pickF (.t rfl) hb19 .bool) <| Am rfl rfl <| Ap rfl rfl <| Ap rfl rfl <| Ap rfl rfl <| Ap rfl rfl <| Ap rfl rfl <| Ap rfl rfl <| Ap rfl rfl <| Ap rfl rfl <| Ap rfl rfl <| Ap rfl rfl <| Ao rfl (.pickF (.t rfl) rfl .bool) ?_
       refine Ag rfl rfl <| WL.ns ?_
       cases hm
       exact W.ret1 () rfl (.t rfl) trivial
     ·obtain ⟨s26, hs27, hk28⟩ := Bs hm
      clear hm
      refine W.join (fun s : Bool => s = s26) (fun s => [(46, (tB.is s)), (1, (tapi_Cite.ptr c))]) (fun s => []) ?_ ?_
      ·rintro v4 hj34
       try dsimp only at hj34
       subst hj34
       have hm := hk28
       clear hk28
       try dsimp only at hm
       change W _ _ _ _ _ _ _ [(46, (tB.is v4)), (1, (tapi_Cite.ptr c))] []
       refine W.cB hm (.t rfl) (fun hp32 hm => ?_) (fun hp32 hm => ?_)
       ·refine Aw <| Ao rfl (.fieldAddr U96 rfl J94 fapi_Cite_1 (.t rfl)) <| Ao rfl (.load ty94 (.t rfl)) ?_
        obtain ⟨near, hv33, hm⟩ := Bs hm
        refine Ao rfl (.call C70 (citation_near_spec _ _ _ hv33) ⟨(.t rfl), trivial⟩) <| Ag rfl rfl <| WL.ns ?_
        cases hm
        exact W.ret1 () rfl (.t rfl) trivial
       ·refine W.skip <| WN.block <| Aq <| Aw <| Ao rfl (.assign .bool) <| WL.ns ?_
        cases hm
        exact W.ret1 () rfl (.t rfl) trivial
      ·have hm := hs27
       clear hs27
       refine Aw <| Ao rfl (.eqI (.t rfl) .i64) <| Ag rfl rfl <| An <| W.cD hm (.t rfl) (fun hp30 hm => ?_) (fun hp30 hm => ?_)
       ·exact W.skip <| WN.meet (decide (c.Kind = (2 : Int))) (Si hm) ⟨.q rfl, .q rfl, trivial⟩ trivial
       ·exact W.region <| Ao rfl (.eqI (.t rfl) .i64) <| Ag rfl rfl <| WL.nil <| WN.meet (decide (c.Kind = (3 : Int))) (Si hm) ⟨.q rfl, .q rfl, trivial⟩ trivial
   ·have hm := hs9
    clear hs9
    refine Aw <| Ao rfl (.eqI (.t rfl) .i64) <| Ag rfl rfl <| An <| W.cD hm (.t rfl) (fun hp12 hm => ?_) (fun hp12 hm => ?_)
    ·exact W.skip <| WN.meet (decide (c.Kind = (0 : Int))) (Si hm) ⟨.q rfl, .q rfl, .q rfl, trivial⟩ trivial
    ·exact W.region <| Ao rfl (.eqI (.t rfl) .i64) <| Ag rfl rfl <| WL.nil <| WN.meet (decide (c.Kind = (4 : Int))) (Si hm) ⟨.q rfl, .q rfl, .q rfl, trivial⟩ trivial
 ·have hm := hs2
  clear hs2
  refine W.region <| Ao rfl (.fieldAddr U96 rfl J94 fapi_Cite_1 (.t rfl)) <| Ao rfl (.load ty94 (.t rfl)) <| Ao rfl (.lenL U94 (.t rfl)) <| Ao rfl (.gtI (.t rfl) .i64) <| WL.mv rfl rfl ?_
  rcases iteD hm with ⟨hp5, hb4, hm⟩ | ⟨hp5, hb4, hm⟩
  ·exact Ap rfl hb4 <| Ap rfl hb4 <| Ap rfl hb4 <| Ap rfl hb4 <| Ap rfl hb4 <| Ap rfl hb4 <| Ap rfl hb4 <| Ao rfl (.pickT (.t rfl) hb4 .bool) <| WL.nil <| WN.meet true (Si hm) ⟨.q rfl, .q rfl, trivial⟩ trivial
  ·exact Ax rfl hb4 (.fieldAddr U96 rfl J9 fapi_Cite_2 (.t rfl)) <| Ax rfl hb4 (.load ty9 (.t rfl)) <| Ax rfl hb4 (.neS (.t rfl) (.str rfl (by decide))) <| Ax rfl hb4 (.fieldAddr U96 rfl J3 fapi_Cite_0 (.t rfl)) <| Ax rfl hb4 (.load ty3 (.t rfl)) <| Ax rfl hb4 (.eqI (.t rfl) .i64) <| Ax rfl hb4 (.neB U4 (.t rfl) (.t rfl)) <| Ao rfl (.pickF (.t rfl) hb4 (.t rfl)) <| WL.nil <| WN.meet ((c.To != ([] : Str)) != (decide (c.Kind = (1 : Int)))) (Si hm) ⟨.q rfl, .q rfl, trivial⟩ trivial

theorem citation_longest_spec (n : Nat) (l : List Str) (from0_ : Int) (r : api_Cite × Bool) (hm : M.citation_longest n l from0_ = some r) : FSpec Try.prog 55 [((tL tS).is l), (I6.is from0_)] (Asn.tuple2 (tapi_Cite.is r.1) (tB.is r.2)) := by
 unfold M.citation_longest at hm
 refine FSpec.of Try.func55 rfl rfl rfl fun g0 => Aw <| WL.opR rfl (OpR.alloc 4 ze96) fun b => Ao rfl (.assign .bool) <| Ar <| WL.opR rfl (OpR.alloc 6 ze96) fun b1 => An <| W.seq <| W.sr ?_
 obtain ⟨forms, hv1, hm⟩ := Bs hm
 refine Ao rfl (.call C57 (citation_forms_spec _ _ hv1) trivial) <| Ao rfl (.lenL U112 (.t rfl)) <| Ao rfl (.move .i64) <| An <| W.block ?_
 obtain ⟨s2, hs3, hk4⟩ := Bs hm
 clear hm
 refine W.loop (fun m (s : Int × List (citation_reader → Option (api_Cite × citation_reader)) × List (citation_reader → Option (api_Cite × citation_reader)) × api_Cite) => m = s.2.2.1.length ∧ forms = s.2.1 ++ s.2.2.1 ∧ s.1 = (s.2.1.length : Int) ∧ M.citation_longest_loop1 n l from0_ s.2.2.1 s.2.2.2 = some s2) (fun s => [(13, (I6.is s.1)), (0, ((tL tS).is l)), (1, (I6.is from0_)), (4, (Bp b 0)), (6, (Bp b1 0)), (11, ((tL (tFnR Try.prog tcitation_reader 117 (fun y : api_Cite => (tapi_Cite.is y)))).is forms)), (12, (I6.is (forms.length : Int)))]) (fun s => [(6, (Bx 5 true 96 (tapi_Cite.is s.2.2.2) b1)), (4, (Bx 5 true 96 (tapi_Cite.is zapi_Cite) b))]) forms.length ((0 : Int), [], forms, zapi_Cite) ⟨rfl, rfl, rfl, hs3⟩ ⟨.q rfl, .q rfl, .q rfl, .q rfl, .q rfl, .q rfl, .q rfl, trivial⟩ ⟨rfl, rfl, ⟨rfl, rfl, trivial⟩⟩ ?_
 rintro m ⟨i, pre, rest1, best⟩ ⟨hn8, hxs5, hi6, hm⟩
 try dsimp only at hn8 hxs5 hi6 hm
 change W _ _ _ _ _ _ _ [(13, (I6.is i)), (0, ((tL tS).is l)), (1, (I6.is from0_)), (4, (Bp b 0)), (6, (Bp b1 0)), (11, ((tL (tFnR Try.prog tcitation_reader 117 (fun y : api_Cite => (tapi_Cite.is y)))).is forms)), (12, (I6.is (forms.length : Int)))] [(6, (Bx 5 true 96 (tapi_Cite.is best) b1)), (4, (Bx 5 true 96 (tapi_Cite.is zapi_Cite) b))]
 refine W.lenL (s := 11) (.t rfl) fun hlen7 => Aw <| Ao rfl (.ltI (.t rfl) (.t rfl)) <| An <| W.seq <| W.cond (.t rfl) (fun hc10 => ?_) (fun hc10 => ?_)
 ·have hp11 := of_decide_eq_true hc10
  obtain ⟨e, es, hrest13⟩ := range_more hxs5 hi6 hp11
  subst hrest13
  rw [M.citation_longest_loop1.eq_2] at hm
  refine W.skip <| Aq <| W.seq <| W.block <| Aw <| Ao rfl (.idxPre hxs5 hi6 U112 Z114 (.t rfl) (.t rfl)) <| Ao rfl (.load ty114 (.t rfl)) <| Ag rfl rfl <| Ar <| Am rfl rfl <| Am rfl rfl <| Ao rfl (.build (s := tcitation_reader) (x := (⟨l, from0_, false⟩ : citation_reader)) zcitation_reader_f rfl Try.underlying117 (zcitation_reader_sz _ Try.underlying117) ze117 ⟨_, (tL tS), l, _, _, rfl, Z60, (.t rfl), scitation_reader_0, ⟨_, I6, from0_, _, _, rfl, Z3, (.t rfl), scitation_reader_1, rfl⟩⟩) <| WL.opR rfl (OpR.boxB 20 (Cellable.is tcitation_reader (⟨l, from0_, false⟩ : citation_reader)) (.t rfl)) fun b2 => Ag rfl rfl <| Ar <| WL.mv rfl rfl ?_
  refine WL.mv rfl rfl ?_
  obtain ⟨⟨v, w⟩, hv14, hm⟩ := Bs hm
  dsimp only at hm
  refine WL.opR rfl (OpR.callFnR 20 hv14 (.t rfl) rfl (.t rfl)) fun _ => WL.opR rfl (OpR.alloc 10 ze96) fun b3 => WL.opU (OpR.storeB (b := b3) 10 Z96 (Cellable.is tapi_Cite v) rfl (.t rfl) (.t rfl)) fun _ => An <| W.seq <| W.weakR (res' := [(6, (Bx 5 true 96 (tapi_Cite.is best) b1)), (4, (Bx 5 true 96 (tapi_Cite.is zapi_Cite) b)), (20, (Bx 3 true 117 (tcitation_reader.is w) b2)), (10, (Bx 5 true 96 (tapi_Cite.is v) b3))]) ⟨rfl, rfl, ⟨rfl, rfl, ⟨rfl, rfl, ⟨rfl, rfl, trivial⟩⟩⟩⟩ <| W.drawM [.c (I6.is from0_), .c (Bp b2 0), .c (Bp b2 0), .c (Bp b2 1), .c (I6.is w.at_), .c (Bp b3 3), .c Asn.any, .c (Bp b3 4), .c Asn.any] [([], [1]), ([], [9]), ([1], []), ([2], []), ([3], []), ([], [10]), ([0, 5], []), ([], [10]), ([4, 7], [])] [6, 8] [[], [], [], [], [], [], [], [], []] (fun m cv => match m with | 0 => [(6, (Bx 5 true 96 (tapi_Cite.is best) b1)), (4, (Bx 5 true 96 (tapi_Cite.is zapi_Cite) b)), (20, (Bx 3 true 117 (tcitation_reader.is w) b2)), (10, (Bx 5 true 96 (tapi_Cite.is v) b3))] | 1 => [(10, (Bx 5 true 96 (tapi_Cite.is ({ v with From := from0_ } : api_Cite)) b3)), (6, (Bx 5 true 96 (tapi_Cite.is best) b1)), (4, (Bx 5 true 96 (tapi_Cite.is zapi_Cite) b)), (20, (Bx 3 true 117 (tcitation_reader.is w) b2))] | _ => [(10, (Bx 5 true 96 (tapi_Cite.is ({ ({ v with From := from0_ } : api_Cite) with At := w.at_ } : api_Cite)) b3)), (6, (Bx 5 true 96 (tapi_Cite.is best) b1)), (4, (Bx 5 true 96 (tapi_Cite.is zapi_Cite) b)), (20, (Bx 3 true 117 (tcitation_reader.is w) b2))]) (fun _ => none) Mx rfl rfl rfl rfl rfl ⟨fun _ _ _ _ => rfl, ⟨fun _ _ _ _ => rfl, ⟨fun _ _ _ _ => rfl, ⟨fun _ _ _ _ => rfl, ⟨fun _ _ _ _ => rfl, ⟨fun _ _ _ _ => rfl, ⟨fun _ _ _ _ => rfl, ⟨fun _ _ _ _ => rfl, ⟨fun _ _ _ _ => rfl, trivial⟩⟩⟩⟩⟩⟩⟩⟩⟩ rfl ⟨mo fun cv => Op1.move (.t rfl), ⟨mo fun cv => Op1.move (.t rfl), ⟨mo fun cv => Op1.nilCheckB (.t rfl), ⟨mo fun cv => Op1.fieldAddrB (o := 0) Try.underlying117 rfl J3 (.t rfl) rfl, ⟨.inr ⟨fun cv => [(20, (Bx 3 true 117 (tcitation_reader.is w) b2))], (AllUpTo.at ⟨⟨(fun _ _ => ⟨rfl, rfl, trivial⟩), (fun _ _ => ⟨rfl, rfl, trivial⟩)⟩, (fun hw => absurd hw (by decide))⟩), fun cv => Op1.loadBF 20 rfl ty3 fcitation_reader_1 rfl (.t rfl)⟩, ⟨mo fun cv => Op1.fieldAddrB (o := 0) U96 rfl J3 (.t rfl) rfl, ⟨.inl rfl, ⟨mo fun cv => Op1.fieldAddrB (o := 0) U96 rfl J3 (.t rfl) rfl, ⟨.inl rfl, trivial⟩⟩⟩⟩⟩⟩⟩⟩⟩ ⟨⟨_, _, _, [10], (fun cv => [(10, (Bx 5 true 96 (tapi_Cite.is ({ v with From := from0_ } : api_Cite)) b3))]), rfl, rfl, rfl, rfl, fun _ => rfl, fun _ _ => rfl, fun cv => OpR.viaU (OpR.storeBF (b := b3) 10 rfl ty3 sapi_Cite_3 rfl (by decide) (.t rfl) (.t rfl))⟩, ⟨⟨_, _, _, [10], (fun cv => [(10, (Bx 5 true 96 (tapi_Cite.is ({ ({ v with From := from0_ } : api_Cite) with At := w.at_ } : api_Cite)) b3))]), rfl, rfl, rfl, rfl, fun _ => rfl, fun _ _ => rfl, fun cv => OpR.viaU (OpR.storeBF (b := b3) 10 rfl ty3 sapi_Cite_4 rfl (by decide) (.t rfl) (.t rfl))⟩, trivial⟩⟩ fun cv => Aq <| Aw <| Ao rfl (.loadB 10 Y96 Z96 rfl (.t rfl)) ?_
  obtain ⟨valid, hv15, hm⟩ := Bs hm
  refine Ao rfl (.call C58 (citation_Valid_spec _ _ _ hv15) ⟨(.t rfl), trivial⟩) <| WL.mv rfl rfl ?_
  rcases iteB hm with ⟨hp17, hb16, hm⟩ | ⟨hp17, hb16, hm⟩
  ·refine Ax rfl hb16 (.fieldAddrB (o := 0) U96 rfl J3 (.t rfl) rfl) <| Ax rfl hb16 (.loadBF 10 rfl ty3 fapi_Cite_4 rfl (.t rfl)) <| Ax rfl hb16 (.fieldAddrB (o := 0) U96 rfl J3 (.t rfl) rfl) <| Ax rfl hb16 (.loadBF 6 rfl ty3 fapi_Cite_4 rfl (.t rfl)) <| Ax rfl hb16 (.gtI (.t rfl) (.t rfl)) <| Ao rfl (.pickT (.t rfl) hb16 (.t rfl)) <| An <| W.cD hm (.t rfl) (fun hp19 hm => ?_) (fun hp19 hm => ?_)
   ·exact W.region <| Ao rfl (.loadB 10 Y96 Z96 rfl (.t rfl)) <| WL.opU (OpR.storeB (b := b1) 6 Z96 (Cellable.is tapi_Cite ({ ({ v with From := from0_ } : api_Cite) with At := w.at_ } : api_Cite)) rfl (.t rfl) (.t rfl)) fun _ => WL.nil <| WN.block <| Aq <| W.region <| Ao rfl (.addI (.t rfl) .i64 (range_inR hi6 hp11 hlen7)) <| Am rfl rfl <| WL.nil <| WN.again es.length (i + 1, pre ++ [e], es, ({ ({ v with From := from0_ } : api_Cite) with At := w.at_ } : api_Cite)) (range_lt hn8) ⟨rfl, range_step hxs5, range_idx hi6, hm⟩ ⟨.q rfl, .q rfl, .q rfl, .q rfl, .q rfl, .q rfl, .q rfl, trivial⟩ ⟨rfl, rfl, ⟨rfl, rfl, trivial⟩⟩
   ·exact W.skip <| WN.block <| Aq <| W.region <| Ao rfl (.addI (.t rfl) .i64 (range_inR hi6 hp11 hlen7)) <| Am rfl rfl <| WL.nil <| WN.again es.length (i + 1, pre ++ [e], es, best) (range_lt hn8) ⟨rfl, range_step hxs5, range_idx hi6, hm⟩ ⟨.q rfl, .q rfl, .q rfl, .q rfl, .q rfl, .q rfl, .q rfl, trivial⟩ ⟨rfl, rfl, ⟨rfl, rfl, trivial⟩⟩
  ·exact Ap rfl hb16 <| Ap rfl hb16 <| Ap rfl hb16 <| Ap rfl hb16 <| Ap rfl hb16 <| Ao rfl (.pickF (.t rfl) hb16 .bool) <| An <| W.condF (.t rfl) <| W.skip <| WN.block <| Aq <| W.region <| Ao rfl (.addI (.t rfl) .i64 (range_inR hi6 hp11 hlen7)) <| Am rfl rfl <| WL.nil <| WN.again es.length (i + 1, pre ++ [e], es, best) (range_lt hn8) ⟨rfl, range_step hxs5, range_idx hi6, hm⟩ ⟨.q rfl, .q rfl, .q rfl, .q rfl, .q rfl, .q rfl, .q rfl, trivial⟩ ⟨rfl, rfl, ⟨rfl, rfl, trivial⟩⟩
 ·have hrest13 := range_end hxs5 hi6 (of_decide_eq_false hc10)
  subst hrest13
  rw [M.citation_longest_loop1.eq_1] at hm
  refine W.exit rfl ?_
  have hr20 := Si hm
  clear hm
  subst hr20
  have hm := hk4
  try dsimp only at hm
  refine Aq <| W.seq <| W.weakR (res' := [(6, (Bx 5 true 96 (tapi_Cite.is best) b1)), (4, (Bx 5 true 96 (tapi_Cite.is zapi_Cite) b))]) ⟨rfl, rfl, ⟨rfl, rfl, trivial⟩⟩ <| W.drawM [.c (tapi_Cite.is best), .c (Bp b1 4), .c (I6.is best.At), .c (tB.is (decide ((0 : Int) < best.At))), .c Asn.any, .c (tB.is (decide ((0 : Int) < best.At)))] [([], [6]), ([], [6]), ([1], []), ([2], []), ([0], [4]), ([3], [])] [4] [[], [], [], [], [], []] (fun m cv1 => match m with | 0 => [(6, (Bx 5 true 96 (tapi_Cite.is best) b1)), (4, (Bx 5 true 96 (tapi_Cite.is zapi_Cite) b))] | _ => [(4, (Bx 5 true 96 (tapi_Cite.is best) b)), (6, (Bx 5 true 96 (tapi_Cite.is best) b1))]) (fun _ => none) Mx rfl rfl rfl rfl rfl ⟨fun _ _ _ _ => rfl, ⟨fun _ _ _ _ => rfl, ⟨fun _ _ _ _ => rfl, ⟨fun _ _ _ _ => rfl, ⟨fun _ _ _ _ => rfl, ⟨fun _ _ _ _ => rfl, trivial⟩⟩⟩⟩⟩⟩ rfl ⟨.inr ⟨fun cv1 => [(6, (Bx 5 true 96 (tapi_Cite.is best) b1))], (AllUpTo.at ⟨(fun _ _ => ⟨rfl, rfl, trivial⟩), (fun hw => absurd hw (by decide))⟩), fun cv1 => Op1.loadB 6 Y96 Z96 rfl (.t rfl)⟩, ⟨mo fun cv1 => Op1.fieldAddrB (o := 0) U96 rfl J3 (.t rfl) rfl, ⟨.inr ⟨fun cv1 => [(6, (Bx 5 true 96 (tapi_Cite.is best) b1))], (AllUpTo.at ⟨(fun _ _ => ⟨rfl, rfl, trivial⟩), (fun _ _ => ⟨rfl, rfl, trivial⟩)⟩), fun cv1 => Op1.loadBF 6 rfl ty3 fapi_Cite_4 rfl (.t rfl)⟩, ⟨mo fun cv1 => Op1.gtI (.t rfl) .i64, ⟨.inl rfl, ⟨mo fun cv1 => Op1.assign (.t rfl), trivial⟩⟩⟩⟩⟩⟩ ⟨⟨_, _, _, [4], (fun cv1 => [(4, (Bx 5 true 96 (tapi_Cite.is best) b))]), rfl, rfl, rfl, rfl, fun _ => rfl, fun _ _ => rfl, fun cv1 => OpR.viaU (OpR.storeB (b := b) 4 Z96 (Cellable.is tapi_Cite best) rfl (.t rfl) (.t rfl))⟩, trivial⟩ fun cv1 => WN.seq ?_
  cases hm
  exact W.retQ2 () rfl rfl (ResAt.cell 4 Y96 Z96 rfl (.t rfl)) (ResAt.tmp (.t rfl)) trivial

theorem citation_Scan_spec (n : Nat) (l : List Str) (r : (List api_Cite)) (hm : M.citation_Scan n l = some r) : FSpec Try.prog 50 [((tL tS).is l)] ((tL tapi_Cite).is r) := by
 unfold M.citation_Scan at hm
 refine FSpec.of Try.func50 rfl rfl rfl fun g0 => Aw <| Ao rfl (.assign (.nil (t := tapi_Cite))) <| Ar <| WL.addNil (t := tapi_Cite) (E := 96) 3 <| Ao rfl (.assign (Opd.nilO (t := tapi_Cite))) <| An <| W.seq <| Aw <| Ao rfl (.assign .i64) <| An <| W.block ?_
 obtain ⟨s1, hs2, hk3⟩ := Bs hm
 clear hm
 refine W.loop (fun m (s : ((List api_Cite) × Int) × Tok) => M.citation_Scan_loop1 l m s.1.1 s.1.2 = some s1) (fun s => [(3, (tO tapi_Cite s.2 s.1.1)), (4, (I6.is s.1.2)), (0, ((tL tS).is l))]) (fun s => [(3, Dec.Own tapi_Cite 96 s.2 s.1.1.length)]) _ ((([] : List api_Cite), (0 : Int)), (none : Tok)) hs2 ⟨.q rfl, .q rfl, .q rfl, trivial⟩ ⟨rfl, rfl, trivial⟩ ?_
 rintro n4 ⟨⟨out, at0_⟩, k⟩ hm
 try dsimp only at hm
 change W _ _ _ _ _ _ _ [(3, (tO tapi_Cite k out)), (4, (I6.is at0_)), (0, ((tL tS).is l))] [(3, Dec.Own tapi_Cite 96 k out.length)]
 cases n4 with
 | zero => rw [M.citation_Scan_loop1.eq_1] at hm; cases hm
 | succ n4 =>
  rw [M.citation_Scan_loop1.eq_2] at hm
  refine W.seq <| Aw <| Am rfl rfl <| Am rfl rfl <| Ao rfl (.lenL U60 (.t rfl)) <| Ao rfl (.ltI (.t rfl) (.t rfl)) <| An <| W.cD hm (.t rfl) (fun hp6 hm => ?_) (fun hp6 hm => ?_)
  ·refine W.skip <| Aq <| W.block <| Aw <| Am rfl rfl <| WL.mv rfl rfl ?_
   obtain ⟨longes, hv7, hm⟩ := Bs hm
   refine Ao rfl (.call C55 (citation_longest_spec _ _ _ _ hv7) ⟨(.t rfl), (.t rfl), trivial⟩) <| Am rfl rfl <| Ao rfl (.extract0 (.t rfl)) <| Ao rfl (.extract1 (.t rfl)) <| WL.opR rfl (OpR.alloc 5 ze96) fun b => WL.opU (OpR.storeB (b := b) 5 Z96 (Cellable.is tapi_Cite longes.1) rfl (.t rfl) (.t rfl)) fun _ => WL.sealed (t := tapi_Cite) (u := longes.1) 5 5 rfl rfl <| Ag rfl rfl <| An <| W.seq <| Aw <| Am rfl rfl <| Ao rfl (.notB (.t rfl)) <| An <| W.cR hm (.t rfl) (fun hp9 hm => ?_) (fun hp9 hm => ?_)
   ·exact Aw <| Am rfl rfl <| WL.lenL (s := 0) (.t rfl) fun hl10 => Ao rfl (.addI1 (.t rfl) .i64 hp6 hl10) <| Ag rfl rfl <| An <| W.exit rfl <| WN.again n4 ((out, at0_ + 1), k) (Nat.lt_succ_self n4) hm ⟨.q rfl, .q rfl, .q rfl, trivial⟩ ⟨rfl, rfl, trivial⟩
   ·refine W.skip <| Aq <| Aw <| Am rfl rfl <| Ao rfl (.load ty96 (.t rfl)) <| Ao rfl (.buildSlice (n := 1) (ys := [(0, longes.1)]) (z := zapi_Cite) (xs := [longes.1]) U104 el96 ze96 ⟨rfl, (.t rfl), trivial⟩ (by simp) (by decide) rfl) ?_
    obtain ⟨out1, hv11, hm⟩ := Bs hm
    exact WL.opR rfl (OpR.appC (key := 3) hv11 U104 el96 (.t rfl) (.t rfl) rfl) fun k1 => Ag rfl rfl <| WL.nr1 <| Ao rfl (.fieldAddr U96 rfl J3 fapi_Cite_4 (.t rfl)) <| Ao rfl (.load ty3 (.t rfl)) <| Ag rfl rfl <| WL.nil <| WN.block <| WN.again n4 ((out1, longes.1.At), k1) (Nat.lt_succ_self n4) hm ⟨.q rfl, .q rfl, .q rfl, trivial⟩ ⟨rfl, rfl, trivial⟩
  ·refine W.exit rfl ?_
   have hr12 := Si hm
   clear hm
   subst hr12
   have hm := hk3
   try dsimp only at hm
   refine Aq <| Aw <| Am rfl rfl <| Ag rfl rfl <| WL.ns ?_
   cases hm
   exact W.ret1 () rfl (Opd.own (.t rfl)) trivial

theorem equivalence_read_1_spec (s0_ : api_Meaning) (c : api_Unit) (c1 : Int) (r : Bool) (hm : M.equivalence_read_1 s0_ c c1 = some r) : FSpec Try.prog 52 [(tapi_Meaning.is s0_), (tapi_Unit.ptr c), (I6.ptr c1)] (tB.is r) := by
 unfold M.equivalence_read_1 at hm
 refine FSpec.of Try.func52 rfl rfl rfl fun g0 => Aw <| Ao rfl (.box (.t rfl)) <| Ao rfl (.assign .bool) <| Ar <| Ao rfl (.fieldAddr U44 rfl J23 fapi_Meaning_0 (.t rfl)) <| Ao rfl (.load ty23 (.t rfl)) <| Ao rfl (.fieldAddr U27 rfl J23 fapi_Unit_0 (.t rfl)) <| Ao rfl (.load ty23 (.t rfl)) <| Ao rfl (.eqSt (D := 2) rfl (by decide) eg23 eq23 (.t rfl) (.t rfl)) <| WL.mv rfl rfl ?_
 rcases iteD hm with ⟨hp2, hb1, hm⟩ | ⟨hp2, hb1, hm⟩
 ·refine Ax rfl hb1 (.fieldAddr U44 rfl J3 fapi_Meaning_1 (.t rfl)) <| Ax rfl hb1 (.load ty3 (.t rfl)) <| Ax rfl hb1 (.load ty3 (.t rfl)) <| Ax rfl hb1 (.eqI (.t rfl) (.t rfl)) <| Ao rfl (.pickT (.t rfl) hb1 (.t rfl)) <| Ag rfl rfl <| WL.ns ?_
  cases hm
  exact W.ret1 () rfl (.t rfl) trivial
 ·refine Ap rfl hb1 <| Ap rfl hb1 <| Ap rfl hb1 <| Ap rfl hb1 <| Ao rfl (.pickF (.t rfl) hb1 .bool) <| Ag rfl rfl <| WL.ns ?_
  cases hm
  exact W.ret1 () rfl (.t rfl) trivial

end Go.Proofs.Ytclepigknhoonaa
