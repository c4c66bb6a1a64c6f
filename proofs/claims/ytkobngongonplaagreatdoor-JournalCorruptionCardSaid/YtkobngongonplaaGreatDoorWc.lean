/-
  The code does what the models say: written by program.
-/
import Derived.Test.YtkobngongonplaaGreatDoorWb
set_option linter.unusedVariables false
set_option linter.unusedSimpArgs false
namespace Go.Proofs.YtkobngongonplaaGreatDoor
open Go Go.Dec
set_option maxRecDepth 100000
set_option maxHeartbeats 4000000
theorem r14_Way_spec (n : Nat) (pages : List Str) (root : Int) (r : (List Str) × Bool) (hm : M.r14_Way n pages root = some r) : FSpec Tryz.prog 12 [((tL tS).is pages), (I6.is root)] (Asn.tuple2 ((tL tS).is r.1) (tB.is r.2)) := by
 unfold M.r14_Way at hm
 refine FSpec.of Tryz.func12 rfl rfl rfl fun g0 => Aw <| Ao rfl (.assign (.nil (t := tS))) <| Ao rfl (.assign .bool) <| An <| W.seq <| Aw <| Am rfl rfl <| Ao rfl (.ltI (.t rfl) .i64) <| An <| W.cD hm (.t rfl) (fun hp2 hm => ?_) (fun hp2 hm => ?_)
 ·refine Aw <| Ao rfl (.buildSlice (n := 0) (ys := []) (z := ([] : Str)) (xs := ([] : List Str)) U26 el9 ze9 trivial (by simp) (by decide) rfl) <| Ag rfl rfl <| Ao rfl (.assign .bool) <| WL.ns ?_
  have hr := Si hm
  clear hm
  subst hr
  exact W.ret2 () rfl rfl (.t rfl) (.t rfl) trivial
 ·refine W.skip <| Aq <| Aw <| Ao rfl (.buildSlice (n := 0) (ys := []) (z := (0 : Int)) (xs := ([] : List Int)) U64 el3 ze3 trivial (by simp) (by decide) rfl) <| Ag rfl rfl <| An <| W.seq <| Aw <| Am rfl rfl <| Ag rfl rfl <| An <| W.block ?_
  obtain ⟨s3, hs4, hk5⟩ := Bs hm
  clear hm
  refine W.loop (fun m (s : (List Int) × Int) => M.r14_Way_loop1 pages m s.1 s.2 = some s3) (fun s => [(6, ((tL I6).is s.1)), (7, (I6.is s.2)), (0, ((tL tS).is pages))]) (fun s => []) _ (([] : List Int), root) hs4 ⟨.q rfl, .q rfl, .q rfl, trivial⟩ trivial ?_
  rintro n6 ⟨way, at0_⟩ hm
  try dsimp only at hm
  change W _ _ _ _ _ _ _ [(6, ((tL I6).is way)), (7, (I6.is at0_)), (0, ((tL tS).is pages))] []
  cases n6 with
  | zero => rw [M.r14_Way_loop1.eq_1] at hm; cases hm
  | succ n6 =>
   rw [M.r14_Way_loop1.eq_2] at hm
   refine W.seq <| Aw <| Am rfl rfl <| Ao rfl (.geI (.t rfl) .i64) <| An <| W.cD hm (.t rfl) (fun hp8 hm => ?_) (fun hp8 hm => ?_)
   ·refine W.skip <| Aq <| W.block <| W.seq <| Aw <| Am rfl rfl <| Am rfl rfl <| Ao rfl (.lenL U26 (.t rfl)) <| Ao rfl (.geI (.t rfl) (.t rfl)) <| An <| W.cD hm (.t rfl) (fun hp10 hm => ?_) (fun hp10 hm => ?_)
    ·refine Aw <| Ao rfl (.assign (.nil (t := tS))) <| Ao rfl (.assign .bool) <| WL.ns ?_
     have hr11 := Si hm
     clear hm
     subst hr11
     have hm := hk5
     try dsimp only at hm
     have hr := Si hm
     clear hm
     subst hr
     exact W.ret2 () rfl rfl (.t rfl) (.t rfl) trivial
    ·refine W.skip <| Aq <| Aw <| Am rfl rfl <| WL.mv rfl rfl ?_
     obtain ⟨v, hv12, hm⟩ := Bs hm
     refine Ao rfl (.idx hv12 U26 Z9 (.t rfl) (.t rfl)) <| Ao rfl (.load ty9 (.t rfl)) ?_
     obtain ⟨words, hv13, hm⟩ := Bs hm
     refine Ao rfl (.call C28 (r14_words_spec _ _ _ hv13) ⟨(.t rfl), trivial⟩) <| Am rfl rfl <| Ao rfl (.extract30 (.t rfl)) <| Ao rfl (.extract31 (.t rfl)) <| Ao rfl (.extract32 (.t rfl)) <| Ag rfl rfl <| Ag rfl rfl <| Ag rfl rfl <| An <| W.seq <| Aw <| Am rfl rfl <| Ao rfl (.notB (.t rfl)) <| An <| W.cR hm (.t rfl) (fun hp15 hm => ?_) (fun hp15 hm => ?_)
     ·refine Aw <| Ao rfl (.assign (.nil (t := tS))) <| Ao rfl (.assign .bool) <| WL.ns ?_
      have hr16 := Si hm
      clear hm
      subst hr16
      have hm := hk5
      try dsimp only at hm
      have hr := Si hm
      clear hm
      subst hr
      exact W.ret2 () rfl rfl (.t rfl) (.t rfl) trivial
     ·refine W.skip <| Aq <| Aw <| Am rfl rfl <| WL.opR rfl (OpR.buildSlice (n := 1) (ys := [(0, at0_)]) (z := (0 : Int)) (xs := [at0_]) 49 U64 el3 ze3 ⟨rfl, (.t rfl), trivial⟩ (by simp) (by decide) rfl) fun k => WL.mv rfl rfl ?_
      obtain ⟨out, hv17, hm⟩ := Bs hm
      refine WL.opR rfl (OpR.appC (key := 49) hv17 U64 el3 (.t rfl) (.t rfl) rfl) fun k1 => Ag rfl rfl <| Ar <| WL.mv rfl rfl ?_
      obtain ⟨v1, hv18, hm⟩ := Bs hm
      refine Ao rfl (.idx hv18 U26 Z9 (.t rfl) .i64) <| Ao rfl (.load ty9 (.t rfl)) ?_
      obtain ⟨back, hv19, hm⟩ := Bs hm
      refine Ao rfl (.call C29 (r14_back_spec _ _ _ hv19) ⟨(.t rfl), trivial⟩) <| Ag rfl rfl <| An <| W.seq <| Aw <| Am rfl rfl <| Ao rfl (.ltI (.t rfl) .i64) <| WL.mv rfl rfl ?_
      rcases iteD hm with ⟨hp21, hb20, hm⟩ | ⟨hp21, hb20, hm⟩
      ·refine Ap rfl hb20 <| Ap rfl hb20 <| Ap rfl hb20 <| Ao rfl (.pickT (.t rfl) hb20 .bool) <| An <| W.condT (.t rfl) <| Aw <| Ao rfl (.assign (.nil (t := tS))) <| Ao rfl (.assign .bool) <| WL.ns ?_
       have hr22 := Si hm
       clear hm
       subst hr22
       have hm := hk5
       try dsimp only at hm
       have hr := Si hm
       clear hm
       subst hr
       exact W.ret2 () rfl rfl (.t rfl) (.t rfl) trivial
      ·refine Ax rfl hb20 (.move (.t rfl)) <| Ax rfl hb20 (.move (.t rfl)) <| Ax rfl hb20 (.geI (.t rfl) (.t rfl)) <| Ao rfl (.pickF (.t rfl) hb20 (.t rfl)) <| An <| W.cD hm (.t rfl) (fun hp24 hm => ?_) (fun hp24 hm => ?_)
       ·refine Aw <| Ao rfl (.assign (.nil (t := tS))) <| Ao rfl (.assign .bool) <| WL.ns ?_
        have hr25 := Si hm
        clear hm
        subst hr25
        have hm := hk5
        try dsimp only at hm
        have hr := Si hm
        clear hm
        subst hr
        exact W.ret2 () rfl rfl (.t rfl) (.t rfl) trivial
       ·exact W.skip <| Aq <| W.region <| Am rfl rfl <| Ag rfl rfl <| WL.nil <| WN.block <| WN.again n6 (out, back) (Nat.lt_succ_self n6) hm ⟨Ent.o rfl, .q rfl, .q rfl, trivial⟩ trivial
   ·refine W.exit rfl ?_
    have hr26 := Si hm
    clear hm
    subst hr26
    have hm := hk5
    try dsimp only at hm
    refine Aq <| Aw <| WL.opR rfl (OpR.buildSlice (n := 0) (ys := []) (z := ([] : Str)) (xs := ([] : List Str)) 64 U26 el9 ze9 trivial (by simp) (by decide) rfl) fun k2 => Ag rfl rfl <| WL.nil <| WN.weakR (res' := [(64, Dec.Own tS 9 k2 ([] : List Str).length)]) ⟨rfl, rfl, trivial⟩ <| WN.rekey (res' := [(12, Dec.Own tS 9 k2 ([] : List Str).length)]) rfl <| Aq <| Aw <| WL.opR rfl (OpR.buildSlice (n := 0) (ys := []) (z := ([] : Str)) (xs := ([] : List Str)) 65 U26 el9 ze9 trivial (by simp) (by decide) rfl) fun k3 => Ao rfl (.assign (.str rfl (by decide))) <| Ao rfl (.assign .i64) <| Ag rfl rfl <| WL.nil <| WN.weakR (res' := [(12, Dec.Own tS 9 k2 ([] : List Str).length), (65, Dec.Own tS 9 k3 ([] : List Str).length)]) ⟨rfl, rfl, ⟨rfl, rfl, trivial⟩⟩ <| WN.rekey (res' := [(12, Dec.Own tS 9 k2 ([] : List Str).length), (15, Dec.Own tS 9 k3 ([] : List Str).length)]) rfl ?_
    refine Aq <| W.seq <| Aw <| Ao rfl (.assign .i64) <| An <| W.block ?_
    obtain ⟨s27, hs28, hk29⟩ := Bs hm
    clear hm
    refine W.loop (fun m (s : ((List Str) × Str × Int × (List Str) × Int) × (Tok × Tok)) => M.r14_Way_loop2 pages way m s.1.1 s.1.2.1 s.1.2.2.1 s.1.2.2.2.1 s.1.2.2.2.2 = some s27) (fun s => [(12, (tO tS s.2.1 s.1.1)), (13, (tS.is s.1.2.1)), (14, (I6.is s.1.2.2.1)), (15, (tO tS s.2.2 s.1.2.2.2.1)), (16, (I6.is s.1.2.2.2.2)), (0, ((tL tS).is pages)), (6, ((tL I6).is way))]) (fun s => [(12, Dec.Own tS 9 s.2.1 s.1.1.length), (15, Dec.Own tS 9 s.2.2 s.1.2.2.2.1.length)]) _ ((([] : List Str), ([] : Str), (-1 : Int), ([] : List Str), (0 : Int)), (k2, k3)) hs28 ⟨.q rfl, .q rfl, .q rfl, .q rfl, .q rfl, .q rfl, .q rfl, trivial⟩ ⟨rfl, rfl, ⟨rfl, rfl, trivial⟩⟩ ?_
    rintro n30 ⟨⟨out1, sum, ahead, text, i⟩, ⟨k4, k5⟩⟩ hm
    try dsimp only at hm
    change W _ _ _ _ _ _ _ [(12, (tO tS k4 out1)), (13, (tS.is sum)), (14, (I6.is ahead)), (15, (tO tS k5 text)), (16, (I6.is i)), (0, ((tL tS).is pages)), (6, ((tL I6).is way))] [(12, Dec.Own tS 9 k4 out1.length), (15, Dec.Own tS 9 k5 text.length)]
    cases n30 with
    | zero => rw [M.r14_Way_loop2.eq_1] at hm; cases hm
    | succ n30 =>
     rw [M.r14_Way_loop2.eq_2] at hm
     refine W.seq <| Aw <| Am rfl rfl <| Am rfl rfl <| Ao rfl (.lenL U64 (.t rfl)) <| Ao rfl (.ltI (.t rfl) (.t rfl)) <| An <| W.cD hm (.t rfl) (fun hp32 hm => ?_) (fun hp32 hm => ?_)
     ·refine W.skip <| Aq <| W.seq <| W.block <| Aw <| Am rfl rfl <| Am rfl rfl <| WL.mv rfl rfl ?_
      obtain ⟨v2, hv33, hm⟩ := Bs hm
      refine Ao rfl (.idx hv33 U64 Z3 (.t rfl) (.t rfl)) <| Ao rfl (.load ty3 (.t rfl)) ?_
      obtain ⟨v3, hv34, hm⟩ := Bs hm
      refine Ao rfl (.idx hv34 U26 Z9 (.t rfl) (.t rfl)) <| Ao rfl (.load ty9 (.t rfl)) ?_
      obtain ⟨words1, hv35, hm⟩ := Bs hm
      refine Ao rfl (.call C28 (r14_words_spec _ _ _ hv35) ⟨(.t rfl), trivial⟩) <| Am rfl rfl <| Ao rfl (.extract30 (.t rfl)) <| Ao rfl (.extract31 (.t rfl)) <| Ao rfl (.extract32 (.t rfl)) <| Ag rfl rfl <| Ag rfl rfl <| Ag rfl rfl <| An <| W.seq ?_
      obtain ⟨s36, hs37, hk38⟩ := Bs hm
      clear hm
      refine W.join (fun s : Bool => s = s36) (fun s => [(93, (tB.is s)), (0, ((tL tS).is pages)), (6, ((tL I6).is way)), (12, (tO tS k4 out1)), (13, (tS.is sum)), (14, (I6.is ahead)), (15, (tO tS k5 text)), (16, (I6.is i)), (17, ((tL tS).is words1.1)), (18, (tS.is words1.2.1))]) (fun s => [(12, Dec.Own tS 9 k4 out1.length), (15, Dec.Own tS 9 k5 text.length)]) ?_ ?_
      ·rintro v4 hj95
       try dsimp only at hj95
       subst hj95
       have hm := hk38
       clear hk38
       try dsimp only at hm
       change W _ _ _ _ _ _ _ [(93, (tB.is v4)), (0, ((tL tS).is pages)), (6, ((tL I6).is way)), (12, (tO tS k4 out1)), (13, (tS.is sum)), (14, (I6.is ahead)), (15, (tO tS k5 text)), (16, (I6.is i)), (17, ((tL tS).is words1.1)), (18, (tS.is words1.2.1))] [(12, Dec.Own tS 9 k4 out1.length), (15, Dec.Own tS 9 k5 text.length)]
       refine W.cB hm (.t rfl) (fun hp44 hm => ?_) (fun hp44 hm => ?_)
       ·refine Aw <| Ao rfl (.assign (.nil (t := tS))) <| Ao rfl (.assign .bool) <| WL.ns ?_
        have hr45 := Si hm
        clear hm
        subst hr45
        have hm := hk29
        try dsimp only at hm
        have hr := Si hm
        clear hm
        subst hr
        exact W.ret2 () rfl rfl (.t rfl) (.t rfl) trivial
       ·refine W.skip <| Aq <| Aw <| Am rfl rfl <| Am rfl rfl <| WL.mv rfl rfl ?_
        obtain ⟨v7, hv46, hm⟩ := Bs hm
        refine Ao rfl (.idx hv46 U26 Z9 (.t rfl) .i64) <| Ao rfl (.load ty9 (.t rfl)) <| WL.mv rfl rfl ?_
        obtain ⟨page, hv47, hm⟩ := Bs hm
        refine Ao rfl (.call C27 (r14_Page_spec _ _ _ _ _ _ hv47) ⟨(.t rfl), (.t rfl), (.t rfl), (.t rfl), trivial⟩) <| Am rfl rfl <| Ao rfl (.extract0 (.t rfl)) <| Ao rfl (.extract1 (.t rfl)) <| Ag rfl rfl <| Ag rfl rfl <| An <| W.seq <| Aw <| Am rfl rfl <| Am rfl rfl <| Am rfl rfl <| WL.mv rfl rfl ?_
        obtain ⟨v8, hv48, hm⟩ := Bs hm
        refine Ao rfl (.idx hv48 U64 Z3 (.t rfl) (.t rfl)) <| Ao rfl (.load ty3 (.t rfl)) ?_
        obtain ⟨v9, hv49, hm⟩ := Bs hm
        refine Ao rfl (.idx hv49 U26 Z9 (.t rfl) (.t rfl)) <| Ao rfl (.load ty9 (.t rfl)) <| Ao rfl (.neS (.t rfl) (.t rfl)) <| An <| W.cB hm (.t rfl) (fun hp51 hm => ?_) (fun hp51 hm => ?_)
        ·refine Aw <| Ao rfl (.assign (.nil (t := tS))) <| Ao rfl (.assign .bool) <| WL.ns ?_
         have hr52 := Si hm
         clear hm
         subst hr52
         have hm := hk29
         try dsimp only at hm
         have hr := Si hm
         clear hm
         subst hr
         exact W.ret2 () rfl rfl (.t rfl) (.t rfl) trivial
        ·refine W.skip <| Aq <| Aw <| Am rfl rfl <| WL.mv rfl rfl ?_
         obtain ⟨v10, hv53, hm⟩ := Bs hm
         refine Ao rfl (.idx hv53 U64 Z3 (.t rfl) (.t rfl)) <| Ao rfl (.load ty3 (.t rfl)) <| Am rfl rfl <| Ag rfl rfl <| Ag rfl rfl <| Ar <| Am rfl rfl <| Am rfl rfl <| Ao rfl (.buildSlice (n := 1) (ys := [(0, words1.2.1)]) (z := ([] : Str)) (xs := [words1.2.1]) U26 el9 ze9 ⟨rfl, (.t rfl), trivial⟩ (by simp) (by decide) rfl) ?_
         obtain ⟨text1, hv54, hm⟩ := Bs hm
         refine WL.opR rfl (OpR.appC (key := 15) hv54 U26 el9 (.t rfl) (.t rfl) rfl) fun k6 => Ag rfl rfl <| An <| W.seq <| Aw <| WL.mv rfl rfl ?_
         obtain ⟨v11, hv55, hm⟩ := Bs hm
         refine Ao rfl (.idx hv55 U26 Z9 (.t rfl) .i64) <| Ao rfl (.load ty9 (.t rfl)) <| Ao rfl (.eqS (.t rfl) (.str rfl (by decide))) <| An <| W.cB hm (.t rfl) (fun hp57 hm => ?_) (fun hp57 hm => ?_)
         ·exact W.exit rfl <| Aq <| W.region <| Am rfl rfl <| WL.lenL (s := 6) (.t rfl) fun hl58 => Ao rfl (.addI1 (.t rfl) .i64 hp32 hl58) <| Ag rfl rfl <| WL.nil <| WN.again n30 ((out1, page.2, v10, text1, i + 1), (k4, k6)) (Nat.lt_succ_self n30) hm ⟨.q rfl, .q rfl, .q rfl, .q rfl, .q rfl, .q rfl, .q rfl, trivial⟩ ⟨rfl, rfl, ⟨rfl, rfl, trivial⟩⟩
         ·refine W.skip <| Aq <| Aw <| Ao rfl (.assign (.str rfl (by decide))) <| An <| W.seq <| Aw <| Ao rfl (.assign .i64) <| An <| W.block ?_
          obtain ⟨s59, hs60, hk61⟩ := Bs hm
          clear hm
          refine W.loop (fun m (s : Str × Int) => M.r14_Way_loop3 text1 m s.1 s.2 = some s59) (fun s => [(22, (tS.is s.1)), (23, (I6.is s.2)), (0, ((tL tS).is pages)), (6, ((tL I6).is way)), (12, (tO tS k4 out1)), (13, (tS.is page.2)), (14, (I6.is v10)), (15, (tO tS k6 text1)), (16, (I6.is i))]) (fun s => [(12, Dec.Own tS 9 k4 out1.length), (15, Dec.Own tS 9 k6 text1.length)]) _ (([] : Str), (0 : Int)) hs60 ⟨.q rfl, .q rfl, .q rfl, .q rfl, .q rfl, .q rfl, .q rfl, .q rfl, .q rfl, trivial⟩ ⟨rfl, rfl, ⟨rfl, rfl, trivial⟩⟩ ?_
          rintro n62 ⟨whole, k7⟩ hm
          try dsimp only at hm
          change W _ _ _ _ _ _ _ [(22, (tS.is whole)), (23, (I6.is k7)), (0, ((tL tS).is pages)), (6, ((tL I6).is way)), (12, (tO tS k4 out1)), (13, (tS.is page.2)), (14, (I6.is v10)), (15, (tO tS k6 text1)), (16, (I6.is i))] [(12, Dec.Own tS 9 k4 out1.length), (15, Dec.Own tS 9 k6 text1.length)]
          cases n62 with
          | zero => rw [M.r14_Way_loop3.eq_1] at hm; cases hm
          | succ n62 =>
           rw [M.r14_Way_loop3.eq_2] at hm
           refine W.seq <| Aw <| Am rfl rfl <| Am rfl rfl <| Ao rfl (.lenL U26 (Opd.own (.t rfl))) <| Ao rfl (.ltI (.t rfl) (.t rfl)) <| An <| W.cD hm (.t rfl) (fun hp64 hm => ?_) (fun hp64 hm => ?_)
           ·refine W.skip <| Aq <| W.seq <| W.block <| W.region <| Am rfl rfl <| Am rfl rfl <| WL.mv rfl rfl ?_
            obtain ⟨v12, hv65, hm⟩ := Bs hm
            refine Ao rfl (.idx hv65 U26 Z9 (Opd.own (.t rfl)) (.t rfl)) <| Ao rfl (.load ty9 (.t rfl)) ?_
            obtain ⟨v13, hv66, hm⟩ := Bs hm
            exact Ao rfl (.catC hv66 (.t rfl) (.t rfl)) <| Ag rfl rfl <| WL.nil <| WN.block <| Aq <| W.region <| Am rfl rfl <| WL.lenL (s := 15) (Opd.own (.t rfl)) fun hl67 => Ao rfl (.addI1 (.t rfl) .i64 hp64 hl67) <| Ag rfl rfl <| WL.nil <| WN.again n62 (v13, k7 + 1) (Nat.lt_succ_self n62) hm ⟨.q rfl, .q rfl, .q rfl, .q rfl, .q rfl, .q rfl, .q rfl, .q rfl, .q rfl, trivial⟩ ⟨rfl, rfl, ⟨rfl, rfl, trivial⟩⟩
           ·refine W.exit rfl ?_
            have hr68 := Si hm
            clear hm
            subst hr68
            have hm := hk61
            try dsimp only at hm
            refine Aq <| Aw <| WL.mv rfl rfl ?_
            obtain ⟨cut, hv69, hm⟩ := Bs hm
            refine Ao rfl (.call C26 (r14_Cut_spec _ _ _ hv69) ⟨(.t rfl), trivial⟩) <| Ag rfl rfl <| An <| W.seq ?_
            obtain ⟨s70, hs71, hk72⟩ := Bs hm
            clear hm
            refine W.join (fun s : Bool => s = s70) (fun s => [(149, (tB.is s)), (0, ((tL tS).is pages)), (6, ((tL I6).is way)), (12, (tO tS k4 out1)), (13, (tS.is page.2)), (14, (I6.is v10)), (15, (tO tS k6 text1)), (16, (I6.is i)), (22, (tS.is whole)), (24, ((tL tS).is cut))]) (fun s => [(12, Dec.Own tS 9 k4 out1.length), (15, Dec.Own tS 9 k6 text1.length)]) ?_ ?_
            ·rintro v14 hj94
             try dsimp only at hj94
             subst hj94
             have hm := hk72
             clear hk72
             try dsimp only at hm
             change W _ _ _ _ _ _ _ [(149, (tB.is v14)), (0, ((tL tS).is pages)), (6, ((tL I6).is way)), (12, (tO tS k4 out1)), (13, (tS.is page.2)), (14, (I6.is v10)), (15, (tO tS k6 text1)), (16, (I6.is i)), (22, (tS.is whole)), (24, ((tL tS).is cut))] [(12, Dec.Own tS 9 k4 out1.length), (15, Dec.Own tS 9 k6 text1.length)]
             refine W.cB hm (.t rfl) (fun hp76 hm => ?_) (fun hp76 hm => ?_)
             ·refine Aw <| Ao rfl (.assign (.nil (t := tS))) <| Ao rfl (.assign .bool) <| WL.ns ?_
              have hr77 := Si hm
              clear hm
              subst hr77
              have hm := hk29
              try dsimp only at hm
              have hr := Si hm
              clear hm
              subst hr
              exact W.ret2 () rfl rfl (.t rfl) (.t rfl) trivial
             ·refine W.skip <| Aq <| W.seq <| Aw <| Ao rfl (.assign .i64) <| An <| W.block ?_
              obtain ⟨s78, hs79, hk80⟩ := Bs hm
              clear hm
              refine W.loop (fun m (s : Int) => M.r14_Way_loop4 text1 cut m s = some s78) (fun s => [(25, (I6.is s)), (0, ((tL tS).is pages)), (6, ((tL I6).is way)), (12, (tO tS k4 out1)), (13, (tS.is page.2)), (14, (I6.is v10)), (15, (tO tS k6 text1)), (16, (I6.is i)), (22, (tS.is whole)), (24, ((tL tS).is cut))]) (fun s => [(12, Dec.Own tS 9 k4 out1.length), (15, Dec.Own tS 9 k6 text1.length)]) _ (0 : Int) hs79 ⟨.q rfl, .q rfl, .q rfl, .q rfl, .q rfl, .q rfl, .q rfl, .q rfl, .q rfl, .q rfl, trivial⟩ ⟨rfl, rfl, ⟨rfl, rfl, trivial⟩⟩ ?_
              rintro n81 k8 hm
              try dsimp only at hm
              change W _ _ _ _ _ _ _ [(25, (I6.is k8)), (0, ((tL tS).is pages)), (6, ((tL I6).is way)), (12, (tO tS k4 out1)), (13, (tS.is page.2)), (14, (I6.is v10)), (15, (tO tS k6 text1)), (16, (I6.is i)), (22, (tS.is whole)), (24, ((tL tS).is cut))] [(12, Dec.Own tS 9 k4 out1.length), (15, Dec.Own tS 9 k6 text1.length)]
              cases n81 with
              | zero => rw [M.r14_Way_loop4.eq_1] at hm; cases hm
              | succ n81 =>
               rw [M.r14_Way_loop4.eq_2] at hm
               refine W.seq <| Aw <| Am rfl rfl <| Am rfl rfl <| Ao rfl (.lenL U26 (.t rfl)) <| Ao rfl (.ltI (.t rfl) (.t rfl)) <| An <| W.cD hm (.t rfl) (fun hp83 hm => ?_) (fun hp83 hm => ?_)
               ·refine W.skip <| Aq <| W.seq <| W.block <| W.seq ?_
                obtain ⟨v15, hv84, hm⟩ := Bs hm
                obtain ⟨v16, hv85, hm⟩ := Bs hm
                refine W.draw [.c _, .c _, .c _, .c _, .c _, .c _, .c _, .c _, .c _] [([], [24]), ([], [25]), ([0, 1], []), ([2], []), ([], [15]), ([], [25]), ([4, 5], []), ([6], []), ([3, 7], [])] Mx rfl rfl rfl rfl ⟨Dn (.move (.t rfl)), Dn (.move (.t rfl)), Dn (.idx hv84 U26 Z9 (.t rfl) (.t rfl)), Dn (.load ty9 (.t rfl)), Dn (.move (.t rfl)), Dn (.move (.t rfl)), Dn (.idx hv85 U26 Z9 (Opd.own (.t rfl)) (.t rfl)), Dn (.load ty9 (.t rfl)), Dn (.neS (.t rfl) (.t rfl)), trivial⟩ <| Aq <| W.cB hm (.t rfl) (fun hp87 hm => ?_) (fun hp87 hm => ?_)
                ·refine Aw <| Ao rfl (.assign (.nil (t := tS))) <| Ao rfl (.assign .bool) <| WL.ns ?_
                 have hr88 := Si hm
                 clear hm
                 subst hr88
                 have hm := hk80
                 try dsimp only at hm
                 have hr89 := Si hm
                 clear hm
                 subst hr89
                 have hm := hk29
                 try dsimp only at hm
                 have hr := Si hm
                 clear hm
                 subst hr
                 exact W.ret2 () rfl rfl (.t rfl) (.t rfl) trivial
                ·exact W.skip <| WN.block <| Aq <| W.region <| Am rfl rfl <| WL.lenL (s := 24) (.t rfl) fun hl90 => Ao rfl (.addI1 (.t rfl) .i64 hp83 hl90) <| Ag rfl rfl <| WL.nil <| WN.again n81 (k8 + 1) (Nat.lt_succ_self n81) hm ⟨.q rfl, .q rfl, .q rfl, .q rfl, .q rfl, .q rfl, .q rfl, .q rfl, .q rfl, .q rfl, trivial⟩ ⟨rfl, rfl, ⟨rfl, rfl, trivial⟩⟩
               ·refine W.exit rfl ?_
                have hr91 := Si hm
                clear hm
                subst hr91
                have hm := hk80
                try dsimp only at hm
                refine Aq <| Aw <| Am rfl rfl <| Am rfl rfl <| Ao rfl (.buildSlice (n := 1) (ys := [(0, whole)]) (z := ([] : Str)) (xs := [whole]) U26 el9 ze9 ⟨rfl, (.t rfl), trivial⟩ (by simp) (by decide) rfl) ?_
                obtain ⟨out2, hv92, hm⟩ := Bs hm
                refine WL.opR rfl (OpR.appC (key := 12) hv92 U26 el9 (.t rfl) (.t rfl) rfl) fun k9 => Ag rfl rfl <| WL.nr1 <| WL.addNil (t := tS) (E := 9) 15 <| Ao rfl (.assign (Opd.nilO (t := tS))) <| WL.nil <| WN.block <| Aq <| W.region <| WL.mv rfl rfl ?_
                obtain ⟨v17, hv93, hm⟩ := Bs hm
                exact Ao rfl (.addC hv93 (.t rfl) .i64) <| Ag rfl rfl <| WL.nil <| WN.again n30 ((out2, page.2, v10, ([] : List Str), v17), (k9, (none : Tok))) (Nat.lt_succ_self n30) hm ⟨.q rfl, .q rfl, .q rfl, .q rfl, .q rfl, .q rfl, .q rfl, trivial⟩ ⟨rfl, rfl, ⟨rfl, rfl, trivial⟩⟩
            ·have hm := hs71
             clear hs71
             refine W.region <| Am rfl rfl <| Ao rfl (.lenL U26 (.t rfl)) <| Am rfl rfl <| Ao rfl (.lenL U26 (Opd.own (.t rfl))) <| Ao rfl (.neI (.t rfl) (.t rfl)) <| WL.mv rfl rfl ?_
             rcases iteD hm with ⟨hp74, hb73, hm⟩ | ⟨hp74, hb73, hm⟩
             ·exact Ap rfl hb73 <| Ap rfl hb73 <| Ap rfl hb73 <| Ao rfl (.pickT (.t rfl) hb73 .bool) <| WL.nil <| WN.meet true (Si hm) ⟨.q rfl, .q rfl, .q rfl, .q rfl, .q rfl, .q rfl, .q rfl, .q rfl, .q rfl, .q rfl, trivial⟩ ⟨rfl, rfl, ⟨rfl, rfl, trivial⟩⟩
             ·exact Ax rfl hb73 (.move (.t rfl)) <| Ax rfl hb73 (.lenL U26 (.t rfl)) <| Ax rfl hb73 (.gtI (.t rfl) .i64) <| Ao rfl (.pickF (.t rfl) hb73 (.t rfl)) <| WL.nil <| WN.meet (decide ((16 : Int) < (cut.length : Int))) (Si hm) ⟨.q rfl, .q rfl, .q rfl, .q rfl, .q rfl, .q rfl, .q rfl, .q rfl, .q rfl, .q rfl, trivial⟩ ⟨rfl, rfl, ⟨rfl, rfl, trivial⟩⟩
      ·have hm := hs37
       clear hs37
       refine W.region <| WL.mv rfl rfl ?_
       obtain ⟨v5, hv39, hm⟩ := Bs hm
       refine Ao rfl (.idx hv39 U26 Z9 (.t rfl) .i64) <| Ao rfl (.load ty9 (.t rfl)) <| Ao rfl (.neS (.t rfl) (.str rfl (by decide))) <| WL.mv rfl rfl ?_
       rcases iteB hm with ⟨hp41, hb40, hm⟩ | ⟨hp41, hb40, hm⟩
       ·refine Ax rfl hb40 (.move (.t rfl)) ?_
        obtain ⟨v6, hv42, hm⟩ := Bs hm
        exact Ax rfl hb40 (.idx hv42 U26 Z9 (.t rfl) .i64) <| Ax rfl hb40 (.load ty9 (.t rfl)) <| Ax rfl hb40 (.neS (.t rfl) (.str rfl (by decide))) <| Ao rfl (.pickT (.t rfl) hb40 (.t rfl)) <| WL.nil <| WN.meet (v6 != ([46] : Str)) (Si hm) ⟨.q rfl, .q rfl, .q rfl, .q rfl, .q rfl, .q rfl, .q rfl, .q rfl, .q rfl, .q rfl, trivial⟩ ⟨rfl, rfl, ⟨rfl, rfl, trivial⟩⟩
       ·exact Ap rfl hb40 <| Ap rfl hb40 <| Ap rfl hb40 <| Ap rfl hb40 <| Ao rfl (.pickF (.t rfl) hb40 .bool) <| WL.nil <| WN.meet false (Si hm) ⟨.q rfl, .q rfl, .q rfl, .q rfl, .q rfl, .q rfl, .q rfl, .q rfl, .q rfl, .q rfl, trivial⟩ ⟨rfl, rfl, ⟨rfl, rfl, trivial⟩⟩
     ·refine W.exit rfl ?_
      have hr96 := Si hm
      clear hm
      subst hr96
      have hm := hk29
      try dsimp only at hm
      refine Aq <| Aw <| Am rfl rfl <| Am rfl rfl <| Ao rfl (.lenL U26 (Opd.own (.t rfl))) <| Ao rfl (.eqI (.t rfl) .i64) <| Ag rfl rfl <| Ag rfl rfl <| WL.ns ?_
      have hr := Si hm
      clear hm
      subst hr
      exact W.ret2 () rfl rfl (Opd.own (.t rfl)) (.t rfl) trivial
theorem law14_laid_spec (n : Nat) (pages : List Str) (root : Int) (r : Option pagestore_Store) (hm : M.law14_laid n pages root = some r) : FSpecR Tryz.prog 13 [((tL tS).is pages), (I6.is root)] [] (fun kx : Nat × Tok => (ObP kx r)) (fun kx : Nat × Tok => [(88888, ObR tpagestore_Store_k0 56 tS 9 (fun x : pagestore_Store => x.pages_) kx r)]) := by
 unfold M.law14_laid at hm
 refine FSpecR.of Tryz.func13 rfl rfl rfl fun g0 => Aw <| Ao rfl (.assign (show Opd _ (Operand.const (Value.pointer none)) (Asn.eq (Value.pointer none)) from fun _ _ _ => rfl)) <| WL.nr ?_
 obtain ⟨new, hv1, hm⟩ := Bs hm
 refine WL.weakR (res' := []) trivial <| WL.opR rfl (OpR.call (us := []) (A := fun kx : Nat × Tok => (ObP kx new)) C8 (FSpecR.keys (rin' := []) (out' := fun kx : Nat × Tok => [(9, ObR tpagestore_Store_k0 56 tS 9 (fun x : pagestore_Store => x.pages_) kx new)]) (pagestore_New_spec _ hv1) rfl (fun _ => rfl)) rfl trivial) fun k => Ag rfl rfl <| An <| W.seq <| Aw <| Ao rfl (.assign .i64) <| An <| W.block ?_
 obtain ⟨s0_, hv2, hm⟩ := Bs hm
 refine W.obOpen (t := tpagestore_Store_k0) (T := 56) (te := tS) (E := 9) (f := (fun x : pagestore_Store => x.pages_)) (c := k) (u := s0_) (o := new) (key := 9) 5 9 1000009 hv2 rfl rfl <| W.chg (fun _ _ h => h.slotA (s := 9) rfl (fun _ _ => ObP.some hv2)) ?_
 obtain ⟨s3, hs4, hk5⟩ := Bs hm
 clear hm
 refine W.loop (fun m (s : (Int × pagestore_Store) × Tok) => M.law14_laid_loop1 pages m s.1.1 s.1.2 = some s3) (fun s => [(6, (I6.is s.1.1)), (0, ((tL tS).is pages)), (1, (I6.is root)), (5, (Bp (k).1 0))]) (fun s => [(1000009, Dec.Own tS 9 s.2 s.1.2.pages_.length), (9, (Bx 5 true 56 ((tpagestore_Store_k0 s.2).is s.1.2) (k).1))]) _ (((0 : Int), s0_), (k).2) hs4 ⟨.q rfl, .q rfl, .q rfl, .q rfl, trivial⟩ ⟨rfl, rfl, ⟨rfl, rfl, trivial⟩⟩ ?_
 rintro n6 ⟨⟨i, v⟩, k1⟩ hm
 try dsimp only at hm
 change W _ _ _ _ _ _ _ [(6, (I6.is i)), (0, ((tL tS).is pages)), (1, (I6.is root)), (5, (Bp (k).1 0))] [(1000009, Dec.Own tS 9 k1 v.pages_.length), (9, (Bx 5 true 56 ((tpagestore_Store_k0 k1).is v) (k).1))]
 cases n6 with
 | zero => rw [M.law14_laid_loop1.eq_1] at hm; cases hm
 | succ n6 =>
  rw [M.law14_laid_loop1.eq_2] at hm
  refine W.seq <| Aw <| Am rfl rfl <| Am rfl rfl <| Ao rfl (.lenL U26 (.t rfl)) <| Ao rfl (.ltI (.t rfl) (.t rfl)) <| An <| W.cD hm (.t rfl) (fun hp8 hm => ?_) (fun hp8 hm => ?_)
  ·refine W.skip <| Aq <| W.seq <| W.block <| Aw <| Am rfl rfl <| Am rfl rfl <| WL.mv rfl rfl ?_
   obtain ⟨v1, hv9, hm⟩ := Bs hm
   refine Ao rfl (.idx hv9 U26 Z9 (.t rfl) (.t rfl)) <| Ao rfl (.load ty9 (.t rfl)) ?_
   obtain ⟨⟨append, w⟩, hv10, hm⟩ := Bs hm
   dsimp only at hm
   refine WL.weakR (res' := [(9, (Bx 5 true 56 ((tpagestore_Store_k0 k1).is v) (k).1)), (1000009, Dec.Own tS 9 k1 v.pages_.length)]) ⟨rfl, rfl, ⟨rfl, rfl, trivial⟩⟩ <| WL.opR rfl (OpR.call (us := [9, 1000009]) (A := fun kx : Tok => (Asn.tuple2 (I6.is append.1) (I6.is append.2))) C30 (FSpecR.keys (rin' := [(9, (Bx 5 true 56 ((tpagestore_Store_k0 k1).is v) (k).1)), (1000009, Dec.Own tS 9 k1 v.pages_.length)]) (out' := fun kx : Tok => [(9, (Bx 5 true 56 ((tpagestore_Store_k0 kx).is w) (k).1)), (1000009, Dec.Own tS 9 kx w.pages_.length)]) (pagestore_Store_Append_spec _ _ _ _ _ hv10) rfl (fun _ => rfl)) rfl ⟨(.t rfl), (.t rfl), trivial⟩) fun k2 => Am rfl rfl <| Ao rfl (.extract0 (.t rfl)) <| Ao rfl (.extract1 (.t rfl)) <| Ag rfl rfl <| Ag rfl rfl <| Ar <| Am rfl rfl <| Ao rfl (.neI (.t rfl) .i64) <| An <| W.cD hm (.t rfl) (fun hp12 hm => ?_) (fun hp12 hm => ?_)
   ·refine Aw <| Ao rfl (.assign (show Opd _ (Operand.const (Value.pointer none)) (Asn.eq (Value.pointer none)) from fun _ _ _ => rfl)) <| WL.ns ?_
    have hr13 := Si hm
    clear hm
    subst hr13
    have hm := hk5
    try dsimp only at hm
    have hr := Si hm
    clear hm
    subst hr
    exact W.obNil tpagestore_Store_k0 56 tS 9 (fun x : pagestore_Store => x.pages_) (0, none) 4 88888 rfl <| W.ret1 ((0, none) : Nat × Tok) rfl (.t rfl) ⟨rfl, rfl, trivial⟩
   ·exact W.skip <| WN.block <| Aq <| W.region <| Am rfl rfl <| WL.lenL (s := 0) (.t rfl) fun hl14 => Ao rfl (.addI1 (.t rfl) .i64 hp8 hl14) <| Ag rfl rfl <| WL.nil <| WN.again n6 ((i + 1, w), k2) (Nat.lt_succ_self n6) hm ⟨.q rfl, .q rfl, .q rfl, .q rfl, trivial⟩ ⟨rfl, rfl, ⟨rfl, rfl, trivial⟩⟩
  ·refine W.exit rfl ?_
   have hr15 := Si hm
   clear hm
   subst hr15
   have hm := hk5
   try dsimp only at hm
   refine Aq <| W.seq <| Aw <| Am rfl rfl <| Ao rfl (.geI (.t rfl) .i64) <| WL.mv rfl rfl ?_
   rcases iteD hm with ⟨hp17, hb16, hm⟩ | ⟨hp17, hb16, hm⟩
   ·refine Ax rfl hb16 (.move (.t rfl)) <| Ax rfl hb16 (.move (.t rfl)) ?_
    obtain ⟨⟨setroo, w1⟩, hv18, hm⟩ := Bs hm
    dsimp only at hm
    refine WL.weakR (res' := [(9, (Bx 5 true 56 ((tpagestore_Store_k0 k1).is v) (k).1)), (1000009, Dec.Own tS 9 k1 v.pages_.length)]) ⟨rfl, rfl, ⟨rfl, rfl, trivial⟩⟩ <| WL.runR rfl rfl rfl rfl hb16 rfl rfl (OpR.call (us := [9, 1000009]) (A := fun kx : Tok => (I6.is setroo)) C31 (FSpecR.keys (rin' := [(9, (Bx 5 true 56 ((tpagestore_Store_k0 k1).is v) (k).1)), (1000009, Dec.Own tS 9 k1 v.pages_.length)]) (out' := fun kx : Tok => [(9, (Bx 5 true 56 ((tpagestore_Store_k0 kx).is w1) (k).1)), (1000009, Dec.Own tS 9 kx w1.pages_.length)]) (pagestore_Store_SetRoot_spec _ _ _ _ _ hv18) rfl (fun _ => rfl)) rfl ⟨(.t rfl), (.t rfl), trivial⟩) fun k3 => Ax rfl hb16 (.neI (.t rfl) .i64) <| Ao rfl (.pickT (.t rfl) hb16 (.t rfl)) <| An <| W.cD hm (.t rfl) (fun hp20 hm => ?_) (fun hp20 hm => ?_)
    ·refine Aw <| Ao rfl (.assign (show Opd _ (Operand.const (Value.pointer none)) (Asn.eq (Value.pointer none)) from fun _ _ _ => rfl)) <| WL.ns ?_
     have hr := Si hm
     clear hm
     subst hr
     exact W.obNil tpagestore_Store_k0 56 tS 9 (fun x : pagestore_Store => x.pages_) (0, none) 4 88888 rfl <| W.ret1 ((0, none) : Nat × Tok) rfl (.t rfl) ⟨rfl, rfl, trivial⟩
    ·refine W.skip <| Aq <| Aw <| Am rfl rfl <| Ag rfl rfl <| WL.ns ?_
     have hr := Si hm
     clear hm
     subst hr
     exact W.obClose (k1 := 9) (k2 := 1000009) tpagestore_Store_k0 tS (fun x : pagestore_Store => x.pages_) ((k).1, k3) w1 4 88888 rfl rfl (by decide) rfl <| W.ret1 ((k).1, k3) rfl (.t rfl) ⟨rfl, rfl, trivial⟩
   ·refine Ap rfl hb16 <| Ap rfl hb16 <| Ap rfl hb16 <| Ap rfl hb16 <| Ao rfl (.pickF (.t rfl) hb16 .bool) <| An <| W.condF (.t rfl) <| W.skip <| Aq <| Aw <| Am rfl rfl <| Ag rfl rfl <| WL.ns ?_
    have hr := Si hm
    clear hm
    subst hr
    exact W.obClose (k1 := 9) (k2 := 1000009) tpagestore_Store_k0 tS (fun x : pagestore_Store => x.pages_) ((k).1, k1) v 4 88888 rfl rfl (by decide) rfl <| W.ret1 ((k).1, k1) rfl (.t rfl) ⟨rfl, rfl, trivial⟩
theorem journal_Verify_spec (n : Nat) (s0_ : pagestore_Store) (b : Nat) (k : Tok) (r : Int × Int) (hm : M.journal_Verify n s0_ = some r) : FSpecR Tryz.prog 15 [(Bp b 0)] [(0, (Bx 5 true 56 ((tpagestore_Store_k0 k).is s0_) b)), (1000000, Dec.Own tS 9 k s0_.pages_.length), (700000, GlE 0), (700001, GlI 1), (700002, GlI 2), (700003, GlT Tryz.prog "internal/strconv.uint64pow10" .u64 Lib.pow10Tab), (700007, Gl (tA 64 (tI .u8)) 7 gv7)] (fun kx : Unit => (Asn.tuple2 (I6.is r.1) (I6.is r.2))) (fun kx : Unit => [(0, (Bx 5 true 56 ((tpagestore_Store_k0 k).is s0_) b)), (1000000, Dec.Own tS 9 k s0_.pages_.length), (700000, GlE 0), (700001, GlI 1), (700002, GlI 2), (700003, GlT Tryz.prog "internal/strconv.uint64pow10" .u64 Lib.pow10Tab), (700007, Gl (tA 64 (tI .u8)) 7 gv7)]) := by
 unfold M.journal_Verify at hm
 refine FSpecR.of Tryz.func15 rfl rfl rfl fun g0 => Aw <| Ao rfl (.assign .i64) <| Ao rfl (.assign .i64) <| Ar <| WL.mv rfl rfl ?_
 obtain ⟨load, hv1, hm⟩ := Bs hm
 refine WL.weakR (res' := [(0, (Bx 5 true 56 ((tpagestore_Store_k0 k).is s0_) b)), (1000000, Dec.Own tS 9 k s0_.pages_.length), (700000, GlE 0), (700001, GlI 1), (700002, GlI 2), (700003, GlT Tryz.prog "internal/strconv.uint64pow10" .u64 Lib.pow10Tab), (700007, Gl (tA 64 (tI .u8)) 7 gv7)]) ⟨rfl, rfl, ⟨rfl, rfl, ⟨rfl, rfl, ⟨rfl, rfl, ⟨rfl, rfl, ⟨rfl, rfl, ⟨rfl, rfl, trivial⟩⟩⟩⟩⟩⟩⟩ <| WL.opR rfl (OpR.call (us := [0, 1000000, 700000, 700001, 700002, 700003, 700007]) (A := fun kx : Tok => (Asn.tuple3 (tO tS kx load.1) (tjournal_mark.is load.2.1) (I6.is load.2.2))) C32 (FSpecR.keys (rin' := [(0, (Bx 5 true 56 ((tpagestore_Store_k0 k).is s0_) b)), (1000000, Dec.Own tS 9 k s0_.pages_.length), (700000, GlE 0), (700001, GlI 1), (700002, GlI 2), (700003, GlT Tryz.prog "internal/strconv.uint64pow10" .u64 Lib.pow10Tab), (700007, Gl (tA 64 (tI .u8)) 7 gv7)]) (out' := fun kx : Tok => [(0, (Bx 5 true 56 ((tpagestore_Store_k0 k).is s0_) b)), (1000000, Dec.Own tS 9 k s0_.pages_.length), (700000, GlE 0), (700001, GlI 1), (700002, GlI 2), (700003, GlT Tryz.prog "internal/strconv.uint64pow10" .u64 Lib.pow10Tab), (700007, Gl (tA 64 (tI .u8)) 7 gv7), (9, Dec.Own tS 9 kx load.1.length)]) (journal_load_spec _ _ _ _ _ hv1) rfl (fun _ => rfl)) rfl ⟨(.t rfl), trivial⟩) fun k1 => Am rfl rfl <| Ao rfl (.extract30 (.t rfl)) <| Ao rfl (.extract31 (.t rfl)) <| Ao rfl (.extract32 (.t rfl)) <| WL.opR rfl (OpR.alloc 5 ze58) fun b1 => Ag rfl rfl <| WL.opU (OpR.storeB (b := b1) 5 Z58 (Cellable.is tjournal_mark load.2.1) rfl (.t rfl) (.t rfl)) fun _ => WL.sealed (t := tjournal_mark) (u := load.2.1) 5 5 rfl rfl <| Ag rfl rfl <| An <| W.seq <| Aw <| Am rfl rfl <| Ao rfl (.neI (.t rfl) .i64) ?_
 refine An <| W.cD hm (.t rfl) (fun hp3 hm => ?_) (fun hp3 hm => ?_)
 ·refine Aw <| Am rfl rfl <| Ao rfl (.assign .i64) <| Ag rfl rfl <| WL.ns ?_
  have hr := Si hm
  clear hm
  subst hr
  exact W.ret2 () rfl rfl (.t rfl) (.t rfl) ⟨rfl, rfl, ⟨rfl, rfl, ⟨rfl, rfl, ⟨rfl, rfl, ⟨rfl, rfl, ⟨rfl, rfl, ⟨rfl, rfl, trivial⟩⟩⟩⟩⟩⟩⟩
 ·refine W.skip <| Aq <| Aw <| Am rfl rfl <| Ao rfl (.lenL U26 (Opd.own (.t rfl))) <| Ag rfl rfl <| Ao rfl (.assign .i64) <| WL.ns ?_
  have hr := Si hm
  clear hm
  subst hr
  exact W.ret2 () rfl rfl (.t rfl) (.t rfl) ⟨rfl, rfl, ⟨rfl, rfl, ⟨rfl, rfl, ⟨rfl, rfl, ⟨rfl, rfl, ⟨rfl, rfl, ⟨rfl, rfl, trivial⟩⟩⟩⟩⟩⟩⟩
theorem law14_JournalCorruption_spec (n : Nat) (l : List Str) (page : Int) (at0_ : Int) (by0_ : Int) (r : Bool) (hm : M.law14_JournalCorruption n l page at0_ by0_ = some r) : FSpecR Tryz.prog 4 [((tL tS).is l), (I6.is page), (I6.is at0_), ((tI .u8).is by0_)] [(700000, GlE 0), (700001, GlI 1), (700002, GlI 2), (700003, GlT Tryz.prog "internal/strconv.uint64pow10" .u64 Lib.pow10Tab), (700007, Gl (tA 64 (tI .u8)) 7 gv7)] (fun _ : Unit => (tB.is r)) (fun _ => []) := by
 unfold M.law14_JournalCorruption at hm
 refine FSpecR.of Tryz.func4 rfl rfl rfl fun g0 => Aw <| Ao rfl (.assign .bool) <| An <| W.seq <| W.sr ?_
 obtain ⟨awake, hv1, hm⟩ := Bs hm
 refine Ao rfl (.callG (rin := [(700000, GlE 0), (700001, GlI 1), (700002, GlI 2), (700003, GlT Tryz.prog "internal/strconv.uint64pow10" .u64 Lib.pow10Tab), (700007, Gl (tA 64 (tI .u8)) 7 gv7)]) C5 (law14_awake_spec _ _ hv1) ⟨rfl, rfl, rfl, rfl, rfl, trivial⟩ ⟨rfl, rfl, ⟨rfl, rfl, ⟨rfl, rfl, ⟨rfl, rfl, ⟨rfl, rfl, trivial⟩⟩⟩⟩⟩ trivial) <| Ao rfl (.notB (.t rfl)) <| An <| W.cR hm (.t rfl) (fun hp3 hm => ?_) (fun hp3 hm => ?_)
 ·refine Aw <| Ao rfl (.assign .bool) <| WL.ns ?_
  have hr := Si hm
  clear hm
  subst hr
  exact W.ret1 () rfl (.t rfl) trivial
 ·refine W.skip <| Aq <| W.seq ?_
  obtain ⟨s4, hs5, hk6⟩ := Bs hm
  clear hm
  refine W.join (fun s : Bool => s = s4) (fun s => [(36, (tB.is s)), (0, ((tL tS).is l)), (1, (I6.is page)), (2, (I6.is at0_)), (3, ((tI .u8).is by0_))]) (fun s => [(700000, GlE 0), (700001, GlI 1), (700002, GlI 2), (700003, GlT Tryz.prog "internal/strconv.uint64pow10" .u64 Lib.pow10Tab), (700007, Gl (tA 64 (tI .u8)) 7 gv7)]) ?_ ?_
  ·rintro v hj58
   try dsimp only at hj58
   subst hj58
   have hm := hk6
   clear hk6
   try dsimp only at hm
   change W _ _ _ _ _ _ _ [(36, (tB.is v)), (0, ((tL tS).is l)), (1, (I6.is page)), (2, (I6.is at0_)), (3, ((tI .u8).is by0_))] [(700000, GlE 0), (700001, GlI 1), (700002, GlI 2), (700003, GlT Tryz.prog "internal/strconv.uint64pow10" .u64 Lib.pow10Tab), (700007, Gl (tA 64 (tI .u8)) 7 gv7)]
   refine W.cB hm (.t rfl) (fun hp13 hm => ?_) (fun hp13 hm => ?_)
   ·refine Aw <| Ao rfl (.assign .bool) <| WL.ns ?_
    have hr := Si hm
    clear hm
    subst hr
    exact W.ret1 () rfl (.t rfl) trivial
   ·refine W.skip <| Aq <| Aw <| WL.opR rfl (OpR.buildSlice (n := 0) (ys := []) (z := ([] : Str)) (xs := ([] : List Str)) 37 U26 el9 ze9 trivial (by simp) (by decide) rfl) fun k => WL.freeU (t := tS) (E := 9) 37 37 rfl rfl <| Ag rfl rfl <| Ao rfl (.assign .i64) <| Ao rfl (.assign (.str rfl (by decide))) <| An <| W.seq <| Aw <| Ao rfl (.assign .i64) <| An <| W.block ?_
    obtain ⟨s14, hs15, hk16⟩ := Bs hm
    clear hm
    refine W.loop (fun m (s : ((List Str) × Int × Str × Int) × Tok) => M.law14_JournalCorruption_loop1 l m s.1.1 s.1.2.1 s.1.2.2.1 s.1.2.2.2 = some s14) (fun s => [(9, (tU s.2 s.1.1.length)), (10, (I6.is s.1.2.1)), (11, (tS.is s.1.2.2.1)), (12, (I6.is s.1.2.2.2)), (0, ((tL tS).is l)), (1, (I6.is page)), (2, (I6.is at0_)), (3, ((tI .u8).is by0_))]) (fun s => [(37, OwnU tS 9 s.2 s.1.1), (700000, GlE 0), (700001, GlI 1), (700002, GlI 2), (700003, GlT Tryz.prog "internal/strconv.uint64pow10" .u64 Lib.pow10Tab), (700007, Gl (tA 64 (tI .u8)) 7 gv7)]) _ ((([] : List Str), (-1 : Int), ([] : Str), (0 : Int)), k) hs15 ⟨.q rfl, .q rfl, .q rfl, .q rfl, .q rfl, .q rfl, .q rfl, .q rfl, trivial⟩ ⟨rfl, rfl, ⟨rfl, rfl, ⟨rfl, rfl, ⟨rfl, rfl, ⟨rfl, rfl, ⟨rfl, rfl, trivial⟩⟩⟩⟩⟩⟩ ?_
    rintro n17 ⟨⟨pages, ahead, sum, i⟩, k1⟩ hm
    try dsimp only at hm
    change W _ _ _ _ _ _ _ [(9, (tU k1 pages.length)), (10, (I6.is ahead)), (11, (tS.is sum)), (12, (I6.is i)), (0, ((tL tS).is l)), (1, (I6.is page)), (2, (I6.is at0_)), (3, ((tI .u8).is by0_))] [(37, OwnU tS 9 k1 pages), (700000, GlE 0), (700001, GlI 1), (700002, GlI 2), (700003, GlT Tryz.prog "internal/strconv.uint64pow10" .u64 Lib.pow10Tab), (700007, Gl (tA 64 (tI .u8)) 7 gv7)]
    cases n17 with
    | zero => rw [M.law14_JournalCorruption_loop1.eq_1] at hm; cases hm
    | succ n17 =>
     rw [M.law14_JournalCorruption_loop1.eq_2] at hm
     refine W.seq <| Aw <| Am rfl rfl <| Am rfl rfl <| Ao rfl (.lenL U26 (.t rfl)) <| Ao rfl (.ltI (.t rfl) (.t rfl)) <| An <| W.cD hm (.t rfl) (fun hp19 hm => ?_) (fun hp19 hm => ?_)
     ·refine W.skip <| Aq <| W.seq <| W.block <| Aw <| Am rfl rfl <| WL.mv rfl rfl ?_
      obtain ⟨v1, hv20, hm⟩ := Bs hm
      refine Ao rfl (.idx hv20 U26 Z9 (.t rfl) (.t rfl)) <| Ao rfl (.load ty9 (.t rfl)) <| Am rfl rfl <| Am rfl rfl <| Am rfl rfl <| Ao rfl (.lenU U26 (.t rfl)) ?_
      obtain ⟨text, hv21, hm⟩ := Bs hm
      refine Ao rfl (.call C11 (r14_Text_spec _ _ _ _ _ _ hv21) ⟨(.t rfl), (.t rfl), (.t rfl), (.t rfl), trivial⟩) <| Am rfl rfl <| Ao rfl (.extract0 (.t rfl)) <| Ao rfl (.extract1 (.t rfl)) <| Ag rfl rfl <| Ag rfl rfl <| Ar <| Am rfl rfl <| WL.mv rfl rfl ?_
      obtain ⟨out, hv22, hm⟩ := Bs hm
      refine WL.opR rfl (OpR.appendU (key := 37) fl9 hv22 U26 el9 rfl (.t rfl) rfl) fun k2 => Ag rfl rfl <| WL.nr1 <| Am rfl rfl <| Ao rfl (.lenU U26 (.t rfl)) ?_
      obtain ⟨v2, hv23, hm⟩ := Bs hm
      exact Ao rfl (.subC hv23 (.t rfl) .i64) <| Am rfl rfl <| Ag rfl rfl <| Ag rfl rfl <| WL.nil <| WN.block <| Aq <| W.region <| Am rfl rfl <| WL.lenL (s := 0) (.t rfl) fun hl24 => Ao rfl (.addI1 (.t rfl) .i64 hp19 hl24) <| Ag rfl rfl <| WL.nil <| WN.again n17 ((out, v2, text.2, i + 1), k2) (Nat.lt_succ_self n17) hm ⟨.q rfl, .q rfl, .q rfl, .q rfl, .q rfl, .q rfl, .q rfl, .q rfl, trivial⟩ ⟨rfl, rfl, ⟨rfl, rfl, ⟨rfl, rfl, ⟨rfl, rfl, ⟨rfl, rfl, ⟨rfl, rfl, trivial⟩⟩⟩⟩⟩⟩
     ·refine W.exit rfl ?_
      have hr25 := Si hm
      clear hm
      subst hr25
      have hm := hk16
      try dsimp only at hm
      refine Aq <| W.seq ?_
      obtain ⟨s26, hs27, hk28⟩ := Bs hm
      clear hm
      refine W.join (fun s : Bool => s = s26) (fun s => [(83, (tB.is s)), (1, (I6.is page)), (2, (I6.is at0_)), (3, ((tI .u8).is by0_)), (9, (tU k1 pages.length))]) (fun s => [(37, OwnU tS 9 k1 pages), (700000, GlE 0), (700001, GlI 1), (700002, GlI 2), (700003, GlT Tryz.prog "internal/strconv.uint64pow10" .u64 Lib.pow10Tab), (700007, Gl (tA 64 (tI .u8)) 7 gv7)]) ?_ ?_
      ·rintro v3 hj57
       try dsimp only at hj57
       subst hj57
       have hm := hk28
       clear hk28
       try dsimp only at hm
       change W _ _ _ _ _ _ _ [(83, (tB.is v3)), (1, (I6.is page)), (2, (I6.is at0_)), (3, ((tI .u8).is by0_)), (9, (tU k1 pages.length))] [(37, OwnU tS 9 k1 pages), (700000, GlE 0), (700001, GlI 1), (700002, GlI 2), (700003, GlT Tryz.prog "internal/strconv.uint64pow10" .u64 Lib.pow10Tab), (700007, Gl (tA 64 (tI .u8)) 7 gv7)]
       refine W.cB hm (.t rfl) (fun hp37 hm => ?_) (fun hp37 hm => ?_)
       ·refine Aw <| Ao rfl (.assign .bool) <| WL.ns ?_
        have hr := Si hm
        clear hm
        subst hr
        exact W.ret1 () rfl (.t rfl) trivial
       ·refine W.skip <| Aq <| Aw <| Am rfl rfl <| WL.mv rfl rfl ?_
        obtain ⟨v5, hv38, hm⟩ := Bs hm
        refine Ao rfl (.idxU (t := tS) hv38 U26 Z9 (.t rfl) (.t rfl)) <| Ao rfl (.loadU 37 hv38 ty9 rfl (.t rfl)) <| WL.opR rfl (OpR.bytesB 88 U9 U38 U5 (.t rfl)) fun k3 => Ag rfl rfl <| Ar <| Am rfl rfl <| Am rfl rfl <| Am rfl rfl <| WL.mv rfl rfl ?_
        obtain ⟨v6, hv39, hm⟩ := Bs hm
        refine Ao rfl (.idxU (t := (tI .u8)) hv39 U38 Z5 (.t rfl) (.t rfl)) <| Ao rfl (.loadOB 88 hv39 ty5 rfl (.t rfl)) <| Am rfl rfl <| Ao rfl (.xor8 (.t rfl) (.t rfl)) ?_
        obtain ⟨v7, hv40, hm⟩ := Bs hm
        refine Ao rfl (.idxU (t := (tI .u8)) hv40 U38 Z5 (.t rfl) (.t rfl)) ?_
        obtain ⟨w, hv41, hm⟩ := Bs hm
        refine WL.opU (OpR.storeBy (key := 88) hv41 ty5 (.t rfl) (.t rfl) rfl) fun _ => WL.nil <| WN.lenU 15 (setC_len hv41) rfl <| WN.lenU 88 (setC_len hv41) rfl <| WN.lenU 89 (setC_len hv41) rfl <| WN.lenU 91 (setC_len hv41) rfl <| Aq <| Aw <| Am rfl rfl <| Am rfl rfl <| Am rfl rfl <| Ao rfl (.strOB 88 U38 U9 U5 rfl (.t rfl)) ?_
        obtain ⟨v8, hv42, hm⟩ := Bs hm
        refine Ao rfl (.idxU (t := tS) hv42 U26 Z9 (.t rfl) (.t rfl)) ?_
        obtain ⟨w1, hv43, hm⟩ := Bs hm
        refine WL.opU (OpR.storeU (key := 37) hv43 ty9 (.t rfl) (.t rfl) rfl) fun _ => WL.nil <| WN.lenU 9 (setC_len hv43) rfl <| WN.lenU 84 (setC_len hv43) rfl <| WN.lenU 98 (setC_len hv43) rfl <| Aq <| W.seq <| Aw <| Am rfl rfl <| Am rfl rfl <| Ao rfl (.lenU U26 (.t rfl)) ?_
        obtain ⟨v9, hv44, hm⟩ := Bs hm
        refine Ao rfl (.subC hv44 (.t rfl) .i64) ?_
        obtain ⟨way, hv45, hm⟩ := Bs hm
        refine WL.fixU 104 37 rfl rfl <| WL.sameU 104 9 rfl rfl <| WL.sameU 104 84 rfl rfl <| WL.sameU 104 98 rfl rfl <| WL.sameU 104 105 rfl rfl <| Ao rfl (.call C12 (r14_Way_spec _ _ _ _ hv45) ⟨(Opd.own (.t rfl)), (.t rfl), trivial⟩) <| Am rfl rfl <| Ao rfl (.extract0 (.t rfl)) <| Ao rfl (.extract1 (.t rfl)) <| Ag rfl rfl <| Ag rfl rfl <| Ar <| Am rfl rfl <| An <| W.cB hm (.t rfl) (fun hp47 hm => ?_) (fun hp47 hm => ?_)
        ·refine Aw <| Ao rfl (.assign .bool) <| WL.ns ?_
         have hr := Si hm
         clear hm
         subst hr
         exact W.ret1 () rfl (.t rfl) trivial
        ·refine W.skip <| Aq <| Aw <| Am rfl rfl <| Am rfl rfl <| Ao rfl (.lenL U26 (Opd.own (.t rfl))) ?_
         obtain ⟨v10, hv48, hm⟩ := Bs hm
         refine Ao rfl (.subC hv48 (.t rfl) .i64) ?_
         obtain ⟨laid, hv49, hm⟩ := Bs hm
         refine WL.weakR (res' := [(37, Dec.Own tS 9 k1 w1.length), (88, OwnB 5 k3 w), (700000, GlE 0), (700001, GlI 1), (700002, GlI 2), (700003, GlT Tryz.prog "internal/strconv.uint64pow10" .u64 Lib.pow10Tab), (700007, Gl (tA 64 (tI .u8)) 7 gv7)]) ⟨rfl, rfl, ⟨rfl, rfl, ⟨rfl, rfl, ⟨rfl, rfl, ⟨rfl, rfl, ⟨rfl, rfl, ⟨rfl, rfl, trivial⟩⟩⟩⟩⟩⟩⟩ <| WL.opR rfl (OpR.call (us := []) (A := fun kx : Nat × Tok => (ObP kx laid)) C13 (FSpecR.keys (rin' := []) (out' := fun kx : Nat × Tok => [(116, ObR tpagestore_Store_k0 56 tS 9 (fun x : pagestore_Store => x.pages_) kx laid)]) (law14_laid_spec _ _ _ _ hv49) rfl (fun _ => rfl)) rfl ⟨(Opd.own (.t rfl)), (.t rfl), trivial⟩) fun k4 => Ag rfl rfl <| An <| W.seq <| Aw <| Am rfl rfl <| Ao rfl (.eqNilO U29 (.t rfl)) <| An <| W.cB hm (.t rfl) (fun hp51 hm => ?_) (fun hp51 hm => ?_)
         ·refine Aw <| Ao rfl (.assign .bool) <| WL.ns ?_
          have hr := Si hm
          clear hm
          subst hr
          exact W.ret1 () rfl (.t rfl) trivial
         ·refine W.skip <| Aq <| W.seq ?_
          obtain ⟨s0_, hv52, hm⟩ := Bs hm
          refine W.obOpen (t := tpagestore_Store_k0) (T := 56) (te := tS) (E := 9) (f := (fun x : pagestore_Store => x.pages_)) (c := k4) (u := s0_) (o := laid) (key := 116) 18 116 1000116 hv52 rfl rfl <| W.chg (fun _ _ h => h.slotA (s := 116) rfl (fun _ _ => ObP.some hv52)) <| W.chg (fun _ _ h => h.slotA (s := 117) rfl (fun _ _ => ObP.some hv52)) <| W.region <| WL.mv rfl rfl ?_
          obtain ⟨open0_, hv53, hm⟩ := Bs hm
          refine WL.weakR (res' := [(116, (Bx 5 true 56 ((tpagestore_Store_k0 (k4).2).is s0_) (k4).1)), (1000116, Dec.Own tS 9 (k4).2 s0_.pages_.length), (700000, GlE 0), (700001, GlI 1), (700002, GlI 2), (700003, GlT Tryz.prog "internal/strconv.uint64pow10" .u64 Lib.pow10Tab), (700007, Gl (tA 64 (tI .u8)) 7 gv7), (37, Dec.Own tS 9 k1 w1.length), (88, OwnB 5 k3 w)]) ⟨rfl, rfl, ⟨rfl, rfl, ⟨rfl, rfl, ⟨rfl, rfl, ⟨rfl, rfl, ⟨rfl, rfl, ⟨rfl, rfl, ⟨rfl, rfl, ⟨rfl, rfl, trivial⟩⟩⟩⟩⟩⟩⟩⟩⟩ <| WL.opR rfl (OpR.call (us := [116, 1000116, 700000, 700001, 700002, 700003, 700007]) (A := fun kx : Nat × Tok => (Asn.tuple2 (ObP kx open0_.1) (I6.is open0_.2))) C14 (FSpecR.keys (rin' := [(116, (Bx 5 true 56 ((tpagestore_Store_k0 (k4).2).is s0_) (k4).1)), (1000116, Dec.Own tS 9 (k4).2 s0_.pages_.length), (700000, GlE 0), (700001, GlI 1), (700002, GlI 2), (700003, GlT Tryz.prog "internal/strconv.uint64pow10" .u64 Lib.pow10Tab), (700007, Gl (tA 64 (tI .u8)) 7 gv7)]) (out' := fun kx : Nat × Tok => [(116, (Bx 5 true 56 ((tpagestore_Store_k0 (k4).2).is s0_) (k4).1)), (1000116, Dec.Own tS 9 (k4).2 s0_.pages_.length), (700000, GlE 0), (700001, GlI 1), (700002, GlI 2), (700003, GlT Tryz.prog "internal/strconv.uint64pow10" .u64 Lib.pow10Tab), (700007, Gl (tA 64 (tI .u8)) 7 gv7), (121, ObR (fun kq => (tMap (tP (tOb (k4).1) (tP (tOT tS kq) (tP I6 (tOne tjournal_mark)))) (fun x : journal_Journal => (x.Store, x.texts_, x.lasting_, x.last_)))) 60 tS 9 (fun x : journal_Journal => x.texts_) kx open0_.1)]) (journal_Open_spec _ _ _ _ _ hv53) rfl (fun _ => rfl)) rfl ⟨(.t rfl), trivial⟩) fun k5 => Am rfl rfl <| Ao rfl (.extract0 (.t rfl)) <| Ao rfl (.extract1 (.t rfl)) <| Ag rfl rfl <| Ag rfl rfl <| Ar <| WL.mv rfl rfl ?_
          obtain ⟨verify, hv54, hm⟩ := Bs hm
          refine WL.weakR (res' := [(116, (Bx 5 true 56 ((tpagestore_Store_k0 (k4).2).is s0_) (k4).1)), (1000116, Dec.Own tS 9 (k4).2 s0_.pages_.length), (700000, GlE 0), (700001, GlI 1), (700002, GlI 2), (700003, GlT Tryz.prog "internal/strconv.uint64pow10" .u64 Lib.pow10Tab), (700007, Gl (tA 64 (tI .u8)) 7 gv7), (37, Dec.Own tS 9 k1 w1.length), (88, OwnB 5 k3 w), (121, ObR (fun kq => (tMap (tP (tOb (k4).1) (tP (tOT tS kq) (tP I6 (tOne tjournal_mark)))) (fun x : journal_Journal => (x.Store, x.texts_, x.lasting_, x.last_)))) 60 tS 9 (fun x : journal_Journal => x.texts_) k5 open0_.1)]) ⟨rfl, rfl, ⟨rfl, rfl, ⟨rfl, rfl, ⟨rfl, rfl, ⟨rfl, rfl, ⟨rfl, rfl, ⟨rfl, rfl, ⟨rfl, rfl, ⟨rfl, rfl, ⟨rfl, rfl, trivial⟩⟩⟩⟩⟩⟩⟩⟩⟩⟩ <| WL.opR rfl (OpR.call (us := [116, 1000116, 700000, 700001, 700002, 700003, 700007]) (A := fun kx : Unit => (Asn.tuple2 (I6.is verify.1) (I6.is verify.2))) C15 (FSpecR.keys (rin' := [(116, (Bx 5 true 56 ((tpagestore_Store_k0 (k4).2).is s0_) (k4).1)), (1000116, Dec.Own tS 9 (k4).2 s0_.pages_.length), (700000, GlE 0), (700001, GlI 1), (700002, GlI 2), (700003, GlT Tryz.prog "internal/strconv.uint64pow10" .u64 Lib.pow10Tab), (700007, Gl (tA 64 (tI .u8)) 7 gv7)]) (out' := fun kx : Unit => [(116, (Bx 5 true 56 ((tpagestore_Store_k0 (k4).2).is s0_) (k4).1)), (1000116, Dec.Own tS 9 (k4).2 s0_.pages_.length), (700000, GlE 0), (700001, GlI 1), (700002, GlI 2), (700003, GlT Tryz.prog "internal/strconv.uint64pow10" .u64 Lib.pow10Tab), (700007, Gl (tA 64 (tI .u8)) 7 gv7)]) (journal_Verify_spec _ _ _ _ _ hv54) rfl (fun _ => rfl)) rfl ⟨(.t rfl), trivial⟩) fun _ => Am rfl rfl <| Ao rfl (.extract0 (.t rfl)) <| Ao rfl (.extract1 (.t rfl)) <| Ag rfl rfl <| Ag rfl rfl <| Ar <| Am rfl rfl <| Ao rfl (.eqI (.t rfl) .i64) <| WL.mv rfl rfl ?_
          rcases iteD hm with ⟨hp56, hb55, hm⟩ | ⟨hp56, hb55, hm⟩
          ·refine Ax rfl hb55 (.move (.t rfl)) <| Ax rfl hb55 (.eqI (.t rfl) .i64) <| Ao rfl (.pickT (.t rfl) hb55 (.t rfl)) <| Ag rfl rfl <| WL.ns ?_
           have hr := Si hm
           clear hm
           subst hr
           exact W.ret1 () rfl (.t rfl) trivial
          ·refine Ap rfl hb55 <| Ap rfl hb55 <| Ao rfl (.pickF (.t rfl) hb55 .bool) <| Ag rfl rfl <| WL.ns ?_
           have hr := Si hm
           clear hm
           subst hr
           exact W.ret1 () rfl (.t rfl) trivial
      ·have hm := hs27
       clear hs27
       refine W.region <| Am rfl rfl <| Ao rfl (.ltI (.t rfl) .i64) <| WL.mv rfl rfl ?_
       rcases iteD hm with ⟨hp30, hb29, hm⟩ | ⟨hp30, hb29, hm⟩
       ·refine Ap rfl hb29 <| Ap rfl hb29 <| Ap rfl hb29 <| Ap rfl hb29 <| Ao rfl (.pickT (.t rfl) hb29 .bool) <| Am rfl rfl <| Ap rfl rfl <| Ap rfl rfl <| Ao rfl (.pickT (.t rfl) rfl .bool) <| Am rfl rfl <| Ap rfl rfl <| Ap rfl rfl <| Ap rfl rfl <| Ap rfl rfl <| Ap rfl rfl <| Ap rfl rfl ?_
        exact Ap rfl rfl <| Ao rfl (.pickT (.t rfl) rfl .bool) <| WL.nil <| WN.meet true (Si hm) ⟨.q rfl, .q rfl, .q rfl, .q rfl, .q rfl, trivial⟩ ⟨rfl, rfl, ⟨rfl, rfl, ⟨rfl, rfl, ⟨rfl, rfl, ⟨rfl, rfl, ⟨rfl, rfl, trivial⟩⟩⟩⟩⟩⟩
       ·refine Ax rfl hb29 (.move (.t rfl)) <| Ax rfl hb29 (.move (.t rfl)) <| Ax rfl hb29 (.lenU U26 (.t rfl)) <| Ax rfl hb29 (.geI (.t rfl) (.t rfl)) <| Ao rfl (.pickF (.t rfl) hb29 (.t rfl)) <| WL.mv rfl rfl ?_
        rcases iteD hm with ⟨hp32, hb31, hm⟩ | ⟨hp32, hb31, hm⟩
        ·exact Ap rfl hb31 <| Ap rfl hb31 <| Ao rfl (.pickT (.t rfl) hb31 .bool) <| Am rfl rfl <| Ap rfl rfl <| Ap rfl rfl <| Ap rfl rfl <| Ap rfl rfl <| Ap rfl rfl <| Ap rfl rfl <| Ap rfl rfl <| Ao rfl (.pickT (.t rfl) rfl .bool) <| WL.nil <| WN.meet true (Si hm) ⟨.q rfl, .q rfl, .q rfl, .q rfl, .q rfl, trivial⟩ ⟨rfl, rfl, ⟨rfl, rfl, ⟨rfl, rfl, ⟨rfl, rfl, ⟨rfl, rfl, ⟨rfl, rfl, trivial⟩⟩⟩⟩⟩⟩
        ·refine Ax rfl hb31 (.move (.t rfl)) <| Ax rfl hb31 (.ltI (.t rfl) .i64) <| Ao rfl (.pickF (.t rfl) hb31 (.t rfl)) <| WL.mv rfl rfl ?_
         rcases iteD hm with ⟨hp34, hb33, hm⟩ | ⟨hp34, hb33, hm⟩
         ·exact Ap rfl hb33 <| Ap rfl hb33 <| Ap rfl hb33 <| Ap rfl hb33 <| Ap rfl hb33 <| Ap rfl hb33 <| Ap rfl hb33 <| Ao rfl (.pickT (.t rfl) hb33 .bool) <| WL.nil <| WN.meet true (Si hm) ⟨.q rfl, .q rfl, .q rfl, .q rfl, .q rfl, trivial⟩ ⟨rfl, rfl, ⟨rfl, rfl, ⟨rfl, rfl, ⟨rfl, rfl, ⟨rfl, rfl, ⟨rfl, rfl, trivial⟩⟩⟩⟩⟩⟩
         ·refine Ax rfl hb33 (.move (.t rfl)) <| Ax rfl hb33 (.move (.t rfl)) <| Ax rfl hb33 (.move (.t rfl)) ?_
          obtain ⟨v4, hv35, hm⟩ := Bs hm
          exact Ax rfl hb33 (.idxU (t := tS) hv35 U26 Z9 (.t rfl) (.t rfl)) <| Ax rfl hb33 (.loadU 37 hv35 ty9 rfl (.t rfl)) <| Ax rfl hb33 (.lenS U9 (.t rfl)) <| Ax rfl hb33 (.geI (.t rfl) (.t rfl)) <| Ao rfl (.pickF (.t rfl) hb33 (.t rfl)) <| WL.nil <| WN.meet (decide ((v4.length : Int) ≤ at0_)) (Si hm) ⟨.q rfl, .q rfl, .q rfl, .q rfl, .q rfl, trivial⟩ ⟨rfl, rfl, ⟨rfl, rfl, ⟨rfl, rfl, ⟨rfl, rfl, ⟨rfl, rfl, ⟨rfl, rfl, trivial⟩⟩⟩⟩⟩⟩
  ·have hm := hs5
   clear hs5
   refine W.region <| WL.mv rfl rfl ?_
   obtain ⟨short, hv7, hm⟩ := Bs hm
   refine Ao rfl (.call C10 (law14_short_spec _ _ _ hv7) ⟨(.t rfl), trivial⟩) <| Ao rfl (.notB (.t rfl)) <| WL.mv rfl rfl ?_
   rcases iteR hm with ⟨hp9, hb8, hm⟩ | ⟨hp9, hb8, hm⟩
   ·exact Ap rfl hb8 <| Ap rfl hb8 <| Ap rfl hb8 <| Ao rfl (.pickT (.t rfl) hb8 .bool) <| Am rfl rfl <| Ap rfl rfl <| Ap rfl rfl <| Ao rfl (.pickT (.t rfl) rfl .bool) <| WL.nil <| WN.meet true (Si hm) ⟨.q rfl, .q rfl, .q rfl, .q rfl, .q rfl, trivial⟩ ⟨rfl, rfl, ⟨rfl, rfl, ⟨rfl, rfl, ⟨rfl, rfl, ⟨rfl, rfl, trivial⟩⟩⟩⟩⟩
   ·refine Ax rfl hb8 (.move (.t rfl)) <| Ax rfl hb8 (.lenL U26 (.t rfl)) <| Ax rfl hb8 (.eqI (.t rfl) .i64) <| Ao rfl (.pickF (.t rfl) hb8 (.t rfl)) <| WL.mv rfl rfl ?_
    rcases iteD hm with ⟨hp11, hb10, hm⟩ | ⟨hp11, hb10, hm⟩
    ·exact Ap rfl hb10 <| Ap rfl hb10 <| Ao rfl (.pickT (.t rfl) hb10 .bool) <| WL.nil <| WN.meet true (Si hm) ⟨.q rfl, .q rfl, .q rfl, .q rfl, .q rfl, trivial⟩ ⟨rfl, rfl, ⟨rfl, rfl, ⟨rfl, rfl, ⟨rfl, rfl, ⟨rfl, rfl, trivial⟩⟩⟩⟩⟩
    ·exact Ax rfl hb10 (.move (.t rfl)) <| Ax rfl hb10 (.eqI (.t rfl) (.int (inR8.2 (by omega)))) <| Ao rfl (.pickF (.t rfl) hb10 (.t rfl)) <| WL.nil <| WN.meet (decide (by0_ = (0 : Int))) (Si hm) ⟨.q rfl, .q rfl, .q rfl, .q rfl, .q rfl, trivial⟩ ⟨rfl, rfl, ⟨rfl, rfl, ⟨rfl, rfl, ⟨rfl, rfl, ⟨rfl, rfl, trivial⟩⟩⟩⟩⟩
end Go.Proofs.YtkobngongonplaaGreatDoor
