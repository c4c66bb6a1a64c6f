/-
  The code does what the models say: written by program.
-/
import Derived.Test.YtnmkblpbmoikpaaDoorWb
set_option linter.unusedVariables false
set_option linter.unusedSimpArgs false
namespace Go.Proofs.YtnmkblpbmoikpaaDoor
open Go Go.Dec
set_option maxRecDepth 100000
set_option maxHeartbeats 4000000
theorem r20_Read_spec (n : Nat) (w : List Str) (r : api_Cite × Bool) (hm : M.r20_Read n w = some r) : FSpec Tryd.prog 23 [((tL tS).is w)] (Asn.tuple2 (tapi_Cite.is r.1) (tB.is r.2)) := by
 unfold M.r20_Read at hm
 refine FSpec.of Tryd.func23 rfl rfl rfl (fun g0 => ?_)
 refine W.sr ?_
 refine WL.opR rfl (OpR.alloc 2 ze24) (fun b => ?_)
 refine WL.op rfl (.assign .bool) ?_
 refine WL.nr ?_
 refine WL.addNil (t := tapi_Step) (E := 50) 6 ?_
 refine WL.op rfl (.build (s := (tapi_Cite_k1 none)) (x := (⟨(0 : Int), ([] : List api_Step), ([] : Str), (0 : Int), (0 : Int)⟩ : api_Cite)) zapi_Cite_f rfl Tryd.underlying24 (zapi_Cite_sz _ Tryd.underlying24) zeapi_Cite_k1 rfl) ?_
 refine WL.opR rfl (OpR.alloc 4 ze24) (fun b1 => ?_)
 refine WL.opU (OpR.storeB (b := b1) 4 Tryd.sizeOf24 (Cellable.is (tapi_Cite_k1 (none : Tok)) (⟨(0 : Int), ([] : List api_Step), ([] : Str), (0 : Int), (0 : Int)⟩ : api_Cite)) rfl (.tmp rfl) (.tmp rfl)) (fun _ => ?_)
 refine WL.nil ?_
 refine WN.weakR (res' := [(6, Dec.Own tapi_Step 50 (none : Tok) ([] : List api_Step).length), (2, (Bx 5 true 24 (tapi_Cite.is zapi_Cite) b)), (4, (Bx 5 true 24 ((tapi_Cite_k1 (none : Tok)).is (⟨(0 : Int), ([] : List api_Step), ([] : Str), (0 : Int), (0 : Int)⟩ : api_Cite)) b1))]) ⟨rfl, rfl, ⟨rfl, rfl, ⟨rfl, rfl, trivial⟩⟩⟩ ?_
 refine WN.rekey (res' := [(1000004, Dec.Own tapi_Step 50 (none : Tok) ([] : List api_Step).length), (2, (Bx 5 true 24 (tapi_Cite.is zapi_Cite) b)), (4, (Bx 5 true 24 ((tapi_Cite_k1 (none : Tok)).is (⟨(0 : Int), ([] : List api_Step), ([] : Str), (0 : Int), (0 : Int)⟩ : api_Cite)) b1))]) rfl ?_
 refine WN.seq ?_
 refine W.sr ?_
 refine WL.op rfl (.assign .i64) ?_
 refine WL.ns ?_
 obtain ⟨s1, hs2, hk3⟩ := bind_some hm
 clear hm
 refine W.join (fun s : (Int × api_Cite) × Tok => s.1 = s1) (fun s => [(5, ((tI .i64).is s.1.1)), (0, ((tL tS).is w)), (2, (Bp b 0)), (4, (Bp b1 0))]) (fun s => [(1000004, Dec.Own tapi_Step 50 s.2 s.1.2.Path.length), (4, (Bx 5 true 24 ((tapi_Cite_k1 s.2).is s.1.2) b1)), (2, (Bx 5 true 24 (tapi_Cite.is zapi_Cite) b))]) ?_ ?_
 ·rintro ⟨⟨i, c⟩, k⟩ hj229
  try dsimp only at hj229
  subst hj229
  have hm := hk3
  clear hk3
  try dsimp only at hm
  change W _ _ _ _ _ _ _ [(5, ((tI .i64).is i)), (0, ((tL tS).is w)), (2, (Bp b 0)), (4, (Bp b1 0))] [(1000004, Dec.Own tapi_Step 50 k c.Path.length), (4, (Bx 5 true 24 ((tapi_Cite_k1 k).is c) b1)), (2, (Bx 5 true 24 (tapi_Cite.is zapi_Cite) b))]
  obtain ⟨s125, hs126, hk127⟩ := bind_some hm
  clear hm
  refine W.join (fun s : (Int × api_Cite) × Tok => s.1 = s125) (fun s => [(5, ((tI .i64).is s.1.1)), (0, ((tL tS).is w)), (2, (Bp b 0)), (4, (Bp b1 0))]) (fun s => [(1000004, Dec.Own tapi_Step 50 s.2 s.1.2.Path.length), (4, (Bx 5 true 24 ((tapi_Cite_k1 s.2).is s.1.2) b1)), (2, (Bx 5 true 24 (tapi_Cite.is zapi_Cite) b))]) ?_ ?_
  ·rintro ⟨⟨i1, c1⟩, k1⟩ hj228
   try dsimp only at hj228
   subst hj228
   have hm := hk127
   clear hk127
   try dsimp only at hm
   change W _ _ _ _ _ _ _ [(5, ((tI .i64).is i1)), (0, ((tL tS).is w)), (2, (Bp b 0)), (4, (Bp b1 0))] [(1000004, Dec.Own tapi_Step 50 k1 c1.Path.length), (4, (Bx 5 true 24 ((tapi_Cite_k1 k1).is c1) b1)), (2, (Bx 5 true 24 (tapi_Cite.is zapi_Cite) b))]
   refine W.seq ?_
   refine W.block ?_
   obtain ⟨s143, hs144, hk145⟩ := bind_some hm
   clear hm
   refine W.loop (fun m (s : (Int × api_Cite) × Tok) => M.r20_Read_loop1 w m s.1.1 s.1.2 = some s143) (fun s => [(5, ((tI .i64).is s.1.1)), (0, ((tL tS).is w)), (2, (Bp b 0)), (4, (Bp b1 0))]) (fun s => [(1000004, Dec.Own tapi_Step 50 s.2 s.1.2.Path.length), (4, (Bx 5 true 24 ((tapi_Cite_k1 s.2).is s.1.2) b1)), (2, (Bx 5 true 24 (tapi_Cite.is zapi_Cite) b))]) _ ((i1, c1), k1) hs144 ⟨Ent.q rfl, Ent.q rfl, Ent.q rfl, Ent.q rfl, trivial⟩ ⟨rfl, rfl, ⟨rfl, rfl, ⟨rfl, rfl, trivial⟩⟩⟩ ?_
   rintro n146 ⟨⟨i2, c2⟩, k3⟩ hm
   try dsimp only at hm
   change W _ _ _ _ _ _ _ [(5, ((tI .i64).is i2)), (0, ((tL tS).is w)), (2, (Bp b 0)), (4, (Bp b1 0))] [(1000004, Dec.Own tapi_Step 50 k3 c2.Path.length), (4, (Bx 5 true 24 ((tapi_Cite_k1 k3).is c2) b1)), (2, (Bx 5 true 24 (tapi_Cite.is zapi_Cite) b))]
   cases n146 with
   | zero => rw [M.r20_Read_loop1.eq_1] at hm; cases hm
   | succ n146 =>
    rw [M.r20_Read_loop1.eq_2] at hm
    refine W.seq ?_
    refine W.seq ?_
    obtain ⟨v30, hv147, hm⟩ := bind_some hm
    rcases bcases (decide (v30 < (w.length : Int))) with hb148 | hb148
    ·have hp149 := of_decide_eq_true hb148
     rw [if_pos hp149] at hm
     obtain ⟨single8, hv150, hm⟩ := bind_some hm
     obtain ⟨v31, hv151, hm⟩ := bind_some hm
     obtain ⟨kind8, hv152, hm⟩ := bind_some hm
     refine W.draw [.c ((tI .i64).is i2), .c ((tI .i64).is v30), .c ((tL tS).is w), .c ((tI .i64).is (w.length : Int)), .c (tB.is (decide (v30 < (w.length : Int)))), .c (tB.is (decide (v30 < (w.length : Int)))), .c ((tL tS).is single8), .c ((tL tS).is w), .c ((tI .i64).is i2), .c (tS.ptr v31), .c (tS.is v31), .c ((tI .i64).is kind8), .c (tB.is (decide ((0 : Int) < kind8))), .c (tB.is (decide ((0 : Int) < kind8)))] [([], [5]), ([0], []), ([], [0]), ([2], []), ([1, 3], []), ([4], []), ([5], []), ([5], [0]), ([5], [5]), ([5, 7, 8], []), ([5, 9], []), ([5, 6, 10], []), ([5, 11], []), ([5, 12], [])] Tryd.mixed rfl rfl rfl rfl ⟨.inr (Op1.move (.tmp rfl)), .inr (Op1.addC hv147 (.tmp rfl) .i64), .inr (Op1.move (.tmp rfl)), .inr (Op1.lenL Tryd.underlying28 (.tmp rfl)), .inr (Op1.ltI (.tmp rfl) (.tmp rfl)), .inr (Op1.move (.tmp rfl)), .inr (dr rfl rfl rfl hb148 (Op1.call Tryd.call33 (r20_Singles_spec _ hv150) trivial)), .inr (dr rfl rfl rfl hb148 (Op1.move (.tmp rfl))), .inr (dr rfl rfl rfl hb148 (Op1.move (.tmp rfl))), .inr (dr rfl rfl rfl hb148 (Op1.idx hv151 Tryd.underlying28 Tryd.sizeOf9 (.tmp rfl) (.tmp rfl))), .inr (dr rfl rfl rfl hb148 (Op1.load ty9 (.tmp rfl))), .inr (dr rfl rfl rfl hb148 (Op1.call Tryd.call42 (r20_kind_spec _ _ _ _ hv152) ⟨(.tmp rfl), (.tmp rfl), trivial⟩)), .inr (dr rfl rfl rfl hb148 (Op1.gtI (.tmp rfl) .i64)), .inr (Op1.pickT (.tmp rfl) hb148 (.tmp rfl)), trivial⟩ ?_
     refine WN.seq ?_
     refine W.cond (.tmp rfl) (fun hc153 => ?_) (fun hc153 => ?_)
     ·have hp154 := of_decide_eq_true hc153
      rw [if_pos hp154] at hm
      refine W.skip ?_
      refine WN.seq ?_
      refine W.block ?_
      refine W.seq ?_
      obtain ⟨single9, hv155, hm⟩ := bind_some hm
      obtain ⟨v32, hv156, hm⟩ := bind_some hm
      obtain ⟨kind9, hv157, hm⟩ := bind_some hm
      obtain ⟨v33, hv158, hm⟩ := bind_some hm
      obtain ⟨v34, hv159, hm⟩ := bind_some hm
      obtain ⟨out1, hv160, hm⟩ := bind_some hm
      refine W.weakR (res' := [(1000004, Dec.Own tapi_Step 50 k3 c2.Path.length), (4, (Bx 5 true 24 ((tapi_Cite_k1 k3).is c2) b1)), (2, (Bx 5 true 24 (tapi_Cite.is zapi_Cite) b))]) ⟨rfl, rfl, ⟨rfl, rfl, ⟨rfl, rfl, trivial⟩⟩⟩ ?_
      refine W.drawM [.c (Bp b1 1), .c (tO tapi_Step k3 c2.Path), .c ((tL tS).is single9), .c ((tL tS).is w), .c ((tI .i64).is i2), .c (tS.ptr v32), .c (tS.is v32), .c ((tI .i64).is kind9), .c ((tL tS).is w), .c ((tI .i64).is i2), .c ((tI .i64).is v33), .c (tS.ptr v34), .c (tS.is v34), .c (tapi_Step.is (⟨kind9, v34⟩ : api_Step)), .c ((tL tapi_Step).is [(⟨kind9, v34⟩ : api_Step)]), .f (fun cv4 => (tO tapi_Step (cv4 0) out1)), .c (Bp b1 1), .c Asn.any] [([], [4]), ([0], []), ([], []), ([], [0]), ([], [5]), ([3, 4], []), ([5], []), ([2, 6], []), ([], [0]), ([], [5]), ([9], []), ([8, 10], []), ([11], []), ([7, 12], []), ([13], []), ([1, 14], []), ([], [4]), ([15, 16], [])] [15, 17] [[], [], [], [], [], [], [], [], [], [], [], [], [], [], [], [true], [], []] (fun m cv4 => match m with | 0 => [(1000004, Dec.Own tapi_Step 50 k3 c2.Path.length), (4, (Bx 5 true 24 ((tapi_Cite_k1 k3).is c2) b1)), (2, (Bx 5 true 24 (tapi_Cite.is zapi_Cite) b))] | 1 => [(1000004, Dec.Own tapi_Step 50 (cv4 0) out1.length), (4, (Bx 5 true 24 ((tapi_Cite_k1 k3).is c2) b1)), (2, (Bx 5 true 24 (tapi_Cite.is zapi_Cite) b))] | _ => [(4, (Bx 5 true 24 ((tapi_Cite_k1 (cv4 0)).is ({ c2 with Path := out1 } : api_Cite)) b1)), (1000004, Dec.Own tapi_Step 50 (cv4 0) out1.length), (2, (Bx 5 true 24 (tapi_Cite.is zapi_Cite) b))]) (fun _ => none) Tryd.mixed rfl rfl rfl rfl rfl ⟨fun _ _ _ _ => rfl, ⟨fun _ _ _ _ => rfl, ⟨fun _ _ _ _ => rfl, ⟨fun _ _ _ _ => rfl, ⟨fun _ _ _ _ => rfl, ⟨fun _ _ _ _ => rfl, ⟨fun _ _ _ _ => rfl, ⟨fun _ _ _ _ => rfl, ⟨fun _ _ _ _ => rfl, ⟨fun _ _ _ _ => rfl, ⟨fun _ _ _ _ => rfl, ⟨fun _ _ _ _ => rfl, ⟨fun _ _ _ _ => rfl, ⟨fun _ _ _ _ => rfl, ⟨fun _ _ _ _ => rfl, ⟨fun m hm c t => by simp only [DA.at, upd_dep (r := [true]) (j := 0) rfl hm], ⟨fun _ _ _ _ => rfl, ⟨fun _ _ _ _ => rfl, trivial⟩⟩⟩⟩⟩⟩⟩⟩⟩⟩⟩⟩⟩⟩⟩⟩⟩⟩ rfl ⟨mo fun cv4 => Op1.fieldAddrB (o := 0) Tryd.underlying24 rfl (fun w => ⟨0, Tryd.sizeOf22 w⟩) (.tmp rfl) rfl, ⟨.inr ⟨fun cv4 => [(4, (Bx 5 true 24 ((tapi_Cite_k1 k3).is c2) b1))], (AllUpTo.at ⟨⟨(fun _ _ => ⟨rfl, rfl, trivial⟩), (fun hw => absurd hw (by decide))⟩, (fun hw => absurd hw (by decide))⟩), fun cv4 => Op1.ofOT (Op1.loadBF (t := (tOT tapi_Step k3)) (f := fun x : api_Cite => x.Path) (u := c2) 4 rfl ⟨ty22.agg, ty22.size⟩ (fapi_Cite_k1_1 k3) rfl (.tmp rfl))⟩, ⟨mo fun cv4 => Op1.call Tryd.call33 (r20_Singles_spec _ hv155) trivial, ⟨mo fun cv4 => Op1.move (.tmp rfl), ⟨mo fun cv4 => Op1.move (.tmp rfl), ⟨mo fun cv4 => Op1.idx hv156 Tryd.underlying28 Tryd.sizeOf9 (.tmp rfl) (.tmp rfl), ⟨mo fun cv4 => Op1.load ty9 (.tmp rfl), ⟨mo fun cv4 => Op1.call Tryd.call42 (r20_kind_spec _ _ _ _ hv157) ⟨(.tmp rfl), (.tmp rfl), trivial⟩, ⟨mo fun cv4 => Op1.move (.tmp rfl), ⟨mo fun cv4 => Op1.move (.tmp rfl), ⟨mo fun cv4 => Op1.addC hv158 (.tmp rfl) .i64, ⟨mo fun cv4 => Op1.idx hv159 Tryd.underlying28 Tryd.sizeOf9 (.tmp rfl) (.tmp rfl), ⟨mo fun cv4 => Op1.load ty9 (.tmp rfl), ⟨mo fun cv4 => Op1.build (s := tapi_Step) (x := (⟨kind9, v34⟩ : api_Step)) zapi_Step_f rfl Tryd.underlying50 (zapi_Step_sz _ Tryd.underlying50) ze50 ⟨_, (tI .i64), kind9, _, _, rfl, Tryd.sizeOf3, (.tmp rfl), sapi_Step_0, ⟨_, tS, v34, _, _, rfl, Tryd.sizeOf9, (.tmp rfl), sapi_Step_1, rfl⟩⟩, ⟨mo fun cv4 => Op1.buildSlice (n := 1) (ys := [(0, (⟨kind9, v34⟩ : api_Step))]) (z := zapi_Step) (xs := [(⟨kind9, v34⟩ : api_Step)]) Tryd.underlying22 el50 ze50 ⟨rfl, (.tmp rfl), trivial⟩ (by simp) (by decide) rfl, ⟨.inl rfl, ⟨mo fun cv4 => Op1.fieldAddrB (o := 0) Tryd.underlying24 rfl (fun w => ⟨0, Tryd.sizeOf22 w⟩) (.tmp rfl) rfl, ⟨.inl rfl, trivial⟩⟩⟩⟩⟩⟩⟩⟩⟩⟩⟩⟩⟩⟩⟩⟩⟩⟩ ⟨⟨_, _, _, [1000004], (fun cv4 => [(1000004, Dec.Own tapi_Step 50 (cv4 0) out1.length)]), rfl, rfl, rfl, rfl, fun _ => rfl, fun _ _ => rfl, fun cv4 => OpR.appC (key := 1000004) hv160 Tryd.underlying22 el50 (.tmp rfl) (.tmp rfl) rfl⟩, ⟨⟨_, _, _, [4], (fun cv4 => [(4, (Bx 5 true 24 ((tapi_Cite_k1 (cv4 0)).is ({ c2 with Path := out1 } : api_Cite)) b1))]), rfl, rfl, rfl, rfl, fun _ => rfl, fun _ _ => rfl, fun cv4 => OpR.viaU (OpR.storeBFT (b := b1) (s := (tapi_Cite_k1 k3)) (s' := (tapi_Cite_k1 (cv4 0))) (t := (tOT tapi_Step (cv4 0))) 4 rfl rfl ⟨ty22.agg, ty22.size⟩ (sTapi_Cite_k1 k3 (cv4 0)) rfl (show 1 + 1 ≤ 5 by decide) (.tmp rfl) (Opd.toOT (.tmp rfl)))⟩, trivial⟩⟩ (fun cv4 => ?_)
      refine WN.seq ?_
      refine W.region ?_
      refine WL.mv rfl rfl ?_
      obtain ⟨v35, hv161, hm⟩ := bind_some hm
      refine WL.op rfl (.addC hv161 (.tmp rfl) .i64) ?_
      refine WL.gv rfl rfl ?_
      refine WL.nil ?_
      refine WN.block ?_
      exact WN.again n146 ((v35, ({ c2 with Path := out1 } : api_Cite)), (cv4 0)) (Nat.lt_succ_self n146) hm ⟨Ent.q rfl, Ent.q rfl, Ent.q rfl, Ent.q rfl, trivial⟩ ⟨rfl, rfl, ⟨rfl, rfl, ⟨rfl, rfl, trivial⟩⟩⟩
     ·have hp154 := of_decide_eq_false hc153
      rw [if_neg hp154] at hm
      refine W.exit rfl ?_
      have hr162 := Option.some.inj hm
      clear hm
      subst hr162
      have hm := hk145
      try dsimp only at hm
      refine WN.seq ?_
      obtain ⟨s163, hs164, hk165⟩ := bind_some hm
      clear hm
      refine W.join (fun s : (Int × api_Cite) × Tok => s.1 = s163) (fun s => [(5, ((tI .i64).is s.1.1)), (0, ((tL tS).is w)), (2, (Bp b 0)), (4, (Bp b1 0))]) (fun s => [(1000004, Dec.Own tapi_Step 50 s.2 s.1.2.Path.length), (4, (Bx 5 true 24 ((tapi_Cite_k1 s.2).is s.1.2) b1)), (2, (Bx 5 true 24 (tapi_Cite.is zapi_Cite) b))]) ?_ ?_
      ·rintro ⟨⟨i3, c3⟩, k4⟩ hj194
       try dsimp only at hj194
       subst hj194
       have hm := hk165
       clear hk165
       try dsimp only at hm
       change W _ _ _ _ _ _ _ [(5, ((tI .i64).is i3)), (0, ((tL tS).is w)), (2, (Bp b 0)), (4, (Bp b1 0))] [(1000004, Dec.Own tapi_Step 50 k4 c3.Path.length), (4, (Bx 5 true 24 ((tapi_Cite_k1 k4).is c3) b1)), (2, (Bx 5 true 24 (tapi_Cite.is zapi_Cite) b))]
       refine W.seq ?_
       refine W.sr ?_
       refine WL.mv rfl rfl ?_
       refine WL.mv rfl rfl ?_
       refine WL.op rfl (.lenL Tryd.underlying28 (.tmp rfl)) ?_
       refine WL.op rfl (.neI (.tmp rfl) (.tmp rfl)) ?_
       refine WL.mv rfl rfl ?_
       rcases bcases (decide (i3 ≠ (w.length : Int))) with hb189 | hb189
       ·have hp190 := of_decide_eq_true hb189
        rw [if_pos hp190] at hm
        iterate 3 refine WL.pass rfl rfl rfl rfl hb189 rfl rfl ?_
        refine WL.op rfl (.pickT (.tmp rfl) hb189 .bool) ?_
        refine WL.ns ?_
        refine W.condT (.tmp rfl) ?_
        refine W.sr ?_
        refine WL.op rfl (.build (s := tapi_Cite) (x := (⟨(0 : Int), ([] : List api_Step), ([] : Str), (0 : Int), (0 : Int)⟩ : api_Cite)) zapi_Cite_f rfl Tryd.underlying24 (zapi_Cite_sz _ Tryd.underlying24) ze24 rfl) ?_
        refine WL.opU (OpR.storeB (b := b) 2 Tryd.sizeOf24 (Cellable.is tapi_Cite (⟨(0 : Int), ([] : List api_Step), ([] : Str), (0 : Int), (0 : Int)⟩ : api_Cite)) rfl (.tmp rfl) (.tmp rfl)) (fun _ => ?_)
        refine WL.op rfl (.assign .bool) ?_
        refine WL.ns ?_
        cases hm
        exact W.retQ2 () rfl rfl (ResAt.cell 2 Tryd.isAgg24 Tryd.sizeOf24 rfl (.tmp rfl)) (ResAt.tmp (.tmp rfl)) trivial
       ·have hp190 := of_decide_eq_false hb189
        rw [if_neg hp190] at hm
        refine WL.run rfl rfl rfl rfl hb189 rfl rfl (Op1.loadB 4 Tryd.isAgg24 Tryd.sizeOf24 rfl (.tmp rfl)) ?_
        obtain ⟨may, hv191, hm⟩ := bind_some hm
        refine WL.run rfl rfl rfl rfl hb189 rfl rfl (Op1.call Tryd.call12 (r20_May_spec _ _ _ hv191) ⟨(Opd.leT (leapi_Cite_k1 k4) (.tmp rfl)), trivial⟩) ?_
        refine WL.run rfl rfl rfl rfl hb189 rfl rfl (Op1.notB (.tmp rfl)) ?_
        refine WL.op rfl (.pickF (.tmp rfl) hb189 (.tmp rfl)) ?_
        refine WL.ns ?_
        refine W.cond (.tmp rfl) (fun hc192 => ?_) (fun hc192 => ?_)
        ·have hp193 := not_pos hc192
         rw [if_pos hp193] at hm
         refine W.sr ?_
         refine WL.op rfl (.build (s := tapi_Cite) (x := (⟨(0 : Int), ([] : List api_Step), ([] : Str), (0 : Int), (0 : Int)⟩ : api_Cite)) zapi_Cite_f rfl Tryd.underlying24 (zapi_Cite_sz _ Tryd.underlying24) ze24 rfl) ?_
         refine WL.opU (OpR.storeB (b := b) 2 Tryd.sizeOf24 (Cellable.is tapi_Cite (⟨(0 : Int), ([] : List api_Step), ([] : Str), (0 : Int), (0 : Int)⟩ : api_Cite)) rfl (.tmp rfl) (.tmp rfl)) (fun _ => ?_)
         refine WL.op rfl (.assign .bool) ?_
         refine WL.ns ?_
         cases hm
         exact W.retQ2 () rfl rfl (ResAt.cell 2 Tryd.isAgg24 Tryd.sizeOf24 rfl (.tmp rfl)) (ResAt.tmp (.tmp rfl)) trivial
        ·have hp193 := not_neg hc192
         rw [if_neg hp193] at hm
         refine W.skip ?_
         refine WN.seq ?_
         refine W.sr ?_
         refine WL.op rfl (.loadB 4 Tryd.isAgg24 Tryd.sizeOf24 rfl (.tmp rfl)) ?_
         refine WL.opU (OpR.storeB (b := b) 2 Tryd.sizeOf24 (Cellable.is tapi_Cite c3) rfl (.tmp rfl) (Opd.leT (leapi_Cite_k1 k4) (.tmp rfl))) (fun _ => ?_)
         refine WL.op rfl (.assign .bool) ?_
         refine WL.ns ?_
         cases hm
         exact W.retQ2 () rfl rfl (ResAt.cell 2 Tryd.isAgg24 Tryd.sizeOf24 rfl (.tmp rfl)) (ResAt.tmp (.tmp rfl)) trivial
      ·have hm := hs164
       clear hs164
       refine W.seq ?_
       rcases bcases (decide (c2.Kind = (0 : Int))) with hb166 | hb166
       ·have hp167 := of_decide_eq_true hb166
        rw [if_pos hp167] at hm
        obtain ⟨v36, hv168, hm⟩ := bind_some hm
        rcases bcases (decide (v36 = (w.length : Int))) with hb169 | hb169
        ·have hp170 := of_decide_eq_true hb169
         rw [if_pos hp170] at hm
         obtain ⟨plural, hv171, hm⟩ := bind_some hm
         obtain ⟨v37, hv172, hm⟩ := bind_some hm
         obtain ⟨kind10, hv173, hm⟩ := bind_some hm
         rcases bcases (decide ((0 : Int) < kind10)) with hb174 | hb174
         ·have hp175 := of_decide_eq_true hb174
          rw [if_pos hp175] at hm
          obtain ⟨v38, hv176, hm⟩ := bind_some hm
          obtain ⟨v39, hv177, hm⟩ := bind_some hm
          refine W.draw [.c (Bp b1 0), .c ((tI .i64).is c2.Kind), .c (tB.is (decide (c2.Kind = (0 : Int)))), .c (tB.is (decide (c2.Kind = (0 : Int)))), .c ((tI .i64).is i2), .c ((tI .i64).is v36), .c ((tL tS).is w), .c ((tI .i64).is (w.length : Int)), .c (tB.is (decide (v36 = (w.length : Int)))), .c (tB.is (decide (v36 = (w.length : Int)))), .c (tB.is (decide (v36 = (w.length : Int)))), .c ((tL tS).is plural), .c ((tL tS).is w), .c ((tI .i64).is i2), .c (tS.ptr v37), .c (tS.is v37), .c ((tI .i64).is kind10), .c (tB.is (decide ((0 : Int) < kind10))), .c (tB.is (decide ((0 : Int) < kind10))), .c (tB.is (decide ((0 : Int) < kind10))), .c ((tL tS).is w), .c ((tI .i64).is i2), .c ((tI .i64).is v38), .c (tS.ptr v39), .c (tS.is v39), .c (tB.is (v39 == ([116, 111] : Str))), .c (tB.is (v39 == ([116, 111] : Str)))] [([], [4]), ([0], []), ([1], []), ([2], []), ([3], [5]), ([3, 4], []), ([3], [0]), ([3, 6], []), ([3, 5, 7], []), ([3, 8], []), ([9], []), ([10], []), ([10], [0]), ([10], [5]), ([10, 12, 13], []), ([10, 14], []), ([10, 11, 15], []), ([10, 16], []), ([10, 17], []), ([18], []), ([19], [0]), ([19], [5]), ([19, 21], []), ([19, 20, 22], []), ([19, 23], []), ([19, 24], []), ([19, 25], [])] Tryd.mixed rfl rfl rfl rfl (by exact ⟨.inr (Op1.fieldAddrB (o := 0) Tryd.underlying24 rfl (fun w => ⟨0, Tryd.sizeOf3 w⟩) (.tmp rfl) rfl), .inr (Op1.loadBF 4 rfl ty3 (fapi_Cite_k1_0 k3) rfl (.tmp rfl)), .inr (Op1.eqI (.tmp rfl) .i64), .inr (Op1.move (.tmp rfl)), .inr (dr rfl rfl rfl hb166 (Op1.move (.tmp rfl))), .inr (dr rfl rfl rfl hb166 (Op1.addC hv168 (.tmp rfl) .i64)), .inr (dr rfl rfl rfl hb166 (Op1.move (.tmp rfl))), .inr (dr rfl rfl rfl hb166 (Op1.lenL Tryd.underlying28 (.tmp rfl))), .inr (dr rfl rfl rfl hb166 (Op1.eqI (.tmp rfl) (.tmp rfl))), .inr (Op1.pickT (.tmp rfl) hb166 (.tmp rfl)), .inr (Op1.move (.tmp rfl)), .inr (dr rfl rfl rfl hb169 (Op1.call Tryd.call31 (r20_Plurals_spec _ hv171) trivial)), .inr (dr rfl rfl rfl hb169 (Op1.move (.tmp rfl))), .inr (dr rfl rfl rfl hb169 (Op1.move (.tmp rfl))), .inr (dr rfl rfl rfl hb169 (Op1.idx hv172 Tryd.underlying28 Tryd.sizeOf9 (.tmp rfl) (.tmp rfl))), .inr (dr rfl rfl rfl hb169 (Op1.load ty9 (.tmp rfl))), .inr (dr rfl rfl rfl hb169 (Op1.call Tryd.call42 (r20_kind_spec _ _ _ _ hv173) ⟨(.tmp rfl), (.tmp rfl), trivial⟩)), .inr (dr rfl rfl rfl hb169 (Op1.gtI (.tmp rfl) .i64)), .inr (Op1.pickT (.tmp rfl) hb169 (.tmp rfl)), .inr (Op1.move (.tmp rfl)), .inr (dr rfl rfl rfl hb174 (Op1.move (.tmp rfl))), .inr (dr rfl rfl rfl hb174 (Op1.move (.tmp rfl))), .inr (dr rfl rfl rfl hb174 (Op1.addC hv176 (.tmp rfl) .i64)), .inr (dr rfl rfl rfl hb174 (Op1.idx hv177 Tryd.underlying28 Tryd.sizeOf9 (.tmp rfl) (.tmp rfl))), .inr (dr rfl rfl rfl hb174 (Op1.load ty9 (.tmp rfl))), .inr (dr rfl rfl rfl hb174 (Op1.eqS (.tmp rfl) (.str rfl (by decide)))), .inr (Op1.pickT (.tmp rfl) hb174 (.tmp rfl)), trivial⟩) ?_
          refine WN.seq ?_
          refine W.cond (.tmp rfl) (fun hc178 => ?_) (fun hc178 => ?_)
          ·have hp179 := hc178
           rw [if_pos hp179] at hm
           refine W.sr ?_
           refine WL.op rfl (.fieldAddrB (o := 0) Tryd.underlying24 rfl (fun w => ⟨0, Tryd.sizeOf3 w⟩) (.tmp rfl) rfl) ?_
           refine WL.opU (OpR.storeBF (b := b1) 4 rfl ty3 (sapi_Cite_k1_0 k3) rfl (show 0 + 1 ≤ 5 by decide) (.tmp rfl) .i64) (fun _ => ?_)
           refine WL.ns ?_
           refine W.seq ?_
           obtain ⟨plural1, hv180, hm⟩ := bind_some hm
           obtain ⟨v40, hv181, hm⟩ := bind_some hm
           obtain ⟨kind11, hv182, hm⟩ := bind_some hm
           obtain ⟨v41, hv183, hm⟩ := bind_some hm
           obtain ⟨v42, hv184, hm⟩ := bind_some hm
           obtain ⟨out2, hv185, hm⟩ := bind_some hm
           refine W.weakR (res' := [(1000004, Dec.Own tapi_Step 50 k3 c2.Path.length), (4, (Bx 5 true 24 ((tapi_Cite_k1 k3).is ({ c2 with Kind := (1 : Int) } : api_Cite)) b1)), (2, (Bx 5 true 24 (tapi_Cite.is zapi_Cite) b))]) ⟨rfl, rfl, ⟨rfl, rfl, ⟨rfl, rfl, trivial⟩⟩⟩ ?_
           refine W.drawM [.c (Bp b1 1), .c (tO tapi_Step k3 c2.Path), .c ((tL tS).is plural1), .c ((tL tS).is w), .c ((tI .i64).is i2), .c (tS.ptr v40), .c (tS.is v40), .c ((tI .i64).is kind11), .c ((tL tS).is w), .c ((tI .i64).is i2), .c ((tI .i64).is v41), .c (tS.ptr v42), .c (tS.is v42), .c (tapi_Step.is (⟨kind11, v42⟩ : api_Step)), .c ((tL tapi_Step).is [(⟨kind11, v42⟩ : api_Step)]), .f (fun cv5 => (tO tapi_Step (cv5 0) out2)), .c (Bp b1 1), .c Asn.any] [([], [4]), ([0], []), ([], []), ([], [0]), ([], [5]), ([3, 4], []), ([5], []), ([2, 6], []), ([], [0]), ([], [5]), ([9], []), ([8, 10], []), ([11], []), ([7, 12], []), ([13], []), ([1, 14], []), ([], [4]), ([15, 16], [])] [15, 17] [[], [], [], [], [], [], [], [], [], [], [], [], [], [], [], [true], [], []] (fun m cv5 => match m with | 0 => [(1000004, Dec.Own tapi_Step 50 k3 c2.Path.length), (4, (Bx 5 true 24 ((tapi_Cite_k1 k3).is ({ c2 with Kind := (1 : Int) } : api_Cite)) b1)), (2, (Bx 5 true 24 (tapi_Cite.is zapi_Cite) b))] | 1 => [(1000004, Dec.Own tapi_Step 50 (cv5 0) out2.length), (4, (Bx 5 true 24 ((tapi_Cite_k1 k3).is ({ c2 with Kind := (1 : Int) } : api_Cite)) b1)), (2, (Bx 5 true 24 (tapi_Cite.is zapi_Cite) b))] | _ => [(4, (Bx 5 true 24 ((tapi_Cite_k1 (cv5 0)).is ({ ({ c2 with Kind := (1 : Int) } : api_Cite) with Path := out2 } : api_Cite)) b1)), (1000004, Dec.Own tapi_Step 50 (cv5 0) out2.length), (2, (Bx 5 true 24 (tapi_Cite.is zapi_Cite) b))]) (fun _ => none) Tryd.mixed rfl rfl rfl rfl rfl ⟨fun _ _ _ _ => rfl, ⟨fun _ _ _ _ => rfl, ⟨fun _ _ _ _ => rfl, ⟨fun _ _ _ _ => rfl, ⟨fun _ _ _ _ => rfl, ⟨fun _ _ _ _ => rfl, ⟨fun _ _ _ _ => rfl, ⟨fun _ _ _ _ => rfl, ⟨fun _ _ _ _ => rfl, ⟨fun _ _ _ _ => rfl, ⟨fun _ _ _ _ => rfl, ⟨fun _ _ _ _ => rfl, ⟨fun _ _ _ _ => rfl, ⟨fun _ _ _ _ => rfl, ⟨fun _ _ _ _ => rfl, ⟨fun m hm c t => by simp only [DA.at, upd_dep (r := [true]) (j := 0) rfl hm], ⟨fun _ _ _ _ => rfl, ⟨fun _ _ _ _ => rfl, trivial⟩⟩⟩⟩⟩⟩⟩⟩⟩⟩⟩⟩⟩⟩⟩⟩⟩⟩ rfl ⟨mo fun cv5 => Op1.fieldAddrB (o := 0) Tryd.underlying24 rfl (fun w => ⟨0, Tryd.sizeOf22 w⟩) (.tmp rfl) rfl, ⟨.inr ⟨fun cv5 => [(4, (Bx 5 true 24 ((tapi_Cite_k1 k3).is ({ c2 with Kind := (1 : Int) } : api_Cite)) b1))], (AllUpTo.at ⟨⟨(fun _ _ => ⟨rfl, rfl, trivial⟩), (fun hw => absurd hw (by decide))⟩, (fun hw => absurd hw (by decide))⟩), fun cv5 => Op1.ofOT (Op1.loadBF (t := (tOT tapi_Step k3)) (f := fun x : api_Cite => x.Path) (u := ({ c2 with Kind := (1 : Int) } : api_Cite)) 4 rfl ⟨ty22.agg, ty22.size⟩ (fapi_Cite_k1_1 k3) rfl (.tmp rfl))⟩, ⟨mo fun cv5 => Op1.call Tryd.call31 (r20_Plurals_spec _ hv180) trivial, ⟨mo fun cv5 => Op1.move (.tmp rfl), ⟨mo fun cv5 => Op1.move (.tmp rfl), ⟨mo fun cv5 => Op1.idx hv181 Tryd.underlying28 Tryd.sizeOf9 (.tmp rfl) (.tmp rfl), ⟨mo fun cv5 => Op1.load ty9 (.tmp rfl), ⟨mo fun cv5 => Op1.call Tryd.call42 (r20_kind_spec _ _ _ _ hv182) ⟨(.tmp rfl), (.tmp rfl), trivial⟩, ⟨mo fun cv5 => Op1.move (.tmp rfl), ⟨mo fun cv5 => Op1.move (.tmp rfl), ⟨mo fun cv5 => Op1.addC hv183 (.tmp rfl) .i64, ⟨mo fun cv5 => Op1.idx hv184 Tryd.underlying28 Tryd.sizeOf9 (.tmp rfl) (.tmp rfl), ⟨mo fun cv5 => Op1.load ty9 (.tmp rfl), ⟨mo fun cv5 => Op1.build (s := tapi_Step) (x := (⟨kind11, v42⟩ : api_Step)) zapi_Step_f rfl Tryd.underlying50 (zapi_Step_sz _ Tryd.underlying50) ze50 ⟨_, (tI .i64), kind11, _, _, rfl, Tryd.sizeOf3, (.tmp rfl), sapi_Step_0, ⟨_, tS, v42, _, _, rfl, Tryd.sizeOf9, (.tmp rfl), sapi_Step_1, rfl⟩⟩, ⟨mo fun cv5 => Op1.buildSlice (n := 1) (ys := [(0, (⟨kind11, v42⟩ : api_Step))]) (z := zapi_Step) (xs := [(⟨kind11, v42⟩ : api_Step)]) Tryd.underlying22 el50 ze50 ⟨rfl, (.tmp rfl), trivial⟩ (by simp) (by decide) rfl, ⟨.inl rfl, ⟨mo fun cv5 => Op1.fieldAddrB (o := 0) Tryd.underlying24 rfl (fun w => ⟨0, Tryd.sizeOf22 w⟩) (.tmp rfl) rfl, ⟨.inl rfl, trivial⟩⟩⟩⟩⟩⟩⟩⟩⟩⟩⟩⟩⟩⟩⟩⟩⟩⟩ ⟨⟨_, _, _, [1000004], (fun cv5 => [(1000004, Dec.Own tapi_Step 50 (cv5 0) out2.length)]), rfl, rfl, rfl, rfl, fun _ => rfl, fun _ _ => rfl, fun cv5 => OpR.appC (key := 1000004) hv185 Tryd.underlying22 el50 (.tmp rfl) (.tmp rfl) rfl⟩, ⟨⟨_, _, _, [4], (fun cv5 => [(4, (Bx 5 true 24 ((tapi_Cite_k1 (cv5 0)).is ({ ({ c2 with Kind := (1 : Int) } : api_Cite) with Path := out2 } : api_Cite)) b1))]), rfl, rfl, rfl, rfl, fun _ => rfl, fun _ _ => rfl, fun cv5 => OpR.viaU (OpR.storeBFT (b := b1) (s := (tapi_Cite_k1 k3)) (s' := (tapi_Cite_k1 (cv5 0))) (t := (tOT tapi_Step (cv5 0))) 4 rfl rfl ⟨ty22.agg, ty22.size⟩ (sTapi_Cite_k1 k3 (cv5 0)) rfl (show 1 + 1 ≤ 5 by decide) (.tmp rfl) (Opd.toOT (.tmp rfl)))⟩, trivial⟩⟩ (fun cv5 => ?_)
           refine WN.seq ?_
           refine W.sr ?_
           refine WL.mv rfl rfl ?_
           refine WL.mv rfl rfl ?_
           obtain ⟨v43, hv186, hm⟩ := bind_some hm
           refine WL.op rfl (.addC hv186 (.tmp rfl) .i64) ?_
           obtain ⟨v44, hv187, hm⟩ := bind_some hm
           refine WL.op rfl (.idx hv187 Tryd.underlying28 Tryd.sizeOf9 (.tmp rfl) (.tmp rfl)) ?_
           refine WL.op rfl (.load ty9 (.tmp rfl)) ?_
           refine WL.op rfl (.fieldAddrB (o := 0) Tryd.underlying24 rfl (fun w => ⟨0, Tryd.sizeOf9 w⟩) (.tmp rfl) rfl) ?_
           refine WL.opU (OpR.storeBF (b := b1) 4 rfl ty9 (sapi_Cite_k1_2 (cv5 0)) rfl (show 2 + 1 ≤ 5 by decide) (.tmp rfl) (.tmp rfl)) (fun _ => ?_)
           refine WL.nr1 ?_
           refine WL.mv rfl rfl ?_
           obtain ⟨v45, hv188, hm⟩ := bind_some hm
           refine WL.op rfl (.addC hv188 (.tmp rfl) .i64) ?_
           refine WL.gv rfl rfl ?_
           refine WL.nil ?_
           exact WN.meet ((v45, ({ ({ ({ c2 with Kind := (1 : Int) } : api_Cite) with Path := out2 } : api_Cite) with To := v44 } : api_Cite)), (cv5 0)) (Option.some.inj hm) ⟨Ent.q rfl, Ent.q rfl, Ent.q rfl, Ent.q rfl, trivial⟩ ⟨rfl, rfl, ⟨rfl, rfl, ⟨rfl, rfl, trivial⟩⟩⟩
          ·have hp179 := ne_of_false hc178
           rw [if_neg hp179] at hm
           refine W.skip ?_
           exact WN.meet ((i2, c2), k3) (Option.some.inj hm) ⟨Ent.q rfl, Ent.q rfl, Ent.q rfl, Ent.q rfl, trivial⟩ ⟨rfl, rfl, ⟨rfl, rfl, ⟨rfl, rfl, trivial⟩⟩⟩
         ·have hp175 := of_decide_eq_false hb174
          rw [if_neg hp175] at hm
          refine W.draw [.c (Bp b1 0), .c ((tI .i64).is c2.Kind), .c (tB.is (decide (c2.Kind = (0 : Int)))), .c (tB.is (decide (c2.Kind = (0 : Int)))), .c ((tI .i64).is i2), .c ((tI .i64).is v36), .c ((tL tS).is w), .c ((tI .i64).is (w.length : Int)), .c (tB.is (decide (v36 = (w.length : Int)))), .c (tB.is (decide (v36 = (w.length : Int)))), .c (tB.is (decide (v36 = (w.length : Int)))), .c ((tL tS).is plural), .c ((tL tS).is w), .c ((tI .i64).is i2), .c (tS.ptr v37), .c (tS.is v37), .c ((tI .i64).is kind10), .c (tB.is (decide ((0 : Int) < kind10))), .c (tB.is (decide ((0 : Int) < kind10))), .c (tB.is (decide ((0 : Int) < kind10))), .c (Asn.eq undef), .c (Asn.eq undef), .c (Asn.eq undef), .c (Asn.eq undef), .c (Asn.eq undef), .c (Asn.eq undef), .c (tB.is false)] [([], [4]), ([0], []), ([1], []), ([2], []), ([3], [5]), ([3, 4], []), ([3], [0]), ([3, 6], []), ([3, 5, 7], []), ([3, 8], []), ([9], []), ([10], []), ([10], [0]), ([10], [5]), ([10, 12, 13], []), ([10, 14], []), ([10, 11, 15], []), ([10, 16], []), ([10, 17], []), ([18], []), ([19], [0]), ([19], [5]), ([19, 21], []), ([19, 20, 22], []), ([19, 23], []), ([19, 24], []), ([19, 25], [])] Tryd.mixed rfl rfl rfl rfl (by exact ⟨.inr (Op1.fieldAddrB (o := 0) Tryd.underlying24 rfl (fun w => ⟨0, Tryd.sizeOf3 w⟩) (.tmp rfl) rfl), .inr (Op1.loadBF 4 rfl ty3 (fapi_Cite_k1_0 k3) rfl (.tmp rfl)), .inr (Op1.eqI (.tmp rfl) .i64), .inr (Op1.move (.tmp rfl)), .inr (dr rfl rfl rfl hb166 (Op1.move (.tmp rfl))), .inr (dr rfl rfl rfl hb166 (Op1.addC hv168 (.tmp rfl) .i64)), .inr (dr rfl rfl rfl hb166 (Op1.move (.tmp rfl))), .inr (dr rfl rfl rfl hb166 (Op1.lenL Tryd.underlying28 (.tmp rfl))), .inr (dr rfl rfl rfl hb166 (Op1.eqI (.tmp rfl) (.tmp rfl))), .inr (Op1.pickT (.tmp rfl) hb166 (.tmp rfl)), .inr (Op1.move (.tmp rfl)), .inr (dr rfl rfl rfl hb169 (Op1.call Tryd.call31 (r20_Plurals_spec _ hv171) trivial)), .inr (dr rfl rfl rfl hb169 (Op1.move (.tmp rfl))), .inr (dr rfl rfl rfl hb169 (Op1.move (.tmp rfl))), .inr (dr rfl rfl rfl hb169 (Op1.idx hv172 Tryd.underlying28 Tryd.sizeOf9 (.tmp rfl) (.tmp rfl))), .inr (dr rfl rfl rfl hb169 (Op1.load ty9 (.tmp rfl))), .inr (dr rfl rfl rfl hb169 (Op1.call Tryd.call42 (r20_kind_spec _ _ _ _ hv173) ⟨(.tmp rfl), (.tmp rfl), trivial⟩)), .inr (dr rfl rfl rfl hb169 (Op1.gtI (.tmp rfl) .i64)), .inr (Op1.pickT (.tmp rfl) hb169 (.tmp rfl)), .inr (Op1.move (.tmp rfl)), .inr (dp rfl rfl rfl hb174), .inr (dp rfl rfl rfl hb174), .inr (dp rfl rfl rfl hb174), .inr (dp rfl rfl rfl hb174), .inr (dp rfl rfl rfl hb174), .inr (dp rfl rfl rfl hb174), .inr (Op1.pickF (.tmp rfl) hb174 .bool), trivial⟩) ?_
          refine WN.seq ?_
          refine W.condF (.tmp rfl) ?_
          refine W.skip ?_
          exact WN.meet ((i2, c2), k3) (Option.some.inj hm) ⟨Ent.q rfl, Ent.q rfl, Ent.q rfl, Ent.q rfl, trivial⟩ ⟨rfl, rfl, ⟨rfl, rfl, ⟨rfl, rfl, trivial⟩⟩⟩
        ·have hp170 := of_decide_eq_false hb169
         rw [if_neg hp170] at hm
         refine W.draw [.c (Bp b1 0), .c ((tI .i64).is c2.Kind), .c (tB.is (decide (c2.Kind = (0 : Int)))), .c (tB.is (decide (c2.Kind = (0 : Int)))), .c ((tI .i64).is i2), .c ((tI .i64).is v36), .c ((tL tS).is w), .c ((tI .i64).is (w.length : Int)), .c (tB.is (decide (v36 = (w.length : Int)))), .c (tB.is (decide (v36 = (w.length : Int)))), .c (tB.is (decide (v36 = (w.length : Int)))), .c (Asn.eq undef), .c (Asn.eq undef), .c (Asn.eq undef), .c (Asn.eq undef), .c (Asn.eq undef), .c (Asn.eq undef), .c (Asn.eq undef), .c (tB.is false), .c (tB.is false), .c (Asn.eq undef), .c (Asn.eq undef), .c (Asn.eq undef), .c (Asn.eq undef), .c (Asn.eq undef), .c (Asn.eq undef), .c (tB.is false)] [([], [4]), ([0], []), ([1], []), ([2], []), ([3], [5]), ([3, 4], []), ([3], [0]), ([3, 6], []), ([3, 5, 7], []), ([3, 8], []), ([9], []), ([10], []), ([10], [0]), ([10], [5]), ([10, 12, 13], []), ([10, 14], []), ([10, 11, 15], []), ([10, 16], []), ([10, 17], []), ([18], []), ([19], [0]), ([19], [5]), ([19, 21], []), ([19, 20, 22], []), ([19, 23], []), ([19, 24], []), ([19, 25], [])] Tryd.mixed rfl rfl rfl rfl (by exact ⟨.inr (Op1.fieldAddrB (o := 0) Tryd.underlying24 rfl (fun w => ⟨0, Tryd.sizeOf3 w⟩) (.tmp rfl) rfl), .inr (Op1.loadBF 4 rfl ty3 (fapi_Cite_k1_0 k3) rfl (.tmp rfl)), .inr (Op1.eqI (.tmp rfl) .i64), .inr (Op1.move (.tmp rfl)), .inr (dr rfl rfl rfl hb166 (Op1.move (.tmp rfl))), .inr (dr rfl rfl rfl hb166 (Op1.addC hv168 (.tmp rfl) .i64)), .inr (dr rfl rfl rfl hb166 (Op1.move (.tmp rfl))), .inr (dr rfl rfl rfl hb166 (Op1.lenL Tryd.underlying28 (.tmp rfl))), .inr (dr rfl rfl rfl hb166 (Op1.eqI (.tmp rfl) (.tmp rfl))), .inr (Op1.pickT (.tmp rfl) hb166 (.tmp rfl)), .inr (Op1.move (.tmp rfl)), .inr (dp rfl rfl rfl hb169), .inr (dp rfl rfl rfl hb169), .inr (dp rfl rfl rfl hb169), .inr (dp rfl rfl rfl hb169), .inr (dp rfl rfl rfl hb169), .inr (dp rfl rfl rfl hb169), .inr (dp rfl rfl rfl hb169), .inr (Op1.pickF (.tmp rfl) hb169 .bool), .inr (Op1.move (.tmp rfl)), .inr (dp rfl rfl rfl rfl), .inr (dp rfl rfl rfl rfl), .inr (dp rfl rfl rfl rfl), .inr (dp rfl rfl rfl rfl), .inr (dp rfl rfl rfl rfl), .inr (dp rfl rfl rfl rfl), .inr (Op1.pickF (.tmp rfl) rfl .bool), trivial⟩) ?_
         refine WN.seq ?_
         refine W.condF (.tmp rfl) ?_
         refine W.skip ?_
         exact WN.meet ((i2, c2), k3) (Option.some.inj hm) ⟨Ent.q rfl, Ent.q rfl, Ent.q rfl, Ent.q rfl, trivial⟩ ⟨rfl, rfl, ⟨rfl, rfl, ⟨rfl, rfl, trivial⟩⟩⟩
       ·have hp167 := of_decide_eq_false hb166
        rw [if_neg hp167] at hm
        refine W.draw [.c (Bp b1 0), .c ((tI .i64).is c2.Kind), .c (tB.is (decide (c2.Kind = (0 : Int)))), .c (tB.is (decide (c2.Kind = (0 : Int)))), .c (Asn.eq undef), .c (Asn.eq undef), .c (Asn.eq undef), .c (Asn.eq undef), .c (Asn.eq undef), .c (tB.is false), .c (tB.is false), .c (Asn.eq undef), .c (Asn.eq undef), .c (Asn.eq undef), .c (Asn.eq undef), .c (Asn.eq undef), .c (Asn.eq undef), .c (Asn.eq undef), .c (tB.is false), .c (tB.is false), .c (Asn.eq undef), .c (Asn.eq undef), .c (Asn.eq undef), .c (Asn.eq undef), .c (Asn.eq undef), .c (Asn.eq undef), .c (tB.is false)] [([], [4]), ([0], []), ([1], []), ([2], []), ([3], [5]), ([3, 4], []), ([3], [0]), ([3, 6], []), ([3, 5, 7], []), ([3, 8], []), ([9], []), ([10], []), ([10], [0]), ([10], [5]), ([10, 12, 13], []), ([10, 14], []), ([10, 11, 15], []), ([10, 16], []), ([10, 17], []), ([18], []), ([19], [0]), ([19], [5]), ([19, 21], []), ([19, 20, 22], []), ([19, 23], []), ([19, 24], []), ([19, 25], [])] Tryd.mixed rfl rfl rfl rfl (by exact ⟨.inr (Op1.fieldAddrB (o := 0) Tryd.underlying24 rfl (fun w => ⟨0, Tryd.sizeOf3 w⟩) (.tmp rfl) rfl), .inr (Op1.loadBF 4 rfl ty3 (fapi_Cite_k1_0 k3) rfl (.tmp rfl)), .inr (Op1.eqI (.tmp rfl) .i64), .inr (Op1.move (.tmp rfl)), .inr (dp rfl rfl rfl hb166), .inr (dp rfl rfl rfl hb166), .inr (dp rfl rfl rfl hb166), .inr (dp rfl rfl rfl hb166), .inr (dp rfl rfl rfl hb166), .inr (Op1.pickF (.tmp rfl) hb166 .bool), .inr (Op1.move (.tmp rfl)), .inr (dp rfl rfl rfl rfl), .inr (dp rfl rfl rfl rfl), .inr (dp rfl rfl rfl rfl), .inr (dp rfl rfl rfl rfl), .inr (dp rfl rfl rfl rfl), .inr (dp rfl rfl rfl rfl), .inr (dp rfl rfl rfl rfl), .inr (Op1.pickF (.tmp rfl) rfl .bool), .inr (Op1.move (.tmp rfl)), .inr (dp rfl rfl rfl rfl), .inr (dp rfl rfl rfl rfl), .inr (dp rfl rfl rfl rfl), .inr (dp rfl rfl rfl rfl), .inr (dp rfl rfl rfl rfl), .inr (dp rfl rfl rfl rfl), .inr (Op1.pickF (.tmp rfl) rfl .bool), trivial⟩) ?_
        refine WN.seq ?_
        refine W.condF (.tmp rfl) ?_
        refine W.skip ?_
        exact WN.meet ((i2, c2), k3) (Option.some.inj hm) ⟨Ent.q rfl, Ent.q rfl, Ent.q rfl, Ent.q rfl, trivial⟩ ⟨rfl, rfl, ⟨rfl, rfl, ⟨rfl, rfl, trivial⟩⟩⟩
    ·have hp149 := of_decide_eq_false hb148
     rw [if_neg hp149] at hm
     refine W.draw [.c ((tI .i64).is i2), .c ((tI .i64).is v30), .c ((tL tS).is w), .c ((tI .i64).is (w.length : Int)), .c (tB.is (decide (v30 < (w.length : Int)))), .c (tB.is (decide (v30 < (w.length : Int)))), .c (Asn.eq undef), .c (Asn.eq undef), .c (Asn.eq undef), .c (Asn.eq undef), .c (Asn.eq undef), .c (Asn.eq undef), .c (Asn.eq undef), .c (tB.is false)] [([], [5]), ([0], []), ([], [0]), ([2], []), ([1, 3], []), ([4], []), ([5], []), ([5], [0]), ([5], [5]), ([5, 7, 8], []), ([5, 9], []), ([5, 6, 10], []), ([5, 11], []), ([5, 12], [])] Tryd.mixed rfl rfl rfl rfl ⟨.inr (Op1.move (.tmp rfl)), .inr (Op1.addC hv147 (.tmp rfl) .i64), .inr (Op1.move (.tmp rfl)), .inr (Op1.lenL Tryd.underlying28 (.tmp rfl)), .inr (Op1.ltI (.tmp rfl) (.tmp rfl)), .inr (Op1.move (.tmp rfl)), .inr (dp rfl rfl rfl hb148), .inr (dp rfl rfl rfl hb148), .inr (dp rfl rfl rfl hb148), .inr (dp rfl rfl rfl hb148), .inr (dp rfl rfl rfl hb148), .inr (dp rfl rfl rfl hb148), .inr (dp rfl rfl rfl hb148), .inr (Op1.pickF (.tmp rfl) hb148 .bool), trivial⟩ ?_
     refine WN.seq ?_
     refine W.condF (.tmp rfl) ?_
     refine W.exit rfl ?_
     have hr195 := Option.some.inj hm
     clear hm
     subst hr195
     have hm := hk145
     try dsimp only at hm
     refine WN.seq ?_
     obtain ⟨s196, hs197, hk198⟩ := bind_some hm
     clear hm
     refine W.join (fun s : (Int × api_Cite) × Tok => s.1 = s196) (fun s => [(5, ((tI .i64).is s.1.1)), (0, ((tL tS).is w)), (2, (Bp b 0)), (4, (Bp b1 0))]) (fun s => [(1000004, Dec.Own tapi_Step 50 s.2 s.1.2.Path.length), (4, (Bx 5 true 24 ((tapi_Cite_k1 s.2).is s.1.2) b1)), (2, (Bx 5 true 24 (tapi_Cite.is zapi_Cite) b))]) ?_ ?_
     ·rintro ⟨⟨i4, c4⟩, k5⟩ hj227
      try dsimp only at hj227
      subst hj227
      have hm := hk198
      clear hk198
      try dsimp only at hm
      change W _ _ _ _ _ _ _ [(5, ((tI .i64).is i4)), (0, ((tL tS).is w)), (2, (Bp b 0)), (4, (Bp b1 0))] [(1000004, Dec.Own tapi_Step 50 k5 c4.Path.length), (4, (Bx 5 true 24 ((tapi_Cite_k1 k5).is c4) b1)), (2, (Bx 5 true 24 (tapi_Cite.is zapi_Cite) b))]
      refine W.seq ?_
      refine W.sr ?_
      refine WL.mv rfl rfl ?_
      refine WL.mv rfl rfl ?_
      refine WL.op rfl (.lenL Tryd.underlying28 (.tmp rfl)) ?_
      refine WL.op rfl (.neI (.tmp rfl) (.tmp rfl)) ?_
      refine WL.mv rfl rfl ?_
      rcases bcases (decide (i4 ≠ (w.length : Int))) with hb222 | hb222
      ·have hp223 := of_decide_eq_true hb222
       rw [if_pos hp223] at hm
       iterate 3 refine WL.pass rfl rfl rfl rfl hb222 rfl rfl ?_
       refine WL.op rfl (.pickT (.tmp rfl) hb222 .bool) ?_
       refine WL.ns ?_
       refine W.condT (.tmp rfl) ?_
       refine W.sr ?_
       refine WL.op rfl (.build (s := tapi_Cite) (x := (⟨(0 : Int), ([] : List api_Step), ([] : Str), (0 : Int), (0 : Int)⟩ : api_Cite)) zapi_Cite_f rfl Tryd.underlying24 (zapi_Cite_sz _ Tryd.underlying24) ze24 rfl) ?_
       refine WL.opU (OpR.storeB (b := b) 2 Tryd.sizeOf24 (Cellable.is tapi_Cite (⟨(0 : Int), ([] : List api_Step), ([] : Str), (0 : Int), (0 : Int)⟩ : api_Cite)) rfl (.tmp rfl) (.tmp rfl)) (fun _ => ?_)
       refine WL.op rfl (.assign .bool) ?_
       refine WL.ns ?_
       cases hm
       exact W.retQ2 () rfl rfl (ResAt.cell 2 Tryd.isAgg24 Tryd.sizeOf24 rfl (.tmp rfl)) (ResAt.tmp (.tmp rfl)) trivial
      ·have hp223 := of_decide_eq_false hb222
       rw [if_neg hp223] at hm
       refine WL.run rfl rfl rfl rfl hb222 rfl rfl (Op1.loadB 4 Tryd.isAgg24 Tryd.sizeOf24 rfl (.tmp rfl)) ?_
       obtain ⟨may1, hv224, hm⟩ := bind_some hm
       refine WL.run rfl rfl rfl rfl hb222 rfl rfl (Op1.call Tryd.call12 (r20_May_spec _ _ _ hv224) ⟨(Opd.leT (leapi_Cite_k1 k5) (.tmp rfl)), trivial⟩) ?_
       refine WL.run rfl rfl rfl rfl hb222 rfl rfl (Op1.notB (.tmp rfl)) ?_
       refine WL.op rfl (.pickF (.tmp rfl) hb222 (.tmp rfl)) ?_
       refine WL.ns ?_
       refine W.cond (.tmp rfl) (fun hc225 => ?_) (fun hc225 => ?_)
       ·have hp226 := not_pos hc225
        rw [if_pos hp226] at hm
        refine W.sr ?_
        refine WL.op rfl (.build (s := tapi_Cite) (x := (⟨(0 : Int), ([] : List api_Step), ([] : Str), (0 : Int), (0 : Int)⟩ : api_Cite)) zapi_Cite_f rfl Tryd.underlying24 (zapi_Cite_sz _ Tryd.underlying24) ze24 rfl) ?_
        refine WL.opU (OpR.storeB (b := b) 2 Tryd.sizeOf24 (Cellable.is tapi_Cite (⟨(0 : Int), ([] : List api_Step), ([] : Str), (0 : Int), (0 : Int)⟩ : api_Cite)) rfl (.tmp rfl) (.tmp rfl)) (fun _ => ?_)
        refine WL.op rfl (.assign .bool) ?_
        refine WL.ns ?_
        cases hm
        exact W.retQ2 () rfl rfl (ResAt.cell 2 Tryd.isAgg24 Tryd.sizeOf24 rfl (.tmp rfl)) (ResAt.tmp (.tmp rfl)) trivial
       ·have hp226 := not_neg hc225
        rw [if_neg hp226] at hm
        refine W.skip ?_
        refine WN.seq ?_
        refine W.sr ?_
        refine WL.op rfl (.loadB 4 Tryd.isAgg24 Tryd.sizeOf24 rfl (.tmp rfl)) ?_
        refine WL.opU (OpR.storeB (b := b) 2 Tryd.sizeOf24 (Cellable.is tapi_Cite c4) rfl (.tmp rfl) (Opd.leT (leapi_Cite_k1 k5) (.tmp rfl))) (fun _ => ?_)
        refine WL.op rfl (.assign .bool) ?_
        refine WL.ns ?_
        cases hm
        exact W.retQ2 () rfl rfl (ResAt.cell 2 Tryd.isAgg24 Tryd.sizeOf24 rfl (.tmp rfl)) (ResAt.tmp (.tmp rfl)) trivial
     ·have hm := hs197
      clear hs197
      refine W.seq ?_
      rcases bcases (decide (c2.Kind = (0 : Int))) with hb199 | hb199
      ·have hp200 := of_decide_eq_true hb199
       rw [if_pos hp200] at hm
       obtain ⟨v46, hv201, hm⟩ := bind_some hm
       rcases bcases (decide (v46 = (w.length : Int))) with hb202 | hb202
       ·have hp203 := of_decide_eq_true hb202
        rw [if_pos hp203] at hm
        obtain ⟨plural2, hv204, hm⟩ := bind_some hm
        obtain ⟨v47, hv205, hm⟩ := bind_some hm
        obtain ⟨kind12, hv206, hm⟩ := bind_some hm
        rcases bcases (decide ((0 : Int) < kind12)) with hb207 | hb207
        ·have hp208 := of_decide_eq_true hb207
         rw [if_pos hp208] at hm
         obtain ⟨v48, hv209, hm⟩ := bind_some hm
         obtain ⟨v49, hv210, hm⟩ := bind_some hm
         refine W.draw [.c (Bp b1 0), .c ((tI .i64).is c2.Kind), .c (tB.is (decide (c2.Kind = (0 : Int)))), .c (tB.is (decide (c2.Kind = (0 : Int)))), .c ((tI .i64).is i2), .c ((tI .i64).is v46), .c ((tL tS).is w), .c ((tI .i64).is (w.length : Int)), .c (tB.is (decide (v46 = (w.length : Int)))), .c (tB.is (decide (v46 = (w.length : Int)))), .c (tB.is (decide (v46 = (w.length : Int)))), .c ((tL tS).is plural2), .c ((tL tS).is w), .c ((tI .i64).is i2), .c (tS.ptr v47), .c (tS.is v47), .c ((tI .i64).is kind12), .c (tB.is (decide ((0 : Int) < kind12))), .c (tB.is (decide ((0 : Int) < kind12))), .c (tB.is (decide ((0 : Int) < kind12))), .c ((tL tS).is w), .c ((tI .i64).is i2), .c ((tI .i64).is v48), .c (tS.ptr v49), .c (tS.is v49), .c (tB.is (v49 == ([116, 111] : Str))), .c (tB.is (v49 == ([116, 111] : Str)))] [([], [4]), ([0], []), ([1], []), ([2], []), ([3], [5]), ([3, 4], []), ([3], [0]), ([3, 6], []), ([3, 5, 7], []), ([3, 8], []), ([9], []), ([10], []), ([10], [0]), ([10], [5]), ([10, 12, 13], []), ([10, 14], []), ([10, 11, 15], []), ([10, 16], []), ([10, 17], []), ([18], []), ([19], [0]), ([19], [5]), ([19, 21], []), ([19, 20, 22], []), ([19, 23], []), ([19, 24], []), ([19, 25], [])] Tryd.mixed rfl rfl rfl rfl (by exact ⟨.inr (Op1.fieldAddrB (o := 0) Tryd.underlying24 rfl (fun w => ⟨0, Tryd.sizeOf3 w⟩) (.tmp rfl) rfl), .inr (Op1.loadBF 4 rfl ty3 (fapi_Cite_k1_0 k3) rfl (.tmp rfl)), .inr (Op1.eqI (.tmp rfl) .i64), .inr (Op1.move (.tmp rfl)), .inr (dr rfl rfl rfl hb199 (Op1.move (.tmp rfl))), .inr (dr rfl rfl rfl hb199 (Op1.addC hv201 (.tmp rfl) .i64)), .inr (dr rfl rfl rfl hb199 (Op1.move (.tmp rfl))), .inr (dr rfl rfl rfl hb199 (Op1.lenL Tryd.underlying28 (.tmp rfl))), .inr (dr rfl rfl rfl hb199 (Op1.eqI (.tmp rfl) (.tmp rfl))), .inr (Op1.pickT (.tmp rfl) hb199 (.tmp rfl)), .inr (Op1.move (.tmp rfl)), .inr (dr rfl rfl rfl hb202 (Op1.call Tryd.call31 (r20_Plurals_spec _ hv204) trivial)), .inr (dr rfl rfl rfl hb202 (Op1.move (.tmp rfl))), .inr (dr rfl rfl rfl hb202 (Op1.move (.tmp rfl))), .inr (dr rfl rfl rfl hb202 (Op1.idx hv205 Tryd.underlying28 Tryd.sizeOf9 (.tmp rfl) (.tmp rfl))), .inr (dr rfl rfl rfl hb202 (Op1.load ty9 (.tmp rfl))), .inr (dr rfl rfl rfl hb202 (Op1.call Tryd.call42 (r20_kind_spec _ _ _ _ hv206) ⟨(.tmp rfl), (.tmp rfl), trivial⟩)), .inr (dr rfl rfl rfl hb202 (Op1.gtI (.tmp rfl) .i64)), .inr (Op1.pickT (.tmp rfl) hb202 (.tmp rfl)), .inr (Op1.move (.tmp rfl)), .inr (dr rfl rfl rfl hb207 (Op1.move (.tmp rfl))), .inr (dr rfl rfl rfl hb207 (Op1.move (.tmp rfl))), .inr (dr rfl rfl rfl hb207 (Op1.addC hv209 (.tmp rfl) .i64)), .inr (dr rfl rfl rfl hb207 (Op1.idx hv210 Tryd.underlying28 Tryd.sizeOf9 (.tmp rfl) (.tmp rfl))), .inr (dr rfl rfl rfl hb207 (Op1.load ty9 (.tmp rfl))), .inr (dr rfl rfl rfl hb207 (Op1.eqS (.tmp rfl) (.str rfl (by decide)))), .inr (Op1.pickT (.tmp rfl) hb207 (.tmp rfl)), trivial⟩) ?_
         refine WN.seq ?_
         refine W.cond (.tmp rfl) (fun hc211 => ?_) (fun hc211 => ?_)
         ·have hp212 := hc211
          rw [if_pos hp212] at hm
          refine W.sr ?_
          refine WL.op rfl (.fieldAddrB (o := 0) Tryd.underlying24 rfl (fun w => ⟨0, Tryd.sizeOf3 w⟩) (.tmp rfl) rfl) ?_
          refine WL.opU (OpR.storeBF (b := b1) 4 rfl ty3 (sapi_Cite_k1_0 k3) rfl (show 0 + 1 ≤ 5 by decide) (.tmp rfl) .i64) (fun _ => ?_)
          refine WL.ns ?_
          refine W.seq ?_
          obtain ⟨plural3, hv213, hm⟩ := bind_some hm
          obtain ⟨v50, hv214, hm⟩ := bind_some hm
          obtain ⟨kind13, hv215, hm⟩ := bind_some hm
          obtain ⟨v51, hv216, hm⟩ := bind_some hm
          obtain ⟨v52, hv217, hm⟩ := bind_some hm
          obtain ⟨out3, hv218, hm⟩ := bind_some hm
          refine W.weakR (res' := [(1000004, Dec.Own tapi_Step 50 k3 c2.Path.length), (4, (Bx 5 true 24 ((tapi_Cite_k1 k3).is ({ c2 with Kind := (1 : Int) } : api_Cite)) b1)), (2, (Bx 5 true 24 (tapi_Cite.is zapi_Cite) b))]) ⟨rfl, rfl, ⟨rfl, rfl, ⟨rfl, rfl, trivial⟩⟩⟩ ?_
          refine W.drawM [.c (Bp b1 1), .c (tO tapi_Step k3 c2.Path), .c ((tL tS).is plural3), .c ((tL tS).is w), .c ((tI .i64).is i2), .c (tS.ptr v50), .c (tS.is v50), .c ((tI .i64).is kind13), .c ((tL tS).is w), .c ((tI .i64).is i2), .c ((tI .i64).is v51), .c (tS.ptr v52), .c (tS.is v52), .c (tapi_Step.is (⟨kind13, v52⟩ : api_Step)), .c ((tL tapi_Step).is [(⟨kind13, v52⟩ : api_Step)]), .f (fun cv6 => (tO tapi_Step (cv6 0) out3)), .c (Bp b1 1), .c Asn.any] [([], [4]), ([0], []), ([], []), ([], [0]), ([], [5]), ([3, 4], []), ([5], []), ([2, 6], []), ([], [0]), ([], [5]), ([9], []), ([8, 10], []), ([11], []), ([7, 12], []), ([13], []), ([1, 14], []), ([], [4]), ([15, 16], [])] [15, 17] [[], [], [], [], [], [], [], [], [], [], [], [], [], [], [], [true], [], []] (fun m cv6 => match m with | 0 => [(1000004, Dec.Own tapi_Step 50 k3 c2.Path.length), (4, (Bx 5 true 24 ((tapi_Cite_k1 k3).is ({ c2 with Kind := (1 : Int) } : api_Cite)) b1)), (2, (Bx 5 true 24 (tapi_Cite.is zapi_Cite) b))] | 1 => [(1000004, Dec.Own tapi_Step 50 (cv6 0) out3.length), (4, (Bx 5 true 24 ((tapi_Cite_k1 k3).is ({ c2 with Kind := (1 : Int) } : api_Cite)) b1)), (2, (Bx 5 true 24 (tapi_Cite.is zapi_Cite) b))] | _ => [(4, (Bx 5 true 24 ((tapi_Cite_k1 (cv6 0)).is ({ ({ c2 with Kind := (1 : Int) } : api_Cite) with Path := out3 } : api_Cite)) b1)), (1000004, Dec.Own tapi_Step 50 (cv6 0) out3.length), (2, (Bx 5 true 24 (tapi_Cite.is zapi_Cite) b))]) (fun _ => none) Tryd.mixed rfl rfl rfl rfl rfl ⟨fun _ _ _ _ => rfl, ⟨fun _ _ _ _ => rfl, ⟨fun _ _ _ _ => rfl, ⟨fun _ _ _ _ => rfl, ⟨fun _ _ _ _ => rfl, ⟨fun _ _ _ _ => rfl, ⟨fun _ _ _ _ => rfl, ⟨fun _ _ _ _ => rfl, ⟨fun _ _ _ _ => rfl, ⟨fun _ _ _ _ => rfl, ⟨fun _ _ _ _ => rfl, ⟨fun _ _ _ _ => rfl, ⟨fun _ _ _ _ => rfl, ⟨fun _ _ _ _ => rfl, ⟨fun _ _ _ _ => rfl, ⟨fun m hm c t => by simp only [DA.at, upd_dep (r := [true]) (j := 0) rfl hm], ⟨fun _ _ _ _ => rfl, ⟨fun _ _ _ _ => rfl, trivial⟩⟩⟩⟩⟩⟩⟩⟩⟩⟩⟩⟩⟩⟩⟩⟩⟩⟩ rfl ⟨mo fun cv6 => Op1.fieldAddrB (o := 0) Tryd.underlying24 rfl (fun w => ⟨0, Tryd.sizeOf22 w⟩) (.tmp rfl) rfl, ⟨.inr ⟨fun cv6 => [(4, (Bx 5 true 24 ((tapi_Cite_k1 k3).is ({ c2 with Kind := (1 : Int) } : api_Cite)) b1))], (AllUpTo.at ⟨⟨(fun _ _ => ⟨rfl, rfl, trivial⟩), (fun hw => absurd hw (by decide))⟩, (fun hw => absurd hw (by decide))⟩), fun cv6 => Op1.ofOT (Op1.loadBF (t := (tOT tapi_Step k3)) (f := fun x : api_Cite => x.Path) (u := ({ c2 with Kind := (1 : Int) } : api_Cite)) 4 rfl ⟨ty22.agg, ty22.size⟩ (fapi_Cite_k1_1 k3) rfl (.tmp rfl))⟩, ⟨mo fun cv6 => Op1.call Tryd.call31 (r20_Plurals_spec _ hv213) trivial, ⟨mo fun cv6 => Op1.move (.tmp rfl), ⟨mo fun cv6 => Op1.move (.tmp rfl), ⟨mo fun cv6 => Op1.idx hv214 Tryd.underlying28 Tryd.sizeOf9 (.tmp rfl) (.tmp rfl), ⟨mo fun cv6 => Op1.load ty9 (.tmp rfl), ⟨mo fun cv6 => Op1.call Tryd.call42 (r20_kind_spec _ _ _ _ hv215) ⟨(.tmp rfl), (.tmp rfl), trivial⟩, ⟨mo fun cv6 => Op1.move (.tmp rfl), ⟨mo fun cv6 => Op1.move (.tmp rfl), ⟨mo fun cv6 => Op1.addC hv216 (.tmp rfl) .i64, ⟨mo fun cv6 => Op1.idx hv217 Tryd.underlying28 Tryd.sizeOf9 (.tmp rfl) (.tmp rfl), ⟨mo fun cv6 => Op1.load ty9 (.tmp rfl), ⟨mo fun cv6 => Op1.build (s := tapi_Step) (x := (⟨kind13, v52⟩ : api_Step)) zapi_Step_f rfl Tryd.underlying50 (zapi_Step_sz _ Tryd.underlying50) ze50 ⟨_, (tI .i64), kind13, _, _, rfl, Tryd.sizeOf3, (.tmp rfl), sapi_Step_0, ⟨_, tS, v52, _, _, rfl, Tryd.sizeOf9, (.tmp rfl), sapi_Step_1, rfl⟩⟩, ⟨mo fun cv6 => Op1.buildSlice (n := 1) (ys := [(0, (⟨kind13, v52⟩ : api_Step))]) (z := zapi_Step) (xs := [(⟨kind13, v52⟩ : api_Step)]) Tryd.underlying22 el50 ze50 ⟨rfl, (.tmp rfl), trivial⟩ (by simp) (by decide) rfl, ⟨.inl rfl, ⟨mo fun cv6 => Op1.fieldAddrB (o := 0) Tryd.underlying24 rfl (fun w => ⟨0, Tryd.sizeOf22 w⟩) (.tmp rfl) rfl, ⟨.inl rfl, trivial⟩⟩⟩⟩⟩⟩⟩⟩⟩⟩⟩⟩⟩⟩⟩⟩⟩⟩ ⟨⟨_, _, _, [1000004], (fun cv6 => [(1000004, Dec.Own tapi_Step 50 (cv6 0) out3.length)]), rfl, rfl, rfl, rfl, fun _ => rfl, fun _ _ => rfl, fun cv6 => OpR.appC (key := 1000004) hv218 Tryd.underlying22 el50 (.tmp rfl) (.tmp rfl) rfl⟩, ⟨⟨_, _, _, [4], (fun cv6 => [(4, (Bx 5 true 24 ((tapi_Cite_k1 (cv6 0)).is ({ ({ c2 with Kind := (1 : Int) } : api_Cite) with Path := out3 } : api_Cite)) b1))]), rfl, rfl, rfl, rfl, fun _ => rfl, fun _ _ => rfl, fun cv6 => OpR.viaU (OpR.storeBFT (b := b1) (s := (tapi_Cite_k1 k3)) (s' := (tapi_Cite_k1 (cv6 0))) (t := (tOT tapi_Step (cv6 0))) 4 rfl rfl ⟨ty22.agg, ty22.size⟩ (sTapi_Cite_k1 k3 (cv6 0)) rfl (show 1 + 1 ≤ 5 by decide) (.tmp rfl) (Opd.toOT (.tmp rfl)))⟩, trivial⟩⟩ (fun cv6 => ?_)
          refine WN.seq ?_
          refine W.sr ?_
          refine WL.mv rfl rfl ?_
          refine WL.mv rfl rfl ?_
          obtain ⟨v53, hv219, hm⟩ := bind_some hm
          refine WL.op rfl (.addC hv219 (.tmp rfl) .i64) ?_
          obtain ⟨v54, hv220, hm⟩ := bind_some hm
          refine WL.op rfl (.idx hv220 Tryd.underlying28 Tryd.sizeOf9 (.tmp rfl) (.tmp rfl)) ?_
          refine WL.op rfl (.load ty9 (.tmp rfl)) ?_
          refine WL.op rfl (.fieldAddrB (o := 0) Tryd.underlying24 rfl (fun w => ⟨0, Tryd.sizeOf9 w⟩) (.tmp rfl) rfl) ?_
          refine WL.opU (OpR.storeBF (b := b1) 4 rfl ty9 (sapi_Cite_k1_2 (cv6 0)) rfl (show 2 + 1 ≤ 5 by decide) (.tmp rfl) (.tmp rfl)) (fun _ => ?_)
          refine WL.nr1 ?_
          refine WL.mv rfl rfl ?_
          obtain ⟨v55, hv221, hm⟩ := bind_some hm
          refine WL.op rfl (.addC hv221 (.tmp rfl) .i64) ?_
          refine WL.gv rfl rfl ?_
          refine WL.nil ?_
          exact WN.meet ((v55, ({ ({ ({ c2 with Kind := (1 : Int) } : api_Cite) with Path := out3 } : api_Cite) with To := v54 } : api_Cite)), (cv6 0)) (Option.some.inj hm) ⟨Ent.q rfl, Ent.q rfl, Ent.q rfl, Ent.q rfl, trivial⟩ ⟨rfl, rfl, ⟨rfl, rfl, ⟨rfl, rfl, trivial⟩⟩⟩
         ·have hp212 := ne_of_false hc211
          rw [if_neg hp212] at hm
          refine W.skip ?_
          exact WN.meet ((i2, c2), k3) (Option.some.inj hm) ⟨Ent.q rfl, Ent.q rfl, Ent.q rfl, Ent.q rfl, trivial⟩ ⟨rfl, rfl, ⟨rfl, rfl, ⟨rfl, rfl, trivial⟩⟩⟩
        ·have hp208 := of_decide_eq_false hb207
         rw [if_neg hp208] at hm
         refine W.draw [.c (Bp b1 0), .c ((tI .i64).is c2.Kind), .c (tB.is (decide (c2.Kind = (0 : Int)))), .c (tB.is (decide (c2.Kind = (0 : Int)))), .c ((tI .i64).is i2), .c ((tI .i64).is v46), .c ((tL tS).is w), .c ((tI .i64).is (w.length : Int)), .c (tB.is (decide (v46 = (w.length : Int)))), .c (tB.is (decide (v46 = (w.length : Int)))), .c (tB.is (decide (v46 = (w.length : Int)))), .c ((tL tS).is plural2), .c ((tL tS).is w), .c ((tI .i64).is i2), .c (tS.ptr v47), .c (tS.is v47), .c ((tI .i64).is kind12), .c (tB.is (decide ((0 : Int) < kind12))), .c (tB.is (decide ((0 : Int) < kind12))), .c (tB.is (decide ((0 : Int) < kind12))), .c (Asn.eq undef), .c (Asn.eq undef), .c (Asn.eq undef), .c (Asn.eq undef), .c (Asn.eq undef), .c (Asn.eq undef), .c (tB.is false)] [([], [4]), ([0], []), ([1], []), ([2], []), ([3], [5]), ([3, 4], []), ([3], [0]), ([3, 6], []), ([3, 5, 7], []), ([3, 8], []), ([9], []), ([10], []), ([10], [0]), ([10], [5]), ([10, 12, 13], []), ([10, 14], []), ([10, 11, 15], []), ([10, 16], []), ([10, 17], []), ([18], []), ([19], [0]), ([19], [5]), ([19, 21], []), ([19, 20, 22], []), ([19, 23], []), ([19, 24], []), ([19, 25], [])] Tryd.mixed rfl rfl rfl rfl (by exact ⟨.inr (Op1.fieldAddrB (o := 0) Tryd.underlying24 rfl (fun w => ⟨0, Tryd.sizeOf3 w⟩) (.tmp rfl) rfl), .inr (Op1.loadBF 4 rfl ty3 (fapi_Cite_k1_0 k3) rfl (.tmp rfl)), .inr (Op1.eqI (.tmp rfl) .i64), .inr (Op1.move (.tmp rfl)), .inr (dr rfl rfl rfl hb199 (Op1.move (.tmp rfl))), .inr (dr rfl rfl rfl hb199 (Op1.addC hv201 (.tmp rfl) .i64)), .inr (dr rfl rfl rfl hb199 (Op1.move (.tmp rfl))), .inr (dr rfl rfl rfl hb199 (Op1.lenL Tryd.underlying28 (.tmp rfl))), .inr (dr rfl rfl rfl hb199 (Op1.eqI (.tmp rfl) (.tmp rfl))), .inr (Op1.pickT (.tmp rfl) hb199 (.tmp rfl)), .inr (Op1.move (.tmp rfl)), .inr (dr rfl rfl rfl hb202 (Op1.call Tryd.call31 (r20_Plurals_spec _ hv204) trivial)), .inr (dr rfl rfl rfl hb202 (Op1.move (.tmp rfl))), .inr (dr rfl rfl rfl hb202 (Op1.move (.tmp rfl))), .inr (dr rfl rfl rfl hb202 (Op1.idx hv205 Tryd.underlying28 Tryd.sizeOf9 (.tmp rfl) (.tmp rfl))), .inr (dr rfl rfl rfl hb202 (Op1.load ty9 (.tmp rfl))), .inr (dr rfl rfl rfl hb202 (Op1.call Tryd.call42 (r20_kind_spec _ _ _ _ hv206) ⟨(.tmp rfl), (.tmp rfl), trivial⟩)), .inr (dr rfl rfl rfl hb202 (Op1.gtI (.tmp rfl) .i64)), .inr (Op1.pickT (.tmp rfl) hb202 (.tmp rfl)), .inr (Op1.move (.tmp rfl)), .inr (dp rfl rfl rfl hb207), .inr (dp rfl rfl rfl hb207), .inr (dp rfl rfl rfl hb207), .inr (dp rfl rfl rfl hb207), .inr (dp rfl rfl rfl hb207), .inr (dp rfl rfl rfl hb207), .inr (Op1.pickF (.tmp rfl) hb207 .bool), trivial⟩) ?_
         refine WN.seq ?_
         refine W.condF (.tmp rfl) ?_
         refine W.skip ?_
         exact WN.meet ((i2, c2), k3) (Option.some.inj hm) ⟨Ent.q rfl, Ent.q rfl, Ent.q rfl, Ent.q rfl, trivial⟩ ⟨rfl, rfl, ⟨rfl, rfl, ⟨rfl, rfl, trivial⟩⟩⟩
       ·have hp203 := of_decide_eq_false hb202
        rw [if_neg hp203] at hm
        refine W.draw [.c (Bp b1 0), .c ((tI .i64).is c2.Kind), .c (tB.is (decide (c2.Kind = (0 : Int)))), .c (tB.is (decide (c2.Kind = (0 : Int)))), .c ((tI .i64).is i2), .c ((tI .i64).is v46), .c ((tL tS).is w), .c ((tI .i64).is (w.length : Int)), .c (tB.is (decide (v46 = (w.length : Int)))), .c (tB.is (decide (v46 = (w.length : Int)))), .c (tB.is (decide (v46 = (w.length : Int)))), .c (Asn.eq undef), .c (Asn.eq undef), .c (Asn.eq undef), .c (Asn.eq undef), .c (Asn.eq undef), .c (Asn.eq undef), .c (Asn.eq undef), .c (tB.is false), .c (tB.is false), .c (Asn.eq undef), .c (Asn.eq undef), .c (Asn.eq undef), .c (Asn.eq undef), .c (Asn.eq undef), .c (Asn.eq undef), .c (tB.is false)] [([], [4]), ([0], []), ([1], []), ([2], []), ([3], [5]), ([3, 4], []), ([3], [0]), ([3, 6], []), ([3, 5, 7], []), ([3, 8], []), ([9], []), ([10], []), ([10], [0]), ([10], [5]), ([10, 12, 13], []), ([10, 14], []), ([10, 11, 15], []), ([10, 16], []), ([10, 17], []), ([18], []), ([19], [0]), ([19], [5]), ([19, 21], []), ([19, 20, 22], []), ([19, 23], []), ([19, 24], []), ([19, 25], [])] Tryd.mixed rfl rfl rfl rfl (by exact ⟨.inr (Op1.fieldAddrB (o := 0) Tryd.underlying24 rfl (fun w => ⟨0, Tryd.sizeOf3 w⟩) (.tmp rfl) rfl), .inr (Op1.loadBF 4 rfl ty3 (fapi_Cite_k1_0 k3) rfl (.tmp rfl)), .inr (Op1.eqI (.tmp rfl) .i64), .inr (Op1.move (.tmp rfl)), .inr (dr rfl rfl rfl hb199 (Op1.move (.tmp rfl))), .inr (dr rfl rfl rfl hb199 (Op1.addC hv201 (.tmp rfl) .i64)), .inr (dr rfl rfl rfl hb199 (Op1.move (.tmp rfl))), .inr (dr rfl rfl rfl hb199 (Op1.lenL Tryd.underlying28 (.tmp rfl))), .inr (dr rfl rfl rfl hb199 (Op1.eqI (.tmp rfl) (.tmp rfl))), .inr (Op1.pickT (.tmp rfl) hb199 (.tmp rfl)), .inr (Op1.move (.tmp rfl)), .inr (dp rfl rfl rfl hb202), .inr (dp rfl rfl rfl hb202), .inr (dp rfl rfl rfl hb202), .inr (dp rfl rfl rfl hb202), .inr (dp rfl rfl rfl hb202), .inr (dp rfl rfl rfl hb202), .inr (dp rfl rfl rfl hb202), .inr (Op1.pickF (.tmp rfl) hb202 .bool), .inr (Op1.move (.tmp rfl)), .inr (dp rfl rfl rfl rfl), .inr (dp rfl rfl rfl rfl), .inr (dp rfl rfl rfl rfl), .inr (dp rfl rfl rfl rfl), .inr (dp rfl rfl rfl rfl), .inr (dp rfl rfl rfl rfl), .inr (Op1.pickF (.tmp rfl) rfl .bool), trivial⟩) ?_
        refine WN.seq ?_
        refine W.condF (.tmp rfl) ?_
        refine W.skip ?_
        exact WN.meet ((i2, c2), k3) (Option.some.inj hm) ⟨Ent.q rfl, Ent.q rfl, Ent.q rfl, Ent.q rfl, trivial⟩ ⟨rfl, rfl, ⟨rfl, rfl, ⟨rfl, rfl, trivial⟩⟩⟩
      ·have hp200 := of_decide_eq_false hb199
       rw [if_neg hp200] at hm
       refine W.draw [.c (Bp b1 0), .c ((tI .i64).is c2.Kind), .c (tB.is (decide (c2.Kind = (0 : Int)))), .c (tB.is (decide (c2.Kind = (0 : Int)))), .c (Asn.eq undef), .c (Asn.eq undef), .c (Asn.eq undef), .c (Asn.eq undef), .c (Asn.eq undef), .c (tB.is false), .c (tB.is false), .c (Asn.eq undef), .c (Asn.eq undef), .c (Asn.eq undef), .c (Asn.eq undef), .c (Asn.eq undef), .c (Asn.eq undef), .c (Asn.eq undef), .c (tB.is false), .c (tB.is false), .c (Asn.eq undef), .c (Asn.eq undef), .c (Asn.eq undef), .c (Asn.eq undef), .c (Asn.eq undef), .c (Asn.eq undef), .c (tB.is false)] [([], [4]), ([0], []), ([1], []), ([2], []), ([3], [5]), ([3, 4], []), ([3], [0]), ([3, 6], []), ([3, 5, 7], []), ([3, 8], []), ([9], []), ([10], []), ([10], [0]), ([10], [5]), ([10, 12, 13], []), ([10, 14], []), ([10, 11, 15], []), ([10, 16], []), ([10, 17], []), ([18], []), ([19], [0]), ([19], [5]), ([19, 21], []), ([19, 20, 22], []), ([19, 23], []), ([19, 24], []), ([19, 25], [])] Tryd.mixed rfl rfl rfl rfl (by exact ⟨.inr (Op1.fieldAddrB (o := 0) Tryd.underlying24 rfl (fun w => ⟨0, Tryd.sizeOf3 w⟩) (.tmp rfl) rfl), .inr (Op1.loadBF 4 rfl ty3 (fapi_Cite_k1_0 k3) rfl (.tmp rfl)), .inr (Op1.eqI (.tmp rfl) .i64), .inr (Op1.move (.tmp rfl)), .inr (dp rfl rfl rfl hb199), .inr (dp rfl rfl rfl hb199), .inr (dp rfl rfl rfl hb199), .inr (dp rfl rfl rfl hb199), .inr (dp rfl rfl rfl hb199), .inr (Op1.pickF (.tmp rfl) hb199 .bool), .inr (Op1.move (.tmp rfl)), .inr (dp rfl rfl rfl rfl), .inr (dp rfl rfl rfl rfl), .inr (dp rfl rfl rfl rfl), .inr (dp rfl rfl rfl rfl), .inr (dp rfl rfl rfl rfl), .inr (dp rfl rfl rfl rfl), .inr (dp rfl rfl rfl rfl), .inr (Op1.pickF (.tmp rfl) rfl .bool), .inr (Op1.move (.tmp rfl)), .inr (dp rfl rfl rfl rfl), .inr (dp rfl rfl rfl rfl), .inr (dp rfl rfl rfl rfl), .inr (dp rfl rfl rfl rfl), .inr (dp rfl rfl rfl rfl), .inr (dp rfl rfl rfl rfl), .inr (Op1.pickF (.tmp rfl) rfl .bool), trivial⟩) ?_
       refine WN.seq ?_
       refine W.condF (.tmp rfl) ?_
       refine W.skip ?_
       exact WN.meet ((i2, c2), k3) (Option.some.inj hm) ⟨Ent.q rfl, Ent.q rfl, Ent.q rfl, Ent.q rfl, trivial⟩ ⟨rfl, rfl, ⟨rfl, rfl, ⟨rfl, rfl, trivial⟩⟩⟩
  ·have hm := hs126
   clear hs126
   obtain ⟨s128, hs129, hk130⟩ := bind_some hm
   clear hm
   refine W.join (fun s : Bool => s = s128) (fun s => [(95, (tB.is s)), (0, ((tL tS).is w)), (2, (Bp b 0)), (4, (Bp b1 0)), (5, ((tI .i64).is i))]) (fun s => [(1000004, Dec.Own tapi_Step 50 k c.Path.length), (2, (Bx 5 true 24 (tapi_Cite.is zapi_Cite) b)), (4, (Bx 5 true 24 ((tapi_Cite_k1 k).is c) b1))]) ?_ ?_
   ·rintro v27 hj142
    try dsimp only at hj142
    subst hj142
    have hm := hk130
    clear hk130
    try dsimp only at hm
    change W _ _ _ _ _ _ _ [(95, (tB.is v27)), (0, ((tL tS).is w)), (2, (Bp b 0)), (4, (Bp b1 0)), (5, ((tI .i64).is i))] [(1000004, Dec.Own tapi_Step 50 k c.Path.length), (2, (Bx 5 true 24 (tapi_Cite.is zapi_Cite) b)), (4, (Bx 5 true 24 ((tapi_Cite_k1 k).is c) b1))]
    refine W.cond (.tmp rfl) (fun hc138 => ?_) (fun hc138 => ?_)
    ·have hp139 := hc138
     rw [if_pos hp139] at hm
     refine W.sr ?_
     refine WL.op rfl (.fieldAddrB (o := 0) Tryd.underlying24 rfl (fun w => ⟨0, Tryd.sizeOf22 w⟩) (.tmp rfl) rfl) ?_
     refine WL.op rfl (.ofOT (Op1.loadBF (t := (tOT tapi_Step k)) (f := fun x : api_Cite => x.Path) (u := c) 4 rfl ⟨ty22.agg, ty22.size⟩ (fapi_Cite_k1_1 k) rfl (.tmp rfl))) ?_
     refine WL.op rfl (.build (s := tapi_Step) (x := (⟨(0 : Int), ([] : Str)⟩ : api_Step)) zapi_Step_f rfl Tryd.underlying50 (zapi_Step_sz _ Tryd.underlying50) ze50 rfl) ?_
     refine WL.op rfl (.buildSlice (n := 1) (ys := [(0, (⟨(0 : Int), ([] : Str)⟩ : api_Step))]) (z := zapi_Step) (xs := [(⟨(0 : Int), ([] : Str)⟩ : api_Step)]) Tryd.underlying22 el50 ze50 ⟨rfl, (.tmp rfl), trivial⟩ (by simp) (by decide) rfl) ?_
     obtain ⟨out, hv140, hm⟩ := bind_some hm
     refine WL.opR rfl (OpR.appC (key := 1000004) hv140 Tryd.underlying22 el50 (.tmp rfl) (.tmp rfl) rfl) (fun k2 => ?_)
     refine WL.op rfl (.fieldAddrB (o := 0) Tryd.underlying24 rfl (fun w => ⟨0, Tryd.sizeOf22 w⟩) (.tmp rfl) rfl) ?_
     refine WL.opU (OpR.storeBFT (b := b1) (s := (tapi_Cite_k1 k)) (s' := (tapi_Cite_k1 k2)) (t := (tOT tapi_Step k2)) 4 rfl rfl ⟨ty22.agg, ty22.size⟩ (sTapi_Cite_k1 k k2) rfl (show 1 + 1 ≤ 5 by decide) (.tmp rfl) (Opd.toOT (.tmp rfl))) (fun _ => ?_)
     refine WL.nr1 ?_
     refine WL.mv rfl rfl ?_
     obtain ⟨v29, hv141, hm⟩ := bind_some hm
     refine WL.op rfl (.addC hv141 (.tmp rfl) .i64) ?_
     refine WL.gv rfl rfl ?_
     refine WL.nil ?_
     exact WN.meet ((v29, ({ c with Path := out } : api_Cite)), k2) (Option.some.inj hm) ⟨Ent.q rfl, Ent.q rfl, Ent.q rfl, Ent.q rfl, trivial⟩ ⟨rfl, rfl, ⟨rfl, rfl, ⟨rfl, rfl, trivial⟩⟩⟩
    ·have hp139 := ne_of_false hc138
     rw [if_neg hp139] at hm
     refine W.skip ?_
     exact WN.meet ((i, c), k) (Option.some.inj hm) ⟨Ent.q rfl, Ent.q rfl, Ent.q rfl, Ent.q rfl, trivial⟩ ⟨rfl, rfl, ⟨rfl, rfl, ⟨rfl, rfl, trivial⟩⟩⟩
   ·have hm := hs129
    clear hs129
    refine W.region ?_
    refine WL.op rfl (.fieldAddrB (o := 0) Tryd.underlying24 rfl (fun w => ⟨0, Tryd.sizeOf3 w⟩) (.tmp rfl) rfl) ?_
    refine WL.op rfl (.loadBF 4 rfl ty3 (fapi_Cite_k1_0 k) rfl (.tmp rfl)) ?_
    refine WL.op rfl (.neI (.tmp rfl) .i64) ?_
    refine WL.mv rfl rfl ?_
    rcases bcases (decide (c.Kind ≠ (2 : Int))) with hb131 | hb131
    ·have hp132 := of_decide_eq_true hb131
     rw [if_pos hp132] at hm
     refine WL.run rfl rfl rfl rfl hb131 rfl rfl (Op1.fieldAddrB (o := 0) Tryd.underlying24 rfl (fun w => ⟨0, Tryd.sizeOf3 w⟩) (.tmp rfl) rfl) ?_
     refine WL.run rfl rfl rfl rfl hb131 rfl rfl (Op1.loadBF 4 rfl ty3 (fapi_Cite_k1_0 k) rfl (.tmp rfl)) ?_
     refine WL.run rfl rfl rfl rfl hb131 rfl rfl (Op1.neI (.tmp rfl) .i64) ?_
     refine WL.op rfl (.pickT (.tmp rfl) hb131 (.tmp rfl)) ?_
     refine WL.mv rfl rfl ?_
     rcases bcases (decide (c.Kind ≠ (3 : Int))) with hb133 | hb133
     ·have hp134 := of_decide_eq_true hb133
      rw [if_pos hp134] at hm
      refine WL.run rfl rfl rfl rfl hb133 rfl rfl (Op1.move (.tmp rfl)) ?_
      refine WL.run rfl rfl rfl rfl hb133 rfl rfl (Op1.move (.tmp rfl)) ?_
      refine WL.run rfl rfl rfl rfl hb133 rfl rfl (Op1.lenL Tryd.underlying28 (.tmp rfl)) ?_
      refine WL.run rfl rfl rfl rfl hb133 rfl rfl (Op1.ltI (.tmp rfl) (.tmp rfl)) ?_
      refine WL.op rfl (.pickT (.tmp rfl) hb133 (.tmp rfl)) ?_
      refine WL.mv rfl rfl ?_
      rcases bcases (decide (i < (w.length : Int))) with hb135 | hb135
      ·have hp136 := of_decide_eq_true hb135
       rw [if_pos hp136] at hm
       refine WL.run rfl rfl rfl rfl hb135 rfl rfl (Op1.move (.tmp rfl)) ?_
       refine WL.run rfl rfl rfl rfl hb135 rfl rfl (Op1.move (.tmp rfl)) ?_
       obtain ⟨v28, hv137, hm⟩ := bind_some hm
       refine WL.run rfl rfl rfl rfl hb135 rfl rfl (Op1.idx hv137 Tryd.underlying28 Tryd.sizeOf9 (.tmp rfl) (.tmp rfl)) ?_
       refine WL.run rfl rfl rfl rfl hb135 rfl rfl (Op1.load ty9 (.tmp rfl)) ?_
       refine WL.run rfl rfl rfl rfl hb135 rfl rfl (Op1.eqS (.tmp rfl) (.str rfl (by decide))) ?_
       refine WL.op rfl (.pickT (.tmp rfl) hb135 (.tmp rfl)) ?_
       refine WL.nil ?_
       exact WN.meet (v28 == ([98, 111, 111, 107] : Str)) (Option.some.inj hm) ⟨Ent.q rfl, Ent.q rfl, Ent.q rfl, Ent.q rfl, Ent.q rfl, trivial⟩ ⟨rfl, rfl, ⟨rfl, rfl, ⟨rfl, rfl, trivial⟩⟩⟩
      ·have hp136 := of_decide_eq_false hb135
       rw [if_neg hp136] at hm
       iterate 5 refine WL.pass rfl rfl rfl rfl hb135 rfl rfl ?_
       refine WL.op rfl (.pickF (.tmp rfl) hb135 .bool) ?_
       refine WL.nil ?_
       exact WN.meet false (Option.some.inj hm) ⟨Ent.q rfl, Ent.q rfl, Ent.q rfl, Ent.q rfl, Ent.q rfl, trivial⟩ ⟨rfl, rfl, ⟨rfl, rfl, ⟨rfl, rfl, trivial⟩⟩⟩
     ·have hp134 := of_decide_eq_false hb133
      rw [if_neg hp134] at hm
      iterate 4 refine WL.pass rfl rfl rfl rfl hb133 rfl rfl ?_
      refine WL.op rfl (.pickF (.tmp rfl) hb133 .bool) ?_
      refine WL.mv rfl rfl ?_
      iterate 5 refine WL.pass rfl rfl rfl rfl rfl rfl rfl ?_
      refine WL.op rfl (.pickF (.tmp rfl) rfl .bool) ?_
      refine WL.nil ?_
      exact WN.meet false (Option.some.inj hm) ⟨Ent.q rfl, Ent.q rfl, Ent.q rfl, Ent.q rfl, Ent.q rfl, trivial⟩ ⟨rfl, rfl, ⟨rfl, rfl, ⟨rfl, rfl, trivial⟩⟩⟩
    ·have hp132 := of_decide_eq_false hb131
     rw [if_neg hp132] at hm
     iterate 3 refine WL.pass rfl rfl rfl rfl hb131 rfl rfl ?_
     refine WL.op rfl (.pickF (.tmp rfl) hb131 .bool) ?_
     refine WL.mv rfl rfl ?_
     iterate 4 refine WL.pass rfl rfl rfl rfl rfl rfl rfl ?_
     refine WL.op rfl (.pickF (.tmp rfl) rfl .bool) ?_
     refine WL.mv rfl rfl ?_
     iterate 5 refine WL.pass rfl rfl rfl rfl rfl rfl rfl ?_
     refine WL.op rfl (.pickF (.tmp rfl) rfl .bool) ?_
     refine WL.nil ?_
     exact WN.meet false (Option.some.inj hm) ⟨Ent.q rfl, Ent.q rfl, Ent.q rfl, Ent.q rfl, Ent.q rfl, trivial⟩ ⟨rfl, rfl, ⟨rfl, rfl, ⟨rfl, rfl, trivial⟩⟩⟩
 ·have hm := hs2
  clear hs2
  refine W.seq ?_
  rcases bcases (decide ((1 : Int) < (w.length : Int))) with hb4 | hb4
  ·have hp5 := of_decide_eq_true hb4
   rw [if_pos hp5] at hm
   obtain ⟨v, hv6, hm⟩ := bind_some hm
   rcases bcases (v == ([116, 104, 105, 115] : Str)) with hb7 | hb7
   ·have hp8 := hb7
    rw [if_pos hp8] at hm
    obtain ⟨single, hv9, hm⟩ := bind_some hm
    obtain ⟨v1, hv10, hm⟩ := bind_some hm
    obtain ⟨kind, hv11, hm⟩ := bind_some hm
    refine W.draw [.c ((tL tS).is w), .c ((tI .i64).is (w.length : Int)), .c (tB.is (decide ((1 : Int) < (w.length : Int)))), .c (tB.is (decide ((1 : Int) < (w.length : Int)))), .c ((tL tS).is w), .c (tS.ptr v), .c (tS.is v), .c (tB.is (v == ([116, 104, 105, 115] : Str))), .c (tB.is (v == ([116, 104, 105, 115] : Str))), .c (tB.is (v == ([116, 104, 105, 115] : Str))), .c ((tL tS).is single), .c ((tL tS).is w), .c (tS.ptr v1), .c (tS.is v1), .c ((tI .i64).is kind), .c (tB.is (decide ((0 : Int) < kind))), .c (tB.is (decide ((0 : Int) < kind)))] [([], [0]), ([0], []), ([1], []), ([2], []), ([3], [0]), ([3, 4], []), ([3, 5], []), ([3, 6], []), ([3, 7], []), ([8], []), ([9], []), ([9], [0]), ([9, 11], []), ([9, 12], []), ([9, 10, 13], []), ([9, 14], []), ([9, 15], [])] Tryd.mixed rfl rfl rfl rfl ⟨.inr (Op1.move (.tmp rfl)), .inr (Op1.lenL Tryd.underlying28 (.tmp rfl)), .inr (Op1.gtI (.tmp rfl) .i64), .inr (Op1.move (.tmp rfl)), .inr (dr rfl rfl rfl hb4 (Op1.move (.tmp rfl))), .inr (dr rfl rfl rfl hb4 (Op1.idx hv6 Tryd.underlying28 Tryd.sizeOf9 (.tmp rfl) .i64)), .inr (dr rfl rfl rfl hb4 (Op1.load ty9 (.tmp rfl))), .inr (dr rfl rfl rfl hb4 (Op1.eqS (.tmp rfl) (.str rfl (by decide)))), .inr (Op1.pickT (.tmp rfl) hb4 (.tmp rfl)), .inr (Op1.move (.tmp rfl)), .inr (dr rfl rfl rfl hb7 (Op1.call Tryd.call33 (r20_Singles_spec _ hv9) trivial)), .inr (dr rfl rfl rfl hb7 (Op1.move (.tmp rfl))), .inr (dr rfl rfl rfl hb7 (Op1.idx hv10 Tryd.underlying28 Tryd.sizeOf9 (.tmp rfl) .i64)), .inr (dr rfl rfl rfl hb7 (Op1.load ty9 (.tmp rfl))), .inr (dr rfl rfl rfl hb7 (Op1.call Tryd.call42 (r20_kind_spec _ _ _ _ hv11) ⟨(.tmp rfl), (.tmp rfl), trivial⟩)), .inr (dr rfl rfl rfl hb7 (Op1.gtI (.tmp rfl) .i64)), .inr (Op1.pickT (.tmp rfl) hb7 (.tmp rfl)), trivial⟩ ?_
    refine WN.seq ?_
    refine W.cond (.tmp rfl) (fun hc12 => ?_) (fun hc12 => ?_)
    ·have hp13 := of_decide_eq_true hc12
     rw [if_pos hp13] at hm
     refine W.sr ?_
     refine WL.op rfl (.fieldAddrB (o := 0) Tryd.underlying24 rfl (fun w => ⟨0, Tryd.sizeOf3 w⟩) (.tmp rfl) rfl) ?_
     refine WL.opU (OpR.storeBF (b := b1) 4 rfl ty3 (sapi_Cite_k1_0 (none : Tok)) rfl (show 0 + 1 ≤ 5 by decide) (.tmp rfl) .i64) (fun _ => ?_)
     refine WL.ns ?_
     refine W.seq ?_
     obtain ⟨single1, hv14, hm⟩ := bind_some hm
     obtain ⟨v2, hv15, hm⟩ := bind_some hm
     obtain ⟨kind1, hv16, hm⟩ := bind_some hm
     refine W.weakR (res' := [(1000004, Dec.Own tapi_Step 50 (none : Tok) ([] : List api_Step).length), (2, (Bx 5 true 24 (tapi_Cite.is zapi_Cite) b)), (4, (Bx 5 true 24 ((tapi_Cite_k1 (none : Tok)).is ({ (⟨(0 : Int), ([] : List api_Step), ([] : Str), (0 : Int), (0 : Int)⟩ : api_Cite) with Kind := (2 : Int) } : api_Cite)) b1))]) ⟨rfl, rfl, ⟨rfl, rfl, ⟨rfl, rfl, trivial⟩⟩⟩ ?_
     refine W.drawM [.c ((tL tS).is single1), .c ((tL tS).is w), .c (tS.ptr v2), .c (tS.is v2), .c ((tI .i64).is kind1), .c (tapi_Step.is (⟨kind1, ([] : Str)⟩ : api_Step)), .f (fun cv => (tO tapi_Step (cv 0) ([(⟨kind1, ([] : Str)⟩ : api_Step)]))), .c (Bp b1 1), .c Asn.any] [([], []), ([], [0]), ([1], []), ([2], []), ([0, 3], []), ([4], []), ([5], []), ([], [4]), ([6, 7], [])] [6, 8] [[], [], [], [], [], [], [true], [], []] (fun m cv => match m with | 0 => [(1000004, Dec.Own tapi_Step 50 (none : Tok) ([] : List api_Step).length), (2, (Bx 5 true 24 (tapi_Cite.is zapi_Cite) b)), (4, (Bx 5 true 24 ((tapi_Cite_k1 (none : Tok)).is ({ (⟨(0 : Int), ([] : List api_Step), ([] : Str), (0 : Int), (0 : Int)⟩ : api_Cite) with Kind := (2 : Int) } : api_Cite)) b1))] | 1 => [(31, Dec.Own tapi_Step 50 (cv 0) ([(⟨kind1, ([] : Str)⟩ : api_Step)]).length), (1000004, Dec.Own tapi_Step 50 (none : Tok) ([] : List api_Step).length), (2, (Bx 5 true 24 (tapi_Cite.is zapi_Cite) b)), (4, (Bx 5 true 24 ((tapi_Cite_k1 (none : Tok)).is ({ (⟨(0 : Int), ([] : List api_Step), ([] : Str), (0 : Int), (0 : Int)⟩ : api_Cite) with Kind := (2 : Int) } : api_Cite)) b1))] | _ => [(4, (Bx 5 true 24 ((tapi_Cite_k1 (cv 0)).is ({ ({ (⟨(0 : Int), ([] : List api_Step), ([] : Str), (0 : Int), (0 : Int)⟩ : api_Cite) with Kind := (2 : Int) } : api_Cite) with Path := [(⟨kind1, ([] : Str)⟩ : api_Step)] } : api_Cite)) b1)), (31, Dec.Own tapi_Step 50 (cv 0) ([(⟨kind1, ([] : Str)⟩ : api_Step)]).length), (1000004, Dec.Own tapi_Step 50 (none : Tok) ([] : List api_Step).length), (2, (Bx 5 true 24 (tapi_Cite.is zapi_Cite) b))]) (fun _ => none) Tryd.mixed rfl rfl rfl rfl rfl ⟨fun _ _ _ _ => rfl, ⟨fun _ _ _ _ => rfl, ⟨fun _ _ _ _ => rfl, ⟨fun _ _ _ _ => rfl, ⟨fun _ _ _ _ => rfl, ⟨fun _ _ _ _ => rfl, ⟨fun m hm c t => by simp only [DA.at, upd_dep (r := [true]) (j := 0) rfl hm], ⟨fun _ _ _ _ => rfl, ⟨fun _ _ _ _ => rfl, trivial⟩⟩⟩⟩⟩⟩⟩⟩⟩ rfl ⟨mo fun cv => Op1.call Tryd.call33 (r20_Singles_spec _ hv14) trivial, ⟨mo fun cv => Op1.move (.tmp rfl), ⟨mo fun cv => Op1.idx hv15 Tryd.underlying28 Tryd.sizeOf9 (.tmp rfl) .i64, ⟨mo fun cv => Op1.load ty9 (.tmp rfl), ⟨mo fun cv => Op1.call Tryd.call42 (r20_kind_spec _ _ _ _ hv16) ⟨(.tmp rfl), (.tmp rfl), trivial⟩, ⟨mo fun cv => Op1.build (s := tapi_Step) (x := (⟨kind1, ([] : Str)⟩ : api_Step)) zapi_Step_f rfl Tryd.underlying50 (zapi_Step_sz _ Tryd.underlying50) ze50 ⟨_, (tI .i64), kind1, _, _, rfl, Tryd.sizeOf3, (.tmp rfl), sapi_Step_0, rfl⟩, ⟨.inl rfl, ⟨mo fun cv => Op1.fieldAddrB (o := 0) Tryd.underlying24 rfl (fun w => ⟨0, Tryd.sizeOf22 w⟩) (.tmp rfl) rfl, ⟨.inl rfl, trivial⟩⟩⟩⟩⟩⟩⟩⟩⟩ ⟨⟨_, _, _, [], (fun cv => [(31, Dec.Own tapi_Step 50 (cv 0) ([(⟨kind1, ([] : Str)⟩ : api_Step)]).length)]), rfl, rfl, rfl, rfl, fun _ => rfl, fun _ _ => rfl, fun cv => OpR.buildSlice (n := 1) (ys := [(0, (⟨kind1, ([] : Str)⟩ : api_Step))]) (z := zapi_Step) (xs := [(⟨kind1, ([] : Str)⟩ : api_Step)]) 31 Tryd.underlying22 el50 ze50 ⟨rfl, (.tmp rfl), trivial⟩ (by simp) (by decide) rfl⟩, ⟨⟨_, _, _, [4], (fun cv => [(4, (Bx 5 true 24 ((tapi_Cite_k1 (cv 0)).is ({ ({ (⟨(0 : Int), ([] : List api_Step), ([] : Str), (0 : Int), (0 : Int)⟩ : api_Cite) with Kind := (2 : Int) } : api_Cite) with Path := [(⟨kind1, ([] : Str)⟩ : api_Step)] } : api_Cite)) b1))]), rfl, rfl, rfl, rfl, fun _ => rfl, fun _ _ => rfl, fun cv => OpR.viaU (OpR.storeBFT (b := b1) (s := (tapi_Cite_k1 (none : Tok))) (s' := (tapi_Cite_k1 (cv 0))) (t := (tOT tapi_Step (cv 0))) 4 rfl rfl ⟨ty22.agg, ty22.size⟩ (sTapi_Cite_k1 (none : Tok) (cv 0)) rfl (show 1 + 1 ≤ 5 by decide) (.tmp rfl) (Opd.toOT (.tmp rfl)))⟩, trivial⟩⟩ (fun cv => ?_)
     refine WN.weakR (res' := [(31, Dec.Own tapi_Step 50 (cv 0) ([(⟨kind1, ([] : Str)⟩ : api_Step)]).length), (2, (Bx 5 true 24 (tapi_Cite.is zapi_Cite) b)), (4, (Bx 5 true 24 ((tapi_Cite_k1 (cv 0)).is ({ ({ (⟨(0 : Int), ([] : List api_Step), ([] : Str), (0 : Int), (0 : Int)⟩ : api_Cite) with Kind := (2 : Int) } : api_Cite) with Path := [(⟨kind1, ([] : Str)⟩ : api_Step)] } : api_Cite)) b1))]) ⟨rfl, rfl, ⟨rfl, rfl, ⟨rfl, rfl, trivial⟩⟩⟩ ?_
     refine WN.rekey (res' := [(1000004, Dec.Own tapi_Step 50 (cv 0) ([(⟨kind1, ([] : Str)⟩ : api_Step)]).length), (2, (Bx 5 true 24 (tapi_Cite.is zapi_Cite) b)), (4, (Bx 5 true 24 ((tapi_Cite_k1 (cv 0)).is ({ ({ (⟨(0 : Int), ([] : List api_Step), ([] : Str), (0 : Int), (0 : Int)⟩ : api_Cite) with Kind := (2 : Int) } : api_Cite) with Path := [(⟨kind1, ([] : Str)⟩ : api_Step)] } : api_Cite)) b1))]) rfl ?_
     refine WN.seq ?_
     refine W.region ?_
     refine WL.op rfl (.assign .i64) ?_
     refine WL.nil ?_
     exact WN.meet (((2 : Int), ({ ({ (⟨(0 : Int), ([] : List api_Step), ([] : Str), (0 : Int), (0 : Int)⟩ : api_Cite) with Kind := (2 : Int) } : api_Cite) with Path := [(⟨kind1, ([] : Str)⟩ : api_Step)] } : api_Cite)), (cv 0)) (Option.some.inj hm) ⟨Ent.q rfl, Ent.q rfl, Ent.q rfl, Ent.q rfl, trivial⟩ ⟨rfl, rfl, ⟨rfl, rfl, ⟨rfl, rfl, trivial⟩⟩⟩
    ·have hp13 := of_decide_eq_false hc12
     rw [if_neg hp13] at hm
     refine W.seq ?_
     rcases bcases (decide ((2 : Int) < (w.length : Int))) with hb17 | hb17
     ·have hp18 := of_decide_eq_true hb17
      rw [if_pos hp18] at hm
      obtain ⟨v3, hv19, hm⟩ := bind_some hm
      rcases bcases (v3 == ([116, 104, 101] : Str)) with hb20 | hb20
      ·have hp21 := hb20
       rw [if_pos hp21] at hm
       obtain ⟨v4, hv22, hm⟩ := bind_some hm
       rcases bcases (v4 == ([115, 97, 105, 100] : Str)) with hb23 | hb23
       ·have hp24 := hb23
        rw [if_pos hp24] at hm
        obtain ⟨single2, hv25, hm⟩ := bind_some hm
        obtain ⟨v5, hv26, hm⟩ := bind_some hm
        obtain ⟨kind2, hv27, hm⟩ := bind_some hm
        refine W.draw [.c ((tL tS).is w), .c ((tI .i64).is (w.length : Int)), .c (tB.is (decide ((2 : Int) < (w.length : Int)))), .c (tB.is (decide ((2 : Int) < (w.length : Int)))), .c ((tL tS).is w), .c (tS.ptr v3), .c (tS.is v3), .c (tB.is (v3 == ([116, 104, 101] : Str))), .c (tB.is (v3 == ([116, 104, 101] : Str))), .c (tB.is (v3 == ([116, 104, 101] : Str))), .c ((tL tS).is w), .c (tS.ptr v4), .c (tS.is v4), .c (tB.is (v4 == ([115, 97, 105, 100] : Str))), .c (tB.is (v4 == ([115, 97, 105, 100] : Str))), .c (tB.is (v4 == ([115, 97, 105, 100] : Str))), .c ((tL tS).is single2), .c ((tL tS).is w), .c (tS.ptr v5), .c (tS.is v5), .c ((tI .i64).is kind2), .c (tB.is (decide ((0 : Int) < kind2))), .c (tB.is (decide ((0 : Int) < kind2)))] [([], [0]), ([0], []), ([1], []), ([2], []), ([3], [0]), ([3, 4], []), ([3, 5], []), ([3, 6], []), ([3, 7], []), ([8], []), ([9], [0]), ([9, 10], []), ([9, 11], []), ([9, 12], []), ([9, 13], []), ([14], []), ([15], []), ([15], [0]), ([15, 17], []), ([15, 18], []), ([15, 16, 19], []), ([15, 20], []), ([15, 21], [])] Tryd.mixed rfl rfl rfl rfl (by exact ⟨.inr (Op1.move (.tmp rfl)), .inr (Op1.lenL Tryd.underlying28 (.tmp rfl)), .inr (Op1.gtI (.tmp rfl) .i64), .inr (Op1.move (.tmp rfl)), .inr (dr rfl rfl rfl hb17 (Op1.move (.tmp rfl))), .inr (dr rfl rfl rfl hb17 (Op1.idx hv19 Tryd.underlying28 Tryd.sizeOf9 (.tmp rfl) .i64)), .inr (dr rfl rfl rfl hb17 (Op1.load ty9 (.tmp rfl))), .inr (dr rfl rfl rfl hb17 (Op1.eqS (.tmp rfl) (.str rfl (by decide)))), .inr (Op1.pickT (.tmp rfl) hb17 (.tmp rfl)), .inr (Op1.move (.tmp rfl)), .inr (dr rfl rfl rfl hb20 (Op1.move (.tmp rfl))), .inr (dr rfl rfl rfl hb20 (Op1.idx hv22 Tryd.underlying28 Tryd.sizeOf9 (.tmp rfl) .i64)), .inr (dr rfl rfl rfl hb20 (Op1.load ty9 (.tmp rfl))), .inr (dr rfl rfl rfl hb20 (Op1.eqS (.tmp rfl) (.str rfl (by decide)))), .inr (Op1.pickT (.tmp rfl) hb20 (.tmp rfl)), .inr (Op1.move (.tmp rfl)), .inr (dr rfl rfl rfl hb23 (Op1.call Tryd.call33 (r20_Singles_spec _ hv25) trivial)), .inr (dr rfl rfl rfl hb23 (Op1.move (.tmp rfl))), .inr (dr rfl rfl rfl hb23 (Op1.idx hv26 Tryd.underlying28 Tryd.sizeOf9 (.tmp rfl) .i64)), .inr (dr rfl rfl rfl hb23 (Op1.load ty9 (.tmp rfl))), .inr (dr rfl rfl rfl hb23 (Op1.call Tryd.call42 (r20_kind_spec _ _ _ _ hv27) ⟨(.tmp rfl), (.tmp rfl), trivial⟩)), .inr (dr rfl rfl rfl hb23 (Op1.gtI (.tmp rfl) .i64)), .inr (Op1.pickT (.tmp rfl) hb23 (.tmp rfl)), trivial⟩) ?_
        refine WN.seq ?_
        refine W.cond (.tmp rfl) (fun hc28 => ?_) (fun hc28 => ?_)
        ·have hp29 := of_decide_eq_true hc28
         rw [if_pos hp29] at hm
         refine W.sr ?_
         refine WL.op rfl (.fieldAddrB (o := 0) Tryd.underlying24 rfl (fun w => ⟨0, Tryd.sizeOf3 w⟩) (.tmp rfl) rfl) ?_
         refine WL.opU (OpR.storeBF (b := b1) 4 rfl ty3 (sapi_Cite_k1_0 (none : Tok)) rfl (show 0 + 1 ≤ 5 by decide) (.tmp rfl) .i64) (fun _ => ?_)
         refine WL.ns ?_
         refine W.seq ?_
         obtain ⟨single3, hv30, hm⟩ := bind_some hm
         obtain ⟨v6, hv31, hm⟩ := bind_some hm
         obtain ⟨kind3, hv32, hm⟩ := bind_some hm
         refine W.weakR (res' := [(1000004, Dec.Own tapi_Step 50 (none : Tok) ([] : List api_Step).length), (2, (Bx 5 true 24 (tapi_Cite.is zapi_Cite) b)), (4, (Bx 5 true 24 ((tapi_Cite_k1 (none : Tok)).is ({ (⟨(0 : Int), ([] : List api_Step), ([] : Str), (0 : Int), (0 : Int)⟩ : api_Cite) with Kind := (3 : Int) } : api_Cite)) b1))]) ⟨rfl, rfl, ⟨rfl, rfl, ⟨rfl, rfl, trivial⟩⟩⟩ ?_
         refine W.drawM [.c ((tL tS).is single3), .c ((tL tS).is w), .c (tS.ptr v6), .c (tS.is v6), .c ((tI .i64).is kind3), .c (tapi_Step.is (⟨kind3, ([] : Str)⟩ : api_Step)), .f (fun cv1 => (tO tapi_Step (cv1 0) ([(⟨kind3, ([] : Str)⟩ : api_Step)]))), .c (Bp b1 1), .c Asn.any] [([], []), ([], [0]), ([1], []), ([2], []), ([0, 3], []), ([4], []), ([5], []), ([], [4]), ([6, 7], [])] [6, 8] [[], [], [], [], [], [], [true], [], []] (fun m cv1 => match m with | 0 => [(1000004, Dec.Own tapi_Step 50 (none : Tok) ([] : List api_Step).length), (2, (Bx 5 true 24 (tapi_Cite.is zapi_Cite) b)), (4, (Bx 5 true 24 ((tapi_Cite_k1 (none : Tok)).is ({ (⟨(0 : Int), ([] : List api_Step), ([] : Str), (0 : Int), (0 : Int)⟩ : api_Cite) with Kind := (3 : Int) } : api_Cite)) b1))] | 1 => [(63, Dec.Own tapi_Step 50 (cv1 0) ([(⟨kind3, ([] : Str)⟩ : api_Step)]).length), (1000004, Dec.Own tapi_Step 50 (none : Tok) ([] : List api_Step).length), (2, (Bx 5 true 24 (tapi_Cite.is zapi_Cite) b)), (4, (Bx 5 true 24 ((tapi_Cite_k1 (none : Tok)).is ({ (⟨(0 : Int), ([] : List api_Step), ([] : Str), (0 : Int), (0 : Int)⟩ : api_Cite) with Kind := (3 : Int) } : api_Cite)) b1))] | _ => [(4, (Bx 5 true 24 ((tapi_Cite_k1 (cv1 0)).is ({ ({ (⟨(0 : Int), ([] : List api_Step), ([] : Str), (0 : Int), (0 : Int)⟩ : api_Cite) with Kind := (3 : Int) } : api_Cite) with Path := [(⟨kind3, ([] : Str)⟩ : api_Step)] } : api_Cite)) b1)), (63, Dec.Own tapi_Step 50 (cv1 0) ([(⟨kind3, ([] : Str)⟩ : api_Step)]).length), (1000004, Dec.Own tapi_Step 50 (none : Tok) ([] : List api_Step).length), (2, (Bx 5 true 24 (tapi_Cite.is zapi_Cite) b))]) (fun _ => none) Tryd.mixed rfl rfl rfl rfl rfl ⟨fun _ _ _ _ => rfl, ⟨fun _ _ _ _ => rfl, ⟨fun _ _ _ _ => rfl, ⟨fun _ _ _ _ => rfl, ⟨fun _ _ _ _ => rfl, ⟨fun _ _ _ _ => rfl, ⟨fun m hm c t => by simp only [DA.at, upd_dep (r := [true]) (j := 0) rfl hm], ⟨fun _ _ _ _ => rfl, ⟨fun _ _ _ _ => rfl, trivial⟩⟩⟩⟩⟩⟩⟩⟩⟩ rfl ⟨mo fun cv1 => Op1.call Tryd.call33 (r20_Singles_spec _ hv30) trivial, ⟨mo fun cv1 => Op1.move (.tmp rfl), ⟨mo fun cv1 => Op1.idx hv31 Tryd.underlying28 Tryd.sizeOf9 (.tmp rfl) .i64, ⟨mo fun cv1 => Op1.load ty9 (.tmp rfl), ⟨mo fun cv1 => Op1.call Tryd.call42 (r20_kind_spec _ _ _ _ hv32) ⟨(.tmp rfl), (.tmp rfl), trivial⟩, ⟨mo fun cv1 => Op1.build (s := tapi_Step) (x := (⟨kind3, ([] : Str)⟩ : api_Step)) zapi_Step_f rfl Tryd.underlying50 (zapi_Step_sz _ Tryd.underlying50) ze50 ⟨_, (tI .i64), kind3, _, _, rfl, Tryd.sizeOf3, (.tmp rfl), sapi_Step_0, rfl⟩, ⟨.inl rfl, ⟨mo fun cv1 => Op1.fieldAddrB (o := 0) Tryd.underlying24 rfl (fun w => ⟨0, Tryd.sizeOf22 w⟩) (.tmp rfl) rfl, ⟨.inl rfl, trivial⟩⟩⟩⟩⟩⟩⟩⟩⟩ ⟨⟨_, _, _, [], (fun cv1 => [(63, Dec.Own tapi_Step 50 (cv1 0) ([(⟨kind3, ([] : Str)⟩ : api_Step)]).length)]), rfl, rfl, rfl, rfl, fun _ => rfl, fun _ _ => rfl, fun cv1 => OpR.buildSlice (n := 1) (ys := [(0, (⟨kind3, ([] : Str)⟩ : api_Step))]) (z := zapi_Step) (xs := [(⟨kind3, ([] : Str)⟩ : api_Step)]) 63 Tryd.underlying22 el50 ze50 ⟨rfl, (.tmp rfl), trivial⟩ (by simp) (by decide) rfl⟩, ⟨⟨_, _, _, [4], (fun cv1 => [(4, (Bx 5 true 24 ((tapi_Cite_k1 (cv1 0)).is ({ ({ (⟨(0 : Int), ([] : List api_Step), ([] : Str), (0 : Int), (0 : Int)⟩ : api_Cite) with Kind := (3 : Int) } : api_Cite) with Path := [(⟨kind3, ([] : Str)⟩ : api_Step)] } : api_Cite)) b1))]), rfl, rfl, rfl, rfl, fun _ => rfl, fun _ _ => rfl, fun cv1 => OpR.viaU (OpR.storeBFT (b := b1) (s := (tapi_Cite_k1 (none : Tok))) (s' := (tapi_Cite_k1 (cv1 0))) (t := (tOT tapi_Step (cv1 0))) 4 rfl rfl ⟨ty22.agg, ty22.size⟩ (sTapi_Cite_k1 (none : Tok) (cv1 0)) rfl (show 1 + 1 ≤ 5 by decide) (.tmp rfl) (Opd.toOT (.tmp rfl)))⟩, trivial⟩⟩ (fun cv1 => ?_)
         refine WN.weakR (res' := [(63, Dec.Own tapi_Step 50 (cv1 0) ([(⟨kind3, ([] : Str)⟩ : api_Step)]).length), (2, (Bx 5 true 24 (tapi_Cite.is zapi_Cite) b)), (4, (Bx 5 true 24 ((tapi_Cite_k1 (cv1 0)).is ({ ({ (⟨(0 : Int), ([] : List api_Step), ([] : Str), (0 : Int), (0 : Int)⟩ : api_Cite) with Kind := (3 : Int) } : api_Cite) with Path := [(⟨kind3, ([] : Str)⟩ : api_Step)] } : api_Cite)) b1))]) ⟨rfl, rfl, ⟨rfl, rfl, ⟨rfl, rfl, trivial⟩⟩⟩ ?_
         refine WN.rekey (res' := [(1000004, Dec.Own tapi_Step 50 (cv1 0) ([(⟨kind3, ([] : Str)⟩ : api_Step)]).length), (2, (Bx 5 true 24 (tapi_Cite.is zapi_Cite) b)), (4, (Bx 5 true 24 ((tapi_Cite_k1 (cv1 0)).is ({ ({ (⟨(0 : Int), ([] : List api_Step), ([] : Str), (0 : Int), (0 : Int)⟩ : api_Cite) with Kind := (3 : Int) } : api_Cite) with Path := [(⟨kind3, ([] : Str)⟩ : api_Step)] } : api_Cite)) b1))]) rfl ?_
         refine WN.seq ?_
         refine W.region ?_
         refine WL.op rfl (.assign .i64) ?_
         refine WL.nil ?_
         exact WN.meet (((3 : Int), ({ ({ (⟨(0 : Int), ([] : List api_Step), ([] : Str), (0 : Int), (0 : Int)⟩ : api_Cite) with Kind := (3 : Int) } : api_Cite) with Path := [(⟨kind3, ([] : Str)⟩ : api_Step)] } : api_Cite)), (cv1 0)) (Option.some.inj hm) ⟨Ent.q rfl, Ent.q rfl, Ent.q rfl, Ent.q rfl, trivial⟩ ⟨rfl, rfl, ⟨rfl, rfl, ⟨rfl, rfl, trivial⟩⟩⟩
        ·have hp29 := of_decide_eq_false hc28
         rw [if_neg hp29] at hm
         refine W.sr ?_
         refine WL.mv rfl rfl ?_
         refine WL.op rfl (.lenL Tryd.underlying28 (.tmp rfl)) ?_
         refine WL.op rfl (.gtI (.tmp rfl) .i64) ?_
         refine WL.mv rfl rfl ?_
         rcases bcases (decide ((0 : Int) < (w.length : Int))) with hb33 | hb33
         ·have hp34 := of_decide_eq_true hb33
          rw [if_pos hp34] at hm
          refine WL.run rfl rfl rfl rfl hb33 rfl rfl (Op1.move (.tmp rfl)) ?_
          obtain ⟨v7, hv35, hm⟩ := bind_some hm
          refine WL.run rfl rfl rfl rfl hb33 rfl rfl (Op1.idx hv35 Tryd.underlying28 Tryd.sizeOf9 (.tmp rfl) .i64) ?_
          refine WL.run rfl rfl rfl rfl hb33 rfl rfl (Op1.load ty9 (.tmp rfl)) ?_
          refine WL.run rfl rfl rfl rfl hb33 rfl rfl (Op1.eqS (.tmp rfl) (.str rfl (by decide))) ?_
          refine WL.op rfl (.pickT (.tmp rfl) hb33 (.tmp rfl)) ?_
          refine WL.ns ?_
          refine W.cond (.tmp rfl) (fun hc36 => ?_) (fun hc36 => ?_)
          ·have hp37 := hc36
           rw [if_pos hp37] at hm
           refine W.sr ?_
           refine WL.op rfl (.fieldAddrB (o := 0) Tryd.underlying24 rfl (fun w => ⟨0, Tryd.sizeOf3 w⟩) (.tmp rfl) rfl) ?_
           refine WL.opU (OpR.storeBF (b := b1) 4 rfl ty3 (sapi_Cite_k1_0 (none : Tok)) rfl (show 0 + 1 ≤ 5 by decide) (.tmp rfl) .i64) (fun _ => ?_)
           refine WL.nr1 ?_
           refine WL.op rfl (.assign .i64) ?_
           refine WL.nil ?_
           exact WN.meet (((1 : Int), ({ (⟨(0 : Int), ([] : List api_Step), ([] : Str), (0 : Int), (0 : Int)⟩ : api_Cite) with Kind := (4 : Int) } : api_Cite)), (none : Tok)) (Option.some.inj hm) ⟨Ent.q rfl, Ent.q rfl, Ent.q rfl, Ent.q rfl, trivial⟩ ⟨rfl, rfl, ⟨rfl, rfl, ⟨rfl, rfl, trivial⟩⟩⟩
          ·have hp37 := ne_of_false hc36
           rw [if_neg hp37] at hm
           refine W.skip ?_
           exact WN.meet (((0 : Int), (⟨(0 : Int), ([] : List api_Step), ([] : Str), (0 : Int), (0 : Int)⟩ : api_Cite)), (none : Tok)) (Option.some.inj hm) ⟨Ent.q rfl, Ent.q rfl, Ent.q rfl, Ent.q rfl, trivial⟩ ⟨rfl, rfl, ⟨rfl, rfl, ⟨rfl, rfl, trivial⟩⟩⟩
         ·have hp34 := of_decide_eq_false hb33
          rw [if_neg hp34] at hm
          iterate 4 refine WL.pass rfl rfl rfl rfl hb33 rfl rfl ?_
          refine WL.op rfl (.pickF (.tmp rfl) hb33 .bool) ?_
          refine WL.ns ?_
          refine W.condF (.tmp rfl) ?_
          refine W.skip ?_
          exact WN.meet (((0 : Int), (⟨(0 : Int), ([] : List api_Step), ([] : Str), (0 : Int), (0 : Int)⟩ : api_Cite)), (none : Tok)) (Option.some.inj hm) ⟨Ent.q rfl, Ent.q rfl, Ent.q rfl, Ent.q rfl, trivial⟩ ⟨rfl, rfl, ⟨rfl, rfl, ⟨rfl, rfl, trivial⟩⟩⟩
       ·have hp24 := ne_of_false hb23
        rw [if_neg hp24] at hm
        refine W.draw [.c ((tL tS).is w), .c ((tI .i64).is (w.length : Int)), .c (tB.is (decide ((2 : Int) < (w.length : Int)))), .c (tB.is (decide ((2 : Int) < (w.length : Int)))), .c ((tL tS).is w), .c (tS.ptr v3), .c (tS.is v3), .c (tB.is (v3 == ([116, 104, 101] : Str))), .c (tB.is (v3 == ([116, 104, 101] : Str))), .c (tB.is (v3 == ([116, 104, 101] : Str))), .c ((tL tS).is w), .c (tS.ptr v4), .c (tS.is v4), .c (tB.is (v4 == ([115, 97, 105, 100] : Str))), .c (tB.is (v4 == ([115, 97, 105, 100] : Str))), .c (tB.is (v4 == ([115, 97, 105, 100] : Str))), .c (Asn.eq undef), .c (Asn.eq undef), .c (Asn.eq undef), .c (Asn.eq undef), .c (Asn.eq undef), .c (Asn.eq undef), .c (tB.is false)] [([], [0]), ([0], []), ([1], []), ([2], []), ([3], [0]), ([3, 4], []), ([3, 5], []), ([3, 6], []), ([3, 7], []), ([8], []), ([9], [0]), ([9, 10], []), ([9, 11], []), ([9, 12], []), ([9, 13], []), ([14], []), ([15], []), ([15], [0]), ([15, 17], []), ([15, 18], []), ([15, 16, 19], []), ([15, 20], []), ([15, 21], [])] Tryd.mixed rfl rfl rfl rfl (by exact ⟨.inr (Op1.move (.tmp rfl)), .inr (Op1.lenL Tryd.underlying28 (.tmp rfl)), .inr (Op1.gtI (.tmp rfl) .i64), .inr (Op1.move (.tmp rfl)), .inr (dr rfl rfl rfl hb17 (Op1.move (.tmp rfl))), .inr (dr rfl rfl rfl hb17 (Op1.idx hv19 Tryd.underlying28 Tryd.sizeOf9 (.tmp rfl) .i64)), .inr (dr rfl rfl rfl hb17 (Op1.load ty9 (.tmp rfl))), .inr (dr rfl rfl rfl hb17 (Op1.eqS (.tmp rfl) (.str rfl (by decide)))), .inr (Op1.pickT (.tmp rfl) hb17 (.tmp rfl)), .inr (Op1.move (.tmp rfl)), .inr (dr rfl rfl rfl hb20 (Op1.move (.tmp rfl))), .inr (dr rfl rfl rfl hb20 (Op1.idx hv22 Tryd.underlying28 Tryd.sizeOf9 (.tmp rfl) .i64)), .inr (dr rfl rfl rfl hb20 (Op1.load ty9 (.tmp rfl))), .inr (dr rfl rfl rfl hb20 (Op1.eqS (.tmp rfl) (.str rfl (by decide)))), .inr (Op1.pickT (.tmp rfl) hb20 (.tmp rfl)), .inr (Op1.move (.tmp rfl)), .inr (dp rfl rfl rfl hb23), .inr (dp rfl rfl rfl hb23), .inr (dp rfl rfl rfl hb23), .inr (dp rfl rfl rfl hb23), .inr (dp rfl rfl rfl hb23), .inr (dp rfl rfl rfl hb23), .inr (Op1.pickF (.tmp rfl) hb23 .bool), trivial⟩) ?_
        refine WN.seq ?_
        refine W.condF (.tmp rfl) ?_
        refine W.sr ?_
        refine WL.mv rfl rfl ?_
        refine WL.op rfl (.lenL Tryd.underlying28 (.tmp rfl)) ?_
        refine WL.op rfl (.gtI (.tmp rfl) .i64) ?_
        refine WL.mv rfl rfl ?_
        rcases bcases (decide ((0 : Int) < (w.length : Int))) with hb38 | hb38
        ·have hp39 := of_decide_eq_true hb38
         rw [if_pos hp39] at hm
         refine WL.run rfl rfl rfl rfl hb38 rfl rfl (Op1.move (.tmp rfl)) ?_
         obtain ⟨v8, hv40, hm⟩ := bind_some hm
         refine WL.run rfl rfl rfl rfl hb38 rfl rfl (Op1.idx hv40 Tryd.underlying28 Tryd.sizeOf9 (.tmp rfl) .i64) ?_
         refine WL.run rfl rfl rfl rfl hb38 rfl rfl (Op1.load ty9 (.tmp rfl)) ?_
         refine WL.run rfl rfl rfl rfl hb38 rfl rfl (Op1.eqS (.tmp rfl) (.str rfl (by decide))) ?_
         refine WL.op rfl (.pickT (.tmp rfl) hb38 (.tmp rfl)) ?_
         refine WL.ns ?_
         refine W.cond (.tmp rfl) (fun hc41 => ?_) (fun hc41 => ?_)
         ·have hp42 := hc41
          rw [if_pos hp42] at hm
          refine W.sr ?_
          refine WL.op rfl (.fieldAddrB (o := 0) Tryd.underlying24 rfl (fun w => ⟨0, Tryd.sizeOf3 w⟩) (.tmp rfl) rfl) ?_
          refine WL.opU (OpR.storeBF (b := b1) 4 rfl ty3 (sapi_Cite_k1_0 (none : Tok)) rfl (show 0 + 1 ≤ 5 by decide) (.tmp rfl) .i64) (fun _ => ?_)
          refine WL.nr1 ?_
          refine WL.op rfl (.assign .i64) ?_
          refine WL.nil ?_
          exact WN.meet (((1 : Int), ({ (⟨(0 : Int), ([] : List api_Step), ([] : Str), (0 : Int), (0 : Int)⟩ : api_Cite) with Kind := (4 : Int) } : api_Cite)), (none : Tok)) (Option.some.inj hm) ⟨Ent.q rfl, Ent.q rfl, Ent.q rfl, Ent.q rfl, trivial⟩ ⟨rfl, rfl, ⟨rfl, rfl, ⟨rfl, rfl, trivial⟩⟩⟩
         ·have hp42 := ne_of_false hc41
          rw [if_neg hp42] at hm
          refine W.skip ?_
          exact WN.meet (((0 : Int), (⟨(0 : Int), ([] : List api_Step), ([] : Str), (0 : Int), (0 : Int)⟩ : api_Cite)), (none : Tok)) (Option.some.inj hm) ⟨Ent.q rfl, Ent.q rfl, Ent.q rfl, Ent.q rfl, trivial⟩ ⟨rfl, rfl, ⟨rfl, rfl, ⟨rfl, rfl, trivial⟩⟩⟩
        ·have hp39 := of_decide_eq_false hb38
         rw [if_neg hp39] at hm
         iterate 4 refine WL.pass rfl rfl rfl rfl hb38 rfl rfl ?_
         refine WL.op rfl (.pickF (.tmp rfl) hb38 .bool) ?_
         refine WL.ns ?_
         refine W.condF (.tmp rfl) ?_
         refine W.skip ?_
         exact WN.meet (((0 : Int), (⟨(0 : Int), ([] : List api_Step), ([] : Str), (0 : Int), (0 : Int)⟩ : api_Cite)), (none : Tok)) (Option.some.inj hm) ⟨Ent.q rfl, Ent.q rfl, Ent.q rfl, Ent.q rfl, trivial⟩ ⟨rfl, rfl, ⟨rfl, rfl, ⟨rfl, rfl, trivial⟩⟩⟩
      ·have hp21 := ne_of_false hb20
       rw [if_neg hp21] at hm
       refine W.draw [.c ((tL tS).is w), .c ((tI .i64).is (w.length : Int)), .c (tB.is (decide ((2 : Int) < (w.length : Int)))), .c (tB.is (decide ((2 : Int) < (w.length : Int)))), .c ((tL tS).is w), .c (tS.ptr v3), .c (tS.is v3), .c (tB.is (v3 == ([116, 104, 101] : Str))), .c (tB.is (v3 == ([116, 104, 101] : Str))), .c (tB.is (v3 == ([116, 104, 101] : Str))), .c (Asn.eq undef), .c (Asn.eq undef), .c (Asn.eq undef), .c (Asn.eq undef), .c (tB.is false), .c (tB.is false), .c (Asn.eq undef), .c (Asn.eq undef), .c (Asn.eq undef), .c (Asn.eq undef), .c (Asn.eq undef), .c (Asn.eq undef), .c (tB.is false)] [([], [0]), ([0], []), ([1], []), ([2], []), ([3], [0]), ([3, 4], []), ([3, 5], []), ([3, 6], []), ([3, 7], []), ([8], []), ([9], [0]), ([9, 10], []), ([9, 11], []), ([9, 12], []), ([9, 13], []), ([14], []), ([15], []), ([15], [0]), ([15, 17], []), ([15, 18], []), ([15, 16, 19], []), ([15, 20], []), ([15, 21], [])] Tryd.mixed rfl rfl rfl rfl (by exact ⟨.inr (Op1.move (.tmp rfl)), .inr (Op1.lenL Tryd.underlying28 (.tmp rfl)), .inr (Op1.gtI (.tmp rfl) .i64), .inr (Op1.move (.tmp rfl)), .inr (dr rfl rfl rfl hb17 (Op1.move (.tmp rfl))), .inr (dr rfl rfl rfl hb17 (Op1.idx hv19 Tryd.underlying28 Tryd.sizeOf9 (.tmp rfl) .i64)), .inr (dr rfl rfl rfl hb17 (Op1.load ty9 (.tmp rfl))), .inr (dr rfl rfl rfl hb17 (Op1.eqS (.tmp rfl) (.str rfl (by decide)))), .inr (Op1.pickT (.tmp rfl) hb17 (.tmp rfl)), .inr (Op1.move (.tmp rfl)), .inr (dp rfl rfl rfl hb20), .inr (dp rfl rfl rfl hb20), .inr (dp rfl rfl rfl hb20), .inr (dp rfl rfl rfl hb20), .inr (Op1.pickF (.tmp rfl) hb20 .bool), .inr (Op1.move (.tmp rfl)), .inr (dp rfl rfl rfl rfl), .inr (dp rfl rfl rfl rfl), .inr (dp rfl rfl rfl rfl), .inr (dp rfl rfl rfl rfl), .inr (dp rfl rfl rfl rfl), .inr (dp rfl rfl rfl rfl), .inr (Op1.pickF (.tmp rfl) rfl .bool), trivial⟩) ?_
       refine WN.seq ?_
       refine W.condF (.tmp rfl) ?_
       refine W.sr ?_
       refine WL.mv rfl rfl ?_
       refine WL.op rfl (.lenL Tryd.underlying28 (.tmp rfl)) ?_
       refine WL.op rfl (.gtI (.tmp rfl) .i64) ?_
       refine WL.mv rfl rfl ?_
       rcases bcases (decide ((0 : Int) < (w.length : Int))) with hb43 | hb43
       ·have hp44 := of_decide_eq_true hb43
        rw [if_pos hp44] at hm
        refine WL.run rfl rfl rfl rfl hb43 rfl rfl (Op1.move (.tmp rfl)) ?_
        obtain ⟨v9, hv45, hm⟩ := bind_some hm
        refine WL.run rfl rfl rfl rfl hb43 rfl rfl (Op1.idx hv45 Tryd.underlying28 Tryd.sizeOf9 (.tmp rfl) .i64) ?_
        refine WL.run rfl rfl rfl rfl hb43 rfl rfl (Op1.load ty9 (.tmp rfl)) ?_
        refine WL.run rfl rfl rfl rfl hb43 rfl rfl (Op1.eqS (.tmp rfl) (.str rfl (by decide))) ?_
        refine WL.op rfl (.pickT (.tmp rfl) hb43 (.tmp rfl)) ?_
        refine WL.ns ?_
        refine W.cond (.tmp rfl) (fun hc46 => ?_) (fun hc46 => ?_)
        ·have hp47 := hc46
         rw [if_pos hp47] at hm
         refine W.sr ?_
         refine WL.op rfl (.fieldAddrB (o := 0) Tryd.underlying24 rfl (fun w => ⟨0, Tryd.sizeOf3 w⟩) (.tmp rfl) rfl) ?_
         refine WL.opU (OpR.storeBF (b := b1) 4 rfl ty3 (sapi_Cite_k1_0 (none : Tok)) rfl (show 0 + 1 ≤ 5 by decide) (.tmp rfl) .i64) (fun _ => ?_)
         refine WL.nr1 ?_
         refine WL.op rfl (.assign .i64) ?_
         refine WL.nil ?_
         exact WN.meet (((1 : Int), ({ (⟨(0 : Int), ([] : List api_Step), ([] : Str), (0 : Int), (0 : Int)⟩ : api_Cite) with Kind := (4 : Int) } : api_Cite)), (none : Tok)) (Option.some.inj hm) ⟨Ent.q rfl, Ent.q rfl, Ent.q rfl, Ent.q rfl, trivial⟩ ⟨rfl, rfl, ⟨rfl, rfl, ⟨rfl, rfl, trivial⟩⟩⟩
        ·have hp47 := ne_of_false hc46
         rw [if_neg hp47] at hm
         refine W.skip ?_
         exact WN.meet (((0 : Int), (⟨(0 : Int), ([] : List api_Step), ([] : Str), (0 : Int), (0 : Int)⟩ : api_Cite)), (none : Tok)) (Option.some.inj hm) ⟨Ent.q rfl, Ent.q rfl, Ent.q rfl, Ent.q rfl, trivial⟩ ⟨rfl, rfl, ⟨rfl, rfl, ⟨rfl, rfl, trivial⟩⟩⟩
       ·have hp44 := of_decide_eq_false hb43
        rw [if_neg hp44] at hm
        iterate 4 refine WL.pass rfl rfl rfl rfl hb43 rfl rfl ?_
        refine WL.op rfl (.pickF (.tmp rfl) hb43 .bool) ?_
        refine WL.ns ?_
        refine W.condF (.tmp rfl) ?_
        refine W.skip ?_
        exact WN.meet (((0 : Int), (⟨(0 : Int), ([] : List api_Step), ([] : Str), (0 : Int), (0 : Int)⟩ : api_Cite)), (none : Tok)) (Option.some.inj hm) ⟨Ent.q rfl, Ent.q rfl, Ent.q rfl, Ent.q rfl, trivial⟩ ⟨rfl, rfl, ⟨rfl, rfl, ⟨rfl, rfl, trivial⟩⟩⟩
     ·have hp18 := of_decide_eq_false hb17
      rw [if_neg hp18] at hm
      refine W.draw [.c ((tL tS).is w), .c ((tI .i64).is (w.length : Int)), .c (tB.is (decide ((2 : Int) < (w.length : Int)))), .c (tB.is (decide ((2 : Int) < (w.length : Int)))), .c (Asn.eq undef), .c (Asn.eq undef), .c (Asn.eq undef), .c (Asn.eq undef), .c (tB.is false), .c (tB.is false), .c (Asn.eq undef), .c (Asn.eq undef), .c (Asn.eq undef), .c (Asn.eq undef), .c (tB.is false), .c (tB.is false), .c (Asn.eq undef), .c (Asn.eq undef), .c (Asn.eq undef), .c (Asn.eq undef), .c (Asn.eq undef), .c (Asn.eq undef), .c (tB.is false)] [([], [0]), ([0], []), ([1], []), ([2], []), ([3], [0]), ([3, 4], []), ([3, 5], []), ([3, 6], []), ([3, 7], []), ([8], []), ([9], [0]), ([9, 10], []), ([9, 11], []), ([9, 12], []), ([9, 13], []), ([14], []), ([15], []), ([15], [0]), ([15, 17], []), ([15, 18], []), ([15, 16, 19], []), ([15, 20], []), ([15, 21], [])] Tryd.mixed rfl rfl rfl rfl (by exact ⟨.inr (Op1.move (.tmp rfl)), .inr (Op1.lenL Tryd.underlying28 (.tmp rfl)), .inr (Op1.gtI (.tmp rfl) .i64), .inr (Op1.move (.tmp rfl)), .inr (dp rfl rfl rfl hb17), .inr (dp rfl rfl rfl hb17), .inr (dp rfl rfl rfl hb17), .inr (dp rfl rfl rfl hb17), .inr (Op1.pickF (.tmp rfl) hb17 .bool), .inr (Op1.move (.tmp rfl)), .inr (dp rfl rfl rfl rfl), .inr (dp rfl rfl rfl rfl), .inr (dp rfl rfl rfl rfl), .inr (dp rfl rfl rfl rfl), .inr (Op1.pickF (.tmp rfl) rfl .bool), .inr (Op1.move (.tmp rfl)), .inr (dp rfl rfl rfl rfl), .inr (dp rfl rfl rfl rfl), .inr (dp rfl rfl rfl rfl), .inr (dp rfl rfl rfl rfl), .inr (dp rfl rfl rfl rfl), .inr (dp rfl rfl rfl rfl), .inr (Op1.pickF (.tmp rfl) rfl .bool), trivial⟩) ?_
      refine WN.seq ?_
      refine W.condF (.tmp rfl) ?_
      refine W.sr ?_
      refine WL.mv rfl rfl ?_
      refine WL.op rfl (.lenL Tryd.underlying28 (.tmp rfl)) ?_
      refine WL.op rfl (.gtI (.tmp rfl) .i64) ?_
      refine WL.mv rfl rfl ?_
      rcases bcases (decide ((0 : Int) < (w.length : Int))) with hb48 | hb48
      ·have hp49 := of_decide_eq_true hb48
       rw [if_pos hp49] at hm
       refine WL.run rfl rfl rfl rfl hb48 rfl rfl (Op1.move (.tmp rfl)) ?_
       obtain ⟨v10, hv50, hm⟩ := bind_some hm
       refine WL.run rfl rfl rfl rfl hb48 rfl rfl (Op1.idx hv50 Tryd.underlying28 Tryd.sizeOf9 (.tmp rfl) .i64) ?_
       refine WL.run rfl rfl rfl rfl hb48 rfl rfl (Op1.load ty9 (.tmp rfl)) ?_
       refine WL.run rfl rfl rfl rfl hb48 rfl rfl (Op1.eqS (.tmp rfl) (.str rfl (by decide))) ?_
       refine WL.op rfl (.pickT (.tmp rfl) hb48 (.tmp rfl)) ?_
       refine WL.ns ?_
       refine W.cond (.tmp rfl) (fun hc51 => ?_) (fun hc51 => ?_)
       ·have hp52 := hc51
        rw [if_pos hp52] at hm
        refine W.sr ?_
        refine WL.op rfl (.fieldAddrB (o := 0) Tryd.underlying24 rfl (fun w => ⟨0, Tryd.sizeOf3 w⟩) (.tmp rfl) rfl) ?_
        refine WL.opU (OpR.storeBF (b := b1) 4 rfl ty3 (sapi_Cite_k1_0 (none : Tok)) rfl (show 0 + 1 ≤ 5 by decide) (.tmp rfl) .i64) (fun _ => ?_)
        refine WL.nr1 ?_
        refine WL.op rfl (.assign .i64) ?_
        refine WL.nil ?_
        exact WN.meet (((1 : Int), ({ (⟨(0 : Int), ([] : List api_Step), ([] : Str), (0 : Int), (0 : Int)⟩ : api_Cite) with Kind := (4 : Int) } : api_Cite)), (none : Tok)) (Option.some.inj hm) ⟨Ent.q rfl, Ent.q rfl, Ent.q rfl, Ent.q rfl, trivial⟩ ⟨rfl, rfl, ⟨rfl, rfl, ⟨rfl, rfl, trivial⟩⟩⟩
       ·have hp52 := ne_of_false hc51
        rw [if_neg hp52] at hm
        refine W.skip ?_
        exact WN.meet (((0 : Int), (⟨(0 : Int), ([] : List api_Step), ([] : Str), (0 : Int), (0 : Int)⟩ : api_Cite)), (none : Tok)) (Option.some.inj hm) ⟨Ent.q rfl, Ent.q rfl, Ent.q rfl, Ent.q rfl, trivial⟩ ⟨rfl, rfl, ⟨rfl, rfl, ⟨rfl, rfl, trivial⟩⟩⟩
      ·have hp49 := of_decide_eq_false hb48
       rw [if_neg hp49] at hm
       iterate 4 refine WL.pass rfl rfl rfl rfl hb48 rfl rfl ?_
       refine WL.op rfl (.pickF (.tmp rfl) hb48 .bool) ?_
       refine WL.ns ?_
       refine W.condF (.tmp rfl) ?_
       refine W.skip ?_
       exact WN.meet (((0 : Int), (⟨(0 : Int), ([] : List api_Step), ([] : Str), (0 : Int), (0 : Int)⟩ : api_Cite)), (none : Tok)) (Option.some.inj hm) ⟨Ent.q rfl, Ent.q rfl, Ent.q rfl, Ent.q rfl, trivial⟩ ⟨rfl, rfl, ⟨rfl, rfl, ⟨rfl, rfl, trivial⟩⟩⟩
   ·have hp8 := ne_of_false hb7
    rw [if_neg hp8] at hm
    refine W.draw [.c ((tL tS).is w), .c ((tI .i64).is (w.length : Int)), .c (tB.is (decide ((1 : Int) < (w.length : Int)))), .c (tB.is (decide ((1 : Int) < (w.length : Int)))), .c ((tL tS).is w), .c (tS.ptr v), .c (tS.is v), .c (tB.is (v == ([116, 104, 105, 115] : Str))), .c (tB.is (v == ([116, 104, 105, 115] : Str))), .c (tB.is (v == ([116, 104, 105, 115] : Str))), .c (Asn.eq undef), .c (Asn.eq undef), .c (Asn.eq undef), .c (Asn.eq undef), .c (Asn.eq undef), .c (Asn.eq undef), .c (tB.is false)] [([], [0]), ([0], []), ([1], []), ([2], []), ([3], [0]), ([3, 4], []), ([3, 5], []), ([3, 6], []), ([3, 7], []), ([8], []), ([9], []), ([9], [0]), ([9, 11], []), ([9, 12], []), ([9, 10, 13], []), ([9, 14], []), ([9, 15], [])] Tryd.mixed rfl rfl rfl rfl ⟨.inr (Op1.move (.tmp rfl)), .inr (Op1.lenL Tryd.underlying28 (.tmp rfl)), .inr (Op1.gtI (.tmp rfl) .i64), .inr (Op1.move (.tmp rfl)), .inr (dr rfl rfl rfl hb4 (Op1.move (.tmp rfl))), .inr (dr rfl rfl rfl hb4 (Op1.idx hv6 Tryd.underlying28 Tryd.sizeOf9 (.tmp rfl) .i64)), .inr (dr rfl rfl rfl hb4 (Op1.load ty9 (.tmp rfl))), .inr (dr rfl rfl rfl hb4 (Op1.eqS (.tmp rfl) (.str rfl (by decide)))), .inr (Op1.pickT (.tmp rfl) hb4 (.tmp rfl)), .inr (Op1.move (.tmp rfl)), .inr (dp rfl rfl rfl hb7), .inr (dp rfl rfl rfl hb7), .inr (dp rfl rfl rfl hb7), .inr (dp rfl rfl rfl hb7), .inr (dp rfl rfl rfl hb7), .inr (dp rfl rfl rfl hb7), .inr (Op1.pickF (.tmp rfl) hb7 .bool), trivial⟩ ?_
    refine WN.seq ?_
    refine W.condF (.tmp rfl) ?_
    refine W.seq ?_
    rcases bcases (decide ((2 : Int) < (w.length : Int))) with hb53 | hb53
    ·have hp54 := of_decide_eq_true hb53
     rw [if_pos hp54] at hm
     obtain ⟨v11, hv55, hm⟩ := bind_some hm
     rcases bcases (v11 == ([116, 104, 101] : Str)) with hb56 | hb56
     ·have hp57 := hb56
      rw [if_pos hp57] at hm
      obtain ⟨v12, hv58, hm⟩ := bind_some hm
      rcases bcases (v12 == ([115, 97, 105, 100] : Str)) with hb59 | hb59
      ·have hp60 := hb59
       rw [if_pos hp60] at hm
       obtain ⟨single4, hv61, hm⟩ := bind_some hm
       obtain ⟨v13, hv62, hm⟩ := bind_some hm
       obtain ⟨kind4, hv63, hm⟩ := bind_some hm
       refine W.draw [.c ((tL tS).is w), .c ((tI .i64).is (w.length : Int)), .c (tB.is (decide ((2 : Int) < (w.length : Int)))), .c (tB.is (decide ((2 : Int) < (w.length : Int)))), .c ((tL tS).is w), .c (tS.ptr v11), .c (tS.is v11), .c (tB.is (v11 == ([116, 104, 101] : Str))), .c (tB.is (v11 == ([116, 104, 101] : Str))), .c (tB.is (v11 == ([116, 104, 101] : Str))), .c ((tL tS).is w), .c (tS.ptr v12), .c (tS.is v12), .c (tB.is (v12 == ([115, 97, 105, 100] : Str))), .c (tB.is (v12 == ([115, 97, 105, 100] : Str))), .c (tB.is (v12 == ([115, 97, 105, 100] : Str))), .c ((tL tS).is single4), .c ((tL tS).is w), .c (tS.ptr v13), .c (tS.is v13), .c ((tI .i64).is kind4), .c (tB.is (decide ((0 : Int) < kind4))), .c (tB.is (decide ((0 : Int) < kind4)))] [([], [0]), ([0], []), ([1], []), ([2], []), ([3], [0]), ([3, 4], []), ([3, 5], []), ([3, 6], []), ([3, 7], []), ([8], []), ([9], [0]), ([9, 10], []), ([9, 11], []), ([9, 12], []), ([9, 13], []), ([14], []), ([15], []), ([15], [0]), ([15, 17], []), ([15, 18], []), ([15, 16, 19], []), ([15, 20], []), ([15, 21], [])] Tryd.mixed rfl rfl rfl rfl (by exact ⟨.inr (Op1.move (.tmp rfl)), .inr (Op1.lenL Tryd.underlying28 (.tmp rfl)), .inr (Op1.gtI (.tmp rfl) .i64), .inr (Op1.move (.tmp rfl)), .inr (dr rfl rfl rfl hb53 (Op1.move (.tmp rfl))), .inr (dr rfl rfl rfl hb53 (Op1.idx hv55 Tryd.underlying28 Tryd.sizeOf9 (.tmp rfl) .i64)), .inr (dr rfl rfl rfl hb53 (Op1.load ty9 (.tmp rfl))), .inr (dr rfl rfl rfl hb53 (Op1.eqS (.tmp rfl) (.str rfl (by decide)))), .inr (Op1.pickT (.tmp rfl) hb53 (.tmp rfl)), .inr (Op1.move (.tmp rfl)), .inr (dr rfl rfl rfl hb56 (Op1.move (.tmp rfl))), .inr (dr rfl rfl rfl hb56 (Op1.idx hv58 Tryd.underlying28 Tryd.sizeOf9 (.tmp rfl) .i64)), .inr (dr rfl rfl rfl hb56 (Op1.load ty9 (.tmp rfl))), .inr (dr rfl rfl rfl hb56 (Op1.eqS (.tmp rfl) (.str rfl (by decide)))), .inr (Op1.pickT (.tmp rfl) hb56 (.tmp rfl)), .inr (Op1.move (.tmp rfl)), .inr (dr rfl rfl rfl hb59 (Op1.call Tryd.call33 (r20_Singles_spec _ hv61) trivial)), .inr (dr rfl rfl rfl hb59 (Op1.move (.tmp rfl))), .inr (dr rfl rfl rfl hb59 (Op1.idx hv62 Tryd.underlying28 Tryd.sizeOf9 (.tmp rfl) .i64)), .inr (dr rfl rfl rfl hb59 (Op1.load ty9 (.tmp rfl))), .inr (dr rfl rfl rfl hb59 (Op1.call Tryd.call42 (r20_kind_spec _ _ _ _ hv63) ⟨(.tmp rfl), (.tmp rfl), trivial⟩)), .inr (dr rfl rfl rfl hb59 (Op1.gtI (.tmp rfl) .i64)), .inr (Op1.pickT (.tmp rfl) hb59 (.tmp rfl)), trivial⟩) ?_
       refine WN.seq ?_
       refine W.cond (.tmp rfl) (fun hc64 => ?_) (fun hc64 => ?_)
       ·have hp65 := of_decide_eq_true hc64
        rw [if_pos hp65] at hm
        refine W.sr ?_
        refine WL.op rfl (.fieldAddrB (o := 0) Tryd.underlying24 rfl (fun w => ⟨0, Tryd.sizeOf3 w⟩) (.tmp rfl) rfl) ?_
        refine WL.opU (OpR.storeBF (b := b1) 4 rfl ty3 (sapi_Cite_k1_0 (none : Tok)) rfl (show 0 + 1 ≤ 5 by decide) (.tmp rfl) .i64) (fun _ => ?_)
        refine WL.ns ?_
        refine W.seq ?_
        obtain ⟨single5, hv66, hm⟩ := bind_some hm
        obtain ⟨v14, hv67, hm⟩ := bind_some hm
        obtain ⟨kind5, hv68, hm⟩ := bind_some hm
        refine W.weakR (res' := [(1000004, Dec.Own tapi_Step 50 (none : Tok) ([] : List api_Step).length), (2, (Bx 5 true 24 (tapi_Cite.is zapi_Cite) b)), (4, (Bx 5 true 24 ((tapi_Cite_k1 (none : Tok)).is ({ (⟨(0 : Int), ([] : List api_Step), ([] : Str), (0 : Int), (0 : Int)⟩ : api_Cite) with Kind := (3 : Int) } : api_Cite)) b1))]) ⟨rfl, rfl, ⟨rfl, rfl, ⟨rfl, rfl, trivial⟩⟩⟩ ?_
        refine W.drawM [.c ((tL tS).is single5), .c ((tL tS).is w), .c (tS.ptr v14), .c (tS.is v14), .c ((tI .i64).is kind5), .c (tapi_Step.is (⟨kind5, ([] : Str)⟩ : api_Step)), .f (fun cv2 => (tO tapi_Step (cv2 0) ([(⟨kind5, ([] : Str)⟩ : api_Step)]))), .c (Bp b1 1), .c Asn.any] [([], []), ([], [0]), ([1], []), ([2], []), ([0, 3], []), ([4], []), ([5], []), ([], [4]), ([6, 7], [])] [6, 8] [[], [], [], [], [], [], [true], [], []] (fun m cv2 => match m with | 0 => [(1000004, Dec.Own tapi_Step 50 (none : Tok) ([] : List api_Step).length), (2, (Bx 5 true 24 (tapi_Cite.is zapi_Cite) b)), (4, (Bx 5 true 24 ((tapi_Cite_k1 (none : Tok)).is ({ (⟨(0 : Int), ([] : List api_Step), ([] : Str), (0 : Int), (0 : Int)⟩ : api_Cite) with Kind := (3 : Int) } : api_Cite)) b1))] | 1 => [(63, Dec.Own tapi_Step 50 (cv2 0) ([(⟨kind5, ([] : Str)⟩ : api_Step)]).length), (1000004, Dec.Own tapi_Step 50 (none : Tok) ([] : List api_Step).length), (2, (Bx 5 true 24 (tapi_Cite.is zapi_Cite) b)), (4, (Bx 5 true 24 ((tapi_Cite_k1 (none : Tok)).is ({ (⟨(0 : Int), ([] : List api_Step), ([] : Str), (0 : Int), (0 : Int)⟩ : api_Cite) with Kind := (3 : Int) } : api_Cite)) b1))] | _ => [(4, (Bx 5 true 24 ((tapi_Cite_k1 (cv2 0)).is ({ ({ (⟨(0 : Int), ([] : List api_Step), ([] : Str), (0 : Int), (0 : Int)⟩ : api_Cite) with Kind := (3 : Int) } : api_Cite) with Path := [(⟨kind5, ([] : Str)⟩ : api_Step)] } : api_Cite)) b1)), (63, Dec.Own tapi_Step 50 (cv2 0) ([(⟨kind5, ([] : Str)⟩ : api_Step)]).length), (1000004, Dec.Own tapi_Step 50 (none : Tok) ([] : List api_Step).length), (2, (Bx 5 true 24 (tapi_Cite.is zapi_Cite) b))]) (fun _ => none) Tryd.mixed rfl rfl rfl rfl rfl ⟨fun _ _ _ _ => rfl, ⟨fun _ _ _ _ => rfl, ⟨fun _ _ _ _ => rfl, ⟨fun _ _ _ _ => rfl, ⟨fun _ _ _ _ => rfl, ⟨fun _ _ _ _ => rfl, ⟨fun m hm c t => by simp only [DA.at, upd_dep (r := [true]) (j := 0) rfl hm], ⟨fun _ _ _ _ => rfl, ⟨fun _ _ _ _ => rfl, trivial⟩⟩⟩⟩⟩⟩⟩⟩⟩ rfl ⟨mo fun cv2 => Op1.call Tryd.call33 (r20_Singles_spec _ hv66) trivial, ⟨mo fun cv2 => Op1.move (.tmp rfl), ⟨mo fun cv2 => Op1.idx hv67 Tryd.underlying28 Tryd.sizeOf9 (.tmp rfl) .i64, ⟨mo fun cv2 => Op1.load ty9 (.tmp rfl), ⟨mo fun cv2 => Op1.call Tryd.call42 (r20_kind_spec _ _ _ _ hv68) ⟨(.tmp rfl), (.tmp rfl), trivial⟩, ⟨mo fun cv2 => Op1.build (s := tapi_Step) (x := (⟨kind5, ([] : Str)⟩ : api_Step)) zapi_Step_f rfl Tryd.underlying50 (zapi_Step_sz _ Tryd.underlying50) ze50 ⟨_, (tI .i64), kind5, _, _, rfl, Tryd.sizeOf3, (.tmp rfl), sapi_Step_0, rfl⟩, ⟨.inl rfl, ⟨mo fun cv2 => Op1.fieldAddrB (o := 0) Tryd.underlying24 rfl (fun w => ⟨0, Tryd.sizeOf22 w⟩) (.tmp rfl) rfl, ⟨.inl rfl, trivial⟩⟩⟩⟩⟩⟩⟩⟩⟩ ⟨⟨_, _, _, [], (fun cv2 => [(63, Dec.Own tapi_Step 50 (cv2 0) ([(⟨kind5, ([] : Str)⟩ : api_Step)]).length)]), rfl, rfl, rfl, rfl, fun _ => rfl, fun _ _ => rfl, fun cv2 => OpR.buildSlice (n := 1) (ys := [(0, (⟨kind5, ([] : Str)⟩ : api_Step))]) (z := zapi_Step) (xs := [(⟨kind5, ([] : Str)⟩ : api_Step)]) 63 Tryd.underlying22 el50 ze50 ⟨rfl, (.tmp rfl), trivial⟩ (by simp) (by decide) rfl⟩, ⟨⟨_, _, _, [4], (fun cv2 => [(4, (Bx 5 true 24 ((tapi_Cite_k1 (cv2 0)).is ({ ({ (⟨(0 : Int), ([] : List api_Step), ([] : Str), (0 : Int), (0 : Int)⟩ : api_Cite) with Kind := (3 : Int) } : api_Cite) with Path := [(⟨kind5, ([] : Str)⟩ : api_Step)] } : api_Cite)) b1))]), rfl, rfl, rfl, rfl, fun _ => rfl, fun _ _ => rfl, fun cv2 => OpR.viaU (OpR.storeBFT (b := b1) (s := (tapi_Cite_k1 (none : Tok))) (s' := (tapi_Cite_k1 (cv2 0))) (t := (tOT tapi_Step (cv2 0))) 4 rfl rfl ⟨ty22.agg, ty22.size⟩ (sTapi_Cite_k1 (none : Tok) (cv2 0)) rfl (show 1 + 1 ≤ 5 by decide) (.tmp rfl) (Opd.toOT (.tmp rfl)))⟩, trivial⟩⟩ (fun cv2 => ?_)
        refine WN.weakR (res' := [(63, Dec.Own tapi_Step 50 (cv2 0) ([(⟨kind5, ([] : Str)⟩ : api_Step)]).length), (2, (Bx 5 true 24 (tapi_Cite.is zapi_Cite) b)), (4, (Bx 5 true 24 ((tapi_Cite_k1 (cv2 0)).is ({ ({ (⟨(0 : Int), ([] : List api_Step), ([] : Str), (0 : Int), (0 : Int)⟩ : api_Cite) with Kind := (3 : Int) } : api_Cite) with Path := [(⟨kind5, ([] : Str)⟩ : api_Step)] } : api_Cite)) b1))]) ⟨rfl, rfl, ⟨rfl, rfl, ⟨rfl, rfl, trivial⟩⟩⟩ ?_
        refine WN.rekey (res' := [(1000004, Dec.Own tapi_Step 50 (cv2 0) ([(⟨kind5, ([] : Str)⟩ : api_Step)]).length), (2, (Bx 5 true 24 (tapi_Cite.is zapi_Cite) b)), (4, (Bx 5 true 24 ((tapi_Cite_k1 (cv2 0)).is ({ ({ (⟨(0 : Int), ([] : List api_Step), ([] : Str), (0 : Int), (0 : Int)⟩ : api_Cite) with Kind := (3 : Int) } : api_Cite) with Path := [(⟨kind5, ([] : Str)⟩ : api_Step)] } : api_Cite)) b1))]) rfl ?_
        refine WN.seq ?_
        refine W.region ?_
        refine WL.op rfl (.assign .i64) ?_
        refine WL.nil ?_
        exact WN.meet (((3 : Int), ({ ({ (⟨(0 : Int), ([] : List api_Step), ([] : Str), (0 : Int), (0 : Int)⟩ : api_Cite) with Kind := (3 : Int) } : api_Cite) with Path := [(⟨kind5, ([] : Str)⟩ : api_Step)] } : api_Cite)), (cv2 0)) (Option.some.inj hm) ⟨Ent.q rfl, Ent.q rfl, Ent.q rfl, Ent.q rfl, trivial⟩ ⟨rfl, rfl, ⟨rfl, rfl, ⟨rfl, rfl, trivial⟩⟩⟩
       ·have hp65 := of_decide_eq_false hc64
        rw [if_neg hp65] at hm
        refine W.sr ?_
        refine WL.mv rfl rfl ?_
        refine WL.op rfl (.lenL Tryd.underlying28 (.tmp rfl)) ?_
        refine WL.op rfl (.gtI (.tmp rfl) .i64) ?_
        refine WL.mv rfl rfl ?_
        rcases bcases (decide ((0 : Int) < (w.length : Int))) with hb69 | hb69
        ·have hp70 := of_decide_eq_true hb69
         rw [if_pos hp70] at hm
         refine WL.run rfl rfl rfl rfl hb69 rfl rfl (Op1.move (.tmp rfl)) ?_
         obtain ⟨v15, hv71, hm⟩ := bind_some hm
         refine WL.run rfl rfl rfl rfl hb69 rfl rfl (Op1.idx hv71 Tryd.underlying28 Tryd.sizeOf9 (.tmp rfl) .i64) ?_
         refine WL.run rfl rfl rfl rfl hb69 rfl rfl (Op1.load ty9 (.tmp rfl)) ?_
         refine WL.run rfl rfl rfl rfl hb69 rfl rfl (Op1.eqS (.tmp rfl) (.str rfl (by decide))) ?_
         refine WL.op rfl (.pickT (.tmp rfl) hb69 (.tmp rfl)) ?_
         refine WL.ns ?_
         refine W.cond (.tmp rfl) (fun hc72 => ?_) (fun hc72 => ?_)
         ·have hp73 := hc72
          rw [if_pos hp73] at hm
          refine W.sr ?_
          refine WL.op rfl (.fieldAddrB (o := 0) Tryd.underlying24 rfl (fun w => ⟨0, Tryd.sizeOf3 w⟩) (.tmp rfl) rfl) ?_
          refine WL.opU (OpR.storeBF (b := b1) 4 rfl ty3 (sapi_Cite_k1_0 (none : Tok)) rfl (show 0 + 1 ≤ 5 by decide) (.tmp rfl) .i64) (fun _ => ?_)
          refine WL.nr1 ?_
          refine WL.op rfl (.assign .i64) ?_
          refine WL.nil ?_
          exact WN.meet (((1 : Int), ({ (⟨(0 : Int), ([] : List api_Step), ([] : Str), (0 : Int), (0 : Int)⟩ : api_Cite) with Kind := (4 : Int) } : api_Cite)), (none : Tok)) (Option.some.inj hm) ⟨Ent.q rfl, Ent.q rfl, Ent.q rfl, Ent.q rfl, trivial⟩ ⟨rfl, rfl, ⟨rfl, rfl, ⟨rfl, rfl, trivial⟩⟩⟩
         ·have hp73 := ne_of_false hc72
          rw [if_neg hp73] at hm
          refine W.skip ?_
          exact WN.meet (((0 : Int), (⟨(0 : Int), ([] : List api_Step), ([] : Str), (0 : Int), (0 : Int)⟩ : api_Cite)), (none : Tok)) (Option.some.inj hm) ⟨Ent.q rfl, Ent.q rfl, Ent.q rfl, Ent.q rfl, trivial⟩ ⟨rfl, rfl, ⟨rfl, rfl, ⟨rfl, rfl, trivial⟩⟩⟩
        ·have hp70 := of_decide_eq_false hb69
         rw [if_neg hp70] at hm
         iterate 4 refine WL.pass rfl rfl rfl rfl hb69 rfl rfl ?_
         refine WL.op rfl (.pickF (.tmp rfl) hb69 .bool) ?_
         refine WL.ns ?_
         refine W.condF (.tmp rfl) ?_
         refine W.skip ?_
         exact WN.meet (((0 : Int), (⟨(0 : Int), ([] : List api_Step), ([] : Str), (0 : Int), (0 : Int)⟩ : api_Cite)), (none : Tok)) (Option.some.inj hm) ⟨Ent.q rfl, Ent.q rfl, Ent.q rfl, Ent.q rfl, trivial⟩ ⟨rfl, rfl, ⟨rfl, rfl, ⟨rfl, rfl, trivial⟩⟩⟩
      ·have hp60 := ne_of_false hb59
       rw [if_neg hp60] at hm
       refine W.draw [.c ((tL tS).is w), .c ((tI .i64).is (w.length : Int)), .c (tB.is (decide ((2 : Int) < (w.length : Int)))), .c (tB.is (decide ((2 : Int) < (w.length : Int)))), .c ((tL tS).is w), .c (tS.ptr v11), .c (tS.is v11), .c (tB.is (v11 == ([116, 104, 101] : Str))), .c (tB.is (v11 == ([116, 104, 101] : Str))), .c (tB.is (v11 == ([116, 104, 101] : Str))), .c ((tL tS).is w), .c (tS.ptr v12), .c (tS.is v12), .c (tB.is (v12 == ([115, 97, 105, 100] : Str))), .c (tB.is (v12 == ([115, 97, 105, 100] : Str))), .c (tB.is (v12 == ([115, 97, 105, 100] : Str))), .c (Asn.eq undef), .c (Asn.eq undef), .c (Asn.eq undef), .c (Asn.eq undef), .c (Asn.eq undef), .c (Asn.eq undef), .c (tB.is false)] [([], [0]), ([0], []), ([1], []), ([2], []), ([3], [0]), ([3, 4], []), ([3, 5], []), ([3, 6], []), ([3, 7], []), ([8], []), ([9], [0]), ([9, 10], []), ([9, 11], []), ([9, 12], []), ([9, 13], []), ([14], []), ([15], []), ([15], [0]), ([15, 17], []), ([15, 18], []), ([15, 16, 19], []), ([15, 20], []), ([15, 21], [])] Tryd.mixed rfl rfl rfl rfl (by exact ⟨.inr (Op1.move (.tmp rfl)), .inr (Op1.lenL Tryd.underlying28 (.tmp rfl)), .inr (Op1.gtI (.tmp rfl) .i64), .inr (Op1.move (.tmp rfl)), .inr (dr rfl rfl rfl hb53 (Op1.move (.tmp rfl))), .inr (dr rfl rfl rfl hb53 (Op1.idx hv55 Tryd.underlying28 Tryd.sizeOf9 (.tmp rfl) .i64)), .inr (dr rfl rfl rfl hb53 (Op1.load ty9 (.tmp rfl))), .inr (dr rfl rfl rfl hb53 (Op1.eqS (.tmp rfl) (.str rfl (by decide)))), .inr (Op1.pickT (.tmp rfl) hb53 (.tmp rfl)), .inr (Op1.move (.tmp rfl)), .inr (dr rfl rfl rfl hb56 (Op1.move (.tmp rfl))), .inr (dr rfl rfl rfl hb56 (Op1.idx hv58 Tryd.underlying28 Tryd.sizeOf9 (.tmp rfl) .i64)), .inr (dr rfl rfl rfl hb56 (Op1.load ty9 (.tmp rfl))), .inr (dr rfl rfl rfl hb56 (Op1.eqS (.tmp rfl) (.str rfl (by decide)))), .inr (Op1.pickT (.tmp rfl) hb56 (.tmp rfl)), .inr (Op1.move (.tmp rfl)), .inr (dp rfl rfl rfl hb59), .inr (dp rfl rfl rfl hb59), .inr (dp rfl rfl rfl hb59), .inr (dp rfl rfl rfl hb59), .inr (dp rfl rfl rfl hb59), .inr (dp rfl rfl rfl hb59), .inr (Op1.pickF (.tmp rfl) hb59 .bool), trivial⟩) ?_
       refine WN.seq ?_
       refine W.condF (.tmp rfl) ?_
       refine W.sr ?_
       refine WL.mv rfl rfl ?_
       refine WL.op rfl (.lenL Tryd.underlying28 (.tmp rfl)) ?_
       refine WL.op rfl (.gtI (.tmp rfl) .i64) ?_
       refine WL.mv rfl rfl ?_
       rcases bcases (decide ((0 : Int) < (w.length : Int))) with hb74 | hb74
       ·have hp75 := of_decide_eq_true hb74
        rw [if_pos hp75] at hm
        refine WL.run rfl rfl rfl rfl hb74 rfl rfl (Op1.move (.tmp rfl)) ?_
        obtain ⟨v16, hv76, hm⟩ := bind_some hm
        refine WL.run rfl rfl rfl rfl hb74 rfl rfl (Op1.idx hv76 Tryd.underlying28 Tryd.sizeOf9 (.tmp rfl) .i64) ?_
        refine WL.run rfl rfl rfl rfl hb74 rfl rfl (Op1.load ty9 (.tmp rfl)) ?_
        refine WL.run rfl rfl rfl rfl hb74 rfl rfl (Op1.eqS (.tmp rfl) (.str rfl (by decide))) ?_
        refine WL.op rfl (.pickT (.tmp rfl) hb74 (.tmp rfl)) ?_
        refine WL.ns ?_
        refine W.cond (.tmp rfl) (fun hc77 => ?_) (fun hc77 => ?_)
        ·have hp78 := hc77
         rw [if_pos hp78] at hm
         refine W.sr ?_
         refine WL.op rfl (.fieldAddrB (o := 0) Tryd.underlying24 rfl (fun w => ⟨0, Tryd.sizeOf3 w⟩) (.tmp rfl) rfl) ?_
         refine WL.opU (OpR.storeBF (b := b1) 4 rfl ty3 (sapi_Cite_k1_0 (none : Tok)) rfl (show 0 + 1 ≤ 5 by decide) (.tmp rfl) .i64) (fun _ => ?_)
         refine WL.nr1 ?_
         refine WL.op rfl (.assign .i64) ?_
         refine WL.nil ?_
         exact WN.meet (((1 : Int), ({ (⟨(0 : Int), ([] : List api_Step), ([] : Str), (0 : Int), (0 : Int)⟩ : api_Cite) with Kind := (4 : Int) } : api_Cite)), (none : Tok)) (Option.some.inj hm) ⟨Ent.q rfl, Ent.q rfl, Ent.q rfl, Ent.q rfl, trivial⟩ ⟨rfl, rfl, ⟨rfl, rfl, ⟨rfl, rfl, trivial⟩⟩⟩
        ·have hp78 := ne_of_false hc77
         rw [if_neg hp78] at hm
         refine W.skip ?_
         exact WN.meet (((0 : Int), (⟨(0 : Int), ([] : List api_Step), ([] : Str), (0 : Int), (0 : Int)⟩ : api_Cite)), (none : Tok)) (Option.some.inj hm) ⟨Ent.q rfl, Ent.q rfl, Ent.q rfl, Ent.q rfl, trivial⟩ ⟨rfl, rfl, ⟨rfl, rfl, ⟨rfl, rfl, trivial⟩⟩⟩
       ·have hp75 := of_decide_eq_false hb74
        rw [if_neg hp75] at hm
        iterate 4 refine WL.pass rfl rfl rfl rfl hb74 rfl rfl ?_
        refine WL.op rfl (.pickF (.tmp rfl) hb74 .bool) ?_
        refine WL.ns ?_
        refine W.condF (.tmp rfl) ?_
        refine W.skip ?_
        exact WN.meet (((0 : Int), (⟨(0 : Int), ([] : List api_Step), ([] : Str), (0 : Int), (0 : Int)⟩ : api_Cite)), (none : Tok)) (Option.some.inj hm) ⟨Ent.q rfl, Ent.q rfl, Ent.q rfl, Ent.q rfl, trivial⟩ ⟨rfl, rfl, ⟨rfl, rfl, ⟨rfl, rfl, trivial⟩⟩⟩
     ·have hp57 := ne_of_false hb56
      rw [if_neg hp57] at hm
      refine W.draw [.c ((tL tS).is w), .c ((tI .i64).is (w.length : Int)), .c (tB.is (decide ((2 : Int) < (w.length : Int)))), .c (tB.is (decide ((2 : Int) < (w.length : Int)))), .c ((tL tS).is w), .c (tS.ptr v11), .c (tS.is v11), .c (tB.is (v11 == ([116, 104, 101] : Str))), .c (tB.is (v11 == ([116, 104, 101] : Str))), .c (tB.is (v11 == ([116, 104, 101] : Str))), .c (Asn.eq undef), .c (Asn.eq undef), .c (Asn.eq undef), .c (Asn.eq undef), .c (tB.is false), .c (tB.is false), .c (Asn.eq undef), .c (Asn.eq undef), .c (Asn.eq undef), .c (Asn.eq undef), .c (Asn.eq undef), .c (Asn.eq undef), .c (tB.is false)] [([], [0]), ([0], []), ([1], []), ([2], []), ([3], [0]), ([3, 4], []), ([3, 5], []), ([3, 6], []), ([3, 7], []), ([8], []), ([9], [0]), ([9, 10], []), ([9, 11], []), ([9, 12], []), ([9, 13], []), ([14], []), ([15], []), ([15], [0]), ([15, 17], []), ([15, 18], []), ([15, 16, 19], []), ([15, 20], []), ([15, 21], [])] Tryd.mixed rfl rfl rfl rfl (by exact ⟨.inr (Op1.move (.tmp rfl)), .inr (Op1.lenL Tryd.underlying28 (.tmp rfl)), .inr (Op1.gtI (.tmp rfl) .i64), .inr (Op1.move (.tmp rfl)), .inr (dr rfl rfl rfl hb53 (Op1.move (.tmp rfl))), .inr (dr rfl rfl rfl hb53 (Op1.idx hv55 Tryd.underlying28 Tryd.sizeOf9 (.tmp rfl) .i64)), .inr (dr rfl rfl rfl hb53 (Op1.load ty9 (.tmp rfl))), .inr (dr rfl rfl rfl hb53 (Op1.eqS (.tmp rfl) (.str rfl (by decide)))), .inr (Op1.pickT (.tmp rfl) hb53 (.tmp rfl)), .inr (Op1.move (.tmp rfl)), .inr (dp rfl rfl rfl hb56), .inr (dp rfl rfl rfl hb56), .inr (dp rfl rfl rfl hb56), .inr (dp rfl rfl rfl hb56), .inr (Op1.pickF (.tmp rfl) hb56 .bool), .inr (Op1.move (.tmp rfl)), .inr (dp rfl rfl rfl rfl), .inr (dp rfl rfl rfl rfl), .inr (dp rfl rfl rfl rfl), .inr (dp rfl rfl rfl rfl), .inr (dp rfl rfl rfl rfl), .inr (dp rfl rfl rfl rfl), .inr (Op1.pickF (.tmp rfl) rfl .bool), trivial⟩) ?_
      refine WN.seq ?_
      refine W.condF (.tmp rfl) ?_
      refine W.sr ?_
      refine WL.mv rfl rfl ?_
      refine WL.op rfl (.lenL Tryd.underlying28 (.tmp rfl)) ?_
      refine WL.op rfl (.gtI (.tmp rfl) .i64) ?_
      refine WL.mv rfl rfl ?_
      rcases bcases (decide ((0 : Int) < (w.length : Int))) with hb79 | hb79
      ·have hp80 := of_decide_eq_true hb79
       rw [if_pos hp80] at hm
       refine WL.run rfl rfl rfl rfl hb79 rfl rfl (Op1.move (.tmp rfl)) ?_
       obtain ⟨v17, hv81, hm⟩ := bind_some hm
       refine WL.run rfl rfl rfl rfl hb79 rfl rfl (Op1.idx hv81 Tryd.underlying28 Tryd.sizeOf9 (.tmp rfl) .i64) ?_
       refine WL.run rfl rfl rfl rfl hb79 rfl rfl (Op1.load ty9 (.tmp rfl)) ?_
       refine WL.run rfl rfl rfl rfl hb79 rfl rfl (Op1.eqS (.tmp rfl) (.str rfl (by decide))) ?_
       refine WL.op rfl (.pickT (.tmp rfl) hb79 (.tmp rfl)) ?_
       refine WL.ns ?_
       refine W.cond (.tmp rfl) (fun hc82 => ?_) (fun hc82 => ?_)
       ·have hp83 := hc82
        rw [if_pos hp83] at hm
        refine W.sr ?_
        refine WL.op rfl (.fieldAddrB (o := 0) Tryd.underlying24 rfl (fun w => ⟨0, Tryd.sizeOf3 w⟩) (.tmp rfl) rfl) ?_
        refine WL.opU (OpR.storeBF (b := b1) 4 rfl ty3 (sapi_Cite_k1_0 (none : Tok)) rfl (show 0 + 1 ≤ 5 by decide) (.tmp rfl) .i64) (fun _ => ?_)
        refine WL.nr1 ?_
        refine WL.op rfl (.assign .i64) ?_
        refine WL.nil ?_
        exact WN.meet (((1 : Int), ({ (⟨(0 : Int), ([] : List api_Step), ([] : Str), (0 : Int), (0 : Int)⟩ : api_Cite) with Kind := (4 : Int) } : api_Cite)), (none : Tok)) (Option.some.inj hm) ⟨Ent.q rfl, Ent.q rfl, Ent.q rfl, Ent.q rfl, trivial⟩ ⟨rfl, rfl, ⟨rfl, rfl, ⟨rfl, rfl, trivial⟩⟩⟩
       ·have hp83 := ne_of_false hc82
        rw [if_neg hp83] at hm
        refine W.skip ?_
        exact WN.meet (((0 : Int), (⟨(0 : Int), ([] : List api_Step), ([] : Str), (0 : Int), (0 : Int)⟩ : api_Cite)), (none : Tok)) (Option.some.inj hm) ⟨Ent.q rfl, Ent.q rfl, Ent.q rfl, Ent.q rfl, trivial⟩ ⟨rfl, rfl, ⟨rfl, rfl, ⟨rfl, rfl, trivial⟩⟩⟩
      ·have hp80 := of_decide_eq_false hb79
       rw [if_neg hp80] at hm
       iterate 4 refine WL.pass rfl rfl rfl rfl hb79 rfl rfl ?_
       refine WL.op rfl (.pickF (.tmp rfl) hb79 .bool) ?_
       refine WL.ns ?_
       refine W.condF (.tmp rfl) ?_
       refine W.skip ?_
       exact WN.meet (((0 : Int), (⟨(0 : Int), ([] : List api_Step), ([] : Str), (0 : Int), (0 : Int)⟩ : api_Cite)), (none : Tok)) (Option.some.inj hm) ⟨Ent.q rfl, Ent.q rfl, Ent.q rfl, Ent.q rfl, trivial⟩ ⟨rfl, rfl, ⟨rfl, rfl, ⟨rfl, rfl, trivial⟩⟩⟩
    ·have hp54 := of_decide_eq_false hb53
     rw [if_neg hp54] at hm
     refine W.draw [.c ((tL tS).is w), .c ((tI .i64).is (w.length : Int)), .c (tB.is (decide ((2 : Int) < (w.length : Int)))), .c (tB.is (decide ((2 : Int) < (w.length : Int)))), .c (Asn.eq undef), .c (Asn.eq undef), .c (Asn.eq undef), .c (Asn.eq undef), .c (tB.is false), .c (tB.is false), .c (Asn.eq undef), .c (Asn.eq undef), .c (Asn.eq undef), .c (Asn.eq undef), .c (tB.is false), .c (tB.is false), .c (Asn.eq undef), .c (Asn.eq undef), .c (Asn.eq undef), .c (Asn.eq undef), .c (Asn.eq undef), .c (Asn.eq undef), .c (tB.is false)] [([], [0]), ([0], []), ([1], []), ([2], []), ([3], [0]), ([3, 4], []), ([3, 5], []), ([3, 6], []), ([3, 7], []), ([8], []), ([9], [0]), ([9, 10], []), ([9, 11], []), ([9, 12], []), ([9, 13], []), ([14], []), ([15], []), ([15], [0]), ([15, 17], []), ([15, 18], []), ([15, 16, 19], []), ([15, 20], []), ([15, 21], [])] Tryd.mixed rfl rfl rfl rfl (by exact ⟨.inr (Op1.move (.tmp rfl)), .inr (Op1.lenL Tryd.underlying28 (.tmp rfl)), .inr (Op1.gtI (.tmp rfl) .i64), .inr (Op1.move (.tmp rfl)), .inr (dp rfl rfl rfl hb53), .inr (dp rfl rfl rfl hb53), .inr (dp rfl rfl rfl hb53), .inr (dp rfl rfl rfl hb53), .inr (Op1.pickF (.tmp rfl) hb53 .bool), .inr (Op1.move (.tmp rfl)), .inr (dp rfl rfl rfl rfl), .inr (dp rfl rfl rfl rfl), .inr (dp rfl rfl rfl rfl), .inr (dp rfl rfl rfl rfl), .inr (Op1.pickF (.tmp rfl) rfl .bool), .inr (Op1.move (.tmp rfl)), .inr (dp rfl rfl rfl rfl), .inr (dp rfl rfl rfl rfl), .inr (dp rfl rfl rfl rfl), .inr (dp rfl rfl rfl rfl), .inr (dp rfl rfl rfl rfl), .inr (dp rfl rfl rfl rfl), .inr (Op1.pickF (.tmp rfl) rfl .bool), trivial⟩) ?_
     refine WN.seq ?_
     refine W.condF (.tmp rfl) ?_
     refine W.sr ?_
     refine WL.mv rfl rfl ?_
     refine WL.op rfl (.lenL Tryd.underlying28 (.tmp rfl)) ?_
     refine WL.op rfl (.gtI (.tmp rfl) .i64) ?_
     refine WL.mv rfl rfl ?_
     rcases bcases (decide ((0 : Int) < (w.length : Int))) with hb84 | hb84
     ·have hp85 := of_decide_eq_true hb84
      rw [if_pos hp85] at hm
      refine WL.run rfl rfl rfl rfl hb84 rfl rfl (Op1.move (.tmp rfl)) ?_
      obtain ⟨v18, hv86, hm⟩ := bind_some hm
      refine WL.run rfl rfl rfl rfl hb84 rfl rfl (Op1.idx hv86 Tryd.underlying28 Tryd.sizeOf9 (.tmp rfl) .i64) ?_
      refine WL.run rfl rfl rfl rfl hb84 rfl rfl (Op1.load ty9 (.tmp rfl)) ?_
      refine WL.run rfl rfl rfl rfl hb84 rfl rfl (Op1.eqS (.tmp rfl) (.str rfl (by decide))) ?_
      refine WL.op rfl (.pickT (.tmp rfl) hb84 (.tmp rfl)) ?_
      refine WL.ns ?_
      refine W.cond (.tmp rfl) (fun hc87 => ?_) (fun hc87 => ?_)
      ·have hp88 := hc87
       rw [if_pos hp88] at hm
       refine W.sr ?_
       refine WL.op rfl (.fieldAddrB (o := 0) Tryd.underlying24 rfl (fun w => ⟨0, Tryd.sizeOf3 w⟩) (.tmp rfl) rfl) ?_
       refine WL.opU (OpR.storeBF (b := b1) 4 rfl ty3 (sapi_Cite_k1_0 (none : Tok)) rfl (show 0 + 1 ≤ 5 by decide) (.tmp rfl) .i64) (fun _ => ?_)
       refine WL.nr1 ?_
       refine WL.op rfl (.assign .i64) ?_
       refine WL.nil ?_
       exact WN.meet (((1 : Int), ({ (⟨(0 : Int), ([] : List api_Step), ([] : Str), (0 : Int), (0 : Int)⟩ : api_Cite) with Kind := (4 : Int) } : api_Cite)), (none : Tok)) (Option.some.inj hm) ⟨Ent.q rfl, Ent.q rfl, Ent.q rfl, Ent.q rfl, trivial⟩ ⟨rfl, rfl, ⟨rfl, rfl, ⟨rfl, rfl, trivial⟩⟩⟩
      ·have hp88 := ne_of_false hc87
       rw [if_neg hp88] at hm
       refine W.skip ?_
       exact WN.meet (((0 : Int), (⟨(0 : Int), ([] : List api_Step), ([] : Str), (0 : Int), (0 : Int)⟩ : api_Cite)), (none : Tok)) (Option.some.inj hm) ⟨Ent.q rfl, Ent.q rfl, Ent.q rfl, Ent.q rfl, trivial⟩ ⟨rfl, rfl, ⟨rfl, rfl, ⟨rfl, rfl, trivial⟩⟩⟩
     ·have hp85 := of_decide_eq_false hb84
      rw [if_neg hp85] at hm
      iterate 4 refine WL.pass rfl rfl rfl rfl hb84 rfl rfl ?_
      refine WL.op rfl (.pickF (.tmp rfl) hb84 .bool) ?_
      refine WL.ns ?_
      refine W.condF (.tmp rfl) ?_
      refine W.skip ?_
      exact WN.meet (((0 : Int), (⟨(0 : Int), ([] : List api_Step), ([] : Str), (0 : Int), (0 : Int)⟩ : api_Cite)), (none : Tok)) (Option.some.inj hm) ⟨Ent.q rfl, Ent.q rfl, Ent.q rfl, Ent.q rfl, trivial⟩ ⟨rfl, rfl, ⟨rfl, rfl, ⟨rfl, rfl, trivial⟩⟩⟩
  ·have hp5 := of_decide_eq_false hb4
   rw [if_neg hp5] at hm
   refine W.draw [.c ((tL tS).is w), .c ((tI .i64).is (w.length : Int)), .c (tB.is (decide ((1 : Int) < (w.length : Int)))), .c (tB.is (decide ((1 : Int) < (w.length : Int)))), .c (Asn.eq undef), .c (Asn.eq undef), .c (Asn.eq undef), .c (Asn.eq undef), .c (tB.is false), .c (tB.is false), .c (Asn.eq undef), .c (Asn.eq undef), .c (Asn.eq undef), .c (Asn.eq undef), .c (Asn.eq undef), .c (Asn.eq undef), .c (tB.is false)] [([], [0]), ([0], []), ([1], []), ([2], []), ([3], [0]), ([3, 4], []), ([3, 5], []), ([3, 6], []), ([3, 7], []), ([8], []), ([9], []), ([9], [0]), ([9, 11], []), ([9, 12], []), ([9, 10, 13], []), ([9, 14], []), ([9, 15], [])] Tryd.mixed rfl rfl rfl rfl ⟨.inr (Op1.move (.tmp rfl)), .inr (Op1.lenL Tryd.underlying28 (.tmp rfl)), .inr (Op1.gtI (.tmp rfl) .i64), .inr (Op1.move (.tmp rfl)), .inr (dp rfl rfl rfl hb4), .inr (dp rfl rfl rfl hb4), .inr (dp rfl rfl rfl hb4), .inr (dp rfl rfl rfl hb4), .inr (Op1.pickF (.tmp rfl) hb4 .bool), .inr (Op1.move (.tmp rfl)), .inr (dp rfl rfl rfl rfl), .inr (dp rfl rfl rfl rfl), .inr (dp rfl rfl rfl rfl), .inr (dp rfl rfl rfl rfl), .inr (dp rfl rfl rfl rfl), .inr (dp rfl rfl rfl rfl), .inr (Op1.pickF (.tmp rfl) rfl .bool), trivial⟩ ?_
   refine WN.seq ?_
   refine W.condF (.tmp rfl) ?_
   refine W.seq ?_
   rcases bcases (decide ((2 : Int) < (w.length : Int))) with hb89 | hb89
   ·have hp90 := of_decide_eq_true hb89
    rw [if_pos hp90] at hm
    obtain ⟨v19, hv91, hm⟩ := bind_some hm
    rcases bcases (v19 == ([116, 104, 101] : Str)) with hb92 | hb92
    ·have hp93 := hb92
     rw [if_pos hp93] at hm
     obtain ⟨v20, hv94, hm⟩ := bind_some hm
     rcases bcases (v20 == ([115, 97, 105, 100] : Str)) with hb95 | hb95
     ·have hp96 := hb95
      rw [if_pos hp96] at hm
      obtain ⟨single6, hv97, hm⟩ := bind_some hm
      obtain ⟨v21, hv98, hm⟩ := bind_some hm
      obtain ⟨kind6, hv99, hm⟩ := bind_some hm
      refine W.draw [.c ((tL tS).is w), .c ((tI .i64).is (w.length : Int)), .c (tB.is (decide ((2 : Int) < (w.length : Int)))), .c (tB.is (decide ((2 : Int) < (w.length : Int)))), .c ((tL tS).is w), .c (tS.ptr v19), .c (tS.is v19), .c (tB.is (v19 == ([116, 104, 101] : Str))), .c (tB.is (v19 == ([116, 104, 101] : Str))), .c (tB.is (v19 == ([116, 104, 101] : Str))), .c ((tL tS).is w), .c (tS.ptr v20), .c (tS.is v20), .c (tB.is (v20 == ([115, 97, 105, 100] : Str))), .c (tB.is (v20 == ([115, 97, 105, 100] : Str))), .c (tB.is (v20 == ([115, 97, 105, 100] : Str))), .c ((tL tS).is single6), .c ((tL tS).is w), .c (tS.ptr v21), .c (tS.is v21), .c ((tI .i64).is kind6), .c (tB.is (decide ((0 : Int) < kind6))), .c (tB.is (decide ((0 : Int) < kind6)))] [([], [0]), ([0], []), ([1], []), ([2], []), ([3], [0]), ([3, 4], []), ([3, 5], []), ([3, 6], []), ([3, 7], []), ([8], []), ([9], [0]), ([9, 10], []), ([9, 11], []), ([9, 12], []), ([9, 13], []), ([14], []), ([15], []), ([15], [0]), ([15, 17], []), ([15, 18], []), ([15, 16, 19], []), ([15, 20], []), ([15, 21], [])] Tryd.mixed rfl rfl rfl rfl (by exact ⟨.inr (Op1.move (.tmp rfl)), .inr (Op1.lenL Tryd.underlying28 (.tmp rfl)), .inr (Op1.gtI (.tmp rfl) .i64), .inr (Op1.move (.tmp rfl)), .inr (dr rfl rfl rfl hb89 (Op1.move (.tmp rfl))), .inr (dr rfl rfl rfl hb89 (Op1.idx hv91 Tryd.underlying28 Tryd.sizeOf9 (.tmp rfl) .i64)), .inr (dr rfl rfl rfl hb89 (Op1.load ty9 (.tmp rfl))), .inr (dr rfl rfl rfl hb89 (Op1.eqS (.tmp rfl) (.str rfl (by decide)))), .inr (Op1.pickT (.tmp rfl) hb89 (.tmp rfl)), .inr (Op1.move (.tmp rfl)), .inr (dr rfl rfl rfl hb92 (Op1.move (.tmp rfl))), .inr (dr rfl rfl rfl hb92 (Op1.idx hv94 Tryd.underlying28 Tryd.sizeOf9 (.tmp rfl) .i64)), .inr (dr rfl rfl rfl hb92 (Op1.load ty9 (.tmp rfl))), .inr (dr rfl rfl rfl hb92 (Op1.eqS (.tmp rfl) (.str rfl (by decide)))), .inr (Op1.pickT (.tmp rfl) hb92 (.tmp rfl)), .inr (Op1.move (.tmp rfl)), .inr (dr rfl rfl rfl hb95 (Op1.call Tryd.call33 (r20_Singles_spec _ hv97) trivial)), .inr (dr rfl rfl rfl hb95 (Op1.move (.tmp rfl))), .inr (dr rfl rfl rfl hb95 (Op1.idx hv98 Tryd.underlying28 Tryd.sizeOf9 (.tmp rfl) .i64)), .inr (dr rfl rfl rfl hb95 (Op1.load ty9 (.tmp rfl))), .inr (dr rfl rfl rfl hb95 (Op1.call Tryd.call42 (r20_kind_spec _ _ _ _ hv99) ⟨(.tmp rfl), (.tmp rfl), trivial⟩)), .inr (dr rfl rfl rfl hb95 (Op1.gtI (.tmp rfl) .i64)), .inr (Op1.pickT (.tmp rfl) hb95 (.tmp rfl)), trivial⟩) ?_
      refine WN.seq ?_
      refine W.cond (.tmp rfl) (fun hc100 => ?_) (fun hc100 => ?_)
      ·have hp101 := of_decide_eq_true hc100
       rw [if_pos hp101] at hm
       refine W.sr ?_
       refine WL.op rfl (.fieldAddrB (o := 0) Tryd.underlying24 rfl (fun w => ⟨0, Tryd.sizeOf3 w⟩) (.tmp rfl) rfl) ?_
       refine WL.opU (OpR.storeBF (b := b1) 4 rfl ty3 (sapi_Cite_k1_0 (none : Tok)) rfl (show 0 + 1 ≤ 5 by decide) (.tmp rfl) .i64) (fun _ => ?_)
       refine WL.ns ?_
       refine W.seq ?_
       obtain ⟨single7, hv102, hm⟩ := bind_some hm
       obtain ⟨v22, hv103, hm⟩ := bind_some hm
       obtain ⟨kind7, hv104, hm⟩ := bind_some hm
       refine W.weakR (res' := [(1000004, Dec.Own tapi_Step 50 (none : Tok) ([] : List api_Step).length), (2, (Bx 5 true 24 (tapi_Cite.is zapi_Cite) b)), (4, (Bx 5 true 24 ((tapi_Cite_k1 (none : Tok)).is ({ (⟨(0 : Int), ([] : List api_Step), ([] : Str), (0 : Int), (0 : Int)⟩ : api_Cite) with Kind := (3 : Int) } : api_Cite)) b1))]) ⟨rfl, rfl, ⟨rfl, rfl, ⟨rfl, rfl, trivial⟩⟩⟩ ?_
       refine W.drawM [.c ((tL tS).is single7), .c ((tL tS).is w), .c (tS.ptr v22), .c (tS.is v22), .c ((tI .i64).is kind7), .c (tapi_Step.is (⟨kind7, ([] : Str)⟩ : api_Step)), .f (fun cv3 => (tO tapi_Step (cv3 0) ([(⟨kind7, ([] : Str)⟩ : api_Step)]))), .c (Bp b1 1), .c Asn.any] [([], []), ([], [0]), ([1], []), ([2], []), ([0, 3], []), ([4], []), ([5], []), ([], [4]), ([6, 7], [])] [6, 8] [[], [], [], [], [], [], [true], [], []] (fun m cv3 => match m with | 0 => [(1000004, Dec.Own tapi_Step 50 (none : Tok) ([] : List api_Step).length), (2, (Bx 5 true 24 (tapi_Cite.is zapi_Cite) b)), (4, (Bx 5 true 24 ((tapi_Cite_k1 (none : Tok)).is ({ (⟨(0 : Int), ([] : List api_Step), ([] : Str), (0 : Int), (0 : Int)⟩ : api_Cite) with Kind := (3 : Int) } : api_Cite)) b1))] | 1 => [(63, Dec.Own tapi_Step 50 (cv3 0) ([(⟨kind7, ([] : Str)⟩ : api_Step)]).length), (1000004, Dec.Own tapi_Step 50 (none : Tok) ([] : List api_Step).length), (2, (Bx 5 true 24 (tapi_Cite.is zapi_Cite) b)), (4, (Bx 5 true 24 ((tapi_Cite_k1 (none : Tok)).is ({ (⟨(0 : Int), ([] : List api_Step), ([] : Str), (0 : Int), (0 : Int)⟩ : api_Cite) with Kind := (3 : Int) } : api_Cite)) b1))] | _ => [(4, (Bx 5 true 24 ((tapi_Cite_k1 (cv3 0)).is ({ ({ (⟨(0 : Int), ([] : List api_Step), ([] : Str), (0 : Int), (0 : Int)⟩ : api_Cite) with Kind := (3 : Int) } : api_Cite) with Path := [(⟨kind7, ([] : Str)⟩ : api_Step)] } : api_Cite)) b1)), (63, Dec.Own tapi_Step 50 (cv3 0) ([(⟨kind7, ([] : Str)⟩ : api_Step)]).length), (1000004, Dec.Own tapi_Step 50 (none : Tok) ([] : List api_Step).length), (2, (Bx 5 true 24 (tapi_Cite.is zapi_Cite) b))]) (fun _ => none) Tryd.mixed rfl rfl rfl rfl rfl ⟨fun _ _ _ _ => rfl, ⟨fun _ _ _ _ => rfl, ⟨fun _ _ _ _ => rfl, ⟨fun _ _ _ _ => rfl, ⟨fun _ _ _ _ => rfl, ⟨fun _ _ _ _ => rfl, ⟨fun m hm c t => by simp only [DA.at, upd_dep (r := [true]) (j := 0) rfl hm], ⟨fun _ _ _ _ => rfl, ⟨fun _ _ _ _ => rfl, trivial⟩⟩⟩⟩⟩⟩⟩⟩⟩ rfl ⟨mo fun cv3 => Op1.call Tryd.call33 (r20_Singles_spec _ hv102) trivial, ⟨mo fun cv3 => Op1.move (.tmp rfl), ⟨mo fun cv3 => Op1.idx hv103 Tryd.underlying28 Tryd.sizeOf9 (.tmp rfl) .i64, ⟨mo fun cv3 => Op1.load ty9 (.tmp rfl), ⟨mo fun cv3 => Op1.call Tryd.call42 (r20_kind_spec _ _ _ _ hv104) ⟨(.tmp rfl), (.tmp rfl), trivial⟩, ⟨mo fun cv3 => Op1.build (s := tapi_Step) (x := (⟨kind7, ([] : Str)⟩ : api_Step)) zapi_Step_f rfl Tryd.underlying50 (zapi_Step_sz _ Tryd.underlying50) ze50 ⟨_, (tI .i64), kind7, _, _, rfl, Tryd.sizeOf3, (.tmp rfl), sapi_Step_0, rfl⟩, ⟨.inl rfl, ⟨mo fun cv3 => Op1.fieldAddrB (o := 0) Tryd.underlying24 rfl (fun w => ⟨0, Tryd.sizeOf22 w⟩) (.tmp rfl) rfl, ⟨.inl rfl, trivial⟩⟩⟩⟩⟩⟩⟩⟩⟩ ⟨⟨_, _, _, [], (fun cv3 => [(63, Dec.Own tapi_Step 50 (cv3 0) ([(⟨kind7, ([] : Str)⟩ : api_Step)]).length)]), rfl, rfl, rfl, rfl, fun _ => rfl, fun _ _ => rfl, fun cv3 => OpR.buildSlice (n := 1) (ys := [(0, (⟨kind7, ([] : Str)⟩ : api_Step))]) (z := zapi_Step) (xs := [(⟨kind7, ([] : Str)⟩ : api_Step)]) 63 Tryd.underlying22 el50 ze50 ⟨rfl, (.tmp rfl), trivial⟩ (by simp) (by decide) rfl⟩, ⟨⟨_, _, _, [4], (fun cv3 => [(4, (Bx 5 true 24 ((tapi_Cite_k1 (cv3 0)).is ({ ({ (⟨(0 : Int), ([] : List api_Step), ([] : Str), (0 : Int), (0 : Int)⟩ : api_Cite) with Kind := (3 : Int) } : api_Cite) with Path := [(⟨kind7, ([] : Str)⟩ : api_Step)] } : api_Cite)) b1))]), rfl, rfl, rfl, rfl, fun _ => rfl, fun _ _ => rfl, fun cv3 => OpR.viaU (OpR.storeBFT (b := b1) (s := (tapi_Cite_k1 (none : Tok))) (s' := (tapi_Cite_k1 (cv3 0))) (t := (tOT tapi_Step (cv3 0))) 4 rfl rfl ⟨ty22.agg, ty22.size⟩ (sTapi_Cite_k1 (none : Tok) (cv3 0)) rfl (show 1 + 1 ≤ 5 by decide) (.tmp rfl) (Opd.toOT (.tmp rfl)))⟩, trivial⟩⟩ (fun cv3 => ?_)
       refine WN.weakR (res' := [(63, Dec.Own tapi_Step 50 (cv3 0) ([(⟨kind7, ([] : Str)⟩ : api_Step)]).length), (2, (Bx 5 true 24 (tapi_Cite.is zapi_Cite) b)), (4, (Bx 5 true 24 ((tapi_Cite_k1 (cv3 0)).is ({ ({ (⟨(0 : Int), ([] : List api_Step), ([] : Str), (0 : Int), (0 : Int)⟩ : api_Cite) with Kind := (3 : Int) } : api_Cite) with Path := [(⟨kind7, ([] : Str)⟩ : api_Step)] } : api_Cite)) b1))]) ⟨rfl, rfl, ⟨rfl, rfl, ⟨rfl, rfl, trivial⟩⟩⟩ ?_
       refine WN.rekey (res' := [(1000004, Dec.Own tapi_Step 50 (cv3 0) ([(⟨kind7, ([] : Str)⟩ : api_Step)]).length), (2, (Bx 5 true 24 (tapi_Cite.is zapi_Cite) b)), (4, (Bx 5 true 24 ((tapi_Cite_k1 (cv3 0)).is ({ ({ (⟨(0 : Int), ([] : List api_Step), ([] : Str), (0 : Int), (0 : Int)⟩ : api_Cite) with Kind := (3 : Int) } : api_Cite) with Path := [(⟨kind7, ([] : Str)⟩ : api_Step)] } : api_Cite)) b1))]) rfl ?_
       refine WN.seq ?_
       refine W.region ?_
       refine WL.op rfl (.assign .i64) ?_
       refine WL.nil ?_
       exact WN.meet (((3 : Int), ({ ({ (⟨(0 : Int), ([] : List api_Step), ([] : Str), (0 : Int), (0 : Int)⟩ : api_Cite) with Kind := (3 : Int) } : api_Cite) with Path := [(⟨kind7, ([] : Str)⟩ : api_Step)] } : api_Cite)), (cv3 0)) (Option.some.inj hm) ⟨Ent.q rfl, Ent.q rfl, Ent.q rfl, Ent.q rfl, trivial⟩ ⟨rfl, rfl, ⟨rfl, rfl, ⟨rfl, rfl, trivial⟩⟩⟩
      ·have hp101 := of_decide_eq_false hc100
       rw [if_neg hp101] at hm
       refine W.sr ?_
       refine WL.mv rfl rfl ?_
       refine WL.op rfl (.lenL Tryd.underlying28 (.tmp rfl)) ?_
       refine WL.op rfl (.gtI (.tmp rfl) .i64) ?_
       refine WL.mv rfl rfl ?_
       rcases bcases (decide ((0 : Int) < (w.length : Int))) with hb105 | hb105
       ·have hp106 := of_decide_eq_true hb105
        rw [if_pos hp106] at hm
        refine WL.run rfl rfl rfl rfl hb105 rfl rfl (Op1.move (.tmp rfl)) ?_
        obtain ⟨v23, hv107, hm⟩ := bind_some hm
        refine WL.run rfl rfl rfl rfl hb105 rfl rfl (Op1.idx hv107 Tryd.underlying28 Tryd.sizeOf9 (.tmp rfl) .i64) ?_
        refine WL.run rfl rfl rfl rfl hb105 rfl rfl (Op1.load ty9 (.tmp rfl)) ?_
        refine WL.run rfl rfl rfl rfl hb105 rfl rfl (Op1.eqS (.tmp rfl) (.str rfl (by decide))) ?_
        refine WL.op rfl (.pickT (.tmp rfl) hb105 (.tmp rfl)) ?_
        refine WL.ns ?_
        refine W.cond (.tmp rfl) (fun hc108 => ?_) (fun hc108 => ?_)
        ·have hp109 := hc108
         rw [if_pos hp109] at hm
         refine W.sr ?_
         refine WL.op rfl (.fieldAddrB (o := 0) Tryd.underlying24 rfl (fun w => ⟨0, Tryd.sizeOf3 w⟩) (.tmp rfl) rfl) ?_
         refine WL.opU (OpR.storeBF (b := b1) 4 rfl ty3 (sapi_Cite_k1_0 (none : Tok)) rfl (show 0 + 1 ≤ 5 by decide) (.tmp rfl) .i64) (fun _ => ?_)
         refine WL.nr1 ?_
         refine WL.op rfl (.assign .i64) ?_
         refine WL.nil ?_
         exact WN.meet (((1 : Int), ({ (⟨(0 : Int), ([] : List api_Step), ([] : Str), (0 : Int), (0 : Int)⟩ : api_Cite) with Kind := (4 : Int) } : api_Cite)), (none : Tok)) (Option.some.inj hm) ⟨Ent.q rfl, Ent.q rfl, Ent.q rfl, Ent.q rfl, trivial⟩ ⟨rfl, rfl, ⟨rfl, rfl, ⟨rfl, rfl, trivial⟩⟩⟩
        ·have hp109 := ne_of_false hc108
         rw [if_neg hp109] at hm
         refine W.skip ?_
         exact WN.meet (((0 : Int), (⟨(0 : Int), ([] : List api_Step), ([] : Str), (0 : Int), (0 : Int)⟩ : api_Cite)), (none : Tok)) (Option.some.inj hm) ⟨Ent.q rfl, Ent.q rfl, Ent.q rfl, Ent.q rfl, trivial⟩ ⟨rfl, rfl, ⟨rfl, rfl, ⟨rfl, rfl, trivial⟩⟩⟩
       ·have hp106 := of_decide_eq_false hb105
        rw [if_neg hp106] at hm
        iterate 4 refine WL.pass rfl rfl rfl rfl hb105 rfl rfl ?_
        refine WL.op rfl (.pickF (.tmp rfl) hb105 .bool) ?_
        refine WL.ns ?_
        refine W.condF (.tmp rfl) ?_
        refine W.skip ?_
        exact WN.meet (((0 : Int), (⟨(0 : Int), ([] : List api_Step), ([] : Str), (0 : Int), (0 : Int)⟩ : api_Cite)), (none : Tok)) (Option.some.inj hm) ⟨Ent.q rfl, Ent.q rfl, Ent.q rfl, Ent.q rfl, trivial⟩ ⟨rfl, rfl, ⟨rfl, rfl, ⟨rfl, rfl, trivial⟩⟩⟩
     ·have hp96 := ne_of_false hb95
      rw [if_neg hp96] at hm
      refine W.draw [.c ((tL tS).is w), .c ((tI .i64).is (w.length : Int)), .c (tB.is (decide ((2 : Int) < (w.length : Int)))), .c (tB.is (decide ((2 : Int) < (w.length : Int)))), .c ((tL tS).is w), .c (tS.ptr v19), .c (tS.is v19), .c (tB.is (v19 == ([116, 104, 101] : Str))), .c (tB.is (v19 == ([116, 104, 101] : Str))), .c (tB.is (v19 == ([116, 104, 101] : Str))), .c ((tL tS).is w), .c (tS.ptr v20), .c (tS.is v20), .c (tB.is (v20 == ([115, 97, 105, 100] : Str))), .c (tB.is (v20 == ([115, 97, 105, 100] : Str))), .c (tB.is (v20 == ([115, 97, 105, 100] : Str))), .c (Asn.eq undef), .c (Asn.eq undef), .c (Asn.eq undef), .c (Asn.eq undef), .c (Asn.eq undef), .c (Asn.eq undef), .c (tB.is false)] [([], [0]), ([0], []), ([1], []), ([2], []), ([3], [0]), ([3, 4], []), ([3, 5], []), ([3, 6], []), ([3, 7], []), ([8], []), ([9], [0]), ([9, 10], []), ([9, 11], []), ([9, 12], []), ([9, 13], []), ([14], []), ([15], []), ([15], [0]), ([15, 17], []), ([15, 18], []), ([15, 16, 19], []), ([15, 20], []), ([15, 21], [])] Tryd.mixed rfl rfl rfl rfl (by exact ⟨.inr (Op1.move (.tmp rfl)), .inr (Op1.lenL Tryd.underlying28 (.tmp rfl)), .inr (Op1.gtI (.tmp rfl) .i64), .inr (Op1.move (.tmp rfl)), .inr (dr rfl rfl rfl hb89 (Op1.move (.tmp rfl))), .inr (dr rfl rfl rfl hb89 (Op1.idx hv91 Tryd.underlying28 Tryd.sizeOf9 (.tmp rfl) .i64)), .inr (dr rfl rfl rfl hb89 (Op1.load ty9 (.tmp rfl))), .inr (dr rfl rfl rfl hb89 (Op1.eqS (.tmp rfl) (.str rfl (by decide)))), .inr (Op1.pickT (.tmp rfl) hb89 (.tmp rfl)), .inr (Op1.move (.tmp rfl)), .inr (dr rfl rfl rfl hb92 (Op1.move (.tmp rfl))), .inr (dr rfl rfl rfl hb92 (Op1.idx hv94 Tryd.underlying28 Tryd.sizeOf9 (.tmp rfl) .i64)), .inr (dr rfl rfl rfl hb92 (Op1.load ty9 (.tmp rfl))), .inr (dr rfl rfl rfl hb92 (Op1.eqS (.tmp rfl) (.str rfl (by decide)))), .inr (Op1.pickT (.tmp rfl) hb92 (.tmp rfl)), .inr (Op1.move (.tmp rfl)), .inr (dp rfl rfl rfl hb95), .inr (dp rfl rfl rfl hb95), .inr (dp rfl rfl rfl hb95), .inr (dp rfl rfl rfl hb95), .inr (dp rfl rfl rfl hb95), .inr (dp rfl rfl rfl hb95), .inr (Op1.pickF (.tmp rfl) hb95 .bool), trivial⟩) ?_
      refine WN.seq ?_
      refine W.condF (.tmp rfl) ?_
      refine W.sr ?_
      refine WL.mv rfl rfl ?_
      refine WL.op rfl (.lenL Tryd.underlying28 (.tmp rfl)) ?_
      refine WL.op rfl (.gtI (.tmp rfl) .i64) ?_
      refine WL.mv rfl rfl ?_
      rcases bcases (decide ((0 : Int) < (w.length : Int))) with hb110 | hb110
      ·have hp111 := of_decide_eq_true hb110
       rw [if_pos hp111] at hm
       refine WL.run rfl rfl rfl rfl hb110 rfl rfl (Op1.move (.tmp rfl)) ?_
       obtain ⟨v24, hv112, hm⟩ := bind_some hm
       refine WL.run rfl rfl rfl rfl hb110 rfl rfl (Op1.idx hv112 Tryd.underlying28 Tryd.sizeOf9 (.tmp rfl) .i64) ?_
       refine WL.run rfl rfl rfl rfl hb110 rfl rfl (Op1.load ty9 (.tmp rfl)) ?_
       refine WL.run rfl rfl rfl rfl hb110 rfl rfl (Op1.eqS (.tmp rfl) (.str rfl (by decide))) ?_
       refine WL.op rfl (.pickT (.tmp rfl) hb110 (.tmp rfl)) ?_
       refine WL.ns ?_
       refine W.cond (.tmp rfl) (fun hc113 => ?_) (fun hc113 => ?_)
       ·have hp114 := hc113
        rw [if_pos hp114] at hm
        refine W.sr ?_
        refine WL.op rfl (.fieldAddrB (o := 0) Tryd.underlying24 rfl (fun w => ⟨0, Tryd.sizeOf3 w⟩) (.tmp rfl) rfl) ?_
        refine WL.opU (OpR.storeBF (b := b1) 4 rfl ty3 (sapi_Cite_k1_0 (none : Tok)) rfl (show 0 + 1 ≤ 5 by decide) (.tmp rfl) .i64) (fun _ => ?_)
        refine WL.nr1 ?_
        refine WL.op rfl (.assign .i64) ?_
        refine WL.nil ?_
        exact WN.meet (((1 : Int), ({ (⟨(0 : Int), ([] : List api_Step), ([] : Str), (0 : Int), (0 : Int)⟩ : api_Cite) with Kind := (4 : Int) } : api_Cite)), (none : Tok)) (Option.some.inj hm) ⟨Ent.q rfl, Ent.q rfl, Ent.q rfl, Ent.q rfl, trivial⟩ ⟨rfl, rfl, ⟨rfl, rfl, ⟨rfl, rfl, trivial⟩⟩⟩
       ·have hp114 := ne_of_false hc113
        rw [if_neg hp114] at hm
        refine W.skip ?_
        exact WN.meet (((0 : Int), (⟨(0 : Int), ([] : List api_Step), ([] : Str), (0 : Int), (0 : Int)⟩ : api_Cite)), (none : Tok)) (Option.some.inj hm) ⟨Ent.q rfl, Ent.q rfl, Ent.q rfl, Ent.q rfl, trivial⟩ ⟨rfl, rfl, ⟨rfl, rfl, ⟨rfl, rfl, trivial⟩⟩⟩
      ·have hp111 := of_decide_eq_false hb110
       rw [if_neg hp111] at hm
       iterate 4 refine WL.pass rfl rfl rfl rfl hb110 rfl rfl ?_
       refine WL.op rfl (.pickF (.tmp rfl) hb110 .bool) ?_
       refine WL.ns ?_
       refine W.condF (.tmp rfl) ?_
       refine W.skip ?_
       exact WN.meet (((0 : Int), (⟨(0 : Int), ([] : List api_Step), ([] : Str), (0 : Int), (0 : Int)⟩ : api_Cite)), (none : Tok)) (Option.some.inj hm) ⟨Ent.q rfl, Ent.q rfl, Ent.q rfl, Ent.q rfl, trivial⟩ ⟨rfl, rfl, ⟨rfl, rfl, ⟨rfl, rfl, trivial⟩⟩⟩
    ·have hp93 := ne_of_false hb92
     rw [if_neg hp93] at hm
     refine W.draw [.c ((tL tS).is w), .c ((tI .i64).is (w.length : Int)), .c (tB.is (decide ((2 : Int) < (w.length : Int)))), .c (tB.is (decide ((2 : Int) < (w.length : Int)))), .c ((tL tS).is w), .c (tS.ptr v19), .c (tS.is v19), .c (tB.is (v19 == ([116, 104, 101] : Str))), .c (tB.is (v19 == ([116, 104, 101] : Str))), .c (tB.is (v19 == ([116, 104, 101] : Str))), .c (Asn.eq undef), .c (Asn.eq undef), .c (Asn.eq undef), .c (Asn.eq undef), .c (tB.is false), .c (tB.is false), .c (Asn.eq undef), .c (Asn.eq undef), .c (Asn.eq undef), .c (Asn.eq undef), .c (Asn.eq undef), .c (Asn.eq undef), .c (tB.is false)] [([], [0]), ([0], []), ([1], []), ([2], []), ([3], [0]), ([3, 4], []), ([3, 5], []), ([3, 6], []), ([3, 7], []), ([8], []), ([9], [0]), ([9, 10], []), ([9, 11], []), ([9, 12], []), ([9, 13], []), ([14], []), ([15], []), ([15], [0]), ([15, 17], []), ([15, 18], []), ([15, 16, 19], []), ([15, 20], []), ([15, 21], [])] Tryd.mixed rfl rfl rfl rfl (by exact ⟨.inr (Op1.move (.tmp rfl)), .inr (Op1.lenL Tryd.underlying28 (.tmp rfl)), .inr (Op1.gtI (.tmp rfl) .i64), .inr (Op1.move (.tmp rfl)), .inr (dr rfl rfl rfl hb89 (Op1.move (.tmp rfl))), .inr (dr rfl rfl rfl hb89 (Op1.idx hv91 Tryd.underlying28 Tryd.sizeOf9 (.tmp rfl) .i64)), .inr (dr rfl rfl rfl hb89 (Op1.load ty9 (.tmp rfl))), .inr (dr rfl rfl rfl hb89 (Op1.eqS (.tmp rfl) (.str rfl (by decide)))), .inr (Op1.pickT (.tmp rfl) hb89 (.tmp rfl)), .inr (Op1.move (.tmp rfl)), .inr (dp rfl rfl rfl hb92), .inr (dp rfl rfl rfl hb92), .inr (dp rfl rfl rfl hb92), .inr (dp rfl rfl rfl hb92), .inr (Op1.pickF (.tmp rfl) hb92 .bool), .inr (Op1.move (.tmp rfl)), .inr (dp rfl rfl rfl rfl), .inr (dp rfl rfl rfl rfl), .inr (dp rfl rfl rfl rfl), .inr (dp rfl rfl rfl rfl), .inr (dp rfl rfl rfl rfl), .inr (dp rfl rfl rfl rfl), .inr (Op1.pickF (.tmp rfl) rfl .bool), trivial⟩) ?_
     refine WN.seq ?_
     refine W.condF (.tmp rfl) ?_
     refine W.sr ?_
     refine WL.mv rfl rfl ?_
     refine WL.op rfl (.lenL Tryd.underlying28 (.tmp rfl)) ?_
     refine WL.op rfl (.gtI (.tmp rfl) .i64) ?_
     refine WL.mv rfl rfl ?_
     rcases bcases (decide ((0 : Int) < (w.length : Int))) with hb115 | hb115
     ·have hp116 := of_decide_eq_true hb115
      rw [if_pos hp116] at hm
      refine WL.run rfl rfl rfl rfl hb115 rfl rfl (Op1.move (.tmp rfl)) ?_
      obtain ⟨v25, hv117, hm⟩ := bind_some hm
      refine WL.run rfl rfl rfl rfl hb115 rfl rfl (Op1.idx hv117 Tryd.underlying28 Tryd.sizeOf9 (.tmp rfl) .i64) ?_
      refine WL.run rfl rfl rfl rfl hb115 rfl rfl (Op1.load ty9 (.tmp rfl)) ?_
      refine WL.run rfl rfl rfl rfl hb115 rfl rfl (Op1.eqS (.tmp rfl) (.str rfl (by decide))) ?_
      refine WL.op rfl (.pickT (.tmp rfl) hb115 (.tmp rfl)) ?_
      refine WL.ns ?_
      refine W.cond (.tmp rfl) (fun hc118 => ?_) (fun hc118 => ?_)
      ·have hp119 := hc118
       rw [if_pos hp119] at hm
       refine W.sr ?_
       refine WL.op rfl (.fieldAddrB (o := 0) Tryd.underlying24 rfl (fun w => ⟨0, Tryd.sizeOf3 w⟩) (.tmp rfl) rfl) ?_
       refine WL.opU (OpR.storeBF (b := b1) 4 rfl ty3 (sapi_Cite_k1_0 (none : Tok)) rfl (show 0 + 1 ≤ 5 by decide) (.tmp rfl) .i64) (fun _ => ?_)
       refine WL.nr1 ?_
       refine WL.op rfl (.assign .i64) ?_
       refine WL.nil ?_
       exact WN.meet (((1 : Int), ({ (⟨(0 : Int), ([] : List api_Step), ([] : Str), (0 : Int), (0 : Int)⟩ : api_Cite) with Kind := (4 : Int) } : api_Cite)), (none : Tok)) (Option.some.inj hm) ⟨Ent.q rfl, Ent.q rfl, Ent.q rfl, Ent.q rfl, trivial⟩ ⟨rfl, rfl, ⟨rfl, rfl, ⟨rfl, rfl, trivial⟩⟩⟩
      ·have hp119 := ne_of_false hc118
       rw [if_neg hp119] at hm
       refine W.skip ?_
       exact WN.meet (((0 : Int), (⟨(0 : Int), ([] : List api_Step), ([] : Str), (0 : Int), (0 : Int)⟩ : api_Cite)), (none : Tok)) (Option.some.inj hm) ⟨Ent.q rfl, Ent.q rfl, Ent.q rfl, Ent.q rfl, trivial⟩ ⟨rfl, rfl, ⟨rfl, rfl, ⟨rfl, rfl, trivial⟩⟩⟩
     ·have hp116 := of_decide_eq_false hb115
      rw [if_neg hp116] at hm
      iterate 4 refine WL.pass rfl rfl rfl rfl hb115 rfl rfl ?_
      refine WL.op rfl (.pickF (.tmp rfl) hb115 .bool) ?_
      refine WL.ns ?_
      refine W.condF (.tmp rfl) ?_
      refine W.skip ?_
      exact WN.meet (((0 : Int), (⟨(0 : Int), ([] : List api_Step), ([] : Str), (0 : Int), (0 : Int)⟩ : api_Cite)), (none : Tok)) (Option.some.inj hm) ⟨Ent.q rfl, Ent.q rfl, Ent.q rfl, Ent.q rfl, trivial⟩ ⟨rfl, rfl, ⟨rfl, rfl, ⟨rfl, rfl, trivial⟩⟩⟩
   ·have hp90 := of_decide_eq_false hb89
    rw [if_neg hp90] at hm
    refine W.draw [.c ((tL tS).is w), .c ((tI .i64).is (w.length : Int)), .c (tB.is (decide ((2 : Int) < (w.length : Int)))), .c (tB.is (decide ((2 : Int) < (w.length : Int)))), .c (Asn.eq undef), .c (Asn.eq undef), .c (Asn.eq undef), .c (Asn.eq undef), .c (tB.is false), .c (tB.is false), .c (Asn.eq undef), .c (Asn.eq undef), .c (Asn.eq undef), .c (Asn.eq undef), .c (tB.is false), .c (tB.is false), .c (Asn.eq undef), .c (Asn.eq undef), .c (Asn.eq undef), .c (Asn.eq undef), .c (Asn.eq undef), .c (Asn.eq undef), .c (tB.is false)] [([], [0]), ([0], []), ([1], []), ([2], []), ([3], [0]), ([3, 4], []), ([3, 5], []), ([3, 6], []), ([3, 7], []), ([8], []), ([9], [0]), ([9, 10], []), ([9, 11], []), ([9, 12], []), ([9, 13], []), ([14], []), ([15], []), ([15], [0]), ([15, 17], []), ([15, 18], []), ([15, 16, 19], []), ([15, 20], []), ([15, 21], [])] Tryd.mixed rfl rfl rfl rfl (by exact ⟨.inr (Op1.move (.tmp rfl)), .inr (Op1.lenL Tryd.underlying28 (.tmp rfl)), .inr (Op1.gtI (.tmp rfl) .i64), .inr (Op1.move (.tmp rfl)), .inr (dp rfl rfl rfl hb89), .inr (dp rfl rfl rfl hb89), .inr (dp rfl rfl rfl hb89), .inr (dp rfl rfl rfl hb89), .inr (Op1.pickF (.tmp rfl) hb89 .bool), .inr (Op1.move (.tmp rfl)), .inr (dp rfl rfl rfl rfl), .inr (dp rfl rfl rfl rfl), .inr (dp rfl rfl rfl rfl), .inr (dp rfl rfl rfl rfl), .inr (Op1.pickF (.tmp rfl) rfl .bool), .inr (Op1.move (.tmp rfl)), .inr (dp rfl rfl rfl rfl), .inr (dp rfl rfl rfl rfl), .inr (dp rfl rfl rfl rfl), .inr (dp rfl rfl rfl rfl), .inr (dp rfl rfl rfl rfl), .inr (dp rfl rfl rfl rfl), .inr (Op1.pickF (.tmp rfl) rfl .bool), trivial⟩) ?_
    refine WN.seq ?_
    refine W.condF (.tmp rfl) ?_
    refine W.sr ?_
    refine WL.mv rfl rfl ?_
    refine WL.op rfl (.lenL Tryd.underlying28 (.tmp rfl)) ?_
    refine WL.op rfl (.gtI (.tmp rfl) .i64) ?_
    refine WL.mv rfl rfl ?_
    rcases bcases (decide ((0 : Int) < (w.length : Int))) with hb120 | hb120
    ·have hp121 := of_decide_eq_true hb120
     rw [if_pos hp121] at hm
     refine WL.run rfl rfl rfl rfl hb120 rfl rfl (Op1.move (.tmp rfl)) ?_
     obtain ⟨v26, hv122, hm⟩ := bind_some hm
     refine WL.run rfl rfl rfl rfl hb120 rfl rfl (Op1.idx hv122 Tryd.underlying28 Tryd.sizeOf9 (.tmp rfl) .i64) ?_
     refine WL.run rfl rfl rfl rfl hb120 rfl rfl (Op1.load ty9 (.tmp rfl)) ?_
     refine WL.run rfl rfl rfl rfl hb120 rfl rfl (Op1.eqS (.tmp rfl) (.str rfl (by decide))) ?_
     refine WL.op rfl (.pickT (.tmp rfl) hb120 (.tmp rfl)) ?_
     refine WL.ns ?_
     refine W.cond (.tmp rfl) (fun hc123 => ?_) (fun hc123 => ?_)
     ·have hp124 := hc123
      rw [if_pos hp124] at hm
      refine W.sr ?_
      refine WL.op rfl (.fieldAddrB (o := 0) Tryd.underlying24 rfl (fun w => ⟨0, Tryd.sizeOf3 w⟩) (.tmp rfl) rfl) ?_
      refine WL.opU (OpR.storeBF (b := b1) 4 rfl ty3 (sapi_Cite_k1_0 (none : Tok)) rfl (show 0 + 1 ≤ 5 by decide) (.tmp rfl) .i64) (fun _ => ?_)
      refine WL.nr1 ?_
      refine WL.op rfl (.assign .i64) ?_
      refine WL.nil ?_
      exact WN.meet (((1 : Int), ({ (⟨(0 : Int), ([] : List api_Step), ([] : Str), (0 : Int), (0 : Int)⟩ : api_Cite) with Kind := (4 : Int) } : api_Cite)), (none : Tok)) (Option.some.inj hm) ⟨Ent.q rfl, Ent.q rfl, Ent.q rfl, Ent.q rfl, trivial⟩ ⟨rfl, rfl, ⟨rfl, rfl, ⟨rfl, rfl, trivial⟩⟩⟩
     ·have hp124 := ne_of_false hc123
      rw [if_neg hp124] at hm
      refine W.skip ?_
      exact WN.meet (((0 : Int), (⟨(0 : Int), ([] : List api_Step), ([] : Str), (0 : Int), (0 : Int)⟩ : api_Cite)), (none : Tok)) (Option.some.inj hm) ⟨Ent.q rfl, Ent.q rfl, Ent.q rfl, Ent.q rfl, trivial⟩ ⟨rfl, rfl, ⟨rfl, rfl, ⟨rfl, rfl, trivial⟩⟩⟩
    ·have hp121 := of_decide_eq_false hb120
     rw [if_neg hp121] at hm
     iterate 4 refine WL.pass rfl rfl rfl rfl hb120 rfl rfl ?_
     refine WL.op rfl (.pickF (.tmp rfl) hb120 .bool) ?_
     refine WL.ns ?_
     refine W.condF (.tmp rfl) ?_
     refine W.skip ?_
     exact WN.meet (((0 : Int), (⟨(0 : Int), ([] : List api_Step), ([] : Str), (0 : Int), (0 : Int)⟩ : api_Cite)), (none : Tok)) (Option.some.inj hm) ⟨Ent.q rfl, Ent.q rfl, Ent.q rfl, Ent.q rfl, trivial⟩ ⟨rfl, rfl, ⟨rfl, rfl, ⟨rfl, rfl, trivial⟩⟩⟩
theorem r20_bare_spec (s0_ : Str) (r : Str) (hm : M.r20_bare s0_ = some r) : FSpec Tryd.prog 61 [(tS.is s0_)] (tS.is r) := by
 unfold M.r20_bare at hm
 refine FSpec.of Tryd.func61 rfl rfl rfl (fun g0 => ?_)
 refine W.sr ?_
 refine WL.op rfl (.assign (.str rfl (by decide))) ?_
 refine WL.ns ?_
 refine W.seq ?_
 refine W.sr ?_
 refine WL.mv rfl rfl ?_
 refine WL.op rfl (.eqS (.tmp rfl) (.str rfl (by decide))) ?_
 refine WL.ns ?_
 refine W.cond (.tmp rfl) (fun hc1 => ?_) (fun hc1 => ?_)
 ·have hp2 := hc1
  rw [if_pos hp2] at hm
  refine W.sr ?_
  refine WL.mv rfl rfl ?_
  refine WL.gv rfl rfl ?_
  refine WL.ns ?_
  cases hm
  exact W.ret1 () rfl (.tmp rfl) trivial
 ·have hp2 := ne_of_false hc1
  rw [if_neg hp2] at hm
  refine W.skip ?_
  refine WN.seq ?_
  refine W.sr ?_
  refine WL.mv rfl rfl ?_
  refine WL.mv rfl rfl ?_
  refine WL.op rfl (.lenS Tryd.underlying9 (.tmp rfl)) ?_
  obtain ⟨v, hv3, hm⟩ := bind_some hm
  refine WL.op rfl (.subC hv3 (.tmp rfl) .i64) ?_
  obtain ⟨b, hv4, hm⟩ := bind_some hm
  refine WL.op rfl (.sidx hv4 Tryd.underlying9 (.tmp rfl) (.tmp rfl)) ?_
  refine WL.gv rfl rfl ?_
  refine WL.ns ?_
  refine W.seq ?_
  refine W.sr ?_
  refine WL.mv rfl rfl ?_
  refine WL.op rfl (.eqI (.tmp rfl) (.int (inR8.2 (by omega)))) ?_
  refine WL.mv rfl rfl ?_
  rcases bcases (decide ((b.toNat : Int) = (44 : Int))) with hb5 | hb5
  ·have hp6 := of_decide_eq_true hb5
   rw [if_pos hp6] at hm
   iterate 2 refine WL.pass rfl rfl rfl rfl hb5 rfl rfl ?_
   refine WL.op rfl (.pickT (.tmp rfl) hb5 .bool) ?_
   refine WL.mv rfl rfl ?_
   iterate 2 refine WL.pass rfl rfl rfl rfl rfl rfl rfl ?_
   refine WL.op rfl (.pickT (.tmp rfl) rfl .bool) ?_
   refine WL.mv rfl rfl ?_
   iterate 2 refine WL.pass rfl rfl rfl rfl rfl rfl rfl ?_
   refine WL.op rfl (.pickT (.tmp rfl) rfl .bool) ?_
   refine WL.mv rfl rfl ?_
   iterate 2 refine WL.pass rfl rfl rfl rfl rfl rfl rfl ?_
   refine WL.op rfl (.pickT (.tmp rfl) rfl .bool) ?_
   refine WL.ns ?_
   refine W.condT (.tmp rfl) ?_
   refine W.sr ?_
   refine WL.mv rfl rfl ?_
   refine WL.mv rfl rfl ?_
   refine WL.op rfl (.lenS Tryd.underlying9 (.tmp rfl)) ?_
   obtain ⟨v1, hv7, hm⟩ := bind_some hm
   refine WL.op rfl (.subC hv7 (.tmp rfl) .i64) ?_
   obtain ⟨v2, hv8, hm⟩ := bind_some hm
   refine WL.op rfl (.sslcHi hv8 Tryd.underlying9 (.tmp rfl) (.tmp rfl)) ?_
   refine WL.gv rfl rfl ?_
   refine WL.ns ?_
   cases hm
   exact W.ret1 () rfl (.tmp rfl) trivial
  ·have hp6 := of_decide_eq_false hb5
   rw [if_neg hp6] at hm
   refine WL.run rfl rfl rfl rfl hb5 rfl rfl (Op1.move (.tmp rfl)) ?_
   refine WL.run rfl rfl rfl rfl hb5 rfl rfl (Op1.eqI (.tmp rfl) (.int (inR8.2 (by omega)))) ?_
   refine WL.op rfl (.pickF (.tmp rfl) hb5 (.tmp rfl)) ?_
   refine WL.mv rfl rfl ?_
   rcases bcases (decide ((b.toNat : Int) = (59 : Int))) with hb9 | hb9
   ·have hp10 := of_decide_eq_true hb9
    rw [if_pos hp10] at hm
    iterate 2 refine WL.pass rfl rfl rfl rfl hb9 rfl rfl ?_
    refine WL.op rfl (.pickT (.tmp rfl) hb9 .bool) ?_
    refine WL.mv rfl rfl ?_
    iterate 2 refine WL.pass rfl rfl rfl rfl rfl rfl rfl ?_
    refine WL.op rfl (.pickT (.tmp rfl) rfl .bool) ?_
    refine WL.mv rfl rfl ?_
    iterate 2 refine WL.pass rfl rfl rfl rfl rfl rfl rfl ?_
    refine WL.op rfl (.pickT (.tmp rfl) rfl .bool) ?_
    refine WL.ns ?_
    refine W.condT (.tmp rfl) ?_
    refine W.sr ?_
    refine WL.mv rfl rfl ?_
    refine WL.mv rfl rfl ?_
    refine WL.op rfl (.lenS Tryd.underlying9 (.tmp rfl)) ?_
    obtain ⟨v3, hv11, hm⟩ := bind_some hm
    refine WL.op rfl (.subC hv11 (.tmp rfl) .i64) ?_
    obtain ⟨v4, hv12, hm⟩ := bind_some hm
    refine WL.op rfl (.sslcHi hv12 Tryd.underlying9 (.tmp rfl) (.tmp rfl)) ?_
    refine WL.gv rfl rfl ?_
    refine WL.ns ?_
    cases hm
    exact W.ret1 () rfl (.tmp rfl) trivial
   ·have hp10 := of_decide_eq_false hb9
    rw [if_neg hp10] at hm
    refine WL.run rfl rfl rfl rfl hb9 rfl rfl (Op1.move (.tmp rfl)) ?_
    refine WL.run rfl rfl rfl rfl hb9 rfl rfl (Op1.eqI (.tmp rfl) (.int (inR8.2 (by omega)))) ?_
    refine WL.op rfl (.pickF (.tmp rfl) hb9 (.tmp rfl)) ?_
    refine WL.mv rfl rfl ?_
    rcases bcases (decide ((b.toNat : Int) = (46 : Int))) with hb13 | hb13
    ·have hp14 := of_decide_eq_true hb13
     rw [if_pos hp14] at hm
     iterate 2 refine WL.pass rfl rfl rfl rfl hb13 rfl rfl ?_
     refine WL.op rfl (.pickT (.tmp rfl) hb13 .bool) ?_
     refine WL.mv rfl rfl ?_
     iterate 2 refine WL.pass rfl rfl rfl rfl rfl rfl rfl ?_
     refine WL.op rfl (.pickT (.tmp rfl) rfl .bool) ?_
     refine WL.ns ?_
     refine W.condT (.tmp rfl) ?_
     refine W.sr ?_
     refine WL.mv rfl rfl ?_
     refine WL.mv rfl rfl ?_
     refine WL.op rfl (.lenS Tryd.underlying9 (.tmp rfl)) ?_
     obtain ⟨v5, hv15, hm⟩ := bind_some hm
     refine WL.op rfl (.subC hv15 (.tmp rfl) .i64) ?_
     obtain ⟨v6, hv16, hm⟩ := bind_some hm
     refine WL.op rfl (.sslcHi hv16 Tryd.underlying9 (.tmp rfl) (.tmp rfl)) ?_
     refine WL.gv rfl rfl ?_
     refine WL.ns ?_
     cases hm
     exact W.ret1 () rfl (.tmp rfl) trivial
    ·have hp14 := of_decide_eq_false hb13
     rw [if_neg hp14] at hm
     refine WL.run rfl rfl rfl rfl hb13 rfl rfl (Op1.move (.tmp rfl)) ?_
     refine WL.run rfl rfl rfl rfl hb13 rfl rfl (Op1.eqI (.tmp rfl) (.int (inR8.2 (by omega)))) ?_
     refine WL.op rfl (.pickF (.tmp rfl) hb13 (.tmp rfl)) ?_
     refine WL.mv rfl rfl ?_
     rcases bcases (decide ((b.toNat : Int) = (58 : Int))) with hb17 | hb17
     ·have hp18 := of_decide_eq_true hb17
      rw [if_pos hp18] at hm
      iterate 2 refine WL.pass rfl rfl rfl rfl hb17 rfl rfl ?_
      refine WL.op rfl (.pickT (.tmp rfl) hb17 .bool) ?_
      refine WL.ns ?_
      refine W.condT (.tmp rfl) ?_
      refine W.sr ?_
      refine WL.mv rfl rfl ?_
      refine WL.mv rfl rfl ?_
      refine WL.op rfl (.lenS Tryd.underlying9 (.tmp rfl)) ?_
      obtain ⟨v7, hv19, hm⟩ := bind_some hm
      refine WL.op rfl (.subC hv19 (.tmp rfl) .i64) ?_
      obtain ⟨v8, hv20, hm⟩ := bind_some hm
      refine WL.op rfl (.sslcHi hv20 Tryd.underlying9 (.tmp rfl) (.tmp rfl)) ?_
      refine WL.gv rfl rfl ?_
      refine WL.ns ?_
      cases hm
      exact W.ret1 () rfl (.tmp rfl) trivial
     ·have hp18 := of_decide_eq_false hb17
      rw [if_neg hp18] at hm
      refine WL.run rfl rfl rfl rfl hb17 rfl rfl (Op1.move (.tmp rfl)) ?_
      refine WL.run rfl rfl rfl rfl hb17 rfl rfl (Op1.eqI (.tmp rfl) (.int (inR8.2 (by omega)))) ?_
      refine WL.op rfl (.pickF (.tmp rfl) hb17 (.tmp rfl)) ?_
      refine WL.ns ?_
      refine W.cond (.tmp rfl) (fun hc21 => ?_) (fun hc21 => ?_)
      ·have hp22 := of_decide_eq_true hc21
       rw [if_pos hp22] at hm
       refine W.sr ?_
       refine WL.mv rfl rfl ?_
       refine WL.mv rfl rfl ?_
       refine WL.op rfl (.lenS Tryd.underlying9 (.tmp rfl)) ?_
       obtain ⟨v9, hv23, hm⟩ := bind_some hm
       refine WL.op rfl (.subC hv23 (.tmp rfl) .i64) ?_
       obtain ⟨v10, hv24, hm⟩ := bind_some hm
       refine WL.op rfl (.sslcHi hv24 Tryd.underlying9 (.tmp rfl) (.tmp rfl)) ?_
       refine WL.gv rfl rfl ?_
       refine WL.ns ?_
       cases hm
       exact W.ret1 () rfl (.tmp rfl) trivial
      ·have hp22 := of_decide_eq_false hc21
       rw [if_neg hp22] at hm
       refine W.skip ?_
       refine WN.seq ?_
       refine W.sr ?_
       refine WL.mv rfl rfl ?_
       refine WL.gv rfl rfl ?_
       refine WL.ns ?_
       cases hm
       exact W.ret1 () rfl (.tmp rfl) trivial
theorem r20_at_spec (n : Nat) (l : List Str) (from0_ : Int) (r : api_Cite × Bool) (hm : M.r20_at n l from0_ = some r) : FSpec Tryd.prog 40 [((tL tS).is l), ((tI .i64).is from0_)] (Asn.tuple2 (tapi_Cite.is r.1) (tB.is r.2)) := by
 unfold M.r20_at at hm
 refine FSpec.of Tryd.func40 rfl rfl rfl (fun g0 => ?_)
 refine W.sr ?_
 refine WL.opR rfl (OpR.alloc 4 ze24) (fun b => ?_)
 refine WL.op rfl (.assign .bool) ?_
 refine WL.ns ?_
 refine W.seq ?_
 refine W.sr ?_
 refine WL.mv rfl rfl ?_
 refine WL.op rfl (.lenL Tryd.underlying28 (.tmp rfl)) ?_
 refine WL.gv rfl rfl ?_
 refine WL.ns ?_
 refine W.block ?_
 obtain ⟨s1, hs2, hk3⟩ := bind_some hm
 clear hm
 refine W.loop (fun m (s : Int × api_Cite) => M.r20_at_loop1 l from0_ m s.1 s.2 = some s1) (fun s => [(6, ((tI .i64).is s.1)), (0, ((tL tS).is l)), (1, ((tI .i64).is from0_)), (4, (Bp b 0))]) (fun s => [(4, (Bx 5 true 24 (tapi_Cite.is s.2) b))]) _ ((l.length : Int), zapi_Cite) hs2 ⟨Ent.q rfl, Ent.q rfl, Ent.q rfl, Ent.q rfl, trivial⟩ ⟨rfl, rfl, trivial⟩ ?_
 rintro n4 ⟨end0_, v⟩ hm
 try dsimp only at hm
 change W _ _ _ _ _ _ _ [(6, ((tI .i64).is end0_)), (0, ((tL tS).is l)), (1, ((tI .i64).is from0_)), (4, (Bp b 0))] [(4, (Bx 5 true 24 (tapi_Cite.is v) b))]
 cases n4 with
 | zero => rw [M.r20_at_loop1.eq_1] at hm; cases hm
 | succ n4 =>
  rw [M.r20_at_loop1.eq_2] at hm
  refine W.seq ?_
  refine W.sr ?_
  refine WL.mv rfl rfl ?_
  refine WL.mv rfl rfl ?_
  refine WL.op rfl (.gtI (.tmp rfl) (.tmp rfl)) ?_
  refine WL.ns ?_
  refine W.cond (.tmp rfl) (fun hc5 => ?_) (fun hc5 => ?_)
  ·have hp6 := of_decide_eq_true hc5
   rw [if_pos hp6] at hm
   refine W.skip ?_
   refine WN.seq ?_
   refine W.seq ?_
   refine W.block ?_
   refine W.seq ?_
   refine W.sr ?_
   refine WL.mv rfl rfl ?_
   refine WL.mv rfl rfl ?_
   obtain ⟨v1, hv7, hm⟩ := bind_some hm
   refine WL.op rfl (.subC hv7 (.tmp rfl) (.tmp rfl)) ?_
   refine WL.op rfl (.gtI (.tmp rfl) .i64) ?_
   refine WL.ns ?_
   refine W.cond (.tmp rfl) (fun hc8 => ?_) (fun hc8 => ?_)
   ·have hp9 := of_decide_eq_true hc8
    rw [if_pos hp9] at hm
    refine W.exit rfl ?_
    refine WN.seq ?_
    refine W.region ?_
    refine WL.mv rfl rfl ?_
    obtain ⟨v2, hv10, hm⟩ := bind_some hm
    refine WL.op rfl (.subC hv10 (.tmp rfl) .i64) ?_
    refine WL.gv rfl rfl ?_
    refine WL.nil ?_
    exact WN.again n4 (v2, v) (Nat.lt_succ_self n4) hm ⟨Ent.q rfl, Ent.q rfl, Ent.q rfl, Ent.q rfl, trivial⟩ ⟨rfl, rfl, trivial⟩
   ·have hp9 := of_decide_eq_false hc8
    rw [if_neg hp9] at hm
    refine W.skip ?_
    refine WN.seq ?_
    refine W.sr ?_
    refine WL.opR rfl (OpR.buildSlice (n := 0) (ys := []) (z := ([] : Str)) (xs := ([] : List Str)) 21 Tryd.underlying28 el9 ze9 trivial (by simp) (by decide) rfl) (fun k => ?_)
    refine WL.freeU (t := tS) (E := 9) 21 21 rfl rfl ?_
    refine WL.mv rfl rfl ?_
    refine WL.mv rfl rfl ?_
    refine WL.mv rfl rfl ?_
    obtain ⟨v3, hv11, hm⟩ := bind_some hm
    refine WL.op rfl (.slc hv11 Tryd.underlying28 Tryd.sizeOf9 (.tmp rfl) (.tmp rfl) (.tmp rfl)) ?_
    obtain ⟨out, hv12, hm⟩ := bind_some hm
    refine WL.opR rfl (OpR.appendU (key := 21) fl9 hv12 Tryd.underlying28 el9 rfl (.tmp rfl) rfl) (fun k1 => ?_)
    refine WL.gv rfl rfl ?_
    refine WL.nr ?_
    refine WL.mv rfl rfl ?_
    obtain ⟨read, hv13, hm⟩ := bind_some hm
    rcases bcases (read.2) with hq15 | hq15
    ·rw [if_neg (by rw [hq15]; exact Bool.noConfusion)] at hm
     refine WL.fixU 28 21 rfl rfl ?_
     refine WL.sameU 28 26 rfl rfl ?_
     refine WL.sameU 28 7 rfl rfl ?_
     refine WL.op (A := (Asn.tuple2 (tapi_Cite.is read.1) (tB.is true))) rfl (Op1.weak (A := (Asn.tuple2 (tapi_Cite.is read.1) (tB.is read.2))) (by exact Op1.call Tryd.call23 (r20_Read_spec _ _ _ hv13) ⟨(Opd.own (.tmp rfl)), trivial⟩) (fun _ _ ⟨x, y, e, h1, h2⟩ => ⟨x, y, e, h1, hq15 ▸ h2⟩)) ?_
     refine WL.mv rfl rfl ?_
     refine WL.op rfl (.extract0 (.tmp rfl)) ?_
     refine WL.op rfl (.extract1 (.tmp rfl)) ?_
     refine WL.opR rfl (OpR.alloc 8 ze24) (fun b2 => ?_)
     refine WL.opU (OpR.storeB (b := b2) 8 Tryd.sizeOf24 (Cellable.is tapi_Cite read.1) rfl (.tmp rfl) (.tmp rfl)) (fun _ => ?_)
     refine WL.gv rfl rfl ?_
     refine WL.ns ?_
     obtain ⟨s31, hs32, hk33⟩ := bind_some hm
     clear hm
     refine W.join (fun s : Bool × api_Cite => s = s31) (fun s => [(9, (tB.is s.1)), (0, ((tL tS).is l)), (1, ((tI .i64).is from0_)), (4, (Bp b 0)), (6, ((tI .i64).is end0_)), (8, (Bp b2 0))]) (fun s => [(8, (Bx 5 true 24 (tapi_Cite.is s.2) b2)), (4, (Bx 5 true 24 (tapi_Cite.is v) b))]) ?_ ?_
     ·rintro ⟨ok1, c1⟩ hj38
      try dsimp only at hj38
      subst hj38
      have hm := hk33
      clear hk33
      try dsimp only at hm
      change W _ _ _ _ _ _ _ [(9, (tB.is ok1)), (0, ((tL tS).is l)), (1, ((tI .i64).is from0_)), (4, (Bp b 0)), (6, ((tI .i64).is end0_)), (8, (Bp b2 0))] [(8, (Bx 5 true 24 (tapi_Cite.is c1) b2)), (4, (Bx 5 true 24 (tapi_Cite.is v) b))]
      refine W.sr ?_
      refine WL.mv rfl rfl ?_
      refine WL.ns ?_
      refine W.cond (.tmp rfl) (fun hc34 => ?_) (fun hc34 => ?_)
      ·have hp35 := hc34
       rw [if_pos hp35] at hm
       refine W.sr ?_
       refine WL.mv rfl rfl ?_
       refine WL.op rfl (.fieldAddrB (o := 0) Tryd.underlying24 rfl (fun w => ⟨0, Tryd.sizeOf3 w⟩) (.tmp rfl) rfl) ?_
       refine WL.opU (OpR.storeBF (b := b2) 8 rfl ty3 sapi_Cite_3 rfl (by decide) (.tmp rfl) (.tmp rfl)) (fun _ => ?_)
       refine WL.nr ?_
       refine WL.mv rfl rfl ?_
       refine WL.op rfl (.fieldAddrB (o := 0) Tryd.underlying24 rfl (fun w => ⟨0, Tryd.sizeOf3 w⟩) (.tmp rfl) rfl) ?_
       refine WL.opU (OpR.storeBF (b := b2) 8 rfl ty3 sapi_Cite_4 rfl (by decide) (.tmp rfl) (.tmp rfl)) (fun _ => ?_)
       refine WL.nr ?_
       refine WL.op rfl (.loadB 8 Tryd.isAgg24 Tryd.sizeOf24 rfl (.tmp rfl)) ?_
       refine WL.opU (OpR.storeB (b := b) 4 Tryd.sizeOf24 (Cellable.is tapi_Cite ({ ({ c1 with From := from0_ } : api_Cite) with At := end0_ } : api_Cite)) rfl (.tmp rfl) (.tmp rfl)) (fun _ => ?_)
       refine WL.op rfl (.assign .bool) ?_
       refine WL.ns ?_
       have hr36 := Option.some.inj hm
       clear hm
       subst hr36
       have hm := hk3
       try dsimp only at hm
       cases hm
       exact W.retQ2 () rfl rfl (ResAt.cell 4 Tryd.isAgg24 Tryd.sizeOf24 rfl (.tmp rfl)) (ResAt.tmp (.tmp rfl)) trivial
      ·have hp35 := ne_of_false hc34
       rw [if_neg hp35] at hm
       refine W.skip ?_
       refine WN.block ?_
       refine WN.seq ?_
       refine W.region ?_
       refine WL.mv rfl rfl ?_
       obtain ⟨v9, hv37, hm⟩ := bind_some hm
       refine WL.op rfl (.subC hv37 (.tmp rfl) .i64) ?_
       refine WL.gv rfl rfl ?_
       refine WL.nil ?_
       exact WN.again n4 (v9, v) (Nat.lt_succ_self n4) hm ⟨Ent.q rfl, Ent.q rfl, Ent.q rfl, Ent.q rfl, trivial⟩ ⟨rfl, rfl, trivial⟩
     ·have hm := hs32
      clear hs32
      refine W.sr ?_
      refine WL.mv rfl rfl ?_
      refine WL.op rfl (.notB (.tmp rfl)) ?_
      refine WL.ns ?_
      refine W.condF (.tmp rfl) ?_
      refine W.skip ?_
      exact WN.meet (true, read.1) (Option.some.inj hm) ⟨Ent.q rfl, Ent.q rfl, Ent.q rfl, Ent.q rfl, Ent.q rfl, Ent.q rfl, trivial⟩ ⟨rfl, rfl, ⟨rfl, rfl, trivial⟩⟩
    ·rw [if_pos hq15] at hm
     refine WL.opR rfl (OpR.callTmp (key := 21) (n := 28) (A' := (Asn.tuple2 (shA 5 true) (tB.is false))) fl9 Tryd.call23 (r20_Read_spec _ _ _ hv13) (fun _ _ ⟨x, y, e, h1, h2⟩ => ⟨x, y, e, shA.of (Cellable.is _ _) h1, hq15 ▸ h2⟩) (fun _ _ _ h => h) rfl rfl (by exact ⟨(Opd.own (.tmp rfl)), trivial⟩)) (fun _ => ?_)
     refine WL.mv rfl rfl ?_
     refine WL.op rfl (.extract0 (.tmp rfl)) ?_
     refine WL.op rfl (.extract1 (.tmp rfl)) ?_
     refine WL.opR rfl (OpR.alloc 8 ze24) (fun b1 => ?_)
     refine WL.opU (OpR.storeB (b := b1) 8 Tryd.sizeOf24 (Cellable.sh _ _) rfl (.tmp rfl) (.tmp rfl)) (fun _ => ?_)
     refine WL.gv rfl rfl ?_
     refine WL.ns ?_
     obtain ⟨s16, hs17, hk18⟩ := bind_some hm
     clear hm
     refine W.join (fun s : Bool × api_Cite => s = s16) (fun s => [(9, (tB.is s.1)), (0, ((tL tS).is l)), (1, ((tI .i64).is from0_)), (4, (Bp b 0)), (6, ((tI .i64).is end0_)), (8, (Bp b1 0))]) (fun s => [(8, (Bx 5 true 24 (tapi_Cite.is s.2) b1)), (4, (Bx 5 true 24 (tapi_Cite.is v) b))]) ?_ ?_
     ·rintro ⟨ok, c⟩ hj30
      try dsimp only at hj30
      subst hj30
      have hm := hk18
      clear hk18
      try dsimp only at hm
      change W _ _ _ _ _ _ _ [(9, (tB.is ok)), (0, ((tL tS).is l)), (1, ((tI .i64).is from0_)), (4, (Bp b 0)), (6, ((tI .i64).is end0_)), (8, (Bp b1 0))] [(8, (Bx 5 true 24 (tapi_Cite.is c) b1)), (4, (Bx 5 true 24 (tapi_Cite.is v) b))]
      refine W.sr ?_
      refine WL.mv rfl rfl ?_
      refine WL.ns ?_
      refine W.cond (.tmp rfl) (fun hc26 => ?_) (fun hc26 => ?_)
      ·have hp27 := hc26
       rw [if_pos hp27] at hm
       refine W.sr ?_
       refine WL.mv rfl rfl ?_
       refine WL.op rfl (.fieldAddrB (o := 0) Tryd.underlying24 rfl (fun w => ⟨0, Tryd.sizeOf3 w⟩) (.tmp rfl) rfl) ?_
       refine WL.opU (OpR.storeBF (b := b1) 8 rfl ty3 sapi_Cite_3 rfl (by decide) (.tmp rfl) (.tmp rfl)) (fun _ => ?_)
       refine WL.nr ?_
       refine WL.mv rfl rfl ?_
       refine WL.op rfl (.fieldAddrB (o := 0) Tryd.underlying24 rfl (fun w => ⟨0, Tryd.sizeOf3 w⟩) (.tmp rfl) rfl) ?_
       refine WL.opU (OpR.storeBF (b := b1) 8 rfl ty3 sapi_Cite_4 rfl (by decide) (.tmp rfl) (.tmp rfl)) (fun _ => ?_)
       refine WL.nr ?_
       refine WL.op rfl (.loadB 8 Tryd.isAgg24 Tryd.sizeOf24 rfl (.tmp rfl)) ?_
       refine WL.opU (OpR.storeB (b := b) 4 Tryd.sizeOf24 (Cellable.is tapi_Cite ({ ({ c with From := from0_ } : api_Cite) with At := end0_ } : api_Cite)) rfl (.tmp rfl) (.tmp rfl)) (fun _ => ?_)
       refine WL.op rfl (.assign .bool) ?_
       refine WL.ns ?_
       have hr28 := Option.some.inj hm
       clear hm
       subst hr28
       have hm := hk3
       try dsimp only at hm
       cases hm
       exact W.retQ2 () rfl rfl (ResAt.cell 4 Tryd.isAgg24 Tryd.sizeOf24 rfl (.tmp rfl)) (ResAt.tmp (.tmp rfl)) trivial
      ·have hp27 := ne_of_false hc26
       rw [if_neg hp27] at hm
       refine W.skip ?_
       refine WN.block ?_
       refine WN.seq ?_
       refine W.region ?_
       refine WL.mv rfl rfl ?_
       obtain ⟨v8, hv29, hm⟩ := bind_some hm
       refine WL.op rfl (.subC hv29 (.tmp rfl) .i64) ?_
       refine WL.gv rfl rfl ?_
       refine WL.nil ?_
       exact WN.again n4 (v8, v) (Nat.lt_succ_self n4) hm ⟨Ent.q rfl, Ent.q rfl, Ent.q rfl, Ent.q rfl, trivial⟩ ⟨rfl, rfl, trivial⟩
     ·have hm := hs17
      clear hs17
      refine W.sr ?_
      refine WL.mv rfl rfl ?_
      refine WL.op rfl (.notB (.tmp rfl)) ?_
      refine WL.ns ?_
      refine W.condT (.tmp rfl) ?_
      refine W.sr ?_
      refine WL.mv rfl rfl ?_
      refine WL.mv rfl rfl ?_
      refine WL.op rfl (.lenU Tryd.underlying28 (.tmp rfl)) ?_
      obtain ⟨v4, hv19, hm⟩ := bind_some hm
      refine WL.op rfl (.subC hv19 (.tmp rfl) .i64) ?_
      refine WL.mv rfl rfl ?_
      refine WL.mv rfl rfl ?_
      refine WL.op rfl (.lenU Tryd.underlying28 (.tmp rfl)) ?_
      obtain ⟨v5, hv20, hm⟩ := bind_some hm
      refine WL.op rfl (.subC hv20 (.tmp rfl) .i64) ?_
      obtain ⟨v6, hv21, hm⟩ := bind_some hm
      refine WL.op rfl (.idxU (t := tS) hv21 Tryd.underlying28 Tryd.sizeOf9 (.tmp rfl) (.tmp rfl)) ?_
      refine WL.op rfl (.loadU 21 hv21 ty9 rfl (.tmp rfl)) ?_
      obtain ⟨bare, hv22, hm⟩ := bind_some hm
      refine WL.op rfl (.call Tryd.call61 (r20_bare_spec _ _ hv22) ⟨(.tmp rfl), trivial⟩) ?_
      obtain ⟨v7, hv23, hm⟩ := bind_some hm
      refine WL.op rfl (.idxU (t := tS) hv23 Tryd.underlying28 Tryd.sizeOf9 (.tmp rfl) (.tmp rfl)) ?_
      obtain ⟨w, hv24, hm⟩ := bind_some hm
      refine WL.opU (OpR.storeU (key := 21) hv24 ty9 (.tmp rfl) (.tmp rfl) rfl) (fun _ => ?_)
      refine WL.nil ?_
      refine WN.lenU 7 (setC_len hv24) rfl ?_
      refine WN.lenU 26 (setC_len hv24) rfl ?_
      refine WN.lenU 28 (setC_len hv24) rfl ?_
      refine WN.lenU 34 (setC_len hv24) rfl ?_
      refine WN.lenU 35 (setC_len hv24) rfl ?_
      refine WN.lenU 38 (setC_len hv24) rfl ?_
      refine WN.lenU 39 (setC_len hv24) rfl ?_
      refine WN.seq ?_
      refine W.region ?_
      refine WL.mv rfl rfl ?_
      obtain ⟨read1, hv25, hm⟩ := bind_some hm
      refine WL.fixU 47 21 rfl rfl ?_
      refine WL.sameU 47 26 rfl rfl ?_
      refine WL.sameU 47 7 rfl rfl ?_
      refine WL.sameU 47 28 rfl rfl ?_
      refine WL.sameU 47 34 rfl rfl ?_
      refine WL.sameU 47 35 rfl rfl ?_
      refine WL.sameU 47 38 rfl rfl ?_
      refine WL.sameU 47 39 rfl rfl ?_
      refine WL.op rfl (.call Tryd.call23 (r20_Read_spec _ _ _ hv25) ⟨(Opd.own (.tmp rfl)), trivial⟩) ?_
      refine WL.mv rfl rfl ?_
      refine WL.op rfl (.extract0 (.tmp rfl)) ?_
      refine WL.op rfl (.extract1 (.tmp rfl)) ?_
      refine WL.opU (OpR.storeB (b := b1) 8 Tryd.sizeOf24 (Cellable.is tapi_Cite read1.1) rfl (.tmp rfl) (.tmp rfl)) (fun _ => ?_)
      refine WL.gv rfl rfl ?_
      refine WL.nil ?_
      exact WN.meet (read1.2, read1.1) (Option.some.inj hm) ⟨Ent.q rfl, Ent.q rfl, Ent.q rfl, Ent.q rfl, Ent.q rfl, Ent.q rfl, trivial⟩ ⟨rfl, rfl, ⟨rfl, rfl, trivial⟩⟩
  ·have hp6 := of_decide_eq_false hc5
   rw [if_neg hp6] at hm
   refine W.exit rfl ?_
   have hr39 := Option.some.inj hm
   clear hm
   subst hr39
   have hm := hk3
   try dsimp only at hm
   refine WN.seq ?_
   refine W.sr ?_
   refine WL.op rfl (.build (s := tapi_Cite) (x := (⟨(0 : Int), ([] : List api_Step), ([] : Str), (0 : Int), (0 : Int)⟩ : api_Cite)) zapi_Cite_f rfl Tryd.underlying24 (zapi_Cite_sz _ Tryd.underlying24) ze24 rfl) ?_
   refine WL.opU (OpR.storeB (b := b) 4 Tryd.sizeOf24 (Cellable.is tapi_Cite (⟨(0 : Int), ([] : List api_Step), ([] : Str), (0 : Int), (0 : Int)⟩ : api_Cite)) rfl (.tmp rfl) (.tmp rfl)) (fun _ => ?_)
   refine WL.op rfl (.assign .bool) ?_
   refine WL.ns ?_
   cases hm
   exact W.retQ2 () rfl rfl (ResAt.cell 4 Tryd.isAgg24 Tryd.sizeOf24 rfl (.tmp rfl)) (ResAt.tmp (.tmp rfl)) trivial
end Go.Proofs.YtnmkblpbmoikpaaDoor
