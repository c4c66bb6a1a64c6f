/-
  The code does what the models say: written by program.
-/
import Derived.Test.YtnmkblpbmoikpaaDoorWa
set_option linter.unusedVariables false
set_option linter.unusedSimpArgs false
namespace Go.Proofs.YtnmkblpbmoikpaaDoor
open Go Go.Dec
set_option maxRecDepth 100000
set_option maxHeartbeats 4000000
theorem citation_Parse_spec (n : Nat) (s0_ : Str) (r : api_Cite × Int) (hm : M.citation_Parse n s0_ = some r) : FSpecR Tryd.prog 21 [(tS.is s0_)] [(700000, GlE 0)] (fun _ : Unit => (Asn.tuple2 (tapi_Cite.is r.1) ((tI .i64).is r.2))) (fun _ => []) := by
 unfold M.citation_Parse at hm
 refine FSpecR.of Tryd.func21 rfl rfl rfl (fun g0 => ?_)
 refine W.sr ?_
 refine WL.opR rfl (OpR.alloc 2 ze24) (fun b => ?_)
 refine WL.op rfl (.assign .i64) ?_
 refine WL.nr ?_
 refine WL.mv rfl rfl ?_
 obtain ⟨split, hv1, hm⟩ := bind_some hm
 refine WL.op rfl (.callG (rin := [(700000, GlE 0)]) Tryd.call41 (strings_Split_spec _ _ _ hv1) ⟨rfl, trivial⟩ ⟨rfl, rfl, trivial⟩ ⟨(.tmp rfl), (.str rfl (by decide)), trivial⟩) ?_
 refine WL.gv rfl rfl ?_
 refine WL.nr ?_
 refine WL.mv rfl rfl ?_
 obtain ⟨longes, hv2, hm⟩ := bind_some hm
 refine WL.op rfl (.call Tryd.call39 (citation_longest_spec _ _ _ _ hv2) ⟨(.tmp rfl), .i64, trivial⟩) ?_
 refine WL.mv rfl rfl ?_
 refine WL.op rfl (.extract0 (.tmp rfl)) ?_
 refine WL.op rfl (.extract1 (.tmp rfl)) ?_
 refine WL.opR rfl (OpR.alloc 5 ze24) (fun b1 => ?_)
 refine WL.opU (OpR.storeB (b := b1) 5 Tryd.sizeOf24 (Cellable.is tapi_Cite longes.1) rfl (.tmp rfl) (.tmp rfl)) (fun _ => ?_)
 refine WL.sealed (t := tapi_Cite) (u := longes.1) 5 5 rfl rfl ?_
 refine WL.gv rfl rfl ?_
 refine WL.ns ?_
 refine W.seq ?_
 refine W.sr ?_
 refine WL.mv rfl rfl ?_
 refine WL.op rfl (.notB (.tmp rfl)) ?_
 refine WL.mv rfl rfl ?_
 rcases bcases (!longes.2) with hb3 | hb3
 ·have hp4 := not_pos hb3
  rw [if_pos hp4] at hm
  iterate 5 refine WL.pass rfl rfl rfl rfl hb3 rfl rfl ?_
  refine WL.op rfl (.pickT (.tmp rfl) hb3 .bool) ?_
  refine WL.mv rfl rfl ?_
  iterate 4 refine WL.pass rfl rfl rfl rfl rfl rfl rfl ?_
  refine WL.op rfl (.pickT (.tmp rfl) rfl .bool) ?_
  refine WL.ns ?_
  refine W.condT (.tmp rfl) ?_
  refine W.sr ?_
  refine WL.op rfl (.build (s := tapi_Cite) (x := (⟨(0 : Int), ([] : List api_Step), ([] : Str), (0 : Int), (0 : Int)⟩ : api_Cite)) zapi_Cite_f rfl Tryd.underlying24 (zapi_Cite_sz _ Tryd.underlying24) ze24 rfl) ?_
  refine WL.opU (OpR.storeB (b := b) 2 Tryd.sizeOf24 (Cellable.is tapi_Cite (⟨(0 : Int), ([] : List api_Step), ([] : Str), (0 : Int), (0 : Int)⟩ : api_Cite)) rfl (.tmp rfl) (.tmp rfl)) (fun _ => ?_)
  refine WL.op rfl (.assign .i64) ?_
  refine WL.ns ?_
  cases hm
  exact W.retQ2 () rfl rfl (ResAt.cell 2 Tryd.isAgg24 Tryd.sizeOf24 rfl (.tmp rfl)) (ResAt.tmp (.tmp rfl)) trivial
 ·have hp4 := not_neg hb3
  rw [if_neg hp4] at hm
  refine WL.run rfl rfl rfl rfl hb3 rfl rfl (Op1.fieldAddr Tryd.underlying24 rfl (fun w => ⟨0, Tryd.sizeOf3 w⟩) fapi_Cite_4 (.tmp rfl)) ?_
  refine WL.run rfl rfl rfl rfl hb3 rfl rfl (Op1.load ty3 (.tmp rfl)) ?_
  refine WL.run rfl rfl rfl rfl hb3 rfl rfl (Op1.move (.tmp rfl)) ?_
  refine WL.run rfl rfl rfl rfl hb3 rfl rfl (Op1.lenL Tryd.underlying28 (.tmp rfl)) ?_
  refine WL.run rfl rfl rfl rfl hb3 rfl rfl (Op1.neI (.tmp rfl) (.tmp rfl)) ?_
  refine WL.op rfl (.pickF (.tmp rfl) hb3 (.tmp rfl)) ?_
  refine WL.mv rfl rfl ?_
  rcases bcases (decide (longes.1.At ≠ (split.length : Int))) with hb5 | hb5
  ·have hp6 := of_decide_eq_true hb5
   rw [if_pos hp6] at hm
   iterate 4 refine WL.pass rfl rfl rfl rfl hb5 rfl rfl ?_
   refine WL.op rfl (.pickT (.tmp rfl) hb5 .bool) ?_
   refine WL.ns ?_
   refine W.condT (.tmp rfl) ?_
   refine W.sr ?_
   refine WL.op rfl (.build (s := tapi_Cite) (x := (⟨(0 : Int), ([] : List api_Step), ([] : Str), (0 : Int), (0 : Int)⟩ : api_Cite)) zapi_Cite_f rfl Tryd.underlying24 (zapi_Cite_sz _ Tryd.underlying24) ze24 rfl) ?_
   refine WL.opU (OpR.storeB (b := b) 2 Tryd.sizeOf24 (Cellable.is tapi_Cite (⟨(0 : Int), ([] : List api_Step), ([] : Str), (0 : Int), (0 : Int)⟩ : api_Cite)) rfl (.tmp rfl) (.tmp rfl)) (fun _ => ?_)
   refine WL.op rfl (.assign .i64) ?_
   refine WL.ns ?_
   cases hm
   exact W.retQ2 () rfl rfl (ResAt.cell 2 Tryd.isAgg24 Tryd.sizeOf24 rfl (.tmp rfl)) (ResAt.tmp (.tmp rfl)) trivial
  ·have hp6 := of_decide_eq_false hb5
   rw [if_neg hp6] at hm
   refine WL.run rfl rfl rfl rfl hb5 rfl rfl (Op1.load ty24 (.tmp rfl)) ?_
   obtain ⟨format, hv7, hm⟩ := bind_some hm
   refine WL.run rfl rfl rfl rfl hb5 rfl rfl (Op1.call Tryd.call16 (citation_Format_spec _ _ _ hv7) ⟨(.tmp rfl), trivial⟩) ?_
   refine WL.run rfl rfl rfl rfl hb5 rfl rfl (Op1.move (.tmp rfl)) ?_
   refine WL.run rfl rfl rfl rfl hb5 rfl rfl (Op1.neS (.tmp rfl) (.tmp rfl)) ?_
   refine WL.op rfl (.pickF (.tmp rfl) hb5 (.tmp rfl)) ?_
   refine WL.ns ?_
   refine W.cond (.tmp rfl) (fun hc8 => ?_) (fun hc8 => ?_)
   ·have hp9 := hc8
    rw [if_pos hp9] at hm
    refine W.sr ?_
    refine WL.op rfl (.build (s := tapi_Cite) (x := (⟨(0 : Int), ([] : List api_Step), ([] : Str), (0 : Int), (0 : Int)⟩ : api_Cite)) zapi_Cite_f rfl Tryd.underlying24 (zapi_Cite_sz _ Tryd.underlying24) ze24 rfl) ?_
    refine WL.opU (OpR.storeB (b := b) 2 Tryd.sizeOf24 (Cellable.is tapi_Cite (⟨(0 : Int), ([] : List api_Step), ([] : Str), (0 : Int), (0 : Int)⟩ : api_Cite)) rfl (.tmp rfl) (.tmp rfl)) (fun _ => ?_)
    refine WL.op rfl (.assign .i64) ?_
    refine WL.ns ?_
    cases hm
    exact W.retQ2 () rfl rfl (ResAt.cell 2 Tryd.isAgg24 Tryd.sizeOf24 rfl (.tmp rfl)) (ResAt.tmp (.tmp rfl)) trivial
   ·have hp9 := ne_of_false hc8
    rw [if_neg hp9] at hm
    refine W.skip ?_
    refine WN.seq ?_
    refine W.sr ?_
    refine WL.op rfl (.load ty24 (.tmp rfl)) ?_
    refine WL.opU (OpR.storeB (b := b) 2 Tryd.sizeOf24 (Cellable.is tapi_Cite longes.1) rfl (.tmp rfl) (.tmp rfl)) (fun _ => ?_)
    refine WL.op rfl (.assign .i64) ?_
    refine WL.ns ?_
    cases hm
    exact W.retQ2 () rfl rfl (ResAt.cell 2 Tryd.isAgg24 Tryd.sizeOf24 rfl (.tmp rfl)) (ResAt.tmp (.tmp rfl)) trivial
theorem law20_awake_spec (n : Nat)  (r : Bool) (hm : M.law20_awake n  = some r) : FSpecR Tryd.prog 11 [] [(700000, GlE 0)] (fun _ : Unit => (tB.is r)) (fun _ => []) := by
 unfold M.law20_awake at hm
 refine FSpecR.of Tryd.func11 rfl rfl rfl (fun g0 => ?_)
 refine W.sr ?_
 refine WL.op rfl (.assign .bool) ?_
 refine WL.nr ?_
 refine WL.op rfl (.buildSlice (n := 10) (ys := [(0, ([117, 110, 100, 101, 114] : Str)), (1, ([115, 101, 99, 116, 105, 111, 110] : Str)), (2, ([53] : Str)), (3, ([112, 97, 114, 97, 103, 114, 97, 112, 104] : Str)), (4, ([50, 44] : Str)), (5, ([111, 114] : Str)), (6, ([115, 101, 99, 116, 105, 111, 110, 115] : Str)), (7, ([54] : Str)), (8, ([116, 111] : Str)), (9, ([56] : Str))]) (z := ([] : Str)) (xs := [([117, 110, 100, 101, 114] : Str), ([115, 101, 99, 116, 105, 111, 110] : Str), ([53] : Str), ([112, 97, 114, 97, 103, 114, 97, 112, 104] : Str), ([50, 44] : Str), ([111, 114] : Str), ([115, 101, 99, 116, 105, 111, 110, 115] : Str), ([54] : Str), ([116, 111] : Str), ([56] : Str)]) Tryd.underlying28 el9 ze9 ⟨rfl, (.str rfl (by decide)), rfl, (.str rfl (by decide)), rfl, (.str rfl (by decide)), rfl, (.str rfl (by decide)), rfl, (.str rfl (by decide)), rfl, (.str rfl (by decide)), rfl, (.str rfl (by decide)), rfl, (.str rfl (by decide)), rfl, (.str rfl (by decide)), rfl, (.str rfl (by decide)), trivial⟩ (by simp) (by decide) rfl) ?_
 obtain ⟨scan, hv1, hm⟩ := bind_some hm
 refine WL.op rfl (.call Tryd.call19 (citation_Scan_spec _ _ _ hv1) ⟨(.tmp rfl), trivial⟩) ?_
 refine WL.gv rfl rfl ?_
 refine WL.nr ?_
 obtain ⟨parse, hv2, hm⟩ := bind_some hm
 refine WL.op rfl (.callG (rin := [(700000, GlE 0)]) Tryd.call21 (citation_Parse_spec _ _ _ hv2) ⟨rfl, trivial⟩ ⟨rfl, rfl, trivial⟩ ⟨(.str rfl (by decide)), trivial⟩) ?_
 refine WL.mv rfl rfl ?_
 refine WL.op rfl (.extract0 (.tmp rfl)) ?_
 refine WL.op rfl (.extract1 (.tmp rfl)) ?_
 refine WL.opR rfl (OpR.alloc 2 ze24) (fun b => ?_)
 refine WL.opU (OpR.storeB (b := b) 2 Tryd.sizeOf24 (Cellable.is tapi_Cite parse.1) rfl (.tmp rfl) (.tmp rfl)) (fun _ => ?_)
 refine WL.sealed (t := tapi_Cite) (u := parse.1) 2 2 rfl rfl ?_
 refine WL.gv rfl rfl ?_
 refine WL.ns ?_
 refine W.seq ?_
 obtain ⟨s3, hs4, hk5⟩ := bind_some hm
 clear hm
 refine W.join (fun s : Bool => s = s3) (fun s => [(26, (tB.is s)), (1, ((tL tapi_Cite).is scan)), (2, (tapi_Cite.ptr parse.1)), (3, ((tI .i64).is parse.2))]) (fun s => [(700000, GlE 0)]) ?_ ?_
 ·rintro v hj33
  try dsimp only at hj33
  subst hj33
  have hm := hk5
  clear hk5
  try dsimp only at hm
  change W _ _ _ _ _ _ _ [(26, (tB.is v)), (1, ((tL tapi_Cite).is scan)), (2, (tapi_Cite.ptr parse.1)), (3, ((tI .i64).is parse.2))] [(700000, GlE 0)]
  refine W.cond (.tmp rfl) (fun hc11 => ?_) (fun hc11 => ?_)
  ·have hp12 := hc11
   rw [if_pos hp12] at hm
   refine W.sr ?_
   refine WL.op rfl (.assign .bool) ?_
   refine WL.ns ?_
   cases hm
   exact W.ret1 () rfl (.tmp rfl) trivial
  ·have hp12 := ne_of_false hc11
   rw [if_neg hp12] at hm
   refine W.skip ?_
   refine WN.seq ?_
   refine W.sr ?_
   refine WL.mv rfl rfl ?_
   obtain ⟨v2, hv13, hm⟩ := bind_some hm
   refine WL.op rfl (.idx hv13 Tryd.underlying33 Tryd.sizeOf24 (.tmp rfl) .i64) ?_
   refine WL.op rfl (.fieldAddr Tryd.underlying24 rfl (fun w => ⟨0, Tryd.sizeOf3 w⟩) fapi_Cite_3 (.tmp rfl)) ?_
   refine WL.op rfl (.load ty3 (.tmp rfl)) ?_
   refine WL.op rfl (.eqI (.tmp rfl) .i64) ?_
   refine WL.mv rfl rfl ?_
   rcases bcases (decide (v2.From = (1 : Int))) with hb14 | hb14
   ·have hp15 := of_decide_eq_true hb14
    rw [if_pos hp15] at hm
    refine WL.run rfl rfl rfl rfl hb14 rfl rfl (Op1.move (.tmp rfl)) ?_
    obtain ⟨v3, hv16, hm⟩ := bind_some hm
    refine WL.run rfl rfl rfl rfl hb14 rfl rfl (Op1.idx hv16 Tryd.underlying33 Tryd.sizeOf24 (.tmp rfl) .i64) ?_
    refine WL.run rfl rfl rfl rfl hb14 rfl rfl (Op1.fieldAddr Tryd.underlying24 rfl (fun w => ⟨0, Tryd.sizeOf3 w⟩) fapi_Cite_4 (.tmp rfl)) ?_
    refine WL.run rfl rfl rfl rfl hb14 rfl rfl (Op1.load ty3 (.tmp rfl)) ?_
    refine WL.run rfl rfl rfl rfl hb14 rfl rfl (Op1.eqI (.tmp rfl) .i64) ?_
    refine WL.op rfl (.pickT (.tmp rfl) hb14 (.tmp rfl)) ?_
    refine WL.mv rfl rfl ?_
    rcases bcases (decide (v3.At = (5 : Int))) with hb17 | hb17
    ·have hp18 := of_decide_eq_true hb17
     rw [if_pos hp18] at hm
     refine WL.run rfl rfl rfl rfl hb17 rfl rfl (Op1.move (.tmp rfl)) ?_
     obtain ⟨v4, hv19, hm⟩ := bind_some hm
     refine WL.run rfl rfl rfl rfl hb17 rfl rfl (Op1.idx hv19 Tryd.underlying33 Tryd.sizeOf24 (.tmp rfl) .i64) ?_
     refine WL.run rfl rfl rfl rfl hb17 rfl rfl (Op1.fieldAddr Tryd.underlying24 rfl (fun w => ⟨0, Tryd.sizeOf3 w⟩) fapi_Cite_0 (.tmp rfl)) ?_
     refine WL.run rfl rfl rfl rfl hb17 rfl rfl (Op1.load ty3 (.tmp rfl)) ?_
     refine WL.run rfl rfl rfl rfl hb17 rfl rfl (Op1.eqI (.tmp rfl) .i64) ?_
     refine WL.op rfl (.pickT (.tmp rfl) hb17 (.tmp rfl)) ?_
     refine WL.mv rfl rfl ?_
     rcases bcases (decide (v4.Kind = (1 : Int))) with hb20 | hb20
     ·have hp21 := of_decide_eq_true hb20
      rw [if_pos hp21] at hm
      refine WL.run rfl rfl rfl rfl hb20 rfl rfl (Op1.move (.tmp rfl)) ?_
      obtain ⟨v5, hv22, hm⟩ := bind_some hm
      refine WL.run rfl rfl rfl rfl hb20 rfl rfl (Op1.idx hv22 Tryd.underlying33 Tryd.sizeOf24 (.tmp rfl) .i64) ?_
      refine WL.run rfl rfl rfl rfl hb20 rfl rfl (Op1.fieldAddr Tryd.underlying24 rfl (fun w => ⟨0, Tryd.sizeOf9 w⟩) fapi_Cite_2 (.tmp rfl)) ?_
      refine WL.run rfl rfl rfl rfl hb20 rfl rfl (Op1.load ty9 (.tmp rfl)) ?_
      refine WL.run rfl rfl rfl rfl hb20 rfl rfl (Op1.eqS (.tmp rfl) (.str rfl (by decide))) ?_
      refine WL.op rfl (.pickT (.tmp rfl) hb20 (.tmp rfl)) ?_
      refine WL.mv rfl rfl ?_
      rcases bcases (v5.To == ([56] : Str)) with hb23 | hb23
      ·have hp24 := hb23
       rw [if_pos hp24] at hm
       refine WL.run rfl rfl rfl rfl hb23 rfl rfl (Op1.move (.tmp rfl)) ?_
       obtain ⟨v6, hv25, hm⟩ := bind_some hm
       refine WL.run rfl rfl rfl rfl hb23 rfl rfl (Op1.idx hv25 Tryd.underlying33 Tryd.sizeOf24 (.tmp rfl) .i64) ?_
       refine WL.run rfl rfl rfl rfl hb23 rfl rfl (Op1.fieldAddr Tryd.underlying24 rfl (fun w => ⟨0, Tryd.sizeOf3 w⟩) fapi_Cite_4 (.tmp rfl)) ?_
       refine WL.run rfl rfl rfl rfl hb23 rfl rfl (Op1.load ty3 (.tmp rfl)) ?_
       refine WL.run rfl rfl rfl rfl hb23 rfl rfl (Op1.eqI (.tmp rfl) .i64) ?_
       refine WL.op rfl (.pickT (.tmp rfl) hb23 (.tmp rfl)) ?_
       refine WL.mv rfl rfl ?_
       rcases bcases (decide (v6.At = (10 : Int))) with hb26 | hb26
       ·have hp27 := of_decide_eq_true hb26
        rw [if_pos hp27] at hm
        refine WL.run rfl rfl rfl rfl hb26 rfl rfl (Op1.move (.tmp rfl)) ?_
        refine WL.run rfl rfl rfl rfl hb26 rfl rfl (Op1.eqI (.tmp rfl) .i64) ?_
        refine WL.op rfl (.pickT (.tmp rfl) hb26 (.tmp rfl)) ?_
        refine WL.mv rfl rfl ?_
        rcases bcases (decide (parse.2 = (0 : Int))) with hb28 | hb28
        ·have hp29 := of_decide_eq_true hb28
         rw [if_pos hp29] at hm
         refine WL.run rfl rfl rfl rfl hb28 rfl rfl (Op1.fieldAddr Tryd.underlying24 rfl (fun w => ⟨0, Tryd.sizeOf3 w⟩) fapi_Cite_0 (.tmp rfl)) ?_
         refine WL.run rfl rfl rfl rfl hb28 rfl rfl (Op1.load ty3 (.tmp rfl)) ?_
         refine WL.run rfl rfl rfl rfl hb28 rfl rfl (Op1.eqI (.tmp rfl) .i64) ?_
         refine WL.op rfl (.pickT (.tmp rfl) hb28 (.tmp rfl)) ?_
         refine WL.mv rfl rfl ?_
         rcases bcases (decide (parse.1.Kind = (3 : Int))) with hb30 | hb30
         ·have hp31 := of_decide_eq_true hb30
          rw [if_pos hp31] at hm
          refine WL.run rfl rfl rfl rfl hb30 rfl rfl (Op1.fieldAddr Tryd.underlying24 rfl (fun w => ⟨0, Tryd.sizeOf22 w⟩) fapi_Cite_1 (.tmp rfl)) ?_
          refine WL.run rfl rfl rfl rfl hb30 rfl rfl (Op1.load ty22 (.tmp rfl)) ?_
          obtain ⟨v7, hv32, hm⟩ := bind_some hm
          refine WL.run rfl rfl rfl rfl hb30 rfl rfl (Op1.idx hv32 Tryd.underlying22 Tryd.sizeOf50 (.tmp rfl) .i64) ?_
          refine WL.run rfl rfl rfl rfl hb30 rfl rfl (Op1.fieldAddr Tryd.underlying50 rfl (fun w => ⟨0, Tryd.sizeOf3 w⟩) fapi_Step_0 (.tmp rfl)) ?_
          refine WL.run rfl rfl rfl rfl hb30 rfl rfl (Op1.load ty3 (.tmp rfl)) ?_
          refine WL.run rfl rfl rfl rfl hb30 rfl rfl (Op1.eqI (.tmp rfl) .i64) ?_
          refine WL.op rfl (.pickT (.tmp rfl) hb30 (.tmp rfl)) ?_
          refine WL.gv rfl rfl ?_
          refine WL.ns ?_
          cases hm
          exact W.ret1 () rfl (.tmp rfl) trivial
         ·have hp31 := of_decide_eq_false hb30
          rw [if_neg hp31] at hm
          iterate 6 refine WL.pass rfl rfl rfl rfl hb30 rfl rfl ?_
          refine WL.op rfl (.pickF (.tmp rfl) hb30 .bool) ?_
          refine WL.gv rfl rfl ?_
          refine WL.ns ?_
          cases hm
          exact W.ret1 () rfl (.tmp rfl) trivial
        ·have hp29 := of_decide_eq_false hb28
         rw [if_neg hp29] at hm
         iterate 3 refine WL.pass rfl rfl rfl rfl hb28 rfl rfl ?_
         refine WL.op rfl (.pickF (.tmp rfl) hb28 .bool) ?_
         refine WL.mv rfl rfl ?_
         iterate 6 refine WL.pass rfl rfl rfl rfl rfl rfl rfl ?_
         refine WL.op rfl (.pickF (.tmp rfl) rfl .bool) ?_
         refine WL.gv rfl rfl ?_
         refine WL.ns ?_
         cases hm
         exact W.ret1 () rfl (.tmp rfl) trivial
       ·have hp27 := of_decide_eq_false hb26
        rw [if_neg hp27] at hm
        iterate 2 refine WL.pass rfl rfl rfl rfl hb26 rfl rfl ?_
        refine WL.op rfl (.pickF (.tmp rfl) hb26 .bool) ?_
        refine WL.mv rfl rfl ?_
        iterate 3 refine WL.pass rfl rfl rfl rfl rfl rfl rfl ?_
        refine WL.op rfl (.pickF (.tmp rfl) rfl .bool) ?_
        refine WL.mv rfl rfl ?_
        iterate 6 refine WL.pass rfl rfl rfl rfl rfl rfl rfl ?_
        refine WL.op rfl (.pickF (.tmp rfl) rfl .bool) ?_
        refine WL.gv rfl rfl ?_
        refine WL.ns ?_
        cases hm
        exact W.ret1 () rfl (.tmp rfl) trivial
      ·have hp24 := ne_of_false hb23
       rw [if_neg hp24] at hm
       iterate 5 refine WL.pass rfl rfl rfl rfl hb23 rfl rfl ?_
       refine WL.op rfl (.pickF (.tmp rfl) hb23 .bool) ?_
       refine WL.mv rfl rfl ?_
       iterate 2 refine WL.pass rfl rfl rfl rfl rfl rfl rfl ?_
       refine WL.op rfl (.pickF (.tmp rfl) rfl .bool) ?_
       refine WL.mv rfl rfl ?_
       iterate 3 refine WL.pass rfl rfl rfl rfl rfl rfl rfl ?_
       refine WL.op rfl (.pickF (.tmp rfl) rfl .bool) ?_
       refine WL.mv rfl rfl ?_
       iterate 6 refine WL.pass rfl rfl rfl rfl rfl rfl rfl ?_
       refine WL.op rfl (.pickF (.tmp rfl) rfl .bool) ?_
       refine WL.gv rfl rfl ?_
       refine WL.ns ?_
       cases hm
       exact W.ret1 () rfl (.tmp rfl) trivial
     ·have hp21 := of_decide_eq_false hb20
      rw [if_neg hp21] at hm
      iterate 5 refine WL.pass rfl rfl rfl rfl hb20 rfl rfl ?_
      refine WL.op rfl (.pickF (.tmp rfl) hb20 .bool) ?_
      refine WL.mv rfl rfl ?_
      iterate 5 refine WL.pass rfl rfl rfl rfl rfl rfl rfl ?_
      refine WL.op rfl (.pickF (.tmp rfl) rfl .bool) ?_
      refine WL.mv rfl rfl ?_
      iterate 2 refine WL.pass rfl rfl rfl rfl rfl rfl rfl ?_
      refine WL.op rfl (.pickF (.tmp rfl) rfl .bool) ?_
      refine WL.mv rfl rfl ?_
      iterate 3 refine WL.pass rfl rfl rfl rfl rfl rfl rfl ?_
      refine WL.op rfl (.pickF (.tmp rfl) rfl .bool) ?_
      refine WL.mv rfl rfl ?_
      iterate 6 refine WL.pass rfl rfl rfl rfl rfl rfl rfl ?_
      refine WL.op rfl (.pickF (.tmp rfl) rfl .bool) ?_
      refine WL.gv rfl rfl ?_
      refine WL.ns ?_
      cases hm
      exact W.ret1 () rfl (.tmp rfl) trivial
    ·have hp18 := of_decide_eq_false hb17
     rw [if_neg hp18] at hm
     iterate 5 refine WL.pass rfl rfl rfl rfl hb17 rfl rfl ?_
     refine WL.op rfl (.pickF (.tmp rfl) hb17 .bool) ?_
     refine WL.mv rfl rfl ?_
     iterate 5 refine WL.pass rfl rfl rfl rfl rfl rfl rfl ?_
     refine WL.op rfl (.pickF (.tmp rfl) rfl .bool) ?_
     refine WL.mv rfl rfl ?_
     iterate 5 refine WL.pass rfl rfl rfl rfl rfl rfl rfl ?_
     refine WL.op rfl (.pickF (.tmp rfl) rfl .bool) ?_
     refine WL.mv rfl rfl ?_
     iterate 2 refine WL.pass rfl rfl rfl rfl rfl rfl rfl ?_
     refine WL.op rfl (.pickF (.tmp rfl) rfl .bool) ?_
     refine WL.mv rfl rfl ?_
     iterate 3 refine WL.pass rfl rfl rfl rfl rfl rfl rfl ?_
     refine WL.op rfl (.pickF (.tmp rfl) rfl .bool) ?_
     refine WL.mv rfl rfl ?_
     iterate 6 refine WL.pass rfl rfl rfl rfl rfl rfl rfl ?_
     refine WL.op rfl (.pickF (.tmp rfl) rfl .bool) ?_
     refine WL.gv rfl rfl ?_
     refine WL.ns ?_
     cases hm
     exact W.ret1 () rfl (.tmp rfl) trivial
   ·have hp15 := of_decide_eq_false hb14
    rw [if_neg hp15] at hm
    iterate 5 refine WL.pass rfl rfl rfl rfl hb14 rfl rfl ?_
    refine WL.op rfl (.pickF (.tmp rfl) hb14 .bool) ?_
    refine WL.mv rfl rfl ?_
    iterate 5 refine WL.pass rfl rfl rfl rfl rfl rfl rfl ?_
    refine WL.op rfl (.pickF (.tmp rfl) rfl .bool) ?_
    refine WL.mv rfl rfl ?_
    iterate 5 refine WL.pass rfl rfl rfl rfl rfl rfl rfl ?_
    refine WL.op rfl (.pickF (.tmp rfl) rfl .bool) ?_
    refine WL.mv rfl rfl ?_
    iterate 5 refine WL.pass rfl rfl rfl rfl rfl rfl rfl ?_
    refine WL.op rfl (.pickF (.tmp rfl) rfl .bool) ?_
    refine WL.mv rfl rfl ?_
    iterate 2 refine WL.pass rfl rfl rfl rfl rfl rfl rfl ?_
    refine WL.op rfl (.pickF (.tmp rfl) rfl .bool) ?_
    refine WL.mv rfl rfl ?_
    iterate 3 refine WL.pass rfl rfl rfl rfl rfl rfl rfl ?_
    refine WL.op rfl (.pickF (.tmp rfl) rfl .bool) ?_
    refine WL.mv rfl rfl ?_
    iterate 6 refine WL.pass rfl rfl rfl rfl rfl rfl rfl ?_
    refine WL.op rfl (.pickF (.tmp rfl) rfl .bool) ?_
    refine WL.gv rfl rfl ?_
    refine WL.ns ?_
    cases hm
    exact W.ret1 () rfl (.tmp rfl) trivial
 ·have hm := hs4
  clear hs4
  refine W.region ?_
  refine WL.mv rfl rfl ?_
  refine WL.op rfl (.lenL Tryd.underlying33 (.tmp rfl)) ?_
  refine WL.op rfl (.neI (.tmp rfl) .i64) ?_
  refine WL.mv rfl rfl ?_
  rcases bcases (decide ((scan.length : Int) ≠ (2 : Int))) with hb6 | hb6
  ·have hp7 := of_decide_eq_true hb6
   rw [if_pos hp7] at hm
   iterate 6 refine WL.pass rfl rfl rfl rfl hb6 rfl rfl ?_
   refine WL.op rfl (.pickT (.tmp rfl) hb6 .bool) ?_
   refine WL.mv rfl rfl ?_
   iterate 4 refine WL.pass rfl rfl rfl rfl rfl rfl rfl ?_
   refine WL.op rfl (.pickT (.tmp rfl) rfl .bool) ?_
   refine WL.nil ?_
   exact WN.meet true (Option.some.inj hm) ⟨Ent.q rfl, Ent.q rfl, Ent.q rfl, Ent.q rfl, trivial⟩ ⟨rfl, rfl, trivial⟩
  ·have hp7 := of_decide_eq_false hb6
   rw [if_neg hp7] at hm
   refine WL.run rfl rfl rfl rfl hb6 rfl rfl (Op1.move (.tmp rfl)) ?_
   obtain ⟨v1, hv8, hm⟩ := bind_some hm
   refine WL.run rfl rfl rfl rfl hb6 rfl rfl (Op1.idx hv8 Tryd.underlying33 Tryd.sizeOf24 (.tmp rfl) .i64) ?_
   refine WL.run rfl rfl rfl rfl hb6 rfl rfl (Op1.fieldAddr Tryd.underlying24 rfl (fun w => ⟨0, Tryd.sizeOf22 w⟩) fapi_Cite_1 (.tmp rfl)) ?_
   refine WL.run rfl rfl rfl rfl hb6 rfl rfl (Op1.load ty22 (.tmp rfl)) ?_
   refine WL.run rfl rfl rfl rfl hb6 rfl rfl (Op1.lenL Tryd.underlying22 (.tmp rfl)) ?_
   refine WL.run rfl rfl rfl rfl hb6 rfl rfl (Op1.neI (.tmp rfl) .i64) ?_
   refine WL.op rfl (.pickF (.tmp rfl) hb6 (.tmp rfl)) ?_
   refine WL.mv rfl rfl ?_
   rcases bcases (decide ((v1.Path.length : Int) ≠ (2 : Int))) with hb9 | hb9
   ·have hp10 := of_decide_eq_true hb9
    rw [if_pos hp10] at hm
    iterate 4 refine WL.pass rfl rfl rfl rfl hb9 rfl rfl ?_
    refine WL.op rfl (.pickT (.tmp rfl) hb9 .bool) ?_
    refine WL.nil ?_
    exact WN.meet true (Option.some.inj hm) ⟨Ent.q rfl, Ent.q rfl, Ent.q rfl, Ent.q rfl, trivial⟩ ⟨rfl, rfl, trivial⟩
   ·have hp10 := of_decide_eq_false hb9
    rw [if_neg hp10] at hm
    refine WL.run rfl rfl rfl rfl hb9 rfl rfl (Op1.fieldAddr Tryd.underlying24 rfl (fun w => ⟨0, Tryd.sizeOf22 w⟩) fapi_Cite_1 (.tmp rfl)) ?_
    refine WL.run rfl rfl rfl rfl hb9 rfl rfl (Op1.load ty22 (.tmp rfl)) ?_
    refine WL.run rfl rfl rfl rfl hb9 rfl rfl (Op1.lenL Tryd.underlying22 (.tmp rfl)) ?_
    refine WL.run rfl rfl rfl rfl hb9 rfl rfl (Op1.neI (.tmp rfl) .i64) ?_
    refine WL.op rfl (.pickF (.tmp rfl) hb9 (.tmp rfl)) ?_
    refine WL.nil ?_
    exact WN.meet (decide ((parse.1.Path.length : Int) ≠ (1 : Int))) (Option.some.inj hm) ⟨Ent.q rfl, Ent.q rfl, Ent.q rfl, Ent.q rfl, trivial⟩ ⟨rfl, rfl, trivial⟩
theorem r03_digits_spec (n : Nat) (s0_ : Str) (r : Int) (hm : M.r03_digits n s0_ = some r) : FSpec Tryd.prog 45 [(tS.is s0_)] ((tI .i64).is r) := by
 unfold M.r03_digits at hm
 refine FSpec.of Tryd.func45 rfl rfl rfl (fun g0 => ?_)
 refine W.sr ?_
 refine WL.op rfl (.assign .i64) ?_
 refine WL.nr ?_
 refine WL.op rfl (.assign .i64) ?_
 refine WL.ns ?_
 refine W.seq ?_
 refine W.block ?_
 obtain ⟨s1, hs2, hk3⟩ := bind_some hm
 clear hm
 refine W.loop (fun m (s : Int) => M.r03_digits_loop1 s0_ m s = some s1) (fun s => [(3, ((tI .i64).is s)), (0, (tS.is s0_))]) (fun s => []) _ (0 : Int) hs2 ⟨Ent.q rfl, Ent.q rfl, trivial⟩ trivial ?_
 rintro n4 n0_ hm
 try dsimp only at hm
 change W _ _ _ _ _ _ _ [(3, ((tI .i64).is n0_)), (0, (tS.is s0_))] []
 cases n4 with
 | zero => rw [M.r03_digits_loop1.eq_1] at hm; cases hm
 | succ n4 =>
  rw [M.r03_digits_loop1.eq_2] at hm
  refine W.seq ?_
  refine W.sr ?_
  refine WL.mv rfl rfl ?_
  refine WL.mv rfl rfl ?_
  refine WL.op rfl (.lenS Tryd.underlying9 (.tmp rfl)) ?_
  refine WL.op rfl (.ltI (.tmp rfl) (.tmp rfl)) ?_
  refine WL.mv rfl rfl ?_
  rcases bcases (decide (n0_ < (s0_.length : Int))) with hb5 | hb5
  ·have hp6 := of_decide_eq_true hb5
   rw [if_pos hp6] at hm
   refine WL.run rfl rfl rfl rfl hb5 rfl rfl (Op1.move (.tmp rfl)) ?_
   refine WL.run rfl rfl rfl rfl hb5 rfl rfl (Op1.move (.tmp rfl)) ?_
   obtain ⟨b, hv7, hm⟩ := bind_some hm
   refine WL.run rfl rfl rfl rfl hb5 rfl rfl (Op1.sidx hv7 Tryd.underlying9 (.tmp rfl) (.tmp rfl)) ?_
   refine WL.run rfl rfl rfl rfl hb5 rfl rfl (Op1.geI (.tmp rfl) (.int (inR8.2 (by omega)))) ?_
   refine WL.op rfl (.pickT (.tmp rfl) hb5 (.tmp rfl)) ?_
   refine WL.mv rfl rfl ?_
   rcases bcases (decide ((48 : Int) ≤ (b.toNat : Int))) with hb8 | hb8
   ·have hp9 := of_decide_eq_true hb8
    rw [if_pos hp9] at hm
    refine WL.run rfl rfl rfl rfl hb8 rfl rfl (Op1.move (.tmp rfl)) ?_
    refine WL.run rfl rfl rfl rfl hb8 rfl rfl (Op1.move (.tmp rfl)) ?_
    obtain ⟨b1, hv10, hm⟩ := bind_some hm
    refine WL.run rfl rfl rfl rfl hb8 rfl rfl (Op1.sidx hv10 Tryd.underlying9 (.tmp rfl) (.tmp rfl)) ?_
    refine WL.run rfl rfl rfl rfl hb8 rfl rfl (Op1.leI (.tmp rfl) (.int (inR8.2 (by omega)))) ?_
    refine WL.op rfl (.pickT (.tmp rfl) hb8 (.tmp rfl)) ?_
    refine WL.ns ?_
    refine W.cond (.tmp rfl) (fun hc11 => ?_) (fun hc11 => ?_)
    ·have hp12 := of_decide_eq_true hc11
     rw [if_pos hp12] at hm
     refine W.skip ?_
     refine WN.seq ?_
     refine W.block ?_
     refine W.region ?_
     refine WL.mv rfl rfl ?_
     refine WL.lenS (s := 0) (.tmp rfl) fun hl13 => ?_
     refine WL.op rfl (.addI1 (.tmp rfl) .i64 hp6 hl13) ?_
     refine WL.gv rfl rfl ?_
     refine WL.nil ?_
     refine WN.block ?_
     exact WN.again n4 (n0_ + 1) (Nat.lt_succ_self n4) hm ⟨Ent.q rfl, Ent.q rfl, trivial⟩ trivial
    ·have hp12 := of_decide_eq_false hc11
     rw [if_neg hp12] at hm
     refine W.exit rfl ?_
     have hr14 := Option.some.inj hm
     clear hm
     subst hr14
     have hm := hk3
     try dsimp only at hm
     refine WN.seq ?_
     refine W.sr ?_
     refine WL.mv rfl rfl ?_
     refine WL.gv rfl rfl ?_
     refine WL.ns ?_
     cases hm
     exact W.ret1 () rfl (.tmp rfl) trivial
   ·have hp9 := of_decide_eq_false hb8
    rw [if_neg hp9] at hm
    iterate 4 refine WL.pass rfl rfl rfl rfl hb8 rfl rfl ?_
    refine WL.op rfl (.pickF (.tmp rfl) hb8 .bool) ?_
    refine WL.ns ?_
    refine W.condF (.tmp rfl) ?_
    refine W.exit rfl ?_
    have hr15 := Option.some.inj hm
    clear hm
    subst hr15
    have hm := hk3
    try dsimp only at hm
    refine WN.seq ?_
    refine W.sr ?_
    refine WL.mv rfl rfl ?_
    refine WL.gv rfl rfl ?_
    refine WL.ns ?_
    cases hm
    exact W.ret1 () rfl (.tmp rfl) trivial
  ·have hp6 := of_decide_eq_false hb5
   rw [if_neg hp6] at hm
   iterate 4 refine WL.pass rfl rfl rfl rfl hb5 rfl rfl ?_
   refine WL.op rfl (.pickF (.tmp rfl) hb5 .bool) ?_
   refine WL.mv rfl rfl ?_
   iterate 4 refine WL.pass rfl rfl rfl rfl rfl rfl rfl ?_
   refine WL.op rfl (.pickF (.tmp rfl) rfl .bool) ?_
   refine WL.ns ?_
   refine W.condF (.tmp rfl) ?_
   refine W.exit rfl ?_
   have hr16 := Option.some.inj hm
   clear hm
   subst hr16
   have hm := hk3
   try dsimp only at hm
   refine WN.seq ?_
   refine W.sr ?_
   refine WL.mv rfl rfl ?_
   refine WL.gv rfl rfl ?_
   refine WL.ns ?_
   cases hm
   exact W.ret1 () rfl (.tmp rfl) trivial
theorem r03_May_spec (n : Nat) (s0_ : Str) (r : Bool) (hm : M.r03_May n s0_ = some r) : FSpec Tryd.prog 30 [(tS.is s0_)] (tB.is r) := by
 unfold M.r03_May at hm
 refine FSpec.of Tryd.func30 rfl rfl rfl (fun g0 => ?_)
 refine W.sr ?_
 refine WL.op rfl (.assign .bool) ?_
 refine WL.nr ?_
 refine WL.mv rfl rfl ?_
 obtain ⟨digits, hv1, hm⟩ := bind_some hm
 refine WL.op rfl (.call Tryd.call45 (r03_digits_spec _ _ _ hv1) ⟨(.tmp rfl), trivial⟩) ?_
 refine WL.gv rfl rfl ?_
 refine WL.ns ?_
 refine W.seq ?_
 obtain ⟨s2, hs3, hk4⟩ := bind_some hm
 clear hm
 refine W.join (fun s : Bool => s = s2) (fun s => [(24, (tB.is s)), (0, (tS.is s0_)), (3, ((tI .i64).is digits))]) (fun s => []) ?_ ?_
 ·rintro v hj31
  try dsimp only at hj31
  subst hj31
  have hm := hk4
  clear hk4
  try dsimp only at hm
  change W _ _ _ _ _ _ _ [(24, (tB.is v)), (0, (tS.is s0_)), (3, ((tI .i64).is digits))] []
  refine W.cond (.tmp rfl) (fun hc13 => ?_) (fun hc13 => ?_)
  ·have hp14 := hc13
   rw [if_pos hp14] at hm
   refine W.sr ?_
   refine WL.op rfl (.assign .bool) ?_
   refine WL.ns ?_
   cases hm
   exact W.ret1 () rfl (.tmp rfl) trivial
  ·have hp14 := ne_of_false hc13
   rw [if_neg hp14] at hm
   refine W.skip ?_
   refine WN.seq ?_
   refine W.seq ?_
   refine W.sr ?_
   refine WL.mv rfl rfl ?_
   refine WL.gv rfl rfl ?_
   refine WL.ns ?_
   refine W.block ?_
   obtain ⟨s15, hs16, hk17⟩ := bind_some hm
   clear hm
   refine W.loop (fun m (s : Int) => M.r03_May_loop1 s0_ m s = some s15) (fun s => [(4, ((tI .i64).is s)), (0, (tS.is s0_))]) (fun s => []) _ digits hs16 ⟨Ent.q rfl, Ent.q rfl, trivial⟩ trivial ?_
   rintro n18 i hm
   try dsimp only at hm
   change W _ _ _ _ _ _ _ [(4, ((tI .i64).is i)), (0, (tS.is s0_))] []
   cases n18 with
   | zero => rw [M.r03_May_loop1.eq_1] at hm; cases hm
   | succ n18 =>
    rw [M.r03_May_loop1.eq_2] at hm
    refine W.seq ?_
    refine W.sr ?_
    refine WL.mv rfl rfl ?_
    refine WL.mv rfl rfl ?_
    refine WL.op rfl (.lenS Tryd.underlying9 (.tmp rfl)) ?_
    refine WL.op rfl (.ltI (.tmp rfl) (.tmp rfl)) ?_
    refine WL.ns ?_
    refine W.cond (.tmp rfl) (fun hc19 => ?_) (fun hc19 => ?_)
    ·have hp20 := of_decide_eq_true hc19
     rw [if_pos hp20] at hm
     refine W.skip ?_
     refine WN.seq ?_
     refine W.seq ?_
     refine W.block ?_
     refine W.sr ?_
     refine WL.mv rfl rfl ?_
     refine WL.mv rfl rfl ?_
     obtain ⟨b1, hv21, hm⟩ := bind_some hm
     refine WL.op rfl (.sidx hv21 Tryd.underlying9 (.tmp rfl) (.tmp rfl)) ?_
     refine WL.op rfl (.ltI (.tmp rfl) (.int (inR8.2 (by omega)))) ?_
     refine WL.mv rfl rfl ?_
     rcases bcases (decide ((b1.toNat : Int) < (65 : Int))) with hb22 | hb22
     ·have hp23 := of_decide_eq_true hb22
      rw [if_pos hp23] at hm
      iterate 4 refine WL.pass rfl rfl rfl rfl hb22 rfl rfl ?_
      refine WL.op rfl (.pickT (.tmp rfl) hb22 .bool) ?_
      refine WL.ns ?_
      refine W.condT (.tmp rfl) ?_
      refine W.sr ?_
      refine WL.op rfl (.assign .bool) ?_
      refine WL.ns ?_
      have hr24 := Option.some.inj hm
      clear hm
      subst hr24
      have hm := hk17
      try dsimp only at hm
      cases hm
      exact W.ret1 () rfl (.tmp rfl) trivial
     ·have hp23 := of_decide_eq_false hb22
      rw [if_neg hp23] at hm
      refine WL.run rfl rfl rfl rfl hb22 rfl rfl (Op1.move (.tmp rfl)) ?_
      refine WL.run rfl rfl rfl rfl hb22 rfl rfl (Op1.move (.tmp rfl)) ?_
      obtain ⟨b2, hv25, hm⟩ := bind_some hm
      refine WL.run rfl rfl rfl rfl hb22 rfl rfl (Op1.sidx hv25 Tryd.underlying9 (.tmp rfl) (.tmp rfl)) ?_
      refine WL.run rfl rfl rfl rfl hb22 rfl rfl (Op1.gtI (.tmp rfl) (.int (inR8.2 (by omega)))) ?_
      refine WL.op rfl (.pickF (.tmp rfl) hb22 (.tmp rfl)) ?_
      refine WL.ns ?_
      refine W.cond (.tmp rfl) (fun hc26 => ?_) (fun hc26 => ?_)
      ·have hp27 := of_decide_eq_true hc26
       rw [if_pos hp27] at hm
       refine W.sr ?_
       refine WL.op rfl (.assign .bool) ?_
       refine WL.ns ?_
       have hr28 := Option.some.inj hm
       clear hm
       subst hr28
       have hm := hk17
       try dsimp only at hm
       cases hm
       exact W.ret1 () rfl (.tmp rfl) trivial
      ·have hp27 := of_decide_eq_false hc26
       rw [if_neg hp27] at hm
       refine W.skip ?_
       refine WN.block ?_
       refine WN.seq ?_
       refine W.region ?_
       refine WL.mv rfl rfl ?_
       refine WL.lenS (s := 0) (.tmp rfl) fun hl29 => ?_
       refine WL.op rfl (.addI1 (.tmp rfl) .i64 hp20 hl29) ?_
       refine WL.gv rfl rfl ?_
       refine WL.nil ?_
       exact WN.again n18 (i + 1) (Nat.lt_succ_self n18) hm ⟨Ent.q rfl, Ent.q rfl, trivial⟩ trivial
    ·have hp20 := of_decide_eq_false hc19
     rw [if_neg hp20] at hm
     refine W.exit rfl ?_
     have hr30 := Option.some.inj hm
     clear hm
     subst hr30
     have hm := hk17
     try dsimp only at hm
     refine WN.seq ?_
     refine W.sr ?_
     refine WL.op rfl (.assign .bool) ?_
     refine WL.ns ?_
     cases hm
     exact W.ret1 () rfl (.tmp rfl) trivial
 ·have hm := hs3
  clear hs3
  refine W.region ?_
  refine WL.mv rfl rfl ?_
  refine WL.op rfl (.ltI (.tmp rfl) .i64) ?_
  refine WL.mv rfl rfl ?_
  rcases bcases (decide (digits < (1 : Int))) with hb5 | hb5
  ·have hp6 := of_decide_eq_true hb5
   rw [if_pos hp6] at hm
   iterate 2 refine WL.pass rfl rfl rfl rfl hb5 rfl rfl ?_
   refine WL.op rfl (.pickT (.tmp rfl) hb5 .bool) ?_
   refine WL.mv rfl rfl ?_
   iterate 3 refine WL.pass rfl rfl rfl rfl rfl rfl rfl ?_
   refine WL.op rfl (.pickT (.tmp rfl) rfl .bool) ?_
   refine WL.mv rfl rfl ?_
   iterate 5 refine WL.pass rfl rfl rfl rfl rfl rfl rfl ?_
   refine WL.op rfl (.pickT (.tmp rfl) rfl .bool) ?_
   refine WL.nil ?_
   exact WN.meet true (Option.some.inj hm) ⟨Ent.q rfl, Ent.q rfl, Ent.q rfl, trivial⟩ trivial
  ·have hp6 := of_decide_eq_false hb5
   rw [if_neg hp6] at hm
   refine WL.run rfl rfl rfl rfl hb5 rfl rfl (Op1.move (.tmp rfl)) ?_
   refine WL.run rfl rfl rfl rfl hb5 rfl rfl (Op1.gtI (.tmp rfl) .i64) ?_
   refine WL.op rfl (.pickF (.tmp rfl) hb5 (.tmp rfl)) ?_
   refine WL.mv rfl rfl ?_
   rcases bcases (decide ((4 : Int) < digits)) with hb7 | hb7
   ·have hp8 := of_decide_eq_true hb7
    rw [if_pos hp8] at hm
    iterate 3 refine WL.pass rfl rfl rfl rfl hb7 rfl rfl ?_
    refine WL.op rfl (.pickT (.tmp rfl) hb7 .bool) ?_
    refine WL.mv rfl rfl ?_
    iterate 5 refine WL.pass rfl rfl rfl rfl rfl rfl rfl ?_
    refine WL.op rfl (.pickT (.tmp rfl) rfl .bool) ?_
    refine WL.nil ?_
    exact WN.meet true (Option.some.inj hm) ⟨Ent.q rfl, Ent.q rfl, Ent.q rfl, trivial⟩ trivial
   ·have hp8 := of_decide_eq_false hb7
    rw [if_neg hp8] at hm
    refine WL.run rfl rfl rfl rfl hb7 rfl rfl (Op1.move (.tmp rfl)) ?_
    obtain ⟨b, hv9, hm⟩ := bind_some hm
    refine WL.run rfl rfl rfl rfl hb7 rfl rfl (Op1.sidx hv9 Tryd.underlying9 (.tmp rfl) .i64) ?_
    refine WL.run rfl rfl rfl rfl hb7 rfl rfl (Op1.eqI (.tmp rfl) (.int (inR8.2 (by omega)))) ?_
    refine WL.op rfl (.pickF (.tmp rfl) hb7 (.tmp rfl)) ?_
    refine WL.mv rfl rfl ?_
    rcases bcases (decide ((b.toNat : Int) = (48 : Int))) with hb10 | hb10
    ·have hp11 := of_decide_eq_true hb10
     rw [if_pos hp11] at hm
     iterate 5 refine WL.pass rfl rfl rfl rfl hb10 rfl rfl ?_
     refine WL.op rfl (.pickT (.tmp rfl) hb10 .bool) ?_
     refine WL.nil ?_
     exact WN.meet true (Option.some.inj hm) ⟨Ent.q rfl, Ent.q rfl, Ent.q rfl, trivial⟩ trivial
    ·have hp11 := of_decide_eq_false hb10
     rw [if_neg hp11] at hm
     refine WL.run rfl rfl rfl rfl hb10 rfl rfl (Op1.move (.tmp rfl)) ?_
     refine WL.run rfl rfl rfl rfl hb10 rfl rfl (Op1.lenS Tryd.underlying9 (.tmp rfl)) ?_
     refine WL.run rfl rfl rfl rfl hb10 rfl rfl (Op1.move (.tmp rfl)) ?_
     obtain ⟨v1, hv12, hm⟩ := bind_some hm
     refine WL.run rfl rfl rfl rfl hb10 rfl rfl (Op1.subC hv12 (.tmp rfl) (.tmp rfl)) ?_
     refine WL.run rfl rfl rfl rfl hb10 rfl rfl (Op1.gtI (.tmp rfl) .i64) ?_
     refine WL.op rfl (.pickF (.tmp rfl) hb10 (.tmp rfl)) ?_
     refine WL.nil ?_
     exact WN.meet (decide ((3 : Int) < v1)) (Option.some.inj hm) ⟨Ent.q rfl, Ent.q rfl, Ent.q rfl, trivial⟩ trivial
theorem r20_step_spec (n : Nat) (s0_ : api_Step) (r : Bool) (hm : M.r20_step n s0_ = some r) : FSpec Tryd.prog 46 [(tapi_Step.is s0_)] (tB.is r) := by
 unfold M.r20_step at hm
 refine FSpec.of Tryd.func46 rfl rfl rfl (fun g0 => ?_)
 refine W.sr ?_
 refine WL.op rfl (.box (.tmp rfl)) ?_
 refine WL.op rfl (.assign .bool) ?_
 refine WL.nr ?_
 refine WL.op rfl (.fieldAddr Tryd.underlying50 rfl (fun w => ⟨0, Tryd.sizeOf3 w⟩) fapi_Step_0 (.tmp rfl)) ?_
 refine WL.op rfl (.load ty3 (.tmp rfl)) ?_
 refine WL.op rfl (.geI (.tmp rfl) .i64) ?_
 refine WL.mv rfl rfl ?_
 rcases bcases (decide ((1 : Int) ≤ s0_.Kind)) with hb1 | hb1
 ·have hp2 := of_decide_eq_true hb1
  rw [if_pos hp2] at hm
  refine WL.run rfl rfl rfl rfl hb1 rfl rfl (Op1.fieldAddr Tryd.underlying50 rfl (fun w => ⟨0, Tryd.sizeOf3 w⟩) fapi_Step_0 (.tmp rfl)) ?_
  refine WL.run rfl rfl rfl rfl hb1 rfl rfl (Op1.load ty3 (.tmp rfl)) ?_
  refine WL.run rfl rfl rfl rfl hb1 rfl rfl (Op1.leI (.tmp rfl) .i64) ?_
  refine WL.op rfl (.pickT (.tmp rfl) hb1 (.tmp rfl)) ?_
  refine WL.mv rfl rfl ?_
  rcases bcases (decide (s0_.Kind ≤ (7 : Int))) with hb3 | hb3
  ·have hp4 := of_decide_eq_true hb3
   rw [if_pos hp4] at hm
   refine WL.run rfl rfl rfl rfl hb3 rfl rfl (Op1.fieldAddr Tryd.underlying50 rfl (fun w => ⟨0, Tryd.sizeOf9 w⟩) fapi_Step_1 (.tmp rfl)) ?_
   refine WL.run rfl rfl rfl rfl hb3 rfl rfl (Op1.load ty9 (.tmp rfl)) ?_
   obtain ⟨may, hv5, hm⟩ := bind_some hm
   refine WL.run rfl rfl rfl rfl hb3 rfl rfl (Op1.call Tryd.call30 (r03_May_spec _ _ _ hv5) ⟨(.tmp rfl), trivial⟩) ?_
   refine WL.op rfl (.pickT (.tmp rfl) hb3 (.tmp rfl)) ?_
   refine WL.gv rfl rfl ?_
   refine WL.ns ?_
   cases hm
   exact W.ret1 () rfl (.tmp rfl) trivial
  ·have hp4 := of_decide_eq_false hb3
   rw [if_neg hp4] at hm
   iterate 3 refine WL.pass rfl rfl rfl rfl hb3 rfl rfl ?_
   refine WL.op rfl (.pickF (.tmp rfl) hb3 .bool) ?_
   refine WL.gv rfl rfl ?_
   refine WL.ns ?_
   cases hm
   exact W.ret1 () rfl (.tmp rfl) trivial
 ·have hp2 := of_decide_eq_false hb1
  rw [if_neg hp2] at hm
  iterate 3 refine WL.pass rfl rfl rfl rfl hb1 rfl rfl ?_
  refine WL.op rfl (.pickF (.tmp rfl) hb1 .bool) ?_
  refine WL.mv rfl rfl ?_
  iterate 3 refine WL.pass rfl rfl rfl rfl rfl rfl rfl ?_
  refine WL.op rfl (.pickF (.tmp rfl) rfl .bool) ?_
  refine WL.gv rfl rfl ?_
  refine WL.ns ?_
  cases hm
  exact W.ret1 () rfl (.tmp rfl) trivial
theorem r20_steps_spec (n : Nat) (p : List api_Step) (r : Bool) (hm : M.r20_steps n p = some r) : FSpec Tryd.prog 32 [((tL tapi_Step).is p)] (tB.is r) := by
 unfold M.r20_steps at hm
 refine FSpec.of Tryd.func32 rfl rfl rfl (fun g0 => ?_)
 refine W.sr ?_
 refine WL.op rfl (.assign .bool) ?_
 refine WL.ns ?_
 refine W.seq ?_
 refine W.sr ?_
 refine WL.op rfl (.assign .i64) ?_
 refine WL.ns ?_
 refine W.block ?_
 obtain ⟨s1, hs2, hk3⟩ := bind_some hm
 clear hm
 refine W.loop (fun m (s : Int) => M.r20_steps_loop1 p m s = some s1) (fun s => [(3, ((tI .i64).is s)), (0, ((tL tapi_Step).is p))]) (fun s => []) _ (0 : Int) hs2 ⟨Ent.q rfl, Ent.q rfl, trivial⟩ trivial ?_
 rintro n4 i hm
 try dsimp only at hm
 change W _ _ _ _ _ _ _ [(3, ((tI .i64).is i)), (0, ((tL tapi_Step).is p))] []
 cases n4 with
 | zero => rw [M.r20_steps_loop1.eq_1] at hm; cases hm
 | succ n4 =>
  rw [M.r20_steps_loop1.eq_2] at hm
  refine W.seq ?_
  refine W.sr ?_
  refine WL.mv rfl rfl ?_
  refine WL.mv rfl rfl ?_
  refine WL.op rfl (.lenL Tryd.underlying22 (.tmp rfl)) ?_
  refine WL.op rfl (.ltI (.tmp rfl) (.tmp rfl)) ?_
  refine WL.ns ?_
  refine W.cond (.tmp rfl) (fun hc5 => ?_) (fun hc5 => ?_)
  ·have hp6 := of_decide_eq_true hc5
   rw [if_pos hp6] at hm
   refine W.skip ?_
   refine WN.seq ?_
   refine W.seq ?_
   refine W.block ?_
   refine W.sr ?_
   refine WL.mv rfl rfl ?_
   refine WL.mv rfl rfl ?_
   obtain ⟨v, hv7, hm⟩ := bind_some hm
   refine WL.op rfl (.idx hv7 Tryd.underlying22 Tryd.sizeOf50 (.tmp rfl) (.tmp rfl)) ?_
   refine WL.op rfl (.load ty50 (.tmp rfl)) ?_
   obtain ⟨step, hv8, hm⟩ := bind_some hm
   refine WL.op rfl (.call Tryd.call46 (r20_step_spec _ _ _ hv8) ⟨(.tmp rfl), trivial⟩) ?_
   refine WL.op rfl (.notB (.tmp rfl)) ?_
   refine WL.ns ?_
   refine W.cond (.tmp rfl) (fun hc9 => ?_) (fun hc9 => ?_)
   ·have hp10 := not_pos hc9
    rw [if_pos hp10] at hm
    refine W.sr ?_
    refine WL.op rfl (.assign .bool) ?_
    refine WL.ns ?_
    have hr11 := Option.some.inj hm
    clear hm
    subst hr11
    have hm := hk3
    try dsimp only at hm
    cases hm
    exact W.ret1 () rfl (.tmp rfl) trivial
   ·have hp10 := not_neg hc9
    rw [if_neg hp10] at hm
    refine W.skip ?_
    refine WN.block ?_
    refine WN.seq ?_
    refine W.region ?_
    refine WL.mv rfl rfl ?_
    refine WL.lenL (s := 0) (.tmp rfl) fun hl12 => ?_
    refine WL.op rfl (.addI1 (.tmp rfl) .i64 hp6 hl12) ?_
    refine WL.gv rfl rfl ?_
    refine WL.nil ?_
    exact WN.again n4 (i + 1) (Nat.lt_succ_self n4) hm ⟨Ent.q rfl, Ent.q rfl, trivial⟩ trivial
  ·have hp6 := of_decide_eq_false hc5
   rw [if_neg hp6] at hm
   refine W.exit rfl ?_
   have hr13 := Option.some.inj hm
   clear hm
   subst hr13
   have hm := hk3
   try dsimp only at hm
   refine WN.seq ?_
   refine W.sr ?_
   refine WL.op rfl (.assign .bool) ?_
   refine WL.ns ?_
   cases hm
   exact W.ret1 () rfl (.tmp rfl) trivial
theorem r20_plain_spec (n : Nat) (p : List api_Step) (r : Bool) (hm : M.r20_plain n p = some r) : FSpec Tryd.prog 29 [((tL tapi_Step).is p)] (tB.is r) := by
 unfold M.r20_plain at hm
 refine FSpec.of Tryd.func29 rfl rfl rfl (fun g0 => ?_)
 refine W.sr ?_
 refine WL.op rfl (.assign .bool) ?_
 refine WL.ns ?_
 obtain ⟨s1, hs2, hk3⟩ := bind_some hm
 clear hm
 refine W.join (fun s : (List api_Step) => s = s1) (fun s => [(0, ((tL tapi_Step).is s))]) (fun s => []) ?_ ?_
 ·rintro p1 hj16
  try dsimp only at hj16
  subst hj16
  have hm := hk3
  clear hk3
  try dsimp only at hm
  change W _ _ _ _ _ _ _ [(0, ((tL tapi_Step).is p1))] []
  refine W.sr ?_
  refine WL.mv rfl rfl ?_
  refine WL.op rfl (.lenL Tryd.underlying22 (.tmp rfl)) ?_
  refine WL.op rfl (.gtI (.tmp rfl) .i64) ?_
  refine WL.mv rfl rfl ?_
  rcases bcases (decide ((0 : Int) < (p1.length : Int))) with hb13 | hb13
  ·have hp14 := of_decide_eq_true hb13
   rw [if_pos hp14] at hm
   refine WL.run rfl rfl rfl rfl hb13 rfl rfl (Op1.move (.tmp rfl)) ?_
   obtain ⟨steps, hv15, hm⟩ := bind_some hm
   refine WL.run rfl rfl rfl rfl hb13 rfl rfl (Op1.call Tryd.call32 (r20_steps_spec _ _ _ hv15) ⟨(.tmp rfl), trivial⟩) ?_
   refine WL.op rfl (.pickT (.tmp rfl) hb13 (.tmp rfl)) ?_
   refine WL.gv rfl rfl ?_
   refine WL.ns ?_
   cases hm
   exact W.ret1 () rfl (.tmp rfl) trivial
  ·have hp14 := of_decide_eq_false hb13
   rw [if_neg hp14] at hm
   iterate 2 refine WL.pass rfl rfl rfl rfl hb13 rfl rfl ?_
   refine WL.op rfl (.pickF (.tmp rfl) hb13 .bool) ?_
   refine WL.gv rfl rfl ?_
   refine WL.ns ?_
   cases hm
   exact W.ret1 () rfl (.tmp rfl) trivial
 ·have hm := hs2
  clear hs2
  refine W.sr ?_
  refine WL.mv rfl rfl ?_
  refine WL.op rfl (.lenL Tryd.underlying22 (.tmp rfl)) ?_
  refine WL.op rfl (.gtI (.tmp rfl) .i64) ?_
  refine WL.mv rfl rfl ?_
  rcases bcases (decide ((0 : Int) < (p.length : Int))) with hb4 | hb4
  ·have hp5 := of_decide_eq_true hb4
   rw [if_pos hp5] at hm
   refine WL.run rfl rfl rfl rfl hb4 rfl rfl (Op1.move (.tmp rfl)) ?_
   obtain ⟨v, hv6, hm⟩ := bind_some hm
   refine WL.run rfl rfl rfl rfl hb4 rfl rfl (Op1.idx hv6 Tryd.underlying22 Tryd.sizeOf50 (.tmp rfl) .i64) ?_
   refine WL.run rfl rfl rfl rfl hb4 rfl rfl (Op1.fieldAddr Tryd.underlying50 rfl (fun w => ⟨0, Tryd.sizeOf3 w⟩) fapi_Step_0 (.tmp rfl)) ?_
   refine WL.run rfl rfl rfl rfl hb4 rfl rfl (Op1.load ty3 (.tmp rfl)) ?_
   refine WL.run rfl rfl rfl rfl hb4 rfl rfl (Op1.eqI (.tmp rfl) .i64) ?_
   refine WL.op rfl (.pickT (.tmp rfl) hb4 (.tmp rfl)) ?_
   refine WL.mv rfl rfl ?_
   rcases bcases (decide (v.Kind = (0 : Int))) with hb7 | hb7
   ·have hp8 := of_decide_eq_true hb7
    rw [if_pos hp8] at hm
    refine WL.run rfl rfl rfl rfl hb7 rfl rfl (Op1.move (.tmp rfl)) ?_
    obtain ⟨v1, hv9, hm⟩ := bind_some hm
    refine WL.run rfl rfl rfl rfl hb7 rfl rfl (Op1.idx hv9 Tryd.underlying22 Tryd.sizeOf50 (.tmp rfl) .i64) ?_
    refine WL.run rfl rfl rfl rfl hb7 rfl rfl (Op1.fieldAddr Tryd.underlying50 rfl (fun w => ⟨0, Tryd.sizeOf9 w⟩) fapi_Step_1 (.tmp rfl)) ?_
    refine WL.run rfl rfl rfl rfl hb7 rfl rfl (Op1.load ty9 (.tmp rfl)) ?_
    refine WL.run rfl rfl rfl rfl hb7 rfl rfl (Op1.eqS (.tmp rfl) (.str rfl (by decide))) ?_
    refine WL.op rfl (.pickT (.tmp rfl) hb7 (.tmp rfl)) ?_
    refine WL.ns ?_
    refine W.cond (.tmp rfl) (fun hc10 => ?_) (fun hc10 => ?_)
    ·have hp11 := hc10
     rw [if_pos hp11] at hm
     refine W.region ?_
     refine WL.mv rfl rfl ?_
     obtain ⟨v2, hv12, hm⟩ := bind_some hm
     refine WL.op rfl (.slcLo hv12 Tryd.underlying22 Tryd.sizeOf50 (.tmp rfl) .i64) ?_
     refine WL.gv rfl rfl ?_
     refine WL.nil ?_
     exact WN.meet v2 (Option.some.inj hm) ⟨Ent.q rfl, trivial⟩ trivial
    ·have hp11 := ne_of_false hc10
     rw [if_neg hp11] at hm
     refine W.skip ?_
     exact WN.meet p (Option.some.inj hm) ⟨Ent.q rfl, trivial⟩ trivial
   ·have hp8 := of_decide_eq_false hb7
    rw [if_neg hp8] at hm
    iterate 5 refine WL.pass rfl rfl rfl rfl hb7 rfl rfl ?_
    refine WL.op rfl (.pickF (.tmp rfl) hb7 .bool) ?_
    refine WL.ns ?_
    refine W.condF (.tmp rfl) ?_
    refine W.skip ?_
    exact WN.meet p (Option.some.inj hm) ⟨Ent.q rfl, trivial⟩ trivial
  ·have hp5 := of_decide_eq_false hb4
   rw [if_neg hp5] at hm
   iterate 5 refine WL.pass rfl rfl rfl rfl hb4 rfl rfl ?_
   refine WL.op rfl (.pickF (.tmp rfl) hb4 .bool) ?_
   refine WL.mv rfl rfl ?_
   iterate 5 refine WL.pass rfl rfl rfl rfl rfl rfl rfl ?_
   refine WL.op rfl (.pickF (.tmp rfl) rfl .bool) ?_
   refine WL.ns ?_
   refine W.condF (.tmp rfl) ?_
   refine W.skip ?_
   exact WN.meet p (Option.some.inj hm) ⟨Ent.q rfl, trivial⟩ trivial
theorem r20_Plurals_spec  (r : (List Str)) (hm : M.r20_Plurals  = some r) : FSpec Tryd.prog 31 [] ((tL tS).is r) := by
 unfold M.r20_Plurals at hm
 refine FSpec.of Tryd.func31 rfl rfl rfl (fun g0 => ?_)
 refine W.sr ?_
 refine WL.op rfl (.assign (.nil (t := tS))) ?_
 refine WL.nr ?_
 refine WL.op rfl (.buildSlice (n := 7) (ys := [(0, ([112, 97, 114, 116, 115] : Str)), (1, ([115, 101, 99, 116, 105, 111, 110, 115] : Str)), (2, ([112, 97, 114, 97, 103, 114, 97, 112, 104, 115] : Str)), (3, ([116, 97, 98, 108, 101, 115] : Str)), (4, ([114, 111, 119, 115] : Str)), (5, ([] : Str)), (6, ([110, 111, 116, 101, 115] : Str))]) (z := ([] : Str)) (xs := [([112, 97, 114, 116, 115] : Str), ([115, 101, 99, 116, 105, 111, 110, 115] : Str), ([112, 97, 114, 97, 103, 114, 97, 112, 104, 115] : Str), ([116, 97, 98, 108, 101, 115] : Str), ([114, 111, 119, 115] : Str), ([] : Str), ([110, 111, 116, 101, 115] : Str)]) Tryd.underlying28 el9 ze9 ⟨rfl, (.str rfl (by decide)), rfl, (.str rfl (by decide)), rfl, (.str rfl (by decide)), rfl, (.str rfl (by decide)), rfl, (.str rfl (by decide)), rfl, (.str rfl (by decide)), rfl, (.str rfl (by decide)), trivial⟩ (by simp) (by decide) rfl) ?_
 refine WL.gv rfl rfl ?_
 refine WL.ns ?_
 cases hm
 exact W.ret1 () rfl (.tmp rfl) trivial
theorem r20_May_spec (n : Nat) (c : api_Cite) (r : Bool) (hm : M.r20_May n c = some r) : FSpec Tryd.prog 12 [(tapi_Cite.is c)] (tB.is r) := by
 unfold M.r20_May at hm
 refine FSpec.of Tryd.func12 rfl rfl rfl (fun g0 => ?_)
 refine W.sr ?_
 refine WL.op rfl (.box (.tmp rfl)) ?_
 refine WL.op rfl (.assign .bool) ?_
 refine WL.ns ?_
 refine W.seq ?_
 obtain ⟨s1, hs2, hk3⟩ := bind_some hm
 clear hm
 refine W.join (fun s : Bool => s = s1) (fun s => [(12, (tB.is s)), (1, (tapi_Cite.ptr c))]) (fun s => []) ?_ ?_
 ·rintro v hj53
  try dsimp only at hj53
  subst hj53
  have hm := hk3
  clear hk3
  try dsimp only at hm
  change W _ _ _ _ _ _ _ [(12, (tB.is v)), (1, (tapi_Cite.ptr c))] []
  refine W.cond (.tmp rfl) (fun hc6 => ?_) (fun hc6 => ?_)
  ·have hp7 := hc6
   rw [if_pos hp7] at hm
   refine W.sr ?_
   refine WL.op rfl (.assign .bool) ?_
   refine WL.ns ?_
   cases hm
   exact W.ret1 () rfl (.tmp rfl) trivial
  ·have hp7 := ne_of_false hc6
   rw [if_neg hp7] at hm
   refine W.skip ?_
   refine WN.seq ?_
   refine W.seq ?_
   refine W.sr ?_
   refine WL.op rfl (.fieldAddr Tryd.underlying24 rfl (fun w => ⟨0, Tryd.sizeOf3 w⟩) fapi_Cite_0 (.tmp rfl)) ?_
   refine WL.op rfl (.load ty3 (.tmp rfl)) ?_
   refine WL.ns ?_
   refine W.block ?_
   obtain ⟨s8, hs9, hk10⟩ := bind_some hm
   clear hm
   refine W.join (fun s : Bool => s = s8) (fun s => [(15, (tB.is s)), (1, (tapi_Cite.ptr c)), (14, ((tI .i64).is c.Kind))]) (fun s => []) ?_ ?_
   ·rintro v1 hj52
    try dsimp only at hj52
    subst hj52
    have hm := hk10
    clear hk10
    try dsimp only at hm
    change W _ _ _ _ _ _ _ [(15, (tB.is v1)), (1, (tapi_Cite.ptr c)), (14, ((tI .i64).is c.Kind))] []
    refine W.cond (.tmp rfl) (fun hc13 => ?_) (fun hc13 => ?_)
    ·have hp14 := hc13
     rw [if_pos hp14] at hm
     refine W.sr ?_
     refine WL.op rfl (.fieldAddr Tryd.underlying24 rfl (fun w => ⟨0, Tryd.sizeOf9 w⟩) fapi_Cite_2 (.tmp rfl)) ?_
     refine WL.op rfl (.load ty9 (.tmp rfl)) ?_
     refine WL.op rfl (.eqS (.tmp rfl) (.str rfl (by decide))) ?_
     refine WL.mv rfl rfl ?_
     rcases bcases (c.To == ([] : Str)) with hb15 | hb15
     ·have hp16 := hb15
      rw [if_pos hp16] at hm
      refine WL.run rfl rfl rfl rfl hb15 rfl rfl (Op1.fieldAddr Tryd.underlying24 rfl (fun w => ⟨0, Tryd.sizeOf22 w⟩) fapi_Cite_1 (.tmp rfl)) ?_
      refine WL.run rfl rfl rfl rfl hb15 rfl rfl (Op1.load ty22 (.tmp rfl)) ?_
      obtain ⟨plain, hv17, hm⟩ := bind_some hm
      refine WL.run rfl rfl rfl rfl hb15 rfl rfl (Op1.call Tryd.call29 (r20_plain_spec _ _ _ hv17) ⟨(.tmp rfl), trivial⟩) ?_
      refine WL.op rfl (.pickT (.tmp rfl) hb15 (.tmp rfl)) ?_
      refine WL.gv rfl rfl ?_
      refine WL.ns ?_
      cases hm
      exact W.ret1 () rfl (.tmp rfl) trivial
     ·have hp16 := ne_of_false hb15
      rw [if_neg hp16] at hm
      iterate 3 refine WL.pass rfl rfl rfl rfl hb15 rfl rfl ?_
      refine WL.op rfl (.pickF (.tmp rfl) hb15 .bool) ?_
      refine WL.gv rfl rfl ?_
      refine WL.ns ?_
      cases hm
      exact W.ret1 () rfl (.tmp rfl) trivial
    ·have hp14 := ne_of_false hc13
     rw [if_neg hp14] at hm
     refine W.sr ?_
     refine WL.op rfl (.eqI (.tmp rfl) .i64) ?_
     refine WL.gv rfl rfl ?_
     refine WL.ns ?_
     refine W.cond (.tmp rfl) (fun hc18 => ?_) (fun hc18 => ?_)
     ·have hp19 := of_decide_eq_true hc18
      rw [if_pos hp19] at hm
      refine W.seq ?_
      obtain ⟨may, hv20, hm⟩ := bind_some hm
      rcases bcases (may) with hb21 | hb21
      ·have hp22 := hb21
       rw [if_pos hp22] at hm
       obtain ⟨plain1, hv23, hm⟩ := bind_some hm
       rcases bcases (plain1) with hb24 | hb24
       ·have hp25 := hb24
        rw [if_pos hp25] at hm
        obtain ⟨plural, hv26, hm⟩ := bind_some hm
        obtain ⟨v2, hv27, hm⟩ := bind_some hm
        obtain ⟨v3, hv28, hm⟩ := bind_some hm
        obtain ⟨v4, hv29, hm⟩ := bind_some hm
        obtain ⟨v5, hv30, hm⟩ := bind_some hm
        refine W.draw [.c (tS.ptr c.To), .c (tS.is c.To), .c (tB.is may), .c (tB.is may), .c ((tL tapi_Step).ptr c.Path), .c ((tL tapi_Step).is c.Path), .c (tB.is plain1), .c (tB.is plain1), .c (tB.is plain1), .c ((tL tS).is plural), .c ((tL tapi_Step).ptr c.Path), .c ((tL tapi_Step).is c.Path), .c ((tL tapi_Step).ptr c.Path), .c ((tL tapi_Step).is c.Path), .c ((tI .i64).is (c.Path.length : Int)), .c ((tI .i64).is v2), .c (tapi_Step.ptr v3), .c ((tI .i64).ptr v3.Kind), .c ((tI .i64).is v3.Kind), .c ((tI .i64).is v4), .c (tS.ptr v5), .c (tS.is v5), .c (tB.is (v5 != ([] : Str))), .c (tB.is (v5 != ([] : Str))), .c (tB.is (v5 != ([] : Str)))] [([], [1]), ([0], []), ([1], []), ([2], []), ([3], [1]), ([3, 4], []), ([3, 5], []), ([3, 6], []), ([7], []), ([8], []), ([8], [1]), ([8, 10], []), ([8], [1]), ([8, 12], []), ([8, 13], []), ([8, 14], []), ([8, 11, 15], []), ([8, 16], []), ([8, 17], []), ([8, 18], []), ([8, 9, 19], []), ([8, 20], []), ([8, 21], []), ([8, 22], []), ([23], [])] Tryd.mixed rfl rfl rfl rfl (by exact ⟨.inr (Op1.fieldAddr Tryd.underlying24 rfl (fun w => ⟨0, Tryd.sizeOf9 w⟩) fapi_Cite_2 (.tmp rfl)), .inr (Op1.load ty9 (.tmp rfl)), .inr (Op1.call Tryd.call30 (r03_May_spec _ _ _ hv20) ⟨(.tmp rfl), trivial⟩), .inr (Op1.move (.tmp rfl)), .inr (dr rfl rfl rfl hb21 (Op1.fieldAddr Tryd.underlying24 rfl (fun w => ⟨0, Tryd.sizeOf22 w⟩) fapi_Cite_1 (.tmp rfl))), .inr (dr rfl rfl rfl hb21 (Op1.load ty22 (.tmp rfl))), .inr (dr rfl rfl rfl hb21 (Op1.call Tryd.call29 (r20_plain_spec _ _ _ hv23) ⟨(.tmp rfl), trivial⟩)), .inr (Op1.pickT (.tmp rfl) hb21 (.tmp rfl)), .inr (Op1.move (.tmp rfl)), .inr (dr rfl rfl rfl hb24 (Op1.call Tryd.call31 (r20_Plurals_spec _ hv26) trivial)), .inr (dr rfl rfl rfl hb24 (Op1.fieldAddr Tryd.underlying24 rfl (fun w => ⟨0, Tryd.sizeOf22 w⟩) fapi_Cite_1 (.tmp rfl))), .inr (dr rfl rfl rfl hb24 (Op1.load ty22 (.tmp rfl))), .inr (dr rfl rfl rfl hb24 (Op1.fieldAddr Tryd.underlying24 rfl (fun w => ⟨0, Tryd.sizeOf22 w⟩) fapi_Cite_1 (.tmp rfl))), .inr (dr rfl rfl rfl hb24 (Op1.load ty22 (.tmp rfl))), .inr (dr rfl rfl rfl hb24 (Op1.lenL Tryd.underlying22 (.tmp rfl))), .inr (dr rfl rfl rfl hb24 (Op1.subC hv27 (.tmp rfl) .i64)), .inr (dr rfl rfl rfl hb24 (Op1.idx hv28 Tryd.underlying22 Tryd.sizeOf50 (.tmp rfl) (.tmp rfl))), .inr (dr rfl rfl rfl hb24 (Op1.fieldAddr Tryd.underlying50 rfl (fun w => ⟨0, Tryd.sizeOf3 w⟩) fapi_Step_0 (.tmp rfl))), .inr (dr rfl rfl rfl hb24 (Op1.load ty3 (.tmp rfl))), .inr (dr rfl rfl rfl hb24 (Op1.subC hv29 (.tmp rfl) .i64)), .inr (dr rfl rfl rfl hb24 (Op1.idx hv30 Tryd.underlying28 Tryd.sizeOf9 (.tmp rfl) (.tmp rfl))), .inr (dr rfl rfl rfl hb24 (Op1.load ty9 (.tmp rfl))), .inr (dr rfl rfl rfl hb24 (Op1.neS (.tmp rfl) (.str rfl (by decide)))), .inr (Op1.pickT (.tmp rfl) hb24 (.tmp rfl)), .inr (Op1.assign (.tmp rfl)), trivial⟩) ?_
        refine WN.seq ?_
        cases hm
        exact W.ret1 () rfl (.tmp rfl) trivial
       ·have hp25 := ne_of_false hb24
        rw [if_neg hp25] at hm
        refine W.draw [.c (tS.ptr c.To), .c (tS.is c.To), .c (tB.is may), .c (tB.is may), .c ((tL tapi_Step).ptr c.Path), .c ((tL tapi_Step).is c.Path), .c (tB.is plain1), .c (tB.is plain1), .c (tB.is plain1), .c (Asn.eq undef), .c (Asn.eq undef), .c (Asn.eq undef), .c (Asn.eq undef), .c (Asn.eq undef), .c (Asn.eq undef), .c (Asn.eq undef), .c (Asn.eq undef), .c (Asn.eq undef), .c (Asn.eq undef), .c (Asn.eq undef), .c (Asn.eq undef), .c (Asn.eq undef), .c (Asn.eq undef), .c (tB.is false), .c (tB.is false)] [([], [1]), ([0], []), ([1], []), ([2], []), ([3], [1]), ([3, 4], []), ([3, 5], []), ([3, 6], []), ([7], []), ([8], []), ([8], [1]), ([8, 10], []), ([8], [1]), ([8, 12], []), ([8, 13], []), ([8, 14], []), ([8, 11, 15], []), ([8, 16], []), ([8, 17], []), ([8, 18], []), ([8, 9, 19], []), ([8, 20], []), ([8, 21], []), ([8, 22], []), ([23], [])] Tryd.mixed rfl rfl rfl rfl (by exact ⟨.inr (Op1.fieldAddr Tryd.underlying24 rfl (fun w => ⟨0, Tryd.sizeOf9 w⟩) fapi_Cite_2 (.tmp rfl)), .inr (Op1.load ty9 (.tmp rfl)), .inr (Op1.call Tryd.call30 (r03_May_spec _ _ _ hv20) ⟨(.tmp rfl), trivial⟩), .inr (Op1.move (.tmp rfl)), .inr (dr rfl rfl rfl hb21 (Op1.fieldAddr Tryd.underlying24 rfl (fun w => ⟨0, Tryd.sizeOf22 w⟩) fapi_Cite_1 (.tmp rfl))), .inr (dr rfl rfl rfl hb21 (Op1.load ty22 (.tmp rfl))), .inr (dr rfl rfl rfl hb21 (Op1.call Tryd.call29 (r20_plain_spec _ _ _ hv23) ⟨(.tmp rfl), trivial⟩)), .inr (Op1.pickT (.tmp rfl) hb21 (.tmp rfl)), .inr (Op1.move (.tmp rfl)), .inr (dp rfl rfl rfl hb24), .inr (dp rfl rfl rfl hb24), .inr (dp rfl rfl rfl hb24), .inr (dp rfl rfl rfl hb24), .inr (dp rfl rfl rfl hb24), .inr (dp rfl rfl rfl hb24), .inr (dp rfl rfl rfl hb24), .inr (dp rfl rfl rfl hb24), .inr (dp rfl rfl rfl hb24), .inr (dp rfl rfl rfl hb24), .inr (dp rfl rfl rfl hb24), .inr (dp rfl rfl rfl hb24), .inr (dp rfl rfl rfl hb24), .inr (dp rfl rfl rfl hb24), .inr (Op1.pickF (.tmp rfl) hb24 .bool), .inr (Op1.assign (.tmp rfl)), trivial⟩) ?_
        refine WN.seq ?_
        cases hm
        exact W.ret1 () rfl (.tmp rfl) trivial
      ·have hp22 := ne_of_false hb21
       rw [if_neg hp22] at hm
       refine W.draw [.c (tS.ptr c.To), .c (tS.is c.To), .c (tB.is may), .c (tB.is may), .c (Asn.eq undef), .c (Asn.eq undef), .c (Asn.eq undef), .c (tB.is false), .c (tB.is false), .c (Asn.eq undef), .c (Asn.eq undef), .c (Asn.eq undef), .c (Asn.eq undef), .c (Asn.eq undef), .c (Asn.eq undef), .c (Asn.eq undef), .c (Asn.eq undef), .c (Asn.eq undef), .c (Asn.eq undef), .c (Asn.eq undef), .c (Asn.eq undef), .c (Asn.eq undef), .c (Asn.eq undef), .c (tB.is false), .c (tB.is false)] [([], [1]), ([0], []), ([1], []), ([2], []), ([3], [1]), ([3, 4], []), ([3, 5], []), ([3, 6], []), ([7], []), ([8], []), ([8], [1]), ([8, 10], []), ([8], [1]), ([8, 12], []), ([8, 13], []), ([8, 14], []), ([8, 11, 15], []), ([8, 16], []), ([8, 17], []), ([8, 18], []), ([8, 9, 19], []), ([8, 20], []), ([8, 21], []), ([8, 22], []), ([23], [])] Tryd.mixed rfl rfl rfl rfl (by exact ⟨.inr (Op1.fieldAddr Tryd.underlying24 rfl (fun w => ⟨0, Tryd.sizeOf9 w⟩) fapi_Cite_2 (.tmp rfl)), .inr (Op1.load ty9 (.tmp rfl)), .inr (Op1.call Tryd.call30 (r03_May_spec _ _ _ hv20) ⟨(.tmp rfl), trivial⟩), .inr (Op1.move (.tmp rfl)), .inr (dp rfl rfl rfl hb21), .inr (dp rfl rfl rfl hb21), .inr (dp rfl rfl rfl hb21), .inr (Op1.pickF (.tmp rfl) hb21 .bool), .inr (Op1.move (.tmp rfl)), .inr (dp rfl rfl rfl rfl), .inr (dp rfl rfl rfl rfl), .inr (dp rfl rfl rfl rfl), .inr (dp rfl rfl rfl rfl), .inr (dp rfl rfl rfl rfl), .inr (dp rfl rfl rfl rfl), .inr (dp rfl rfl rfl rfl), .inr (dp rfl rfl rfl rfl), .inr (dp rfl rfl rfl rfl), .inr (dp rfl rfl rfl rfl), .inr (dp rfl rfl rfl rfl), .inr (dp rfl rfl rfl rfl), .inr (dp rfl rfl rfl rfl), .inr (dp rfl rfl rfl rfl), .inr (Op1.pickF (.tmp rfl) rfl .bool), .inr (Op1.assign (.tmp rfl)), trivial⟩) ?_
       refine WN.seq ?_
       cases hm
       exact W.ret1 () rfl (.tmp rfl) trivial
     ·have hp19 := of_decide_eq_false hc18
      rw [if_neg hp19] at hm
      obtain ⟨s31, hs32, hk33⟩ := bind_some hm
      clear hm
      refine W.join (fun s : Bool => s = s31) (fun s => [(52, (tB.is s)), (1, (tapi_Cite.ptr c))]) (fun s => []) ?_ ?_
      ·rintro v6 hj51
       try dsimp only at hj51
       subst hj51
       have hm := hk33
       clear hk33
       try dsimp only at hm
       change W _ _ _ _ _ _ _ [(52, (tB.is v6)), (1, (tapi_Cite.ptr c))] []
       refine W.cond (.tmp rfl) (fun hc36 => ?_) (fun hc36 => ?_)
       ·have hp37 := hc36
        rw [if_pos hp37] at hm
        refine W.sr ?_
        refine WL.op rfl (.fieldAddr Tryd.underlying24 rfl (fun w => ⟨0, Tryd.sizeOf9 w⟩) fapi_Cite_2 (.tmp rfl)) ?_
        refine WL.op rfl (.load ty9 (.tmp rfl)) ?_
        refine WL.op rfl (.eqS (.tmp rfl) (.str rfl (by decide))) ?_
        refine WL.mv rfl rfl ?_
        rcases bcases (c.To == ([] : Str)) with hb38 | hb38
        ·have hp39 := hb38
         rw [if_pos hp39] at hm
         refine WL.run rfl rfl rfl rfl hb38 rfl rfl (Op1.fieldAddr Tryd.underlying24 rfl (fun w => ⟨0, Tryd.sizeOf22 w⟩) fapi_Cite_1 (.tmp rfl)) ?_
         refine WL.run rfl rfl rfl rfl hb38 rfl rfl (Op1.load ty22 (.tmp rfl)) ?_
         obtain ⟨v7, hv40, hm⟩ := bind_some hm
         refine WL.run rfl rfl rfl rfl hb38 rfl rfl (Op1.idx hv40 Tryd.underlying22 Tryd.sizeOf50 (.tmp rfl) .i64) ?_
         refine WL.run rfl rfl rfl rfl hb38 rfl rfl (Op1.fieldAddr Tryd.underlying50 rfl (fun w => ⟨0, Tryd.sizeOf3 w⟩) fapi_Step_0 (.tmp rfl)) ?_
         refine WL.run rfl rfl rfl rfl hb38 rfl rfl (Op1.load ty3 (.tmp rfl)) ?_
         refine WL.run rfl rfl rfl rfl hb38 rfl rfl (Op1.geI (.tmp rfl) .i64) ?_
         refine WL.op rfl (.pickT (.tmp rfl) hb38 (.tmp rfl)) ?_
         refine WL.mv rfl rfl ?_
         rcases bcases (decide ((1 : Int) ≤ v7.Kind)) with hb41 | hb41
         ·have hp42 := of_decide_eq_true hb41
          rw [if_pos hp42] at hm
          refine WL.run rfl rfl rfl rfl hb41 rfl rfl (Op1.fieldAddr Tryd.underlying24 rfl (fun w => ⟨0, Tryd.sizeOf22 w⟩) fapi_Cite_1 (.tmp rfl)) ?_
          refine WL.run rfl rfl rfl rfl hb41 rfl rfl (Op1.load ty22 (.tmp rfl)) ?_
          obtain ⟨v8, hv43, hm⟩ := bind_some hm
          refine WL.run rfl rfl rfl rfl hb41 rfl rfl (Op1.idx hv43 Tryd.underlying22 Tryd.sizeOf50 (.tmp rfl) .i64) ?_
          refine WL.run rfl rfl rfl rfl hb41 rfl rfl (Op1.fieldAddr Tryd.underlying50 rfl (fun w => ⟨0, Tryd.sizeOf3 w⟩) fapi_Step_0 (.tmp rfl)) ?_
          refine WL.run rfl rfl rfl rfl hb41 rfl rfl (Op1.load ty3 (.tmp rfl)) ?_
          refine WL.run rfl rfl rfl rfl hb41 rfl rfl (Op1.leI (.tmp rfl) .i64) ?_
          refine WL.op rfl (.pickT (.tmp rfl) hb41 (.tmp rfl)) ?_
          refine WL.mv rfl rfl ?_
          rcases bcases (decide (v8.Kind ≤ (7 : Int))) with hb44 | hb44
          ·have hp45 := of_decide_eq_true hb44
           rw [if_pos hp45] at hm
           refine WL.run rfl rfl rfl rfl hb44 rfl rfl (Op1.fieldAddr Tryd.underlying24 rfl (fun w => ⟨0, Tryd.sizeOf22 w⟩) fapi_Cite_1 (.tmp rfl)) ?_
           refine WL.run rfl rfl rfl rfl hb44 rfl rfl (Op1.load ty22 (.tmp rfl)) ?_
           obtain ⟨v9, hv46, hm⟩ := bind_some hm
           refine WL.run rfl rfl rfl rfl hb44 rfl rfl (Op1.idx hv46 Tryd.underlying22 Tryd.sizeOf50 (.tmp rfl) .i64) ?_
           refine WL.run rfl rfl rfl rfl hb44 rfl rfl (Op1.fieldAddr Tryd.underlying50 rfl (fun w => ⟨0, Tryd.sizeOf9 w⟩) fapi_Step_1 (.tmp rfl)) ?_
           refine WL.run rfl rfl rfl rfl hb44 rfl rfl (Op1.load ty9 (.tmp rfl)) ?_
           refine WL.run rfl rfl rfl rfl hb44 rfl rfl (Op1.eqS (.tmp rfl) (.str rfl (by decide))) ?_
           refine WL.op rfl (.pickT (.tmp rfl) hb44 (.tmp rfl)) ?_
           refine WL.mv rfl rfl ?_
           rcases bcases (v9.Label == ([] : Str)) with hb47 | hb47
           ·have hp48 := hb47
            rw [if_pos hp48] at hm
            refine WL.run rfl rfl rfl rfl hb47 rfl rfl (Op1.fieldAddr Tryd.underlying24 rfl (fun w => ⟨0, Tryd.sizeOf22 w⟩) fapi_Cite_1 (.tmp rfl)) ?_
            refine WL.run rfl rfl rfl rfl hb47 rfl rfl (Op1.load ty22 (.tmp rfl)) ?_
            obtain ⟨v10, hv49, hm⟩ := bind_some hm
            refine WL.run rfl rfl rfl rfl hb47 rfl rfl (Op1.slcLo hv49 Tryd.underlying22 Tryd.sizeOf50 (.tmp rfl) .i64) ?_
            obtain ⟨steps, hv50, hm⟩ := bind_some hm
            refine WL.run rfl rfl rfl rfl hb47 rfl rfl (Op1.call Tryd.call32 (r20_steps_spec _ _ _ hv50) ⟨(.tmp rfl), trivial⟩) ?_
            refine WL.op rfl (.pickT (.tmp rfl) hb47 (.tmp rfl)) ?_
            refine WL.gv rfl rfl ?_
            refine WL.ns ?_
            cases hm
            exact W.ret1 () rfl (.tmp rfl) trivial
           ·have hp48 := ne_of_false hb47
            rw [if_neg hp48] at hm
            iterate 4 refine WL.pass rfl rfl rfl rfl hb47 rfl rfl ?_
            refine WL.op rfl (.pickF (.tmp rfl) hb47 .bool) ?_
            refine WL.gv rfl rfl ?_
            refine WL.ns ?_
            cases hm
            exact W.ret1 () rfl (.tmp rfl) trivial
          ·have hp45 := of_decide_eq_false hb44
           rw [if_neg hp45] at hm
           iterate 6 refine WL.pass rfl rfl rfl rfl hb44 rfl rfl ?_
           refine WL.op rfl (.pickF (.tmp rfl) hb44 .bool) ?_
           refine WL.mv rfl rfl ?_
           iterate 4 refine WL.pass rfl rfl rfl rfl rfl rfl rfl ?_
           refine WL.op rfl (.pickF (.tmp rfl) rfl .bool) ?_
           refine WL.gv rfl rfl ?_
           refine WL.ns ?_
           cases hm
           exact W.ret1 () rfl (.tmp rfl) trivial
         ·have hp42 := of_decide_eq_false hb41
          rw [if_neg hp42] at hm
          iterate 6 refine WL.pass rfl rfl rfl rfl hb41 rfl rfl ?_
          refine WL.op rfl (.pickF (.tmp rfl) hb41 .bool) ?_
          refine WL.mv rfl rfl ?_
          iterate 6 refine WL.pass rfl rfl rfl rfl rfl rfl rfl ?_
          refine WL.op rfl (.pickF (.tmp rfl) rfl .bool) ?_
          refine WL.mv rfl rfl ?_
          iterate 4 refine WL.pass rfl rfl rfl rfl rfl rfl rfl ?_
          refine WL.op rfl (.pickF (.tmp rfl) rfl .bool) ?_
          refine WL.gv rfl rfl ?_
          refine WL.ns ?_
          cases hm
          exact W.ret1 () rfl (.tmp rfl) trivial
        ·have hp39 := ne_of_false hb38
         rw [if_neg hp39] at hm
         iterate 6 refine WL.pass rfl rfl rfl rfl hb38 rfl rfl ?_
         refine WL.op rfl (.pickF (.tmp rfl) hb38 .bool) ?_
         refine WL.mv rfl rfl ?_
         iterate 6 refine WL.pass rfl rfl rfl rfl rfl rfl rfl ?_
         refine WL.op rfl (.pickF (.tmp rfl) rfl .bool) ?_
         refine WL.mv rfl rfl ?_
         iterate 6 refine WL.pass rfl rfl rfl rfl rfl rfl rfl ?_
         refine WL.op rfl (.pickF (.tmp rfl) rfl .bool) ?_
         refine WL.mv rfl rfl ?_
         iterate 4 refine WL.pass rfl rfl rfl rfl rfl rfl rfl ?_
         refine WL.op rfl (.pickF (.tmp rfl) rfl .bool) ?_
         refine WL.gv rfl rfl ?_
         refine WL.ns ?_
         cases hm
         exact W.ret1 () rfl (.tmp rfl) trivial
       ·have hp37 := ne_of_false hc36
        rw [if_neg hp37] at hm
        refine W.skip ?_
        refine WN.block ?_
        refine WN.seq ?_
        refine W.sr ?_
        refine WL.op rfl (.assign .bool) ?_
        refine WL.ns ?_
        cases hm
        exact W.ret1 () rfl (.tmp rfl) trivial
      ·have hm := hs32
       clear hs32
       refine W.sr ?_
       refine WL.op rfl (.eqI (.tmp rfl) .i64) ?_
       refine WL.gv rfl rfl ?_
       refine WL.ns ?_
       refine W.cond (.tmp rfl) (fun hc34 => ?_) (fun hc34 => ?_)
       ·have hp35 := of_decide_eq_true hc34
        rw [if_pos hp35] at hm
        refine W.skip ?_
        exact WN.meet (decide (c.Kind = (2 : Int))) (Option.some.inj hm) ⟨Ent.q rfl, Ent.q rfl, trivial⟩ trivial
       ·have hp35 := of_decide_eq_false hc34
        rw [if_neg hp35] at hm
        refine W.region ?_
        refine WL.op rfl (.eqI (.tmp rfl) .i64) ?_
        refine WL.gv rfl rfl ?_
        refine WL.nil ?_
        exact WN.meet (decide (c.Kind = (3 : Int))) (Option.some.inj hm) ⟨Ent.q rfl, Ent.q rfl, trivial⟩ trivial
   ·have hm := hs9
    clear hs9
    refine W.sr ?_
    refine WL.op rfl (.eqI (.tmp rfl) .i64) ?_
    refine WL.gv rfl rfl ?_
    refine WL.ns ?_
    refine W.cond (.tmp rfl) (fun hc11 => ?_) (fun hc11 => ?_)
    ·have hp12 := of_decide_eq_true hc11
     rw [if_pos hp12] at hm
     refine W.skip ?_
     exact WN.meet (decide (c.Kind = (0 : Int))) (Option.some.inj hm) ⟨Ent.q rfl, Ent.q rfl, Ent.q rfl, trivial⟩ trivial
    ·have hp12 := of_decide_eq_false hc11
     rw [if_neg hp12] at hm
     refine W.region ?_
     refine WL.op rfl (.eqI (.tmp rfl) .i64) ?_
     refine WL.gv rfl rfl ?_
     refine WL.nil ?_
     exact WN.meet (decide (c.Kind = (4 : Int))) (Option.some.inj hm) ⟨Ent.q rfl, Ent.q rfl, Ent.q rfl, trivial⟩ trivial
 ·have hm := hs2
  clear hs2
  refine W.region ?_
  refine WL.op rfl (.fieldAddr Tryd.underlying24 rfl (fun w => ⟨0, Tryd.sizeOf22 w⟩) fapi_Cite_1 (.tmp rfl)) ?_
  refine WL.op rfl (.load ty22 (.tmp rfl)) ?_
  refine WL.op rfl (.lenL Tryd.underlying22 (.tmp rfl)) ?_
  refine WL.op rfl (.gtI (.tmp rfl) .i64) ?_
  refine WL.mv rfl rfl ?_
  rcases bcases (decide ((9 : Int) < (c.Path.length : Int))) with hb4 | hb4
  ·have hp5 := of_decide_eq_true hb4
   rw [if_pos hp5] at hm
   iterate 4 refine WL.pass rfl rfl rfl rfl hb4 rfl rfl ?_
   refine WL.op rfl (.pickT (.tmp rfl) hb4 .bool) ?_
   refine WL.nil ?_
   exact WN.meet true (Option.some.inj hm) ⟨Ent.q rfl, Ent.q rfl, trivial⟩ trivial
  ·have hp5 := of_decide_eq_false hb4
   rw [if_neg hp5] at hm
   refine WL.run rfl rfl rfl rfl hb4 rfl rfl (Op1.fieldAddr Tryd.underlying24 rfl (fun w => ⟨0, Tryd.sizeOf22 w⟩) fapi_Cite_1 (.tmp rfl)) ?_
   refine WL.run rfl rfl rfl rfl hb4 rfl rfl (Op1.load ty22 (.tmp rfl)) ?_
   refine WL.run rfl rfl rfl rfl hb4 rfl rfl (Op1.lenL Tryd.underlying22 (.tmp rfl)) ?_
   refine WL.run rfl rfl rfl rfl hb4 rfl rfl (Op1.eqI (.tmp rfl) .i64) ?_
   refine WL.op rfl (.pickF (.tmp rfl) hb4 (.tmp rfl)) ?_
   refine WL.nil ?_
   exact WN.meet (decide ((c.Path.length : Int) = (0 : Int))) (Option.some.inj hm) ⟨Ent.q rfl, Ent.q rfl, trivial⟩ trivial
theorem r20_Singles_spec  (r : (List Str)) (hm : M.r20_Singles  = some r) : FSpec Tryd.prog 33 [] ((tL tS).is r) := by
 unfold M.r20_Singles at hm
 refine FSpec.of Tryd.func33 rfl rfl rfl (fun g0 => ?_)
 refine W.sr ?_
 refine WL.op rfl (.assign (.nil (t := tS))) ?_
 refine WL.nr ?_
 refine WL.op rfl (.buildSlice (n := 7) (ys := [(0, ([112, 97, 114, 116] : Str)), (1, ([115, 101, 99, 116, 105, 111, 110] : Str)), (2, ([112, 97, 114, 97, 103, 114, 97, 112, 104] : Str)), (3, ([116, 97, 98, 108, 101] : Str)), (4, ([114, 111, 119] : Str)), (5, ([99, 101, 108, 108] : Str)), (6, ([110, 111, 116, 101] : Str))]) (z := ([] : Str)) (xs := [([112, 97, 114, 116] : Str), ([115, 101, 99, 116, 105, 111, 110] : Str), ([112, 97, 114, 97, 103, 114, 97, 112, 104] : Str), ([116, 97, 98, 108, 101] : Str), ([114, 111, 119] : Str), ([99, 101, 108, 108] : Str), ([110, 111, 116, 101] : Str)]) Tryd.underlying28 el9 ze9 ⟨rfl, (.str rfl (by decide)), rfl, (.str rfl (by decide)), rfl, (.str rfl (by decide)), rfl, (.str rfl (by decide)), rfl, (.str rfl (by decide)), rfl, (.str rfl (by decide)), rfl, (.str rfl (by decide)), trivial⟩ (by simp) (by decide) rfl) ?_
 refine WL.gv rfl rfl ?_
 refine WL.ns ?_
 cases hm
 exact W.ret1 () rfl (.tmp rfl) trivial
theorem r20_Words_spec (n : Nat) (c : api_Cite) (r : (List Str)) (hm : M.r20_Words n c = some r) : FSpec Tryd.prog 14 [(tapi_Cite.is c)] ((tL tS).is r) := by
 unfold M.r20_Words at hm
 refine FSpec.of Tryd.func14 rfl rfl rfl (fun g0 => ?_)
 refine W.sr ?_
 refine WL.op rfl (.box (.tmp rfl)) ?_
 refine WL.op rfl (.assign (.nil (t := tS))) ?_
 refine WL.nr ?_
 refine WL.opR rfl (OpR.buildSlice (n := 0) (ys := []) (z := ([] : Str)) (xs := ([] : List Str)) 6 Tryd.underlying28 el9 ze9 trivial (by simp) (by decide) rfl) (fun k => ?_)
 refine WL.gv rfl rfl ?_
 refine WL.ns ?_
 obtain ⟨s1, hs2, hk3⟩ := bind_some hm
 clear hm
 refine W.join (fun s : ((List Str)) × Tok => s.1 = s1) (fun s => [(3, (tO tS s.2 s.1)), (1, (tapi_Cite.ptr c))]) (fun s => [(6, Dec.Own tS 9 s.2 s.1.length)]) ?_ ?_
 ·rintro ⟨out, k1⟩ hj48
  try dsimp only at hj48
  subst hj48
  have hm := hk3
  clear hk3
  try dsimp only at hm
  change W _ _ _ _ _ _ _ [(3, (tO tS k1 out)), (1, (tapi_Cite.ptr c))] [(6, Dec.Own tS 9 k1 out.length)]
  refine W.seq ?_
  refine W.sr ?_
  refine WL.op rfl (.assign .i64) ?_
  refine WL.ns ?_
  refine W.block ?_
  obtain ⟨s13, hs14, hk15⟩ := bind_some hm
  clear hm
  refine W.loop (fun m (s : ((List Str) × Int) × Tok) => M.r20_Words_loop1 c m s.1.1 s.1.2 = some s13) (fun s => [(3, (tO tS s.2 s.1.1)), (4, ((tI .i64).is s.1.2)), (1, (tapi_Cite.ptr c))]) (fun s => [(6, Dec.Own tS 9 s.2 s.1.1.length)]) _ ((out, (0 : Int)), k1) hs14 ⟨Ent.q rfl, Ent.q rfl, Ent.q rfl, trivial⟩ ⟨rfl, rfl, trivial⟩ ?_
  rintro n16 ⟨⟨out4, i⟩, k5⟩ hm
  try dsimp only at hm
  change W _ _ _ _ _ _ _ [(3, (tO tS k5 out4)), (4, ((tI .i64).is i)), (1, (tapi_Cite.ptr c))] [(6, Dec.Own tS 9 k5 out4.length)]
  cases n16 with
  | zero => rw [M.r20_Words_loop1.eq_1] at hm; cases hm
  | succ n16 =>
   rw [M.r20_Words_loop1.eq_2] at hm
   refine W.seq ?_
   refine W.sr ?_
   refine WL.mv rfl rfl ?_
   refine WL.op rfl (.fieldAddr Tryd.underlying24 rfl (fun w => ⟨0, Tryd.sizeOf22 w⟩) fapi_Cite_1 (.tmp rfl)) ?_
   refine WL.op rfl (.load ty22 (.tmp rfl)) ?_
   refine WL.op rfl (.lenL Tryd.underlying22 (.tmp rfl)) ?_
   refine WL.op rfl (.ltI (.tmp rfl) (.tmp rfl)) ?_
   refine WL.ns ?_
   refine W.cond (.tmp rfl) (fun hc17 => ?_) (fun hc17 => ?_)
   ·have hp18 := of_decide_eq_true hc17
    rw [if_pos hp18] at hm
    refine W.skip ?_
    refine WN.seq ?_
    refine W.seq ?_
    refine W.block ?_
    refine W.sr ?_
    refine WL.op rfl (.fieldAddr Tryd.underlying24 rfl (fun w => ⟨0, Tryd.sizeOf22 w⟩) fapi_Cite_1 (.tmp rfl)) ?_
    refine WL.op rfl (.load ty22 (.tmp rfl)) ?_
    refine WL.mv rfl rfl ?_
    obtain ⟨v, hv19, hm⟩ := bind_some hm
    refine WL.op rfl (.idx hv19 Tryd.underlying22 Tryd.sizeOf50 (.tmp rfl) (.tmp rfl)) ?_
    refine WL.op rfl (.load ty50 (.tmp rfl)) ?_
    refine WL.opR rfl (OpR.alloc 5 ze50) (fun b => ?_)
    refine WL.opU (OpR.storeB (b := b) 5 Tryd.sizeOf50 (Cellable.is tapi_Step v) rfl (.tmp rfl) (.tmp rfl)) (fun _ => ?_)
    refine WL.sealed (t := tapi_Step) (u := v) 5 5 rfl rfl ?_
    refine WL.ns ?_
    refine W.seq ?_
    refine W.sr ?_
    refine WL.op rfl (.fieldAddr Tryd.underlying50 rfl (fun w => ⟨0, Tryd.sizeOf3 w⟩) fapi_Step_0 (.tmp rfl)) ?_
    refine WL.op rfl (.load ty3 (.tmp rfl)) ?_
    refine WL.op rfl (.eqI (.tmp rfl) .i64) ?_
    refine WL.ns ?_
    refine W.cond (.tmp rfl) (fun hc20 => ?_) (fun hc20 => ?_)
    ·have hp21 := of_decide_eq_true hc20
     rw [if_pos hp21] at hm
     refine W.sr ?_
     refine WL.mv rfl rfl ?_
     refine WL.op rfl (.buildSlice (n := 1) (ys := [(0, ([98, 111, 111, 107] : Str))]) (z := ([] : Str)) (xs := [([98, 111, 111, 107] : Str)]) Tryd.underlying28 el9 ze9 ⟨rfl, (.str rfl (by decide)), trivial⟩ (by simp) (by decide) rfl) ?_
     obtain ⟨out5, hv22, hm⟩ := bind_some hm
     refine WL.opR rfl (OpR.appC (key := 6) hv22 Tryd.underlying28 el9 (.tmp rfl) (.tmp rfl) rfl) (fun k6 => ?_)
     refine WL.gv rfl rfl ?_
     refine WL.ns ?_
     refine W.exit rfl ?_
     refine WN.seq ?_
     refine W.region ?_
     refine WL.mv rfl rfl ?_
     refine WL.lenL (s := 26) (.tmp rfl) fun hl23 => ?_
     refine WL.op rfl (.addI1 (.tmp rfl) .i64 hp18 hl23) ?_
     refine WL.gv rfl rfl ?_
     refine WL.nil ?_
     exact WN.again n16 ((out5, i + 1), k6) (Nat.lt_succ_self n16) hm ⟨Ent.q rfl, Ent.q rfl, Ent.q rfl, trivial⟩ ⟨rfl, rfl, trivial⟩
    ·have hp21 := of_decide_eq_false hc20
     rw [if_neg hp21] at hm
     refine W.skip ?_
     refine WN.seq ?_
     refine W.seq ?_
     obtain ⟨s24, hs25, hk26⟩ := bind_some hm
     clear hm
     refine W.join (fun s : Bool => s = s24) (fun s => [(52, (tB.is s)), (1, (tapi_Cite.ptr c)), (3, (tO tS k5 out4)), (4, ((tI .i64).is i)), (5, (tapi_Step.ptr v))]) (fun s => [(6, Dec.Own tS 9 k5 out4.length)]) ?_ ?_
     ·rintro v1 hj46
      try dsimp only at hj46
      subst hj46
      have hm := hk26
      clear hk26
      try dsimp only at hm
      change W _ _ _ _ _ _ _ [(52, (tB.is v1)), (1, (tapi_Cite.ptr c)), (3, (tO tS k5 out4)), (4, ((tI .i64).is i)), (5, (tapi_Step.ptr v))] [(6, Dec.Own tS 9 k5 out4.length)]
      refine W.cond (.tmp rfl) (fun hc30 => ?_) (fun hc30 => ?_)
      ·have hp31 := hc30
       rw [if_pos hp31] at hm
       refine W.seq ?_
       obtain ⟨plural, hv32, hm⟩ := bind_some hm
       obtain ⟨v3, hv33, hm⟩ := bind_some hm
       obtain ⟨v4, hv34, hm⟩ := bind_some hm
       obtain ⟨out6, hv35, hm⟩ := bind_some hm
       refine W.drawR [.c (tO tS k5 out4), .c ((tL tS).is plural), .c ((tI .i64).ptr v.Kind), .c ((tI .i64).is v.Kind), .c ((tI .i64).is v3), .c (tS.ptr v4), .c (tS.is v4), .c (tS.ptr v.Label), .c (tS.is v.Label), .c (tS.ptr c.To), .c (tS.is c.To), .c ((tL tS).is ([v4, v.Label, ([116, 111] : Str), c.To])), .f (fun k7 => (tO tS k7 out6)), .f (fun k7 => (tO tS k7 out6))] [([], [3]), ([], []), ([], [5]), ([2], []), ([3], []), ([1, 4], []), ([5], []), ([], [5]), ([7], []), ([], [1]), ([9], []), ([6, 8, 10], []), ([0, 11], []), ([12], [])] 12 [6] (fun k : Tok => tO tS k out6) (fun k : Tok => [(6, Dec.Own tS 9 k out6.length)]) (none : Tok) Tryd.mixed rfl rfl rfl (fun k7 => ⟨.inr (Op1.move (.tmp rfl)), .inr (Op1.call Tryd.call31 (r20_Plurals_spec _ hv32) trivial), .inr (Op1.fieldAddr Tryd.underlying50 rfl (fun w => ⟨0, Tryd.sizeOf3 w⟩) fapi_Step_0 (.tmp rfl)), .inr (Op1.load ty3 (.tmp rfl)), .inr (Op1.subC hv33 (.tmp rfl) .i64), .inr (Op1.idx hv34 Tryd.underlying28 Tryd.sizeOf9 (.tmp rfl) (.tmp rfl)), .inr (Op1.load ty9 (.tmp rfl)), .inr (Op1.fieldAddr Tryd.underlying50 rfl (fun w => ⟨0, Tryd.sizeOf9 w⟩) fapi_Step_1 (.tmp rfl)), .inr (Op1.load ty9 (.tmp rfl)), .inr (Op1.fieldAddr Tryd.underlying24 rfl (fun w => ⟨0, Tryd.sizeOf9 w⟩) fapi_Cite_2 (.tmp rfl)), .inr (Op1.load ty9 (.tmp rfl)), .inr (Op1.buildSlice (n := 4) (ys := [(0, v4), (1, v.Label), (2, ([116, 111] : Str)), (3, c.To)]) (z := ([] : Str)) (xs := [v4, v.Label, ([116, 111] : Str), c.To]) Tryd.underlying28 el9 ze9 ⟨rfl, (.tmp rfl), rfl, (.tmp rfl), rfl, (.str rfl (by decide)), rfl, (.tmp rfl), trivial⟩ (by simp) (by decide) rfl), .inl rfl, .inr (Op1.assign (.tmp rfl)), trivial⟩) (.inl ⟨by decide, _, _, rfl, rfl, rfl, rfl, OpR.appC (key := 6) hv35 Tryd.underlying28 el9 (.tmp rfl) (.tmp rfl) rfl⟩) (fun k7 => ?_)
       refine WN.seq ?_
       refine W.exit rfl ?_
       refine WN.seq ?_
       refine W.region ?_
       refine WL.mv rfl rfl ?_
       obtain ⟨v5, hv36, hm⟩ := bind_some hm
       refine WL.op rfl (.addC hv36 (.tmp rfl) .i64) ?_
       refine WL.gv rfl rfl ?_
       refine WL.nil ?_
       exact WN.again n16 ((out6, v5), k7) (Nat.lt_succ_self n16) hm ⟨Ent.q rfl, Ent.q rfl, Ent.q rfl, trivial⟩ ⟨rfl, rfl, trivial⟩
      ·have hp31 := ne_of_false hc30
       rw [if_neg hp31] at hm
       refine W.skip ?_
       refine WN.seq ?_
       refine W.seq ?_
       obtain ⟨single, hv37, hm⟩ := bind_some hm
       obtain ⟨v6, hv38, hm⟩ := bind_some hm
       obtain ⟨v7, hv39, hm⟩ := bind_some hm
       obtain ⟨out7, hv40, hm⟩ := bind_some hm
       refine W.drawR [.c (tO tS k5 out4), .c ((tL tS).is single), .c ((tI .i64).ptr v.Kind), .c ((tI .i64).is v.Kind), .c ((tI .i64).is v6), .c (tS.ptr v7), .c (tS.is v7), .c ((tL tS).is [v7]), .f (fun k8 => (tO tS k8 out7)), .f (fun k8 => (tO tS k8 out7))] [([], [3]), ([], []), ([], [5]), ([2], []), ([3], []), ([1, 4], []), ([5], []), ([6], []), ([0, 7], []), ([8], [])] 8 [6] (fun k : Tok => tO tS k out7) (fun k : Tok => [(6, Dec.Own tS 9 k out7.length)]) (none : Tok) Tryd.mixed rfl rfl rfl (fun k8 => ⟨.inr (Op1.move (.tmp rfl)), .inr (Op1.call Tryd.call33 (r20_Singles_spec _ hv37) trivial), .inr (Op1.fieldAddr Tryd.underlying50 rfl (fun w => ⟨0, Tryd.sizeOf3 w⟩) fapi_Step_0 (.tmp rfl)), .inr (Op1.load ty3 (.tmp rfl)), .inr (Op1.subC hv38 (.tmp rfl) .i64), .inr (Op1.idx hv39 Tryd.underlying28 Tryd.sizeOf9 (.tmp rfl) (.tmp rfl)), .inr (Op1.load ty9 (.tmp rfl)), .inr (Op1.buildSlice (n := 1) (ys := [(0, v7)]) (z := ([] : Str)) (xs := [v7]) Tryd.underlying28 el9 ze9 ⟨rfl, (.tmp rfl), trivial⟩ (by simp) (by decide) rfl), .inl rfl, .inr (Op1.assign (.tmp rfl)), trivial⟩) (.inl ⟨by decide, _, _, rfl, rfl, rfl, rfl, OpR.appC (key := 6) hv40 Tryd.underlying28 el9 (.tmp rfl) (.tmp rfl) rfl⟩) (fun k8 => ?_)
       refine WN.seq ?_
       refine W.sr ?_
       refine WL.op rfl (.fieldAddr Tryd.underlying50 rfl (fun w => ⟨0, Tryd.sizeOf9 w⟩) fapi_Step_1 (.tmp rfl)) ?_
       refine WL.op rfl (.load ty9 (.tmp rfl)) ?_
       refine WL.op rfl (.neS (.tmp rfl) (.str rfl (by decide))) ?_
       refine WL.ns ?_
       refine W.cond (.tmp rfl) (fun hc41 => ?_) (fun hc41 => ?_)
       ·have hp42 := hc41
        rw [if_pos hp42] at hm
        refine W.region ?_
        refine WL.mv rfl rfl ?_
        refine WL.op rfl (.fieldAddr Tryd.underlying50 rfl (fun w => ⟨0, Tryd.sizeOf9 w⟩) fapi_Step_1 (.tmp rfl)) ?_
        refine WL.op rfl (.load ty9 (.tmp rfl)) ?_
        refine WL.op rfl (.buildSlice (n := 1) (ys := [(0, v.Label)]) (z := ([] : Str)) (xs := [v.Label]) Tryd.underlying28 el9 ze9 ⟨rfl, (.tmp rfl), trivial⟩ (by simp) (by decide) rfl) ?_
        obtain ⟨out8, hv43, hm⟩ := bind_some hm
        refine WL.opR rfl (OpR.appC (key := 6) hv43 Tryd.underlying28 el9 (.tmp rfl) (.tmp rfl) rfl) (fun k9 => ?_)
        refine WL.gv rfl rfl ?_
        refine WL.nil ?_
        refine WN.block ?_
        refine WN.seq ?_
        refine W.region ?_
        refine WL.mv rfl rfl ?_
        obtain ⟨v8, hv44, hm⟩ := bind_some hm
        refine WL.op rfl (.addC hv44 (.tmp rfl) .i64) ?_
        refine WL.gv rfl rfl ?_
        refine WL.nil ?_
        exact WN.again n16 ((out8, v8), k9) (Nat.lt_succ_self n16) hm ⟨Ent.q rfl, Ent.q rfl, Ent.q rfl, trivial⟩ ⟨rfl, rfl, trivial⟩
       ·have hp42 := ne_of_false hc41
        rw [if_neg hp42] at hm
        refine W.skip ?_
        refine WN.block ?_
        refine WN.seq ?_
        refine W.region ?_
        refine WL.mv rfl rfl ?_
        obtain ⟨v9, hv45, hm⟩ := bind_some hm
        refine WL.op rfl (.addC hv45 (.tmp rfl) .i64) ?_
        refine WL.gv rfl rfl ?_
        refine WL.nil ?_
        exact WN.again n16 ((out7, v9), k8) (Nat.lt_succ_self n16) hm ⟨Ent.q rfl, Ent.q rfl, Ent.q rfl, trivial⟩ ⟨rfl, rfl, trivial⟩
     ·have hm := hs25
      clear hs25
      refine W.region ?_
      refine WL.op rfl (.fieldAddr Tryd.underlying24 rfl (fun w => ⟨0, Tryd.sizeOf3 w⟩) fapi_Cite_0 (.tmp rfl)) ?_
      refine WL.op rfl (.load ty3 (.tmp rfl)) ?_
      refine WL.op rfl (.eqI (.tmp rfl) .i64) ?_
      refine WL.mv rfl rfl ?_
      rcases bcases (decide (c.Kind = (1 : Int))) with hb27 | hb27
      ·have hp28 := of_decide_eq_true hb27
       rw [if_pos hp28] at hm
       refine WL.run rfl rfl rfl rfl hb27 rfl rfl (Op1.move (.tmp rfl)) ?_
       refine WL.run rfl rfl rfl rfl hb27 rfl rfl (Op1.fieldAddr Tryd.underlying24 rfl (fun w => ⟨0, Tryd.sizeOf22 w⟩) fapi_Cite_1 (.tmp rfl)) ?_
       refine WL.run rfl rfl rfl rfl hb27 rfl rfl (Op1.load ty22 (.tmp rfl)) ?_
       refine WL.run rfl rfl rfl rfl hb27 rfl rfl (Op1.lenL Tryd.underlying22 (.tmp rfl)) ?_
       obtain ⟨v2, hv29, hm⟩ := bind_some hm
       refine WL.run rfl rfl rfl rfl hb27 rfl rfl (Op1.subC hv29 (.tmp rfl) .i64) ?_
       refine WL.run rfl rfl rfl rfl hb27 rfl rfl (Op1.eqI (.tmp rfl) (.tmp rfl)) ?_
       refine WL.op rfl (.pickT (.tmp rfl) hb27 (.tmp rfl)) ?_
       refine WL.nil ?_
       exact WN.meet (decide (i = v2)) (Option.some.inj hm) ⟨Ent.q rfl, Ent.q rfl, Ent.q rfl, Ent.q rfl, Ent.q rfl, trivial⟩ ⟨rfl, rfl, trivial⟩
      ·have hp28 := of_decide_eq_false hb27
       rw [if_neg hp28] at hm
       iterate 6 refine WL.pass rfl rfl rfl rfl hb27 rfl rfl ?_
       refine WL.op rfl (.pickF (.tmp rfl) hb27 .bool) ?_
       refine WL.nil ?_
       exact WN.meet false (Option.some.inj hm) ⟨Ent.q rfl, Ent.q rfl, Ent.q rfl, Ent.q rfl, Ent.q rfl, trivial⟩ ⟨rfl, rfl, trivial⟩
   ·have hp18 := of_decide_eq_false hc17
    rw [if_neg hp18] at hm
    refine W.exit rfl ?_
    have hr47 := Option.some.inj hm
    clear hm
    subst hr47
    have hm := hk15
    try dsimp only at hm
    refine WN.seq ?_
    refine W.sr ?_
    refine WL.mv rfl rfl ?_
    refine WL.gv rfl rfl ?_
    refine WL.ns ?_
    cases hm
    exact W.ret1 () rfl (Opd.own (.tmp rfl)) trivial
 ·have hm := hs2
  clear hs2
  refine W.sr ?_
  refine WL.op rfl (.fieldAddr Tryd.underlying24 rfl (fun w => ⟨0, Tryd.sizeOf3 w⟩) fapi_Cite_0 (.tmp rfl)) ?_
  refine WL.op rfl (.load ty3 (.tmp rfl)) ?_
  refine WL.ns ?_
  refine W.block ?_
  refine W.sr ?_
  refine WL.op rfl (.eqI (.tmp rfl) .i64) ?_
  refine WL.gv rfl rfl ?_
  refine WL.ns ?_
  refine W.cond (.tmp rfl) (fun hc4 => ?_) (fun hc4 => ?_)
  ·have hp5 := of_decide_eq_true hc4
   rw [if_pos hp5] at hm
   refine W.region ?_
   refine WL.mv rfl rfl ?_
   refine WL.op rfl (.buildSlice (n := 1) (ys := [(0, ([116, 104, 105, 115] : Str))]) (z := ([] : Str)) (xs := [([116, 104, 105, 115] : Str)]) Tryd.underlying28 el9 ze9 ⟨rfl, (.str rfl (by decide)), trivial⟩ (by simp) (by decide) rfl) ?_
   obtain ⟨out1, hv6, hm⟩ := bind_some hm
   refine WL.opR rfl (OpR.appC (key := 6) hv6 Tryd.underlying28 el9 (.tmp rfl) (.tmp rfl) rfl) (fun k2 => ?_)
   refine WL.gv rfl rfl ?_
   refine WL.nil ?_
   refine WN.block ?_
   exact WN.meet (out1, k2) (Option.some.inj hm) ⟨Ent.q rfl, Ent.q rfl, trivial⟩ ⟨rfl, rfl, trivial⟩
  ·have hp5 := of_decide_eq_false hc4
   rw [if_neg hp5] at hm
   refine W.sr ?_
   refine WL.op rfl (.eqI (.tmp rfl) .i64) ?_
   refine WL.gv rfl rfl ?_
   refine WL.ns ?_
   refine W.cond (.tmp rfl) (fun hc7 => ?_) (fun hc7 => ?_)
   ·have hp8 := of_decide_eq_true hc7
    rw [if_pos hp8] at hm
    refine W.region ?_
    refine WL.mv rfl rfl ?_
    refine WL.op rfl (.buildSlice (n := 2) (ys := [(0, ([116, 104, 101] : Str)), (1, ([115, 97, 105, 100] : Str))]) (z := ([] : Str)) (xs := [([116, 104, 101] : Str), ([115, 97, 105, 100] : Str)]) Tryd.underlying28 el9 ze9 ⟨rfl, (.str rfl (by decide)), rfl, (.str rfl (by decide)), trivial⟩ (by simp) (by decide) rfl) ?_
    obtain ⟨out2, hv9, hm⟩ := bind_some hm
    refine WL.opR rfl (OpR.appC (key := 6) hv9 Tryd.underlying28 el9 (.tmp rfl) (.tmp rfl) rfl) (fun k3 => ?_)
    refine WL.gv rfl rfl ?_
    refine WL.nil ?_
    refine WN.block ?_
    exact WN.meet (out2, k3) (Option.some.inj hm) ⟨Ent.q rfl, Ent.q rfl, trivial⟩ ⟨rfl, rfl, trivial⟩
   ·have hp8 := of_decide_eq_false hc7
    rw [if_neg hp8] at hm
    refine W.sr ?_
    refine WL.op rfl (.eqI (.tmp rfl) .i64) ?_
    refine WL.gv rfl rfl ?_
    refine WL.ns ?_
    refine W.cond (.tmp rfl) (fun hc10 => ?_) (fun hc10 => ?_)
    ·have hp11 := of_decide_eq_true hc10
     rw [if_pos hp11] at hm
     refine W.region ?_
     refine WL.mv rfl rfl ?_
     refine WL.op rfl (.buildSlice (n := 1) (ys := [(0, ([102, 111, 114, 109, 101, 114, 108, 121] : Str))]) (z := ([] : Str)) (xs := [([102, 111, 114, 109, 101, 114, 108, 121] : Str)]) Tryd.underlying28 el9 ze9 ⟨rfl, (.str rfl (by decide)), trivial⟩ (by simp) (by decide) rfl) ?_
     obtain ⟨out3, hv12, hm⟩ := bind_some hm
     refine WL.opR rfl (OpR.appC (key := 6) hv12 Tryd.underlying28 el9 (.tmp rfl) (.tmp rfl) rfl) (fun k4 => ?_)
     refine WL.gv rfl rfl ?_
     refine WL.nil ?_
     refine WN.block ?_
     exact WN.meet (out3, k4) (Option.some.inj hm) ⟨Ent.q rfl, Ent.q rfl, trivial⟩ ⟨rfl, rfl, trivial⟩
    ·have hp11 := of_decide_eq_false hc10
     rw [if_neg hp11] at hm
     refine W.skip ?_
     refine WN.block ?_
     exact WN.meet (([] : List Str), k) (Option.some.inj hm) ⟨Ent.q rfl, Ent.q rfl, trivial⟩ ⟨rfl, rfl, trivial⟩
theorem r04_Text_spec (n : Nat) (l : List Str) (r : Str) (hm : M.r04_Text n l = some r) : FSpec Tryd.prog 13 [((tL tS).is l)] (tS.is r) := by
 unfold M.r04_Text at hm
 refine FSpec.of Tryd.func13 rfl rfl rfl (fun g0 => ?_)
 refine W.sr ?_
 refine WL.op rfl (.assign (.str rfl (by decide))) ?_
 refine WL.nr ?_
 refine WL.op rfl (.assign (.str rfl (by decide))) ?_
 refine WL.ns ?_
 refine W.seq ?_
 refine W.sr ?_
 refine WL.op rfl (.assign .i64) ?_
 refine WL.ns ?_
 refine W.block ?_
 obtain ⟨s1, hs2, hk3⟩ := bind_some hm
 clear hm
 refine W.loop (fun m (s : Str × Int) => M.r04_Text_loop1 l m s.1 s.2 = some s1) (fun s => [(3, (tS.is s.1)), (4, ((tI .i64).is s.2)), (0, ((tL tS).is l))]) (fun s => []) _ (([] : Str), (0 : Int)) hs2 ⟨Ent.q rfl, Ent.q rfl, Ent.q rfl, trivial⟩ trivial ?_
 rintro n4 ⟨s0_, i⟩ hm
 try dsimp only at hm
 change W _ _ _ _ _ _ _ [(3, (tS.is s0_)), (4, ((tI .i64).is i)), (0, ((tL tS).is l))] []
 cases n4 with
 | zero => rw [M.r04_Text_loop1.eq_1] at hm; cases hm
 | succ n4 =>
  rw [M.r04_Text_loop1.eq_2] at hm
  refine W.seq ?_
  refine W.sr ?_
  refine WL.mv rfl rfl ?_
  refine WL.mv rfl rfl ?_
  refine WL.op rfl (.lenL Tryd.underlying28 (.tmp rfl)) ?_
  refine WL.op rfl (.ltI (.tmp rfl) (.tmp rfl)) ?_
  refine WL.ns ?_
  refine W.cond (.tmp rfl) (fun hc5 => ?_) (fun hc5 => ?_)
  ·have hp6 := of_decide_eq_true hc5
   rw [if_pos hp6] at hm
   refine W.skip ?_
   refine WN.seq ?_
   refine W.seq ?_
   refine W.block ?_
   obtain ⟨s7, hs8, hk9⟩ := bind_some hm
   clear hm
   refine W.join (fun s : Str => s = s7) (fun s => [(3, (tS.is s)), (0, ((tL tS).is l)), (4, ((tI .i64).is i))]) (fun s => []) ?_ ?_
   ·rintro s0_1 hj16
    try dsimp only at hj16
    subst hj16
    have hm := hk9
    clear hk9
    try dsimp only at hm
    change W _ _ _ _ _ _ _ [(3, (tS.is s0_1)), (0, ((tL tS).is l)), (4, ((tI .i64).is i))] []
    refine W.region ?_
    refine WL.mv rfl rfl ?_
    refine WL.mv rfl rfl ?_
    refine WL.mv rfl rfl ?_
    obtain ⟨v1, hv13, hm⟩ := bind_some hm
    refine WL.op rfl (.idx hv13 Tryd.underlying28 Tryd.sizeOf9 (.tmp rfl) (.tmp rfl)) ?_
    refine WL.op rfl (.load ty9 (.tmp rfl)) ?_
    obtain ⟨v2, hv14, hm⟩ := bind_some hm
    refine WL.op rfl (.catC hv14 (.tmp rfl) (.tmp rfl)) ?_
    refine WL.gv rfl rfl ?_
    refine WL.nil ?_
    refine WN.block ?_
    refine WN.seq ?_
    refine W.region ?_
    refine WL.mv rfl rfl ?_
    refine WL.lenL (s := 0) (.tmp rfl) fun hl15 => ?_
    refine WL.op rfl (.addI1 (.tmp rfl) .i64 hp6 hl15) ?_
    refine WL.gv rfl rfl ?_
    refine WL.nil ?_
    exact WN.again n4 (v2, i + 1) (Nat.lt_succ_self n4) hm ⟨Ent.q rfl, Ent.q rfl, Ent.q rfl, trivial⟩ trivial
   ·have hm := hs8
    clear hs8
    refine W.sr ?_
    refine WL.mv rfl rfl ?_
    refine WL.op rfl (.gtI (.tmp rfl) .i64) ?_
    refine WL.ns ?_
    refine W.cond (.tmp rfl) (fun hc10 => ?_) (fun hc10 => ?_)
    ·have hp11 := of_decide_eq_true hc10
     rw [if_pos hp11] at hm
     refine W.region ?_
     refine WL.mv rfl rfl ?_
     obtain ⟨v, hv12, hm⟩ := bind_some hm
     refine WL.op rfl (.catC hv12 (.tmp rfl) (.str rfl (by decide))) ?_
     refine WL.gv rfl rfl ?_
     refine WL.nil ?_
     exact WN.meet v (Option.some.inj hm) ⟨Ent.q rfl, Ent.q rfl, Ent.q rfl, trivial⟩ trivial
    ·have hp11 := of_decide_eq_false hc10
     rw [if_neg hp11] at hm
     refine W.skip ?_
     exact WN.meet s0_ (Option.some.inj hm) ⟨Ent.q rfl, Ent.q rfl, Ent.q rfl, trivial⟩ trivial
  ·have hp6 := of_decide_eq_false hc5
   rw [if_neg hp6] at hm
   refine W.exit rfl ?_
   have hr17 := Option.some.inj hm
   clear hm
   subst hr17
   have hm := hk3
   try dsimp only at hm
   refine WN.seq ?_
   refine W.sr ?_
   refine WL.mv rfl rfl ?_
   refine WL.gv rfl rfl ?_
   refine WL.ns ?_
   cases hm
   exact W.ret1 () rfl (.tmp rfl) trivial
theorem law20_long_spec (l : List Str) (r : Bool) (hm : M.law20_long l = some r) : FSpec Tryd.prog 17 [((tL tS).is l)] (tB.is r) := by
 unfold M.law20_long at hm
 refine FSpec.of Tryd.func17 rfl rfl rfl (fun g0 => ?_)
 refine W.sr ?_
 refine WL.op rfl (.assign .bool) ?_
 refine WL.nr ?_
 refine WL.op rfl (.assign .i64) ?_
 refine WL.ns ?_
 refine W.seq ?_
 refine W.sr ?_
 refine WL.mv rfl rfl ?_
 refine WL.op rfl (.lenL Tryd.underlying28 (.tmp rfl)) ?_
 refine WL.op rfl (.move .i64) ?_
 refine WL.ns ?_
 refine W.block ?_
 obtain ⟨s1, hs2, hk3⟩ := bind_some hm
 clear hm
 refine W.loop (fun m (s : Int × List Str × List Str × Int) => m = s.2.2.1.length ∧ l = s.2.1 ++ s.2.2.1 ∧ s.1 = (s.2.1.length : Int) ∧ M.law20_long_loop1 s.2.2.1 s.2.2.2 = some s1) (fun s => [(8, ((tI .i64).is s.1)), (3, ((tI .i64).is s.2.2.2)), (0, ((tL tS).is l)), (6, ((tL tS).is l)), (7, ((tI .i64).is (l.length : Int)))]) (fun s => []) l.length ((0 : Int), [], l, (0 : Int)) ⟨rfl, rfl, rfl, hs2⟩ ⟨Ent.q rfl, Ent.q rfl, Ent.q rfl, Ent.q rfl, Ent.q rfl, trivial⟩ trivial ?_
 rintro m ⟨i, pre, rest1, n0_⟩ ⟨hn7, hxs4, hi5, hm⟩
 try dsimp only at hn7 hxs4 hi5 hm
 change W _ _ _ _ _ _ _ [(8, ((tI .i64).is i)), (3, ((tI .i64).is n0_)), (0, ((tL tS).is l)), (6, ((tL tS).is l)), (7, ((tI .i64).is (l.length : Int)))] []
 refine W.lenL (s := 6) (.tmp rfl) fun hlen6 => ?_
 refine W.sr ?_
 refine WL.op rfl (.ltI (.tmp rfl) (.tmp rfl)) ?_
 refine WL.ns ?_
 refine W.seq ?_
 refine W.cond (.tmp rfl) (fun hc9 => ?_) (fun hc9 => ?_)
 ·have hp10 := of_decide_eq_true hc9
  obtain ⟨e, es, hrest12⟩ := range_more hxs4 hi5 hp10
  subst hrest12
  rw [M.law20_long_loop1.eq_2] at hm
  refine W.skip ?_
  refine WN.seq ?_
  refine W.seq ?_
  refine W.block ?_
  refine W.sr ?_
  refine WL.op rfl (.idxPre hxs4 hi5 Tryd.underlying28 Tryd.sizeOf9 (.tmp rfl) (.tmp rfl)) ?_
  refine WL.op rfl (.load ty9 (.tmp rfl)) ?_
  refine WL.gv rfl rfl ?_
  refine WL.nr1 ?_
  refine WL.mv rfl rfl ?_
  refine WL.mv rfl rfl ?_
  refine WL.op rfl (.lenS Tryd.underlying9 (.tmp rfl)) ?_
  refine WL.op rfl (.addW64 (.tmp rfl) (.tmp rfl)) ?_
  refine WL.gv rfl rfl ?_
  refine WL.nil ?_
  refine WN.block ?_
  refine WN.seq ?_
  refine W.region ?_
  refine WL.op rfl (.addI (.tmp rfl) .i64 (range_inR hi5 hp10 hlen6)) ?_
  refine WL.mv rfl rfl ?_
  refine WL.nil ?_
  exact WN.again es.length (i + 1, pre ++ [e], es, wrap64 (n0_ + (e.length : Int))) (range_lt hn7) ⟨rfl, range_step hxs4, range_idx hi5, hm⟩ ⟨Ent.q rfl, Ent.q rfl, Ent.q rfl, Ent.q rfl, Ent.q rfl, trivial⟩ trivial
 ·have hrest12 := range_end hxs4 hi5 (of_decide_eq_false hc9)
  subst hrest12
  rw [M.law20_long_loop1.eq_1] at hm
  refine W.exit rfl ?_
  have hr13 := Option.some.inj hm
  clear hm
  subst hr13
  have hm := hk3
  try dsimp only at hm
  refine WN.seq ?_
  refine W.sr ?_
  refine WL.mv rfl rfl ?_
  refine WL.op rfl (.lenL Tryd.underlying28 (.tmp rfl)) ?_
  refine WL.op rfl (.gtI (.tmp rfl) .i64) ?_
  refine WL.mv rfl rfl ?_
  rcases bcases (decide ((60 : Int) < (l.length : Int))) with hb14 | hb14
  ·have hp15 := of_decide_eq_true hb14
   rw [if_pos hp15] at hm
   iterate 2 refine WL.pass rfl rfl rfl rfl hb14 rfl rfl ?_
   refine WL.op rfl (.pickT (.tmp rfl) hb14 .bool) ?_
   refine WL.gv rfl rfl ?_
   refine WL.ns ?_
   cases hm
   exact W.ret1 () rfl (.tmp rfl) trivial
  ·have hp15 := of_decide_eq_false hb14
   rw [if_neg hp15] at hm
   refine WL.run rfl rfl rfl rfl hb14 rfl rfl (Op1.move (.tmp rfl)) ?_
   refine WL.run rfl rfl rfl rfl hb14 rfl rfl (Op1.gtI (.tmp rfl) .i64) ?_
   refine WL.op rfl (.pickF (.tmp rfl) hb14 (.tmp rfl)) ?_
   refine WL.gv rfl rfl ?_
   refine WL.ns ?_
   cases hm
   exact W.ret1 () rfl (.tmp rfl) trivial
theorem r20_kind_spec (n : Nat) (l : List Str) (s0_ : Str) (r : Int) (hm : M.r20_kind n l s0_ = some r) : FSpec Tryd.prog 42 [((tL tS).is l), (tS.is s0_)] ((tI .i64).is r) := by
 unfold M.r20_kind at hm
 refine FSpec.of Tryd.func42 rfl rfl rfl (fun g0 => ?_)
 refine W.sr ?_
 refine WL.op rfl (.assign .i64) ?_
 refine WL.ns ?_
 refine W.seq ?_
 refine W.sr ?_
 refine WL.op rfl (.assign .i64) ?_
 refine WL.ns ?_
 refine W.block ?_
 obtain ⟨s1, hs2, hk3⟩ := bind_some hm
 clear hm
 refine W.loop (fun m (s : Int) => M.r20_kind_loop1 l s0_ m s = some s1) (fun s => [(5, ((tI .i64).is s)), (0, ((tL tS).is l)), (1, (tS.is s0_))]) (fun s => []) _ (0 : Int) hs2 ⟨Ent.q rfl, Ent.q rfl, Ent.q rfl, trivial⟩ trivial ?_
 rintro n4 i hm
 try dsimp only at hm
 change W _ _ _ _ _ _ _ [(5, ((tI .i64).is i)), (0, ((tL tS).is l)), (1, (tS.is s0_))] []
 cases n4 with
 | zero => rw [M.r20_kind_loop1.eq_1] at hm; cases hm
 | succ n4 =>
  rw [M.r20_kind_loop1.eq_2] at hm
  refine W.seq ?_
  refine W.sr ?_
  refine WL.mv rfl rfl ?_
  refine WL.mv rfl rfl ?_
  refine WL.op rfl (.lenL Tryd.underlying28 (.tmp rfl)) ?_
  refine WL.op rfl (.ltI (.tmp rfl) (.tmp rfl)) ?_
  refine WL.ns ?_
  refine W.cond (.tmp rfl) (fun hc5 => ?_) (fun hc5 => ?_)
  ·have hp6 := of_decide_eq_true hc5
   rw [if_pos hp6] at hm
   refine W.skip ?_
   refine WN.seq ?_
   refine W.seq ?_
   refine W.block ?_
   refine W.sr ?_
   refine WL.mv rfl rfl ?_
   refine WL.op rfl (.neS (.tmp rfl) (.str rfl (by decide))) ?_
   refine WL.mv rfl rfl ?_
   rcases bcases (s0_ != ([] : Str)) with hb7 | hb7
   ·have hp8 := hb7
    rw [if_pos hp8] at hm
    refine WL.run rfl rfl rfl rfl hb7 rfl rfl (Op1.move (.tmp rfl)) ?_
    refine WL.run rfl rfl rfl rfl hb7 rfl rfl (Op1.move (.tmp rfl)) ?_
    obtain ⟨v, hv9, hm⟩ := bind_some hm
    refine WL.run rfl rfl rfl rfl hb7 rfl rfl (Op1.idx hv9 Tryd.underlying28 Tryd.sizeOf9 (.tmp rfl) (.tmp rfl)) ?_
    refine WL.run rfl rfl rfl rfl hb7 rfl rfl (Op1.load ty9 (.tmp rfl)) ?_
    refine WL.run rfl rfl rfl rfl hb7 rfl rfl (Op1.move (.tmp rfl)) ?_
    refine WL.run rfl rfl rfl rfl hb7 rfl rfl (Op1.eqS (.tmp rfl) (.tmp rfl)) ?_
    refine WL.op rfl (.pickT (.tmp rfl) hb7 (.tmp rfl)) ?_
    refine WL.ns ?_
    refine W.cond (.tmp rfl) (fun hc10 => ?_) (fun hc10 => ?_)
    ·have hp11 := hc10
     rw [if_pos hp11] at hm
     refine W.sr ?_
     refine WL.mv rfl rfl ?_
     refine WL.lenL (s := 0) (.tmp rfl) fun hl12 => ?_
     refine WL.op rfl (.addI1 (.tmp rfl) .i64 hp6 hl12) ?_
     refine WL.gv rfl rfl ?_
     refine WL.ns ?_
     have hr13 := Option.some.inj hm
     clear hm
     subst hr13
     have hm := hk3
     try dsimp only at hm
     cases hm
     exact W.ret1 () rfl (.tmp rfl) trivial
    ·have hp11 := ne_of_false hc10
     rw [if_neg hp11] at hm
     refine W.skip ?_
     refine WN.block ?_
     refine WN.seq ?_
     refine W.region ?_
     refine WL.mv rfl rfl ?_
     refine WL.lenL (s := 0) (.tmp rfl) fun hl14 => ?_
     refine WL.op rfl (.addI1 (.tmp rfl) .i64 hp6 hl14) ?_
     refine WL.gv rfl rfl ?_
     refine WL.nil ?_
     exact WN.again n4 (i + 1) (Nat.lt_succ_self n4) hm ⟨Ent.q rfl, Ent.q rfl, Ent.q rfl, trivial⟩ trivial
   ·have hp8 := ne_of_false hb7
    rw [if_neg hp8] at hm
    iterate 6 refine WL.pass rfl rfl rfl rfl hb7 rfl rfl ?_
    refine WL.op rfl (.pickF (.tmp rfl) hb7 .bool) ?_
    refine WL.ns ?_
    refine W.condF (.tmp rfl) ?_
    refine W.skip ?_
    refine WN.block ?_
    refine WN.seq ?_
    refine W.region ?_
    refine WL.mv rfl rfl ?_
    refine WL.lenL (s := 0) (.tmp rfl) fun hl15 => ?_
    refine WL.op rfl (.addI1 (.tmp rfl) .i64 hp6 hl15) ?_
    refine WL.gv rfl rfl ?_
    refine WL.nil ?_
    exact WN.again n4 (i + 1) (Nat.lt_succ_self n4) hm ⟨Ent.q rfl, Ent.q rfl, Ent.q rfl, trivial⟩ trivial
  ·have hp6 := of_decide_eq_false hc5
   rw [if_neg hp6] at hm
   refine W.exit rfl ?_
   have hr16 := Option.some.inj hm
   clear hm
   subst hr16
   have hm := hk3
   try dsimp only at hm
   refine WN.seq ?_
   refine W.sr ?_
   refine WL.op rfl (.assign .i64) ?_
   refine WL.ns ?_
   cases hm
   exact W.ret1 () rfl (.tmp rfl) trivial
end Go.Proofs.YtnmkblpbmoikpaaDoor
