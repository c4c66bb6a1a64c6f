/-
  The code does what the models say: written by program.
-/
import Derived.Test.YtnmkblpbmoikpaaDoorWb
set_option linter.unusedVariables false
set_option linter.unusedSimpArgs false
namespace Go.Proofs.YtnmkblpbmoikpaaDoor
open Go Go.Dec

set_option maxRecDepth 100000
set_option maxHeartbeats 4000000
theorem law20_CitationRoundTrip_spec (n : Nat) (c : api_Cite) (r : Bool) (hm : M.law20_CitationRoundTrip n c = some r) : FSpecR Tryd.prog 8 [(tapi_Cite.is c)] [(700000, GlE 0)] (fun _ : Unit => (tB.is r)) (fun _ => []) := by
 unfold M.law20_CitationRoundTrip at hm
 refine FSpecR.of Tryd.func8 rfl rfl rfl (fun g0 => ?_)
 refine W.sr ?_
 refine WL.opR rfl (OpR.boxB 1 (Cellable.is tapi_Cite c) (.tmp rfl)) (fun b => ?_)
 refine WL.op rfl (.assign .bool) ?_
 refine WL.ns ?_
 refine W.seq ?_
 obtain ⟨s1, hs2, hk3⟩ := bind_some hm
 clear hm
 refine W.join (fun s : Bool => s = s1) (fun s => [(13, (tB.is s)), (1, (Bp b 0))]) (fun s => [(1, (Bx 5 true 24 (tapi_Cite.is c) b)), (700000, GlE 0)]) ?_ ?_
 ·rintro v hj31
  try dsimp only at hj31
  subst hj31
  have hm := hk3
  clear hk3
  try dsimp only at hm
  change W _ _ _ _ _ _ _ [(13, (tB.is v)), (1, (Bp b 0))] [(1, (Bx 5 true 24 (tapi_Cite.is c) b)), (700000, GlE 0)]
  refine W.cond (.tmp rfl) (fun hc8 => ?_) (fun hc8 => ?_)
  ·have hp9 := hc8
   rw [if_pos hp9] at hm
   refine W.sr ?_
   obtain ⟨awake, hv10, hm⟩ := bind_some hm
   refine WL.op rfl (.callG (rin := [(700000, GlE 0)]) Tryd.call11 (law20_awake_spec _ _ hv10) ⟨rfl, trivial⟩ ⟨rfl, rfl, trivial⟩ trivial) ?_
   refine WL.gv rfl rfl ?_
   refine WL.ns ?_
   cases hm
   exact W.ret1 () rfl (.tmp rfl) trivial
  ·have hp9 := ne_of_false hc8
   rw [if_neg hp9] at hm
   refine W.skip ?_
   refine WN.seq ?_
   refine W.sr ?_
   refine WL.op rfl (.loadB 1 Tryd.isAgg24 Tryd.sizeOf24 rfl (.tmp rfl)) ?_
   obtain ⟨format, hv11, hm⟩ := bind_some hm
   refine WL.op rfl (.call Tryd.call16 (citation_Format_spec _ _ _ hv11) ⟨(.tmp rfl), trivial⟩) ?_
   obtain ⟨pieces, hv12, hm⟩ := bind_some hm
   refine WL.op rfl (.call Tryd.call22 (r04_Pieces_spec _ _ _ hv12) ⟨(.tmp rfl), trivial⟩) ?_
   refine WL.gv rfl rfl ?_
   refine WL.nr ?_
   refine WL.mv rfl rfl ?_
   refine WL.op rfl (.lenL Tryd.underlying28 (.tmp rfl)) ?_
   refine WL.op rfl (.fieldAddrB (o := 0) Tryd.underlying24 rfl (fun w => ⟨0, Tryd.sizeOf3 w⟩) (.tmp rfl) rfl) ?_
   refine WL.opU (OpR.storeBF (b := b) 1 rfl ty3 sapi_Cite_3 rfl (by decide) (.tmp rfl) .i64) (fun _ => ?_)
   refine WL.op rfl (.fieldAddrB (o := 0) Tryd.underlying24 rfl (fun w => ⟨0, Tryd.sizeOf3 w⟩) (.tmp rfl) rfl) ?_
   refine WL.opU (OpR.storeBF (b := b) 1 rfl ty3 sapi_Cite_4 rfl (by decide) (.tmp rfl) (.tmp rfl)) (fun _ => ?_)
   refine WL.nr ?_
   refine WL.op rfl (.loadB 1 Tryd.isAgg24 Tryd.sizeOf24 rfl (.tmp rfl)) ?_
   obtain ⟨format1, hv13, hm⟩ := bind_some hm
   refine WL.op rfl (.call Tryd.call16 (citation_Format_spec _ _ _ hv13) ⟨(.tmp rfl), trivial⟩) ?_
   obtain ⟨parse, hv14, hm⟩ := bind_some hm
   refine WL.op rfl (.callG (rin := [(700000, GlE 0)]) Tryd.call21 (citation_Parse_spec _ _ _ hv14) ⟨rfl, trivial⟩ ⟨rfl, rfl, trivial⟩ ⟨(.tmp rfl), trivial⟩) ?_
   refine WL.mv rfl rfl ?_
   refine WL.op rfl (.extract0 (.tmp rfl)) ?_
   refine WL.op rfl (.extract1 (.tmp rfl)) ?_
   refine WL.opR rfl (OpR.alloc 4 ze24) (fun b1 => ?_)
   refine WL.opU (OpR.storeB (b := b1) 4 Tryd.sizeOf24 (Cellable.is tapi_Cite parse.1) rfl (.tmp rfl) (.tmp rfl)) (fun _ => ?_)
   refine WL.sealed (t := tapi_Cite) (u := parse.1) 4 4 rfl rfl ?_
   refine WL.gv rfl rfl ?_
   refine WL.nr ?_
   refine WL.mv rfl rfl ?_
   obtain ⟨scan, hv15, hm⟩ := bind_some hm
   refine WL.op rfl (.call Tryd.call19 (citation_Scan_spec _ _ _ hv15) ⟨(.tmp rfl), trivial⟩) ?_
   refine WL.gv rfl rfl ?_
   refine WL.ns ?_
   refine W.seq ?_
   rcases bcases (decide (parse.2 = (0 : Int))) with hb16 | hb16
   ·have hp17 := of_decide_eq_true hb16
    rw [if_pos hp17] at hm
    obtain ⟨equal, hv18, hm⟩ := bind_some hm
    rcases bcases (equal) with hb19 | hb19
    ·have hp20 := hb19
     rw [if_pos hp20] at hm
     rcases bcases (decide ((scan.length : Int) = (1 : Int))) with hb21 | hb21
     ·have hp22 := of_decide_eq_true hb21
      rw [if_pos hp22] at hm
      obtain ⟨v1, hv23, hm⟩ := bind_some hm
      obtain ⟨equal1, hv24, hm⟩ := bind_some hm
      rcases bcases (equal1) with hb25 | hb25
      ·have hp26 := hb25
       rw [if_pos hp26] at hm
       obtain ⟨same, hv27, hm⟩ := bind_some hm
       rcases bcases (same) with hb28 | hb28
       ·have hp29 := hb28
        rw [if_pos hp29] at hm
        obtain ⟨awake1, hv30, hm⟩ := bind_some hm
        refine W.draw [.c ((tI .i64).is parse.2), .c (tB.is (decide (parse.2 = (0 : Int)))), .c (tB.is (decide (parse.2 = (0 : Int)))), .c (tapi_Cite.is parse.1), .c (tapi_Cite.is ({ ({ c with From := (0 : Int) } : api_Cite) with At := (pieces.length : Int) } : api_Cite)), .c (tB.is equal), .c (tB.is equal), .c (tB.is equal), .c ((tL tapi_Cite).is scan), .c ((tI .i64).is (scan.length : Int)), .c (tB.is (decide ((scan.length : Int) = (1 : Int)))), .c (tB.is (decide ((scan.length : Int) = (1 : Int)))), .c (tB.is (decide ((scan.length : Int) = (1 : Int)))), .c ((tL tapi_Cite).is scan), .c (tapi_Cite.ptr v1), .c (tapi_Cite.is v1), .c (tapi_Cite.is ({ ({ c with From := (0 : Int) } : api_Cite) with At := (pieces.length : Int) } : api_Cite)), .c (tB.is equal1), .c (tB.is equal1), .c (tB.is equal1), .c (tapi_Cite.is parse.1), .c (tapi_Cite.is ({ ({ c with From := (0 : Int) } : api_Cite) with At := (pieces.length : Int) } : api_Cite)), .c (tB.is same), .c (tB.is same), .c (tB.is same), .c (tB.is awake1), .c (tB.is awake1), .c (tB.is awake1)] [([], [5]), ([0], []), ([1], []), ([2], [4]), ([2], [1]), ([2, 3, 4], []), ([2, 5], []), ([6], []), ([7], [6]), ([7, 8], []), ([7, 9], []), ([7, 10], []), ([11], []), ([12], [6]), ([12, 13], []), ([12, 14], []), ([12], [1]), ([12, 15, 16], []), ([12, 17], []), ([18], []), ([19], [4]), ([19], [1]), ([19, 20, 21], []), ([19, 22], []), ([23], []), ([24], []), ([24, 25], []), ([26], [])] Tryd.mixed rfl rfl rfl rfl (by exact ⟨.inr (Op1.move (.tmp rfl)), .inr (Op1.eqI (.tmp rfl) .i64), .inr (Op1.move (.tmp rfl)), .inr (dr rfl rfl rfl hb16 (Op1.load ty24 (.tmp rfl))), .inr (dr rfl rfl rfl hb16 (Op1.loadB 1 Tryd.isAgg24 Tryd.sizeOf24 rfl (.tmp rfl))), .inr (dr rfl rfl rfl hb16 (Op1.call Tryd.call28 (citation_Equal_spec _ _ _ _ hv18) ⟨(.tmp rfl), (.tmp rfl), trivial⟩)), .inr (Op1.pickT (.tmp rfl) hb16 (.tmp rfl)), .inr (Op1.move (.tmp rfl)), .inr (dr rfl rfl rfl hb19 (Op1.move (.tmp rfl))), .inr (dr rfl rfl rfl hb19 (Op1.lenL Tryd.underlying33 (.tmp rfl))), .inr (dr rfl rfl rfl hb19 (Op1.eqI (.tmp rfl) .i64)), .inr (Op1.pickT (.tmp rfl) hb19 (.tmp rfl)), .inr (Op1.move (.tmp rfl)), .inr (dr rfl rfl rfl hb21 (Op1.move (.tmp rfl))), .inr (dr rfl rfl rfl hb21 (Op1.idx hv23 Tryd.underlying33 Tryd.sizeOf24 (.tmp rfl) .i64)), .inr (dr rfl rfl rfl hb21 (Op1.load ty24 (.tmp rfl))), .inr (dr rfl rfl rfl hb21 (Op1.loadB 1 Tryd.isAgg24 Tryd.sizeOf24 rfl (.tmp rfl))), .inr (dr rfl rfl rfl hb21 (Op1.call Tryd.call28 (citation_Equal_spec _ _ _ _ hv24) ⟨(.tmp rfl), (.tmp rfl), trivial⟩)), .inr (Op1.pickT (.tmp rfl) hb21 (.tmp rfl)), .inr (Op1.move (.tmp rfl)), .inr (dr rfl rfl rfl hb25 (Op1.load ty24 (.tmp rfl))), .inr (dr rfl rfl rfl hb25 (Op1.loadB 1 Tryd.isAgg24 Tryd.sizeOf24 rfl (.tmp rfl))), .inr (dr rfl rfl rfl hb25 (Op1.call Tryd.call24 (r20_Same_spec _ _ _ _ hv27) ⟨(.tmp rfl), (.tmp rfl), trivial⟩)), .inr (Op1.pickT (.tmp rfl) hb25 (.tmp rfl)), .inr (Op1.move (.tmp rfl)), .inr (dr rfl rfl rfl hb28 (Op1.callG (rin := [(700000, GlE 0)]) Tryd.call11 (law20_awake_spec _ _ hv30) ⟨rfl, trivial⟩ ⟨rfl, rfl, trivial⟩ trivial)), .inr (Op1.pickT (.tmp rfl) hb28 (.tmp rfl)), .inr (Op1.assign (.tmp rfl)), trivial⟩) ?_
        refine WN.seq ?_
        cases hm
        exact W.ret1 () rfl (.tmp rfl) trivial
       ·have hp29 := ne_of_false hb28
        rw [if_neg hp29] at hm
        refine W.draw [.c ((tI .i64).is parse.2), .c (tB.is (decide (parse.2 = (0 : Int)))), .c (tB.is (decide (parse.2 = (0 : Int)))), .c (tapi_Cite.is parse.1), .c (tapi_Cite.is ({ ({ c with From := (0 : Int) } : api_Cite) with At := (pieces.length : Int) } : api_Cite)), .c (tB.is equal), .c (tB.is equal), .c (tB.is equal), .c ((tL tapi_Cite).is scan), .c ((tI .i64).is (scan.length : Int)), .c (tB.is (decide ((scan.length : Int) = (1 : Int)))), .c (tB.is (decide ((scan.length : Int) = (1 : Int)))), .c (tB.is (decide ((scan.length : Int) = (1 : Int)))), .c ((tL tapi_Cite).is scan), .c (tapi_Cite.ptr v1), .c (tapi_Cite.is v1), .c (tapi_Cite.is ({ ({ c with From := (0 : Int) } : api_Cite) with At := (pieces.length : Int) } : api_Cite)), .c (tB.is equal1), .c (tB.is equal1), .c (tB.is equal1), .c (tapi_Cite.is parse.1), .c (tapi_Cite.is ({ ({ c with From := (0 : Int) } : api_Cite) with At := (pieces.length : Int) } : api_Cite)), .c (tB.is same), .c (tB.is same), .c (tB.is same), .c (Asn.eq undef), .c (tB.is false), .c (tB.is false)] [([], [5]), ([0], []), ([1], []), ([2], [4]), ([2], [1]), ([2, 3, 4], []), ([2, 5], []), ([6], []), ([7], [6]), ([7, 8], []), ([7, 9], []), ([7, 10], []), ([11], []), ([12], [6]), ([12, 13], []), ([12, 14], []), ([12], [1]), ([12, 15, 16], []), ([12, 17], []), ([18], []), ([19], [4]), ([19], [1]), ([19, 20, 21], []), ([19, 22], []), ([23], []), ([24], []), ([24, 25], []), ([26], [])] Tryd.mixed rfl rfl rfl rfl (by exact ⟨.inr (Op1.move (.tmp rfl)), .inr (Op1.eqI (.tmp rfl) .i64), .inr (Op1.move (.tmp rfl)), .inr (dr rfl rfl rfl hb16 (Op1.load ty24 (.tmp rfl))), .inr (dr rfl rfl rfl hb16 (Op1.loadB 1 Tryd.isAgg24 Tryd.sizeOf24 rfl (.tmp rfl))), .inr (dr rfl rfl rfl hb16 (Op1.call Tryd.call28 (citation_Equal_spec _ _ _ _ hv18) ⟨(.tmp rfl), (.tmp rfl), trivial⟩)), .inr (Op1.pickT (.tmp rfl) hb16 (.tmp rfl)), .inr (Op1.move (.tmp rfl)), .inr (dr rfl rfl rfl hb19 (Op1.move (.tmp rfl))), .inr (dr rfl rfl rfl hb19 (Op1.lenL Tryd.underlying33 (.tmp rfl))), .inr (dr rfl rfl rfl hb19 (Op1.eqI (.tmp rfl) .i64)), .inr (Op1.pickT (.tmp rfl) hb19 (.tmp rfl)), .inr (Op1.move (.tmp rfl)), .inr (dr rfl rfl rfl hb21 (Op1.move (.tmp rfl))), .inr (dr rfl rfl rfl hb21 (Op1.idx hv23 Tryd.underlying33 Tryd.sizeOf24 (.tmp rfl) .i64)), .inr (dr rfl rfl rfl hb21 (Op1.load ty24 (.tmp rfl))), .inr (dr rfl rfl rfl hb21 (Op1.loadB 1 Tryd.isAgg24 Tryd.sizeOf24 rfl (.tmp rfl))), .inr (dr rfl rfl rfl hb21 (Op1.call Tryd.call28 (citation_Equal_spec _ _ _ _ hv24) ⟨(.tmp rfl), (.tmp rfl), trivial⟩)), .inr (Op1.pickT (.tmp rfl) hb21 (.tmp rfl)), .inr (Op1.move (.tmp rfl)), .inr (dr rfl rfl rfl hb25 (Op1.load ty24 (.tmp rfl))), .inr (dr rfl rfl rfl hb25 (Op1.loadB 1 Tryd.isAgg24 Tryd.sizeOf24 rfl (.tmp rfl))), .inr (dr rfl rfl rfl hb25 (Op1.call Tryd.call24 (r20_Same_spec _ _ _ _ hv27) ⟨(.tmp rfl), (.tmp rfl), trivial⟩)), .inr (Op1.pickT (.tmp rfl) hb25 (.tmp rfl)), .inr (Op1.move (.tmp rfl)), .inr (dp rfl rfl rfl hb28), .inr (Op1.pickF (.tmp rfl) hb28 .bool), .inr (Op1.assign (.tmp rfl)), trivial⟩) ?_
        refine WN.seq ?_
        cases hm
        exact W.ret1 () rfl (.tmp rfl) trivial
      ·have hp26 := ne_of_false hb25
       rw [if_neg hp26] at hm
       refine W.draw [.c ((tI .i64).is parse.2), .c (tB.is (decide (parse.2 = (0 : Int)))), .c (tB.is (decide (parse.2 = (0 : Int)))), .c (tapi_Cite.is parse.1), .c (tapi_Cite.is ({ ({ c with From := (0 : Int) } : api_Cite) with At := (pieces.length : Int) } : api_Cite)), .c (tB.is equal), .c (tB.is equal), .c (tB.is equal), .c ((tL tapi_Cite).is scan), .c ((tI .i64).is (scan.length : Int)), .c (tB.is (decide ((scan.length : Int) = (1 : Int)))), .c (tB.is (decide ((scan.length : Int) = (1 : Int)))), .c (tB.is (decide ((scan.length : Int) = (1 : Int)))), .c ((tL tapi_Cite).is scan), .c (tapi_Cite.ptr v1), .c (tapi_Cite.is v1), .c (tapi_Cite.is ({ ({ c with From := (0 : Int) } : api_Cite) with At := (pieces.length : Int) } : api_Cite)), .c (tB.is equal1), .c (tB.is equal1), .c (tB.is equal1), .c (Asn.eq undef), .c (Asn.eq undef), .c (Asn.eq undef), .c (tB.is false), .c (tB.is false), .c (Asn.eq undef), .c (tB.is false), .c (tB.is false)] [([], [5]), ([0], []), ([1], []), ([2], [4]), ([2], [1]), ([2, 3, 4], []), ([2, 5], []), ([6], []), ([7], [6]), ([7, 8], []), ([7, 9], []), ([7, 10], []), ([11], []), ([12], [6]), ([12, 13], []), ([12, 14], []), ([12], [1]), ([12, 15, 16], []), ([12, 17], []), ([18], []), ([19], [4]), ([19], [1]), ([19, 20, 21], []), ([19, 22], []), ([23], []), ([24], []), ([24, 25], []), ([26], [])] Tryd.mixed rfl rfl rfl rfl (by exact ⟨.inr (Op1.move (.tmp rfl)), .inr (Op1.eqI (.tmp rfl) .i64), .inr (Op1.move (.tmp rfl)), .inr (dr rfl rfl rfl hb16 (Op1.load ty24 (.tmp rfl))), .inr (dr rfl rfl rfl hb16 (Op1.loadB 1 Tryd.isAgg24 Tryd.sizeOf24 rfl (.tmp rfl))), .inr (dr rfl rfl rfl hb16 (Op1.call Tryd.call28 (citation_Equal_spec _ _ _ _ hv18) ⟨(.tmp rfl), (.tmp rfl), trivial⟩)), .inr (Op1.pickT (.tmp rfl) hb16 (.tmp rfl)), .inr (Op1.move (.tmp rfl)), .inr (dr rfl rfl rfl hb19 (Op1.move (.tmp rfl))), .inr (dr rfl rfl rfl hb19 (Op1.lenL Tryd.underlying33 (.tmp rfl))), .inr (dr rfl rfl rfl hb19 (Op1.eqI (.tmp rfl) .i64)), .inr (Op1.pickT (.tmp rfl) hb19 (.tmp rfl)), .inr (Op1.move (.tmp rfl)), .inr (dr rfl rfl rfl hb21 (Op1.move (.tmp rfl))), .inr (dr rfl rfl rfl hb21 (Op1.idx hv23 Tryd.underlying33 Tryd.sizeOf24 (.tmp rfl) .i64)), .inr (dr rfl rfl rfl hb21 (Op1.load ty24 (.tmp rfl))), .inr (dr rfl rfl rfl hb21 (Op1.loadB 1 Tryd.isAgg24 Tryd.sizeOf24 rfl (.tmp rfl))), .inr (dr rfl rfl rfl hb21 (Op1.call Tryd.call28 (citation_Equal_spec _ _ _ _ hv24) ⟨(.tmp rfl), (.tmp rfl), trivial⟩)), .inr (Op1.pickT (.tmp rfl) hb21 (.tmp rfl)), .inr (Op1.move (.tmp rfl)), .inr (dp rfl rfl rfl hb25), .inr (dp rfl rfl rfl hb25), .inr (dp rfl rfl rfl hb25), .inr (Op1.pickF (.tmp rfl) hb25 .bool), .inr (Op1.move (.tmp rfl)), .inr (dp rfl rfl rfl rfl), .inr (Op1.pickF (.tmp rfl) rfl .bool), .inr (Op1.assign (.tmp rfl)), trivial⟩) ?_
       refine WN.seq ?_
       cases hm
       exact W.ret1 () rfl (.tmp rfl) trivial
     ·have hp22 := of_decide_eq_false hb21
      rw [if_neg hp22] at hm
      refine W.draw [.c ((tI .i64).is parse.2), .c (tB.is (decide (parse.2 = (0 : Int)))), .c (tB.is (decide (parse.2 = (0 : Int)))), .c (tapi_Cite.is parse.1), .c (tapi_Cite.is ({ ({ c with From := (0 : Int) } : api_Cite) with At := (pieces.length : Int) } : api_Cite)), .c (tB.is equal), .c (tB.is equal), .c (tB.is equal), .c ((tL tapi_Cite).is scan), .c ((tI .i64).is (scan.length : Int)), .c (tB.is (decide ((scan.length : Int) = (1 : Int)))), .c (tB.is (decide ((scan.length : Int) = (1 : Int)))), .c (tB.is (decide ((scan.length : Int) = (1 : Int)))), .c (Asn.eq undef), .c (Asn.eq undef), .c (Asn.eq undef), .c (Asn.eq undef), .c (Asn.eq undef), .c (tB.is false), .c (tB.is false), .c (Asn.eq undef), .c (Asn.eq undef), .c (Asn.eq undef), .c (tB.is false), .c (tB.is false), .c (Asn.eq undef), .c (tB.is false), .c (tB.is false)] [([], [5]), ([0], []), ([1], []), ([2], [4]), ([2], [1]), ([2, 3, 4], []), ([2, 5], []), ([6], []), ([7], [6]), ([7, 8], []), ([7, 9], []), ([7, 10], []), ([11], []), ([12], [6]), ([12, 13], []), ([12, 14], []), ([12], [1]), ([12, 15, 16], []), ([12, 17], []), ([18], []), ([19], [4]), ([19], [1]), ([19, 20, 21], []), ([19, 22], []), ([23], []), ([24], []), ([24, 25], []), ([26], [])] Tryd.mixed rfl rfl rfl rfl (by exact ⟨.inr (Op1.move (.tmp rfl)), .inr (Op1.eqI (.tmp rfl) .i64), .inr (Op1.move (.tmp rfl)), .inr (dr rfl rfl rfl hb16 (Op1.load ty24 (.tmp rfl))), .inr (dr rfl rfl rfl hb16 (Op1.loadB 1 Tryd.isAgg24 Tryd.sizeOf24 rfl (.tmp rfl))), .inr (dr rfl rfl rfl hb16 (Op1.call Tryd.call28 (citation_Equal_spec _ _ _ _ hv18) ⟨(.tmp rfl), (.tmp rfl), trivial⟩)), .inr (Op1.pickT (.tmp rfl) hb16 (.tmp rfl)), .inr (Op1.move (.tmp rfl)), .inr (dr rfl rfl rfl hb19 (Op1.move (.tmp rfl))), .inr (dr rfl rfl rfl hb19 (Op1.lenL Tryd.underlying33 (.tmp rfl))), .inr (dr rfl rfl rfl hb19 (Op1.eqI (.tmp rfl) .i64)), .inr (Op1.pickT (.tmp rfl) hb19 (.tmp rfl)), .inr (Op1.move (.tmp rfl)), .inr (dp rfl rfl rfl hb21), .inr (dp rfl rfl rfl hb21), .inr (dp rfl rfl rfl hb21), .inr (dp rfl rfl rfl hb21), .inr (dp rfl rfl rfl hb21), .inr (Op1.pickF (.tmp rfl) hb21 .bool), .inr (Op1.move (.tmp rfl)), .inr (dp rfl rfl rfl rfl), .inr (dp rfl rfl rfl rfl), .inr (dp rfl rfl rfl rfl), .inr (Op1.pickF (.tmp rfl) rfl .bool), .inr (Op1.move (.tmp rfl)), .inr (dp rfl rfl rfl rfl), .inr (Op1.pickF (.tmp rfl) rfl .bool), .inr (Op1.assign (.tmp rfl)), trivial⟩) ?_
      refine WN.seq ?_
      cases hm
      exact W.ret1 () rfl (.tmp rfl) trivial
    ·have hp20 := ne_of_false hb19
     rw [if_neg hp20] at hm
     refine W.draw [.c ((tI .i64).is parse.2), .c (tB.is (decide (parse.2 = (0 : Int)))), .c (tB.is (decide (parse.2 = (0 : Int)))), .c (tapi_Cite.is parse.1), .c (tapi_Cite.is ({ ({ c with From := (0 : Int) } : api_Cite) with At := (pieces.length : Int) } : api_Cite)), .c (tB.is equal), .c (tB.is equal), .c (tB.is equal), .c (Asn.eq undef), .c (Asn.eq undef), .c (Asn.eq undef), .c (tB.is false), .c (tB.is false), .c (Asn.eq undef), .c (Asn.eq undef), .c (Asn.eq undef), .c (Asn.eq undef), .c (Asn.eq undef), .c (tB.is false), .c (tB.is false), .c (Asn.eq undef), .c (Asn.eq undef), .c (Asn.eq undef), .c (tB.is false), .c (tB.is false), .c (Asn.eq undef), .c (tB.is false), .c (tB.is false)] [([], [5]), ([0], []), ([1], []), ([2], [4]), ([2], [1]), ([2, 3, 4], []), ([2, 5], []), ([6], []), ([7], [6]), ([7, 8], []), ([7, 9], []), ([7, 10], []), ([11], []), ([12], [6]), ([12, 13], []), ([12, 14], []), ([12], [1]), ([12, 15, 16], []), ([12, 17], []), ([18], []), ([19], [4]), ([19], [1]), ([19, 20, 21], []), ([19, 22], []), ([23], []), ([24], []), ([24, 25], []), ([26], [])] Tryd.mixed rfl rfl rfl rfl (by exact ⟨.inr (Op1.move (.tmp rfl)), .inr (Op1.eqI (.tmp rfl) .i64), .inr (Op1.move (.tmp rfl)), .inr (dr rfl rfl rfl hb16 (Op1.load ty24 (.tmp rfl))), .inr (dr rfl rfl rfl hb16 (Op1.loadB 1 Tryd.isAgg24 Tryd.sizeOf24 rfl (.tmp rfl))), .inr (dr rfl rfl rfl hb16 (Op1.call Tryd.call28 (citation_Equal_spec _ _ _ _ hv18) ⟨(.tmp rfl), (.tmp rfl), trivial⟩)), .inr (Op1.pickT (.tmp rfl) hb16 (.tmp rfl)), .inr (Op1.move (.tmp rfl)), .inr (dp rfl rfl rfl hb19), .inr (dp rfl rfl rfl hb19), .inr (dp rfl rfl rfl hb19), .inr (Op1.pickF (.tmp rfl) hb19 .bool), .inr (Op1.move (.tmp rfl)), .inr (dp rfl rfl rfl rfl), .inr (dp rfl rfl rfl rfl), .inr (dp rfl rfl rfl rfl), .inr (dp rfl rfl rfl rfl), .inr (dp rfl rfl rfl rfl), .inr (Op1.pickF (.tmp rfl) rfl .bool), .inr (Op1.move (.tmp rfl)), .inr (dp rfl rfl rfl rfl), .inr (dp rfl rfl rfl rfl), .inr (dp rfl rfl rfl rfl), .inr (Op1.pickF (.tmp rfl) rfl .bool), .inr (Op1.move (.tmp rfl)), .inr (dp rfl rfl rfl rfl), .inr (Op1.pickF (.tmp rfl) rfl .bool), .inr (Op1.assign (.tmp rfl)), trivial⟩) ?_
     refine WN.seq ?_
     cases hm
     exact W.ret1 () rfl (.tmp rfl) trivial
   ·have hp17 := of_decide_eq_false hb16
    rw [if_neg hp17] at hm
    refine W.draw [.c ((tI .i64).is parse.2), .c (tB.is (decide (parse.2 = (0 : Int)))), .c (tB.is (decide (parse.2 = (0 : Int)))), .c (Asn.eq undef), .c (Asn.eq undef), .c (Asn.eq undef), .c (tB.is false), .c (tB.is false), .c (Asn.eq undef), .c (Asn.eq undef), .c (Asn.eq undef), .c (tB.is false), .c (tB.is false), .c (Asn.eq undef), .c (Asn.eq undef), .c (Asn.eq undef), .c (Asn.eq undef), .c (Asn.eq undef), .c (tB.is false), .c (tB.is false), .c (Asn.eq undef), .c (Asn.eq undef), .c (Asn.eq undef), .c (tB.is false), .c (tB.is false), .c (Asn.eq undef), .c (tB.is false), .c (tB.is false)] [([], [5]), ([0], []), ([1], []), ([2], [4]), ([2], [1]), ([2, 3, 4], []), ([2, 5], []), ([6], []), ([7], [6]), ([7, 8], []), ([7, 9], []), ([7, 10], []), ([11], []), ([12], [6]), ([12, 13], []), ([12, 14], []), ([12], [1]), ([12, 15, 16], []), ([12, 17], []), ([18], []), ([19], [4]), ([19], [1]), ([19, 20, 21], []), ([19, 22], []), ([23], []), ([24], []), ([24, 25], []), ([26], [])] Tryd.mixed rfl rfl rfl rfl (by exact ⟨.inr (Op1.move (.tmp rfl)), .inr (Op1.eqI (.tmp rfl) .i64), .inr (Op1.move (.tmp rfl)), .inr (dp rfl rfl rfl hb16), .inr (dp rfl rfl rfl hb16), .inr (dp rfl rfl rfl hb16), .inr (Op1.pickF (.tmp rfl) hb16 .bool), .inr (Op1.move (.tmp rfl)), .inr (dp rfl rfl rfl rfl), .inr (dp rfl rfl rfl rfl), .inr (dp rfl rfl rfl rfl), .inr (Op1.pickF (.tmp rfl) rfl .bool), .inr (Op1.move (.tmp rfl)), .inr (dp rfl rfl rfl rfl), .inr (dp rfl rfl rfl rfl), .inr (dp rfl rfl rfl rfl), .inr (dp rfl rfl rfl rfl), .inr (dp rfl rfl rfl rfl), .inr (Op1.pickF (.tmp rfl) rfl .bool), .inr (Op1.move (.tmp rfl)), .inr (dp rfl rfl rfl rfl), .inr (dp rfl rfl rfl rfl), .inr (dp rfl rfl rfl rfl), .inr (Op1.pickF (.tmp rfl) rfl .bool), .inr (Op1.move (.tmp rfl)), .inr (dp rfl rfl rfl rfl), .inr (Op1.pickF (.tmp rfl) rfl .bool), .inr (Op1.assign (.tmp rfl)), trivial⟩) ?_
    refine WN.seq ?_
    cases hm
    exact W.ret1 () rfl (.tmp rfl) trivial
 ·have hm := hs2
  clear hs2
  refine W.region ?_
  refine WL.op rfl (.loadB 1 Tryd.isAgg24 Tryd.sizeOf24 rfl (.tmp rfl)) ?_
  obtain ⟨wide, hv4, hm⟩ := bind_some hm
  refine WL.op rfl (.call Tryd.call10 (law20_wide_spec _ _ hv4) ⟨(.tmp rfl), trivial⟩) ?_
  refine WL.mv rfl rfl ?_
  rcases bcases (wide) with hb5 | hb5
  ·have hp6 := hb5
   rw [if_pos hp6] at hm
   iterate 3 refine WL.pass rfl rfl rfl rfl hb5 rfl rfl ?_
   refine WL.op rfl (.pickT (.tmp rfl) hb5 .bool) ?_
   refine WL.nil ?_
   exact WN.meet true (Option.some.inj hm) ⟨Ent.q rfl, Ent.q rfl, trivial⟩ ⟨rfl, rfl, ⟨rfl, rfl, trivial⟩⟩
  ·have hp6 := ne_of_false hb5
   rw [if_neg hp6] at hm
   refine WL.run rfl rfl rfl rfl hb5 rfl rfl (Op1.loadB 1 Tryd.isAgg24 Tryd.sizeOf24 rfl (.tmp rfl)) ?_
   obtain ⟨may, hv7, hm⟩ := bind_some hm
   refine WL.run rfl rfl rfl rfl hb5 rfl rfl (Op1.call Tryd.call12 (r20_May_spec _ _ _ hv7) ⟨(.tmp rfl), trivial⟩) ?_
   refine WL.run rfl rfl rfl rfl hb5 rfl rfl (Op1.notB (.tmp rfl)) ?_
   refine WL.op rfl (.pickF (.tmp rfl) hb5 (.tmp rfl)) ?_
   refine WL.nil ?_
   exact WN.meet (!may) (Option.some.inj hm) ⟨Ent.q rfl, Ent.q rfl, trivial⟩ ⟨rfl, rfl, ⟨rfl, rfl, trivial⟩⟩

end Go.Proofs.YtnmkblpbmoikpaaDoor
