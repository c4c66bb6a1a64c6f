/-
  The code does what the models say: written by program.
-/
import Derived.Test.YtclepigknhoonaaWa
set_option linter.unusedVariables false
set_option linter.unusedSimpArgs false
namespace Go.Proofs.Ytclepigknhoonaa
open Go Go.Dec

set_option maxRecDepth 100000
set_option maxHeartbeats 4000000
theorem slices_IndexFunc_api_Meaning_api_Meaning_spec (n : Nat) (s0_ : List api_Meaning) (f : api_Meaning → Option Bool) (r : Int) (hm : M.slices_IndexFunc_api_Meaning_api_Meaning n s0_ f = some r) : FSpec Try.prog 51 [((tL tapi_Meaning).is s0_), (tF Try.prog (fun s : api_Meaning × Bool => f s.1 = some s.2) (fun s : api_Meaning × Bool => [tapi_Meaning.is s.1]) (fun s : api_Meaning × Bool => (tB.is s.2)))] (I6.is r) := by
 unfold M.slices_IndexFunc_api_Meaning_api_Meaning at hm
 refine FSpec.of Try.func51 rfl rfl rfl fun g0 => Aw <| Ao rfl (.assign .i64) <| An <| W.seq <| Aw <| Am rfl rfl <| Ao rfl (.lenL U28 (.t rfl)) <| Ao rfl (.move .i64) <| An <| W.block ?_
 obtain ⟨s1, hs2, hk3⟩ := Bs hm
 clear hm
 refine W.loop (fun m (s : Int) => M.slices_IndexFunc_api_Meaning_api_Meaning_loop1 s0_ f m s = some s1) (fun s => [(8, (I6.is s)), (0, ((tL tapi_Meaning).is s0_)), (1, (tF Try.prog (fun s : api_Meaning × Bool => f s.1 = some s.2) (fun s : api_Meaning × Bool => [tapi_Meaning.is s.1]) (fun s : api_Meaning × Bool => (tB.is s.2)))), (7, (I6.is (s0_.length : Int)))]) (fun s => []) _ (0 : Int) hs2 ⟨.q rfl, .q rfl, .q rfl, .q rfl, trivial⟩ trivial ?_
 rintro n4 v hm
 try dsimp only at hm
 change W _ _ _ _ _ _ _ [(8, (I6.is v)), (0, ((tL tapi_Meaning).is s0_)), (1, (tF Try.prog (fun s : api_Meaning × Bool => f s.1 = some s.2) (fun s : api_Meaning × Bool => [tapi_Meaning.is s.1]) (fun s : api_Meaning × Bool => (tB.is s.2)))), (7, (I6.is (s0_.length : Int)))] []
 cases n4 with
 | zero => rw [M.slices_IndexFunc_api_Meaning_api_Meaning_loop1.eq_1] at hm; cases hm
 | succ n4 =>
  rw [M.slices_IndexFunc_api_Meaning_api_Meaning_loop1.eq_2] at hm
  refine Aw <| Ao rfl (.ltI (.t rfl) (.t rfl)) <| An <| W.seq <| W.cD hm (.t rfl) (fun hp6 hm => ?_) (fun hp6 hm => ?_)
  ·refine W.skip <| Aq <| W.seq <| W.block <| Aw <| Am rfl rfl <| Ag rfl rfl <| Ar <| Am rfl rfl <| Am rfl rfl <| WL.mv rfl rfl ?_
   obtain ⟨v1, hv7, hm⟩ := Bs hm
   refine Ao rfl (.idx hv7 U28 Z44 (.t rfl) (.t rfl)) <| Ao rfl (.load ty44 (.t rfl)) ?_
   obtain ⟨v2, hv8, hm⟩ := Bs hm
   refine Ao rfl (.callF (ok := (fun s : api_Meaning × Bool => f s.1 = some s.2)) (As := (fun s : api_Meaning × Bool => [tapi_Meaning.is s.1])) (A := (fun s : api_Meaning × Bool => (tB.is s.2))) (s := (v1, v2)) (.t rfl) hv8 ⟨(.t rfl), trivial⟩) <| An <| W.cB hm (.t rfl) (fun hp10 hm => ?_) (fun hp10 hm => ?_)
   ·refine Aw <| Am rfl rfl <| Ag rfl rfl <| WL.ns ?_
    have hr11 := Si hm
    clear hm
    subst hr11
    have hm := hk3
    try dsimp only at hm
    cases hm
    exact W.ret1 () rfl (.t rfl) trivial
   ·exact W.skip <| WN.block <| Aq <| W.region <| WL.lenL (s := 0) (.t rfl) fun hl12 => Ao rfl (.addI1 (.t rfl) .i64 hp6 hl12) <| Am rfl rfl <| WL.nil <| WN.again n4 (v + 1) (Nat.lt_succ_self n4) hm ⟨.q rfl, .q rfl, .q rfl, .q rfl, trivial⟩ trivial
  ·refine W.exit rfl ?_
   have hr13 := Si hm
   clear hm
   subst hr13
   have hm := hk3
   try dsimp only at hm
   refine Aq <| Aw <| Ao rfl (.assign .i64) <| WL.ns ?_
   cases hm
   exact W.ret1 () rfl (.t rfl) trivial

theorem equivalence_read_spec (n : Nat) (u : api_Unit) (senses : List api_Meaning) (r : equivalence_text) (hm : M.equivalence_read n u senses = some r) : FSpec Try.prog 43 [(tapi_Unit.is u), ((tL tapi_Meaning).is senses)] (tequivalence_text.is r) := by
 unfold M.equivalence_read at hm
 refine FSpec.of Try.func43 rfl rfl rfl fun g0 => Aw <| Ao rfl (.box (.t rfl)) <| WL.opR rfl (OpR.alloc 4 ze91) fun b => Ar <| WL.opR rfl (OpR.makeMap I6 tapi_Cite 11) fun b1 => WL.opR rfl (OpR.makeMap I6 (tL tapi_Id) 12) fun b2 => WL.addNil (t := tS) (E := 9) 13 <| Ao rfl (.buildT (s := (tMap (tP (tOT tS (none : Tok)) (tP (tM I6 tapi_Cite) (tOne (tM I6 (tL tapi_Id))))) (fun x : equivalence_text => (x.words_, x.cites_, x.targets_)))) (s' := (tMap (tP (tOT tS (none : Tok)) (tP (tMb b1) (tOne (tMb b2)))) (fun x : equivalence_text => (x.words_, x.cites_, x.targets_)))) (x := (⟨([] : List Str), ([] : List (Int × api_Cite)), ([] : List (Int × (List api_Id)))⟩ : equivalence_text)) zequivalence_text_f rfl Try.underlying91 (zequivalence_text_sz _ Try.underlying91) zeequivalence_text_k0 ⟨(tMap (tP (tOT tS (none : Tok)) (tP (tMb b1) (tOne (tM I6 (tL tapi_Id))))) (fun x : equivalence_text => (x.words_, x.cites_, x.targets_))), _, (tMb b1), ([] : List (Int × api_Cite)), _, _, rfl, Z88, (Opd.toMb (.t rfl)), ((FldSetT.map (m := (fun x : equivalence_text => (x.words_, x.cites_, x.targets_))) (f' := fun x y => { x with cites_ := y }) (FldSetT.next (s := (tOT tS (none : Tok))) (FldSetT.here (tM I6 tapi_Cite) (tMb b1) (tOne (tM I6 (tL tapi_Id))) rfl)) (fun _ _ => rfl)).cast rfl rfl), ⟨(tMap (tP (tOT tS (none : Tok)) (tP (tMb b1) (tOne (tMb b2)))) (fun x : equivalence_text => (x.words_, x.cites_, x.targets_))), _, (tMb b2), ([] : List (Int × (List api_Id))), _, _, rfl, Z89, (Opd.toMb (.t rfl)), ((FldSetT.map (m := (fun x : equivalence_text => (x.words_, x.cites_, x.targets_))) (f' := fun x y => { x with targets_ := y }) (FldSetT.next (s := (tOT tS (none : Tok))) (FldSetT.next (s := (tMb b1)) (FldSetT.one (tM I6 (tL tapi_Id)) (tMb b2) rfl))) (fun _ _ => rfl)).cast rfl rfl), ⟨rfl, rfl⟩⟩⟩) <| WL.opR rfl (OpR.alloc 5 ze91) fun b3 => WL.opU (OpR.storeB (b := b3) 5 Z91 (Cellable.is (tMap (tP (tOT tS (none : Tok)) (tP (tMb b1) (tOne (tMb b2)))) (fun x : equivalence_text => (x.words_, x.cites_, x.targets_))) (⟨([] : List Str), ([] : List (Int × api_Cite)), ([] : List (Int × (List api_Id)))⟩ : equivalence_text)) rfl (.t rfl) (.t rfl)) fun _ => WL.nil <| WN.weakR (res' := [(13, Dec.Own tS 9 (none : Tok) ([] : List Str).length), (4, (Bx 3 true 91 (tequivalence_text.is zequivalence_text) b)), (11, Mp I6 tapi_Cite ([] : List (Int × api_Cite)) b1), (12, Mp I6 (tL tapi_Id) ([] : List (Int × (List api_Id))) b2), (5, (Bx 3 true 91 ((tMap (tP (tOT tS (none : Tok)) (tP (tMb b1) (tOne (tMb b2)))) (fun x : equivalence_text => (x.words_, x.cites_, x.targets_))).is (⟨([] : List Str), ([] : List (Int × api_Cite)), ([] : List (Int × (List api_Id)))⟩ : equivalence_text)) b3))]) ⟨rfl, rfl, ⟨rfl, rfl, ⟨rfl, rfl, ⟨rfl, rfl, ⟨rfl, rfl, trivial⟩⟩⟩⟩⟩ <| WN.rekey (res' := [(1000005, Dec.Own tS 9 (none : Tok) ([] : List Str).length), (4, (Bx 3 true 91 (tequivalence_text.is zequivalence_text) b)), (11, Mp I6 tapi_Cite ([] : List (Int × api_Cite)) b1), (12, Mp I6 (tL tapi_Id) ([] : List (Int × (List api_Id))) b2), (5, (Bx 3 true 91 ((tMap (tP (tOT tS (none : Tok)) (tP (tMb b1) (tOne (tMb b2)))) (fun x : equivalence_text => (x.words_, x.cites_, x.targets_))).is (⟨([] : List Str), ([] : List (Int × api_Cite)), ([] : List (Int × (List api_Id)))⟩ : equivalence_text)) b3))]) rfl <| Aq <| W.seq ?_
 refine Aw <| Ao rfl (.fieldAddr U27 rfl J24 fapi_Unit_4 (.t rfl)) <| Ao rfl (.load ty24 (.t rfl)) <| Ao rfl (.lenL U24 (.t rfl)) <| Ao rfl (.move .i64) <| An <| W.block ?_
 obtain ⟨s1, hs2, hk3⟩ := Bs hm
 clear hm
 refine W.loop (fun m (s : Int × List api_Word × List api_Word × ((equivalence_text) × Tok)) => m = s.2.2.1.length ∧ u.Words = s.2.1 ++ s.2.2.1 ∧ s.1 = (s.2.1.length : Int) ∧ M.equivalence_read_loop1 s.2.2.1 s.2.2.2.1 = some s1) (fun s => [(17, (I6.is s.1)), (1, ((tL tapi_Meaning).is senses)), (2, (tapi_Unit.ptr u)), (4, (Bp b 0)), (5, (Bp b3 0)), (15, ((tL tapi_Word).is u.Words)), (16, (I6.is (u.Words.length : Int)))]) (fun s => [(1000005, Dec.Own tS 9 s.2.2.2.2 s.2.2.2.1.words_.length), (5, (Bx 3 true 91 ((tMap (tP (tOT tS s.2.2.2.2) (tP (tMb b1) (tOne (tMb b2)))) (fun x : equivalence_text => (x.words_, x.cites_, x.targets_))).is s.2.2.2.1) b3)), (4, (Bx 3 true 91 (tequivalence_text.is zequivalence_text) b)), (11, Mp I6 tapi_Cite ([] : List (Int × api_Cite)) b1), (12, Mp I6 (tL tapi_Id) ([] : List (Int × (List api_Id))) b2)]) u.Words.length ((0 : Int), [], u.Words, ((⟨([] : List Str), ([] : List (Int × api_Cite)), ([] : List (Int × (List api_Id)))⟩ : equivalence_text), (none : Tok))) ⟨rfl, rfl, rfl, hs2⟩ ⟨.q rfl, .q rfl, .q rfl, .q rfl, .q rfl, .q rfl, .q rfl, trivial⟩ ⟨rfl, rfl, ⟨rfl, rfl, ⟨rfl, rfl, ⟨rfl, rfl, ⟨rfl, rfl, trivial⟩⟩⟩⟩⟩ ?_
 rintro m ⟨i, pre, rest3, ⟨t, k⟩⟩ ⟨hn7, hxs4, hi5, hm⟩
 try dsimp only at hn7 hxs4 hi5 hm
 change W _ _ _ _ _ _ _ [(17, (I6.is i)), (1, ((tL tapi_Meaning).is senses)), (2, (tapi_Unit.ptr u)), (4, (Bp b 0)), (5, (Bp b3 0)), (15, ((tL tapi_Word).is u.Words)), (16, (I6.is (u.Words.length : Int)))] [(1000005, Dec.Own tS 9 k t.words_.length), (5, (Bx 3 true 91 ((tMap (tP (tOT tS k) (tP (tMb b1) (tOne (tMb b2)))) (fun x : equivalence_text => (x.words_, x.cites_, x.targets_))).is t) b3)), (4, (Bx 3 true 91 (tequivalence_text.is zequivalence_text) b)), (11, Mp I6 tapi_Cite ([] : List (Int × api_Cite)) b1), (12, Mp I6 (tL tapi_Id) ([] : List (Int × (List api_Id))) b2)]
 refine W.lenL (s := 15) (.t rfl) fun hlen6 => Aw <| Ao rfl (.ltI (.t rfl) (.t rfl)) <| An <| W.seq <| W.cond (.t rfl) (fun hc9 => ?_) (fun hc9 => ?_)
 ·have hp10 := of_decide_eq_true hc9
  obtain ⟨e, es, hrest12⟩ := range_more hxs4 hi5 hp10
  subst hrest12
  rw [M.equivalence_read_loop1.eq_2] at hm
  refine W.skip <| Aq <| W.seq <| W.block <| Aw <| Ao rfl (.idxPre hxs4 hi5 U24 Z49 (.t rfl) (.t rfl)) <| Ao rfl (.load ty49 (.t rfl)) <| WL.opR rfl (OpR.alloc 7 ze49) fun b4 => WL.opU (OpR.storeB (b := b4) 7 Z49 (Cellable.is tapi_Word e) rfl (.t rfl) (.t rfl)) fun _ => WL.sealed (t := tapi_Word) (u := e) 7 7 rfl rfl <| WL.nr1 <| Ao rfl (.fieldAddrB (o := 0) Try.underlying91 rfl J60 (.t rfl) rfl) <| Ao rfl (.ofOT (Op1.loadBF (s := (tMap (tP (tOT tS k) (tP (tMb b1) (tOne (tMb b2)))) (fun x : equivalence_text => (x.words_, x.cites_, x.targets_)))) (t := (tOT tS k)) (f := fun x : equivalence_text => x.words_) (u := t) 5 rfl ⟨ty60.agg, ty60.size⟩ ((Fld.map (m := (fun x : equivalence_text => (x.words_, x.cites_, x.targets_))) (Fld.here (tOT tS k) (tP (tMb b1) (tOne (tMb b2))))).cast rfl rfl) rfl (.t rfl))) <| Ao rfl (.fieldAddr U49 rfl J9 fapi_Word_0 (.t rfl)) <| Ao rfl (.load ty9 (.t rfl)) <| Ao rfl (.buildSlice (n := 1) (ys := [(0, e.Text)]) (z := ([] : Str)) (xs := [e.Text]) U60 el9 ze9 ⟨rfl, (.t rfl), trivial⟩ (by simp) (by decide) rfl) ?_
  obtain ⟨out, hv13, hm⟩ := Bs hm
  exact WL.opR rfl (OpR.appC (key := 1000005) hv13 U60 el9 (.t rfl) (.t rfl) rfl) fun k1 => Ao rfl (.fieldAddrB (o := 0) Try.underlying91 rfl J60 (.t rfl) rfl) <| WL.opU (OpR.storeBFT (b := b3) (s := (tMap (tP (tOT tS k) (tP (tMb b1) (tOne (tMb b2)))) (fun x : equivalence_text => (x.words_, x.cites_, x.targets_)))) (s' := (tMap (tP (tOT tS k1) (tP (tMb b1) (tOne (tMb b2)))) (fun x : equivalence_text => (x.words_, x.cites_, x.targets_)))) (t := (tOT tS k1)) 5 rfl rfl ⟨ty60.agg, ty60.size⟩ ((FldSetT.map (m := (fun x : equivalence_text => (x.words_, x.cites_, x.targets_))) (f' := fun x y => { x with words_ := y }) (FldSetT.here (tOT tS k) (tOT tS k1) (tP (tMb b1) (tOne (tMb b2))) rfl) (fun _ _ => rfl)).cast rfl rfl) rfl (show 0 + 1 ≤ 3 by decide) (.t rfl) (Opd.toOT (.t rfl))) fun _ => WL.nil <| WN.block <| Aq <| W.region <| Ao rfl (.addI (.t rfl) .i64 (range_inR hi5 hp10 hlen6)) <| Am rfl rfl <| WL.nil <| WN.again es.length (i + 1, pre ++ [e], es, (({ t with words_ := out } : equivalence_text), k1)) (range_lt hn7) ⟨rfl, range_step hxs4, range_idx hi5, hm⟩ ⟨.q rfl, .q rfl, .q rfl, .q rfl, .q rfl, .q rfl, .q rfl, trivial⟩ ⟨rfl, rfl, ⟨rfl, rfl, ⟨rfl, rfl, ⟨rfl, rfl, ⟨rfl, rfl, trivial⟩⟩⟩⟩⟩
 ·have hrest12 := range_end hxs4 hi5 (of_decide_eq_false hc9)
  subst hrest12
  rw [M.equivalence_read_loop1.eq_1] at hm
  refine W.exit rfl ?_
  have hr14 := Si hm
  clear hm
  subst hr14
  have hm := hk3
  try dsimp only at hm
  refine Aq <| W.seq <| Aw <| Ao rfl (.fieldAddrB (o := 0) Try.underlying91 rfl J60 (.t rfl) rfl) <| Ao rfl (.ofOT (Op1.loadBF (s := (tMap (tP (tOT tS k) (tP (tMb b1) (tOne (tMb b2)))) (fun x : equivalence_text => (x.words_, x.cites_, x.targets_)))) (t := (tOT tS k)) (f := fun x : equivalence_text => x.words_) (u := t) 5 rfl ⟨ty60.agg, ty60.size⟩ ((Fld.map (m := (fun x : equivalence_text => (x.words_, x.cites_, x.targets_))) (Fld.here (tOT tS k) (tP (tMb b1) (tOne (tMb b2))))).cast rfl rfl) rfl (.t rfl))) ?_
  obtain ⟨scan, hv15, hm⟩ := Bs hm
  refine Ao rfl (.call C50 (citation_Scan_spec _ _ _ hv15) ⟨(Opd.own (.t rfl)), trivial⟩) <| Ao rfl (.lenL U104 (.t rfl)) <| Ao rfl (.move .i64) <| An <| W.block ?_
  obtain ⟨s16, hs17, hk18⟩ := Bs hm
  clear hm
  refine W.loop (fun m (s : Int × List api_Cite × List api_Cite × ((List (Int × api_Cite)) × (List (Int × (List api_Id))))) => m = s.2.2.1.length ∧ scan = s.2.1 ++ s.2.2.1 ∧ s.1 = (s.2.1.length : Int) ∧ M.equivalence_read_loop2 n u senses s.2.2.1 s.1 s.2.2.2.1 s.2.2.2.2 = some s16) (fun s => [(33, (I6.is s.1)), (1, ((tL tapi_Meaning).is senses)), (2, (tapi_Unit.ptr u)), (4, (Bp b 0)), (5, (Bp b3 0)), (31, ((tL tapi_Cite).is scan)), (32, (I6.is (scan.length : Int)))]) (fun s => [(1000005, Dec.Own tS 9 k t.words_.length), (11, Mp I6 tapi_Cite s.2.2.2.1 b1), (12, Mp I6 (tL tapi_Id) s.2.2.2.2 b2), (4, (Bx 3 true 91 (tequivalence_text.is zequivalence_text) b)), (5, (Bx 3 true 91 ((tMap (tP (tOT tS k) (tP (tMb b1) (tOne (tMb b2)))) (fun x : equivalence_text => (x.words_, x.cites_, x.targets_))).is t) b3))]) scan.length ((0 : Int), [], scan, (([] : List (Int × api_Cite)), ([] : List (Int × (List api_Id))))) ⟨rfl, rfl, rfl, hs17⟩ ⟨.q rfl, .q rfl, .q rfl, .q rfl, .q rfl, .q rfl, .q rfl, trivial⟩ ⟨rfl, rfl, ⟨rfl, rfl, ⟨rfl, rfl, ⟨rfl, rfl, ⟨rfl, rfl, trivial⟩⟩⟩⟩⟩ ?_
  rintro m ⟨i1, pre1, rest2, ⟨v, v1⟩⟩ ⟨hn22, hxs19, hi20, hm⟩
  try dsimp only at hn22 hxs19 hi20 hm
  change W _ _ _ _ _ _ _ [(33, (I6.is i1)), (1, ((tL tapi_Meaning).is senses)), (2, (tapi_Unit.ptr u)), (4, (Bp b 0)), (5, (Bp b3 0)), (31, ((tL tapi_Cite).is scan)), (32, (I6.is (scan.length : Int)))] [(1000005, Dec.Own tS 9 k t.words_.length), (11, Mp I6 tapi_Cite v b1), (12, Mp I6 (tL tapi_Id) v1 b2), (4, (Bx 3 true 91 (tequivalence_text.is zequivalence_text) b)), (5, (Bx 3 true 91 ((tMap (tP (tOT tS k) (tP (tMb b1) (tOne (tMb b2)))) (fun x : equivalence_text => (x.words_, x.cites_, x.targets_))).is t) b3))]
  refine W.lenL (s := 31) (.t rfl) fun hlen21 => Aw <| Ao rfl (.ltI (.t rfl) (.t rfl)) <| An <| W.seq <| W.cond (.t rfl) (fun hc24 => ?_) (fun hc24 => ?_)
  ·have hp25 := of_decide_eq_true hc24
   obtain ⟨e1, es1, hrest27⟩ := range_more hxs19 hi20 hp25
   subst hrest27
   rw [M.equivalence_read_loop2.eq_2] at hm
   refine W.skip <| Aq <| W.seq <| W.block <| Aw <| Am rfl rfl <| Ao rfl (.idxPre hxs19 hi20 U104 Z96 (.t rfl) (.t rfl)) <| Ao rfl (.load ty96 (.t rfl)) <| WL.opR rfl (OpR.alloc 8 ze3) fun b5 => WL.opR rfl (OpR.alloc 9 ze96) fun b6 => WL.opU (OpR.storeB (b := b5) 8 Z3 (Cellable.is I6 i1) rfl (.t rfl) (.t rfl)) fun _ => WL.sealed (t := I6) (u := i1) 8 8 rfl rfl <| WL.opU (OpR.storeB (b := b6) 9 Z96 (Cellable.is tapi_Cite e1) rfl (.t rfl) (.t rfl)) fun _ => WL.sealed (t := tapi_Cite) (u := e1) 9 9 rfl rfl <| Ar <| Ao rfl (.fieldAddrB (o := 0) Try.underlying91 rfl J88 (.t rfl) rfl) ?_
   refine Ao rfl (.ofMb (Op1.loadBF (s := (tMap (tP (tOT tS k) (tP (tMb b1) (tOne (tMb b2)))) (fun x : equivalence_text => (x.words_, x.cites_, x.targets_)))) (t := (tMb b1)) (f := fun x : equivalence_text => x.cites_) (u := t) 5 rfl ⟨ty88.agg, ty88.size⟩ ((Fld.map (m := (fun x : equivalence_text => (x.words_, x.cites_, x.targets_))) (Fld.next (s := (tOT tS k)) (Fld.here (tMb b1) (tOne (tMb b2))))).cast rfl rfl) rfl (.t rfl))) <| Ao rfl (.fieldAddr U96 rfl J3 fapi_Cite_3 (.t rfl)) <| Ao rfl (.load ty3 (.t rfl)) <| Ao rfl (.load ty96 (.t rfl)) <| WL.opU (OpR.mapUpdate (b := b1) (v := e1) 11 U88 kt3 rfl (.t rfl) (.t rfl) (.t rfl)) fun _ => Ar <| Am rfl rfl <| Ao rfl (.makeFunc (ok := (fun s : api_Meaning × Bool => (fun s0 => M.equivalence_read_1 s0 u i1) s.1 = some s.2)) (As := (fun s : api_Meaning × Bool => [tapi_Meaning.is s.1])) (A := (fun s : api_Meaning × Bool => (tB.is s.2))) (Cs := [(tapi_Unit.ptr u), (I6.ptr i1)]) (cap := [.tmp 2, .tmp 8]) C52 ⟨(.t rfl), (.t rfl), trivial⟩ (fun s hs => equivalence_read_1_spec _ _ _ _ hs)) ?_
   obtain ⟨meanin, hv28, hm⟩ := Bs hm
   refine Ao rfl (.call C51 (slices_IndexFunc_api_Meaning_api_Meaning_spec _ _ _ _ hv28) ⟨(.t rfl), (.t rfl), trivial⟩) <| Ag rfl rfl <| Ar <| Am rfl rfl <| Ao rfl (.geI (.t rfl) .i64) <| An <| W.cD hm (.t rfl) (fun hp30 hm => ?_) (fun hp30 hm => ?_)
   ·obtain ⟨v2, hv31, hm⟩ := Bs hm
    exact W.weakR (res' := [(1000005, Dec.Own tS 9 k t.words_.length), (11, Mp I6 tapi_Cite (mset v e1.From e1) b1), (12, Mp I6 (tL tapi_Id) v1 b2), (4, (Bx 3 true 91 (tequivalence_text.is zequivalence_text) b)), (5, (Bx 3 true 91 ((tMap (tP (tOT tS k) (tP (tMb b1) (tOne (tMb b2)))) (fun x : equivalence_text => (x.words_, x.cites_, x.targets_))).is t) b3))]) ⟨rfl, rfl, ⟨rfl, rfl, ⟨rfl, rfl, ⟨rfl, rfl, ⟨rfl, rfl, trivial⟩⟩⟩⟩⟩ <| W.drawM [.c (Bp b3 2), .c (Mv b2), .c (I6.ptr e1.From), .c (I6.is e1.From), .c ((tL tapi_Meaning).is senses), .c (I6.is meanin), .c (tapi_Meaning.ptr v2), .c ((tL tapi_Id).ptr v2.To), .c ((tL tapi_Id).is v2.To), .c Asn.any] [([], [5]), ([0], []), ([], [9]), ([2], []), ([], [1]), ([], [10]), ([4, 5], []), ([6], []), ([7], []), ([1, 3, 8], [])] [9] [[], [], [], [], [], [], [], [], [], []] (fun m cv => match m with | 0 => [(1000005, Dec.Own tS 9 k t.words_.length), (11, Mp I6 tapi_Cite (mset v e1.From e1) b1), (12, Mp I6 (tL tapi_Id) v1 b2), (4, (Bx 3 true 91 (tequivalence_text.is zequivalence_text) b)), (5, (Bx 3 true 91 ((tMap (tP (tOT tS k) (tP (tMb b1) (tOne (tMb b2)))) (fun x : equivalence_text => (x.words_, x.cites_, x.targets_))).is t) b3))] | _ => [(12, Mp I6 (tL tapi_Id) (mset v1 e1.From v2.To) b2), (1000005, Dec.Own tS 9 k t.words_.length), (11, Mp I6 tapi_Cite (mset v e1.From e1) b1), (4, (Bx 3 true 91 (tequivalence_text.is zequivalence_text) b)), (5, (Bx 3 true 91 ((tMap (tP (tOT tS k) (tP (tMb b1) (tOne (tMb b2)))) (fun x : equivalence_text => (x.words_, x.cites_, x.targets_))).is t) b3))]) (fun _ => none) Mx rfl rfl rfl rfl rfl ⟨fun _ _ _ _ => rfl, ⟨fun _ _ _ _ => rfl, ⟨fun _ _ _ _ => rfl, ⟨fun _ _ _ _ => rfl, ⟨fun _ _ _ _ => rfl, ⟨fun _ _ _ _ => rfl, ⟨fun _ _ _ _ => rfl, ⟨fun _ _ _ _ => rfl, ⟨fun _ _ _ _ => rfl, ⟨fun _ _ _ _ => rfl, trivial⟩⟩⟩⟩⟩⟩⟩⟩⟩⟩ rfl ⟨mo fun cv => Op1.fieldAddrB (o := 0) Try.underlying91 rfl J89 (.t rfl) rfl, ⟨.inr ⟨fun cv => [(5, (Bx 3 true 91 ((tMap (tP (tOT tS k) (tP (tMb b1) (tOne (tMb b2)))) (fun x : equivalence_text => (x.words_, x.cites_, x.targets_))).is t) b3))], (AllUpTo.at ⟨(fun _ _ => ⟨rfl, rfl, trivial⟩), (fun hw => absurd hw (by decide))⟩), fun cv => Op1.ofMb (Op1.loadBF (s := (tMap (tP (tOT tS k) (tP (tMb b1) (tOne (tMb b2)))) (fun x : equivalence_text => (x.words_, x.cites_, x.targets_)))) (t := (tMb b2)) (f := fun x : equivalence_text => x.targets_) (u := t) 5 rfl ⟨ty89.agg, ty89.size⟩ ((Fld.map (m := (fun x : equivalence_text => (x.words_, x.cites_, x.targets_))) (Fld.next (s := (tOT tS k)) (Fld.next (s := (tMb b1)) (Fld.one (tMb b2))))).cast rfl rfl) rfl (.t rfl))⟩, ⟨mo fun cv => Op1.fieldAddr U96 rfl J3 fapi_Cite_3 (.t rfl), ⟨mo fun cv => Op1.load ty3 (.t rfl), ⟨mo fun cv => Op1.move (.t rfl), ⟨mo fun cv => Op1.move (.t rfl), ⟨mo fun cv => Op1.idx hv31 U28 Z44 (.t rfl) (.t rfl), ⟨mo fun cv => Op1.fieldAddr U44 rfl J36 fapi_Meaning_2 (.t rfl), ⟨mo fun cv => Op1.load ty36 (.t rfl), ⟨.inl rfl, trivial⟩⟩⟩⟩⟩⟩⟩⟩⟩⟩ ⟨⟨_, _, _, [12], (fun cv => [(12, Mp I6 (tL tapi_Id) (mset v1 e1.From v2.To) b2)]), rfl, rfl, rfl, rfl, fun _ => rfl, fun _ _ => rfl, fun cv => OpR.viaU (OpR.mapUpdate (b := b2) (v := v2.To) 12 U89 kt3 rfl (.t rfl) (.t rfl) (.t rfl))⟩, trivial⟩ fun cv => WN.block <| Aq <| W.region <| Ao rfl (.addI (.t rfl) .i64 (range_inR hi20 hp25 hlen21)) <| Am rfl rfl <| WL.nil <| WN.again es1.length (i1 + 1, pre1 ++ [e1], es1, (mset v e1.From e1, mset v1 e1.From v2.To)) (range_lt hn22) ⟨rfl, range_step hxs19, range_idx hi20, hm⟩ ⟨.q rfl, .q rfl, .q rfl, .q rfl, .q rfl, .q rfl, .q rfl, trivial⟩ ⟨rfl, rfl, ⟨rfl, rfl, ⟨rfl, rfl, ⟨rfl, rfl, ⟨rfl, rfl, trivial⟩⟩⟩⟩⟩
   ·exact W.skip <| WN.block <| Aq <| W.region <| Ao rfl (.addI (.t rfl) .i64 (range_inR hi20 hp25 hlen21)) <| Am rfl rfl <| WL.nil <| WN.again es1.length (i1 + 1, pre1 ++ [e1], es1, (mset v e1.From e1, v1)) (range_lt hn22) ⟨rfl, range_step hxs19, range_idx hi20, hm⟩ ⟨.q rfl, .q rfl, .q rfl, .q rfl, .q rfl, .q rfl, .q rfl, trivial⟩ ⟨rfl, rfl, ⟨rfl, rfl, ⟨rfl, rfl, ⟨rfl, rfl, ⟨rfl, rfl, trivial⟩⟩⟩⟩⟩
  ·have hrest27 := range_end hxs19 hi20 (of_decide_eq_false hc24)
   subst hrest27
   rw [M.equivalence_read_loop2.eq_1] at hm
   refine W.exit rfl ?_
   have hr32 := Si hm
   clear hm
   subst hr32
   have hm := hk18
   try dsimp only at hm
   refine Aq <| Aw <| WL.sealMap 11 rfl <| WL.sealMap 12 rfl <| WL.boxG (tequivalence_text.is ({ t with cites_ := v, targets_ := v1 } : equivalence_text)) 5 rfl (fun _ _ hr hA => CvT.is (s := (tMap (tP (tOT tS k) (tP (tMb b1) (tOne (tMb b2)))) (fun x : equivalence_text => (x.words_, x.cites_, x.targets_)))) rfl (CvT.map (CvT.pair CvT.own (CvT.pair (CvT.mp (hr.at (key := 11) rfl)) (CvT.one (CvT.mp (hr.at (key := 12) rfl)))))) hA) <| Ao rfl (.loadB 5 Y91 Z91 rfl (.t rfl)) <| WL.opU (OpR.storeB (b := b) 4 Z91 (Cellable.is tequivalence_text ({ t with cites_ := v, targets_ := v1 } : equivalence_text)) rfl (.t rfl) (.t rfl)) fun _ => WL.ns ?_
   cases hm
   exact W.retQ1 () rfl (ResAt.cell 4 Y91 Z91 rfl (.t rfl)) trivial

theorem equivalence_table_carried_spec (n : Nat) (t : equivalence_table) (l : List api_Id) (r : (List api_Id) × Bool) (hm : M.equivalence_table_carried n t l = some r) : FSpec Try.prog 46 [(tequivalence_table.ptr t), ((tL tapi_Id).is l)] (Asn.tuple2 ((tL tapi_Id).is r.1) (tB.is r.2)) := by
 unfold M.equivalence_table_carried at hm
 refine FSpec.of Try.func46 rfl rfl rfl fun g0 => Aw <| Ao rfl (.assign (.nil (t := tapi_Id))) <| Ao rfl (.assign .bool) <| Ar <| WL.addNil (t := tapi_Id) (E := 23) 6 <| Ao rfl (.assign (Opd.nilO (t := tapi_Id))) <| An <| W.seq <| Aw <| Am rfl rfl <| Ao rfl (.lenL U36 (.t rfl)) <| Ao rfl (.move .i64) <| An <| W.block ?_
 obtain ⟨s1, hs2, hk3⟩ := Bs hm
 clear hm
 refine W.loop (fun m (s : Int × List api_Id × List api_Id × (((List api_Id)) × Tok)) => m = s.2.2.1.length ∧ l = s.2.1 ++ s.2.2.1 ∧ s.1 = (s.2.1.length : Int) ∧ M.equivalence_table_carried_loop1 n t s.2.2.1 s.2.2.2.1 = some s1) (fun s => [(13, (I6.is s.1)), (6, (tO tapi_Id s.2.2.2.2 s.2.2.2.1)), (0, (tequivalence_table.ptr t)), (11, ((tL tapi_Id).is l)), (12, (I6.is (l.length : Int)))]) (fun s => [(6, Dec.Own tapi_Id 23 s.2.2.2.2 s.2.2.2.1.length)]) l.length ((0 : Int), [], l, (([] : List api_Id), (none : Tok))) ⟨rfl, rfl, rfl, hs2⟩ ⟨.q rfl, .q rfl, .q rfl, .q rfl, .q rfl, trivial⟩ ⟨rfl, rfl, trivial⟩ ?_
 rintro m ⟨i, pre, rest1, ⟨out, k⟩⟩ ⟨hn7, hxs4, hi5, hm⟩
 try dsimp only at hn7 hxs4 hi5 hm
 change W _ _ _ _ _ _ _ [(13, (I6.is i)), (6, (tO tapi_Id k out)), (0, (tequivalence_table.ptr t)), (11, ((tL tapi_Id).is l)), (12, (I6.is (l.length : Int)))] [(6, Dec.Own tapi_Id 23 k out.length)]
 refine W.lenL (s := 11) (.t rfl) fun hlen6 => Aw <| Ao rfl (.ltI (.t rfl) (.t rfl)) <| An <| W.seq <| W.cond (.t rfl) (fun hc9 => ?_) (fun hc9 => ?_)
 ·have hp10 := of_decide_eq_true hc9
  obtain ⟨e, es, hrest12⟩ := range_more hxs4 hi5 hp10
  subst hrest12
  rw [M.equivalence_table_carried_loop1.eq_2] at hm
  refine W.skip <| Aq <| W.seq <| W.block <| Aw <| Ao rfl (.idxPre hxs4 hi5 U36 Z23 (.t rfl) (.t rfl)) <| Ao rfl (.load ty23 (.t rfl)) <| WL.opR rfl (OpR.alloc 8 ze23) fun b => WL.opU (OpR.storeB (b := b) 8 Z23 (Cellable.is tapi_Id e) rfl (.t rfl) (.t rfl)) fun _ => WL.sealed (t := tapi_Id) (u := e) 8 8 rfl rfl <| Ar <| Am rfl rfl <| Ao rfl (.load ty23 (.t rfl)) ?_
  obtain ⟨goes, hv13, hm⟩ := Bs hm
  refine Ao rfl (.call C25 (equivalence_table_goes_spec _ _ _ _ hv13) ⟨(.t rfl), (.t rfl), trivial⟩) <| Am rfl rfl <| Ao rfl (.extract0 (.t rfl)) <| Ao rfl (.extract1 (.t rfl)) <| WL.opR rfl (OpR.alloc 9 ze23) fun b1 => WL.opU (OpR.storeB (b := b1) 9 Z23 (Cellable.is tapi_Id goes.1) rfl (.t rfl) (.t rfl)) fun _ => WL.sealed (t := tapi_Id) (u := goes.1) 9 9 rfl rfl <| Ag rfl rfl <| An <| W.seq <| Aw <| Am rfl rfl <| Ao rfl (.notB (.t rfl)) <| An <| W.cR hm (.t rfl) (fun hp15 hm => ?_) (fun hp15 hm => ?_)
  ·refine Aw <| Ao rfl (.assign (.nil (t := tapi_Id))) <| Ao rfl (.assign .bool) <| WL.ns ?_
   have hr16 := Si hm
   clear hm
   subst hr16
   have hm := hk3
   try dsimp only at hm
   cases hm
   exact W.ret2 () rfl rfl (.t rfl) (.t rfl) trivial
  ·refine W.skip <| Aq <| W.region <| Am rfl rfl <| Ao rfl (.load ty23 (.t rfl)) <| Ao rfl (.buildSlice (n := 1) (ys := [(0, goes.1)]) (z := zapi_Id) (xs := [goes.1]) U36 el23 ze23 ⟨rfl, (.t rfl), trivial⟩ (by simp) (by decide) rfl) ?_
   obtain ⟨out1, hv17, hm⟩ := Bs hm
   exact WL.opR rfl (OpR.appC (key := 6) hv17 U36 el23 (.t rfl) (.t rfl) rfl) fun k1 => Ag rfl rfl <| WL.nil <| WN.block <| Aq <| W.region <| Ao rfl (.addI (.t rfl) .i64 (range_inR hi5 hp10 hlen6)) <| Am rfl rfl <| WL.nil <| WN.again es.length (i + 1, pre ++ [e], es, (out1, k1)) (range_lt hn7) ⟨rfl, range_step hxs4, range_idx hi5, hm⟩ ⟨.q rfl, .q rfl, .q rfl, .q rfl, .q rfl, trivial⟩ ⟨rfl, rfl, trivial⟩
 ·have hrest12 := range_end hxs4 hi5 (of_decide_eq_false hc9)
  subst hrest12
  rw [M.equivalence_table_carried_loop1.eq_1] at hm
  refine W.exit rfl ?_
  have hr18 := Si hm
  clear hm
  subst hr18
  have hm := hk3
  try dsimp only at hm
  refine Aq <| Aw <| Am rfl rfl <| Am rfl rfl <| Ao rfl (.lenL U36 (Opd.own (.t rfl))) <| Ao rfl (.gtI (.t rfl) .i64) <| Ag rfl rfl <| Ag rfl rfl <| WL.ns ?_
  cases hm
  exact W.ret2 () rfl rfl (Opd.own (.t rfl)) (.t rfl) trivial

theorem equivalence_text_run_spec (n : Nat) (t : equivalence_text) (at0_ : Int) (many : Int) (r : (List api_Id) × Int × Bool) (hm : M.equivalence_text_run n t at0_ many = some r) : FSpec Try.prog 47 [(tequivalence_text.is t), (I6.is at0_), (I6.is many)] (Asn.tuple3 ((tL tapi_Id).is r.1) (I6.is r.2.1) (tB.is r.2.2)) := by
 unfold M.equivalence_text_run at hm
 refine FSpec.of Try.func47 rfl rfl rfl fun g0 => Aw <| Ao rfl (.box (.t rfl)) <| Ao rfl (.assign (.nil (t := tapi_Id))) <| Ao rfl (.assign .i64) <| Ao rfl (.assign .bool) <| Ar <| WL.addNil (t := tapi_Id) (E := 23) 9 <| Ao rfl (.assign (Opd.nilO (t := tapi_Id))) <| An <| W.block ?_
 obtain ⟨s1, hs2, hk3⟩ := Bs hm
 clear hm
 refine W.loop (fun m (s : (Int × (List api_Id)) × Tok) => M.equivalence_text_run_loop1 t many m s.1.1 s.1.2 = some s1) (fun s => [(1, (I6.is s.1.1)), (9, (tO tapi_Id s.2 s.1.2)), (2, (I6.is many)), (3, (tequivalence_text.ptr t))]) (fun s => [(9, Dec.Own tapi_Id 23 s.2 s.1.2.length)]) _ ((at0_, ([] : List api_Id)), (none : Tok)) hs2 ⟨.q rfl, .q rfl, .q rfl, .q rfl, trivial⟩ ⟨rfl, rfl, trivial⟩ ?_
 rintro n4 ⟨⟨at0_1, out⟩, k⟩ hm
 try dsimp only at hm
 change W _ _ _ _ _ _ _ [(1, (I6.is at0_1)), (9, (tO tapi_Id k out)), (2, (I6.is many)), (3, (tequivalence_text.ptr t))] [(9, Dec.Own tapi_Id 23 k out.length)]
 cases n4 with
 | zero => rw [M.equivalence_text_run_loop1.eq_1] at hm; cases hm
 | succ n4 =>
  rw [M.equivalence_text_run_loop1.eq_2] at hm
  refine W.block <| Aw <| Ao rfl (.fieldAddr Try.underlying91 rfl J88 fequivalence_text_1 (.t rfl)) <| Ao rfl (.load ty88 (.t rfl)) <| Am rfl rfl <| Ao rfl (.lookupSOk U88 kt3 ze96 (.t rfl) (.t rfl)) <| Am rfl rfl <| Ao rfl (.extract0 (.t rfl)) <| Ao rfl (.extract1 (.t rfl)) <| WL.opR rfl (OpR.alloc 10 ze96) fun b => WL.opU (OpR.storeB (b := b) 10 Z96 (Cellable.is tapi_Cite ((mget t.cites_ at0_1 zapi_Cite, mhas t.cites_ at0_1).1)) rfl (.t rfl) (.t rfl)) fun _ => WL.sealed (t := tapi_Cite) (u := ((mget t.cites_ at0_1 zapi_Cite, mhas t.cites_ at0_1).1)) 10 10 rfl rfl <| Ag rfl rfl <| An <| W.seq <| W.sr ?_
  refine Am rfl rfl <| Ao rfl (.notB (.t rfl)) <| An <| W.cR hm (.t rfl) (fun hp6 hm => ?_) (fun hp6 hm => ?_)
  ·refine Aw <| Ao rfl (.assign (.nil (t := tapi_Id))) <| Ao rfl (.assign .i64) <| Ao rfl (.assign .bool) <| WL.ns ?_
   have hr7 := Si hm
   clear hm
   subst hr7
   have hm := hk3
   try dsimp only at hm
   cases hm
   exact W.ret3 () rfl rfl (.t rfl) (.t rfl) (.t rfl) trivial
  ·refine W.skip <| Aq <| Aw <| Am rfl rfl <| Ao rfl (.fieldAddr Try.underlying91 rfl J89 fequivalence_text_2 (.t rfl)) <| Ao rfl (.load ty89 (.t rfl)) <| Am rfl rfl <| Ao rfl (.lookupS U89 kt3 ze36 (.t rfl) (.t rfl)) ?_
   obtain ⟨out1, hv8, hm⟩ := Bs hm
   refine WL.opR rfl (OpR.appC (key := 9) hv8 U36 el23 (.t rfl) (.t rfl) rfl) fun k1 => Ag rfl rfl <| An <| W.seq <| Aw <| Am rfl rfl <| Ao rfl (.lenL U36 (Opd.own (.t rfl))) <| Am rfl rfl <| Ao rfl (.geI (.t rfl) (.t rfl)) <| An <| W.cD hm (.t rfl) (fun hp10 hm => ?_) (fun hp10 hm => ?_)
   ·refine W.seq <| W.weakR (res' := [(9, Dec.Own tapi_Id 23 k1 out1.length)]) ⟨rfl, rfl, trivial⟩ <| W.drawM [.c (tO tapi_Id k1 out1), .c (I6.ptr (((mget t.cites_ at0_1 zapi_Cite, mhas t.cites_ at0_1).1).At)), .c (I6.is (((mget t.cites_ at0_1 zapi_Cite, mhas t.cites_ at0_1).1).At)), .c (tO tapi_Id k1 out1), .c (I6.is (((mget t.cites_ at0_1 zapi_Cite, mhas t.cites_ at0_1).1).At)), .c (tB.is true)] [([], [9]), ([], [10]), ([1], []), ([0], []), ([2], []), ([], [])] [] [[], [], [], [], [], []] (fun m cv => match m with  | _ => [(9, Dec.Own tapi_Id 23 k1 out1.length)]) (fun _ => none) Mx rfl rfl rfl rfl rfl ⟨fun _ _ _ _ => rfl, ⟨fun _ _ _ _ => rfl, ⟨fun _ _ _ _ => rfl, ⟨fun _ _ _ _ => rfl, ⟨fun _ _ _ _ => rfl, ⟨fun _ _ _ _ => rfl, trivial⟩⟩⟩⟩⟩⟩ rfl ⟨mo fun cv => Op1.move (.t rfl), ⟨mo fun cv => Op1.fieldAddr U96 rfl J3 fapi_Cite_4 (.t rfl), ⟨mo fun cv => Op1.load ty3 (.t rfl), ⟨mo fun cv => Op1.assign (.t rfl), ⟨mo fun cv => Op1.assign (.t rfl), ⟨mo fun cv => Op1.assign .bool, trivial⟩⟩⟩⟩⟩⟩ trivial fun cv => WN.seq ?_
    have hr11 := Si hm
    clear hm
    subst hr11
    have hm := hk3
    try dsimp only at hm
    cases hm
    exact W.ret3 () rfl rfl (Opd.own (.t rfl)) (.t rfl) (.t rfl) trivial
   ·refine W.skip <| Aq <| W.seq <| Aw <| Ao rfl (.fieldAddr U96 rfl J3 fapi_Cite_4 (.t rfl)) <| Ao rfl (.load ty3 (.t rfl)) <| Ao rfl (.fieldAddr Try.underlying91 rfl J60 fequivalence_text_0 (.t rfl)) <| Ao rfl (.load ty60 (.t rfl)) <| Ao rfl (.lenL U60 (.t rfl)) <| Ao rfl (.geI (.t rfl) (.t rfl)) <| WL.mv rfl rfl ?_
    rcases iteD hm with ⟨hp13, hb12, hm⟩ | ⟨hp13, hb12, hm⟩
    ·refine Ap rfl hb12 <| Ap rfl hb12 <| Ap rfl hb12 <| Ap rfl hb12 <| Ap rfl hb12 <| Ap rfl hb12 <| Ap rfl hb12 <| Ao rfl (.pickT (.t rfl) hb12 .bool) <| An <| W.condT (.t rfl) <| Aw <| Ao rfl (.assign (.nil (t := tapi_Id))) <| Ao rfl (.assign .i64) <| Ao rfl (.assign .bool) <| WL.ns ?_
     have hr14 := Si hm
     clear hm
     subst hr14
     have hm := hk3
     try dsimp only at hm
     cases hm
     exact W.ret3 () rfl rfl (.t rfl) (.t rfl) (.t rfl) trivial
    ·refine Ax rfl hb12 (.fieldAddr Try.underlying91 rfl J60 fequivalence_text_0 (.t rfl)) <| Ax rfl hb12 (.load ty60 (.t rfl)) <| Ax rfl hb12 (.fieldAddr U96 rfl J3 fapi_Cite_4 (.t rfl)) <| Ax rfl hb12 (.load ty3 (.t rfl)) ?_
     obtain ⟨v, hv15, hm⟩ := Bs hm
     refine Ax rfl hb12 (.idx hv15 U60 Z9 (.t rfl) (.t rfl)) <| Ax rfl hb12 (.load ty9 (.t rfl)) <| Ax rfl hb12 (.neS (.t rfl) (.str rfl (by decide))) <| Ao rfl (.pickF (.t rfl) hb12 (.t rfl)) <| An <| W.cB hm (.t rfl) (fun hp17 hm => ?_) (fun hp17 hm => ?_)
     ·refine Aw <| Ao rfl (.assign (.nil (t := tapi_Id))) <| Ao rfl (.assign .i64) <| Ao rfl (.assign .bool) <| WL.ns ?_
      have hr18 := Si hm
      clear hm
      subst hr18
      have hm := hk3
      try dsimp only at hm
      cases hm
      exact W.ret3 () rfl rfl (.t rfl) (.t rfl) (.t rfl) trivial
     ·refine W.skip <| Aq <| W.region <| Ao rfl (.fieldAddr U96 rfl J3 fapi_Cite_4 (.t rfl)) <| Ao rfl (.load ty3 (.t rfl)) ?_
      obtain ⟨v1, hv19, hm⟩ := Bs hm
      exact Ao rfl (.addC hv19 (.t rfl) .i64) <| Ag rfl rfl <| WL.nil <| WN.block <| WN.again n4 ((v1, out1), k1) (Nat.lt_succ_self n4) hm ⟨.q rfl, .q rfl, .q rfl, .q rfl, trivial⟩ ⟨rfl, rfl, trivial⟩

theorem slices_Equal_api_Id_api_Id_spec (n : Nat) (s1_ : List api_Id) (s2_ : List api_Id) (r : Bool) (hm : M.slices_Equal_api_Id_api_Id n s1_ s2_ = some r) : FSpec Try.prog 48 [((tL tapi_Id).is s1_), ((tL tapi_Id).is s2_)] (tB.is r) := by
 unfold M.slices_Equal_api_Id_api_Id at hm
 refine FSpec.of Try.func48 rfl rfl rfl fun g0 => Aw <| Ao rfl (.assign .bool) <| An <| W.seq <| Aw <| Am rfl rfl <| Ao rfl (.lenL U36 (.t rfl)) <| Am rfl rfl <| Ao rfl (.lenL U36 (.t rfl)) <| Ao rfl (.neI (.t rfl) (.t rfl)) <| An <| W.cD hm (.t rfl) (fun hp2 hm => ?_) (fun hp2 hm => ?_)
 ·refine Aw <| Ao rfl (.assign .bool) <| WL.ns ?_
  cases hm
  exact W.ret1 () rfl (.t rfl) trivial
 ·refine W.skip <| Aq <| W.seq <| Aw <| Am rfl rfl <| Ao rfl (.lenL U36 (.t rfl)) <| Ao rfl (.move .i64) <| An <| W.block ?_
  obtain ⟨s3, hs4, hk5⟩ := Bs hm
  clear hm
  refine W.loop (fun m (s : Int) => M.slices_Equal_api_Id_api_Id_loop1 s1_ s2_ m s = some s3) (fun s => [(13, (I6.is s)), (0, ((tL tapi_Id).is s1_)), (1, ((tL tapi_Id).is s2_)), (12, (I6.is (s1_.length : Int)))]) (fun s => []) _ (0 : Int) hs4 ⟨.q rfl, .q rfl, .q rfl, .q rfl, trivial⟩ trivial ?_
  rintro n6 v hm
  try dsimp only at hm
  change W _ _ _ _ _ _ _ [(13, (I6.is v)), (0, ((tL tapi_Id).is s1_)), (1, ((tL tapi_Id).is s2_)), (12, (I6.is (s1_.length : Int)))] []
  cases n6 with
  | zero => rw [M.slices_Equal_api_Id_api_Id_loop1.eq_1] at hm; cases hm
  | succ n6 =>
   rw [M.slices_Equal_api_Id_api_Id_loop1.eq_2] at hm
   refine Aw <| Ao rfl (.ltI (.t rfl) (.t rfl)) <| An <| W.seq <| W.cD hm (.t rfl) (fun hp8 hm => ?_) (fun hp8 hm => ?_)
   ·refine W.skip <| Aq <| W.seq <| W.block <| Aw <| Am rfl rfl <| Ag rfl rfl <| An <| W.seq ?_
    obtain ⟨v1, hv9, hm⟩ := Bs hm
    obtain ⟨v2, hv10, hm⟩ := Bs hm
    refine W.draw [.c _, .c _, .c _, .c _, .c _, .c _, .c _, .c _, .c _] [([], [0]), ([], [5]), ([0, 1], []), ([2], []), ([], [1]), ([], [5]), ([4, 5], []), ([6], []), ([3, 7], [])] Mx rfl rfl rfl rfl ⟨Dn (.move (.t rfl)), Dn (.move (.t rfl)), Dn (.idx hv9 U36 Z23 (.t rfl) (.t rfl)), Dn (.load ty23 (.t rfl)), Dn (.move (.t rfl)), Dn (.move (.t rfl)), Dn (.idx hv10 U36 Z23 (.t rfl) (.t rfl)), Dn (.load ty23 (.t rfl)), Dn (.neSt (D := 2) rfl (by decide) eg23 eq23 (.t rfl) (.t rfl)), trivial⟩ <| Aq <| W.cD hm (.t rfl) (fun hp12 hm => ?_) (fun hp12 hm => ?_)
    ·refine Aw <| Ao rfl (.assign .bool) <| WL.ns ?_
     have hr13 := Si hm
     clear hm
     subst hr13
     have hm := hk5
     try dsimp only at hm
     cases hm
     exact W.ret1 () rfl (.t rfl) trivial
    ·exact W.skip <| WN.block <| Aq <| W.region <| WL.lenL (s := 0) (.t rfl) fun hl14 => Ao rfl (.addI1 (.t rfl) .i64 hp8 hl14) <| Am rfl rfl <| WL.nil <| WN.again n6 (v + 1) (Nat.lt_succ_self n6) hm ⟨.q rfl, .q rfl, .q rfl, .q rfl, trivial⟩ trivial
   ·refine W.exit rfl ?_
    have hr15 := Si hm
    clear hm
    subst hr15
    have hm := hk5
    try dsimp only at hm
    refine Aq <| Aw <| Ao rfl (.assign .bool) <| WL.ns ?_
    cases hm
    exact W.ret1 () rfl (.t rfl) trivial

theorem strings_Contains_spec (s sub : Str) (r : Bool) (hm : containsM s sub = some r) : FSpecR Try.prog 54 [tS.is s, tS.is sub] [(700000, GlE 0)] (fun _ : Unit => tB.is r) (fun _ => []) :=
 contains_spec (fun s sub m w hs hm => Try.strings_Contains s sub m w hs hm) _ s sub r hm

theorem equivalence_text_sign_spec (t : equivalence_text) (at0_ : Int) (r : Str) (hm : M.equivalence_text_sign t at0_ = some r) : FSpecR Try.prog 49 [(tequivalence_text.is t), (I6.is at0_)] [(700000, GlE 0)] (fun _ : Unit => (tS.is r)) (fun _ => []) := by
 unfold M.equivalence_text_sign at hm
 refine FSpecR.of Try.func49 rfl rfl rfl fun g0 => Aw <| Ao rfl (.box (.t rfl)) <| Ao rfl (.assign (.str rfl (by decide))) <| Ar <| Ao rfl (.fieldAddr Try.underlying91 rfl J60 fequivalence_text_0 (.t rfl)) <| Ao rfl (.load ty60 (.t rfl)) <| WL.mv rfl rfl ?_
 obtain ⟨v, hv1, hm⟩ := Bs hm
 refine Ao rfl (.idx hv1 U60 Z9 (.t rfl) (.t rfl)) <| Ao rfl (.load ty9 (.t rfl)) <| Ag rfl rfl <| An <| W.seq <| Aw <| Am rfl rfl <| Am rfl rfl <| Ao rfl (.lenS U9 (.t rfl)) ?_
 obtain ⟨v1, hv2, hm⟩ := Bs hm
 refine Ao rfl (.subC hv2 (.t rfl) .i64) ?_
 obtain ⟨v2, hv3, hm⟩ := Bs hm
 refine Ao rfl (.sslcLo hv3 U9 (.t rfl) (.t rfl)) <| Ag rfl rfl <| Ar <| WL.mv rfl rfl ?_
 obtain ⟨contai, hv4, hm⟩ := Bs hm
 refine Ao rfl (.callG (rin := [(700000, GlE 0)]) C54 (strings_Contains_spec _ _ _ hv4) ⟨rfl, trivial⟩ ⟨rfl, rfl, trivial⟩ ⟨(.str rfl (by decide)), (.t rfl), trivial⟩) <| An <| W.cB hm (.t rfl) (fun hp6 hm => ?_) (fun hp6 hm => ?_)
 ·refine Aw <| Am rfl rfl <| Ag rfl rfl <| WL.ns ?_
  cases hm
  exact W.ret1 () rfl (.t rfl) trivial
 ·refine W.skip <| Aq <| Aw <| Ao rfl (.assign (.str rfl (by decide))) <| WL.ns ?_
  cases hm
  exact W.ret1 () rfl (.t rfl) trivial

theorem equivalence_table_differ_spec (n : Nat) (t : equivalence_table) (x : equivalence_text) (y : equivalence_text) (r : Int × Bool) (hm : M.equivalence_table_differ n t x y = some r) : FSpecR Try.prog 42 [(tequivalence_table.ptr t), (tequivalence_text.is x), (tequivalence_text.is y)] [(700000, GlE 0)] (fun kx : Unit => (Asn.tuple2 (I6.is r.1) (tB.is r.2))) (fun kx : Unit => [(700000, GlE 0)]) := by
 unfold M.equivalence_table_differ at hm
 refine FSpecR.of Try.func42 rfl rfl rfl fun g0 => Aw <| Ao rfl (.box (.t rfl)) <| Ao rfl (.box (.t rfl)) <| Ao rfl (.assign .i64) <| Ao rfl (.assign .bool) <| Ar <| Ao rfl (.assign .i64) <| Ao rfl (.assign .i64) <| An <| W.seq <| W.block ?_
 obtain ⟨s1, hs2, hk3⟩ := Bs hm
 clear hm
 refine W.loop (fun m (s : Int × Int) => M.equivalence_table_differ_loop1 t x y m s.1 s.2 = some s1) (fun s => [(8, (I6.is s.1)), (9, (I6.is s.2)), (0, (tequivalence_table.ptr t)), (4, (tequivalence_text.ptr x)), (5, (tequivalence_text.ptr y))]) (fun s => [(700000, GlE 0)]) _ ((0 : Int), (0 : Int)) hs2 ⟨.q rfl, .q rfl, .q rfl, .q rfl, .q rfl, trivial⟩ ⟨rfl, rfl, trivial⟩ ?_
 rintro n4 ⟨i, k⟩ hm
 try dsimp only at hm
 change W _ _ _ _ _ _ _ [(8, (I6.is i)), (9, (I6.is k)), (0, (tequivalence_table.ptr t)), (4, (tequivalence_text.ptr x)), (5, (tequivalence_text.ptr y))] [(700000, GlE 0)]
 cases n4 with
 | zero => rw [M.equivalence_table_differ_loop1.eq_1] at hm; cases hm
 | succ n4 =>
  rw [M.equivalence_table_differ_loop1.eq_2] at hm
  refine W.seq ?_
  obtain ⟨s5, hs6, hk7⟩ := Bs hm
  clear hm
  refine W.join (fun s : Bool => s = s5) (fun s => [(28, (tB.is s)), (0, (tequivalence_table.ptr t)), (4, (tequivalence_text.ptr x)), (5, (tequivalence_text.ptr y)), (8, (I6.is i)), (9, (I6.is k))]) (fun s => [(700000, GlE 0)]) ?_ ?_
  ·rintro v hj50
   try dsimp only at hj50
   subst hj50
   have hm := hk7
   clear hk7
   try dsimp only at hm
   change W _ _ _ _ _ _ _ [(28, (tB.is v)), (0, (tequivalence_table.ptr t)), (4, (tequivalence_text.ptr x)), (5, (tequivalence_text.ptr y)), (8, (I6.is i)), (9, (I6.is k))] [(700000, GlE 0)]
   refine W.cB hm (.t rfl) (fun hp11 hm => ?_) (fun hp11 hm => ?_)
   ·refine W.skip <| Aq <| W.block <| Aw <| Ao rfl (.fieldAddr Try.underlying91 rfl J88 fequivalence_text_1 (.t rfl)) <| Ao rfl (.load ty88 (.t rfl)) <| Am rfl rfl <| Ao rfl (.lookupSOk U88 kt3 ze96 (.t rfl) (.t rfl)) <| Am rfl rfl <| Ao rfl (.extract0 (.t rfl)) <| Ao rfl (.extract1 (.t rfl)) <| WL.opR rfl (OpR.alloc 10 ze96) fun b => WL.opU (OpR.storeB (b := b) 10 Z96 (Cellable.is tapi_Cite ((mget x.cites_ i zapi_Cite, mhas x.cites_ i).1)) rfl (.t rfl) (.t rfl)) fun _ => WL.sealed (t := tapi_Cite) (u := ((mget x.cites_ i zapi_Cite, mhas x.cites_ i).1)) 10 10 rfl rfl <| Ag rfl rfl <| WL.nr ?_
    refine Am rfl rfl <| Ao rfl (.fieldAddr Try.underlying91 rfl J89 fequivalence_text_2 (.t rfl)) <| Ao rfl (.load ty89 (.t rfl)) <| Am rfl rfl <| Ao rfl (.lookupS U89 kt3 ze36 (.t rfl) (.t rfl)) ?_
    obtain ⟨carrie, hv12, hm⟩ := Bs hm
    refine Ao rfl (.call C46 (equivalence_table_carried_spec _ _ _ _ hv12) ⟨(.t rfl), (.t rfl), trivial⟩) <| Am rfl rfl <| Ao rfl (.extract0 (.t rfl)) <| Ao rfl (.extract1 (.t rfl)) <| Ag rfl rfl <| Ag rfl rfl <| An <| W.block ?_
    obtain ⟨s13, hs14, hk15⟩ := Bs hm
    clear hm
    refine W.join (fun s : Bool => s = s13) (fun s => [(46, (tB.is s)), (0, (tequivalence_table.ptr t)), (4, (tequivalence_text.ptr x)), (5, (tequivalence_text.ptr y)), (8, (I6.is i)), (9, (I6.is k)), (10, (tapi_Cite.ptr ((mget x.cites_ i zapi_Cite, mhas x.cites_ i).1))), (12, ((tL tapi_Id).is carrie.1))]) (fun s => [(700000, GlE 0)]) ?_ ?_
    ·rintro v1 hj48
     try dsimp only at hj48
     subst hj48
     have hm := hk15
     clear hk15
     try dsimp only at hm
     change W _ _ _ _ _ _ _ [(46, (tB.is v1)), (0, (tequivalence_table.ptr t)), (4, (tequivalence_text.ptr x)), (5, (tequivalence_text.ptr y)), (8, (I6.is i)), (9, (I6.is k)), (10, (tapi_Cite.ptr ((mget x.cites_ i zapi_Cite, mhas x.cites_ i).1))), (12, ((tL tapi_Id).is carrie.1))] [(700000, GlE 0)]
     refine W.cB hm (.t rfl) (fun hp19 hm => ?_) (fun hp19 hm => ?_)
     ·refine Aw <| Ao rfl (.load ty91 (.t rfl)) <| Am rfl rfl <| Am rfl rfl <| Ao rfl (.lenL U36 (.t rfl)) ?_
      obtain ⟨run, hv20, hm⟩ := Bs hm
      refine Ao rfl (.call C47 (equivalence_text_run_spec _ _ _ _ _ hv20) ⟨(.t rfl), (.t rfl), (.t rfl), trivial⟩) <| Am rfl rfl <| Ao rfl (.extract30 (.t rfl)) <| Ao rfl (.extract31 (.t rfl)) <| Ao rfl (.extract32 (.t rfl)) <| Ag rfl rfl <| Ag rfl rfl <| Ag rfl rfl <| An <| W.seq <| W.seq ?_
      rcases iteR hm with ⟨hp22, hb21, hm⟩ | ⟨hp22, hb21, hm⟩
      ·refine W.draw [.c (tB.is run.2.2), .c (tB.is (!run.2.2)), .c (tB.is (!run.2.2)), .c _, .c _, .c _, .c _, .c (tB.is true), .c (tB.is true), .c _, .c _, .c _, .c _, .c _, .c _, .c _, .c _, .c _, .c _, .c (tB.is true)] [([], [16]), ([0], []), ([1], []), ([2], [14]), ([2], [12]), ([2, 3, 4], []), ([2, 5], []), ([2, 6], []), ([7], []), ([8], [4]), ([8], [10]), ([8, 10], []), ([8, 11], []), ([8, 9, 12], []), ([8], [5]), ([8], [15]), ([8, 15], []), ([8, 14, 16], []), ([8, 13, 17], []), ([8, 18], [])] Mx rfl rfl rfl rfl ⟨Dn (.move (.t rfl)), Dn (.notB (.t rfl)), Dn (.move (.t rfl)), Dp rfl hb21, Dp rfl hb21, Dp rfl hb21, Dp rfl hb21, Dn (.pickT (.t rfl) hb21 .bool), Dn (.move (.t rfl)), Dp rfl rfl, Dp rfl rfl, Dp rfl rfl, Dp rfl rfl, Dp rfl rfl, Dp rfl rfl, Dp rfl rfl, Dp rfl rfl, Dp rfl rfl, Dp rfl rfl, Dn (.pickT (.t rfl) rfl .bool), trivial⟩ <| Aq <| W.condT (.t rfl) <| Aw <| Am rfl rfl <| Ag rfl rfl <| Ao rfl (.assign .bool) <| WL.ns ?_
       have hr23 := Si hm
       clear hm
       subst hr23
       have hm := hk3
       try dsimp only at hm
       cases hm
       exact W.ret2 () rfl rfl (.t rfl) (.t rfl) ⟨rfl, rfl, trivial⟩
      ·obtain ⟨id, hv24, hm⟩ := Bs hm
       rcases iteR hm with ⟨hp26, hb25, hm⟩ | ⟨hp26, hb25, hm⟩
       ·refine W.draw [.c _, .c _, .c _, .c _, .c _, .c _, .c _, .c _, .c _, .c _, .c _, .c _, .c _, .c _, .c _, .c _, .c _, .c _, .c _, .c _] [([], [16]), ([0], []), ([1], []), ([2], [14]), ([2], [12]), ([2, 3, 4], []), ([2, 5], []), ([2, 6], []), ([7], []), ([8], [4]), ([8], [10]), ([8, 10], []), ([8, 11], []), ([8, 9, 12], []), ([8], [5]), ([8], [15]), ([8, 15], []), ([8, 14, 16], []), ([8, 13, 17], []), ([8, 18], [])] Mx rfl rfl rfl rfl ⟨Dn (.move (.t rfl)), Dn (.notB (.t rfl)), Dn (.move (.t rfl)), Dr rfl hb21 (.move (.t rfl)), Dr rfl hb21 (.move (.t rfl)), Dr rfl hb21 (.call C48 (slices_Equal_api_Id_api_Id_spec _ _ _ _ hv24) ⟨(.t rfl), (.t rfl), trivial⟩), Dr rfl hb21 (.notB (.t rfl)), Dn (.pickF (.t rfl) hb21 (.t rfl)), Dn (.move (.t rfl)), Dp rfl hb25, Dp rfl hb25, Dp rfl hb25, Dp rfl hb25, Dp rfl hb25, Dp rfl hb25, Dp rfl hb25, Dp rfl hb25, Dp rfl hb25, Dp rfl hb25, Dn (.pickT (.t rfl) hb25 .bool), trivial⟩ <| Aq <| W.condT (.t rfl) <| Aw <| Am rfl rfl <| Ag rfl rfl <| Ao rfl (.assign .bool) <| WL.ns ?_
        have hr27 := Si hm
        clear hm
        subst hr27
        have hm := hk3
        try dsimp only at hm
        cases hm
        exact W.ret2 () rfl rfl (.t rfl) (.t rfl) ⟨rfl, rfl, trivial⟩
       ·obtain ⟨v2, hv28, hm⟩ := Bs hm
        obtain ⟨sign, hv29, hm⟩ := Bs hm
        obtain ⟨v3, hv30, hm⟩ := Bs hm
        obtain ⟨sign1, hv31, hm⟩ := Bs hm
        refine W.draw [.c _, .c _, .c _, .c _, .c _, .c _, .c _, .c _, .c _, .c _, .c _, .c _, .c _, .c _, .c _, .c _, .c _, .c _, .c _, .c _] [([], [16]), ([0], []), ([1], []), ([2], [14]), ([2], [12]), ([2, 3, 4], []), ([2, 5], []), ([2, 6], []), ([7], []), ([8], [4]), ([8], [10]), ([8, 10], []), ([8, 11], []), ([8, 9, 12], []), ([8], [5]), ([8], [15]), ([8, 15], []), ([8, 14, 16], []), ([8, 13, 17], []), ([8, 18], [])] Mx rfl rfl rfl rfl ⟨Dn (.move (.t rfl)), Dn (.notB (.t rfl)), Dn (.move (.t rfl)), Dr rfl hb21 (.move (.t rfl)), Dr rfl hb21 (.move (.t rfl)), Dr rfl hb21 (.call C48 (slices_Equal_api_Id_api_Id_spec _ _ _ _ hv24) ⟨(.t rfl), (.t rfl), trivial⟩), Dr rfl hb21 (.notB (.t rfl)), Dn (.pickF (.t rfl) hb21 (.t rfl)), Dn (.move (.t rfl)), Dr rfl hb25 (.load ty91 (.t rfl)), Dr rfl hb25 (.fieldAddr U96 rfl J3 fapi_Cite_4 (.t rfl)), Dr rfl hb25 (.load ty3 (.t rfl)), Dr rfl hb25 (.subC hv28 (.t rfl) .i64), Dr rfl hb25 (.callG (rin := [(700000, GlE 0)]) C49 (equivalence_text_sign_spec _ _ _ hv29) ⟨rfl, trivial⟩ ⟨rfl, rfl, trivial⟩ ⟨(.t rfl), (.t rfl), trivial⟩), Dr rfl hb25 (.load ty91 (.t rfl)), Dr rfl hb25 (.move (.t rfl)), Dr rfl hb25 (.subC hv30 (.t rfl) .i64), Dr rfl hb25 (.callG (rin := [(700000, GlE 0)]) C49 (equivalence_text_sign_spec _ _ _ hv31) ⟨rfl, trivial⟩ ⟨rfl, rfl, trivial⟩ ⟨(.t rfl), (.t rfl), trivial⟩), Dr rfl hb25 (.neS (.t rfl) (.t rfl)), Dn (.pickF (.t rfl) hb25 (.t rfl)), trivial⟩ <| Aq <| W.cB hm (.t rfl) (fun hp33 hm => ?_) (fun hp33 hm => ?_)
        ·refine Aw <| Am rfl rfl <| Ag rfl rfl <| Ao rfl (.assign .bool) <| WL.ns ?_
         have hr34 := Si hm
         clear hm
         subst hr34
         have hm := hk3
         try dsimp only at hm
         cases hm
         exact W.ret2 () rfl rfl (.t rfl) (.t rfl) ⟨rfl, rfl, trivial⟩
        ·exact W.skip <| Aq <| W.region <| Ao rfl (.fieldAddr U96 rfl J3 fapi_Cite_4 (.t rfl)) <| Ao rfl (.load ty3 (.t rfl)) <| Am rfl rfl <| Ag rfl rfl <| Ag rfl rfl <| WL.nil <| WN.block <| WN.block <| WN.again n4 (((mget x.cites_ i zapi_Cite, mhas x.cites_ i).1).At, run.2.1) (Nat.lt_succ_self n4) hm ⟨.q rfl, .q rfl, .q rfl, .q rfl, .q rfl, trivial⟩ ⟨rfl, rfl, trivial⟩
     ·refine W.seq ?_
      rcases iteD hm with ⟨hp36, hb35, hm⟩ | ⟨hp36, hb35, hm⟩
      ·rcases iteD hm with ⟨hp38, hb37, hm⟩ | ⟨hp38, hb37, hm⟩
       ·obtain ⟨v4, hv39, hm⟩ := Bs hm
        obtain ⟨v5, hv40, hm⟩ := Bs hm
        refine W.draw [.c _, .c _, .c _, .c _, .c _, .c _, .c _, .c _, .c _, .c _, .c _, .c _, .c _, .c _, .c _, .c _, .c _, .c _, .c _, .c _, .c _, .c _, .c _, .c _, .c _, .c _] [([], [8]), ([], [4]), ([1], []), ([2], []), ([0, 3], []), ([4], []), ([5], [9]), ([5], [5]), ([5, 7], []), ([5, 8], []), ([5, 6, 9], []), ([5, 10], []), ([11], []), ([12], [4]), ([12, 13], []), ([12], [8]), ([12, 14, 15], []), ([12, 16], []), ([12], [5]), ([12, 18], []), ([12], [9]), ([12, 19, 20], []), ([12, 21], []), ([12, 17, 22], []), ([12, 23], []), ([24], [])] Mx rfl rfl rfl rfl (by exact ⟨Dn (.move (.t rfl)), Dn (.fieldAddr Try.underlying91 rfl J60 fequivalence_text_0 (.t rfl)), Dn (.load ty60 (.t rfl)), Dn (.lenL U60 (.t rfl)), Dn (.ltI (.t rfl) (.t rfl)), Dn (.move (.t rfl)), Dr rfl hb35 (.move (.t rfl)), Dr rfl hb35 (.fieldAddr Try.underlying91 rfl J60 fequivalence_text_0 (.t rfl)), Dr rfl hb35 (.load ty60 (.t rfl)), Dr rfl hb35 (.lenL U60 (.t rfl)), Dr rfl hb35 (.ltI (.t rfl) (.t rfl)), Dn (.pickT (.t rfl) hb35 (.t rfl)), Dn (.move (.t rfl)), Dr rfl hb37 (.fieldAddr Try.underlying91 rfl J60 fequivalence_text_0 (.t rfl)), Dr rfl hb37 (.load ty60 (.t rfl)), Dr rfl hb37 (.move (.t rfl)), Dr rfl hb37 (.idx hv39 U60 Z9 (.t rfl) (.t rfl)), Dr rfl hb37 (.load ty9 (.t rfl)), Dr rfl hb37 (.fieldAddr Try.underlying91 rfl J60 fequivalence_text_0 (.t rfl)), Dr rfl hb37 (.load ty60 (.t rfl)), Dr rfl hb37 (.move (.t rfl)), Dr rfl hb37 (.idx hv40 U60 Z9 (.t rfl) (.t rfl)), Dr rfl hb37 (.load ty9 (.t rfl)), Dr rfl hb37 (.eqS (.t rfl) (.t rfl)), Dn (.pickT (.t rfl) hb37 (.t rfl)), Dn (.assign (.t rfl)), trivial⟩) <| Aq <| W.cB hm (.t rfl) (fun hp42 hm => ?_) (fun hp42 hm => ?_)
        ·exact Aw <| Am rfl rfl <| WL.lenL (s := 87) (.t rfl) fun hl43 => Ao rfl (.addI1 (.t rfl) .i64 hp36 hl43) <| Ag rfl rfl <| WL.nr1 <| Am rfl rfl <| WL.lenL (s := 93) (.t rfl) fun hl44 => Ao rfl (.addI1 (.t rfl) .i64 hp38 hl44) <| Ag rfl rfl <| WL.nil <| WN.block <| WN.block <| WN.again n4 (i + 1, k + 1) (Nat.lt_succ_self n4) hm ⟨.q rfl, .q rfl, .q rfl, .q rfl, .q rfl, trivial⟩ ⟨rfl, rfl, trivial⟩
        ·refine Aw <| Am rfl rfl <| Ag rfl rfl <| Ao rfl (.assign .bool) <| WL.ns ?_
         have hr45 := Si hm
         clear hm
         subst hr45
         have hm := hk3
         try dsimp only at hm
         cases hm
         exact W.ret2 () rfl rfl (.t rfl) (.t rfl) ⟨rfl, rfl, trivial⟩
       ·refine W.draw [.c _, .c _, .c _, .c _, .c _, .c _, .c _, .c _, .c _, .c _, .c _, .c _, .c _, .c _, .c _, .c _, .c _, .c _, .c _, .c _, .c _, .c _, .c _, .c _, .c _, .c _] [([], [8]), ([], [4]), ([1], []), ([2], []), ([0, 3], []), ([4], []), ([5], [9]), ([5], [5]), ([5, 7], []), ([5, 8], []), ([5, 6, 9], []), ([5, 10], []), ([11], []), ([12], [4]), ([12, 13], []), ([12], [8]), ([12, 14, 15], []), ([12, 16], []), ([12], [5]), ([12, 18], []), ([12], [9]), ([12, 19, 20], []), ([12, 21], []), ([12, 17, 22], []), ([12, 23], []), ([24], [])] Mx rfl rfl rfl rfl (by exact ⟨Dn (.move (.t rfl)), Dn (.fieldAddr Try.underlying91 rfl J60 fequivalence_text_0 (.t rfl)), Dn (.load ty60 (.t rfl)), Dn (.lenL U60 (.t rfl)), Dn (.ltI (.t rfl) (.t rfl)), Dn (.move (.t rfl)), Dr rfl hb35 (.move (.t rfl)), Dr rfl hb35 (.fieldAddr Try.underlying91 rfl J60 fequivalence_text_0 (.t rfl)), Dr rfl hb35 (.load ty60 (.t rfl)), Dr rfl hb35 (.lenL U60 (.t rfl)), Dr rfl hb35 (.ltI (.t rfl) (.t rfl)), Dn (.pickT (.t rfl) hb35 (.t rfl)), Dn (.move (.t rfl)), Dp rfl hb37, Dp rfl hb37, Dp rfl hb37, Dp rfl hb37, Dp rfl hb37, Dp rfl hb37, Dp rfl hb37, Dp rfl hb37, Dp rfl hb37, Dp rfl hb37, Dp rfl hb37, Dn (.pickF (.t rfl) hb37 .bool), Dn (.assign (.t rfl)), trivial⟩) <| Aq <| W.condF (.t rfl) <| Aw <| Am rfl rfl <| Ag rfl rfl <| Ao rfl (.assign .bool) <| WL.ns ?_
        have hr46 := Si hm
        clear hm
        subst hr46
        have hm := hk3
        try dsimp only at hm
        cases hm
        exact W.ret2 () rfl rfl (.t rfl) (.t rfl) ⟨rfl, rfl, trivial⟩
      ·refine W.draw [.c _, .c _, .c _, .c _, .c (tB.is (decide (i < (x.words_.length : Int)))), .c (tB.is (decide (i < (x.words_.length : Int)))), .c _, .c _, .c _, .c _, .c _, .c (tB.is false), .c (tB.is false), .c _, .c _, .c _, .c _, .c _, .c _, .c _, .c _, .c _, .c _, .c _, .c (tB.is false), .c (tB.is false)] [([], [8]), ([], [4]), ([1], []), ([2], []), ([0, 3], []), ([4], []), ([5], [9]), ([5], [5]), ([5, 7], []), ([5, 8], []), ([5, 6, 9], []), ([5, 10], []), ([11], []), ([12], [4]), ([12, 13], []), ([12], [8]), ([12, 14, 15], []), ([12, 16], []), ([12], [5]), ([12, 18], []), ([12], [9]), ([12, 19, 20], []), ([12, 21], []), ([12, 17, 22], []), ([12, 23], []), ([24], [])] Mx rfl rfl rfl rfl (by exact ⟨Dn (.move (.t rfl)), Dn (.fieldAddr Try.underlying91 rfl J60 fequivalence_text_0 (.t rfl)), Dn (.load ty60 (.t rfl)), Dn (.lenL U60 (.t rfl)), Dn (.ltI (.t rfl) (.t rfl)), Dn (.move (.t rfl)), Dp rfl hb35, Dp rfl hb35, Dp rfl hb35, Dp rfl hb35, Dp rfl hb35, Dn (.pickF (.t rfl) hb35 .bool), Dn (.move (.t rfl)), Dp rfl rfl, Dp rfl rfl, Dp rfl rfl, Dp rfl rfl, Dp rfl rfl, Dp rfl rfl, Dp rfl rfl, Dp rfl rfl, Dp rfl rfl, Dp rfl rfl, Dp rfl rfl, Dn (.pickF (.t rfl) rfl .bool), Dn (.assign (.t rfl)), trivial⟩) <| Aq <| W.condF (.t rfl) <| Aw <| Am rfl rfl <| Ag rfl rfl <| Ao rfl (.assign .bool) <| WL.ns ?_
       have hr47 := Si hm
       clear hm
       subst hr47
       have hm := hk3
       try dsimp only at hm
       cases hm
       exact W.ret2 () rfl rfl (.t rfl) (.t rfl) ⟨rfl, rfl, trivial⟩
    ·have hm := hs14
     clear hs14
     refine W.region <| Am rfl rfl <| WL.mv rfl rfl ?_
     rcases iteB hm with ⟨hp17, hb16, hm⟩ | ⟨hp17, hb16, hm⟩
     ·exact Ax rfl hb16 (.move (.t rfl)) <| Ao rfl (.pickT (.t rfl) hb16 (.t rfl)) <| Ag rfl rfl <| WL.nil <| WN.meet carrie.2 (Si hm) ⟨.q rfl, .q rfl, .q rfl, .q rfl, .q rfl, .q rfl, .q rfl, .q rfl, trivial⟩ ⟨rfl, rfl, trivial⟩
     ·exact Ap rfl hb16 <| Ao rfl (.pickF (.t rfl) hb16 .bool) <| Ag rfl rfl <| WL.nil <| WN.meet false (Si hm) ⟨.q rfl, .q rfl, .q rfl, .q rfl, .q rfl, .q rfl, .q rfl, .q rfl, trivial⟩ ⟨rfl, rfl, trivial⟩
   ·refine W.exit rfl ?_
    have hr49 := Si hm
    clear hm
    subst hr49
    have hm := hk3
    try dsimp only at hm
    refine Aq <| Aw <| Ao rfl (.assign .i64) <| Ao rfl (.assign .bool) <| WL.ns ?_
    cases hm
    exact W.ret2 () rfl rfl (.t rfl) (.t rfl) ⟨rfl, rfl, trivial⟩
  ·have hm := hs6
   clear hs6
   refine W.region <| Am rfl rfl <| Ao rfl (.fieldAddr Try.underlying91 rfl J60 fequivalence_text_0 (.t rfl)) <| Ao rfl (.load ty60 (.t rfl)) <| Ao rfl (.lenL U60 (.t rfl)) <| Ao rfl (.ltI (.t rfl) (.t rfl)) <| WL.mv rfl rfl ?_
   rcases iteD hm with ⟨hp9, hb8, hm⟩ | ⟨hp9, hb8, hm⟩
   ·exact Ap rfl hb8 <| Ap rfl hb8 <| Ap rfl hb8 <| Ap rfl hb8 <| Ap rfl hb8 <| Ao rfl (.pickT (.t rfl) hb8 .bool) <| WL.nil <| WN.meet true (Si hm) ⟨.q rfl, .q rfl, .q rfl, .q rfl, .q rfl, .q rfl, trivial⟩ ⟨rfl, rfl, trivial⟩
   ·exact Ax rfl hb8 (.move (.t rfl)) <| Ax rfl hb8 (.fieldAddr Try.underlying91 rfl J60 fequivalence_text_0 (.t rfl)) <| Ax rfl hb8 (.load ty60 (.t rfl)) <| Ax rfl hb8 (.lenL U60 (.t rfl)) <| Ax rfl hb8 (.ltI (.t rfl) (.t rfl)) <| Ao rfl (.pickF (.t rfl) hb8 (.t rfl)) <| WL.nil <| WN.meet (decide (k < (y.words_.length : Int))) (Si hm) ⟨.q rfl, .q rfl, .q rfl, .q rfl, .q rfl, .q rfl, trivial⟩ ⟨rfl, rfl, trivial⟩

theorem equivalence_table_flaw_spec (n : Nat) (t : equivalence_table) (u : api_Unit) (x : List api_Meaning) (y : List api_Meaning) (r : api_Finding) (hm : M.equivalence_table_flaw n t u x y = some r) : FSpecR Try.prog 31 [(tequivalence_table.ptr t), (tapi_Unit.is u), ((tL tapi_Meaning).is x), ((tL tapi_Meaning).is y)] [(700000, GlE 0)] (fun kx : Unit => (tapi_Finding.is r)) (fun kx : Unit => [(700000, GlE 0)]) := by
 unfold M.equivalence_table_flaw at hm
 refine FSpecR.of Try.func31 rfl rfl rfl fun g0 => Aw <| Ao rfl (.box (.t rfl)) <| WL.opR rfl (OpR.alloc 8 ze53) fun b => Ar <| Ao rfl (.makeFunc (ok := (fun s : Int × Str × api_Finding => (fun s0 s1 => M.equivalence_table_flaw_1 s0 s1 u) s.1 s.2.1 = some s.2.2)) (As := (fun s : Int × Str × api_Finding => [I6.is s.1, tS.is s.2.1])) (A := (fun s : Int × Str × api_Finding => (tapi_Finding.is s.2.2))) (Cs := [(tapi_Unit.ptr u)]) (cap := [.tmp 5]) C38 ⟨(.t rfl), trivial⟩ (fun s hs => equivalence_table_flaw_1_spec _ _ _ _ hs)) <| Ag rfl rfl <| Ar <| Am rfl rfl <| Ao rfl (.fieldAddr U27 rfl J23 fapi_Unit_0 (.t rfl)) <| Ao rfl (.load ty23 (.t rfl)) ?_
 obtain ⟨goes, hv1, hm⟩ := Bs hm
 refine Ao rfl (.call C25 (equivalence_table_goes_spec _ _ _ _ hv1) ⟨(.t rfl), (.t rfl), trivial⟩) <| Am rfl rfl <| Ao rfl (.extract0 (.t rfl)) <| Ao rfl (.extract1 (.t rfl)) <| WL.opR rfl (OpR.alloc 10 ze23) fun b1 => WL.opU (OpR.storeB (b := b1) 10 Z23 (Cellable.is tapi_Id goes.1) rfl (.t rfl) (.t rfl)) fun _ => WL.sealed (t := tapi_Id) (u := goes.1) 10 10 rfl rfl <| Ag rfl rfl <| An <| W.seq <| W.seq <| W.draw [.c _, .c _, .c _, .c _, .c _, .c _, .c _, .c _] [([], [0]), ([0], []), ([1], []), ([2], []), ([], [5]), ([4], []), ([3, 5], []), ([6], [])] Mx rfl rfl rfl rfl ⟨Dn (.move (.t rfl)), Dn (.nilCheck (.t rfl)), Dn (.fieldAddr Try.underlying76 rfl J74 fequivalence_table_2 (.t rfl)), Dn (.load ty74 (.t rfl)), Dn (.fieldAddr U27 rfl J23 fapi_Unit_0 (.t rfl)), Dn (.load ty23 (.t rfl)), Dn (.lookupS U74 kt23 ze36 (.t rfl) (.t rfl)), Dn (.assign (.t rfl)), trivial⟩ <| Aq <| W.block <| Aw <| WL.mv rfl rfl ?_
 refine Ao rfl (.lenL U36 (.t rfl)) <| Ao rfl (.eqI (.t rfl) .i64) <| Ag rfl rfl <| An <| W.cD hm (.t rfl) (fun hp3 hm => ?_) (fun hp3 hm => ?_)
 ·refine Aw <| WL.mv rfl rfl ?_
  obtain ⟨v, hv4, hm⟩ := Bs hm
  refine Ao rfl (.callF (ok := (fun s : Int × Str × api_Finding => (fun s0 s1 => M.equivalence_table_flaw_1 s0 s1 u) s.1 s.2.1 = some s.2.2)) (As := (fun s : Int × Str × api_Finding => [I6.is s.1, tS.is s.2.1])) (A := (fun s : Int × Str × api_Finding => (tapi_Finding.is s.2.2))) (s := ((4 : Int), ([110, 111, 32, 100, 101, 115, 116, 105, 110, 97, 116, 105, 111, 110] : Str), v)) (.t rfl) hv4 ⟨.i64, (.str rfl (by simp [lim])), trivial⟩) <| WL.opU (OpR.storeB (b := b) 8 Z53 (Cellable.is tapi_Finding v) rfl (.t rfl) (.t rfl)) fun _ => WL.ns ?_
  cases hm
  exact W.retQ1 () rfl (ResAt.cell 8 Y53 Z53 rfl (.t rfl)) ⟨rfl, rfl, trivial⟩
 ·refine Aw <| Am rfl rfl <| Ao rfl (.lenL U36 (.t rfl)) <| Ao rfl (.gtI (.t rfl) .i64) <| Ag rfl rfl <| An <| W.cD hm (.t rfl) (fun hp6 hm => ?_) (fun hp6 hm => ?_)
  ·refine Aw <| WL.mv rfl rfl ?_
   obtain ⟨v1, hv7, hm⟩ := Bs hm
   refine Ao rfl (.callF (ok := (fun s : Int × Str × api_Finding => (fun s0 s1 => M.equivalence_table_flaw_1 s0 s1 u) s.1 s.2.1 = some s.2.2)) (As := (fun s : Int × Str × api_Finding => [I6.is s.1, tS.is s.2.1])) (A := (fun s : Int × Str × api_Finding => (tapi_Finding.is s.2.2))) (s := ((8 : Int), ([115, 101, 118, 101, 114, 97, 108, 32, 100, 101, 115, 116, 105, 110, 97, 116, 105, 111, 110, 115] : Str), v1)) (.t rfl) hv7 ⟨.i64, (.str rfl (by simp [lim])), trivial⟩) <| WL.opU (OpR.storeB (b := b) 8 Z53 (Cellable.is tapi_Finding v1) rfl (.t rfl) (.t rfl)) fun _ => WL.ns ?_
   cases hm
   exact W.retQ1 () rfl (ResAt.cell 8 Y53 Z53 rfl (.t rfl)) ⟨rfl, rfl, trivial⟩
  ·refine Aw <| Am rfl rfl <| Ao rfl (.notB (.t rfl)) <| Ag rfl rfl <| An <| W.cR hm (.t rfl) (fun hp9 hm => ?_) (fun hp9 hm => ?_)
   ·refine Aw <| WL.mv rfl rfl ?_
    obtain ⟨v2, hv10, hm⟩ := Bs hm
    refine Ao rfl (.callF (ok := (fun s : Int × Str × api_Finding => (fun s0 s1 => M.equivalence_table_flaw_1 s0 s1 u) s.1 s.2.1 = some s.2.2)) (As := (fun s : Int × Str × api_Finding => [I6.is s.1, tS.is s.2.1])) (A := (fun s : Int × Str × api_Finding => (tapi_Finding.is s.2.2))) (s := ((7 : Int), ([100, 101, 115, 116, 105, 110, 97, 116, 105, 111, 110, 32, 109, 105, 115, 115, 105, 110, 103] : Str), v2)) (.t rfl) hv10 ⟨.i64, (.str rfl (by simp [lim])), trivial⟩) <| WL.opU (OpR.storeB (b := b) 8 Z53 (Cellable.is tapi_Finding v2) rfl (.t rfl) (.t rfl)) fun _ => WL.ns ?_
    cases hm
    exact W.retQ1 () rfl (ResAt.cell 8 Y53 Z53 rfl (.t rfl)) ⟨rfl, rfl, trivial⟩
   ·refine W.skip <| WN.block <| Aq <| W.seq ?_
    obtain ⟨find, hv11, hm⟩ := Bs hm
    refine W.weakR (res' := [(700000, GlE 0), (8, (Bx 6 true 53 (tapi_Finding.is zapi_Finding) b))]) ⟨rfl, rfl, ⟨rfl, rfl, trivial⟩⟩ <| W.drawM [.c (tequivalence_table.ptr t), .c (tequivalence_table.ptr t), .c (tapi_Unit.ptr t.b_), .c (tapi_Unit.is t.b_), .c (tapi_Id.is goes.1), .c (Asn.tuple2 (tapi_Unit.is find.1) (tB.is find.2)), .c (Asn.tuple2 (tapi_Unit.is find.1) (tB.is find.2)), .c (tapi_Unit.is find.1), .c (tB.is find.2), .f (fun cv => (Bp (bk (cv 0)) 0)), .c Asn.any, .c (tB.is find.2)] [([], [0]), ([0], []), ([1], []), ([2], []), ([], [10]), ([3, 4], []), ([5], []), ([6], []), ([6], []), ([], []), ([7, 9], []), ([8], [])] [9, 10] [[], [], [], [], [], [], [], [], [], [true], [], []] (fun m cv => match m with | 0 => [(700000, GlE 0), (8, (Bx 6 true 53 (tapi_Finding.is zapi_Finding) b))] | 1 => [(13, (Bx 8 true 27 (tapi_Unit.is zapi_Unit) (bk (cv 0)))), (700000, GlE 0), (8, (Bx 6 true 53 (tapi_Finding.is zapi_Finding) b))] | _ => [(13, (Bx 8 true 27 (tapi_Unit.is find.1) (bk (cv 0)))), (700000, GlE 0), (8, (Bx 6 true 53 (tapi_Finding.is zapi_Finding) b))]) (fun _ => none) Mx rfl rfl rfl rfl rfl ⟨fun _ _ _ _ => rfl, ⟨fun _ _ _ _ => rfl, ⟨fun _ _ _ _ => rfl, ⟨fun _ _ _ _ => rfl, ⟨fun _ _ _ _ => rfl, ⟨fun _ _ _ _ => rfl, ⟨fun _ _ _ _ => rfl, ⟨fun _ _ _ _ => rfl, ⟨fun _ _ _ _ => rfl, ⟨fun m hm c t => by simp only [DA.at, upd_dep (r := [true]) (j := 0) rfl hm], ⟨fun _ _ _ _ => rfl, ⟨fun _ _ _ _ => rfl, trivial⟩⟩⟩⟩⟩⟩⟩⟩⟩⟩⟩⟩ rfl ⟨mo fun cv => Op1.move (.t rfl), ⟨mo fun cv => Op1.nilCheck (.t rfl), ⟨mo fun cv => Op1.fieldAddr Try.underlying76 rfl J27 fequivalence_table_1 (.t rfl), ⟨mo fun cv => Op1.load ty27 (.t rfl), ⟨mo fun cv => Op1.load ty23 (.t rfl), ⟨mo fun cv => Op1.call C39 (unit_Find_spec _ _ _ _ hv11) ⟨(.t rfl), (.t rfl), trivial⟩, ⟨mo fun cv => Op1.move (.t rfl), ⟨mo fun cv => Op1.extract0 (.t rfl), ⟨mo fun cv => Op1.extract1 (.t rfl), ⟨.inl rfl, ⟨.inl rfl, ⟨mo fun cv => Op1.assign (.t rfl), trivial⟩⟩⟩⟩⟩⟩⟩⟩⟩⟩⟩⟩ ⟨⟨_, _, _, [], (fun cv => [(13, (Bx 8 true 27 (tapi_Unit.is zapi_Unit) (bk (cv 0))))]), rfl, rfl, rfl, rfl, fun _ => rfl, fun _ _ => rfl, fun cv => OpR.viaB (OpR.alloc 13 ze27)⟩, ⟨⟨_, _, _, [13], (fun cv => [(13, (Bx 8 true 27 (tapi_Unit.is find.1) (bk (cv 0))))]), rfl, rfl, rfl, rfl, fun _ => rfl, fun _ _ => rfl, fun cv => OpR.viaU (OpR.storeB (b := (bk (cv 0))) 13 Z27 (Cellable.is tapi_Unit find.1) rfl (.t rfl) (.t rfl))⟩, trivial⟩⟩ fun cv => Aq <| W.seq <| W.block <| Aw <| Ao rfl (.fieldAddr U27 rfl J3 fapi_Unit_1 (.t rfl)) <| Ao rfl (.load ty3 (.t rfl)) <| Ao rfl (.fieldAddrB (o := 0) U27 rfl J3 (.t rfl) rfl) <| Ao rfl (.loadBF 13 rfl ty3 fapi_Unit_1 rfl (.t rfl)) <| Ao rfl (.neI (.t rfl) (.t rfl)) <| Ag rfl rfl <| An <| W.cD hm (.t rfl) (fun hp13 hm => ?_) (fun hp13 hm => ?_)
    ·refine Aw <| WL.mv rfl rfl ?_
     obtain ⟨v3, hv14, hm⟩ := Bs hm
     refine Ao rfl (.callF (ok := (fun s : Int × Str × api_Finding => (fun s0 s1 => M.equivalence_table_flaw_1 s0 s1 u) s.1 s.2.1 = some s.2.2)) (As := (fun s : Int × Str × api_Finding => [I6.is s.1, tS.is s.2.1])) (A := (fun s : Int × Str × api_Finding => (tapi_Finding.is s.2.2))) (s := ((9 : Int), ([107, 105, 110, 100] : Str), v3)) (.t rfl) hv14 ⟨.i64, (.str rfl (by simp [lim])), trivial⟩) <| WL.opU (OpR.storeB (b := b) 8 Z53 (Cellable.is tapi_Finding v3) rfl (.t rfl) (.t rfl)) fun _ => WL.ns ?_
     cases hm
     exact W.retQ1 () rfl (ResAt.cell 8 Y53 Z53 rfl (.t rfl)) ⟨rfl, rfl, trivial⟩
    ·refine W.seq ?_
     obtain ⟨texts, hv15, hm⟩ := Bs hm
     obtain ⟨texts1, hv16, hm⟩ := Bs hm
     obtain ⟨equal, hv17, hm⟩ := Bs hm
     refine W.draw [.c _, .c _, .c _, .c _, .c _, .c _, .c _, .c _, .c _] [([], [5]), ([0], []), ([1], []), ([], [13]), ([3], []), ([4], []), ([2, 5], []), ([6], []), ([7], [])] Mx rfl rfl rfl rfl ⟨Dn (.fieldAddr U27 rfl J24 fapi_Unit_3 (.t rfl)), Dn (.load ty24 (.t rfl)), Dn (.call C41 (equivalence_texts_spec _ _ hv15) ⟨(.t rfl), trivial⟩), Dn (.fieldAddrB (o := 0) U27 rfl J24 (.t rfl) rfl), Dn (.loadBF 13 rfl ty24 fapi_Unit_3 rfl (.t rfl)), Dn (.call C41 (equivalence_texts_spec _ _ hv16) ⟨(.t rfl), trivial⟩), Dn (.call C40 (wordseq_Equal_spec _ _ _ _ hv17) ⟨(.t rfl), (.t rfl), trivial⟩), Dn (.notB (.t rfl)), Dn (.assign (.t rfl)), trivial⟩ <| Aq <| W.cR hm (.t rfl) (fun hp19 hm => ?_) (fun hp19 hm => ?_)
     ·refine Aw <| WL.mv rfl rfl ?_
      obtain ⟨v4, hv20, hm⟩ := Bs hm
      refine Ao rfl (.callF (ok := (fun s : Int × Str × api_Finding => (fun s0 s1 => M.equivalence_table_flaw_1 s0 s1 u) s.1 s.2.1 = some s.2.2)) (As := (fun s : Int × Str × api_Finding => [I6.is s.1, tS.is s.2.1])) (A := (fun s : Int × Str × api_Finding => (tapi_Finding.is s.2.2))) (s := ((11 : Int), ([104, 101, 97, 100, 105, 110, 103] : Str), v4)) (.t rfl) hv20 ⟨.i64, (.str rfl (by simp [lim])), trivial⟩) <| WL.opU (OpR.storeB (b := b) 8 Z53 (Cellable.is tapi_Finding v4) rfl (.t rfl) (.t rfl)) fun _ => WL.ns ?_
      cases hm
      exact W.retQ1 () rfl (ResAt.cell 8 Y53 Z53 rfl (.t rfl)) ⟨rfl, rfl, trivial⟩
     ·refine W.skip <| WN.block <| Aq <| W.seq <| W.seq ?_
      obtain ⟨read, hv21, hm⟩ := Bs hm
      obtain ⟨read1, hv22, hm⟩ := Bs hm
      obtain ⟨differ, hv23, hm⟩ := Bs hm
      refine W.weakR (res' := [(700000, GlE 0), (8, (Bx 6 true 53 (tapi_Finding.is zapi_Finding) b)), (13, (Bx 8 true 27 (tapi_Unit.is find.1) (bk (cv 0))))]) ⟨rfl, rfl, ⟨rfl, rfl, ⟨rfl, rfl, trivial⟩⟩⟩ <| W.drawM [.c (tequivalence_table.ptr t), .c (tapi_Unit.is u), .c ((tL tapi_Meaning).is x), .c (tequivalence_text.is read), .c (tapi_Unit.is find.1), .c ((tL tapi_Meaning).is y), .c (tequivalence_text.is read1), .c (Asn.tuple2 (I6.is differ.1) (tB.is differ.2)), .c (Asn.tuple2 (I6.is differ.1) (tB.is differ.2)), .c (I6.is differ.1), .c (tB.is differ.2), .c (I6.is differ.1), .c (tB.is differ.2)] [([], [0]), ([], [5]), ([], [2]), ([1, 2], []), ([], [13]), ([], [3]), ([4, 5], []), ([0, 3, 6], []), ([7], []), ([8], []), ([8], []), ([9], []), ([10], [])] [] [[], [], [], [], [], [], [], [], [], [], [], [], []] (fun m cv1 => match m with  | _ => [(700000, GlE 0), (8, (Bx 6 true 53 (tapi_Finding.is zapi_Finding) b)), (13, (Bx 8 true 27 (tapi_Unit.is find.1) (bk (cv 0))))]) (fun _ => none) Mx rfl rfl rfl rfl rfl ⟨fun _ _ _ _ => rfl, ⟨fun _ _ _ _ => rfl, ⟨fun _ _ _ _ => rfl, ⟨fun _ _ _ _ => rfl, ⟨fun _ _ _ _ => rfl, ⟨fun _ _ _ _ => rfl, ⟨fun _ _ _ _ => rfl, ⟨fun _ _ _ _ => rfl, ⟨fun _ _ _ _ => rfl, ⟨fun _ _ _ _ => rfl, ⟨fun _ _ _ _ => rfl, ⟨fun _ _ _ _ => rfl, ⟨fun _ _ _ _ => rfl, trivial⟩⟩⟩⟩⟩⟩⟩⟩⟩⟩⟩⟩⟩ rfl ⟨mo fun cv1 => Op1.move (.t rfl), ⟨mo fun cv1 => Op1.load ty27 (.t rfl), ⟨mo fun cv1 => Op1.move (.t rfl), ⟨mo fun cv1 => Op1.call C43 (equivalence_read_spec _ _ _ _ hv21) ⟨(.t rfl), (.t rfl), trivial⟩, ⟨.inr ⟨fun cv1 => [(13, (Bx 8 true 27 (tapi_Unit.is find.1) (bk (cv 0))))], (AllUpTo.at (fun _ _ => ⟨rfl, rfl, trivial⟩)), fun cv1 => Op1.loadB 13 Y27 Z27 rfl (.t rfl)⟩, ⟨mo fun cv1 => Op1.move (.t rfl), ⟨mo fun cv1 => Op1.call C43 (equivalence_read_spec _ _ _ _ hv22) ⟨(.t rfl), (.t rfl), trivial⟩, ⟨.inr ⟨fun cv1 => [(700000, GlE 0)], (AllUpTo.at (fun _ _ => ⟨rfl, rfl, trivial⟩)), fun cv1 => Op1.callG (rin := [(700000, GlE 0)]) C42 (equivalence_table_differ_spec _ _ _ _ _ hv23) ⟨rfl, trivial⟩ ⟨rfl, rfl, trivial⟩ ⟨(.t rfl), (.t rfl), (.t rfl), trivial⟩⟩, ⟨mo fun cv1 => Op1.move (.t rfl), ⟨mo fun cv1 => Op1.extract0 (.t rfl), ⟨mo fun cv1 => Op1.extract1 (.t rfl), ⟨mo fun cv1 => Op1.assign (.t rfl), ⟨mo fun cv1 => Op1.assign (.t rfl), trivial⟩⟩⟩⟩⟩⟩⟩⟩⟩⟩⟩⟩⟩ trivial fun cv1 => Aq <| Aw <| Am rfl rfl <| An <| W.cB hm (.t rfl) (fun hp25 hm => ?_) (fun hp25 hm => ?_)
      ·refine Aw <| WL.mv rfl rfl ?_
       obtain ⟨v5, hv26, hm⟩ := Bs hm
       refine Ao rfl (.callF (ok := (fun s : Int × Str × api_Finding => (fun s0 s1 => M.equivalence_table_flaw_1 s0 s1 u) s.1 s.2.1 = some s.2.2)) (As := (fun s : Int × Str × api_Finding => [I6.is s.1, tS.is s.2.1])) (A := (fun s : Int × Str × api_Finding => (tapi_Finding.is s.2.2))) (s := ((2 : Int), ([119, 111, 114, 100, 115] : Str), v5)) (.t rfl) hv26 ⟨.i64, (.str rfl (by simp [lim])), trivial⟩) <| WL.opR rfl (OpR.alloc 17 ze53) fun b2 => WL.opU (OpR.storeB (b := b2) 17 Z53 (Cellable.is tapi_Finding v5) rfl (.t rfl) (.t rfl)) fun _ => Ar <| Am rfl rfl <| Ao rfl (.fieldAddrB (o := 0) U53 rfl J3 (.t rfl) rfl) <| WL.opU (OpR.storeBF (b := b2) 17 rfl ty3 sapi_Finding_0 rfl (by decide) (.t rfl) (.t rfl)) fun _ => Ar <| Ao rfl (.loadB 17 Y53 Z53 rfl (.t rfl)) <| WL.opU (OpR.storeB (b := b) 8 Z53 (Cellable.is tapi_Finding ({ v5 with At := differ.1 } : api_Finding)) rfl (.t rfl) (.t rfl)) fun _ => WL.ns ?_
       cases hm
       exact W.retQ1 () rfl (ResAt.cell 8 Y53 Z53 rfl (.t rfl)) ⟨rfl, rfl, trivial⟩
      ·refine W.skip <| Aq <| Aw <| Ao rfl (.build (s := tapi_Finding) (x := (⟨(0 : Int), zapi_Id, (0 : Int), ([] : Str)⟩ : api_Finding)) zapi_Finding_f rfl U53 (zapi_Finding_sz _ U53) ze53 rfl) <| WL.opU (OpR.storeB (b := b) 8 Z53 (Cellable.is tapi_Finding (⟨(0 : Int), zapi_Id, (0 : Int), ([] : Str)⟩ : api_Finding)) rfl (.t rfl) (.t rfl)) fun _ => WL.ns ?_
       cases hm
       exact W.retQ1 () rfl (ResAt.cell 8 Y53 Z53 rfl (.t rfl)) ⟨rfl, rfl, trivial⟩

theorem equivalence_Check_1_spec (f : api_Finding) (c : List api_Finding) (b : Nat) (k : Tok) (r : List api_Finding) (hm : M.equivalence_Check_1 f c = some r) : FSpecR Try.prog 29 [(tapi_Finding.is f), (Bp b 0)] [(1, (Bx 1 false 34 (tO tapi_Finding k c) b)), (1000001, Dec.Own tapi_Finding 53 k c.length)] (fun kx : Tok => (Asn.eq (.tuple #[]))) (fun kx : Tok => [(1, (Bx 1 false 34 (tO tapi_Finding kx r) b)), (1000001, Dec.Own tapi_Finding 53 kx r.length)]) := by
 unfold M.equivalence_Check_1 at hm
 refine FSpecR.of Try.func29 rfl rfl rfl fun g0 => Aw <| Ao rfl (.box (.t rfl)) <| Ar <| Ao rfl (.fieldAddr U53 rfl J51 fapi_Finding_2 (.t rfl)) <| Ao rfl (.load ty51 (.t rfl)) <| Ao rfl (.neI (.t rfl) .i64) <| An <| W.cD hm (.t rfl) (fun hp2 hm => ?_) (fun hp2 hm => ?_)
 ·refine W.region <| Ao rfl (.loadB 1 Y34 Z34 rfl (.t rfl)) <| Ao rfl (.load ty53 (.t rfl)) <| Ao rfl (.buildSlice (n := 1) (ys := [(0, f)]) (z := zapi_Finding) (xs := [f]) U34 el53 ze53 ⟨rfl, (.t rfl), trivial⟩ (by simp) (by decide) rfl) ?_
  obtain ⟨out, hv3, hm⟩ := Bs hm
  refine WL.opR rfl (OpR.appC (key := 1000001) hv3 U34 el53 (.t rfl) (.t rfl) rfl) fun k1 => WL.opU (OpR.storeB (b := b) 1 Z34 (Cellable.o tapi_Finding k1 out) rfl (.t rfl) (.t rfl)) fun _ => WL.nil ?_
  have hr := Si hm
  clear hm
  subst hr
  exact WN.fin k1 rfl (fun _ => rfl) ⟨rfl, rfl, ⟨rfl, rfl, trivial⟩⟩
 ·refine W.skip ?_
  have hr := Si hm
  clear hm
  subst hr
  exact WN.fin k rfl (fun _ => rfl) ⟨rfl, rfl, ⟨rfl, rfl, trivial⟩⟩

theorem equivalence_Check_2_spec (n : Nat) (u : api_Unit) (c : List api_Finding) (c1 : equivalence_table) (c2 : List api_Meaning) (c3 : List api_Meaning) (b : Nat) (b1 : Nat) (k : Tok) (r : List api_Finding) (hm : M.equivalence_Check_2 n u c c1 c2 c3 = some r) : FSpecR Try.prog 30 [(tapi_Unit.is u), (Bp b 0), ((tPt tequivalence_table).ptr c1), ((tL tapi_Meaning).ptr c2), ((tL tapi_Meaning).ptr c3)] [(1, (Bx 1 false 72 (cloA 29 [(Bp b1 0)]) b)), (850010, (Bx 1 false 34 (tO tapi_Finding k c) b1)), (1850010, Dec.Own tapi_Finding 53 k c.length), (700000, GlE 0)] (fun kx : Tok => (Asn.eq (.tuple #[]))) (fun kx : Tok => [(1, (Bx 1 false 72 (cloA 29 [(Bp b1 0)]) b)), (850010, (Bx 1 false 34 (tO tapi_Finding kx r) b1)), (1850010, Dec.Own tapi_Finding 53 kx r.length), (700000, GlE 0)]) := by
 unfold M.equivalence_Check_2 at hm
 refine FSpecR.of Try.func30 rfl rfl rfl fun g0 => Aw <| Ao rfl (.box (.t rfl)) <| WL.ns ?_
 obtain ⟨flaw1, hv2, hm⟩ := Bs hm
 obtain ⟨w1, hv3, hm⟩ := Bs hm
 refine W.weakR (res' := [(850010, (Bx 1 false 34 (tO tapi_Finding k c) b1)), (1850010, Dec.Own tapi_Finding 53 k c.length), (1, (Bx 1 false 72 (cloA 29 [(Bp b1 0)]) b)), (700000, GlE 0)]) ⟨rfl, rfl, ⟨rfl, rfl, ⟨rfl, rfl, ⟨rfl, rfl, trivial⟩⟩⟩⟩ <| W.drawM [.c (cloA 29 [(Bp b1 0)]), .c ((tPt tequivalence_table).is c1), .c (tapi_Unit.is u), .c ((tL tapi_Meaning).is c2), .c ((tL tapi_Meaning).is c3), .c (tapi_Finding.is flaw1), .c (Asn.eq (.tuple #[]))] [([], [1]), ([], [2]), ([], [5]), ([], [3]), ([], [4]), ([1, 2, 3, 4], []), ([0, 5], [])] [6] [[], [], [], [], [], [], []] (fun m cv => match m with | 0 => [(850010, (Bx 1 false 34 (tO tapi_Finding k c) b1)), (1850010, Dec.Own tapi_Finding 53 k c.length), (1, (Bx 1 false 72 (cloA 29 [(Bp b1 0)]) b)), (700000, GlE 0)] | _ => [(850010, (Bx 1 false 34 (tO tapi_Finding (cv 0) w1) b1)), (1850010, Dec.Own tapi_Finding 53 (cv 0) w1.length), (1, (Bx 1 false 72 (cloA 29 [(Bp b1 0)]) b)), (700000, GlE 0)]) (fun _ => none) Mx rfl rfl rfl rfl rfl ⟨fun _ _ _ _ => rfl, ⟨fun _ _ _ _ => rfl, ⟨fun _ _ _ _ => rfl, ⟨fun _ _ _ _ => rfl, ⟨fun _ _ _ _ => rfl, ⟨fun _ _ _ _ => rfl, ⟨fun _ _ _ _ => rfl, trivial⟩⟩⟩⟩⟩⟩⟩ rfl ⟨.inr ⟨fun cv => [(1, (Bx 1 false 72 (cloA 29 [(Bp b1 0)]) b))], (AllUpTo.at ⟨(fun _ _ => ⟨rfl, rfl, trivial⟩), (fun hw => absurd hw (by decide))⟩), fun cv => Op1.loadB 1 Y72 Z72 rfl (.t rfl)⟩, ⟨mo fun cv => Op1.load ty63 (.t rfl), ⟨mo fun cv => Op1.load ty27 (.t rfl), ⟨mo fun cv => Op1.load ty28 (.t rfl), ⟨mo fun cv => Op1.load ty28 (.t rfl), ⟨.inr ⟨fun cv => [(700000, GlE 0)], (AllUpTo.at ⟨(fun _ _ => ⟨rfl, rfl, trivial⟩), (fun hw => absurd hw (by decide))⟩), fun cv => Op1.callG (rin := [(700000, GlE 0)]) C31 (equivalence_table_flaw_spec _ _ _ _ _ _ hv2) ⟨rfl, trivial⟩ ⟨rfl, rfl, trivial⟩ ⟨(Opd.ofPt (.t rfl)), (.t rfl), (.t rfl), (.t rfl), trivial⟩⟩, ⟨.inl rfl, trivial⟩⟩⟩⟩⟩⟩⟩ ⟨⟨_, _, _, [850010, 1850010], (fun cv => [(850010, (Bx 1 false 34 (tO tapi_Finding (cv 0) w1) b1)), (1850010, Dec.Own tapi_Finding 53 (cv 0) w1.length)]), rfl, rfl, rfl, rfl, fun _ => rfl, fun _ _ => rfl, fun cv => OpR.callClo (us := [850010, 1850010]) (A := fun kx : Tok => (Asn.eq (.tuple #[]))) (As := [tapi_Finding.is flaw1]) C29 (.t rfl) (FSpecR.keys (rin' := [(850010, (Bx 1 false 34 (tO tapi_Finding k c) b1)), (1850010, Dec.Own tapi_Finding 53 k c.length)]) (out' := fun kx : Tok => [(850010, (Bx 1 false 34 (tO tapi_Finding kx w1) b1)), (1850010, Dec.Own tapi_Finding 53 kx w1.length)]) (equivalence_Check_1_spec _ _ _ _ _ hv3) rfl (fun _ => rfl)) rfl ⟨(.t rfl), trivial⟩⟩, trivial⟩ (fun cv => ?_)
 have hr := Si hm
 clear hm
 subst hr
 exact WN.fin (cv 0) rfl (fun _ => rfl) ⟨rfl, rfl, ⟨rfl, rfl, ⟨rfl, rfl, ⟨rfl, rfl, trivial⟩⟩⟩⟩

theorem equivalence_each_i0_spec : ∀ (n : Nat) (u : api_Unit) (c : List api_Finding) (c1 : equivalence_table) (c2 : List api_Meaning) (c3 : List api_Meaning) (b : Nat) (b1 : Nat) (k : Tok) (r : List api_Finding), M.equivalence_each_i0 n u c c1 c2 c3 = some r → FSpecR Try.prog 23 [(tapi_Unit.is u), (cloA 30 [(Bp b 0), ((tPt tequivalence_table).ptr c1), ((tL tapi_Meaning).ptr c2), ((tL tapi_Meaning).ptr c3)])] [(500100, (Bx 1 false 72 (cloA 29 [(Bp b1 0)]) b)), (801000, (Bx 1 false 34 (tO tapi_Finding k c) b1)), (1801000, Dec.Own tapi_Finding 53 k c.length), (700000, GlE 0)] (fun kx : Tok => (Asn.eq (.tuple #[]))) (fun kx : Tok => [(500100, (Bx 1 false 72 (cloA 29 [(Bp b1 0)]) b)), (801000, (Bx 1 false 34 (tO tapi_Finding kx r) b1)), (1801000, Dec.Own tapi_Finding 53 kx r.length), (700000, GlE 0)]) := by
 intro n
 induction n with
 | zero => intro u c c1 c2 c3 b b1 k r hm; cases hm
 | succ n ih =>
  intro u c c1 c2 c3 b b1 k r hm
  rw [M.equivalence_each_i0.eq_2] at hm
  refine FSpecR.of Try.func23 rfl rfl rfl fun g0 => Aw <| Ao rfl (.box (.t rfl)) <| Ar <| Ao rfl (.fieldAddr U27 rfl J25 fapi_Unit_5 (.t rfl)) <| Ao rfl (.load ty25 (.t rfl)) <| Ao rfl (.lenL U25 (.t rfl)) <| Ao rfl (.move .i64) <| An <| W.block ?_
  obtain ⟨s1, hs2, hk3⟩ := Bs hm
  clear hm
  refine W.loop (fun m (s : Int × List api_Unit × List api_Unit × (((List api_Finding)) × Tok)) => m = s.2.2.1.length ∧ u.Kids = s.2.1 ++ s.2.2.1 ∧ s.1 = (s.2.1.length : Int) ∧ M.equivalence_each_i0_loop1 n c1 c2 c3 (M.equivalence_each_i0 n) s.2.2.1 s.2.2.2.1 = some s1) (fun s => [(9, (I6.is s.1)), (1, (cloA 30 [(Bp b 0), ((tPt tequivalence_table).ptr c1), ((tL tapi_Meaning).ptr c2), ((tL tapi_Meaning).ptr c3)])), (7, ((tL tapi_Unit).is u.Kids)), (8, (I6.is (u.Kids.length : Int)))]) (fun s => [(1801000, Dec.Own tapi_Finding 53 s.2.2.2.2 s.2.2.2.1.length), (801000, (Bx 1 false 34 (tO tapi_Finding s.2.2.2.2 s.2.2.2.1) b1)), (500100, (Bx 1 false 72 (cloA 29 [(Bp b1 0)]) b)), (700000, GlE 0)]) u.Kids.length ((0 : Int), [], u.Kids, (c, k)) ⟨rfl, rfl, rfl, hs2⟩ ⟨.q rfl, .q rfl, .q rfl, .q rfl, trivial⟩ ⟨rfl, rfl, ⟨rfl, rfl, ⟨rfl, rfl, ⟨rfl, rfl, trivial⟩⟩⟩⟩ ?_
  rintro m ⟨i, pre, rest1, ⟨v, k1⟩⟩ ⟨hn7, hxs4, hi5, hm⟩
  try dsimp only at hn7 hxs4 hi5 hm
  change W _ _ _ _ _ _ _ [(9, (I6.is i)), (1, (cloA 30 [(Bp b 0), ((tPt tequivalence_table).ptr c1), ((tL tapi_Meaning).ptr c2), ((tL tapi_Meaning).ptr c3)])), (7, ((tL tapi_Unit).is u.Kids)), (8, (I6.is (u.Kids.length : Int)))] [(1801000, Dec.Own tapi_Finding 53 k1 v.length), (801000, (Bx 1 false 34 (tO tapi_Finding k1 v) b1)), (500100, (Bx 1 false 72 (cloA 29 [(Bp b1 0)]) b)), (700000, GlE 0)]
  refine W.lenL (s := 7) (.t rfl) fun hlen6 => Aw <| Ao rfl (.ltI (.t rfl) (.t rfl)) <| An <| W.seq <| W.cond (.t rfl) (fun hc9 => ?_) (fun hc9 => ?_)
  ·have hp10 := of_decide_eq_true hc9
   obtain ⟨e, es, hrest12⟩ := range_more hxs4 hi5 hp10
   subst hrest12
   rw [M.equivalence_each_i0_loop1.eq_2] at hm
   refine W.skip <| Aq <| W.seq <| W.block <| Aw <| Ao rfl (.idxPre hxs4 hi5 U25 Z27 (.t rfl) (.t rfl)) <| Ao rfl (.load ty27 (.t rfl)) <| WL.opR rfl (OpR.alloc 5 ze27) fun b2 => WL.opU (OpR.storeB (b := b2) 5 Z27 (Cellable.is tapi_Unit e) rfl (.t rfl) (.t rfl)) fun _ => WL.sealed (t := tapi_Unit) (u := e) 5 5 rfl rfl <| Ar <| Am rfl rfl <| Ao rfl (.load ty27 (.t rfl)) ?_
   obtain ⟨w, hv13, hm⟩ := Bs hm
   refine WL.weakR (res' := [(500100, (Bx 1 false 72 (cloA 29 [(Bp b1 0)]) b)), (801000, (Bx 1 false 34 (tO tapi_Finding k1 v) b1)), (1801000, Dec.Own tapi_Finding 53 k1 v.length), (700000, GlE 0)]) ⟨rfl, rfl, ⟨rfl, rfl, ⟨rfl, rfl, ⟨rfl, rfl, trivial⟩⟩⟩⟩ <| WL.opR rfl (OpR.callClo (us := [500100, 801000, 1801000, 700000]) (A := fun kx : Tok => (Asn.eq (.tuple #[]))) (As := [tapi_Unit.is e]) C30 (.t rfl) (FSpecR.keys (rin' := [(500100, (Bx 1 false 72 (cloA 29 [(Bp b1 0)]) b)), (801000, (Bx 1 false 34 (tO tapi_Finding k1 v) b1)), (1801000, Dec.Own tapi_Finding 53 k1 v.length), (700000, GlE 0)]) (out' := fun kx : Tok => [(500100, (Bx 1 false 72 (cloA 29 [(Bp b1 0)]) b)), (801000, (Bx 1 false 34 (tO tapi_Finding kx w) b1)), (1801000, Dec.Own tapi_Finding 53 kx w.length), (700000, GlE 0)]) (equivalence_Check_2_spec _ _ _ _ _ _ _ _ _ _ hv13) rfl (fun _ => rfl)) rfl ⟨(.t rfl), trivial⟩) fun k2 => WL.nr1 <| Ao rfl (.load ty27 (.t rfl)) <| WL.mv rfl rfl ?_
   obtain ⟨w1, hv14, hm⟩ := Bs hm
   exact WL.weakR (res' := [(500100, (Bx 1 false 72 (cloA 29 [(Bp b1 0)]) b)), (801000, (Bx 1 false 34 (tO tapi_Finding k2 w) b1)), (1801000, Dec.Own tapi_Finding 53 k2 w.length), (700000, GlE 0)]) ⟨rfl, rfl, ⟨rfl, rfl, ⟨rfl, rfl, ⟨rfl, rfl, trivial⟩⟩⟩⟩ <| WL.opR rfl (OpR.call (us := [500100, 801000, 1801000, 700000]) (A := fun kx : Tok => (Asn.eq (.tuple #[]))) C23 (FSpecR.keys (rin' := [(500100, (Bx 1 false 72 (cloA 29 [(Bp b1 0)]) b)), (801000, (Bx 1 false 34 (tO tapi_Finding k2 w) b1)), (1801000, Dec.Own tapi_Finding 53 k2 w.length), (700000, GlE 0)]) (out' := fun kx : Tok => [(500100, (Bx 1 false 72 (cloA 29 [(Bp b1 0)]) b)), (801000, (Bx 1 false 34 (tO tapi_Finding kx w1) b1)), (1801000, Dec.Own tapi_Finding 53 kx w1.length), (700000, GlE 0)]) (ih _ _ _ _ _ _ _ _ _ hv14) rfl (fun _ => rfl)) rfl ⟨(.t rfl), (.t rfl), trivial⟩) fun k3 => WL.nil <| WN.block <| Aq <| W.region <| Ao rfl (.addI (.t rfl) .i64 (range_inR hi5 hp10 hlen6)) <| Am rfl rfl <| WL.nil <| WN.again es.length (i + 1, pre ++ [e], es, (w1, k3)) (range_lt hn7) ⟨rfl, range_step hxs4, range_idx hi5, hm⟩ ⟨.q rfl, .q rfl, .q rfl, .q rfl, trivial⟩ ⟨rfl, rfl, ⟨rfl, rfl, ⟨rfl, rfl, ⟨rfl, rfl, trivial⟩⟩⟩⟩
  ·have hrest12 := range_end hxs4 hi5 (of_decide_eq_false hc9)
   subst hrest12
   rw [M.equivalence_each_i0_loop1.eq_1] at hm
   refine W.exit rfl ?_
   have hr15 := Si hm
   clear hm
   subst hr15
   have hm := hk3
   try dsimp only at hm
   have hr := Si hm
   clear hm
   subst hr
   exact WN.fin k1 rfl (fun _ => rfl) ⟨rfl, rfl, ⟨rfl, rfl, ⟨rfl, rfl, ⟨rfl, rfl, trivial⟩⟩⟩⟩

theorem equivalence_Check_3_spec (v : api_Unit) (c : equivalence_table) (c1 : List api_Finding) (b : Nat) (b1 : Nat) (k : Tok) (r : List api_Finding) (hm : M.equivalence_Check_3 v c c1 = some r) : FSpecR Try.prog 32 [(tapi_Unit.is v), ((tPt tequivalence_table).ptr c), (Bp b 0)] [(2, (Bx 1 false 72 (cloA 29 [(Bp b1 0)]) b)), (850020, (Bx 1 false 34 (tO tapi_Finding k c1) b1)), (1850020, Dec.Own tapi_Finding 53 k c1.length)] (fun kx : Tok => (Asn.eq (.tuple #[]))) (fun kx : Tok => [(2, (Bx 1 false 72 (cloA 29 [(Bp b1 0)]) b)), (850020, (Bx 1 false 34 (tO tapi_Finding kx r) b1)), (1850020, Dec.Own tapi_Finding 53 kx r.length)]) := by
 unfold M.equivalence_Check_3 at hm
 refine FSpecR.of Try.func32 rfl rfl rfl fun g0 => Aw <| Ao rfl (.box (.t rfl)) <| An <| W.seq <| W.draw [.c _, .c _, .c _, .c _, .c _, .c _, .c _, .c _] [([], [1]), ([0], []), ([1], []), ([2], []), ([], [3]), ([4], []), ([3, 5], []), ([6], [])] Mx rfl rfl rfl rfl ⟨Dn (.load ty63 (.t rfl)), Dn (.nilCheck (Opd.ofPt (.t rfl))), Dn (.fieldAddr Try.underlying76 rfl J74 fequivalence_table_3 (.t rfl)), Dn (.load ty74 (.t rfl)), Dn (.fieldAddr U27 rfl J23 fapi_Unit_0 (.t rfl)), Dn (.load ty23 (.t rfl)), Dn (.lookupS U74 kt23 ze36 (.t rfl) (.t rfl)), Dn (.assign (.t rfl)), trivial⟩ <| Aq <| W.block <| Aw <| Am rfl rfl <| Ao rfl (.lenL U36 (.t rfl)) <| Ao rfl (.eqI (.t rfl) .i64) <| Ag rfl rfl <| An <| W.cD hm (.t rfl) (fun hp2 hm => ?_) (fun hp2 hm => ?_)
 ·refine W.region <| Ao rfl (.loadB 2 Y72 Z72 rfl (.t rfl)) <| Ao rfl (.fieldAddr U27 rfl J23 fapi_Unit_0 (.t rfl)) <| Ao rfl (.load ty23 (.t rfl)) <| Ao rfl (.build (s := tapi_Finding) (x := (⟨(0 : Int), v.Id, (4 : Int), ([110, 111, 32, 115, 111, 117, 114, 99, 101] : Str)⟩ : api_Finding)) zapi_Finding_f rfl U53 (zapi_Finding_sz _ U53) ze53 ⟨_, tapi_Id, v.Id, _, _, rfl, Z23, (.t rfl), sapi_Finding_1, ⟨_, I6, (4 : Int), _, _, rfl, Z51, .i64, sapi_Finding_2, ⟨_, tS, ([110, 111, 32, 115, 111, 117, 114, 99, 101] : Str), _, _, rfl, Z9, (.str rfl (by decide)), sapi_Finding_3, rfl⟩⟩⟩) ?_
  obtain ⟨w, hv3, hm⟩ := Bs hm
  refine WL.weakR (res' := [(850020, (Bx 1 false 34 (tO tapi_Finding k c1) b1)), (1850020, Dec.Own tapi_Finding 53 k c1.length), (2, (Bx 1 false 72 (cloA 29 [(Bp b1 0)]) b))]) ⟨rfl, rfl, ⟨rfl, rfl, ⟨rfl, rfl, trivial⟩⟩⟩ <| WL.opR rfl (OpR.callClo (us := [850020, 1850020]) (A := fun kx : Tok => (Asn.eq (.tuple #[]))) (As := [tapi_Finding.is (⟨(0 : Int), v.Id, (4 : Int), ([110, 111, 32, 115, 111, 117, 114, 99, 101] : Str)⟩ : api_Finding)]) C29 (.t rfl) (FSpecR.keys (rin' := [(850020, (Bx 1 false 34 (tO tapi_Finding k c1) b1)), (1850020, Dec.Own tapi_Finding 53 k c1.length)]) (out' := fun kx : Tok => [(850020, (Bx 1 false 34 (tO tapi_Finding kx w) b1)), (1850020, Dec.Own tapi_Finding 53 kx w.length)]) (equivalence_Check_1_spec _ _ _ _ _ hv3) rfl (fun _ => rfl)) rfl ⟨(.t rfl), trivial⟩) fun k1 => WL.nil <| WN.block ?_
  have hr := Si hm
  clear hm
  subst hr
  exact WN.fin k1 rfl (fun _ => rfl) ⟨rfl, rfl, ⟨rfl, rfl, ⟨rfl, rfl, trivial⟩⟩⟩
 ·refine Aw <| Am rfl rfl <| Ao rfl (.lenL U36 (.t rfl)) <| Ao rfl (.gtI (.t rfl) .i64) <| Ag rfl rfl <| An <| W.cD hm (.t rfl) (fun hp5 hm => ?_) (fun hp5 hm => ?_)
  ·refine W.region <| Ao rfl (.loadB 2 Y72 Z72 rfl (.t rfl)) <| Ao rfl (.fieldAddr U27 rfl J23 fapi_Unit_0 (.t rfl)) <| Ao rfl (.load ty23 (.t rfl)) <| Ao rfl (.build (s := tapi_Finding) (x := (⟨(0 : Int), v.Id, (8 : Int), ([115, 101, 118, 101, 114, 97, 108, 32, 115, 111, 117, 114, 99, 101, 115] : Str)⟩ : api_Finding)) zapi_Finding_f rfl U53 (zapi_Finding_sz _ U53) ze53 ⟨_, tapi_Id, v.Id, _, _, rfl, Z23, (.t rfl), sapi_Finding_1, ⟨_, I6, (8 : Int), _, _, rfl, Z51, .i64, sapi_Finding_2, ⟨_, tS, ([115, 101, 118, 101, 114, 97, 108, 32, 115, 111, 117, 114, 99, 101, 115] : Str), _, _, rfl, Z9, (.str rfl (by decide)), sapi_Finding_3, rfl⟩⟩⟩) ?_
   obtain ⟨w1, hv6, hm⟩ := Bs hm
   refine WL.weakR (res' := [(850020, (Bx 1 false 34 (tO tapi_Finding k c1) b1)), (1850020, Dec.Own tapi_Finding 53 k c1.length), (2, (Bx 1 false 72 (cloA 29 [(Bp b1 0)]) b))]) ⟨rfl, rfl, ⟨rfl, rfl, ⟨rfl, rfl, trivial⟩⟩⟩ <| WL.opR rfl (OpR.callClo (us := [850020, 1850020]) (A := fun kx : Tok => (Asn.eq (.tuple #[]))) (As := [tapi_Finding.is (⟨(0 : Int), v.Id, (8 : Int), ([115, 101, 118, 101, 114, 97, 108, 32, 115, 111, 117, 114, 99, 101, 115] : Str)⟩ : api_Finding)]) C29 (.t rfl) (FSpecR.keys (rin' := [(850020, (Bx 1 false 34 (tO tapi_Finding k c1) b1)), (1850020, Dec.Own tapi_Finding 53 k c1.length)]) (out' := fun kx : Tok => [(850020, (Bx 1 false 34 (tO tapi_Finding kx w1) b1)), (1850020, Dec.Own tapi_Finding 53 kx w1.length)]) (equivalence_Check_1_spec _ _ _ _ _ hv6) rfl (fun _ => rfl)) rfl ⟨(.t rfl), trivial⟩) fun k2 => WL.nil <| WN.block ?_
   have hr := Si hm
   clear hm
   subst hr
   exact WN.fin k2 rfl (fun _ => rfl) ⟨rfl, rfl, ⟨rfl, rfl, ⟨rfl, rfl, trivial⟩⟩⟩
  ·refine W.skip <| WN.block ?_
   have hr := Si hm
   clear hm
   subst hr
   exact WN.fin k rfl (fun _ => rfl) ⟨rfl, rfl, ⟨rfl, rfl, ⟨rfl, rfl, trivial⟩⟩⟩

theorem equivalence_each_i1_spec : ∀ (n : Nat) (u : api_Unit) (c : equivalence_table) (c1 : List api_Finding) (b : Nat) (b1 : Nat) (k : Tok) (r : List api_Finding), M.equivalence_each_i1 n u c c1 = some r → FSpecR Try.prog 23 [(tapi_Unit.is u), (cloA 32 [((tPt tequivalence_table).ptr c), (Bp b 0)])] [(500101, (Bx 1 false 72 (cloA 29 [(Bp b1 0)]) b)), (801010, (Bx 1 false 34 (tO tapi_Finding k c1) b1)), (1801010, Dec.Own tapi_Finding 53 k c1.length)] (fun kx : Tok => (Asn.eq (.tuple #[]))) (fun kx : Tok => [(500101, (Bx 1 false 72 (cloA 29 [(Bp b1 0)]) b)), (801010, (Bx 1 false 34 (tO tapi_Finding kx r) b1)), (1801010, Dec.Own tapi_Finding 53 kx r.length)]) := by
 intro n
 induction n with
 | zero => intro u c c1 b b1 k r hm; cases hm
 | succ n ih =>
  intro u c c1 b b1 k r hm
  rw [M.equivalence_each_i1.eq_2] at hm
  refine FSpecR.of Try.func23 rfl rfl rfl fun g0 => Aw <| Ao rfl (.box (.t rfl)) <| Ar <| Ao rfl (.fieldAddr U27 rfl J25 fapi_Unit_5 (.t rfl)) <| Ao rfl (.load ty25 (.t rfl)) <| Ao rfl (.lenL U25 (.t rfl)) <| Ao rfl (.move .i64) <| An <| W.block ?_
  obtain ⟨s1, hs2, hk3⟩ := Bs hm
  clear hm
  refine W.loop (fun m (s : Int × List api_Unit × List api_Unit × (((List api_Finding)) × Tok)) => m = s.2.2.1.length ∧ u.Kids = s.2.1 ++ s.2.2.1 ∧ s.1 = (s.2.1.length : Int) ∧ M.equivalence_each_i1_loop1 c (M.equivalence_each_i1 n) s.2.2.1 s.2.2.2.1 = some s1) (fun s => [(9, (I6.is s.1)), (1, (cloA 32 [((tPt tequivalence_table).ptr c), (Bp b 0)])), (7, ((tL tapi_Unit).is u.Kids)), (8, (I6.is (u.Kids.length : Int)))]) (fun s => [(1801010, Dec.Own tapi_Finding 53 s.2.2.2.2 s.2.2.2.1.length), (801010, (Bx 1 false 34 (tO tapi_Finding s.2.2.2.2 s.2.2.2.1) b1)), (500101, (Bx 1 false 72 (cloA 29 [(Bp b1 0)]) b))]) u.Kids.length ((0 : Int), [], u.Kids, (c1, k)) ⟨rfl, rfl, rfl, hs2⟩ ⟨.q rfl, .q rfl, .q rfl, .q rfl, trivial⟩ ⟨rfl, rfl, ⟨rfl, rfl, ⟨rfl, rfl, trivial⟩⟩⟩ ?_
  rintro m ⟨i, pre, rest1, ⟨v, k1⟩⟩ ⟨hn7, hxs4, hi5, hm⟩
  try dsimp only at hn7 hxs4 hi5 hm
  change W _ _ _ _ _ _ _ [(9, (I6.is i)), (1, (cloA 32 [((tPt tequivalence_table).ptr c), (Bp b 0)])), (7, ((tL tapi_Unit).is u.Kids)), (8, (I6.is (u.Kids.length : Int)))] [(1801010, Dec.Own tapi_Finding 53 k1 v.length), (801010, (Bx 1 false 34 (tO tapi_Finding k1 v) b1)), (500101, (Bx 1 false 72 (cloA 29 [(Bp b1 0)]) b))]
  refine W.lenL (s := 7) (.t rfl) fun hlen6 => Aw <| Ao rfl (.ltI (.t rfl) (.t rfl)) <| An <| W.seq <| W.cond (.t rfl) (fun hc9 => ?_) (fun hc9 => ?_)
  ·have hp10 := of_decide_eq_true hc9
   obtain ⟨e, es, hrest12⟩ := range_more hxs4 hi5 hp10
   subst hrest12
   rw [M.equivalence_each_i1_loop1.eq_2] at hm
   refine W.skip <| Aq <| W.seq <| W.block <| Aw <| Ao rfl (.idxPre hxs4 hi5 U25 Z27 (.t rfl) (.t rfl)) <| Ao rfl (.load ty27 (.t rfl)) <| WL.opR rfl (OpR.alloc 5 ze27) fun b2 => WL.opU (OpR.storeB (b := b2) 5 Z27 (Cellable.is tapi_Unit e) rfl (.t rfl) (.t rfl)) fun _ => WL.sealed (t := tapi_Unit) (u := e) 5 5 rfl rfl <| Ar <| Am rfl rfl <| Ao rfl (.load ty27 (.t rfl)) ?_
   obtain ⟨w, hv13, hm⟩ := Bs hm
   refine WL.weakR (res' := [(500101, (Bx 1 false 72 (cloA 29 [(Bp b1 0)]) b)), (801010, (Bx 1 false 34 (tO tapi_Finding k1 v) b1)), (1801010, Dec.Own tapi_Finding 53 k1 v.length)]) ⟨rfl, rfl, ⟨rfl, rfl, ⟨rfl, rfl, trivial⟩⟩⟩ <| WL.opR rfl (OpR.callClo (us := [500101, 801010, 1801010]) (A := fun kx : Tok => (Asn.eq (.tuple #[]))) (As := [tapi_Unit.is e]) C32 (.t rfl) (FSpecR.keys (rin' := [(500101, (Bx 1 false 72 (cloA 29 [(Bp b1 0)]) b)), (801010, (Bx 1 false 34 (tO tapi_Finding k1 v) b1)), (1801010, Dec.Own tapi_Finding 53 k1 v.length)]) (out' := fun kx : Tok => [(500101, (Bx 1 false 72 (cloA 29 [(Bp b1 0)]) b)), (801010, (Bx 1 false 34 (tO tapi_Finding kx w) b1)), (1801010, Dec.Own tapi_Finding 53 kx w.length)]) (equivalence_Check_3_spec _ _ _ _ _ _ _ hv13) rfl (fun _ => rfl)) rfl ⟨(.t rfl), trivial⟩) fun k2 => WL.nr1 <| Ao rfl (.load ty27 (.t rfl)) <| WL.mv rfl rfl ?_
   obtain ⟨w1, hv14, hm⟩ := Bs hm
   exact WL.weakR (res' := [(500101, (Bx 1 false 72 (cloA 29 [(Bp b1 0)]) b)), (801010, (Bx 1 false 34 (tO tapi_Finding k2 w) b1)), (1801010, Dec.Own tapi_Finding 53 k2 w.length)]) ⟨rfl, rfl, ⟨rfl, rfl, ⟨rfl, rfl, trivial⟩⟩⟩ <| WL.opR rfl (OpR.call (us := [500101, 801010, 1801010]) (A := fun kx : Tok => (Asn.eq (.tuple #[]))) C23 (FSpecR.keys (rin' := [(500101, (Bx 1 false 72 (cloA 29 [(Bp b1 0)]) b)), (801010, (Bx 1 false 34 (tO tapi_Finding k2 w) b1)), (1801010, Dec.Own tapi_Finding 53 k2 w.length)]) (out' := fun kx : Tok => [(500101, (Bx 1 false 72 (cloA 29 [(Bp b1 0)]) b)), (801010, (Bx 1 false 34 (tO tapi_Finding kx w1) b1)), (1801010, Dec.Own tapi_Finding 53 kx w1.length)]) (ih _ _ _ _ _ _ _ hv14) rfl (fun _ => rfl)) rfl ⟨(.t rfl), (.t rfl), trivial⟩) fun k3 => WL.nil <| WN.block <| Aq <| W.region <| Ao rfl (.addI (.t rfl) .i64 (range_inR hi5 hp10 hlen6)) <| Am rfl rfl <| WL.nil <| WN.again es.length (i + 1, pre ++ [e], es, (w1, k3)) (range_lt hn7) ⟨rfl, range_step hxs4, range_idx hi5, hm⟩ ⟨.q rfl, .q rfl, .q rfl, .q rfl, trivial⟩ ⟨rfl, rfl, ⟨rfl, rfl, ⟨rfl, rfl, trivial⟩⟩⟩
  ·have hrest12 := range_end hxs4 hi5 (of_decide_eq_false hc9)
   subst hrest12
   rw [M.equivalence_each_i1_loop1.eq_1] at hm
   refine W.exit rfl ?_
   have hr15 := Si hm
   clear hm
   subst hr15
   have hm := hk3
   try dsimp only at hm
   have hr := Si hm
   clear hm
   subst hr
   exact WN.fin k1 rfl (fun _ => rfl) ⟨rfl, rfl, ⟨rfl, rfl, ⟨rfl, rfl, trivial⟩⟩⟩

theorem equivalence_Check_spec (n : Nat) (a : api_Unit) (b : api_Unit) (l : List api_Destination) (x : List api_Meaning) (y : List api_Meaning) (r : (List api_Finding)) (hm : M.equivalence_Check n a b l x y = some r) : FSpecR Try.prog 21 [(tapi_Unit.is a), (tapi_Unit.is b), ((tL tapi_Destination).is l), ((tL tapi_Meaning).is x), ((tL tapi_Meaning).is y)] [(700000, GlE 0)] (fun _ : Unit => ((tL tapi_Finding).is r)) (fun _ => []) := by
 unfold M.equivalence_Check at hm
 refine FSpecR.of Try.func21 rfl rfl rfl fun g0 => Aw <| Ao rfl (.box (.t rfl)) <| Ao rfl (.box (.t rfl)) <| Ao rfl (.box (.t rfl)) <| Ao rfl (.box (.t rfl)) <| Ao rfl (.assign (.nil (t := tapi_Finding))) <| Ar <| WL.addNil (t := tapi_Finding) (E := 53) 1000011 <| WL.opR rfl (OpR.allocO (t := tapi_Finding) 11 Try.zeroValue34) fun b1 => Ar <| Ao rfl (.load ty27 (.t rfl)) <| Ao rfl (.load ty27 (.t rfl)) <| WL.mv rfl rfl ?_
 obtain ⟨made, hv1, hm⟩ := Bs hm
 refine Ao rfl (.call C22 (equivalence_made_spec _ _ _ _ hv1) ⟨(.t rfl), (.t rfl), (.t rfl), trivial⟩) <| WL.opR rfl (OpR.allocP 12 Try.zeroValue63) fun b2 => WL.opU (OpR.storeB (b := b2) 12 Z63 (Cellable.is (tPt tequivalence_table) made) rfl (.t rfl) (Opd.toPt (Opd.ofPt (.t rfl)))) fun _ => WL.sealed (t := (tPt tequivalence_table)) (u := made) 12 12 rfl rfl <| Ar <| Ao rfl (.makeClo (Cs := [(Bp b1 0)]) (cap := [.tmp 11]) ⟨(.t rfl), trivial⟩) <| WL.opR rfl (OpR.allocF 13 Try.zeroValue72) fun b3 => WL.opU (OpR.storeB (b := b3) 13 Z72 (Cellable.clo 29 _) rfl (.t rfl) (.t rfl)) fun _ => Ar <| Ao rfl (.load ty27 (.t rfl)) <| Ao rfl (.makeClo (Cs := [(Bp b3 0), ((tPt tequivalence_table).ptr made), ((tL tapi_Meaning).ptr x), ((tL tapi_Meaning).ptr y)]) (cap := [.tmp 13, .tmp 12, .tmp 8, .tmp 9]) ⟨(.t rfl), (.t rfl), (.t rfl), (.t rfl), trivial⟩) ?_
 obtain ⟨out, hv2, hm⟩ := Bs hm
 refine WL.weakR (res' := [(13, (Bx 1 false 72 (cloA 29 [(Bp b1 0)]) b3)), (11, (Bx 1 false 34 (tO tapi_Finding (none : Tok) ([] : List api_Finding)) b1)), (1000011, Dec.Own tapi_Finding 53 (none : Tok) ([] : List api_Finding).length), (700000, GlE 0)]) ⟨rfl, rfl, ⟨rfl, rfl, ⟨rfl, rfl, ⟨rfl, rfl, trivial⟩⟩⟩⟩ <| WL.opR rfl (OpR.call (us := [13, 11, 1000011, 700000]) (A := fun kx : Tok => (Asn.eq (.tuple #[]))) C23 (FSpecR.keys (rin' := [(13, (Bx 1 false 72 (cloA 29 [(Bp b1 0)]) b3)), (11, (Bx 1 false 34 (tO tapi_Finding (none : Tok) ([] : List api_Finding)) b1)), (1000011, Dec.Own tapi_Finding 53 (none : Tok) ([] : List api_Finding).length), (700000, GlE 0)]) (out' := fun kx : Tok => [(13, (Bx 1 false 72 (cloA 29 [(Bp b1 0)]) b3)), (11, (Bx 1 false 34 (tO tapi_Finding kx out) b1)), (1000011, Dec.Own tapi_Finding 53 kx out.length), (700000, GlE 0)]) (equivalence_each_i0_spec _ _ _ _ _ _ _ _ _ _ hv2) rfl (fun _ => rfl)) rfl ⟨(.t rfl), (.t rfl), trivial⟩) fun k => Ar <| Ao rfl (.load ty27 (.t rfl)) <| Ao rfl (.makeClo (Cs := [((tPt tequivalence_table).ptr made), (Bp b3 0)]) (cap := [.tmp 12, .tmp 13]) ⟨(.t rfl), (.t rfl), trivial⟩) ?_
 obtain ⟨out1, hv3, hm⟩ := Bs hm
 refine WL.weakR (res' := [(13, (Bx 1 false 72 (cloA 29 [(Bp b1 0)]) b3)), (11, (Bx 1 false 34 (tO tapi_Finding k out) b1)), (1000011, Dec.Own tapi_Finding 53 k out.length), (700000, GlE 0)]) ⟨rfl, rfl, ⟨rfl, rfl, ⟨rfl, rfl, ⟨rfl, rfl, trivial⟩⟩⟩⟩ <| WL.opR rfl (OpR.call (us := [13, 11, 1000011]) (A := fun kx : Tok => (Asn.eq (.tuple #[]))) C23 (FSpecR.keys (rin' := [(13, (Bx 1 false 72 (cloA 29 [(Bp b1 0)]) b3)), (11, (Bx 1 false 34 (tO tapi_Finding k out) b1)), (1000011, Dec.Own tapi_Finding 53 k out.length)]) (out' := fun kx : Tok => [(13, (Bx 1 false 72 (cloA 29 [(Bp b1 0)]) b3)), (11, (Bx 1 false 34 (tO tapi_Finding kx out1) b1)), (1000011, Dec.Own tapi_Finding 53 kx out1.length)]) (equivalence_each_i1_spec _ _ _ _ _ _ _ _ hv3) rfl (fun _ => rfl)) rfl ⟨(.t rfl), (.t rfl), trivial⟩) fun k1 => An <| W.seq <| Aw <| Am rfl rfl <| Ao rfl (.lenL U32 (.t rfl)) <| Ao rfl (.move .i64) <| An <| W.block ?_
 obtain ⟨s4, hs5, hk6⟩ := Bs hm
 clear hm
 refine W.loop (fun m (s : Int × List api_Destination × List api_Destination × (((List api_Finding)) × Tok)) => m = s.2.2.1.length ∧ l = s.2.1 ++ s.2.2.1 ∧ s.1 = (s.2.1.length : Int) ∧ M.equivalence_Check_loop1 n a s.2.2.1 s.1 s.2.2.2.1 = some s4) (fun s => [(29, (I6.is s.1)), (5, (tapi_Unit.ptr a)), (11, (Bp b1 0)), (13, (Bp b3 0)), (27, ((tL tapi_Destination).is l)), (28, (I6.is (l.length : Int)))]) (fun s => [(1000011, Dec.Own tapi_Finding 53 s.2.2.2.2 s.2.2.2.1.length), (11, (Bx 1 false 34 (tO tapi_Finding s.2.2.2.2 s.2.2.2.1) b1)), (13, (Bx 1 false 72 (cloA 29 [(Bp b1 0)]) b3)), (700000, GlE 0)]) l.length ((0 : Int), [], l, (out1, k1)) ⟨rfl, rfl, rfl, hs5⟩ ⟨.q rfl, .q rfl, .q rfl, .q rfl, .q rfl, .q rfl, trivial⟩ ⟨rfl, rfl, ⟨rfl, rfl, ⟨rfl, rfl, ⟨rfl, rfl, trivial⟩⟩⟩⟩ ?_
 rintro m ⟨i, pre, rest1, ⟨out2, k2⟩⟩ ⟨hn10, hxs7, hi8, hm⟩
 try dsimp only at hn10 hxs7 hi8 hm
 change W _ _ _ _ _ _ _ [(29, (I6.is i)), (5, (tapi_Unit.ptr a)), (11, (Bp b1 0)), (13, (Bp b3 0)), (27, ((tL tapi_Destination).is l)), (28, (I6.is (l.length : Int)))] [(1000011, Dec.Own tapi_Finding 53 k2 out2.length), (11, (Bx 1 false 34 (tO tapi_Finding k2 out2) b1)), (13, (Bx 1 false 72 (cloA 29 [(Bp b1 0)]) b3)), (700000, GlE 0)]
 refine W.lenL (s := 27) (.t rfl) fun hlen9 => Aw <| Ao rfl (.ltI (.t rfl) (.t rfl)) <| An <| W.seq <| W.cond (.t rfl) (fun hc12 => ?_) (fun hc12 => ?_)
 ·have hp13 := of_decide_eq_true hc12
  obtain ⟨e, es, hrest15⟩ := range_more hxs7 hi8 hp13
  subst hrest15
  rw [M.equivalence_Check_loop1.eq_2] at hm
  refine W.skip <| Aq <| W.seq <| W.block <| Aw <| Am rfl rfl <| Ao rfl (.idxPre hxs7 hi8 U32 Z56 (.t rfl) (.t rfl)) <| Ao rfl (.load ty56 (.t rfl)) <| WL.opR rfl (OpR.alloc 15 ze56) fun b4 => Ag rfl rfl <| WL.opU (OpR.storeB (b := b4) 15 Z56 (Cellable.is tapi_Destination e) rfl (.t rfl) (.t rfl)) fun _ => WL.sealed (t := tapi_Destination) (u := e) 15 15 rfl rfl <| Ar <| Ao rfl (.load ty27 (.t rfl)) <| Ao rfl (.fieldAddr U56 rfl J23 fapi_Destination_0 (.t rfl)) <| Ao rfl (.load ty23 (.t rfl)) ?_
  obtain ⟨inner, hv16, hm⟩ := Bs hm
  refine Ao rfl (.call C33 (equivalence_inner_spec _ _ _ _ hv16) ⟨(.t rfl), (.t rfl), trivial⟩) <| Ao rfl (.notB (.t rfl)) <| An <| W.cR hm (.t rfl) (fun hp18 hm => ?_) (fun hp18 hm => ?_)
  ·refine W.region <| Ao rfl (.loadB 13 Y72 Z72 rfl (.t rfl)) <| Am rfl rfl <| Ao rfl (.fieldAddr U56 rfl J23 fapi_Destination_0 (.t rfl)) <| Ao rfl (.load ty23 (.t rfl)) <| Ao rfl (.build (s := tapi_Finding) (x := (⟨i, e.From, (1 : Int), ([117, 110, 107, 110, 111, 119, 110, 32, 115, 111, 117, 114, 99, 101] : Str)⟩ : api_Finding)) zapi_Finding_f rfl U53 (zapi_Finding_sz _ U53) ze53 ⟨_, I6, i, _, _, rfl, Z3, (.t rfl), sapi_Finding_0, ⟨_, tapi_Id, e.From, _, _, rfl, Z23, (.t rfl), sapi_Finding_1, ⟨_, I6, (1 : Int), _, _, rfl, Z51, .i64, sapi_Finding_2, ⟨_, tS, ([117, 110, 107, 110, 111, 119, 110, 32, 115, 111, 117, 114, 99, 101] : Str), _, _, rfl, Z9, (.str rfl (by decide)), sapi_Finding_3, rfl⟩⟩⟩⟩) ?_
   obtain ⟨out3, hv19, hm⟩ := Bs hm
   exact WL.weakR (res' := [(11, (Bx 1 false 34 (tO tapi_Finding k2 out2) b1)), (1000011, Dec.Own tapi_Finding 53 k2 out2.length), (13, (Bx 1 false 72 (cloA 29 [(Bp b1 0)]) b3)), (700000, GlE 0)]) ⟨rfl, rfl, ⟨rfl, rfl, ⟨rfl, rfl, ⟨rfl, rfl, trivial⟩⟩⟩⟩ <| WL.opR rfl (OpR.callClo (us := [11, 1000011]) (A := fun kx : Tok => (Asn.eq (.tuple #[]))) (As := [tapi_Finding.is (⟨i, e.From, (1 : Int), ([117, 110, 107, 110, 111, 119, 110, 32, 115, 111, 117, 114, 99, 101] : Str)⟩ : api_Finding)]) C29 (.t rfl) (FSpecR.keys (rin' := [(11, (Bx 1 false 34 (tO tapi_Finding k2 out2) b1)), (1000011, Dec.Own tapi_Finding 53 k2 out2.length)]) (out' := fun kx : Tok => [(11, (Bx 1 false 34 (tO tapi_Finding kx out3) b1)), (1000011, Dec.Own tapi_Finding 53 kx out3.length)]) (equivalence_Check_1_spec _ _ _ _ _ hv19) rfl (fun _ => rfl)) rfl ⟨(.t rfl), trivial⟩) fun k3 => WL.nil <| WN.block <| Aq <| W.region <| Ao rfl (.addI (.t rfl) .i64 (range_inR hi8 hp13 hlen9)) <| Am rfl rfl <| WL.nil <| WN.again es.length (i + 1, pre ++ [e], es, (out3, k3)) (range_lt hn10) ⟨rfl, range_step hxs7, range_idx hi8, hm⟩ ⟨.q rfl, .q rfl, .q rfl, .q rfl, .q rfl, .q rfl, trivial⟩ ⟨rfl, rfl, ⟨rfl, rfl, ⟨rfl, rfl, ⟨rfl, rfl, trivial⟩⟩⟩⟩
  ·exact W.skip <| WN.block <| Aq <| W.region <| Ao rfl (.addI (.t rfl) .i64 (range_inR hi8 hp13 hlen9)) <| Am rfl rfl <| WL.nil <| WN.again es.length (i + 1, pre ++ [e], es, (out2, k2)) (range_lt hn10) ⟨rfl, range_step hxs7, range_idx hi8, hm⟩ ⟨.q rfl, .q rfl, .q rfl, .q rfl, .q rfl, .q rfl, trivial⟩ ⟨rfl, rfl, ⟨rfl, rfl, ⟨rfl, rfl, ⟨rfl, rfl, trivial⟩⟩⟩⟩
 ·have hrest15 := range_end hxs7 hi8 (of_decide_eq_false hc12)
  subst hrest15
  rw [M.equivalence_Check_loop1.eq_1] at hm
  refine W.exit rfl ?_
  have hr20 := Si hm
  clear hm
  subst hr20
  have hm := hk6
  try dsimp only at hm
  refine Aq <| Aw <| Ao rfl (.loadB 11 Y34 Z34 rfl (.t rfl)) <| Ag rfl rfl <| WL.ns ?_
  cases hm
  exact W.ret1 () rfl (Opd.own (.t rfl)) trivial

theorem equivalence_Equivalent_spec (n : Nat) (a : api_Unit) (b : api_Unit) (l : List api_Destination) (x : List api_Meaning) (y : List api_Meaning) (r : Bool) (hm : M.equivalence_Equivalent n a b l x y = some r) : FSpecR Try.prog 11 [(tapi_Unit.is a), (tapi_Unit.is b), ((tL tapi_Destination).is l), ((tL tapi_Meaning).is x), ((tL tapi_Meaning).is y)] [(700000, GlE 0)] (fun _ : Unit => (tB.is r)) (fun _ => []) := by
 unfold M.equivalence_Equivalent at hm
 refine FSpecR.of Try.func11 rfl rfl rfl fun g0 => Aw <| Ao rfl (.box (.t rfl)) <| Ao rfl (.box (.t rfl)) <| Ao rfl (.assign .bool) <| Ar <| Ao rfl (.load ty27 (.t rfl)) <| Ao rfl (.load ty27 (.t rfl)) <| Am rfl rfl <| Am rfl rfl <| WL.mv rfl rfl ?_
 obtain ⟨check, hv1, hm⟩ := Bs hm
 refine Ao rfl (.callG (rin := [(700000, GlE 0)]) C21 (equivalence_Check_spec _ _ _ _ _ _ _ hv1) ⟨rfl, trivial⟩ ⟨rfl, rfl, trivial⟩ ⟨(.t rfl), (.t rfl), (.t rfl), (.t rfl), (.t rfl), trivial⟩) <| Ao rfl (.lenL U34 (.t rfl)) <| Ao rfl (.eqI (.t rfl) .i64) <| Ag rfl rfl <| WL.ns ?_
 cases hm
 exact W.ret1 () rfl (.t rfl) trivial

theorem equivalence_CheckWords_spec (n : Nat) (a : api_Unit) (b : api_Unit) (l : List api_Destination) (r : (List api_Finding)) (hm : M.equivalence_CheckWords n a b l = some r) : FSpecR Try.prog 12 [(tapi_Unit.is a), (tapi_Unit.is b), ((tL tapi_Destination).is l)] [(700000, GlE 0)] (fun _ : Unit => ((tL tapi_Finding).is r)) (fun _ => []) := by
 unfold M.equivalence_CheckWords at hm
 refine FSpecR.of Try.func12 rfl rfl rfl fun g0 => Aw <| Ao rfl (.box (.t rfl)) <| Ao rfl (.box (.t rfl)) <| Ao rfl (.assign (.nil (t := tapi_Finding))) <| Ar <| Ao rfl (.load ty27 (.t rfl)) <| Ao rfl (.load ty27 (.t rfl)) <| WL.mv rfl rfl ?_
 obtain ⟨check, hv1, hm⟩ := Bs hm
 refine Ao rfl (.callG (rin := [(700000, GlE 0)]) C21 (equivalence_Check_spec _ _ _ _ _ _ _ hv1) ⟨rfl, trivial⟩ ⟨rfl, rfl, trivial⟩ ⟨(.t rfl), (.t rfl), (.t rfl), (.nil (t := tapi_Meaning)), (.nil (t := tapi_Meaning)), trivial⟩) <| Ag rfl rfl <| WL.ns ?_
 cases hm
 exact W.ret1 () rfl (.t rfl) trivial

theorem unit_Parent_1_spec (n : Nat) (k : api_Unit) (c : api_Id) (r : Bool) (hm : M.unit_Parent_1 n k c = some r) : FSpec Try.prog 36 [(tapi_Unit.is k), (tapi_Id.ptr c)] (tB.is r) := by
 unfold M.unit_Parent_1 at hm
 refine FSpec.of Try.func36 rfl rfl rfl fun g0 => Aw <| Ao rfl (.box (.t rfl)) <| Ao rfl (.assign .bool) <| Ar <| Ao rfl (.load ty27 (.t rfl)) <| Ao rfl (.load ty23 (.t rfl)) ?_
 obtain ⟨way, hv1, hm⟩ := Bs hm
 refine Ao rfl (.call C34 (unit_way_spec _ _ _ _ hv1) ⟨(.t rfl), (.t rfl), trivial⟩) <| Ao rfl (.neNil U25 (.t rfl)) <| Ag rfl rfl <| WL.ns ?_
 cases hm
 exact W.ret1 () rfl (.t rfl) trivial

theorem slices_IndexFunc_api_Unit_api_Unit_spec (n : Nat) (s0_ : List api_Unit) (f : api_Unit → Option Bool) (r : Int) (hm : M.slices_IndexFunc_api_Unit_api_Unit n s0_ f = some r) : FSpec Try.prog 35 [((tL tapi_Unit).is s0_), (tF Try.prog (fun s : api_Unit × Bool => f s.1 = some s.2) (fun s : api_Unit × Bool => [tapi_Unit.is s.1]) (fun s : api_Unit × Bool => (tB.is s.2)))] (I6.is r) := by
 unfold M.slices_IndexFunc_api_Unit_api_Unit at hm
 refine FSpec.of Try.func35 rfl rfl rfl fun g0 => Aw <| Ao rfl (.assign .i64) <| An <| W.seq <| Aw <| Am rfl rfl <| Ao rfl (.lenL U25 (.t rfl)) <| Ao rfl (.move .i64) <| An <| W.block ?_
 obtain ⟨s1, hs2, hk3⟩ := Bs hm
 clear hm
 refine W.loop (fun m (s : Int) => M.slices_IndexFunc_api_Unit_api_Unit_loop1 s0_ f m s = some s1) (fun s => [(8, (I6.is s)), (0, ((tL tapi_Unit).is s0_)), (1, (tF Try.prog (fun s : api_Unit × Bool => f s.1 = some s.2) (fun s : api_Unit × Bool => [tapi_Unit.is s.1]) (fun s : api_Unit × Bool => (tB.is s.2)))), (7, (I6.is (s0_.length : Int)))]) (fun s => []) _ (0 : Int) hs2 ⟨.q rfl, .q rfl, .q rfl, .q rfl, trivial⟩ trivial ?_
 rintro n4 v hm
 try dsimp only at hm
 change W _ _ _ _ _ _ _ [(8, (I6.is v)), (0, ((tL tapi_Unit).is s0_)), (1, (tF Try.prog (fun s : api_Unit × Bool => f s.1 = some s.2) (fun s : api_Unit × Bool => [tapi_Unit.is s.1]) (fun s : api_Unit × Bool => (tB.is s.2)))), (7, (I6.is (s0_.length : Int)))] []
 cases n4 with
 | zero => rw [M.slices_IndexFunc_api_Unit_api_Unit_loop1.eq_1] at hm; cases hm
 | succ n4 =>
  rw [M.slices_IndexFunc_api_Unit_api_Unit_loop1.eq_2] at hm
  refine Aw <| Ao rfl (.ltI (.t rfl) (.t rfl)) <| An <| W.seq <| W.cD hm (.t rfl) (fun hp6 hm => ?_) (fun hp6 hm => ?_)
  ·refine W.skip <| Aq <| W.seq <| W.block <| Aw <| Am rfl rfl <| Ag rfl rfl <| Ar <| Am rfl rfl <| Am rfl rfl <| WL.mv rfl rfl ?_
   obtain ⟨v1, hv7, hm⟩ := Bs hm
   refine Ao rfl (.idx hv7 U25 Z27 (.t rfl) (.t rfl)) <| Ao rfl (.load ty27 (.t rfl)) ?_
   obtain ⟨v2, hv8, hm⟩ := Bs hm
   refine Ao rfl (.callF (ok := (fun s : api_Unit × Bool => f s.1 = some s.2)) (As := (fun s : api_Unit × Bool => [tapi_Unit.is s.1])) (A := (fun s : api_Unit × Bool => (tB.is s.2))) (s := (v1, v2)) (.t rfl) hv8 ⟨(.t rfl), trivial⟩) <| An <| W.cB hm (.t rfl) (fun hp10 hm => ?_) (fun hp10 hm => ?_)
   ·refine Aw <| Am rfl rfl <| Ag rfl rfl <| WL.ns ?_
    have hr11 := Si hm
    clear hm
    subst hr11
    have hm := hk3
    try dsimp only at hm
    cases hm
    exact W.ret1 () rfl (.t rfl) trivial
   ·exact W.skip <| WN.block <| Aq <| W.region <| WL.lenL (s := 0) (.t rfl) fun hl12 => Ao rfl (.addI1 (.t rfl) .i64 hp6 hl12) <| Am rfl rfl <| WL.nil <| WN.again n4 (v + 1) (Nat.lt_succ_self n4) hm ⟨.q rfl, .q rfl, .q rfl, .q rfl, trivial⟩ trivial
  ·refine W.exit rfl ?_
   have hr13 := Si hm
   clear hm
   subst hr13
   have hm := hk3
   try dsimp only at hm
   refine Aq <| Aw <| Ao rfl (.assign .i64) <| WL.ns ?_
   cases hm
   exact W.ret1 () rfl (.t rfl) trivial

theorem unit_Parent_spec (n : Nat) (u : api_Unit) (id : api_Id) (r : api_Id × Int × Bool) (hm : M.unit_Parent n u id = some r) : FSpec Try.prog 26 [(tapi_Unit.is u), (tapi_Id.is id)] (Asn.tuple3 (tapi_Id.is r.1) (I6.is r.2.1) (tB.is r.2.2)) := by
 unfold M.unit_Parent at hm
 refine FSpec.of Try.func26 rfl rfl rfl fun g0 => Aw <| Ao rfl (.box (.t rfl)) <| Ao rfl (.box (.t rfl)) <| WL.opR rfl (OpR.alloc 4 ze23) fun b => Ao rfl (.assign .i64) <| Ao rfl (.assign .bool) <| Ar <| Ao rfl (.load ty27 (.t rfl)) <| Ao rfl (.load ty23 (.t rfl)) ?_
 obtain ⟨way, hv1, hm⟩ := Bs hm
 refine Ao rfl (.call C34 (unit_way_spec _ _ _ _ hv1) ⟨(.t rfl), (.t rfl), trivial⟩) <| Ag rfl rfl <| An <| W.seq <| Aw <| Am rfl rfl <| Ao rfl (.lenL U25 (Opd.tLn (.t rfl))) <| Ao rfl (.ltI (.t rfl) .i64) <| An <| W.cD hm (.t rfl) (fun hp3 hm => ?_) (fun hp3 hm => ?_)
 ·refine Aw <| Ao rfl (.build (s := tapi_Id) (x := (⟨(0 : Int), (0 : Int), (0 : Int)⟩ : api_Id)) zapi_Id_f rfl U23 (zapi_Id_sz _ U23) ze23 rfl) <| WL.opU (OpR.storeB (b := b) 4 Z23 (Cellable.is tapi_Id (⟨(0 : Int), (0 : Int), (0 : Int)⟩ : api_Id)) rfl (.t rfl) (.t rfl)) fun _ => Ao rfl (.assign .i64) <| Ao rfl (.assign .bool) <| WL.ns ?_
  cases hm
  exact W.retQ3 () rfl rfl (ResAt.cell 4 Y23 Z23 rfl (.t rfl)) (ResAt.tmp (.t rfl)) (ResAt.tmp (.t rfl)) trivial
 ·refine W.skip <| Aq <| Aw <| Am rfl rfl <| Am rfl rfl <| Ao rfl (.lenL U25 (Opd.tLn (.t rfl))) ?_
  obtain ⟨v, hv4, hm⟩ := Bs hm
  refine Ao rfl (.subC hv4 (.t rfl) .i64) ?_
  obtain ⟨v1, hv5, hm⟩ := Bs hm
  refine Ao rfl (.idx hv5 U25 Z27 (Opd.tLn (.t rfl)) (.t rfl)) <| Ao rfl (.load ty27 (.t rfl)) <| WL.opR rfl (OpR.alloc 8 ze27) fun b1 => WL.opU (OpR.storeB (b := b1) 8 Z27 (Cellable.is tapi_Unit v1) rfl (.t rfl) (.t rfl)) fun _ => WL.sealed (t := tapi_Unit) (u := v1) 8 8 rfl rfl <| Ar <| Ao rfl (.fieldAddr U27 rfl J25 fapi_Unit_5 (.t rfl)) <| Ao rfl (.load ty25 (.t rfl)) <| Ao rfl (.makeFunc (ok := (fun s : api_Unit × Bool => (fun s0 => M.unit_Parent_1 n s0 id) s.1 = some s.2)) (As := (fun s : api_Unit × Bool => [tapi_Unit.is s.1])) (A := (fun s : api_Unit × Bool => (tB.is s.2))) (Cs := [(tapi_Id.ptr id)]) (cap := [.tmp 3]) C36 ⟨(.t rfl), trivial⟩ (fun s hs => unit_Parent_1_spec _ _ _ _ hs)) ?_
  obtain ⟨unit, hv6, hm⟩ := Bs hm
  refine Ao rfl (.call C35 (slices_IndexFunc_api_Unit_api_Unit_spec _ _ _ _ hv6) ⟨(.t rfl), (.t rfl), trivial⟩) <| Ag rfl rfl <| Ar <| Ao rfl (.fieldAddr U27 rfl J23 fapi_Unit_0 (.t rfl)) <| Ao rfl (.load ty23 (.t rfl)) <| Am rfl rfl <| WL.opU (OpR.storeB (b := b) 4 Z23 (Cellable.is tapi_Id v1.Id) rfl (.t rfl) (.t rfl)) fun _ => Ag rfl rfl <| Ao rfl (.assign .bool) <| WL.ns ?_
  cases hm
  exact W.retQ3 () rfl rfl (ResAt.cell 4 Y23 Z23 rfl (.t rfl)) (ResAt.tmp (.t rfl)) (ResAt.tmp (.t rfl)) trivial

theorem equivalence_Moved_1_spec (n : Nat) (u : api_Unit) (c : equivalence_table) (c1 : api_Unit) (c2 : api_Unit) (c3 : List api_Id) (b : Nat) (k : Tok) (r : List api_Id) (hm : M.equivalence_Moved_1 n u c c1 c2 c3 = some r) : FSpecR Try.prog 24 [(tapi_Unit.is u), ((tPt tequivalence_table).ptr c), (tapi_Unit.ptr c1), (tapi_Unit.ptr c2), (Bp b 0)] [(4, (Bx 1 false 36 (tO tapi_Id k c3) b)), (1000004, Dec.Own tapi_Id 23 k c3.length)] (fun kx : Tok => (Asn.eq (.tuple #[]))) (fun kx : Tok => [(4, (Bx 1 false 36 (tO tapi_Id kx r) b)), (1000004, Dec.Own tapi_Id 23 kx r.length)]) := by
 unfold M.equivalence_Moved_1 at hm
 refine FSpecR.of Try.func24 rfl rfl rfl fun g0 => Aw <| Ao rfl (.box (.t rfl)) <| Ar <| Ao rfl (.load ty63 (.t rfl)) <| Ao rfl (.fieldAddr U27 rfl J23 fapi_Unit_0 (.t rfl)) <| Ao rfl (.load ty23 (.t rfl)) ?_
 obtain ⟨goes, hv1, hm⟩ := Bs hm
 refine Ao rfl (.call C25 (equivalence_table_goes_spec _ _ _ _ hv1) ⟨(Opd.ofPt (.t rfl)), (.t rfl), trivial⟩) <| Am rfl rfl <| Ao rfl (.extract0 (.t rfl)) <| Ao rfl (.extract1 (.t rfl)) <| WL.opR rfl (OpR.alloc 6 ze23) fun b1 => WL.opU (OpR.storeB (b := b1) 6 Z23 (Cellable.is tapi_Id goes.1) rfl (.t rfl) (.t rfl)) fun _ => WL.sealed (t := tapi_Id) (u := goes.1) 6 6 rfl rfl <| Ag rfl rfl <| An <| W.seq <| Aw <| Am rfl rfl <| Ao rfl (.notB (.t rfl)) <| An <| W.cR hm (.t rfl) (fun hp3 hm => ?_) (fun hp3 hm => ?_)
 ·cases hm
  exact W.ret0 k rfl (fun _ => rfl) ⟨rfl, rfl, ⟨rfl, rfl, trivial⟩⟩
 ·refine W.skip <| Aq <| Aw <| Ao rfl (.load ty27 (.t rfl)) <| Ao rfl (.fieldAddr U27 rfl J23 fapi_Unit_0 (.t rfl)) <| Ao rfl (.load ty23 (.t rfl)) ?_
  obtain ⟨parent, hv4, hm⟩ := Bs hm
  refine Ao rfl (.call C26 (unit_Parent_spec _ _ _ _ hv4) ⟨(.t rfl), (.t rfl), trivial⟩) <| Am rfl rfl <| Ao rfl (.extract30 (.t rfl)) <| Ao rfl (.extract31 (.t rfl)) <| Ao rfl (.extract32 (.t rfl)) <| WL.opR rfl (OpR.alloc 8 ze23) fun b2 => WL.opU (OpR.storeB (b := b2) 8 Z23 (Cellable.is tapi_Id parent.1) rfl (.t rfl) (.t rfl)) fun _ => WL.sealed (t := tapi_Id) (u := parent.1) 8 8 rfl rfl <| Ag rfl rfl <| Ag rfl rfl <| Ar <| Ao rfl (.load ty27 (.t rfl)) <| Ao rfl (.load ty23 (.t rfl)) ?_
  obtain ⟨parent1, hv5, hm⟩ := Bs hm
  refine Ao rfl (.call C26 (unit_Parent_spec _ _ _ _ hv5) ⟨(.t rfl), (.t rfl), trivial⟩) <| Am rfl rfl <| Ao rfl (.extract30 (.t rfl)) <| Ao rfl (.extract31 (.t rfl)) <| Ao rfl (.extract32 (.t rfl)) <| WL.opR rfl (OpR.alloc 11 ze23) fun b3 => WL.opU (OpR.storeB (b := b3) 11 Z23 (Cellable.is tapi_Id parent1.1) rfl (.t rfl) (.t rfl)) fun _ => WL.sealed (t := tapi_Id) (u := parent1.1) 11 11 rfl rfl <| Ag rfl rfl <| Ag rfl rfl <| Ar <| Ao rfl (.load ty63 (.t rfl)) <| Ao rfl (.load ty23 (.t rfl)) ?_
  obtain ⟨goes1, hv6, hm⟩ := Bs hm
  refine Ao rfl (.call C25 (equivalence_table_goes_spec _ _ _ _ hv6) ⟨(Opd.ofPt (.t rfl)), (.t rfl), trivial⟩) <| Am rfl rfl <| Ao rfl (.extract0 (.t rfl)) <| Ao rfl (.extract1 (.t rfl)) <| WL.opR rfl (OpR.alloc 14 ze23) fun b4 => WL.opU (OpR.storeB (b := b4) 14 Z23 (Cellable.is tapi_Id goes1.1) rfl (.t rfl) (.t rfl)) fun _ => Ag rfl rfl <| WL.ns ?_
  obtain ⟨s7, hs8, hk9⟩ := Bs hm
  clear hm
  refine W.join (fun s : Bool × api_Id => s = s7) (fun s => [(15, (tB.is s.1)), (4, (Bp b 0)), (5, (tapi_Unit.ptr u)), (11, (tapi_Id.ptr parent1.1)), (14, (Bp b4 0))]) (fun s => [(1000004, Dec.Own tapi_Id 23 k c3.length), (14, (Bx 3 true 23 (tapi_Id.is s.2) b4)), (4, (Bx 1 false 36 (tO tapi_Id k c3) b))]) ?_ ?_
  ·rintro ⟨there, home⟩ hj18
   try dsimp only at hj18
   subst hj18
   have hm := hk9
   clear hk9
   try dsimp only at hm
   change W _ _ _ _ _ _ _ [(15, (tB.is there)), (4, (Bp b 0)), (5, (tapi_Unit.ptr u)), (11, (tapi_Id.ptr parent1.1)), (14, (Bp b4 0))] [(1000004, Dec.Own tapi_Id 23 k c3.length), (14, (Bx 3 true 23 (tapi_Id.is home) b4)), (4, (Bx 1 false 36 (tO tapi_Id k c3) b))]
   refine Aw <| Am rfl rfl <| Ao rfl (.notB (.t rfl)) <| WL.mv rfl rfl ?_
   rcases iteR hm with ⟨hp13, hb12, hm⟩ | ⟨hp13, hb12, hm⟩
   ·refine Ap rfl hb12 <| Ap rfl hb12 <| Ap rfl hb12 <| Ao rfl (.pickT (.t rfl) hb12 .bool) <| An <| W.condT (.t rfl) <| W.region <| Ao rfl (.loadB 4 Y36 Z36 rfl (.t rfl)) <| Ao rfl (.fieldAddr U27 rfl J23 fapi_Unit_0 (.t rfl)) <| Ao rfl (.load ty23 (.t rfl)) <| Ao rfl (.buildSlice (n := 1) (ys := [(0, u.Id)]) (z := zapi_Id) (xs := [u.Id]) U36 el23 ze23 ⟨rfl, (.t rfl), trivial⟩ (by simp) (by decide) rfl) ?_
    obtain ⟨out, hv14, hm⟩ := Bs hm
    refine WL.opR rfl (OpR.appC (key := 1000004) hv14 U36 el23 (.t rfl) (.t rfl) rfl) fun k1 => WL.opU (OpR.storeB (b := b) 4 Z36 (Cellable.o tapi_Id k1 out) rfl (.t rfl) (.t rfl)) fun _ => WL.nil ?_
    have hr := Si hm
    clear hm
    subst hr
    exact WN.fin k1 rfl (fun _ => rfl) ⟨rfl, rfl, ⟨rfl, rfl, trivial⟩⟩
   ·refine Ax rfl hb12 (.loadB 14 Y23 Z23 rfl (.t rfl)) <| Ax rfl hb12 (.load ty23 (.t rfl)) <| Ax rfl hb12 (.neSt (D := 2) rfl (by decide) eg23 eq23 (.t rfl) (.t rfl)) <| Ao rfl (.pickF (.t rfl) hb12 (.t rfl)) <| An <| W.cD hm (.t rfl) (fun hp16 hm => ?_) (fun hp16 hm => ?_)
    ·refine W.region <| Ao rfl (.loadB 4 Y36 Z36 rfl (.t rfl)) <| Ao rfl (.fieldAddr U27 rfl J23 fapi_Unit_0 (.t rfl)) <| Ao rfl (.load ty23 (.t rfl)) <| Ao rfl (.buildSlice (n := 1) (ys := [(0, u.Id)]) (z := zapi_Id) (xs := [u.Id]) U36 el23 ze23 ⟨rfl, (.t rfl), trivial⟩ (by simp) (by decide) rfl) ?_
     obtain ⟨out1, hv17, hm⟩ := Bs hm
     refine WL.opR rfl (OpR.appC (key := 1000004) hv17 U36 el23 (.t rfl) (.t rfl) rfl) fun k2 => WL.opU (OpR.storeB (b := b) 4 Z36 (Cellable.o tapi_Id k2 out1) rfl (.t rfl) (.t rfl)) fun _ => WL.nil ?_
     have hr := Si hm
     clear hm
     subst hr
     exact WN.fin k2 rfl (fun _ => rfl) ⟨rfl, rfl, ⟨rfl, rfl, trivial⟩⟩
    ·refine W.skip ?_
     have hr := Si hm
     clear hm
     subst hr
     exact WN.fin k rfl (fun _ => rfl) ⟨rfl, rfl, ⟨rfl, rfl, trivial⟩⟩
  ·have hm := hs8
   clear hs8
   refine Aw <| Ao rfl (.load ty23 (.t rfl)) <| Ao rfl (.fieldAddr U27 rfl J23 fapi_Unit_0 (.t rfl)) <| Ao rfl (.load ty23 (.t rfl)) <| Ao rfl (.eqSt (D := 2) rfl (by decide) eg23 eq23 (.t rfl) (.t rfl)) <| An <| W.cD hm (.t rfl) (fun hp11 hm => ?_) (fun hp11 hm => ?_)
   ·exact W.region <| Ao rfl (.fieldAddr U27 rfl J23 fapi_Unit_0 (.t rfl)) <| Ao rfl (.load ty23 (.t rfl)) <| WL.opU (OpR.storeB (b := b4) 14 Z23 (Cellable.is tapi_Id c2.Id) rfl (.t rfl) (.t rfl)) fun _ => Ao rfl (.assign .bool) <| WL.nil <| WN.meet (true, c2.Id) (Si hm) ⟨.q rfl, .q rfl, .q rfl, .q rfl, .q rfl, trivial⟩ ⟨rfl, rfl, ⟨rfl, rfl, ⟨rfl, rfl, trivial⟩⟩⟩
   ·exact W.skip <| WN.meet (goes1.2, goes1.1) (Si hm) ⟨.q rfl, .q rfl, .q rfl, .q rfl, .q rfl, trivial⟩ ⟨rfl, rfl, ⟨rfl, rfl, ⟨rfl, rfl, trivial⟩⟩⟩

theorem equivalence_each_i2_spec : ∀ (n : Nat) (u : api_Unit) (c : equivalence_table) (c1 : api_Unit) (c2 : api_Unit) (c3 : List api_Id) (b : Nat) (k : Tok) (r : List api_Id), M.equivalence_each_i2 n u c c1 c2 c3 = some r → FSpecR Try.prog 23 [(tapi_Unit.is u), (cloA 24 [((tPt tequivalence_table).ptr c), (tapi_Unit.ptr c1), (tapi_Unit.ptr c2), (Bp b 0)])] [(500103, (Bx 1 false 36 (tO tapi_Id k c3) b)), (1500103, Dec.Own tapi_Id 23 k c3.length)] (fun kx : Tok => (Asn.eq (.tuple #[]))) (fun kx : Tok => [(500103, (Bx 1 false 36 (tO tapi_Id kx r) b)), (1500103, Dec.Own tapi_Id 23 kx r.length)]) := by
 intro n
 induction n with
 | zero => intro u c c1 c2 c3 b k r hm; cases hm
 | succ n ih =>
  intro u c c1 c2 c3 b k r hm
  rw [M.equivalence_each_i2.eq_2] at hm
  refine FSpecR.of Try.func23 rfl rfl rfl fun g0 => Aw <| Ao rfl (.box (.t rfl)) <| Ar <| Ao rfl (.fieldAddr U27 rfl J25 fapi_Unit_5 (.t rfl)) <| Ao rfl (.load ty25 (.t rfl)) <| Ao rfl (.lenL U25 (.t rfl)) <| Ao rfl (.move .i64) <| An <| W.block ?_
  obtain ⟨s1, hs2, hk3⟩ := Bs hm
  clear hm
  refine W.loop (fun m (s : Int × List api_Unit × List api_Unit × (((List api_Id)) × Tok)) => m = s.2.2.1.length ∧ u.Kids = s.2.1 ++ s.2.2.1 ∧ s.1 = (s.2.1.length : Int) ∧ M.equivalence_each_i2_loop1 n c c1 c2 (M.equivalence_each_i2 n) s.2.2.1 s.2.2.2.1 = some s1) (fun s => [(9, (I6.is s.1)), (1, (cloA 24 [((tPt tequivalence_table).ptr c), (tapi_Unit.ptr c1), (tapi_Unit.ptr c2), (Bp b 0)])), (7, ((tL tapi_Unit).is u.Kids)), (8, (I6.is (u.Kids.length : Int)))]) (fun s => [(1500103, Dec.Own tapi_Id 23 s.2.2.2.2 s.2.2.2.1.length), (500103, (Bx 1 false 36 (tO tapi_Id s.2.2.2.2 s.2.2.2.1) b))]) u.Kids.length ((0 : Int), [], u.Kids, (c3, k)) ⟨rfl, rfl, rfl, hs2⟩ ⟨.q rfl, .q rfl, .q rfl, .q rfl, trivial⟩ ⟨rfl, rfl, ⟨rfl, rfl, trivial⟩⟩ ?_
  rintro m ⟨i, pre, rest1, ⟨v, k1⟩⟩ ⟨hn7, hxs4, hi5, hm⟩
  try dsimp only at hn7 hxs4 hi5 hm
  change W _ _ _ _ _ _ _ [(9, (I6.is i)), (1, (cloA 24 [((tPt tequivalence_table).ptr c), (tapi_Unit.ptr c1), (tapi_Unit.ptr c2), (Bp b 0)])), (7, ((tL tapi_Unit).is u.Kids)), (8, (I6.is (u.Kids.length : Int)))] [(1500103, Dec.Own tapi_Id 23 k1 v.length), (500103, (Bx 1 false 36 (tO tapi_Id k1 v) b))]
  refine W.lenL (s := 7) (.t rfl) fun hlen6 => Aw <| Ao rfl (.ltI (.t rfl) (.t rfl)) <| An <| W.seq <| W.cond (.t rfl) (fun hc9 => ?_) (fun hc9 => ?_)
  ·have hp10 := of_decide_eq_true hc9
   obtain ⟨e, es, hrest12⟩ := range_more hxs4 hi5 hp10
   subst hrest12
   rw [M.equivalence_each_i2_loop1.eq_2] at hm
   refine W.skip <| Aq <| W.seq <| W.block <| Aw <| Ao rfl (.idxPre hxs4 hi5 U25 Z27 (.t rfl) (.t rfl)) <| Ao rfl (.load ty27 (.t rfl)) <| WL.opR rfl (OpR.alloc 5 ze27) fun b1 => WL.opU (OpR.storeB (b := b1) 5 Z27 (Cellable.is tapi_Unit e) rfl (.t rfl) (.t rfl)) fun _ => WL.sealed (t := tapi_Unit) (u := e) 5 5 rfl rfl <| Ar <| Am rfl rfl <| Ao rfl (.load ty27 (.t rfl)) ?_
   obtain ⟨w, hv13, hm⟩ := Bs hm
   refine WL.weakR (res' := [(500103, (Bx 1 false 36 (tO tapi_Id k1 v) b)), (1500103, Dec.Own tapi_Id 23 k1 v.length)]) ⟨rfl, rfl, ⟨rfl, rfl, trivial⟩⟩ <| WL.opR rfl (OpR.callClo (us := [500103, 1500103]) (A := fun kx : Tok => (Asn.eq (.tuple #[]))) (As := [tapi_Unit.is e]) C24 (.t rfl) (FSpecR.keys (rin' := [(500103, (Bx 1 false 36 (tO tapi_Id k1 v) b)), (1500103, Dec.Own tapi_Id 23 k1 v.length)]) (out' := fun kx : Tok => [(500103, (Bx 1 false 36 (tO tapi_Id kx w) b)), (1500103, Dec.Own tapi_Id 23 kx w.length)]) (equivalence_Moved_1_spec _ _ _ _ _ _ _ _ _ hv13) rfl (fun _ => rfl)) rfl ⟨(.t rfl), trivial⟩) fun k2 => WL.nr1 <| Ao rfl (.load ty27 (.t rfl)) <| WL.mv rfl rfl ?_
   obtain ⟨w1, hv14, hm⟩ := Bs hm
   exact WL.weakR (res' := [(500103, (Bx 1 false 36 (tO tapi_Id k2 w) b)), (1500103, Dec.Own tapi_Id 23 k2 w.length)]) ⟨rfl, rfl, ⟨rfl, rfl, trivial⟩⟩ <| WL.opR rfl (OpR.call (us := [500103, 1500103]) (A := fun kx : Tok => (Asn.eq (.tuple #[]))) C23 (FSpecR.keys (rin' := [(500103, (Bx 1 false 36 (tO tapi_Id k2 w) b)), (1500103, Dec.Own tapi_Id 23 k2 w.length)]) (out' := fun kx : Tok => [(500103, (Bx 1 false 36 (tO tapi_Id kx w1) b)), (1500103, Dec.Own tapi_Id 23 kx w1.length)]) (ih _ _ _ _ _ _ _ _ hv14) rfl (fun _ => rfl)) rfl ⟨(.t rfl), (.t rfl), trivial⟩) fun k3 => WL.nil <| WN.block <| Aq <| W.region <| Ao rfl (.addI (.t rfl) .i64 (range_inR hi5 hp10 hlen6)) <| Am rfl rfl <| WL.nil <| WN.again es.length (i + 1, pre ++ [e], es, (w1, k3)) (range_lt hn7) ⟨rfl, range_step hxs4, range_idx hi5, hm⟩ ⟨.q rfl, .q rfl, .q rfl, .q rfl, trivial⟩ ⟨rfl, rfl, ⟨rfl, rfl, trivial⟩⟩
  ·have hrest12 := range_end hxs4 hi5 (of_decide_eq_false hc9)
   subst hrest12
   rw [M.equivalence_each_i2_loop1.eq_1] at hm
   refine W.exit rfl ?_
   have hr15 := Si hm
   clear hm
   subst hr15
   have hm := hk3
   try dsimp only at hm
   have hr := Si hm
   clear hm
   subst hr
   exact WN.fin k1 rfl (fun _ => rfl) ⟨rfl, rfl, ⟨rfl, rfl, trivial⟩⟩

theorem equivalence_Moved_spec (n : Nat) (a : api_Unit) (b : api_Unit) (l : List api_Destination) (r : (List api_Id)) (hm : M.equivalence_Moved n a b l = some r) : FSpec Try.prog 13 [(tapi_Unit.is a), (tapi_Unit.is b), ((tL tapi_Destination).is l)] ((tL tapi_Id).is r) := by
 unfold M.equivalence_Moved at hm
 refine FSpec.of Try.func13 rfl rfl rfl fun g0 => Aw <| Ao rfl (.box (.t rfl)) <| Ao rfl (.box (.t rfl)) <| Ao rfl (.assign (.nil (t := tapi_Id))) <| Ar <| WL.addNil (t := tapi_Id) (E := 23) 1000007 <| WL.opR rfl (OpR.allocO (t := tapi_Id) 7 Try.zeroValue36) fun b1 => Ar <| Ao rfl (.load ty27 (.t rfl)) <| Ao rfl (.load ty27 (.t rfl)) <| WL.mv rfl rfl ?_
 obtain ⟨made, hv1, hm⟩ := Bs hm
 refine Ao rfl (.call C22 (equivalence_made_spec _ _ _ _ hv1) ⟨(.t rfl), (.t rfl), (.t rfl), trivial⟩) <| WL.opR rfl (OpR.allocP 8 Try.zeroValue63) fun b2 => WL.opU (OpR.storeB (b := b2) 8 Z63 (Cellable.is (tPt tequivalence_table) made) rfl (.t rfl) (Opd.toPt (Opd.ofPt (.t rfl)))) fun _ => WL.sealed (t := (tPt tequivalence_table)) (u := made) 8 8 rfl rfl <| Ar <| Ao rfl (.load ty27 (.t rfl)) <| Ao rfl (.makeClo (Cs := [((tPt tequivalence_table).ptr made), (tapi_Unit.ptr a), (tapi_Unit.ptr b), (Bp b1 0)]) (cap := [.tmp 8, .tmp 3, .tmp 4, .tmp 7]) ⟨(.t rfl), (.t rfl), (.t rfl), (.t rfl), trivial⟩) ?_
 obtain ⟨out, hv2, hm⟩ := Bs hm
 refine WL.weakR (res' := [(7, (Bx 1 false 36 (tO tapi_Id (none : Tok) ([] : List api_Id)) b1)), (1000007, Dec.Own tapi_Id 23 (none : Tok) ([] : List api_Id).length)]) ⟨rfl, rfl, ⟨rfl, rfl, trivial⟩⟩ <| WL.opR rfl (OpR.call (us := [7, 1000007]) (A := fun kx : Tok => (Asn.eq (.tuple #[]))) C23 (FSpecR.keys (rin' := [(7, (Bx 1 false 36 (tO tapi_Id (none : Tok) ([] : List api_Id)) b1)), (1000007, Dec.Own tapi_Id 23 (none : Tok) ([] : List api_Id).length)]) (out' := fun kx : Tok => [(7, (Bx 1 false 36 (tO tapi_Id kx out) b1)), (1000007, Dec.Own tapi_Id 23 kx out.length)]) (equivalence_each_i2_spec _ _ _ _ _ _ _ _ _ hv2) rfl (fun _ => rfl)) rfl ⟨(.t rfl), (.t rfl), trivial⟩) fun k => Ar <| Ao rfl (.loadB 7 Y36 Z36 rfl (.t rfl)) <| Ag rfl rfl <| WL.ns ?_
 cases hm
 exact W.ret1 () rfl (Opd.own (.t rfl)) trivial

theorem law48_awake_spec (n : Nat)  (r : Bool) (hm : M.law48_awake n  = some r) : FSpecR Try.prog 9 [] [(700000, GlE 0)] (fun _ : Unit => (tB.is r)) (fun _ => []) := by
 unfold M.law48_awake at hm
 refine FSpecR.of Try.func9 rfl rfl rfl fun g0 => Aw <| Ao rfl (.assign .bool) <| Ar <| Ao rfl (.assign .func) <| Ar <| Ao rfl (.assign .func) <| Ar <| WL.mv rfl rfl ?_
 obtain ⟨v1_, hv1, hm⟩ := Bs hm
 refine Ao rfl (.callClo (As := [I6.is (1 : Int)]) C19 (Opd.cloE (.t rfl)) (law48_awake_1_spec _ _ hv1) ⟨.i64, trivial⟩) <| Am rfl rfl <| Ao rfl (.buildSlice (n := 3) (ys := [(0, ([117, 110, 100, 101, 114] : Str)), (1, ([115, 101, 99, 116, 105, 111, 110] : Str)), (2, ([54, 44] : Str))]) (z := ([] : Str)) (xs := [([117, 110, 100, 101, 114] : Str), ([115, 101, 99, 116, 105, 111, 110] : Str), ([54, 44] : Str)]) U60 el9 ze9 ⟨rfl, (.str rfl (by decide)), rfl, (.str rfl (by decide)), rfl, (.str rfl (by decide)), trivial⟩ (by simp) (by decide) rfl) ?_
 obtain ⟨v2_, hv2, hm⟩ := Bs hm
 refine Ao rfl (.callClo (As := [(tL tS).is ([([117, 110, 100, 101, 114] : Str), ([115, 101, 99, 116, 105, 111, 110] : Str), ([54, 44] : Str)])]) C20 (Opd.cloE (.t rfl)) (law48_awake_2_spec _ _ hv2) ⟨(.t rfl), trivial⟩) <| Ao rfl (.build (s := tapi_Unit) (x := (⟨v1_, (2 : Int), ([53] : Str), ([] : List api_Word), v2_, ([] : List api_Unit)⟩ : api_Unit)) zapi_Unit_f rfl U27 (zapi_Unit_sz _ U27) ze27 ⟨_, tapi_Id, v1_, _, _, rfl, Z23, (.t rfl), sapi_Unit_0, ⟨_, I6, (2 : Int), _, _, rfl, Z3, .i64, sapi_Unit_1, ⟨_, tS, ([53] : Str), _, _, rfl, Z9, (.str rfl (by decide)), sapi_Unit_2, ⟨_, (tL tapi_Word), v2_, _, _, rfl, Z24, (.t rfl), sapi_Unit_4, rfl⟩⟩⟩⟩) <| WL.mv rfl rfl ?_
 obtain ⟨v1_1, hv3, hm⟩ := Bs hm
 refine Ao rfl (.callClo (As := [I6.is (2 : Int)]) C19 (Opd.cloE (.t rfl)) (law48_awake_1_spec _ _ hv3) ⟨.i64, trivial⟩) <| Ao rfl (.build (s := tapi_Unit) (x := (⟨v1_1, (2 : Int), ([54] : Str), ([] : List api_Word), ([] : List api_Word), ([] : List api_Unit)⟩ : api_Unit)) zapi_Unit_f rfl U27 (zapi_Unit_sz _ U27) ze27 ⟨_, tapi_Id, v1_1, _, _, rfl, Z23, (.t rfl), sapi_Unit_0, ⟨_, I6, (2 : Int), _, _, rfl, Z3, .i64, sapi_Unit_1, ⟨_, tS, ([54] : Str), _, _, rfl, Z9, (.str rfl (by decide)), sapi_Unit_2, rfl⟩⟩⟩) <| Ao rfl (.buildSlice (n := 2) (ys := [(0, (⟨v1_, (2 : Int), ([53] : Str), ([] : List api_Word), v2_, ([] : List api_Unit)⟩ : api_Unit)), (1, (⟨v1_1, (2 : Int), ([54] : Str), ([] : List api_Word), ([] : List api_Word), ([] : List api_Unit)⟩ : api_Unit))]) (z := zapi_Unit) (xs := [(⟨v1_, (2 : Int), ([53] : Str), ([] : List api_Word), v2_, ([] : List api_Unit)⟩ : api_Unit), (⟨v1_1, (2 : Int), ([54] : Str), ([] : List api_Word), ([] : List api_Word), ([] : List api_Unit)⟩ : api_Unit)]) U25 el27 ze27 ⟨rfl, (.t rfl), rfl, (.t rfl), trivial⟩ (by simp) (by decide) rfl) <| Ao rfl (.build (s := tapi_Unit) (x := (⟨zapi_Id, (0 : Int), ([] : Str), ([] : List api_Word), ([] : List api_Word), [(⟨v1_, (2 : Int), ([53] : Str), ([] : List api_Word), v2_, ([] : List api_Unit)⟩ : api_Unit), (⟨v1_1, (2 : Int), ([54] : Str), ([] : List api_Word), ([] : List api_Word), ([] : List api_Unit)⟩ : api_Unit)]⟩ : api_Unit)) zapi_Unit_f rfl U27 (zapi_Unit_sz _ U27) ze27 ⟨_, (tL tapi_Unit), ([(⟨v1_, (2 : Int), ([53] : Str), ([] : List api_Word), v2_, ([] : List api_Unit)⟩ : api_Unit), (⟨v1_1, (2 : Int), ([54] : Str), ([] : List api_Word), ([] : List api_Word), ([] : List api_Unit)⟩ : api_Unit)]), _, _, rfl, Z25, (.t rfl), sapi_Unit_5, rfl⟩) <| WL.opR rfl (OpR.alloc 3 ze27) fun b => WL.opU (OpR.storeB (b := b) 3 Z27 (Cellable.is tapi_Unit (⟨zapi_Id, (0 : Int), ([] : Str), ([] : List api_Word), ([] : List api_Word), [(⟨v1_, (2 : Int), ([53] : Str), ([] : List api_Word), v2_, ([] : List api_Unit)⟩ : api_Unit), (⟨v1_1, (2 : Int), ([54] : Str), ([] : List api_Word), ([] : List api_Word), ([] : List api_Unit)⟩ : api_Unit)]⟩ : api_Unit)) rfl (.t rfl) (.t rfl)) fun _ => WL.sealed (t := tapi_Unit) (u := (⟨zapi_Id, (0 : Int), ([] : Str), ([] : List api_Word), ([] : List api_Word), [(⟨v1_, (2 : Int), ([53] : Str), ([] : List api_Word), v2_, ([] : List api_Unit)⟩ : api_Unit), (⟨v1_1, (2 : Int), ([54] : Str), ([] : List api_Word), ([] : List api_Word), ([] : List api_Unit)⟩ : api_Unit)]⟩ : api_Unit)) 3 3 rfl rfl <| Ar <| WL.mv rfl rfl ?_
 obtain ⟨v1_2, hv4, hm⟩ := Bs hm
 refine Ao rfl (.callClo (As := [I6.is (3 : Int)]) C19 (Opd.cloE (.t rfl)) (law48_awake_1_spec _ _ hv4) ⟨.i64, trivial⟩) <| Am rfl rfl <| Ao rfl (.buildSlice (n := 4) (ys := [(0, ([117, 110, 100, 101, 114] : Str)), (1, ([98, 111, 111, 107] : Str)), (2, ([115, 101, 99, 116, 105, 111, 110] : Str)), (3, ([51, 44] : Str))]) (z := ([] : Str)) (xs := [([117, 110, 100, 101, 114] : Str), ([98, 111, 111, 107] : Str), ([115, 101, 99, 116, 105, 111, 110] : Str), ([51, 44] : Str)]) U60 el9 ze9 ⟨rfl, (.str rfl (by decide)), rfl, (.str rfl (by decide)), rfl, (.str rfl (by decide)), rfl, (.str rfl (by decide)), trivial⟩ (by simp) (by decide) rfl) ?_
 obtain ⟨v2_1, hv5, hm⟩ := Bs hm
 refine Ao rfl (.callClo (As := [(tL tS).is ([([117, 110, 100, 101, 114] : Str), ([98, 111, 111, 107] : Str), ([115, 101, 99, 116, 105, 111, 110] : Str), ([51, 44] : Str)])]) C20 (Opd.cloE (.t rfl)) (law48_awake_2_spec _ _ hv5) ⟨(.t rfl), trivial⟩) <| Ao rfl (.build (s := tapi_Unit) (x := (⟨v1_2, (2 : Int), ([50] : Str), ([] : List api_Word), v2_1, ([] : List api_Unit)⟩ : api_Unit)) zapi_Unit_f rfl U27 (zapi_Unit_sz _ U27) ze27 ⟨_, tapi_Id, v1_2, _, _, rfl, Z23, (.t rfl), sapi_Unit_0, ⟨_, I6, (2 : Int), _, _, rfl, Z3, .i64, sapi_Unit_1, ⟨_, tS, ([50] : Str), _, _, rfl, Z9, (.str rfl (by decide)), sapi_Unit_2, ⟨_, (tL tapi_Word), v2_1, _, _, rfl, Z24, (.t rfl), sapi_Unit_4, rfl⟩⟩⟩⟩) <| WL.mv rfl rfl ?_
 obtain ⟨v1_3, hv6, hm⟩ := Bs hm
 refine Ao rfl (.callClo (As := [I6.is (4 : Int)]) C19 (Opd.cloE (.t rfl)) (law48_awake_1_spec _ _ hv6) ⟨.i64, trivial⟩) <| Ao rfl (.build (s := tapi_Unit) (x := (⟨v1_3, (2 : Int), ([51] : Str), ([] : List api_Word), ([] : List api_Word), ([] : List api_Unit)⟩ : api_Unit)) zapi_Unit_f rfl U27 (zapi_Unit_sz _ U27) ze27 ⟨_, tapi_Id, v1_3, _, _, rfl, Z23, (.t rfl), sapi_Unit_0, ⟨_, I6, (2 : Int), _, _, rfl, Z3, .i64, sapi_Unit_1, ⟨_, tS, ([51] : Str), _, _, rfl, Z9, (.str rfl (by decide)), sapi_Unit_2, rfl⟩⟩⟩) <| Ao rfl (.buildSlice (n := 2) (ys := [(0, (⟨v1_2, (2 : Int), ([50] : Str), ([] : List api_Word), v2_1, ([] : List api_Unit)⟩ : api_Unit)), (1, (⟨v1_3, (2 : Int), ([51] : Str), ([] : List api_Word), ([] : List api_Word), ([] : List api_Unit)⟩ : api_Unit))]) (z := zapi_Unit) (xs := [(⟨v1_2, (2 : Int), ([50] : Str), ([] : List api_Word), v2_1, ([] : List api_Unit)⟩ : api_Unit), (⟨v1_3, (2 : Int), ([51] : Str), ([] : List api_Word), ([] : List api_Word), ([] : List api_Unit)⟩ : api_Unit)]) U25 el27 ze27 ⟨rfl, (.t rfl), rfl, (.t rfl), trivial⟩ (by simp) (by decide) rfl) <| Ao rfl (.build (s := tapi_Unit) (x := (⟨zapi_Id, (0 : Int), ([] : Str), ([] : List api_Word), ([] : List api_Word), [(⟨v1_2, (2 : Int), ([50] : Str), ([] : List api_Word), v2_1, ([] : List api_Unit)⟩ : api_Unit), (⟨v1_3, (2 : Int), ([51] : Str), ([] : List api_Word), ([] : List api_Word), ([] : List api_Unit)⟩ : api_Unit)]⟩ : api_Unit)) zapi_Unit_f rfl U27 (zapi_Unit_sz _ U27) ze27 ⟨_, (tL tapi_Unit), ([(⟨v1_2, (2 : Int), ([50] : Str), ([] : List api_Word), v2_1, ([] : List api_Unit)⟩ : api_Unit), (⟨v1_3, (2 : Int), ([51] : Str), ([] : List api_Word), ([] : List api_Word), ([] : List api_Unit)⟩ : api_Unit)]), _, _, rfl, Z25, (.t rfl), sapi_Unit_5, rfl⟩) <| WL.opR rfl (OpR.alloc 4 ze27) fun b1 => WL.opU (OpR.storeB (b := b1) 4 Z27 (Cellable.is tapi_Unit (⟨zapi_Id, (0 : Int), ([] : Str), ([] : List api_Word), ([] : List api_Word), [(⟨v1_2, (2 : Int), ([50] : Str), ([] : List api_Word), v2_1, ([] : List api_Unit)⟩ : api_Unit), (⟨v1_3, (2 : Int), ([51] : Str), ([] : List api_Word), ([] : List api_Word), ([] : List api_Unit)⟩ : api_Unit)]⟩ : api_Unit)) rfl (.t rfl) (.t rfl)) fun _ => WL.sealed (t := tapi_Unit) (u := (⟨zapi_Id, (0 : Int), ([] : Str), ([] : List api_Word), ([] : List api_Word), [(⟨v1_2, (2 : Int), ([50] : Str), ([] : List api_Word), v2_1, ([] : List api_Unit)⟩ : api_Unit), (⟨v1_3, (2 : Int), ([51] : Str), ([] : List api_Word), ([] : List api_Word), ([] : List api_Unit)⟩ : api_Unit)]⟩ : api_Unit)) 4 4 rfl rfl <| Ar <| WL.mv rfl rfl ?_
 obtain ⟨v1_4, hv7, hm⟩ := Bs hm
 refine Ao rfl (.callClo (As := [I6.is (1 : Int)]) C19 (Opd.cloE (.t rfl)) (law48_awake_1_spec _ _ hv7) ⟨.i64, trivial⟩) <| WL.mv rfl rfl ?_
 obtain ⟨v1_5, hv8, hm⟩ := Bs hm
 refine Ao rfl (.callClo (As := [I6.is (3 : Int)]) C19 (Opd.cloE (.t rfl)) (law48_awake_1_spec _ _ hv8) ⟨.i64, trivial⟩) <| Ao rfl (.build (s := tapi_Destination) (x := (⟨v1_4, v1_5⟩ : api_Destination)) zapi_Destination_f rfl U56 (zapi_Destination_sz _ U56) ze56 ⟨_, tapi_Id, v1_4, _, _, rfl, Z23, (.t rfl), sapi_Destination_0, ⟨_, tapi_Id, v1_5, _, _, rfl, Z23, (.t rfl), sapi_Destination_1, rfl⟩⟩) <| WL.mv rfl rfl ?_
 obtain ⟨v1_6, hv9, hm⟩ := Bs hm
 refine Ao rfl (.callClo (As := [I6.is (2 : Int)]) C19 (Opd.cloE (.t rfl)) (law48_awake_1_spec _ _ hv9) ⟨.i64, trivial⟩) <| WL.mv rfl rfl ?_
 obtain ⟨v1_7, hv10, hm⟩ := Bs hm
 refine Ao rfl (.callClo (As := [I6.is (4 : Int)]) C19 (Opd.cloE (.t rfl)) (law48_awake_1_spec _ _ hv10) ⟨.i64, trivial⟩) <| Ao rfl (.build (s := tapi_Destination) (x := (⟨v1_6, v1_7⟩ : api_Destination)) zapi_Destination_f rfl U56 (zapi_Destination_sz _ U56) ze56 ⟨_, tapi_Id, v1_6, _, _, rfl, Z23, (.t rfl), sapi_Destination_0, ⟨_, tapi_Id, v1_7, _, _, rfl, Z23, (.t rfl), sapi_Destination_1, rfl⟩⟩) <| Ao rfl (.buildSlice (n := 2) (ys := [(0, (⟨v1_4, v1_5⟩ : api_Destination)), (1, (⟨v1_6, v1_7⟩ : api_Destination))]) (z := zapi_Destination) (xs := [(⟨v1_4, v1_5⟩ : api_Destination), (⟨v1_6, v1_7⟩ : api_Destination)]) U32 el56 ze56 ⟨rfl, (.t rfl), rfl, (.t rfl), trivial⟩ (by simp) (by decide) rfl) <| Ag rfl rfl <| Ar <| WL.mv rfl rfl ?_
 obtain ⟨v1_8, hv11, hm⟩ := Bs hm
 refine Ao rfl (.callClo (As := [I6.is (1 : Int)]) C19 (Opd.cloE (.t rfl)) (law48_awake_1_spec _ _ hv11) ⟨.i64, trivial⟩) <| WL.mv rfl rfl ?_
 obtain ⟨v1_9, hv12, hm⟩ := Bs hm
 refine Ao rfl (.callClo (As := [I6.is (2 : Int)]) C19 (Opd.cloE (.t rfl)) (law48_awake_1_spec _ _ hv12) ⟨.i64, trivial⟩) <| Ao rfl (.buildSlice (n := 1) (ys := [(0, v1_9)]) (z := zapi_Id) (xs := [v1_9]) U36 el23 ze23 ⟨rfl, (.t rfl), trivial⟩ (by simp) (by decide) rfl) <| Ao rfl (.build (s := tapi_Meaning) (x := (⟨v1_8, (0 : Int), [v1_9]⟩ : api_Meaning)) zapi_Meaning_f rfl U44 (zapi_Meaning_sz _ U44) ze44 ⟨_, tapi_Id, v1_8, _, _, rfl, Z23, (.t rfl), sapi_Meaning_0, ⟨_, (tL tapi_Id), [v1_9], _, _, rfl, Z36, (.t rfl), sapi_Meaning_2, rfl⟩⟩) <| Ao rfl (.buildSlice (n := 1) (ys := [(0, (⟨v1_8, (0 : Int), [v1_9]⟩ : api_Meaning))]) (z := zapi_Meaning) (xs := [(⟨v1_8, (0 : Int), [v1_9]⟩ : api_Meaning)]) U28 el44 ze44 ⟨rfl, (.t rfl), trivial⟩ (by simp) (by decide) rfl) <| WL.mv rfl rfl ?_
 obtain ⟨v1_10, hv13, hm⟩ := Bs hm
 refine Ao rfl (.callClo (As := [I6.is (3 : Int)]) C19 (Opd.cloE (.t rfl)) (law48_awake_1_spec _ _ hv13) ⟨.i64, trivial⟩) <| WL.mv rfl rfl ?_
 obtain ⟨v1_11, hv14, hm⟩ := Bs hm
 refine Ao rfl (.callClo (As := [I6.is (4 : Int)]) C19 (Opd.cloE (.t rfl)) (law48_awake_1_spec _ _ hv14) ⟨.i64, trivial⟩) <| Ao rfl (.buildSlice (n := 1) (ys := [(0, v1_11)]) (z := zapi_Id) (xs := [v1_11]) U36 el23 ze23 ⟨rfl, (.t rfl), trivial⟩ (by simp) (by decide) rfl) <| Ao rfl (.build (s := tapi_Meaning) (x := (⟨v1_10, (0 : Int), [v1_11]⟩ : api_Meaning)) zapi_Meaning_f rfl U44 (zapi_Meaning_sz _ U44) ze44 ⟨_, tapi_Id, v1_10, _, _, rfl, Z23, (.t rfl), sapi_Meaning_0, ⟨_, (tL tapi_Id), [v1_11], _, _, rfl, Z36, (.t rfl), sapi_Meaning_2, rfl⟩⟩) <| Ao rfl (.buildSlice (n := 1) (ys := [(0, (⟨v1_10, (0 : Int), [v1_11]⟩ : api_Meaning))]) (z := zapi_Meaning) (xs := [(⟨v1_10, (0 : Int), [v1_11]⟩ : api_Meaning)]) U28 el44 ze44 ⟨rfl, (.t rfl), trivial⟩ (by simp) (by decide) rfl) <| Ag rfl rfl <| Ag rfl rfl <| Ar <| Ao rfl (.load ty27 (.t rfl)) <| Ao rfl (.load ty27 (.t rfl)) <| Am rfl rfl <| Am rfl rfl <| WL.mv rfl rfl ?_
 obtain ⟨equiva, hv15, hm⟩ := Bs hm
 refine Ao rfl (.callG (rin := [(700000, GlE 0)]) C11 (equivalence_Equivalent_spec _ _ _ _ _ _ _ hv15) ⟨rfl, trivial⟩ ⟨rfl, rfl, trivial⟩ ⟨(.t rfl), (.t rfl), (.t rfl), (.t rfl), (.t rfl), trivial⟩) <| WL.mv rfl rfl ?_
 rcases iteB hm with ⟨hp17, hb16, hm⟩ | ⟨hp17, hb16, hm⟩
 ·refine Ax rfl hb16 (.load ty27 (.t rfl)) <| Ax rfl hb16 (.load ty27 (.t rfl)) <| Ax rfl hb16 (.move (.t rfl)) <| Ax rfl hb16 (.move (.t rfl)) ?_
  obtain ⟨check, hv18, hm⟩ := Bs hm
  refine Ax rfl hb16 (.callG (rin := [(700000, GlE 0)]) C21 (equivalence_Check_spec _ _ _ _ _ _ _ hv18) ⟨rfl, trivial⟩ ⟨rfl, rfl, trivial⟩ ⟨(.t rfl), (.t rfl), (.t rfl), (.t rfl), (.nil (t := tapi_Meaning)), trivial⟩) <| Ax rfl hb16 (.lenL U34 (.t rfl)) <| Ax rfl hb16 (.eqI (.t rfl) .i64) <| Ao rfl (.pickT (.t rfl) hb16 (.t rfl)) <| WL.mv rfl rfl ?_
  rcases iteD hm with ⟨hp20, hb19, hm⟩ | ⟨hp20, hb19, hm⟩
  ·refine Ax rfl hb19 (.load ty27 (.t rfl)) <| Ax rfl hb19 (.load ty27 (.t rfl)) <| Ax rfl hb19 (.move (.t rfl)) ?_
   obtain ⟨checkw, hv21, hm⟩ := Bs hm
   refine Ax rfl hb19 (.callG (rin := [(700000, GlE 0)]) C12 (equivalence_CheckWords_spec _ _ _ _ _ hv21) ⟨rfl, trivial⟩ ⟨rfl, rfl, trivial⟩ ⟨(.t rfl), (.t rfl), (.t rfl), trivial⟩) <| Ax rfl hb19 (.lenL U34 (.t rfl)) <| Ax rfl hb19 (.eqI (.t rfl) .i64) <| Ao rfl (.pickT (.t rfl) hb19 (.t rfl)) <| WL.mv rfl rfl ?_
   rcases iteD hm with ⟨hp23, hb22, hm⟩ | ⟨hp23, hb22, hm⟩
   ·refine Ax rfl hb22 (.load ty27 (.t rfl)) <| Ax rfl hb22 (.load ty27 (.t rfl)) <| Ax rfl hb22 (.move (.t rfl)) ?_
    obtain ⟨moved, hv24, hm⟩ := Bs hm
    refine Ax rfl hb22 (.call C13 (equivalence_Moved_spec _ _ _ _ _ hv24) ⟨(.t rfl), (.t rfl), (.t rfl), trivial⟩) <| Ax rfl hb22 (.lenL U36 (.t rfl)) <| Ax rfl hb22 (.eqI (.t rfl) .i64) <| Ao rfl (.pickT (.t rfl) hb22 (.t rfl)) <| Ag rfl rfl <| WL.ns ?_
    cases hm
    exact W.ret1 () rfl (.t rfl) trivial
   ·refine Ap rfl hb22 <| Ap rfl hb22 <| Ap rfl hb22 <| Ap rfl hb22 <| Ap rfl hb22 <| Ap rfl hb22 <| Ao rfl (.pickF (.t rfl) hb22 .bool) <| Ag rfl rfl <| WL.ns ?_
    cases hm
    exact W.ret1 () rfl (.t rfl) trivial
  ·refine Ap rfl hb19 <| Ap rfl hb19 <| Ap rfl hb19 <| Ap rfl hb19 <| Ap rfl hb19 <| Ap rfl hb19 <| Ao rfl (.pickF (.t rfl) hb19 .bool) <| Am rfl rfl <| Ap rfl rfl <| Ap rfl rfl <| Ap rfl rfl <| Ap rfl rfl <| Ap rfl rfl <| Ap rfl rfl <| Ao rfl (.pickF (.t rfl) rfl .bool) <| WL.gv rfl rfl ?_
   refine WL.ns ?_
   cases hm
   exact W.ret1 () rfl (.t rfl) trivial
 ·refine Ap rfl hb16 <| Ap rfl hb16 <| Ap rfl hb16 <| Ap rfl hb16 <| Ap rfl hb16 <| Ap rfl hb16 <| Ap rfl hb16 <| Ao rfl (.pickF (.t rfl) hb16 .bool) <| Am rfl rfl <| Ap rfl rfl <| Ap rfl rfl <| Ap rfl rfl <| Ap rfl rfl <| Ap rfl rfl <| Ap rfl rfl <| Ao rfl (.pickF (.t rfl) rfl .bool) ?_
  refine Am rfl rfl <| Ap rfl rfl <| Ap rfl rfl <| Ap rfl rfl <| Ap rfl rfl <| Ap rfl rfl <| Ap rfl rfl <| Ao rfl (.pickF (.t rfl) rfl .bool) <| Ag rfl rfl <| WL.ns ?_
  cases hm
  exact W.ret1 () rfl (.t rfl) trivial

theorem r12_Units_spec : ∀ (n : Nat) (u : api_Unit) (r : (List api_Unit)), M.r12_Units n u = some r → FSpec Try.prog 16 [(tapi_Unit.is u)] ((tL tapi_Unit).is r) := by
 intro n
 induction n with
 | zero => intro u r hm; cases hm
 | succ n ih =>
  intro u r hm
  rw [M.r12_Units.eq_2] at hm
  refine FSpec.of Try.func16 rfl rfl rfl fun g0 => Aw <| Ao rfl (.box (.t rfl)) <| Ao rfl (.assign (.nil (t := tapi_Unit))) <| Ar <| Ao rfl (.load ty27 (.t rfl)) <| WL.opR rfl (OpR.buildSlice (n := 1) (ys := [(0, u)]) (z := zapi_Unit) (xs := [u]) 6 U25 el27 ze27 ⟨rfl, (.t rfl), trivial⟩ (by simp) (by decide) rfl) fun k => Ag rfl rfl <| An <| W.seq <| Aw <| Ao rfl (.assign .i64) <| An <| W.block ?_
  obtain ⟨s1, hs2, hk3⟩ := Bs hm
  clear hm
  refine W.loop (fun m (s : ((List api_Unit) × Int) × Tok) => M.r12_Units_loop1 u (M.r12_Units n) m s.1.1 s.1.2 = some s1) (fun s => [(3, (tO tapi_Unit s.2 s.1.1)), (4, (I6.is s.1.2)), (1, (tapi_Unit.ptr u))]) (fun s => [(6, Dec.Own tapi_Unit 27 s.2 s.1.1.length)]) _ (([u], (0 : Int)), k) hs2 ⟨.q rfl, .q rfl, .q rfl, trivial⟩ ⟨rfl, rfl, trivial⟩ ?_
  rintro n4 ⟨⟨out, i⟩, k1⟩ hm
  try dsimp only at hm
  change W _ _ _ _ _ _ _ [(3, (tO tapi_Unit k1 out)), (4, (I6.is i)), (1, (tapi_Unit.ptr u))] [(6, Dec.Own tapi_Unit 27 k1 out.length)]
  cases n4 with
  | zero => rw [M.r12_Units_loop1.eq_1] at hm; cases hm
  | succ n4 =>
   rw [M.r12_Units_loop1.eq_2] at hm
   refine W.seq <| Aw <| Am rfl rfl <| Ao rfl (.fieldAddr U27 rfl J25 fapi_Unit_5 (.t rfl)) <| Ao rfl (.load ty25 (.t rfl)) <| Ao rfl (.lenL U25 (.t rfl)) <| Ao rfl (.ltI (.t rfl) (.t rfl)) <| An <| W.cD hm (.t rfl) (fun hp6 hm => ?_) (fun hp6 hm => ?_)
   ·refine W.skip <| Aq <| W.seq <| W.block <| W.region <| Am rfl rfl <| Ao rfl (.fieldAddr U27 rfl J25 fapi_Unit_5 (.t rfl)) <| Ao rfl (.load ty25 (.t rfl)) <| WL.mv rfl rfl ?_
    obtain ⟨v, hv7, hm⟩ := Bs hm
    refine Ao rfl (.idx hv7 U25 Z27 (.t rfl) (.t rfl)) <| Ao rfl (.load ty27 (.t rfl)) ?_
    obtain ⟨units, hv8, hm⟩ := Bs hm
    refine Ao rfl (.call C16 (ih _ _ hv8) ⟨(.t rfl), trivial⟩) ?_
    obtain ⟨out1, hv9, hm⟩ := Bs hm
    exact WL.opR rfl (OpR.appC (key := 6) hv9 U25 el27 (.t rfl) (.t rfl) rfl) fun k2 => Ag rfl rfl <| WL.nil <| WN.block <| Aq <| W.region <| Am rfl rfl <| WL.lenL (s := 9) (.t rfl) fun hl10 => Ao rfl (.addI1 (.t rfl) .i64 hp6 hl10) <| Ag rfl rfl <| WL.nil <| WN.again n4 ((out1, i + 1), k2) (Nat.lt_succ_self n4) hm ⟨.q rfl, .q rfl, .q rfl, trivial⟩ ⟨rfl, rfl, trivial⟩
   ·refine W.exit rfl ?_
    have hr11 := Si hm
    clear hm
    subst hr11
    have hm := hk3
    try dsimp only at hm
    refine Aq <| Aw <| Am rfl rfl <| Ag rfl rfl <| WL.ns ?_
    cases hm
    exact W.ret1 () rfl (Opd.own (.t rfl)) trivial

theorem r48_Self_spec (n : Nat) (u : api_Unit) (r : (List api_Destination)) (hm : M.r48_Self n u = some r) : FSpec Try.prog 10 [(tapi_Unit.is u)] ((tL tapi_Destination).is r) := by
 unfold M.r48_Self at hm
 refine FSpec.of Try.func10 rfl rfl rfl fun g0 => Aw <| Ao rfl (.box (.t rfl)) <| Ao rfl (.assign (.nil (t := tapi_Destination))) <| Ar <| WL.opR rfl (OpR.buildSlice (n := 0) (ys := []) (z := zapi_Destination) (xs := ([] : List api_Destination)) 6 U32 el56 ze56 trivial (by simp) (by decide) rfl) fun k => Ag rfl rfl <| Ar <| Ao rfl (.load ty27 (.t rfl)) ?_
 obtain ⟨units, hv1, hm⟩ := Bs hm
 refine Ao rfl (.call C16 (r12_Units_spec _ _ _ hv1) ⟨(.t rfl), trivial⟩) <| Ag rfl rfl <| An <| W.seq <| Aw <| Ao rfl (.assign .i64) <| An <| W.block ?_
 obtain ⟨s2, hs3, hk4⟩ := Bs hm
 clear hm
 refine W.loop (fun m (s : ((List api_Destination) × Int) × Tok) => M.r48_Self_loop1 units m s.1.1 s.1.2 = some s2) (fun s => [(3, (tO tapi_Destination s.2 s.1.1)), (5, (I6.is s.1.2)), (4, ((tL tapi_Unit).is units))]) (fun s => [(6, Dec.Own tapi_Destination 56 s.2 s.1.1.length)]) _ ((([] : List api_Destination), (1 : Int)), k) hs3 ⟨.q rfl, .q rfl, .q rfl, trivial⟩ ⟨rfl, rfl, trivial⟩ ?_
 rintro n5 ⟨⟨out, i⟩, k1⟩ hm
 try dsimp only at hm
 change W _ _ _ _ _ _ _ [(3, (tO tapi_Destination k1 out)), (5, (I6.is i)), (4, ((tL tapi_Unit).is units))] [(6, Dec.Own tapi_Destination 56 k1 out.length)]
 cases n5 with
 | zero => rw [M.r48_Self_loop1.eq_1] at hm; cases hm
 | succ n5 =>
  rw [M.r48_Self_loop1.eq_2] at hm
  refine W.seq <| Aw <| Am rfl rfl <| Am rfl rfl <| Ao rfl (.lenL U25 (.t rfl)) <| Ao rfl (.ltI (.t rfl) (.t rfl)) <| An <| W.cD hm (.t rfl) (fun hp7 hm => ?_) (fun hp7 hm => ?_)
  ·refine W.skip <| Aq <| W.seq <| W.block ?_
   obtain ⟨v, hv8, hm⟩ := Bs hm
   obtain ⟨v1, hv9, hm⟩ := Bs hm
   obtain ⟨out1, hv10, hm⟩ := Bs hm
   exact W.drawR [.c (tO tapi_Destination k1 out), .c ((tL tapi_Unit).is units), .c (I6.is i), .c (tapi_Unit.ptr v), .c (tapi_Id.ptr v.Id), .c (tapi_Id.is v.Id), .c ((tL tapi_Unit).is units), .c (I6.is i), .c (tapi_Unit.ptr v1), .c (tapi_Id.ptr v1.Id), .c (tapi_Id.is v1.Id), .c (tapi_Destination.is (⟨v.Id, v1.Id⟩ : api_Destination)), .c ((tL tapi_Destination).is [(⟨v.Id, v1.Id⟩ : api_Destination)]), .f (fun k2 => (tO tapi_Destination k2 out1)), .f (fun k2 => (tO tapi_Destination k2 out1))] [([], [3]), ([], [4]), ([], [5]), ([1, 2], []), ([3], []), ([4], []), ([], [4]), ([], [5]), ([6, 7], []), ([8], []), ([9], []), ([5, 10], []), ([11], []), ([0, 12], []), ([13], [])] 13 [6] (fun k : Tok => tO tapi_Destination k out1) (fun k : Tok => [(6, Dec.Own tapi_Destination 56 k out1.length)]) (none : Tok) Mx rfl rfl rfl (fun k2 => ⟨.inr (Op1.move (.t rfl)), .inr (Op1.move (.t rfl)), .inr (Op1.move (.t rfl)), .inr (Op1.idx hv8 U25 Z27 (.t rfl) (.t rfl)), .inr (Op1.fieldAddr U27 rfl J23 fapi_Unit_0 (.t rfl)), .inr (Op1.load ty23 (.t rfl)), .inr (Op1.move (.t rfl)), .inr (Op1.move (.t rfl)), .inr (Op1.idx hv9 U25 Z27 (.t rfl) (.t rfl)), .inr (Op1.fieldAddr U27 rfl J23 fapi_Unit_0 (.t rfl)), .inr (Op1.load ty23 (.t rfl)), .inr (Op1.build (s := tapi_Destination) (x := (⟨v.Id, v1.Id⟩ : api_Destination)) zapi_Destination_f rfl U56 (zapi_Destination_sz _ U56) ze56 ⟨_, tapi_Id, v.Id, _, _, rfl, Z23, (.t rfl), sapi_Destination_0, ⟨_, tapi_Id, v1.Id, _, _, rfl, Z23, (.t rfl), sapi_Destination_1, rfl⟩⟩), .inr (Op1.buildSlice (n := 1) (ys := [(0, (⟨v.Id, v1.Id⟩ : api_Destination))]) (z := zapi_Destination) (xs := [(⟨v.Id, v1.Id⟩ : api_Destination)]) U32 el56 ze56 ⟨rfl, (.t rfl), trivial⟩ (by simp) (by decide) rfl), .inl rfl, .inr (Op1.assign (.t rfl)), trivial⟩) (.inl ⟨by decide, _, _, rfl, rfl, rfl, rfl, OpR.appC (key := 6) hv10 U32 el56 (.t rfl) (.t rfl) rfl⟩) fun k2 => WN.block <| Aq <| W.region <| Am rfl rfl <| WL.lenL (s := 4) (.t rfl) fun hl11 => Ao rfl (.addI1 (.t rfl) .i64 hp7 hl11) <| Ag rfl rfl <| WL.nil <| WN.again n5 ((out1, i + 1), k2) (Nat.lt_succ_self n5) hm ⟨.q rfl, .q rfl, .q rfl, trivial⟩ ⟨rfl, rfl, trivial⟩
  ·refine W.exit rfl ?_
   have hr12 := Si hm
   clear hm
   subst hr12
   have hm := hk4
   try dsimp only at hm
   refine Aq <| Aw <| Am rfl rfl <| Ag rfl rfl <| WL.ns ?_
   cases hm
   exact W.ret1 () rfl (Opd.own (.t rfl)) trivial

theorem law48_EquivalenceReflexive_spec (n : Nat) (u : api_Unit) (x : List api_Meaning) (r : Bool) (hm : M.law48_EquivalenceReflexive n u x = some r) : FSpecR Try.prog 3 [(tapi_Unit.is u), ((tL tapi_Meaning).is x)] [(700000, GlE 0)] (fun _ : Unit => (tB.is r)) (fun _ => []) := by
 unfold M.law48_EquivalenceReflexive at hm
 refine FSpecR.of Try.func3 rfl rfl rfl fun g0 => Aw <| Ao rfl (.box (.t rfl)) <| Ao rfl (.assign .bool) <| An <| W.seq ?_
 obtain ⟨s1, hs2, hk3⟩ := Bs hm
 clear hm
 refine W.join (fun s : Bool => s = s1) (fun s => [(14, (tB.is s)), (1, ((tL tapi_Meaning).is x)), (2, (tapi_Unit.ptr u))]) (fun s => [(700000, GlE 0)]) ?_ ?_
 ·rintro v hj22
  try dsimp only at hj22
  subst hj22
  have hm := hk3
  clear hk3
  try dsimp only at hm
  change W _ _ _ _ _ _ _ [(14, (tB.is v)), (1, ((tL tapi_Meaning).is x)), (2, (tapi_Unit.ptr u))] [(700000, GlE 0)]
  refine W.cB hm (.t rfl) (fun hp9 hm => ?_) (fun hp9 hm => ?_)
  ·refine W.sr ?_
   obtain ⟨awake, hv10, hm⟩ := Bs hm
   refine Ao rfl (.callG (rin := [(700000, GlE 0)]) C9 (law48_awake_spec _ _ hv10) ⟨rfl, trivial⟩ ⟨rfl, rfl, trivial⟩ trivial) <| Ag rfl rfl <| WL.ns ?_
   cases hm
   exact W.ret1 () rfl (.t rfl) trivial
  ·refine W.skip <| Aq <| Aw <| Ao rfl (.load ty27 (.t rfl)) ?_
   obtain ⟨self, hv11, hm⟩ := Bs hm
   refine Ao rfl (.call C10 (r48_Self_spec _ _ _ hv11) ⟨(.t rfl), trivial⟩) <| Ag rfl rfl <| Ar <| Ao rfl (.load ty27 (.t rfl)) <| Ao rfl (.load ty27 (.t rfl)) <| Am rfl rfl <| Am rfl rfl <| WL.mv rfl rfl ?_
   obtain ⟨equiva, hv12, hm⟩ := Bs hm
   refine Ao rfl (.callG (rin := [(700000, GlE 0)]) C11 (equivalence_Equivalent_spec _ _ _ _ _ _ _ hv12) ⟨rfl, trivial⟩ ⟨rfl, rfl, trivial⟩ ⟨(.t rfl), (.t rfl), (.t rfl), (.t rfl), (.t rfl), trivial⟩) <| WL.mv rfl rfl ?_
   rcases iteB hm with ⟨hp14, hb13, hm⟩ | ⟨hp14, hb13, hm⟩
   ·refine Ax rfl hb13 (.load ty27 (.t rfl)) <| Ax rfl hb13 (.load ty27 (.t rfl)) <| Ax rfl hb13 (.move (.t rfl)) ?_
    obtain ⟨checkw, hv15, hm⟩ := Bs hm
    refine Ax rfl hb13 (.callG (rin := [(700000, GlE 0)]) C12 (equivalence_CheckWords_spec _ _ _ _ _ hv15) ⟨rfl, trivial⟩ ⟨rfl, rfl, trivial⟩ ⟨(.t rfl), (.t rfl), (.t rfl), trivial⟩) <| Ax rfl hb13 (.lenL U34 (.t rfl)) <| Ax rfl hb13 (.eqI (.t rfl) .i64) <| Ao rfl (.pickT (.t rfl) hb13 (.t rfl)) <| WL.mv rfl rfl ?_
    rcases iteD hm with ⟨hp17, hb16, hm⟩ | ⟨hp17, hb16, hm⟩
    ·refine Ax rfl hb16 (.load ty27 (.t rfl)) <| Ax rfl hb16 (.load ty27 (.t rfl)) <| Ax rfl hb16 (.move (.t rfl)) ?_
     obtain ⟨moved, hv18, hm⟩ := Bs hm
     refine Ax rfl hb16 (.call C13 (equivalence_Moved_spec _ _ _ _ _ hv18) ⟨(.t rfl), (.t rfl), (.t rfl), trivial⟩) <| Ax rfl hb16 (.lenL U36 (.t rfl)) <| Ax rfl hb16 (.eqI (.t rfl) .i64) <| Ao rfl (.pickT (.t rfl) hb16 (.t rfl)) <| WL.mv rfl rfl ?_
     rcases iteD hm with ⟨hp20, hb19, hm⟩ | ⟨hp20, hb19, hm⟩
     ·obtain ⟨awake1, hv21, hm⟩ := Bs hm
      refine Ax rfl hb19 (.callG (rin := [(700000, GlE 0)]) C9 (law48_awake_spec _ _ hv21) ⟨rfl, trivial⟩ ⟨rfl, rfl, trivial⟩ trivial) <| Ao rfl (.pickT (.t rfl) hb19 (.t rfl)) <| Ag rfl rfl <| WL.ns ?_
      cases hm
      exact W.ret1 () rfl (.t rfl) trivial
     ·refine Ap rfl hb19 <| Ao rfl (.pickF (.t rfl) hb19 .bool) <| Ag rfl rfl <| WL.ns ?_
      cases hm
      exact W.ret1 () rfl (.t rfl) trivial
    ·refine Ap rfl hb16 <| Ap rfl hb16 <| Ap rfl hb16 <| Ap rfl hb16 <| Ap rfl hb16 <| Ap rfl hb16 <| Ao rfl (.pickF (.t rfl) hb16 .bool) <| Am rfl rfl <| Ap rfl rfl <| Ao rfl (.pickF (.t rfl) rfl .bool) <| Ag rfl rfl <| WL.ns ?_
     cases hm
     exact W.ret1 () rfl (.t rfl) trivial
   ·refine Ap rfl hb13 <| Ap rfl hb13 <| Ap rfl hb13 <| Ap rfl hb13 <| Ap rfl hb13 <| Ap rfl hb13 <| Ao rfl (.pickF (.t rfl) hb13 .bool) <| Am rfl rfl <| Ap rfl rfl <| Ap rfl rfl <| Ap rfl rfl <| Ap rfl rfl <| Ap rfl rfl <| Ap rfl rfl <| Ao rfl (.pickF (.t rfl) rfl .bool) <| WL.mv rfl rfl ?_
    refine Ap rfl rfl <| Ao rfl (.pickF (.t rfl) rfl .bool) <| Ag rfl rfl <| WL.ns ?_
    cases hm
    exact W.ret1 () rfl (.t rfl) trivial
 ·have hm := hs2
  clear hs2
  refine W.region <| Ao rfl (.load ty27 (.t rfl)) <| Ao rfl (.load ty27 (.t rfl)) <| WL.mv rfl rfl ?_
  obtain ⟨heavy, hv4, hm⟩ := Bs hm
  refine Ao rfl (.call C7 (law48_heavy_spec _ _ _ _ _ _ _ hv4) ⟨(.t rfl), (.t rfl), (.nil (t := tapi_Destination)), (.t rfl), (.nil (t := tapi_Meaning)), trivial⟩) <| WL.mv rfl rfl ?_
  rcases iteB hm with ⟨hp6, hb5, hm⟩ | ⟨hp6, hb5, hm⟩
  ·exact Ap rfl hb5 <| Ap rfl hb5 <| Ap rfl hb5 <| Ao rfl (.pickT (.t rfl) hb5 .bool) <| WL.nil <| WN.meet true (Si hm) ⟨.q rfl, .q rfl, .q rfl, trivial⟩ ⟨rfl, rfl, trivial⟩
  ·refine Ax rfl hb5 (.load ty27 (.t rfl)) ?_
   obtain ⟨once, hv7, hm⟩ := Bs hm
   exact Ax rfl hb5 (.call C8 (law48_once_spec _ _ _ hv7) ⟨(.t rfl), trivial⟩) <| Ax rfl hb5 (.notB (.t rfl)) <| Ao rfl (.pickF (.t rfl) hb5 (.t rfl)) <| WL.nil <| WN.meet (!once) (Si hm) ⟨.q rfl, .q rfl, .q rfl, trivial⟩ ⟨rfl, rfl, trivial⟩

theorem law48_named_spec : ∀ (n : Nat) (u : api_Unit) (by0_ : Int) (r : api_Unit × (List api_Destination)), M.law48_named n u by0_ = some r → FSpec Try.prog 15 [(tapi_Unit.is u), (I6.is by0_)] (Asn.tuple2 (tapi_Unit.is r.1) ((tL tapi_Destination).is r.2)) := by
 intro n
 induction n with
 | zero => intro u by0_ r hm; cases hm
 | succ n ih =>
  intro u by0_ r hm
  rw [M.law48_named.eq_2] at hm
  refine FSpec.of Try.func15 rfl rfl rfl fun g0 => Aw <| WL.opR rfl (OpR.boxB 2 (Cellable.is tapi_Unit u) (.t rfl)) fun b => WL.opR rfl (OpR.alloc 4 ze27) fun b1 => Ao rfl (.assign (.nil (t := tapi_Destination))) <| Ar <| WL.addNil (t := tapi_Destination) (E := 56) 6 <| Ao rfl (.assign (Opd.nilO (t := tapi_Destination))) <| Ar <| WL.opR rfl (OpR.buildSlice (n := 0) (ys := []) (z := zapi_Unit) (xs := ([] : List api_Unit)) 13 U25 el27 ze27 trivial (by simp) (by decide) rfl) fun k => Ag rfl rfl <| An <| W.seq <| Aw <| Ao rfl (.fieldAddrB (o := 0) U27 rfl J25 (.t rfl) rfl) <| Ao rfl (.loadBF 2 rfl ty25 fapi_Unit_5 rfl (.t rfl)) ?_
  refine Ao rfl (.lenL U25 (.t rfl)) <| Ao rfl (.move .i64) <| An <| W.block ?_
  obtain ⟨s1, hs2, hk3⟩ := Bs hm
  clear hm
  refine W.loop (fun m (s : Int × List api_Unit × List api_Unit × (((List api_Destination) × (List api_Unit)) × (Tok × Tok))) => m = s.2.2.1.length ∧ u.Kids = s.2.1 ++ s.2.2.1 ∧ s.1 = (s.2.1.length : Int) ∧ M.law48_named_loop1 by0_ (M.law48_named n) s.2.2.1 s.2.2.2.1.1 s.2.2.2.1.2 = some s1) (fun s => [(17, (I6.is s.1)), (6, (tO tapi_Destination s.2.2.2.2.1 s.2.2.2.1.1)), (7, (tO tapi_Unit s.2.2.2.2.2 s.2.2.2.1.2)), (1, (I6.is by0_)), (2, (Bp b 0)), (4, (Bp b1 0)), (15, ((tL tapi_Unit).is u.Kids)), (16, (I6.is (u.Kids.length : Int)))]) (fun s => [(6, Dec.Own tapi_Destination 56 s.2.2.2.2.1 s.2.2.2.1.1.length), (13, Dec.Own tapi_Unit 27 s.2.2.2.2.2 s.2.2.2.1.2.length), (2, (Bx 8 true 27 (tapi_Unit.is u) b)), (4, (Bx 8 true 27 (tapi_Unit.is zapi_Unit) b1))]) u.Kids.length ((0 : Int), [], u.Kids, ((([] : List api_Destination), ([] : List api_Unit)), ((none : Tok), k))) ⟨rfl, rfl, rfl, hs2⟩ ⟨.q rfl, .q rfl, .q rfl, .q rfl, .q rfl, .q rfl, .q rfl, .q rfl, trivial⟩ ⟨rfl, rfl, ⟨rfl, rfl, ⟨rfl, rfl, ⟨rfl, rfl, trivial⟩⟩⟩⟩ ?_
  rintro m ⟨i, pre, rest1, ⟨⟨l, kids⟩, ⟨k1, k2⟩⟩⟩ ⟨hn7, hxs4, hi5, hm⟩
  try dsimp only at hn7 hxs4 hi5 hm
  change W _ _ _ _ _ _ _ [(17, (I6.is i)), (6, (tO tapi_Destination k1 l)), (7, (tO tapi_Unit k2 kids)), (1, (I6.is by0_)), (2, (Bp b 0)), (4, (Bp b1 0)), (15, ((tL tapi_Unit).is u.Kids)), (16, (I6.is (u.Kids.length : Int)))] [(6, Dec.Own tapi_Destination 56 k1 l.length), (13, Dec.Own tapi_Unit 27 k2 kids.length), (2, (Bx 8 true 27 (tapi_Unit.is u) b)), (4, (Bx 8 true 27 (tapi_Unit.is zapi_Unit) b1))]
  refine W.lenL (s := 15) (.t rfl) fun hlen6 => Aw <| Ao rfl (.ltI (.t rfl) (.t rfl)) <| An <| W.seq <| W.cond (.t rfl) (fun hc9 => ?_) (fun hc9 => ?_)
  ·have hp10 := of_decide_eq_true hc9
   obtain ⟨e, es, hrest12⟩ := range_more hxs4 hi5 hp10
   subst hrest12
   rw [M.law48_named_loop1.eq_2] at hm
   refine W.skip <| Aq <| W.seq <| W.block <| Aw <| Ao rfl (.idxPre hxs4 hi5 U25 Z27 (.t rfl) (.t rfl)) <| Ao rfl (.load ty27 (.t rfl)) <| WL.opR rfl (OpR.alloc 9 ze27) fun b2 => WL.opU (OpR.storeB (b := b2) 9 Z27 (Cellable.is tapi_Unit e) rfl (.t rfl) (.t rfl)) fun _ => WL.sealed (t := tapi_Unit) (u := e) 9 9 rfl rfl <| Ar <| Ao rfl (.fieldAddr U27 rfl J23 fapi_Unit_0 (.t rfl)) <| Ao rfl (.load ty23 (.t rfl)) <| WL.opR rfl (OpR.alloc 10 ze23) fun b3 => WL.opU (OpR.storeB (b := b3) 10 Z23 (Cellable.is tapi_Id e.Id) rfl (.t rfl) (.t rfl)) fun _ => WL.nr ?_
   refine Ao rfl (.fieldAddrB (o := 0) U23 rfl J3 (.t rfl) rfl) <| Ao rfl (.loadBF 10 rfl ty3 fapi_Id_0 rfl (.t rfl)) <| WL.mv rfl rfl ?_
   obtain ⟨v, hv13, hm⟩ := Bs hm
   refine Ao rfl (.addC hv13 (.t rfl) (.t rfl)) <| Ao rfl (.fieldAddrB (o := 0) U23 rfl J3 (.t rfl) rfl) <| WL.opU (OpR.storeBF (b := b3) 10 rfl ty3 sapi_Id_0 rfl (by decide) (.t rfl) (.t rfl)) fun _ => Ar <| Ao rfl (.load ty27 (.t rfl)) <| WL.mv rfl rfl ?_
   obtain ⟨named, hv14, hm⟩ := Bs hm
   refine Ao rfl (.call C15 (ih _ _ _ hv14) ⟨(.t rfl), (.t rfl), trivial⟩) <| Am rfl rfl <| Ao rfl (.extract0 (.t rfl)) <| Ao rfl (.extract1 (.t rfl)) <| WL.opR rfl (OpR.alloc 11 ze27) fun b4 => WL.opU (OpR.storeB (b := b4) 11 Z27 (Cellable.is tapi_Unit named.1) rfl (.t rfl) (.t rfl)) fun _ => Ag rfl rfl <| Ar <| Ao rfl (.loadB 10 Y23 Z23 rfl (.t rfl)) <| Ao rfl (.fieldAddrB (o := 0) U27 rfl J23 (.t rfl) rfl) <| WL.opU (OpR.storeBF (b := b4) 11 rfl ty23 sapi_Unit_0 rfl (by decide) (.t rfl) (.t rfl)) fun _ => Ar <| Am rfl rfl <| Ao rfl (.fieldAddr U27 rfl J23 fapi_Unit_0 (.t rfl)) <| Ao rfl (.load ty23 (.t rfl)) <| Ao rfl (.loadB 10 Y23 Z23 rfl (.t rfl)) ?_
   refine Ao rfl (.build (s := tapi_Destination) (x := (⟨e.Id, ({ e.Id with Act := v } : api_Id)⟩ : api_Destination)) zapi_Destination_f rfl U56 (zapi_Destination_sz _ U56) ze56 ⟨_, tapi_Id, e.Id, _, _, rfl, Z23, (.t rfl), sapi_Destination_0, ⟨_, tapi_Id, ({ e.Id with Act := v } : api_Id), _, _, rfl, Z23, (.t rfl), sapi_Destination_1, rfl⟩⟩) <| Ao rfl (.buildSlice (n := 1) (ys := [(0, (⟨e.Id, ({ e.Id with Act := v } : api_Id)⟩ : api_Destination))]) (z := zapi_Destination) (xs := [(⟨e.Id, ({ e.Id with Act := v } : api_Id)⟩ : api_Destination)]) U32 el56 ze56 ⟨rfl, (.t rfl), trivial⟩ (by simp) (by decide) rfl) ?_
   obtain ⟨l1, hv15, hm⟩ := Bs hm
   refine WL.opR rfl (OpR.appC (key := 6) hv15 U32 el56 (.t rfl) (.t rfl) rfl) fun k3 => WL.mv rfl rfl ?_
   obtain ⟨l2, hv16, hm⟩ := Bs hm
   refine WL.opR rfl (OpR.appC (key := 6) hv16 U32 el56 (.t rfl) (.t rfl) rfl) fun k4 => Ag rfl rfl <| WL.nr1 <| Am rfl rfl <| Ao rfl (.loadB 11 Y27 Z27 rfl (.t rfl)) <| Ao rfl (.buildSlice (n := 1) (ys := [(0, ({ named.1 with Id := ({ e.Id with Act := v } : api_Id) } : api_Unit))]) (z := zapi_Unit) (xs := [({ named.1 with Id := ({ e.Id with Act := v } : api_Id) } : api_Unit)]) U25 el27 ze27 ⟨rfl, (.t rfl), trivial⟩ (by simp) (by decide) rfl) ?_
   obtain ⟨out, hv17, hm⟩ := Bs hm
   exact WL.opR rfl (OpR.appC (key := 13) hv17 U25 el27 (.t rfl) (.t rfl) rfl) fun k5 => Ag rfl rfl <| WL.nil <| WN.block <| Aq <| W.region <| Ao rfl (.addI (.t rfl) .i64 (range_inR hi5 hp10 hlen6)) <| Am rfl rfl <| WL.nil <| WN.again es.length (i + 1, pre ++ [e], es, ((l2, out), (k4, k5))) (range_lt hn7) ⟨rfl, range_step hxs4, range_idx hi5, hm⟩ ⟨.q rfl, .q rfl, .q rfl, .q rfl, .q rfl, .q rfl, .q rfl, .q rfl, trivial⟩ ⟨rfl, rfl, ⟨rfl, rfl, ⟨rfl, rfl, ⟨rfl, rfl, trivial⟩⟩⟩⟩
  ·have hrest12 := range_end hxs4 hi5 (of_decide_eq_false hc9)
   subst hrest12
   rw [M.law48_named_loop1.eq_1] at hm
   refine W.exit rfl ?_
   have hr18 := Si hm
   clear hm
   subst hr18
   have hm := hk3
   try dsimp only at hm
   refine Aq <| Aw <| Am rfl rfl <| Ao rfl (.fieldAddrB (o := 0) U27 rfl J25 (.t rfl) rfl) <| WL.opU (OpR.storeBF (b := b) 2 rfl ty25 sapi_Unit_5 rfl (by decide) (.t rfl) (Opd.own (.t rfl))) fun _ => Ar <| Ao rfl (.loadB 2 Y27 Z27 rfl (.t rfl)) <| Am rfl rfl <| WL.opU (OpR.storeB (b := b1) 4 Z27 (Cellable.is tapi_Unit ({ u with Kids := kids } : api_Unit)) rfl (.t rfl) (.t rfl)) fun _ => Ag rfl rfl <| WL.ns ?_
   cases hm
   exact W.retQ2 () rfl rfl (ResAt.cell 4 Y27 Z27 rfl (.t rfl)) (ResAt.tmp (Opd.own (.t rfl))) trivial

theorem law48_EquivalenceRenamed_spec (n : Nat) (u : api_Unit) (x : List api_Meaning) (r : Bool) (hm : M.law48_EquivalenceRenamed n u x = some r) : FSpecR Try.prog 4 [(tapi_Unit.is u), ((tL tapi_Meaning).is x)] [(700000, GlE 0)] (fun _ : Unit => (tB.is r)) (fun _ => []) := by
 unfold M.law48_EquivalenceRenamed at hm
 refine FSpecR.of Try.func4 rfl rfl rfl fun g0 => Aw <| Ao rfl (.box (.t rfl)) <| Ao rfl (.assign .bool) <| An <| W.seq ?_
 obtain ⟨s1, hs2, hk3⟩ := Bs hm
 clear hm
 refine W.join (fun s : Bool => s = s1) (fun s => [(24, (tB.is s)), (1, ((tL tapi_Meaning).is x)), (2, (tapi_Unit.ptr u))]) (fun s => [(700000, GlE 0)]) ?_ ?_
 ·rintro v hj80
  try dsimp only at hj80
  subst hj80
  have hm := hk3
  clear hk3
  try dsimp only at hm
  change W _ _ _ _ _ _ _ [(24, (tB.is v)), (1, ((tL tapi_Meaning).is x)), (2, (tapi_Unit.ptr u))] [(700000, GlE 0)]
  refine W.cB hm (.t rfl) (fun hp9 hm => ?_) (fun hp9 hm => ?_)
  ·refine W.sr ?_
   obtain ⟨awake, hv10, hm⟩ := Bs hm
   refine Ao rfl (.callG (rin := [(700000, GlE 0)]) C9 (law48_awake_spec _ _ hv10) ⟨rfl, trivial⟩ ⟨rfl, rfl, trivial⟩ trivial) <| Ag rfl rfl <| WL.ns ?_
   cases hm
   exact W.ret1 () rfl (.t rfl) trivial
  ·refine W.skip <| Aq <| Aw <| WL.opR rfl (OpR.makeMap tapi_Id tB 26) fun b => Ag rfl rfl <| An <| W.seq <| Aw <| Ao rfl (.load ty27 (.t rfl)) ?_
   obtain ⟨all, hv11, hm⟩ := Bs hm
   refine Ao rfl (.call C14 (r06_All_spec _ _ _ hv11) ⟨(.t rfl), trivial⟩) <| Ao rfl (.lenL U36 (.t rfl)) <| Ao rfl (.move .i64) <| An <| W.block ?_
   obtain ⟨s12, hs13, hk14⟩ := Bs hm
   clear hm
   refine W.loop (fun m (s : Int × List api_Id × List api_Id × ((List (api_Id × Bool)))) => m = s.2.2.1.length ∧ all = s.2.1 ++ s.2.2.1 ∧ s.1 = (s.2.1.length : Int) ∧ M.law48_EquivalenceRenamed_loop1 n u s.2.2.1 s.2.2.2 = some s12) (fun s => [(30, (I6.is s.1)), (1, ((tL tapi_Meaning).is x)), (2, (tapi_Unit.ptr u)), (5, (Mv b)), (28, ((tL tapi_Id).is all)), (29, (I6.is (all.length : Int)))]) (fun s => [(26, Mp tapi_Id tB s.2.2.2 b), (700000, GlE 0)]) all.length ((0 : Int), [], all, ([] : List (api_Id × Bool))) ⟨rfl, rfl, rfl, hs13⟩ ⟨.q rfl, .q rfl, .q rfl, .q rfl, .q rfl, .q rfl, trivial⟩ ⟨rfl, rfl, ⟨rfl, rfl, trivial⟩⟩ ?_
   rintro m ⟨i, pre, rest5, v1⟩ ⟨hn18, hxs15, hi16, hm⟩
   try dsimp only at hn18 hxs15 hi16 hm
   change W _ _ _ _ _ _ _ [(30, (I6.is i)), (1, ((tL tapi_Meaning).is x)), (2, (tapi_Unit.ptr u)), (5, (Mv b)), (28, ((tL tapi_Id).is all)), (29, (I6.is (all.length : Int)))] [(26, Mp tapi_Id tB v1 b), (700000, GlE 0)]
   refine W.lenL (s := 28) (.t rfl) fun hlen17 => Aw <| Ao rfl (.ltI (.t rfl) (.t rfl)) <| An <| W.seq <| W.cond (.t rfl) (fun hc20 => ?_) (fun hc20 => ?_)
   ·have hp21 := of_decide_eq_true hc20
    obtain ⟨e, es, hrest23⟩ := range_more hxs15 hi16 hp21
    subst hrest23
    rw [M.law48_EquivalenceRenamed_loop1.eq_2] at hm
    refine W.skip <| Aq <| W.seq <| W.block <| Aw <| Ao rfl (.idxPre hxs15 hi16 U36 Z23 (.t rfl) (.t rfl)) <| Ao rfl (.load ty23 (.t rfl)) <| WL.opR rfl (OpR.alloc 7 ze23) fun b1 => WL.opU (OpR.storeB (b := b1) 7 Z23 (Cellable.is tapi_Id e) rfl (.t rfl) (.t rfl)) fun _ => WL.sealed (t := tapi_Id) (u := e) 7 7 rfl rfl <| An <| W.seq ?_
    obtain ⟨s24, hs25, hk26⟩ := Bs hm
    clear hm
    refine W.join (fun s : Bool => s = s24) (fun s => [(41, (tB.is s)), (1, ((tL tapi_Meaning).is x)), (2, (tapi_Unit.ptr u)), (5, (Mv b)), (7, (tapi_Id.ptr e)), (28, ((tL tapi_Id).is all)), (29, (I6.is (all.length : Int))), (30, (I6.is i))]) (fun s => [(26, Mp tapi_Id tB v1 b), (700000, GlE 0)]) ?_ ?_
    ·rintro v2 hj33
     try dsimp only at hj33
     subst hj33
     have hm := hk26
     clear hk26
     try dsimp only at hm
     change W _ _ _ _ _ _ _ [(41, (tB.is v2)), (1, ((tL tapi_Meaning).is x)), (2, (tapi_Unit.ptr u)), (5, (Mv b)), (7, (tapi_Id.ptr e)), (28, ((tL tapi_Id).is all)), (29, (I6.is (all.length : Int))), (30, (I6.is i))] [(26, Mp tapi_Id tB v1 b), (700000, GlE 0)]
     refine W.cB hm (.t rfl) (fun hp30 hm => ?_) (fun hp30 hm => ?_)
     ·refine W.sr ?_
      obtain ⟨awake1, hv31, hm⟩ := Bs hm
      refine Ao rfl (.callG (rin := [(700000, GlE 0)]) C9 (law48_awake_spec _ _ hv31) ⟨rfl, trivial⟩ ⟨rfl, rfl, trivial⟩ trivial) <| Ag rfl rfl <| WL.ns ?_
      have hr32 := Si hm
      clear hm
      subst hr32
      have hm := hk14
      try dsimp only at hm
      cases hm
      exact W.ret1 () rfl (.t rfl) trivial
     ·exact W.skip <| Aq <| W.weakR (res' := [(26, Mp tapi_Id tB v1 b), (700000, GlE 0)]) ⟨rfl, rfl, ⟨rfl, rfl, trivial⟩⟩ <| W.drawM [.c (Mv b), .c (tapi_Id.is e), .c (tapi_Id.is e), .c (tapi_Id.ptr u.Id), .c (tapi_Id.is u.Id), .c (tB.is (decide (e ≠ u.Id))), .c Asn.any] [([], [5]), ([], [7]), ([], [7]), ([], [2]), ([3], []), ([2, 4], []), ([0, 1, 5], [])] [6] [[], [], [], [], [], [], []] (fun m cv => match m with | 0 => [(26, Mp tapi_Id tB v1 b), (700000, GlE 0)] | _ => [(26, Mp tapi_Id tB (mset v1 e (decide (e ≠ u.Id))) b), (700000, GlE 0)]) (fun _ => none) Mx rfl rfl rfl rfl rfl ⟨fun _ _ _ _ => rfl, ⟨fun _ _ _ _ => rfl, ⟨fun _ _ _ _ => rfl, ⟨fun _ _ _ _ => rfl, ⟨fun _ _ _ _ => rfl, ⟨fun _ _ _ _ => rfl, ⟨fun _ _ _ _ => rfl, trivial⟩⟩⟩⟩⟩⟩⟩ rfl ⟨mo fun cv => Op1.move (.t rfl), ⟨mo fun cv => Op1.load ty23 (.t rfl), ⟨mo fun cv => Op1.load ty23 (.t rfl), ⟨mo fun cv => Op1.fieldAddr U27 rfl J23 fapi_Unit_0 (.t rfl), ⟨mo fun cv => Op1.load ty23 (.t rfl), ⟨mo fun cv => Op1.neSt (D := 2) rfl (by decide) eg23 eq23 (.t rfl) (.t rfl), ⟨.inl rfl, trivial⟩⟩⟩⟩⟩⟩⟩ ⟨⟨_, _, _, [26], (fun cv => [(26, Mp tapi_Id tB (mset v1 e (decide (e ≠ u.Id))) b)]), rfl, rfl, rfl, rfl, fun _ => rfl, fun _ _ => rfl, fun cv => OpR.viaU (OpR.mapUpdate (b := b) (v := (decide (e ≠ u.Id))) 26 U39 kt23 rfl (.t rfl) (.t rfl) (.t rfl))⟩, trivial⟩ fun cv => WN.block <| Aq <| W.region <| Ao rfl (.addI (.t rfl) .i64 (range_inR hi16 hp21 hlen17)) <| Am rfl rfl <| WL.nil <| WN.again es.length (i + 1, pre ++ [e], es, mset v1 e (decide (e ≠ u.Id))) (range_lt hn18) ⟨rfl, range_step hxs15, range_idx hi16, hm⟩ ⟨.q rfl, .q rfl, .q rfl, .q rfl, .q rfl, .q rfl, trivial⟩ ⟨rfl, rfl, ⟨rfl, rfl, trivial⟩⟩
    ·have hm := hs25
     clear hs25
     refine W.region <| Ao rfl (.fieldAddr U23 rfl J3 fapi_Id_0 (.t rfl)) <| Ao rfl (.load ty3 (.t rfl)) <| Ao rfl (.ltI (.t rfl) .i64) <| WL.mv rfl rfl ?_
     rcases iteD hm with ⟨hp28, hb27, hm⟩ | ⟨hp28, hb27, hm⟩
     ·exact Ap rfl hb27 <| Ap rfl hb27 <| Ap rfl hb27 <| Ao rfl (.pickT (.t rfl) hb27 .bool) <| WL.nil <| WN.meet true (Si hm) ⟨.q rfl, .q rfl, .q rfl, .q rfl, .q rfl, .q rfl, .q rfl, .q rfl, trivial⟩ ⟨rfl, rfl, ⟨rfl, rfl, trivial⟩⟩
     ·exact Ax rfl hb27 (.fieldAddr U23 rfl J3 fapi_Id_0 (.t rfl)) <| Ax rfl hb27 (.load ty3 (.t rfl)) <| Ax rfl hb27 (.gtI (.t rfl) .i64) <| Ao rfl (.pickF (.t rfl) hb27 (.t rfl)) <| WL.nil <| WN.meet (decide ((1000 : Int) < e.Act)) (Si hm) ⟨.q rfl, .q rfl, .q rfl, .q rfl, .q rfl, .q rfl, .q rfl, .q rfl, trivial⟩ ⟨rfl, rfl, ⟨rfl, rfl, trivial⟩⟩
   ·have hrest23 := range_end hxs15 hi16 (of_decide_eq_false hc20)
    subst hrest23
    rw [M.law48_EquivalenceRenamed_loop1.eq_1] at hm
    refine W.exit rfl ?_
    have hr34 := Si hm
    clear hm
    subst hr34
    have hm := hk14
    try dsimp only at hm
    refine Aq <| Aw <| Ao rfl (.load ty27 (.t rfl)) ?_
    obtain ⟨named, hv35, hm⟩ := Bs hm
    refine Ao rfl (.call C15 (law48_named_spec _ _ _ _ hv35) ⟨(.t rfl), .i64, trivial⟩) <| Am rfl rfl <| Ao rfl (.extract0 (.t rfl)) <| Ao rfl (.extract1 (.t rfl)) <| WL.opR rfl (OpR.alloc 8 ze27) fun b2 => WL.opU (OpR.storeB (b := b2) 8 Z27 (Cellable.is tapi_Unit named.1) rfl (.t rfl) (.t rfl)) fun _ => WL.sealed (t := tapi_Unit) (u := named.1) 8 8 rfl rfl <| Ag rfl rfl <| Ar <| WL.addNil (t := tapi_Meaning) (E := 44) 10 <| Ao rfl (.assign (Opd.nilO (t := tapi_Meaning))) <| An <| W.seq <| Aw <| Am rfl rfl <| Ao rfl (.lenL U28 (.t rfl)) ?_
    refine Ao rfl (.move .i64) <| An <| W.block ?_
    obtain ⟨s36, hs37, hk38⟩ := Bs hm
    clear hm
    refine W.loop (fun m (s : Int × List api_Meaning × List api_Meaning × (((List api_Meaning)) × Tok)) => m = s.2.2.1.length ∧ x = s.2.1 ++ s.2.2.1 ∧ s.1 = (s.2.1.length : Int) ∧ M.law48_EquivalenceRenamed_loop2 n v1 s.2.2.1 s.2.2.2.1 = some s36) (fun s => [(57, (I6.is s.1)), (10, (tO tapi_Meaning s.2.2.2.2 s.2.2.2.1)), (1, ((tL tapi_Meaning).is x)), (2, (tapi_Unit.ptr u)), (5, (Mv b)), (8, (tapi_Unit.ptr named.1)), (9, ((tL tapi_Destination).is named.2)), (55, ((tL tapi_Meaning).is x)), (56, (I6.is (x.length : Int)))]) (fun s => [(10, Dec.Own tapi_Meaning 44 s.2.2.2.2 s.2.2.2.1.length), (26, Mp tapi_Id tB v1 b), (700000, GlE 0)]) x.length ((0 : Int), [], x, (([] : List api_Meaning), (none : Tok))) ⟨rfl, rfl, rfl, hs37⟩ ⟨.q rfl, .q rfl, .q rfl, .q rfl, .q rfl, .q rfl, .q rfl, .q rfl, .q rfl, trivial⟩ ⟨rfl, rfl, ⟨rfl, rfl, ⟨rfl, rfl, trivial⟩⟩⟩ ?_
    rintro m ⟨i1, pre1, rest4, ⟨y, k⟩⟩ ⟨hn42, hxs39, hi40, hm⟩
    try dsimp only at hn42 hxs39 hi40 hm
    change W _ _ _ _ _ _ _ [(57, (I6.is i1)), (10, (tO tapi_Meaning k y)), (1, ((tL tapi_Meaning).is x)), (2, (tapi_Unit.ptr u)), (5, (Mv b)), (8, (tapi_Unit.ptr named.1)), (9, ((tL tapi_Destination).is named.2)), (55, ((tL tapi_Meaning).is x)), (56, (I6.is (x.length : Int)))] [(10, Dec.Own tapi_Meaning 44 k y.length), (26, Mp tapi_Id tB v1 b), (700000, GlE 0)]
    refine W.lenL (s := 55) (.t rfl) fun hlen41 => Aw <| Ao rfl (.ltI (.t rfl) (.t rfl)) <| An <| W.seq <| W.cond (.t rfl) (fun hc44 => ?_) (fun hc44 => ?_)
    ·have hp45 := of_decide_eq_true hc44
     obtain ⟨e1, es1, hrest47⟩ := range_more hxs39 hi40 hp45
     subst hrest47
     rw [M.law48_EquivalenceRenamed_loop2.eq_2] at hm
     refine W.skip <| Aq <| W.seq <| W.block <| Aw <| Ao rfl (.idxPre hxs39 hi40 U28 Z44 (.t rfl) (.t rfl)) <| Ao rfl (.load ty44 (.t rfl)) <| WL.opR rfl (OpR.alloc 12 ze44) fun b3 => WL.opU (OpR.storeB (b := b3) 12 Z44 (Cellable.is tapi_Meaning e1) rfl (.t rfl) (.t rfl)) fun _ => WL.sealed (t := tapi_Meaning) (u := e1) 12 12 rfl rfl <| An <| W.seq <| Aw <| Am rfl rfl <| Ao rfl (.fieldAddr U44 rfl J23 fapi_Meaning_0 (.t rfl)) <| Ao rfl (.load ty23 (.t rfl)) ?_
     refine Ao rfl (.lookup 26 U39 kt23 ze4 rfl (.t rfl) (.t rfl)) <| Ao rfl (.notB (.t rfl)) <| An <| W.cR hm (.t rfl) (fun hp49 hm => ?_) (fun hp49 hm => ?_)
     ·exact W.exit rfl <| Aq <| W.region <| Ao rfl (.addI (.t rfl) .i64 (range_inR hi40 hp45 hlen41)) <| Am rfl rfl <| WL.nil <| WN.again es1.length (i1 + 1, pre1 ++ [e1], es1, (y, k)) (range_lt hn42) ⟨rfl, range_step hxs39, range_idx hi40, hm⟩ ⟨.q rfl, .q rfl, .q rfl, .q rfl, .q rfl, .q rfl, .q rfl, .q rfl, .q rfl, trivial⟩ ⟨rfl, rfl, ⟨rfl, rfl, ⟨rfl, rfl, trivial⟩⟩⟩
     ·refine W.skip <| Aq <| Aw <| Ao rfl (.fieldAddr U44 rfl J23 fapi_Meaning_0 (.t rfl)) <| Ao rfl (.load ty23 (.t rfl)) <| Ao rfl (.fieldAddr U44 rfl J3 fapi_Meaning_1 (.t rfl)) <| Ao rfl (.load ty3 (.t rfl)) <| WL.addNil (t := tapi_Id) (E := 23) 70 <| Ao rfl (.build (s := (tapi_Meaning_k2 none)) (x := (⟨e1.At, e1.N, ([] : List api_Id)⟩ : api_Meaning)) zapi_Meaning_f rfl U44 (zapi_Meaning_sz _ U44) zeapi_Meaning_k2 ⟨_, tapi_Id, e1.At, _, _, rfl, Z23, (.t rfl), (sapi_Meaning_k2_0 none), ⟨_, I6, e1.N, _, _, rfl, Z3, (.t rfl), (sapi_Meaning_k2_1 none), rfl⟩⟩) <| WL.opR rfl (OpR.alloc 13 ze44) fun b4 => WL.opU (OpR.storeB (b := b4) 13 Z44 (Cellable.is (tapi_Meaning_k2 (none : Tok)) (⟨e1.At, e1.N, ([] : List api_Id)⟩ : api_Meaning)) rfl (.t rfl) (.t rfl)) fun _ => WL.nil <| WN.weakR (res' := [(10, Dec.Own tapi_Meaning 44 k y.length), (70, Dec.Own tapi_Id 23 (none : Tok) ([] : List api_Id).length), (26, Mp tapi_Id tB v1 b), (700000, GlE 0), (13, (Bx 5 true 44 ((tapi_Meaning_k2 (none : Tok)).is (⟨e1.At, e1.N, ([] : List api_Id)⟩ : api_Meaning)) b4))]) ⟨rfl, rfl, ⟨rfl, rfl, ⟨rfl, rfl, ⟨rfl, rfl, ⟨rfl, rfl, trivial⟩⟩⟩⟩⟩ <| WN.rekey (res' := [(10, Dec.Own tapi_Meaning 44 k y.length), (1000013, Dec.Own tapi_Id 23 (none : Tok) ([] : List api_Id).length), (26, Mp tapi_Id tB v1 b), (700000, GlE 0), (13, (Bx 5 true 44 ((tapi_Meaning_k2 (none : Tok)).is (⟨e1.At, e1.N, ([] : List api_Id)⟩ : api_Meaning)) b4))]) rfl <| Aq <| W.sr ?_
      refine Ao rfl (.fieldAddrB (o := 0) U44 rfl J23 (.t rfl) rfl) <| Ao rfl (.fieldAddrB (o := 0) U23 rfl J3 (.t rfl) rfl) <| Ao rfl (.loadBF (f := fun x : api_Meaning => x.At.Act) 13 rfl ty3 (Fld.comp (fapi_Meaning_k2_0 (none : Tok)) fapi_Id_0) rfl (.t rfl)) ?_
      obtain ⟨v3, hv50, hm⟩ := Bs hm
      refine Ao rfl (.addC hv50 (.t rfl) .i64) <| Ao rfl (.fieldAddrB (o := 0) U44 rfl J23 (.t rfl) rfl) <| Ao rfl (.fieldAddrB (o := 0) U23 rfl J3 (.t rfl) rfl) <| WL.opU (OpR.storeBF (b := b4) 13 rfl ty3 (FldSet.comp (fapi_Meaning_k2_0 (none : Tok)) (sapi_Meaning_k2_0 (none : Tok)) sapi_Id_0) rfl (show 0 + 0 + 1 ≤ 5 by decide) (.t rfl) (.t rfl)) fun _ => An <| W.seq <| Aw <| Ao rfl (.fieldAddr U44 rfl J36 fapi_Meaning_2 (.t rfl)) <| Ao rfl (.load ty36 (.t rfl)) <| Ao rfl (.lenL U36 (.t rfl)) <| Ao rfl (.move .i64) <| An <| W.block ?_
      obtain ⟨s51, hs52, hk53⟩ := Bs hm
      clear hm
      refine W.loop (fun m (s : Int × List api_Id × List api_Id × ((api_Meaning) × Tok)) => m = s.2.2.1.length ∧ e1.To = s.2.1 ++ s.2.2.1 ∧ s.1 = (s.2.1.length : Int) ∧ M.law48_EquivalenceRenamed_loop3 n v1 s.2.2.1 s.2.2.2.1 = some s51) (fun s => [(80, (I6.is s.1)), (1, ((tL tapi_Meaning).is x)), (2, (tapi_Unit.ptr u)), (5, (Mv b)), (8, (tapi_Unit.ptr named.1)), (9, ((tL tapi_Destination).is named.2)), (10, (tO tapi_Meaning k y)), (13, (Bp b4 0)), (55, ((tL tapi_Meaning).is x)), (56, (I6.is (x.length : Int))), (57, (I6.is i1)), (78, ((tL tapi_Id).is e1.To)), (79, (I6.is (e1.To.length : Int)))]) (fun s => [(1000013, Dec.Own tapi_Id 23 s.2.2.2.2 s.2.2.2.1.To.length), (10, Dec.Own tapi_Meaning 44 k y.length), (13, (Bx 5 true 44 ((tapi_Meaning_k2 s.2.2.2.2).is s.2.2.2.1) b4)), (26, Mp tapi_Id tB v1 b), (700000, GlE 0)]) e1.To.length ((0 : Int), [], e1.To, (({ (⟨e1.At, e1.N, ([] : List api_Id)⟩ : api_Meaning) with At := { (⟨e1.At, e1.N, ([] : List api_Id)⟩ : api_Meaning).At with Act := v3 } } : api_Meaning), (none : Tok))) ⟨rfl, rfl, rfl, hs52⟩ ⟨.q rfl, .q rfl, .q rfl, .q rfl, .q rfl, .q rfl, .q rfl, .q rfl, .q rfl, .q rfl, .q rfl, .q rfl, .q rfl, trivial⟩ ⟨rfl, rfl, ⟨rfl, rfl, ⟨rfl, rfl, ⟨rfl, rfl, ⟨rfl, rfl, trivial⟩⟩⟩⟩⟩ ?_
      rintro m ⟨i2, pre2, rest3, ⟨t, k1⟩⟩ ⟨hn57, hxs54, hi55, hm⟩
      try dsimp only at hn57 hxs54 hi55 hm
      change W _ _ _ _ _ _ _ [(80, (I6.is i2)), (1, ((tL tapi_Meaning).is x)), (2, (tapi_Unit.ptr u)), (5, (Mv b)), (8, (tapi_Unit.ptr named.1)), (9, ((tL tapi_Destination).is named.2)), (10, (tO tapi_Meaning k y)), (13, (Bp b4 0)), (55, ((tL tapi_Meaning).is x)), (56, (I6.is (x.length : Int))), (57, (I6.is i1)), (78, ((tL tapi_Id).is e1.To)), (79, (I6.is (e1.To.length : Int)))] [(1000013, Dec.Own tapi_Id 23 k1 t.To.length), (10, Dec.Own tapi_Meaning 44 k y.length), (13, (Bx 5 true 44 ((tapi_Meaning_k2 k1).is t) b4)), (26, Mp tapi_Id tB v1 b), (700000, GlE 0)]
      refine W.lenL (s := 78) (.t rfl) fun hlen56 => Aw <| Ao rfl (.ltI (.t rfl) (.t rfl)) <| An <| W.seq <| W.cond (.t rfl) (fun hc59 => ?_) (fun hc59 => ?_)
      ·have hp60 := of_decide_eq_true hc59
       obtain ⟨e2, es2, hrest62⟩ := range_more hxs54 hi55 hp60
       subst hrest62
       rw [M.law48_EquivalenceRenamed_loop3.eq_2] at hm
       refine W.skip <| Aq <| W.seq <| W.block <| Aw <| Ao rfl (.idxPre hxs54 hi55 U36 Z23 (.t rfl) (.t rfl)) <| Ao rfl (.load ty23 (.t rfl)) <| WL.opR rfl (OpR.alloc 15 ze23) fun b5 => WL.opU (OpR.storeB (b := b5) 15 Z23 (Cellable.is tapi_Id e2) rfl (.t rfl) (.t rfl)) fun _ => An <| W.seq <| Aw <| Am rfl rfl <| Ao rfl (.loadB 15 Y23 Z23 rfl (.t rfl)) <| Ao rfl (.lookup 26 U39 kt23 ze4 rfl (.t rfl) (.t rfl)) <| Ao rfl (.notB (.t rfl)) ?_
       refine An <| W.cR hm (.t rfl) (fun hp64 hm => ?_) (fun hp64 hm => ?_)
       ·refine W.sr ?_
        obtain ⟨awake2, hv65, hm⟩ := Bs hm
        refine Ao rfl (.callG (rin := [(700000, GlE 0)]) C9 (law48_awake_spec _ _ hv65) ⟨rfl, trivial⟩ ⟨rfl, rfl, trivial⟩ trivial) <| Ag rfl rfl <| WL.ns ?_
        have hr66 := Si hm
        clear hm
        subst hr66
        have hm := hk53
        try dsimp only at hm
        have hr67 := Si hm
        clear hm
        subst hr67
        have hm := hk38
        try dsimp only at hm
        cases hm
        exact W.ret1 () rfl (.t rfl) trivial
       ·refine W.skip <| Aq <| Aw <| Ao rfl (.fieldAddrB (o := 0) U23 rfl J3 (.t rfl) rfl) <| Ao rfl (.loadBF 15 rfl ty3 fapi_Id_0 rfl (.t rfl)) ?_
        obtain ⟨v4, hv68, hm⟩ := Bs hm
        refine Ao rfl (.addC hv68 (.t rfl) .i64) <| Ao rfl (.fieldAddrB (o := 0) U23 rfl J3 (.t rfl) rfl) <| WL.opU (OpR.storeBF (b := b5) 15 rfl ty3 sapi_Id_0 rfl (by decide) (.t rfl) (.t rfl)) fun _ => WL.nr1 <| Ao rfl (.fieldAddrB (o := 0) U44 rfl J36 (.t rfl) rfl) <| Ao rfl (.ofOT (Op1.loadBF (t := (tOT tapi_Id k1)) (f := fun x : api_Meaning => x.To) (u := t) 13 rfl ⟨ty36.agg, ty36.size⟩ (fapi_Meaning_k2_2 k1) rfl (.t rfl))) <| Ao rfl (.loadB 15 Y23 Z23 rfl (.t rfl)) <| Ao rfl (.buildSlice (n := 1) (ys := [(0, ({ e2 with Act := v4 } : api_Id))]) (z := zapi_Id) (xs := [({ e2 with Act := v4 } : api_Id)]) U36 el23 ze23 ⟨rfl, (.t rfl), trivial⟩ (by simp) (by decide) rfl) ?_
        obtain ⟨out, hv69, hm⟩ := Bs hm
        exact WL.opR rfl (OpR.appC (key := 1000013) hv69 U36 el23 (.t rfl) (.t rfl) rfl) fun k2 => Ao rfl (.fieldAddrB (o := 0) U44 rfl J36 (.t rfl) rfl) <| WL.opU (OpR.storeBFT (b := b4) (s := (tapi_Meaning_k2 k1)) (s' := (tapi_Meaning_k2 k2)) (t := (tOT tapi_Id k2)) 13 rfl rfl ⟨ty36.agg, ty36.size⟩ (sTapi_Meaning_k2 k1 k2) rfl (show 4 + 1 ≤ 5 by decide) (.t rfl) (Opd.toOT (.t rfl))) fun _ => WL.nil <| WN.block <| Aq <| W.region <| Ao rfl (.addI (.t rfl) .i64 (range_inR hi55 hp60 hlen56)) <| Am rfl rfl <| WL.nil <| WN.again es2.length (i2 + 1, pre2 ++ [e2], es2, (({ t with To := out } : api_Meaning), k2)) (range_lt hn57) ⟨rfl, range_step hxs54, range_idx hi55, hm⟩ ⟨.q rfl, .q rfl, .q rfl, .q rfl, .q rfl, .q rfl, .q rfl, .q rfl, .q rfl, .q rfl, .q rfl, .q rfl, .q rfl, trivial⟩ ⟨rfl, rfl, ⟨rfl, rfl, ⟨rfl, rfl, ⟨rfl, rfl, ⟨rfl, rfl, trivial⟩⟩⟩⟩⟩
      ·have hrest62 := range_end hxs54 hi55 (of_decide_eq_false hc59)
       subst hrest62
       rw [M.law48_EquivalenceRenamed_loop3.eq_1] at hm
       refine W.exit rfl ?_
       have hr70 := Si hm
       clear hm
       subst hr70
       have hm := hk53
       try dsimp only at hm
       refine Aq <| W.region <| Am rfl rfl <| Ao rfl (.loadB 13 Y44 Z44 rfl (.t rfl)) <| Ao rfl (.buildSlice (n := 1) (ys := [(0, t)]) (z := zapi_Meaning) (xs := [t]) U28 el44 ze44 ⟨rfl, (Opd.leT (leapi_Meaning_k2 k1) (.t rfl)), trivial⟩ (by simp) (by decide) rfl) ?_
       obtain ⟨y1, hv71, hm⟩ := Bs hm
       exact WL.opR rfl (OpR.appC (key := 10) hv71 U28 el44 (.t rfl) (.t rfl) rfl) fun k3 => Ag rfl rfl <| WL.nil <| WN.block <| Aq <| W.region <| Ao rfl (.addI (.t rfl) .i64 (range_inR hi40 hp45 hlen41)) <| Am rfl rfl <| WL.nil <| WN.again es1.length (i1 + 1, pre1 ++ [e1], es1, (y1, k3)) (range_lt hn42) ⟨rfl, range_step hxs39, range_idx hi40, hm⟩ ⟨.q rfl, .q rfl, .q rfl, .q rfl, .q rfl, .q rfl, .q rfl, .q rfl, .q rfl, trivial⟩ ⟨rfl, rfl, ⟨rfl, rfl, ⟨rfl, rfl, trivial⟩⟩⟩
    ·have hrest47 := range_end hxs39 hi40 (of_decide_eq_false hc44)
     subst hrest47
     rw [M.law48_EquivalenceRenamed_loop2.eq_1] at hm
     refine W.exit rfl ?_
     have hr72 := Si hm
     clear hm
     subst hr72
     have hm := hk38
     try dsimp only at hm
     refine Aq <| Aw <| Ao rfl (.load ty27 (.t rfl)) <| Ao rfl (.load ty27 (.t rfl)) <| Am rfl rfl <| Am rfl rfl <| WL.mv rfl rfl ?_
     obtain ⟨equiva, hv73, hm⟩ := Bs hm
     refine Ao rfl (.callG (rin := [(700000, GlE 0)]) C11 (equivalence_Equivalent_spec _ _ _ _ _ _ _ hv73) ⟨rfl, trivial⟩ ⟨rfl, rfl, trivial⟩ ⟨(.t rfl), (.t rfl), (.t rfl), (.t rfl), (Opd.own (.t rfl)), trivial⟩) <| WL.mv rfl rfl ?_
     rcases iteB hm with ⟨hp75, hb74, hm⟩ | ⟨hp75, hb74, hm⟩
     ·refine Ax rfl hb74 (.load ty27 (.t rfl)) <| Ax rfl hb74 (.load ty27 (.t rfl)) <| Ax rfl hb74 (.move (.t rfl)) ?_
      obtain ⟨moved, hv76, hm⟩ := Bs hm
      refine Ax rfl hb74 (.call C13 (equivalence_Moved_spec _ _ _ _ _ hv76) ⟨(.t rfl), (.t rfl), (.t rfl), trivial⟩) <| Ax rfl hb74 (.lenL U36 (.t rfl)) <| Ax rfl hb74 (.eqI (.t rfl) .i64) <| Ao rfl (.pickT (.t rfl) hb74 (.t rfl)) <| WL.mv rfl rfl ?_
      rcases iteD hm with ⟨hp78, hb77, hm⟩ | ⟨hp78, hb77, hm⟩
      ·obtain ⟨awake3, hv79, hm⟩ := Bs hm
       refine Ax rfl hb77 (.callG (rin := [(700000, GlE 0)]) C9 (law48_awake_spec _ _ hv79) ⟨rfl, trivial⟩ ⟨rfl, rfl, trivial⟩ trivial) <| Ao rfl (.pickT (.t rfl) hb77 (.t rfl)) <| Ag rfl rfl <| WL.ns ?_
       cases hm
       exact W.ret1 () rfl (.t rfl) trivial
      ·refine Ap rfl hb77 <| Ao rfl (.pickF (.t rfl) hb77 .bool) <| Ag rfl rfl <| WL.ns ?_
       cases hm
       exact W.ret1 () rfl (.t rfl) trivial
     ·refine Ap rfl hb74 <| Ap rfl hb74 <| Ap rfl hb74 <| Ap rfl hb74 <| Ap rfl hb74 <| Ap rfl hb74 <| Ao rfl (.pickF (.t rfl) hb74 .bool) <| Am rfl rfl <| Ap rfl rfl <| Ao rfl (.pickF (.t rfl) rfl .bool) <| Ag rfl rfl <| WL.ns ?_
      cases hm
      exact W.ret1 () rfl (.t rfl) trivial
 ·have hm := hs2
  clear hs2
  refine W.region <| Ao rfl (.load ty27 (.t rfl)) <| Ao rfl (.load ty27 (.t rfl)) <| WL.mv rfl rfl ?_
  obtain ⟨heavy, hv4, hm⟩ := Bs hm
  refine Ao rfl (.call C7 (law48_heavy_spec _ _ _ _ _ _ _ hv4) ⟨(.t rfl), (.t rfl), (.nil (t := tapi_Destination)), (.t rfl), (.nil (t := tapi_Meaning)), trivial⟩) <| WL.mv rfl rfl ?_
  rcases iteB hm with ⟨hp6, hb5, hm⟩ | ⟨hp6, hb5, hm⟩
  ·exact Ap rfl hb5 <| Ap rfl hb5 <| Ap rfl hb5 <| Ao rfl (.pickT (.t rfl) hb5 .bool) <| WL.nil <| WN.meet true (Si hm) ⟨.q rfl, .q rfl, .q rfl, trivial⟩ ⟨rfl, rfl, trivial⟩
  ·refine Ax rfl hb5 (.load ty27 (.t rfl)) ?_
   obtain ⟨once, hv7, hm⟩ := Bs hm
   exact Ax rfl hb5 (.call C8 (law48_once_spec _ _ _ hv7) ⟨(.t rfl), trivial⟩) <| Ax rfl hb5 (.notB (.t rfl)) <| Ao rfl (.pickF (.t rfl) hb5 (.t rfl)) <| WL.nil <| WN.meet (!once) (Si hm) ⟨.q rfl, .q rfl, .q rfl, trivial⟩ ⟨rfl, rfl, trivial⟩

end Go.Proofs.Ytclepigknhoonaa
