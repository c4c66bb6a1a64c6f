/-
  The code does what the models say: written by program.
-/
import Derived.Test.YtkobngongonplaaDoorWa
set_option linter.unusedVariables false
set_option linter.unusedSimpArgs false
namespace Go.Proofs.YtkobngongonplaaDoor
open Go Go.Dec
set_option maxRecDepth 100000
set_option maxHeartbeats 4000000
theorem pagestore_Store_Crash_spec (s0_ : pagestore_Store) (keep : Int) (b : Nat) (k : Tok) (r : pagestore_Store) (hm : M.pagestore_Store_Crash s0_ keep = some r) : FSpecR Tryd.prog 13 [(Bp b 0), (I6.is keep)] [(0, (Bx 5 true 46 ((tpagestore_Store_k0 k).is s0_) b)), (1000000, Dec.Own tS 9 k s0_.pages_.length)] (fun kx : Tok => (Asn.eq (.tuple #[]))) (fun kx : Tok => [(0, (Bx 5 true 46 ((tpagestore_Store_k0 kx).is r) b)), (1000000, Dec.Own tS 9 kx r.pages_.length)]) := by
 unfold M.pagestore_Store_Crash at hm
 refine FSpecR.of Tryd.func13 rfl rfl rfl fun g0 => W.seq ?_
 obtain ⟨v, hv1, hm⟩ := Bs hm
 refine W.draw [.c _, .c _, .c _, .c _, .c _, .c _, .c _, .c _, .c _, .c _, .c _, .c _, .c _, .c _] [([], [1]), ([0], []), ([], [0]), ([2], []), ([3], []), ([4], []), ([5], []), ([], [0]), ([7], []), ([8], []), ([9], []), ([6, 10], []), ([1, 11], []), ([12], [])] Mx rfl rfl rfl rfl ⟨Dn (.move (.t rfl)), Dn (.maxI (.t rfl) .i64), Dn (.move (.t rfl)), Dn (.nilCheckB (.t rfl)), Dn (.fieldAddrB (o := 0) Tryd.underlying46 rfl J34 (.t rfl) rfl), Dn (.ofOT (Op1.loadBF (t := (tOT tS k)) (f := fun x : pagestore_Store => x.pages_) (u := s0_) 0 rfl ⟨ty34.agg, ty34.size⟩ (fpagestore_Store_k0_0 k) rfl (.t rfl))), Dn (.lenL U34 (Opd.own (.t rfl))), Dn (.move (.t rfl)), Dn (.nilCheckB (.t rfl)), Dn (.fieldAddrB (o := 0) Tryd.underlying46 rfl J3 (.t rfl) rfl), Dn (.loadBF 0 rfl ty3 (fpagestore_Store_k0_1 k) rfl (.t rfl)), Dn (.subC hv1 (.t rfl) (.t rfl)), Dn (.minI (.t rfl) (.t rfl)), Dn (.assign (.t rfl)), trivial⟩ <| Aq <| W.seq ?_
 obtain ⟨v1, hv2, hm⟩ := Bs hm
 obtain ⟨v2, hv3, hm⟩ := Bs hm
 obtain ⟨string, hv4, hm⟩ := Bs hm
 refine W.weakR (res' := [(1000000, Dec.Own tS 9 k s0_.pages_.length), (0, (Bx 5 true 46 ((tpagestore_Store_k0 k).is s0_) b))]) ⟨rfl, rfl, ⟨rfl, rfl, trivial⟩⟩ <| W.drawM [.c (Bp b 0), .c (Bp b 0), .c (Bp b 0), .c (Bp b 0), .c (tO tS k s0_.pages_), .c (Bp b 0), .c (Bp b 0), .c (Bp b 1), .c (I6.is s0_.lasting_), .c (I6.is (min (max keep (0 : Int)) v)), .c (I6.is v1), .c ((tL tS).is v2), .f (fun cv => (tO tS (cv 0) string)), .c (Bp b 0), .c (Bp b 0), .c Asn.any] [([], [0]), ([], [0]), ([1], []), ([2], []), ([3], []), ([], [0]), ([5], []), ([6], []), ([7], []), ([], [4]), ([8, 9], []), ([4, 10], []), ([11], []), ([0], []), ([13], []), ([12, 14], [])] [12, 15] [[], [], [], [], [], [], [], [], [], [], [], [], [true], [], [], []] (fun m cv => match m with | 0 => [(1000000, Dec.Own tS 9 k s0_.pages_.length), (0, (Bx 5 true 46 ((tpagestore_Store_k0 k).is s0_) b))] | 1 => [(30, Dec.Own tS 9 (cv 0) string.length), (1000000, Dec.Own tS 9 k s0_.pages_.length), (0, (Bx 5 true 46 ((tpagestore_Store_k0 k).is s0_) b))] | _ => [(0, (Bx 5 true 46 ((tpagestore_Store_k0 (cv 0)).is ({ s0_ with pages_ := string } : pagestore_Store)) b)), (30, Dec.Own tS 9 (cv 0) string.length), (1000000, Dec.Own tS 9 k s0_.pages_.length)]) (fun _ => none) Mx rfl rfl rfl rfl rfl ⟨fun _ _ _ _ => rfl, ⟨fun _ _ _ _ => rfl, ⟨fun _ _ _ _ => rfl, ⟨fun _ _ _ _ => rfl, ⟨fun _ _ _ _ => rfl, ⟨fun _ _ _ _ => rfl, ⟨fun _ _ _ _ => rfl, ⟨fun _ _ _ _ => rfl, ⟨fun _ _ _ _ => rfl, ⟨fun _ _ _ _ => rfl, ⟨fun _ _ _ _ => rfl, ⟨fun _ _ _ _ => rfl, ⟨fun m hm c t => by simp only [DA.at, upd_dep (r := [true]) (j := 0) rfl hm], ⟨fun _ _ _ _ => rfl, ⟨fun _ _ _ _ => rfl, ⟨fun _ _ _ _ => rfl, trivial⟩⟩⟩⟩⟩⟩⟩⟩⟩⟩⟩⟩⟩⟩⟩⟩ rfl ⟨mo fun cv => Op1.move (.t rfl), ⟨mo fun cv => Op1.move (.t rfl), ⟨mo fun cv => Op1.nilCheckB (.t rfl), ⟨mo fun cv => Op1.fieldAddrB (o := 0) Tryd.underlying46 rfl J34 (.t rfl) rfl, ⟨.inr ⟨fun cv => [(0, (Bx 5 true 46 ((tpagestore_Store_k0 k).is s0_) b))], (AllUpTo.at ⟨⟨(fun _ _ => ⟨rfl, rfl, trivial⟩), (fun _ _ => ⟨rfl, rfl, trivial⟩)⟩, (fun hw => absurd hw (by decide))⟩), fun cv => Op1.ofOT (Op1.loadBF (t := (tOT tS k)) (f := fun x : pagestore_Store => x.pages_) (u := s0_) 0 rfl ⟨ty34.agg, ty34.size⟩ (fpagestore_Store_k0_0 k) rfl (.t rfl))⟩, ⟨mo fun cv => Op1.move (.t rfl), ⟨mo fun cv => Op1.nilCheckB (.t rfl), ⟨mo fun cv => Op1.fieldAddrB (o := 0) Tryd.underlying46 rfl J3 (.t rfl) rfl, ⟨.inr ⟨fun cv => [(0, (Bx 5 true 46 ((tpagestore_Store_k0 k).is s0_) b))], (AllUpTo.at ⟨⟨(fun _ _ => ⟨rfl, rfl, trivial⟩), (fun _ _ => ⟨rfl, rfl, trivial⟩)⟩, (fun hw => absurd hw (by decide))⟩), fun cv => Op1.loadBF 0 rfl ty3 (fpagestore_Store_k0_1 k) rfl (.t rfl)⟩, ⟨mo fun cv => Op1.move (.t rfl), ⟨mo fun cv => Op1.addC hv2 (.t rfl) (.t rfl), ⟨mo fun cv => Op1.slcHi hv3 U34 Z9 (Opd.own (.t rfl)) (.t rfl), ⟨.inl rfl, ⟨mo fun cv => Op1.nilCheckB (.t rfl), ⟨mo fun cv => Op1.fieldAddrB (o := 0) Tryd.underlying46 rfl J34 (.t rfl) rfl, ⟨.inl rfl, trivial⟩⟩⟩⟩⟩⟩⟩⟩⟩⟩⟩⟩⟩⟩⟩⟩ ⟨⟨_, _, _, [], (fun cv => [(30, Dec.Own tS 9 (cv 0) string.length)]), rfl, rfl, rfl, rfl, fun _ => rfl, fun _ _ => rfl, fun cv => OpR.call (us := []) C28 ((slices_Clone_string_string_spec _ _ hv4).rekey 30) rfl ⟨(.t rfl), trivial⟩⟩, ⟨⟨_, _, _, [0], (fun cv => [(0, (Bx 5 true 46 ((tpagestore_Store_k0 (cv 0)).is ({ s0_ with pages_ := string } : pagestore_Store)) b))]), rfl, rfl, rfl, rfl, fun _ => rfl, fun _ _ => rfl, fun cv => OpR.viaU (OpR.storeBFT (b := b) (s := (tpagestore_Store_k0 k)) (s' := (tpagestore_Store_k0 (cv 0))) (t := (tOT tS (cv 0))) 0 rfl rfl ⟨ty34.agg, ty34.size⟩ (sTpagestore_Store_k0 k (cv 0)) rfl (show 0 + 1 ≤ 5 by decide) (.t rfl) (Opd.toOT (.t rfl)))⟩, trivial⟩⟩ fun cv => WN.weakR (res' := [(30, Dec.Own tS 9 (cv 0) string.length), (0, (Bx 5 true 46 ((tpagestore_Store_k0 (cv 0)).is ({ s0_ with pages_ := string } : pagestore_Store)) b))]) ⟨rfl, rfl, ⟨rfl, rfl, trivial⟩⟩ <| WN.rekey (res' := [(1000000, Dec.Own tS 9 (cv 0) string.length), (0, (Bx 5 true 46 ((tpagestore_Store_k0 (cv 0)).is ({ s0_ with pages_ := string } : pagestore_Store)) b))]) rfl <| Aq <| Aw <| Am rfl rfl <| Am rfl rfl <| Ao rfl (.nilCheckB (.t rfl)) <| Ao rfl (.fieldAddrB (o := 0) Tryd.underlying46 rfl J34 (.t rfl) rfl) <| Ao rfl (.ofOT (Op1.loadBF (t := (tOT tS (cv 0))) (f := fun x : pagestore_Store => x.pages_) (u := ({ s0_ with pages_ := string } : pagestore_Store)) 0 rfl ⟨ty34.agg, ty34.size⟩ (fpagestore_Store_k0_0 (cv 0)) rfl (.t rfl))) <| Ao rfl (.lenL U34 (Opd.own (.t rfl))) <| Ao rfl (.nilCheckB (.t rfl)) <| Ao rfl (.fieldAddrB (o := 0) Tryd.underlying46 rfl J3 (.t rfl) rfl) <| WL.opU (OpR.storeBF (b := b) 0 rfl ty3 (spagestore_Store_k0_1 (cv 0)) rfl (show 1 + 1 ≤ 5 by decide) (.t rfl) (.t rfl)) fun _ => WL.nr1 ?_
 refine Am rfl rfl <| Am rfl rfl <| Ao rfl (.nilCheckB (.t rfl)) <| Ao rfl (.fieldAddrB (o := 0) Tryd.underlying46 rfl J3 (.t rfl) rfl) <| WL.opU (OpR.storeBF (b := b) 0 rfl ty3 (spagestore_Store_k0_3 (cv 0)) rfl (show 3 + 1 ≤ 5 by decide) (.t rfl) .i64) fun _ => Ao rfl (.nilCheckB (.t rfl)) <| Ao rfl (.fieldAddrB (o := 0) Tryd.underlying46 rfl J4 (.t rfl) rfl) <| WL.opU (OpR.storeBF (b := b) 0 rfl ty4 (spagestore_Store_k0_4 (cv 0)) rfl (show 4 + 1 ≤ 5 by decide) (.t rfl) .bool) fun _ => WL.nil ?_
 have hr := Si hm
 clear hm
 subst hr
 exact WN.fin (cv 0) rfl (fun _ => rfl) ⟨rfl, rfl, ⟨rfl, rfl, trivial⟩⟩
theorem journal_Journal_At_spec (j : journal_Journal) (st : pagestore_Store) (i : Int) (b : Nat) (k : Tok) (b1 : Nat) (k1 : Tok) (r : Str × Int) (hm : M.journal_Journal_At j st i = some r) : FSpecR Tryd.prog 14 [(Bp b 0), (I6.is i)] [(0, (Bx 5 true 52 ((tMap (tP (tOb b1) (tP (tOT tS k) (tP I6 (tOne tjournal_mark)))) (fun x : journal_Journal => (x.Store, x.texts_, x.lasting_, x.last_))).is j) b)), (1000000, Dec.Own tS 9 k j.texts_.length), (400000, (Bx 5 true 46 ((tpagestore_Store_k0 k1).is st) b1)), (1400000, Dec.Own tS 9 k1 st.pages_.length)] (fun kx : Unit => (Asn.tuple2 (tS.is r.1) (I6.is r.2))) (fun kx : Unit => [(0, (Bx 5 true 52 ((tMap (tP (tOb b1) (tP (tOT tS k) (tP I6 (tOne tjournal_mark)))) (fun x : journal_Journal => (x.Store, x.texts_, x.lasting_, x.last_))).is j) b)), (1000000, Dec.Own tS 9 k j.texts_.length), (400000, (Bx 5 true 46 ((tpagestore_Store_k0 k1).is st) b1)), (1400000, Dec.Own tS 9 k1 st.pages_.length)]) := by
 unfold M.journal_Journal_At at hm
 refine FSpecR.of Tryd.func14 rfl rfl rfl fun g0 => Aw <| Ao rfl (.assign (.str rfl (by decide))) <| Ao rfl (.assign .i64) <| An <| W.seq ?_
 obtain ⟨s1, hs2, hk3⟩ := Bs hm
 clear hm
 refine W.join (fun s : Bool => s = s1) (fun s => [(16, (tB.is s)), (0, (Bp b 0)), (1, (I6.is i))]) (fun s => [(1000000, Dec.Own tS 9 k j.texts_.length), (1400000, Dec.Own tS 9 k1 st.pages_.length), (0, (Bx 5 true 52 ((tMap (tP (tOb b1) (tP (tOT tS k) (tP I6 (tOne tjournal_mark)))) (fun x : journal_Journal => (x.Store, x.texts_, x.lasting_, x.last_))).is j) b)), (400000, (Bx 5 true 46 ((tpagestore_Store_k0 k1).is st) b1))]) ?_ ?_
 ·rintro v hj9
  try dsimp only at hj9
  subst hj9
  have hm := hk3
  clear hk3
  try dsimp only at hm
  change W _ _ _ _ _ _ _ [(16, (tB.is v)), (0, (Bp b 0)), (1, (I6.is i))] [(1000000, Dec.Own tS 9 k j.texts_.length), (1400000, Dec.Own tS 9 k1 st.pages_.length), (0, (Bx 5 true 52 ((tMap (tP (tOb b1) (tP (tOT tS k) (tP I6 (tOne tjournal_mark)))) (fun x : journal_Journal => (x.Store, x.texts_, x.lasting_, x.last_))).is j) b)), (400000, (Bx 5 true 46 ((tpagestore_Store_k0 k1).is st) b1))]
  refine W.cB hm (.t rfl) (fun hp7 hm => ?_) (fun hp7 hm => ?_)
  ·refine Aw <| Ao rfl (.assign (.str rfl (by decide))) <| Ao rfl (.assign .i64) <| WL.ns ?_
   have hr := Si hm
   clear hm
   subst hr
   exact W.ret2 () rfl rfl (.t rfl) (.t rfl) ⟨rfl, rfl, ⟨rfl, rfl, ⟨rfl, rfl, ⟨rfl, rfl, trivial⟩⟩⟩⟩
  ·refine W.skip <| Aq <| Aw <| Am rfl rfl <| Ao rfl (.nilCheckB (.t rfl)) <| Ao rfl (.fieldAddrB (o := 0) Tryd.underlying52 rfl J34 (.t rfl) rfl) <| Ao rfl (.ofOT (Op1.loadBF (s := (tMap (tP (tOb b1) (tP (tOT tS k) (tP I6 (tOne tjournal_mark)))) (fun x : journal_Journal => (x.Store, x.texts_, x.lasting_, x.last_)))) (t := (tOT tS k)) (f := fun x : journal_Journal => x.texts_) (u := j) 0 rfl ⟨ty34.agg, ty34.size⟩ ((Fld.map (m := (fun x : journal_Journal => (x.Store, x.texts_, x.lasting_, x.last_))) (Fld.next (s := (tOb b1)) (Fld.here (tOT tS k) (tP I6 (tOne tjournal_mark))))).cast rfl rfl) rfl (.t rfl))) <| WL.mv rfl rfl ?_
   obtain ⟨v1, hv8, hm⟩ := Bs hm
   refine Ao rfl (.idx hv8 U34 Z9 (Opd.own (.t rfl)) (.t rfl)) <| Ao rfl (.load ty9 (.t rfl)) <| Ag rfl rfl <| Ao rfl (.assign .i64) <| WL.ns ?_
   have hr := Si hm
   clear hm
   subst hr
   exact W.ret2 () rfl rfl (.t rfl) (.t rfl) ⟨rfl, rfl, ⟨rfl, rfl, ⟨rfl, rfl, ⟨rfl, rfl, trivial⟩⟩⟩⟩
 ·have hm := hs2
  clear hs2
  refine W.region <| Am rfl rfl <| Ao rfl (.ltI (.t rfl) .i64) <| WL.mv rfl rfl ?_
  rcases iteD hm with ⟨hp5, hb4, hm⟩ | ⟨hp5, hb4, hm⟩
  ·exact Ap rfl hb4 <| Ap rfl hb4 <| Ap rfl hb4 <| Ap rfl hb4 <| Ap rfl hb4 <| Ap rfl hb4 <| Ap rfl hb4 <| Ao rfl (.pickT (.t rfl) hb4 .bool) <| WL.nil <| WN.meet true (Si hm) ⟨.q rfl, .q rfl, .q rfl, trivial⟩ ⟨rfl, rfl, ⟨rfl, rfl, ⟨rfl, rfl, ⟨rfl, rfl, trivial⟩⟩⟩⟩
  ·exact Ax rfl hb4 (.move (.t rfl)) <| Ax rfl hb4 (.move (.t rfl)) <| Ax rfl hb4 (.nilCheckB (.t rfl)) <| Ax rfl hb4 (.fieldAddrB (o := 0) Tryd.underlying52 rfl J34 (.t rfl) rfl) <| Ax rfl hb4 (.ofOT (Op1.loadBF (s := (tMap (tP (tOb b1) (tP (tOT tS k) (tP I6 (tOne tjournal_mark)))) (fun x : journal_Journal => (x.Store, x.texts_, x.lasting_, x.last_)))) (t := (tOT tS k)) (f := fun x : journal_Journal => x.texts_) (u := j) 0 rfl ⟨ty34.agg, ty34.size⟩ ((Fld.map (m := (fun x : journal_Journal => (x.Store, x.texts_, x.lasting_, x.last_))) (Fld.next (s := (tOb b1)) (Fld.here (tOT tS k) (tP I6 (tOne tjournal_mark))))).cast rfl rfl) rfl (.t rfl))) <| Ax rfl hb4 (.lenL U34 (Opd.own (.t rfl))) <| Ax rfl hb4 (.geI (.t rfl) (.t rfl)) <| Ao rfl (.pickF (.t rfl) hb4 (.t rfl)) <| WL.nil <| WN.meet (decide ((j.texts_.length : Int) ≤ i)) (Si hm) ⟨.q rfl, .q rfl, .q rfl, trivial⟩ ⟨rfl, rfl, ⟨rfl, rfl, ⟨rfl, rfl, ⟨rfl, rfl, trivial⟩⟩⟩⟩
theorem journal_Journal_Len_spec (j : journal_Journal) (st : pagestore_Store) (b : Nat) (k : Tok) (b1 : Nat) (k1 : Tok) (r : Int) (hm : M.journal_Journal_Len j st = some r) : FSpecR Tryd.prog 15 [(Bp b 0)] [(0, (Bx 5 true 52 ((tMap (tP (tOb b1) (tP (tOT tS k) (tP I6 (tOne tjournal_mark)))) (fun x : journal_Journal => (x.Store, x.texts_, x.lasting_, x.last_))).is j) b)), (1000000, Dec.Own tS 9 k j.texts_.length), (400000, (Bx 5 true 46 ((tpagestore_Store_k0 k1).is st) b1)), (1400000, Dec.Own tS 9 k1 st.pages_.length)] (fun kx : Unit => (I6.is r)) (fun kx : Unit => [(0, (Bx 5 true 52 ((tMap (tP (tOb b1) (tP (tOT tS k) (tP I6 (tOne tjournal_mark)))) (fun x : journal_Journal => (x.Store, x.texts_, x.lasting_, x.last_))).is j) b)), (1000000, Dec.Own tS 9 k j.texts_.length), (400000, (Bx 5 true 46 ((tpagestore_Store_k0 k1).is st) b1)), (1400000, Dec.Own tS 9 k1 st.pages_.length)]) := by
 unfold M.journal_Journal_Len at hm
 refine FSpecR.of Tryd.func15 rfl rfl rfl fun g0 => Aw <| Ao rfl (.assign .i64) <| Ar <| Am rfl rfl <| Ao rfl (.nilCheckB (.t rfl)) <| Ao rfl (.fieldAddrB (o := 0) Tryd.underlying52 rfl J34 (.t rfl) rfl) <| Ao rfl (.ofOT (Op1.loadBF (s := (tMap (tP (tOb b1) (tP (tOT tS k) (tP I6 (tOne tjournal_mark)))) (fun x : journal_Journal => (x.Store, x.texts_, x.lasting_, x.last_)))) (t := (tOT tS k)) (f := fun x : journal_Journal => x.texts_) (u := j) 0 rfl ⟨ty34.agg, ty34.size⟩ ((Fld.map (m := (fun x : journal_Journal => (x.Store, x.texts_, x.lasting_, x.last_))) (Fld.next (s := (tOb b1)) (Fld.here (tOT tS k) (tP I6 (tOne tjournal_mark))))).cast rfl rfl) rfl (.t rfl))) <| Ao rfl (.lenL U34 (Opd.own (.t rfl))) <| Ag rfl rfl <| WL.ns ?_
 have hr := Si hm
 clear hm
 subst hr
 exact W.ret1 () rfl (.t rfl) ⟨rfl, rfl, ⟨rfl, rfl, ⟨rfl, rfl, ⟨rfl, rfl, trivial⟩⟩⟩⟩
theorem pagestore_Store_Len_spec (s0_ : pagestore_Store) (b : Nat) (k : Tok) (r : Int) (hm : M.pagestore_Store_Len s0_ = some r) : FSpecR Tryd.prog 19 [(Bp b 0)] [(0, (Bx 5 true 46 ((tpagestore_Store_k0 k).is s0_) b)), (1000000, Dec.Own tS 9 k s0_.pages_.length)] (fun kx : Unit => (I6.is r)) (fun kx : Unit => [(0, (Bx 5 true 46 ((tpagestore_Store_k0 k).is s0_) b)), (1000000, Dec.Own tS 9 k s0_.pages_.length)]) := by
 unfold M.pagestore_Store_Len at hm
 refine FSpecR.of Tryd.func19 rfl rfl rfl fun g0 => Aw <| Ao rfl (.assign .i64) <| Ar <| Am rfl rfl <| Ao rfl (.nilCheckB (.t rfl)) <| Ao rfl (.fieldAddrB (o := 0) Tryd.underlying46 rfl J34 (.t rfl) rfl) <| Ao rfl (.ofOT (Op1.loadBF (t := (tOT tS k)) (f := fun x : pagestore_Store => x.pages_) (u := s0_) 0 rfl ⟨ty34.agg, ty34.size⟩ (fpagestore_Store_k0_0 k) rfl (.t rfl))) <| Ao rfl (.lenL U34 (Opd.own (.t rfl))) <| Ag rfl rfl <| WL.ns ?_
 have hr := Si hm
 clear hm
 subst hr
 exact W.ret1 () rfl (.t rfl) ⟨rfl, rfl, ⟨rfl, rfl, trivial⟩⟩
theorem law14_awake_spec (n : Nat)  (r : Bool) (hm : M.law14_awake n  = some r) : FSpecR Tryd.prog 6 [] [(700000, GlE 0), (700001, GlI 1), (700002, GlI 2), (700003, GlT Tryd.prog "internal/strconv.uint64pow10" .u64 Lib.pow10Tab), (700007, Gl (tA 64 (tI .u8)) 7 gv7)] (fun _ : Unit => (tB.is r)) (fun _ => []) := by
 unfold M.law14_awake at hm
 refine FSpecR.of Tryd.func6 rfl rfl rfl fun g0 => Aw <| Ao rfl (.assign .bool) <| WL.nr ?_
 obtain ⟨new, hv1, hm⟩ := Bs hm
 refine WL.weakR (res' := [(700000, GlE 0), (700001, GlI 1), (700002, GlI 2), (700003, GlT Tryd.prog "internal/strconv.uint64pow10" .u64 Lib.pow10Tab), (700007, Gl (tA 64 (tI .u8)) 7 gv7)]) ⟨rfl, rfl, ⟨rfl, rfl, ⟨rfl, rfl, ⟨rfl, rfl, ⟨rfl, rfl, trivial⟩⟩⟩⟩⟩ <| WL.opR rfl (OpR.call (us := []) (A := fun kx : Nat × Tok => (ObP kx new)) C7 (FSpecR.keys (rin' := []) (out' := fun kx : Nat × Tok => [(11, ObR tpagestore_Store_k0 46 tS 9 (fun x : pagestore_Store => x.pages_) kx new)]) (pagestore_New_spec _ hv1) rfl (fun _ => rfl)) rfl trivial) fun k => Ag rfl rfl <| An <| W.seq ?_
 obtain ⟨s0_, hv2, hm⟩ := Bs hm
 refine W.obOpen (t := tpagestore_Store_k0) (T := 46) (te := tS) (E := 9) (f := (fun x : pagestore_Store => x.pages_)) (c := k) (u := s0_) (o := new) (key := 11) 1 11 1000011 hv2 rfl rfl <| W.chg (fun _ _ h => h.slotA (s := 11) rfl (fun _ _ => ObP.some hv2)) <| W.region <| WL.mv rfl rfl ?_
 obtain ⟨open0_, hv3, hm⟩ := Bs hm
 refine WL.weakR (res' := [(11, (Bx 5 true 46 ((tpagestore_Store_k0 (k).2).is s0_) (k).1)), (1000011, Dec.Own tS 9 (k).2 s0_.pages_.length), (700000, GlE 0), (700001, GlI 1), (700002, GlI 2), (700003, GlT Tryd.prog "internal/strconv.uint64pow10" .u64 Lib.pow10Tab), (700007, Gl (tA 64 (tI .u8)) 7 gv7)]) ⟨rfl, rfl, ⟨rfl, rfl, ⟨rfl, rfl, ⟨rfl, rfl, ⟨rfl, rfl, ⟨rfl, rfl, ⟨rfl, rfl, trivial⟩⟩⟩⟩⟩⟩⟩ <| WL.opR rfl (OpR.call (us := [11, 1000011, 700000, 700001, 700002, 700003, 700007]) (A := fun kx : Nat × Tok => (Asn.tuple2 (ObP kx open0_.1) (I6.is open0_.2))) C8 (FSpecR.keys (rin' := [(11, (Bx 5 true 46 ((tpagestore_Store_k0 (k).2).is s0_) (k).1)), (1000011, Dec.Own tS 9 (k).2 s0_.pages_.length), (700000, GlE 0), (700001, GlI 1), (700002, GlI 2), (700003, GlT Tryd.prog "internal/strconv.uint64pow10" .u64 Lib.pow10Tab), (700007, Gl (tA 64 (tI .u8)) 7 gv7)]) (out' := fun kx : Nat × Tok => [(11, (Bx 5 true 46 ((tpagestore_Store_k0 (k).2).is s0_) (k).1)), (1000011, Dec.Own tS 9 (k).2 s0_.pages_.length), (700000, GlE 0), (700001, GlI 1), (700002, GlI 2), (700003, GlT Tryd.prog "internal/strconv.uint64pow10" .u64 Lib.pow10Tab), (700007, Gl (tA 64 (tI .u8)) 7 gv7), (14, ObR (fun kq => (tMap (tP (tOb (k).1) (tP (tOT tS kq) (tP I6 (tOne tjournal_mark)))) (fun x : journal_Journal => (x.Store, x.texts_, x.lasting_, x.last_)))) 52 tS 9 (fun x : journal_Journal => x.texts_) kx open0_.1)]) (journal_Open_spec _ _ _ _ _ hv3) rfl (fun _ => rfl)) rfl ⟨(.t rfl), trivial⟩) fun k1 => Am rfl rfl <| Ao rfl (.extract0 (.t rfl)) <| Ao rfl (.extract1 (.t rfl)) <| Ag rfl rfl <| Ag rfl rfl <| An <| W.seq ?_
 obtain ⟨s4, hs5, hk6⟩ := Bs hm
 clear hm
 refine W.join (fun s : Bool => s = s4) (fun s => [(26, (tB.is s)), (1, (Bp (k).1 0)), (2, (ObP k1 open0_.1))]) (fun s => [(14, ObR (fun kq => (tMap (tP (tOb (k).1) (tP (tOT tS kq) (tP I6 (tOne tjournal_mark)))) (fun x : journal_Journal => (x.Store, x.texts_, x.lasting_, x.last_)))) 52 tS 9 (fun x : journal_Journal => x.texts_) k1 open0_.1), (1000011, Dec.Own tS 9 (k).2 s0_.pages_.length), (11, (Bx 5 true 46 ((tpagestore_Store_k0 (k).2).is s0_) (k).1)), (700000, GlE 0), (700001, GlI 1), (700002, GlI 2), (700003, GlT Tryd.prog "internal/strconv.uint64pow10" .u64 Lib.pow10Tab), (700007, Gl (tA 64 (tI .u8)) 7 gv7)]) ?_ ?_
 ·rintro v hj39
  try dsimp only at hj39
  subst hj39
  have hm := hk6
  clear hk6
  try dsimp only at hm
  change W _ _ _ _ _ _ _ [(26, (tB.is v)), (1, (Bp (k).1 0)), (2, (ObP k1 open0_.1))] [(14, ObR (fun kq => (tMap (tP (tOb (k).1) (tP (tOT tS kq) (tP I6 (tOne tjournal_mark)))) (fun x : journal_Journal => (x.Store, x.texts_, x.lasting_, x.last_)))) 52 tS 9 (fun x : journal_Journal => x.texts_) k1 open0_.1), (1000011, Dec.Own tS 9 (k).2 s0_.pages_.length), (11, (Bx 5 true 46 ((tpagestore_Store_k0 (k).2).is s0_) (k).1)), (700000, GlE 0), (700001, GlI 1), (700002, GlI 2), (700003, GlT Tryd.prog "internal/strconv.uint64pow10" .u64 Lib.pow10Tab), (700007, Gl (tA 64 (tI .u8)) 7 gv7)]
  refine W.cB hm (.t rfl) (fun hp12 hm => ?_) (fun hp12 hm => ?_)
  ·refine Aw <| Ao rfl (.assign .bool) <| WL.ns ?_
   have hr := Si hm
   clear hm
   subst hr
   exact W.ret1 () rfl (.t rfl) trivial
  ·refine W.skip <| Aq <| W.seq ?_
   obtain ⟨j, hv13, hm⟩ := Bs hm
   refine W.obOpen (t := (fun kq => (tMap (tP (tOb (k).1) (tP (tOT tS kq) (tP I6 (tOne tjournal_mark)))) (fun x : journal_Journal => (x.Store, x.texts_, x.lasting_, x.last_))))) (T := 52) (te := tS) (E := 9) (f := (fun x : journal_Journal => x.texts_)) (c := k1) (u := j) (o := open0_.1) (key := 14) 2 14 1000014 hv13 rfl rfl <| W.region <| WL.mv rfl rfl ?_
   obtain ⟨⟨append, w, w1⟩, hv14, hm⟩ := Bs hm
   dsimp only at hm
   refine WL.weakR (res' := [(14, (Bx 5 true 52 ((tMap (tP (tOb (k).1) (tP (tOT tS (k1).2) (tP I6 (tOne tjournal_mark)))) (fun x : journal_Journal => (x.Store, x.texts_, x.lasting_, x.last_))).is j) (k1).1)), (1000014, Dec.Own tS 9 (k1).2 j.texts_.length), (11, (Bx 5 true 46 ((tpagestore_Store_k0 (k).2).is s0_) (k).1)), (1000011, Dec.Own tS 9 (k).2 s0_.pages_.length), (700003, GlT Tryd.prog "internal/strconv.uint64pow10" .u64 Lib.pow10Tab), (700007, Gl (tA 64 (tI .u8)) 7 gv7), (700000, GlE 0), (700001, GlI 1), (700002, GlI 2)]) ⟨rfl, rfl, ⟨rfl, rfl, ⟨rfl, rfl, ⟨rfl, rfl, ⟨rfl, rfl, ⟨rfl, rfl, ⟨rfl, rfl, ⟨rfl, rfl, ⟨rfl, rfl, trivial⟩⟩⟩⟩⟩⟩⟩⟩⟩ <| WL.opR rfl (OpR.call (us := [14, 1000014, 11, 1000011, 700003, 700007]) (A := fun kx : (Tok) × (Tok) => (Asn.tuple2 (I6.is append.1) (I6.is append.2))) C9 (FSpecR.keys (rin' := [(14, (Bx 5 true 52 ((tMap (tP (tOb (k).1) (tP (tOT tS (k1).2) (tP I6 (tOne tjournal_mark)))) (fun x : journal_Journal => (x.Store, x.texts_, x.lasting_, x.last_))).is j) (k1).1)), (1000014, Dec.Own tS 9 (k1).2 j.texts_.length), (11, (Bx 5 true 46 ((tpagestore_Store_k0 (k).2).is s0_) (k).1)), (1000011, Dec.Own tS 9 (k).2 s0_.pages_.length), (700003, GlT Tryd.prog "internal/strconv.uint64pow10" .u64 Lib.pow10Tab), (700007, Gl (tA 64 (tI .u8)) 7 gv7)]) (out' := fun kx : (Tok) × (Tok) => [(14, (Bx 5 true 52 ((tMap (tP (tOb (k).1) (tP (tOT tS (kx.1)) (tP I6 (tOne tjournal_mark)))) (fun x : journal_Journal => (x.Store, x.texts_, x.lasting_, x.last_))).is w) (k1).1)), (1000014, Dec.Own tS 9 (kx.1) w.texts_.length), (11, (Bx 5 true 46 ((tpagestore_Store_k0 (kx.2)).is w1) (k).1)), (1000011, Dec.Own tS 9 (kx.2) w1.pages_.length), (700003, GlT Tryd.prog "internal/strconv.uint64pow10" .u64 Lib.pow10Tab), (700007, Gl (tA 64 (tI .u8)) 7 gv7)]) (journal_Journal_Append_spec _ _ _ _ _ _ _ _ _ hv14) rfl (fun _ => rfl)) rfl ⟨(.t rfl), (.str rfl (by decide)), trivial⟩) fun kk => Am rfl rfl <| Ao rfl (.extract0 (.t rfl)) <| Ao rfl (.extract1 (.t rfl)) <| Ag rfl rfl <| Ag rfl rfl <| Ar <| WL.mv rfl rfl ?_
   obtain ⟨⟨commit, w2, w3⟩, hv15, hm⟩ := Bs hm
   dsimp only at hm
   refine WL.weakR (res' := [(14, (Bx 5 true 52 ((tMap (tP (tOb (k).1) (tP (tOT tS (kk.1)) (tP I6 (tOne tjournal_mark)))) (fun x : journal_Journal => (x.Store, x.texts_, x.lasting_, x.last_))).is w) (k1).1)), (1000014, Dec.Own tS 9 (kk.1) w.texts_.length), (11, (Bx 5 true 46 ((tpagestore_Store_k0 (kk.2)).is w1) (k).1)), (1000011, Dec.Own tS 9 (kk.2) w1.pages_.length), (700000, GlE 0), (700001, GlI 1), (700002, GlI 2), (700003, GlT Tryd.prog "internal/strconv.uint64pow10" .u64 Lib.pow10Tab), (700007, Gl (tA 64 (tI .u8)) 7 gv7)]) ⟨rfl, rfl, ⟨rfl, rfl, ⟨rfl, rfl, ⟨rfl, rfl, ⟨rfl, rfl, ⟨rfl, rfl, ⟨rfl, rfl, ⟨rfl, rfl, ⟨rfl, rfl, trivial⟩⟩⟩⟩⟩⟩⟩⟩⟩ <| WL.opR rfl (OpR.call (us := [14, 1000014, 11, 1000011]) (A := fun kx : (Tok) × (Tok) => (I6.is commit)) C10 (FSpecR.keys (rin' := [(14, (Bx 5 true 52 ((tMap (tP (tOb (k).1) (tP (tOT tS (kk.1)) (tP I6 (tOne tjournal_mark)))) (fun x : journal_Journal => (x.Store, x.texts_, x.lasting_, x.last_))).is w) (k1).1)), (1000014, Dec.Own tS 9 (kk.1) w.texts_.length), (11, (Bx 5 true 46 ((tpagestore_Store_k0 (kk.2)).is w1) (k).1)), (1000011, Dec.Own tS 9 (kk.2) w1.pages_.length)]) (out' := fun kx : (Tok) × (Tok) => [(14, (Bx 5 true 52 ((tMap (tP (tOb (k).1) (tP (tOT tS (kx.1)) (tP I6 (tOne tjournal_mark)))) (fun x : journal_Journal => (x.Store, x.texts_, x.lasting_, x.last_))).is w2) (k1).1)), (1000014, Dec.Own tS 9 (kx.1) w2.texts_.length), (11, (Bx 5 true 46 ((tpagestore_Store_k0 (kx.2)).is w3) (k).1)), (1000011, Dec.Own tS 9 (kx.2) w3.pages_.length)]) (journal_Journal_Commit_spec _ _ _ _ _ _ _ hv15) rfl (fun _ => rfl)) rfl ⟨(.t rfl), trivial⟩) fun kk1 => Ag rfl rfl <| Ar <| WL.mv rfl rfl ?_
   obtain ⟨⟨append1, w4, w5⟩, hv16, hm⟩ := Bs hm
   dsimp only at hm
   refine WL.weakR (res' := [(14, (Bx 5 true 52 ((tMap (tP (tOb (k).1) (tP (tOT tS (kk1.1)) (tP I6 (tOne tjournal_mark)))) (fun x : journal_Journal => (x.Store, x.texts_, x.lasting_, x.last_))).is w2) (k1).1)), (1000014, Dec.Own tS 9 (kk1.1) w2.texts_.length), (11, (Bx 5 true 46 ((tpagestore_Store_k0 (kk1.2)).is w3) (k).1)), (1000011, Dec.Own tS 9 (kk1.2) w3.pages_.length), (700003, GlT Tryd.prog "internal/strconv.uint64pow10" .u64 Lib.pow10Tab), (700007, Gl (tA 64 (tI .u8)) 7 gv7), (700000, GlE 0), (700001, GlI 1), (700002, GlI 2)]) ⟨rfl, rfl, ⟨rfl, rfl, ⟨rfl, rfl, ⟨rfl, rfl, ⟨rfl, rfl, ⟨rfl, rfl, ⟨rfl, rfl, ⟨rfl, rfl, ⟨rfl, rfl, trivial⟩⟩⟩⟩⟩⟩⟩⟩⟩ <| WL.opR rfl (OpR.call (us := [14, 1000014, 11, 1000011, 700003, 700007]) (A := fun kx : (Tok) × (Tok) => (Asn.tuple2 (I6.is append1.1) (I6.is append1.2))) C9 (FSpecR.keys (rin' := [(14, (Bx 5 true 52 ((tMap (tP (tOb (k).1) (tP (tOT tS (kk1.1)) (tP I6 (tOne tjournal_mark)))) (fun x : journal_Journal => (x.Store, x.texts_, x.lasting_, x.last_))).is w2) (k1).1)), (1000014, Dec.Own tS 9 (kk1.1) w2.texts_.length), (11, (Bx 5 true 46 ((tpagestore_Store_k0 (kk1.2)).is w3) (k).1)), (1000011, Dec.Own tS 9 (kk1.2) w3.pages_.length), (700003, GlT Tryd.prog "internal/strconv.uint64pow10" .u64 Lib.pow10Tab), (700007, Gl (tA 64 (tI .u8)) 7 gv7)]) (out' := fun kx : (Tok) × (Tok) => [(14, (Bx 5 true 52 ((tMap (tP (tOb (k).1) (tP (tOT tS (kx.1)) (tP I6 (tOne tjournal_mark)))) (fun x : journal_Journal => (x.Store, x.texts_, x.lasting_, x.last_))).is w4) (k1).1)), (1000014, Dec.Own tS 9 (kx.1) w4.texts_.length), (11, (Bx 5 true 46 ((tpagestore_Store_k0 (kx.2)).is w5) (k).1)), (1000011, Dec.Own tS 9 (kx.2) w5.pages_.length), (700003, GlT Tryd.prog "internal/strconv.uint64pow10" .u64 Lib.pow10Tab), (700007, Gl (tA 64 (tI .u8)) 7 gv7)]) (journal_Journal_Append_spec _ _ _ _ _ _ _ _ _ hv16) rfl (fun _ => rfl)) rfl ⟨(.t rfl), (.str rfl (by decide)), trivial⟩) fun kk2 => Ar <| WL.mv rfl rfl ?_
   obtain ⟨w6, hv17, hm⟩ := Bs hm
   refine WL.weakR (res' := [(11, (Bx 5 true 46 ((tpagestore_Store_k0 (kk2.2)).is w5) (k).1)), (1000011, Dec.Own tS 9 (kk2.2) w5.pages_.length), (1000014, Dec.Own tS 9 (kk2.1) w4.texts_.length), (700000, GlE 0), (700001, GlI 1), (700002, GlI 2), (700003, GlT Tryd.prog "internal/strconv.uint64pow10" .u64 Lib.pow10Tab), (700007, Gl (tA 64 (tI .u8)) 7 gv7), (14, (Bx 5 true 52 ((tMap (tP (tOb (k).1) (tP (tOT tS (kk2.1)) (tP I6 (tOne tjournal_mark)))) (fun x : journal_Journal => (x.Store, x.texts_, x.lasting_, x.last_))).is w4) (k1).1))]) ⟨rfl, rfl, ⟨rfl, rfl, ⟨rfl, rfl, ⟨rfl, rfl, ⟨rfl, rfl, ⟨rfl, rfl, ⟨rfl, rfl, ⟨rfl, rfl, ⟨rfl, rfl, trivial⟩⟩⟩⟩⟩⟩⟩⟩⟩ <| WL.opR rfl (OpR.call (us := [11, 1000011]) (A := fun kx : Tok => (Asn.eq (.tuple #[]))) C13 (FSpecR.keys (rin' := [(11, (Bx 5 true 46 ((tpagestore_Store_k0 (kk2.2)).is w5) (k).1)), (1000011, Dec.Own tS 9 (kk2.2) w5.pages_.length)]) (out' := fun kx : Tok => [(11, (Bx 5 true 46 ((tpagestore_Store_k0 kx).is w6) (k).1)), (1000011, Dec.Own tS 9 kx w6.pages_.length)]) (pagestore_Store_Crash_spec _ _ _ _ _ hv17) rfl (fun _ => rfl)) rfl ⟨(.t rfl), .i64, trivial⟩) fun k2 => Ar <| WL.mv rfl rfl ?_
   obtain ⟨open0_1, hv18, hm⟩ := Bs hm
   refine WL.weakR (res' := [(11, (Bx 5 true 46 ((tpagestore_Store_k0 k2).is w6) (k).1)), (1000011, Dec.Own tS 9 k2 w6.pages_.length), (700000, GlE 0), (700001, GlI 1), (700002, GlI 2), (700003, GlT Tryd.prog "internal/strconv.uint64pow10" .u64 Lib.pow10Tab), (700007, Gl (tA 64 (tI .u8)) 7 gv7), (1000014, Dec.Own tS 9 (kk2.1) w4.texts_.length), (14, (Bx 5 true 52 ((tMap (tP (tOb (k).1) (tP (tOT tS (kk2.1)) (tP I6 (tOne tjournal_mark)))) (fun x : journal_Journal => (x.Store, x.texts_, x.lasting_, x.last_))).is w4) (k1).1))]) ⟨rfl, rfl, ⟨rfl, rfl, ⟨rfl, rfl, ⟨rfl, rfl, ⟨rfl, rfl, ⟨rfl, rfl, ⟨rfl, rfl, ⟨rfl, rfl, ⟨rfl, rfl, trivial⟩⟩⟩⟩⟩⟩⟩⟩⟩ <| WL.opR rfl (OpR.call (us := [11, 1000011, 700000, 700001, 700002, 700003, 700007]) (A := fun kx : Nat × Tok => (Asn.tuple2 (ObP kx open0_1.1) (I6.is open0_1.2))) C8 (FSpecR.keys (rin' := [(11, (Bx 5 true 46 ((tpagestore_Store_k0 k2).is w6) (k).1)), (1000011, Dec.Own tS 9 k2 w6.pages_.length), (700000, GlE 0), (700001, GlI 1), (700002, GlI 2), (700003, GlT Tryd.prog "internal/strconv.uint64pow10" .u64 Lib.pow10Tab), (700007, Gl (tA 64 (tI .u8)) 7 gv7)]) (out' := fun kx : Nat × Tok => [(11, (Bx 5 true 46 ((tpagestore_Store_k0 k2).is w6) (k).1)), (1000011, Dec.Own tS 9 k2 w6.pages_.length), (700000, GlE 0), (700001, GlI 1), (700002, GlI 2), (700003, GlT Tryd.prog "internal/strconv.uint64pow10" .u64 Lib.pow10Tab), (700007, Gl (tA 64 (tI .u8)) 7 gv7), (40, ObR (fun kq => (tMap (tP (tOb (k).1) (tP (tOT tS kq) (tP I6 (tOne tjournal_mark)))) (fun x : journal_Journal => (x.Store, x.texts_, x.lasting_, x.last_)))) 52 tS 9 (fun x : journal_Journal => x.texts_) kx open0_1.1)]) (journal_Open_spec _ _ _ _ _ hv18) rfl (fun _ => rfl)) rfl ⟨(.t rfl), trivial⟩) fun k3 => Am rfl rfl <| Ao rfl (.extract0 (.t rfl)) <| Ao rfl (.extract1 (.t rfl)) <| Ag rfl rfl <| Ag rfl rfl <| An <| W.seq <| Aw <| Am rfl rfl <| Ao rfl (.eqNilO U25 (.t rfl)) <| An <| W.cB hm (.t rfl) (fun hp20 hm => ?_) (fun hp20 hm => ?_)
   ·refine Aw <| Ao rfl (.assign .bool) <| WL.ns ?_
    have hr := Si hm
    clear hm
    subst hr
    exact W.ret1 () rfl (.t rfl) trivial
   ·refine W.skip <| Aq <| W.seq ?_
    obtain ⟨k4, hv21, hm⟩ := Bs hm
    refine W.obOpen (t := (fun kq => (tMap (tP (tOb (k).1) (tP (tOT tS kq) (tP I6 (tOne tjournal_mark)))) (fun x : journal_Journal => (x.Store, x.texts_, x.lasting_, x.last_))))) (T := 52) (te := tS) (E := 9) (f := (fun x : journal_Journal => x.texts_)) (c := k3) (u := k4) (o := open0_1.1) (key := 40) 7 40 1000040 hv21 rfl rfl <| W.chg (fun _ _ h => h.slotA (s := 41) rfl (fun _ _ => ObP.some hv21)) <| W.chg (fun _ _ h => h.slotA (s := 43) rfl (fun _ _ => ObP.some hv21)) <| W.region <| WL.mv rfl rfl ?_
    obtain ⟨at0_, hv22, hm⟩ := Bs hm
    refine WL.weakR (res' := [(40, (Bx 5 true 52 ((tMap (tP (tOb (k).1) (tP (tOT tS (k3).2) (tP I6 (tOne tjournal_mark)))) (fun x : journal_Journal => (x.Store, x.texts_, x.lasting_, x.last_))).is k4) (k3).1)), (1000040, Dec.Own tS 9 (k3).2 k4.texts_.length), (11, (Bx 5 true 46 ((tpagestore_Store_k0 k2).is w6) (k).1)), (1000011, Dec.Own tS 9 k2 w6.pages_.length), (1000014, Dec.Own tS 9 (kk2.1) w4.texts_.length), (700000, GlE 0), (700001, GlI 1), (700002, GlI 2), (700003, GlT Tryd.prog "internal/strconv.uint64pow10" .u64 Lib.pow10Tab), (700007, Gl (tA 64 (tI .u8)) 7 gv7), (14, (Bx 5 true 52 ((tMap (tP (tOb (k).1) (tP (tOT tS (kk2.1)) (tP I6 (tOne tjournal_mark)))) (fun x : journal_Journal => (x.Store, x.texts_, x.lasting_, x.last_))).is w4) (k1).1))]) ⟨rfl, rfl, ⟨rfl, rfl, ⟨rfl, rfl, ⟨rfl, rfl, ⟨rfl, rfl, ⟨rfl, rfl, ⟨rfl, rfl, ⟨rfl, rfl, ⟨rfl, rfl, ⟨rfl, rfl, ⟨rfl, rfl, trivial⟩⟩⟩⟩⟩⟩⟩⟩⟩⟩⟩ <| WL.opR rfl (OpR.call (us := [40, 1000040, 11, 1000011]) (A := fun kx : Unit => (Asn.tuple2 (tS.is at0_.1) (I6.is at0_.2))) C14 (FSpecR.keys (rin' := [(40, (Bx 5 true 52 ((tMap (tP (tOb (k).1) (tP (tOT tS (k3).2) (tP I6 (tOne tjournal_mark)))) (fun x : journal_Journal => (x.Store, x.texts_, x.lasting_, x.last_))).is k4) (k3).1)), (1000040, Dec.Own tS 9 (k3).2 k4.texts_.length), (11, (Bx 5 true 46 ((tpagestore_Store_k0 k2).is w6) (k).1)), (1000011, Dec.Own tS 9 k2 w6.pages_.length)]) (out' := fun kx : Unit => [(40, (Bx 5 true 52 ((tMap (tP (tOb (k).1) (tP (tOT tS (k3).2) (tP I6 (tOne tjournal_mark)))) (fun x : journal_Journal => (x.Store, x.texts_, x.lasting_, x.last_))).is k4) (k3).1)), (1000040, Dec.Own tS 9 (k3).2 k4.texts_.length), (11, (Bx 5 true 46 ((tpagestore_Store_k0 k2).is w6) (k).1)), (1000011, Dec.Own tS 9 k2 w6.pages_.length)]) (journal_Journal_At_spec _ _ _ _ _ _ _ _ hv22) rfl (fun _ => rfl)) rfl ⟨(.t rfl), .i64, trivial⟩) fun _ => Am rfl rfl <| Ao rfl (.extract0 (.t rfl)) <| Ao rfl (.extract1 (.t rfl)) <| Ag rfl rfl <| Ag rfl rfl <| Ar <| Am rfl rfl <| Ao rfl (.eqI (.t rfl) .i64) <| WL.mv rfl rfl ?_
    rcases iteD hm with ⟨hp24, hb23, hm⟩ | ⟨hp24, hb23, hm⟩
    ·refine Ax rfl hb23 (.move (.t rfl)) <| Ax rfl hb23 (.eqI (.t rfl) .i64) <| Ao rfl (.pickT (.t rfl) hb23 (.t rfl)) <| WL.mv rfl rfl ?_
     rcases iteD hm with ⟨hp26, hb25, hm⟩ | ⟨hp26, hb25, hm⟩
     ·refine Ax rfl hb25 (.move (.t rfl)) <| Ax rfl hb25 (.eqI (.t rfl) .i64) <| Ao rfl (.pickT (.t rfl) hb25 (.t rfl)) <| WL.mv rfl rfl ?_
      rcases iteD hm with ⟨hp28, hb27, hm⟩ | ⟨hp28, hb27, hm⟩
      ·refine Ax rfl hb27 (.move (.t rfl)) <| Ax rfl hb27 (.eqI (.t rfl) .i64) <| Ao rfl (.pickT (.t rfl) hb27 (.t rfl)) <| WL.mv rfl rfl ?_
       rcases iteD hm with ⟨hp30, hb29, hm⟩ | ⟨hp30, hb29, hm⟩
       ·refine Ax rfl hb29 (.move (.t rfl)) <| Ax rfl hb29 (.eqS (.t rfl) (.str rfl (by decide))) <| Ao rfl (.pickT (.t rfl) hb29 (.t rfl)) <| WL.mv rfl rfl ?_
        rcases iteB hm with ⟨hp32, hb31, hm⟩ | ⟨hp32, hb31, hm⟩
        ·refine Ax rfl hb31 (.move (.t rfl)) <| Ax rfl hb31 (.eqI (.t rfl) .i64) <| Ao rfl (.pickT (.t rfl) hb31 (.t rfl)) <| WL.mv rfl rfl ?_
         rcases iteD hm with ⟨hp34, hb33, hm⟩ | ⟨hp34, hb33, hm⟩
         ·refine Ax rfl hb33 (.move (.t rfl)) ?_
          obtain ⟨len, hv35, hm⟩ := Bs hm
          refine WL.weakR (res' := [(40, (Bx 5 true 52 ((tMap (tP (tOb (k).1) (tP (tOT tS (k3).2) (tP I6 (tOne tjournal_mark)))) (fun x : journal_Journal => (x.Store, x.texts_, x.lasting_, x.last_))).is k4) (k3).1)), (1000040, Dec.Own tS 9 (k3).2 k4.texts_.length), (11, (Bx 5 true 46 ((tpagestore_Store_k0 k2).is w6) (k).1)), (1000011, Dec.Own tS 9 k2 w6.pages_.length), (1000014, Dec.Own tS 9 (kk2.1) w4.texts_.length), (700000, GlE 0), (700001, GlI 1), (700002, GlI 2), (700003, GlT Tryd.prog "internal/strconv.uint64pow10" .u64 Lib.pow10Tab), (700007, Gl (tA 64 (tI .u8)) 7 gv7), (14, (Bx 5 true 52 ((tMap (tP (tOb (k).1) (tP (tOT tS (kk2.1)) (tP I6 (tOne tjournal_mark)))) (fun x : journal_Journal => (x.Store, x.texts_, x.lasting_, x.last_))).is w4) (k1).1))]) ⟨rfl, rfl, ⟨rfl, rfl, ⟨rfl, rfl, ⟨rfl, rfl, ⟨rfl, rfl, ⟨rfl, rfl, ⟨rfl, rfl, ⟨rfl, rfl, ⟨rfl, rfl, ⟨rfl, rfl, ⟨rfl, rfl, trivial⟩⟩⟩⟩⟩⟩⟩⟩⟩⟩⟩ <| WL.runR rfl rfl rfl rfl hb33 rfl rfl (OpR.call (us := [40, 1000040, 11, 1000011]) (A := fun kx : Unit => (I6.is len)) C15 (FSpecR.keys (rin' := [(40, (Bx 5 true 52 ((tMap (tP (tOb (k).1) (tP (tOT tS (k3).2) (tP I6 (tOne tjournal_mark)))) (fun x : journal_Journal => (x.Store, x.texts_, x.lasting_, x.last_))).is k4) (k3).1)), (1000040, Dec.Own tS 9 (k3).2 k4.texts_.length), (11, (Bx 5 true 46 ((tpagestore_Store_k0 k2).is w6) (k).1)), (1000011, Dec.Own tS 9 k2 w6.pages_.length)]) (out' := fun kx : Unit => [(40, (Bx 5 true 52 ((tMap (tP (tOb (k).1) (tP (tOT tS (k3).2) (tP I6 (tOne tjournal_mark)))) (fun x : journal_Journal => (x.Store, x.texts_, x.lasting_, x.last_))).is k4) (k3).1)), (1000040, Dec.Own tS 9 (k3).2 k4.texts_.length), (11, (Bx 5 true 46 ((tpagestore_Store_k0 k2).is w6) (k).1)), (1000011, Dec.Own tS 9 k2 w6.pages_.length)]) (journal_Journal_Len_spec _ _ _ _ _ _ _ hv35) rfl (fun _ => rfl)) rfl ⟨(.t rfl), trivial⟩) fun _ => Ax rfl hb33 (.eqI (.t rfl) .i64) <| Ao rfl (.pickT (.t rfl) hb33 (.t rfl)) <| WL.mv rfl rfl ?_
          rcases iteD hm with ⟨hp37, hb36, hm⟩ | ⟨hp37, hb36, hm⟩
          ·refine Ax rfl hb36 (.move (.t rfl)) ?_
           obtain ⟨len1, hv38, hm⟩ := Bs hm
           refine WL.weakR (res' := [(11, (Bx 5 true 46 ((tpagestore_Store_k0 k2).is w6) (k).1)), (1000011, Dec.Own tS 9 k2 w6.pages_.length), (1000014, Dec.Own tS 9 (kk2.1) w4.texts_.length), (1000040, Dec.Own tS 9 (k3).2 k4.texts_.length), (700000, GlE 0), (700001, GlI 1), (700002, GlI 2), (700003, GlT Tryd.prog "internal/strconv.uint64pow10" .u64 Lib.pow10Tab), (700007, Gl (tA 64 (tI .u8)) 7 gv7), (14, (Bx 5 true 52 ((tMap (tP (tOb (k).1) (tP (tOT tS (kk2.1)) (tP I6 (tOne tjournal_mark)))) (fun x : journal_Journal => (x.Store, x.texts_, x.lasting_, x.last_))).is w4) (k1).1)), (40, (Bx 5 true 52 ((tMap (tP (tOb (k).1) (tP (tOT tS (k3).2) (tP I6 (tOne tjournal_mark)))) (fun x : journal_Journal => (x.Store, x.texts_, x.lasting_, x.last_))).is k4) (k3).1))]) ⟨rfl, rfl, ⟨rfl, rfl, ⟨rfl, rfl, ⟨rfl, rfl, ⟨rfl, rfl, ⟨rfl, rfl, ⟨rfl, rfl, ⟨rfl, rfl, ⟨rfl, rfl, ⟨rfl, rfl, ⟨rfl, rfl, trivial⟩⟩⟩⟩⟩⟩⟩⟩⟩⟩⟩ <| WL.runR rfl rfl rfl rfl hb36 rfl rfl (OpR.call (us := [11, 1000011]) (A := fun kx : Unit => (I6.is len1)) C19 (FSpecR.keys (rin' := [(11, (Bx 5 true 46 ((tpagestore_Store_k0 k2).is w6) (k).1)), (1000011, Dec.Own tS 9 k2 w6.pages_.length)]) (out' := fun kx : Unit => [(11, (Bx 5 true 46 ((tpagestore_Store_k0 k2).is w6) (k).1)), (1000011, Dec.Own tS 9 k2 w6.pages_.length)]) (pagestore_Store_Len_spec _ _ _ _ hv38) rfl (fun _ => rfl)) rfl ⟨(.t rfl), trivial⟩) fun _ => Ax rfl hb36 (.eqI (.t rfl) .i64) <| Ao rfl (.pickT (.t rfl) hb36 (.t rfl)) <| Ag rfl rfl <| WL.ns ?_
           have hr := Si hm
           clear hm
           subst hr
           exact W.ret1 () rfl (.t rfl) trivial
          ·refine Ap rfl hb36 <| Ap rfl hb36 <| Ap rfl hb36 <| Ao rfl (.pickF (.t rfl) hb36 .bool) <| Ag rfl rfl <| WL.ns ?_
           have hr := Si hm
           clear hm
           subst hr
           exact W.ret1 () rfl (.t rfl) trivial
         ·refine Ap rfl hb33 <| Ap rfl hb33 <| Ap rfl hb33 <| Ao rfl (.pickF (.t rfl) hb33 .bool) <| Am rfl rfl <| Ap rfl rfl <| Ap rfl rfl <| Ap rfl rfl <| Ao rfl (.pickF (.t rfl) rfl .bool) <| Ag rfl rfl <| WL.ns ?_
          have hr := Si hm
          clear hm
          subst hr
          exact W.ret1 () rfl (.t rfl) trivial
        ·refine Ap rfl hb31 <| Ap rfl hb31 <| Ao rfl (.pickF (.t rfl) hb31 .bool) <| Am rfl rfl <| Ap rfl rfl <| Ap rfl rfl <| Ap rfl rfl <| Ao rfl (.pickF (.t rfl) rfl .bool) <| Am rfl rfl <| Ap rfl rfl <| Ap rfl rfl <| Ap rfl rfl <| Ao rfl (.pickF (.t rfl) rfl .bool) <| Ag rfl rfl <| WL.ns ?_
         have hr := Si hm
         clear hm
         subst hr
         exact W.ret1 () rfl (.t rfl) trivial
       ·refine Ap rfl hb29 <| Ap rfl hb29 <| Ao rfl (.pickF (.t rfl) hb29 .bool) <| Am rfl rfl <| Ap rfl rfl <| Ap rfl rfl <| Ao rfl (.pickF (.t rfl) rfl .bool) <| Am rfl rfl <| Ap rfl rfl <| Ap rfl rfl <| Ap rfl rfl <| Ao rfl (.pickF (.t rfl) rfl .bool) <| Am rfl rfl <| Ap rfl rfl <| Ap rfl rfl <| Ap rfl rfl ?_
        refine Ao rfl (.pickF (.t rfl) rfl .bool) <| Ag rfl rfl <| WL.ns ?_
        have hr := Si hm
        clear hm
        subst hr
        exact W.ret1 () rfl (.t rfl) trivial
      ·refine Ap rfl hb27 <| Ap rfl hb27 <| Ao rfl (.pickF (.t rfl) hb27 .bool) <| Am rfl rfl <| Ap rfl rfl <| Ap rfl rfl <| Ao rfl (.pickF (.t rfl) rfl .bool) <| Am rfl rfl <| Ap rfl rfl <| Ap rfl rfl <| Ao rfl (.pickF (.t rfl) rfl .bool) <| Am rfl rfl <| Ap rfl rfl <| Ap rfl rfl <| Ap rfl rfl <| Ao rfl (.pickF (.t rfl) rfl .bool) ?_
       refine Am rfl rfl <| Ap rfl rfl <| Ap rfl rfl <| Ap rfl rfl <| Ao rfl (.pickF (.t rfl) rfl .bool) <| Ag rfl rfl <| WL.ns ?_
       have hr := Si hm
       clear hm
       subst hr
       exact W.ret1 () rfl (.t rfl) trivial
     ·refine Ap rfl hb25 <| Ap rfl hb25 <| Ao rfl (.pickF (.t rfl) hb25 .bool) <| Am rfl rfl <| Ap rfl rfl <| Ap rfl rfl <| Ao rfl (.pickF (.t rfl) rfl .bool) <| Am rfl rfl <| Ap rfl rfl <| Ap rfl rfl <| Ao rfl (.pickF (.t rfl) rfl .bool) <| Am rfl rfl <| Ap rfl rfl <| Ap rfl rfl <| Ao rfl (.pickF (.t rfl) rfl .bool) <| WL.mv rfl rfl ?_
      refine Ap rfl rfl <| Ap rfl rfl <| Ap rfl rfl <| Ao rfl (.pickF (.t rfl) rfl .bool) <| Am rfl rfl <| Ap rfl rfl <| Ap rfl rfl <| Ap rfl rfl <| Ao rfl (.pickF (.t rfl) rfl .bool) <| Ag rfl rfl <| WL.ns ?_
      have hr := Si hm
      clear hm
      subst hr
      exact W.ret1 () rfl (.t rfl) trivial
    ·refine Ap rfl hb23 <| Ap rfl hb23 <| Ao rfl (.pickF (.t rfl) hb23 .bool) <| Am rfl rfl <| Ap rfl rfl <| Ap rfl rfl <| Ao rfl (.pickF (.t rfl) rfl .bool) <| Am rfl rfl <| Ap rfl rfl <| Ap rfl rfl <| Ao rfl (.pickF (.t rfl) rfl .bool) <| Am rfl rfl <| Ap rfl rfl <| Ap rfl rfl <| Ao rfl (.pickF (.t rfl) rfl .bool) <| WL.mv rfl rfl ?_
     refine Ap rfl rfl <| Ap rfl rfl <| Ao rfl (.pickF (.t rfl) rfl .bool) <| Am rfl rfl <| Ap rfl rfl <| Ap rfl rfl <| Ap rfl rfl <| Ao rfl (.pickF (.t rfl) rfl .bool) <| Am rfl rfl <| Ap rfl rfl <| Ap rfl rfl <| Ap rfl rfl <| Ao rfl (.pickF (.t rfl) rfl .bool) <| Ag rfl rfl <| WL.ns ?_
     have hr := Si hm
     clear hm
     subst hr
     exact W.ret1 () rfl (.t rfl) trivial
 ·have hm := hs5
  clear hs5
  refine W.region <| Am rfl rfl <| Ao rfl (.neI (.t rfl) .i64) <| WL.mv rfl rfl ?_
  rcases iteD hm with ⟨hp8, hb7, hm⟩ | ⟨hp8, hb7, hm⟩
  ·exact Ap rfl hb7 <| Ap rfl hb7 <| Ao rfl (.pickT (.t rfl) hb7 .bool) <| Am rfl rfl <| Ap rfl rfl <| Ap rfl rfl <| Ao rfl (.pickT (.t rfl) rfl .bool) <| WL.nil <| WN.meet true (Si hm) ⟨.q rfl, .q rfl, .q rfl, trivial⟩ ⟨rfl, rfl, ⟨rfl, rfl, ⟨rfl, rfl, ⟨rfl, rfl, ⟨rfl, rfl, ⟨rfl, rfl, ⟨rfl, rfl, ⟨rfl, rfl, trivial⟩⟩⟩⟩⟩⟩⟩⟩
  ·refine Ax rfl hb7 (.move (.t rfl)) <| Ax rfl hb7 (.eqNilO U25 (.t rfl)) <| Ao rfl (.pickF (.t rfl) hb7 (.t rfl)) <| WL.mv rfl rfl ?_
   rcases iteB hm with ⟨hp10, hb9, hm⟩ | ⟨hp10, hb9, hm⟩
   ·exact Ap rfl hb9 <| Ap rfl hb9 <| Ao rfl (.pickT (.t rfl) hb9 .bool) <| WL.nil <| WN.meet true (Si hm) ⟨.q rfl, .q rfl, .q rfl, trivial⟩ ⟨rfl, rfl, ⟨rfl, rfl, ⟨rfl, rfl, ⟨rfl, rfl, ⟨rfl, rfl, ⟨rfl, rfl, ⟨rfl, rfl, ⟨rfl, rfl, trivial⟩⟩⟩⟩⟩⟩⟩⟩
   ·exact Ax rfl hb9 (.move (.t rfl)) <| Ax rfl hb9 (.eqNilP (p := some ⟨(k).1, 0, none⟩) U23 (.t rfl)) <| Ao rfl (.pickF (.t rfl) hb9 (.t rfl)) <| WL.nil <| WN.meet false (Si hm) ⟨.q rfl, .q rfl, .q rfl, trivial⟩ ⟨rfl, rfl, ⟨rfl, rfl, ⟨rfl, rfl, ⟨rfl, rfl, ⟨rfl, rfl, ⟨rfl, rfl, ⟨rfl, rfl, ⟨rfl, rfl, trivial⟩⟩⟩⟩⟩⟩⟩⟩
theorem pagestore_Store_FailAfter_spec (s0_ : pagestore_Store) (n0_ : Int) (b : Nat) (k : Tok) (r : pagestore_Store) (hm : M.pagestore_Store_FailAfter s0_ n0_ = some r) : FSpecR Tryd.prog 11 [(Bp b 0), (I6.is n0_)] [(0, (Bx 5 true 46 ((tpagestore_Store_k0 k).is s0_) b)), (1000000, Dec.Own tS 9 k s0_.pages_.length)] (fun kx : Tok => (Asn.eq (.tuple #[]))) (fun kx : Tok => [(0, (Bx 5 true 46 ((tpagestore_Store_k0 kx).is r) b)), (1000000, Dec.Own tS 9 kx r.pages_.length)]) := by
 unfold M.pagestore_Store_FailAfter at hm
 refine FSpecR.of Tryd.func11 rfl rfl rfl fun g0 => W.region <| Am rfl rfl <| Am rfl rfl <| Ao rfl (.maxI (.t rfl) .i64) <| Ao rfl (.nilCheckB (.t rfl)) <| Ao rfl (.fieldAddrB (o := 0) Tryd.underlying46 rfl J3 (.t rfl) rfl) <| WL.opU (OpR.storeBF (b := b) 0 rfl ty3 (spagestore_Store_k0_3 k) rfl (show 3 + 1 ≤ 5 by decide) (.t rfl) (.t rfl)) fun _ => WL.nil ?_
 have hr := Si hm
 clear hm
 subst hr
 exact WN.fin k rfl (fun _ => rfl) ⟨rfl, rfl, ⟨rfl, rfl, trivial⟩⟩
theorem r14_Cut_spec (n : Nat) (s0_ : Str) (r : List Str) (hm : M.r14_Cut n s0_ = some r) : FSpec Tryd.prog 12 [(tS.is s0_)] ((tL tS).is r) := by
 unfold M.r14_Cut at hm
 refine FSpec.of Tryd.func12 rfl rfl rfl fun g0 => Aw <| Ao rfl (.assign (.nil (t := tS))) <| Ar <| WL.opR rfl (OpR.buildSlice (n := 0) (ys := []) (z := ([] : Str)) (xs := ([] : List Str)) 4 U34 el9 ze9 trivial (by simp) (by decide) rfl) fun k => Ag rfl rfl <| An <| W.seq <| W.block ?_
 obtain ⟨s1, hs2, hk3⟩ := Bs hm
 clear hm
 refine W.loop (fun m (s : (Str × (List Str)) × Tok) => M.r14_Cut_loop1 m s.1.1 s.1.2 = some s1) (fun s => [(0, (tS.is s.1.1)), (3, (tO tS s.2 s.1.2))]) (fun s => [(4, Dec.Own tS 9 s.2 s.1.2.length)]) _ ((s0_, ([] : List Str)), k) hs2 ⟨.q rfl, .q rfl, trivial⟩ ⟨rfl, rfl, trivial⟩ ?_
 rintro n4 ⟨⟨s0_1, out⟩, k1⟩ hm
 try dsimp only at hm
 change W _ _ _ _ _ _ _ [(0, (tS.is s0_1)), (3, (tO tS k1 out))] [(4, Dec.Own tS 9 k1 out.length)]
 cases n4 with
 | zero => rw [M.r14_Cut_loop1.eq_1] at hm; cases hm
 | succ n4 =>
  rw [M.r14_Cut_loop1.eq_2] at hm
  refine W.seq <| Aw <| Am rfl rfl <| Ao rfl (.lenS U9 (.t rfl)) <| Ao rfl (.gtI (.t rfl) .i64) <| An <| W.cD hm (.t rfl) (fun hp6 hm => ?_) (fun hp6 hm => ?_)
  ·refine W.skip <| Aq <| W.block <| Aw <| Am rfl rfl <| WL.mv rfl rfl ?_
   obtain ⟨v, hv7, hm⟩ := Bs hm
   refine Ao rfl (.sslcHi hv7 U9 (.t rfl) .i64) <| Ao rfl (.buildSlice (n := 1) (ys := [(0, v)]) (z := ([] : Str)) (xs := [v]) U34 el9 ze9 ⟨rfl, (.t rfl), trivial⟩ (by simp) (by decide) rfl) ?_
   obtain ⟨out1, hv8, hm⟩ := Bs hm
   refine WL.opR rfl (OpR.appC (key := 4) hv8 U34 el9 (.t rfl) (.t rfl) rfl) fun k2 => Ag rfl rfl <| WL.nr1 <| WL.mv rfl rfl ?_
   obtain ⟨v1, hv9, hm⟩ := Bs hm
   exact Ao rfl (.sslcLo hv9 U9 (.t rfl) .i64) <| Ag rfl rfl <| WL.nil <| WN.block <| WN.again n4 ((v1, out1), k2) (Nat.lt_succ_self n4) hm ⟨.q rfl, .q rfl, trivial⟩ ⟨rfl, rfl, trivial⟩
  ·refine W.exit rfl ?_
   have hr10 := Si hm
   clear hm
   subst hr10
   have hm := hk3
   try dsimp only at hm
   refine Aq <| Aw <| Am rfl rfl <| Am rfl rfl <| Ao rfl (.buildSlice (n := 1) (ys := [(0, s0_1)]) (z := ([] : Str)) (xs := [s0_1]) U34 el9 ze9 ⟨rfl, (.t rfl), trivial⟩ (by simp) (by decide) rfl) ?_
   obtain ⟨out2, hv11, hm⟩ := Bs hm
   refine WL.opR rfl (OpR.appC (key := 4) hv11 U34 el9 (.t rfl) (.t rfl) rfl) fun k3 => Ag rfl rfl <| WL.ns ?_
   have hr := Si hm
   clear hm
   subst hr
   exact W.ret1 () rfl (Opd.own (.t rfl)) trivial
theorem law14_JournalFragments_spec (n : Nat) (first : Str) (b : Int) (size : Int) (fuse : Int) (r : Bool) (hm : M.law14_JournalFragments n first b size fuse = some r) : FSpecR Tryd.prog 3 [(tS.is first), ((tI .u8).is b), (I6.is size), (I6.is fuse)] [(700000, GlE 0), (700001, GlI 1), (700002, GlI 2), (700003, GlT Tryd.prog "internal/strconv.uint64pow10" .u64 Lib.pow10Tab), (700007, Gl (tA 64 (tI .u8)) 7 gv7)] (fun _ : Unit => (tB.is r)) (fun _ => []) := by
 unfold M.law14_JournalFragments at hm
 refine FSpecR.of Tryd.func3 rfl rfl rfl fun g0 => Aw <| Ao rfl (.assign .bool) <| An <| W.seq <| W.sr ?_
 obtain ⟨awake, hv1, hm⟩ := Bs hm
 refine Ao rfl (.callG (rin := [(700000, GlE 0), (700001, GlI 1), (700002, GlI 2), (700003, GlT Tryd.prog "internal/strconv.uint64pow10" .u64 Lib.pow10Tab), (700007, Gl (tA 64 (tI .u8)) 7 gv7)]) C6 (law14_awake_spec _ _ hv1) ⟨rfl, rfl, rfl, rfl, rfl, trivial⟩ ⟨rfl, rfl, ⟨rfl, rfl, ⟨rfl, rfl, ⟨rfl, rfl, ⟨rfl, rfl, trivial⟩⟩⟩⟩⟩ trivial) <| Ao rfl (.notB (.t rfl)) <| An <| W.cR hm (.t rfl) (fun hp3 hm => ?_) (fun hp3 hm => ?_)
 ·refine Aw <| Ao rfl (.assign .bool) <| WL.ns ?_
  have hr := Si hm
  clear hm
  subst hr
  exact W.ret1 () rfl (.t rfl) trivial
 ·refine W.skip <| Aq <| W.seq ?_
  obtain ⟨s4, hs5, hk6⟩ := Bs hm
  clear hm
  refine W.join (fun s : Bool => s = s4) (fun s => [(47, (tB.is s)), (0, (tS.is first)), (1, ((tI .u8).is b)), (2, (I6.is size)), (3, (I6.is fuse))]) (fun s => [(700000, GlE 0), (700001, GlI 1), (700002, GlI 2), (700003, GlT Tryd.prog "internal/strconv.uint64pow10" .u64 Lib.pow10Tab), (700007, Gl (tA 64 (tI .u8)) 7 gv7)]) ?_ ?_
  ·rintro v hj104
   try dsimp only at hj104
   subst hj104
   have hm := hk6
   clear hk6
   try dsimp only at hm
   change W _ _ _ _ _ _ _ [(47, (tB.is v)), (0, (tS.is first)), (1, ((tI .u8).is b)), (2, (I6.is size)), (3, (I6.is fuse))] [(700000, GlE 0), (700001, GlI 1), (700002, GlI 2), (700003, GlT Tryd.prog "internal/strconv.uint64pow10" .u64 Lib.pow10Tab), (700007, Gl (tA 64 (tI .u8)) 7 gv7)]
   refine W.cB hm (.t rfl) (fun hp16 hm => ?_) (fun hp16 hm => ?_)
   ·refine Aw <| Ao rfl (.assign .bool) <| WL.ns ?_
    have hr := Si hm
    clear hm
    subst hr
    exact W.ret1 () rfl (.t rfl) trivial
   ·refine W.skip <| Aq <| W.sr ?_
    obtain ⟨new, hv17, hm⟩ := Bs hm
    refine WL.weakR (res' := [(700000, GlE 0), (700001, GlI 1), (700002, GlI 2), (700003, GlT Tryd.prog "internal/strconv.uint64pow10" .u64 Lib.pow10Tab), (700007, Gl (tA 64 (tI .u8)) 7 gv7)]) ⟨rfl, rfl, ⟨rfl, rfl, ⟨rfl, rfl, ⟨rfl, rfl, ⟨rfl, rfl, trivial⟩⟩⟩⟩⟩ <| WL.opR rfl (OpR.call (us := []) (A := fun kx : Nat × Tok => (ObP kx new)) C7 (FSpecR.keys (rin' := []) (out' := fun kx : Nat × Tok => [(48, ObR tpagestore_Store_k0 46 tS 9 (fun x : pagestore_Store => x.pages_) kx new)]) (pagestore_New_spec _ hv17) rfl (fun _ => rfl)) rfl trivial) fun k => Ag rfl rfl <| An <| W.seq ?_
    obtain ⟨s0_, hv18, hm⟩ := Bs hm
    refine W.obOpen (t := tpagestore_Store_k0) (T := 46) (te := tS) (E := 9) (f := (fun x : pagestore_Store => x.pages_)) (c := k) (u := s0_) (o := new) (key := 48) 9 48 1000048 hv18 rfl rfl <| W.chg (fun _ _ h => h.slotA (s := 48) rfl (fun _ _ => ObP.some hv18)) <| W.region <| WL.mv rfl rfl ?_
    obtain ⟨open0_, hv19, hm⟩ := Bs hm
    refine WL.weakR (res' := [(48, (Bx 5 true 46 ((tpagestore_Store_k0 (k).2).is s0_) (k).1)), (1000048, Dec.Own tS 9 (k).2 s0_.pages_.length), (700000, GlE 0), (700001, GlI 1), (700002, GlI 2), (700003, GlT Tryd.prog "internal/strconv.uint64pow10" .u64 Lib.pow10Tab), (700007, Gl (tA 64 (tI .u8)) 7 gv7)]) ⟨rfl, rfl, ⟨rfl, rfl, ⟨rfl, rfl, ⟨rfl, rfl, ⟨rfl, rfl, ⟨rfl, rfl, ⟨rfl, rfl, trivial⟩⟩⟩⟩⟩⟩⟩ <| WL.opR rfl (OpR.call (us := [48, 1000048, 700000, 700001, 700002, 700003, 700007]) (A := fun kx : Nat × Tok => (Asn.tuple2 (ObP kx open0_.1) (I6.is open0_.2))) C8 (FSpecR.keys (rin' := [(48, (Bx 5 true 46 ((tpagestore_Store_k0 (k).2).is s0_) (k).1)), (1000048, Dec.Own tS 9 (k).2 s0_.pages_.length), (700000, GlE 0), (700001, GlI 1), (700002, GlI 2), (700003, GlT Tryd.prog "internal/strconv.uint64pow10" .u64 Lib.pow10Tab), (700007, Gl (tA 64 (tI .u8)) 7 gv7)]) (out' := fun kx : Nat × Tok => [(48, (Bx 5 true 46 ((tpagestore_Store_k0 (k).2).is s0_) (k).1)), (1000048, Dec.Own tS 9 (k).2 s0_.pages_.length), (700000, GlE 0), (700001, GlI 1), (700002, GlI 2), (700003, GlT Tryd.prog "internal/strconv.uint64pow10" .u64 Lib.pow10Tab), (700007, Gl (tA 64 (tI .u8)) 7 gv7), (51, ObR (fun kq => (tMap (tP (tOb (k).1) (tP (tOT tS kq) (tP I6 (tOne tjournal_mark)))) (fun x : journal_Journal => (x.Store, x.texts_, x.lasting_, x.last_)))) 52 tS 9 (fun x : journal_Journal => x.texts_) kx open0_.1)]) (journal_Open_spec _ _ _ _ _ hv19) rfl (fun _ => rfl)) rfl ⟨(.t rfl), trivial⟩) fun k1 => Am rfl rfl <| Ao rfl (.extract0 (.t rfl)) <| Ao rfl (.extract1 (.t rfl)) <| Ag rfl rfl <| Ag rfl rfl <| An <| W.seq <| Aw <| Am rfl rfl <| Ao rfl (.neI (.t rfl) .i64) <| An <| W.cD hm (.t rfl) (fun hp21 hm => ?_) (fun hp21 hm => ?_)
    ·refine Aw <| Ao rfl (.assign .bool) <| WL.ns ?_
     have hr := Si hm
     clear hm
     subst hr
     exact W.ret1 () rfl (.t rfl) trivial
    ·refine W.skip <| Aq <| W.seq <| W.seq ?_
     obtain ⟨j, hv22, hm⟩ := Bs hm
     refine W.obOpen (t := (fun kq => (tMap (tP (tOb (k).1) (tP (tOT tS kq) (tP I6 (tOne tjournal_mark)))) (fun x : journal_Journal => (x.Store, x.texts_, x.lasting_, x.last_))))) (T := 52) (te := tS) (E := 9) (f := (fun x : journal_Journal => x.texts_)) (c := k1) (u := j) (o := open0_.1) (key := 51) 10 51 1000051 hv22 rfl rfl <| W.chg (fun _ _ h => h.slotA (s := 52) rfl (fun _ _ => ObP.some hv22)) <| W.region <| Am rfl rfl <| WL.mv rfl rfl ?_
     obtain ⟨⟨append, w, w1⟩, hv23, hm⟩ := Bs hm
     dsimp only at hm
     refine WL.weakR (res' := [(51, (Bx 5 true 52 ((tMap (tP (tOb (k).1) (tP (tOT tS (k1).2) (tP I6 (tOne tjournal_mark)))) (fun x : journal_Journal => (x.Store, x.texts_, x.lasting_, x.last_))).is j) (k1).1)), (1000051, Dec.Own tS 9 (k1).2 j.texts_.length), (48, (Bx 5 true 46 ((tpagestore_Store_k0 (k).2).is s0_) (k).1)), (1000048, Dec.Own tS 9 (k).2 s0_.pages_.length), (700003, GlT Tryd.prog "internal/strconv.uint64pow10" .u64 Lib.pow10Tab), (700007, Gl (tA 64 (tI .u8)) 7 gv7), (700000, GlE 0), (700001, GlI 1), (700002, GlI 2)]) ⟨rfl, rfl, ⟨rfl, rfl, ⟨rfl, rfl, ⟨rfl, rfl, ⟨rfl, rfl, ⟨rfl, rfl, ⟨rfl, rfl, ⟨rfl, rfl, ⟨rfl, rfl, trivial⟩⟩⟩⟩⟩⟩⟩⟩⟩ <| WL.opR rfl (OpR.call (us := [51, 1000051, 48, 1000048, 700003, 700007]) (A := fun kx : (Tok) × (Tok) => (Asn.tuple2 (I6.is append.1) (I6.is append.2))) C9 (FSpecR.keys (rin' := [(51, (Bx 5 true 52 ((tMap (tP (tOb (k).1) (tP (tOT tS (k1).2) (tP I6 (tOne tjournal_mark)))) (fun x : journal_Journal => (x.Store, x.texts_, x.lasting_, x.last_))).is j) (k1).1)), (1000051, Dec.Own tS 9 (k1).2 j.texts_.length), (48, (Bx 5 true 46 ((tpagestore_Store_k0 (k).2).is s0_) (k).1)), (1000048, Dec.Own tS 9 (k).2 s0_.pages_.length), (700003, GlT Tryd.prog "internal/strconv.uint64pow10" .u64 Lib.pow10Tab), (700007, Gl (tA 64 (tI .u8)) 7 gv7)]) (out' := fun kx : (Tok) × (Tok) => [(51, (Bx 5 true 52 ((tMap (tP (tOb (k).1) (tP (tOT tS (kx.1)) (tP I6 (tOne tjournal_mark)))) (fun x : journal_Journal => (x.Store, x.texts_, x.lasting_, x.last_))).is w) (k1).1)), (1000051, Dec.Own tS 9 (kx.1) w.texts_.length), (48, (Bx 5 true 46 ((tpagestore_Store_k0 (kx.2)).is w1) (k).1)), (1000048, Dec.Own tS 9 (kx.2) w1.pages_.length), (700003, GlT Tryd.prog "internal/strconv.uint64pow10" .u64 Lib.pow10Tab), (700007, Gl (tA 64 (tI .u8)) 7 gv7)]) (journal_Journal_Append_spec _ _ _ _ _ _ _ _ _ hv23) rfl (fun _ => rfl)) rfl ⟨(.t rfl), (.t rfl), trivial⟩) fun kk => Am rfl rfl <| Ao rfl (.extract0 (.t rfl)) <| Ao rfl (.extract1 (.t rfl)) <| Ag rfl rfl <| Ag rfl rfl <| WL.ns ?_
     obtain ⟨s24, hs25, hk26⟩ := Bs hm
     clear hm
     refine W.join (fun s : (Bool × pagestore_Store × journal_Journal) × Tok × Tok => s.1 = s24) (fun s => [(68, (tB.is s.1.1)), (0, (tS.is first)), (1, ((tI .u8).is b)), (2, (I6.is size)), (3, (I6.is fuse)), (9, (Bp (k).1 0)), (10, (Bp (k1).1 0))]) (fun s => [(1000048, Dec.Own tS 9 s.2.1 s.1.2.1.pages_.length), (1000051, Dec.Own tS 9 s.2.2 s.1.2.2.texts_.length), (48, (Bx 5 true 46 ((tpagestore_Store_k0 s.2.1).is s.1.2.1) (k).1)), (51, (Bx 5 true 52 ((tMap (tP (tOb (k).1) (tP (tOT tS s.2.2) (tP I6 (tOne tjournal_mark)))) (fun x : journal_Journal => (x.Store, x.texts_, x.lasting_, x.last_))).is s.1.2.2) (k1).1)), (700000, GlE 0), (700001, GlI 1), (700002, GlI 2), (700003, GlT Tryd.prog "internal/strconv.uint64pow10" .u64 Lib.pow10Tab), (700007, Gl (tA 64 (tI .u8)) 7 gv7)]) ?_ ?_
     ·rintro ⟨⟨v1, v2, v3⟩, ⟨k2, k3⟩⟩ hj103
      try dsimp only at hj103
      subst hj103
      have hm := hk26
      clear hk26
      try dsimp only at hm
      change W _ _ _ _ _ _ _ [(68, (tB.is v1)), (0, (tS.is first)), (1, ((tI .u8).is b)), (2, (I6.is size)), (3, (I6.is fuse)), (9, (Bp (k).1 0)), (10, (Bp (k1).1 0))] [(1000048, Dec.Own tS 9 k2 v2.pages_.length), (1000051, Dec.Own tS 9 k3 v3.texts_.length), (48, (Bx 5 true 46 ((tpagestore_Store_k0 k2).is v2) (k).1)), (51, (Bx 5 true 52 ((tMap (tP (tOb (k).1) (tP (tOT tS k3) (tP I6 (tOne tjournal_mark)))) (fun x : journal_Journal => (x.Store, x.texts_, x.lasting_, x.last_))).is v3) (k1).1)), (700000, GlE 0), (700001, GlI 1), (700002, GlI 2), (700003, GlT Tryd.prog "internal/strconv.uint64pow10" .u64 Lib.pow10Tab), (700007, Gl (tA 64 (tI .u8)) 7 gv7)]
      refine W.cB hm (.t rfl) (fun hp31 hm => ?_) (fun hp31 hm => ?_)
      ·refine Aw <| Ao rfl (.assign .bool) <| WL.ns ?_
       have hr := Si hm
       clear hm
       subst hr
       exact W.ret1 () rfl (.t rfl) trivial
      ·refine W.skip <| Aq <| Aw <| WL.mv rfl rfl ?_
       obtain ⟨mk, hv32, hm⟩ := Bs hm
       refine WL.opR rfl (OpR.loosen fl5 (OpR.makeSlice (k := .i64) 70 hv32 U32 el5 ze5 (.t rfl) (.t rfl))) fun k4 => Ag rfl rfl <| An <| W.seq <| Aw <| Ao rfl (.assign .i64) <| An <| W.block ?_
       obtain ⟨s33, hs34, hk35⟩ := Bs hm
       clear hm
       refine W.loop (fun m (s : ((List Int) × Int) × Tok) => M.law14_JournalFragments_loop1 b m s.1.1 s.1.2 = some s33) (fun s => [(14, (tU s.2 s.1.1.length)), (15, (I6.is s.1.2)), (0, (tS.is first)), (1, ((tI .u8).is b)), (3, (I6.is fuse)), (9, (Bp (k).1 0)), (10, (Bp (k1).1 0))]) (fun s => [(70, OwnU (tI .u8) 5 s.2 s.1.1), (1000048, Dec.Own tS 9 k2 v2.pages_.length), (1000051, Dec.Own tS 9 k3 v3.texts_.length), (48, (Bx 5 true 46 ((tpagestore_Store_k0 k2).is v2) (k).1)), (51, (Bx 5 true 52 ((tMap (tP (tOb (k).1) (tP (tOT tS k3) (tP I6 (tOne tjournal_mark)))) (fun x : journal_Journal => (x.Store, x.texts_, x.lasting_, x.last_))).is v3) (k1).1)), (700000, GlE 0), (700001, GlI 1), (700002, GlI 2), (700003, GlT Tryd.prog "internal/strconv.uint64pow10" .u64 Lib.pow10Tab), (700007, Gl (tA 64 (tI .u8)) 7 gv7)]) _ ((mk, (0 : Int)), k4) hs34 ⟨.q rfl, .q rfl, .q rfl, .q rfl, .q rfl, .q rfl, .q rfl, trivial⟩ ⟨rfl, rfl, ⟨rfl, rfl, ⟨rfl, rfl, ⟨rfl, rfl, ⟨rfl, rfl, ⟨rfl, rfl, ⟨rfl, rfl, ⟨rfl, rfl, ⟨rfl, rfl, ⟨rfl, rfl, trivial⟩⟩⟩⟩⟩⟩⟩⟩⟩⟩ ?_
       rintro n36 ⟨⟨text, i⟩, k5⟩ hm
       try dsimp only at hm
       change W _ _ _ _ _ _ _ [(14, (tU k5 text.length)), (15, (I6.is i)), (0, (tS.is first)), (1, ((tI .u8).is b)), (3, (I6.is fuse)), (9, (Bp (k).1 0)), (10, (Bp (k1).1 0))] [(70, OwnU (tI .u8) 5 k5 text), (1000048, Dec.Own tS 9 k2 v2.pages_.length), (1000051, Dec.Own tS 9 k3 v3.texts_.length), (48, (Bx 5 true 46 ((tpagestore_Store_k0 k2).is v2) (k).1)), (51, (Bx 5 true 52 ((tMap (tP (tOb (k).1) (tP (tOT tS k3) (tP I6 (tOne tjournal_mark)))) (fun x : journal_Journal => (x.Store, x.texts_, x.lasting_, x.last_))).is v3) (k1).1)), (700000, GlE 0), (700001, GlI 1), (700002, GlI 2), (700003, GlT Tryd.prog "internal/strconv.uint64pow10" .u64 Lib.pow10Tab), (700007, Gl (tA 64 (tI .u8)) 7 gv7)]
       cases n36 with
       | zero => rw [M.law14_JournalFragments_loop1.eq_1] at hm; cases hm
       | succ n36 =>
        rw [M.law14_JournalFragments_loop1.eq_2] at hm
        refine W.seq <| Aw <| Am rfl rfl <| Am rfl rfl <| Ao rfl (.lenU U32 (.t rfl)) <| Ao rfl (.ltI (.t rfl) (.t rfl)) <| An <| W.cD hm (.t rfl) (fun hp38 hm => ?_) (fun hp38 hm => ?_)
        ·refine W.skip <| Aq <| W.seq <| W.block <| W.region <| Am rfl rfl <| Am rfl rfl <| WL.mv rfl rfl ?_
         obtain ⟨v4, hv39, hm⟩ := Bs hm
         refine Ao rfl (.idxU (t := (tI .u8)) hv39 U32 Z5 (.t rfl) (.t rfl)) ?_
         obtain ⟨w4, hv40, hm⟩ := Bs hm
         refine WL.opU (OpR.storeU (key := 70) hv40 ty5 (.t rfl) (.t rfl) rfl) fun _ => WL.nil <| WN.lenU 14 (setC_len hv40) rfl <| WN.lenU 72 (setC_len hv40) rfl <| WN.lenU 77 (setC_len hv40) rfl <| WN.block <| Aq <| W.region <| WL.mv rfl rfl ?_
         obtain ⟨v5, hv41, hm⟩ := Bs hm
         exact Ao rfl (.addC hv41 (.t rfl) .i64) <| Ag rfl rfl <| WL.nil <| WN.again n36 ((w4, v5), k5) (Nat.lt_succ_self n36) hm ⟨.q rfl, .q rfl, .q rfl, .q rfl, .q rfl, .q rfl, .q rfl, trivial⟩ ⟨rfl, rfl, ⟨rfl, rfl, ⟨rfl, rfl, ⟨rfl, rfl, ⟨rfl, rfl, ⟨rfl, rfl, ⟨rfl, rfl, ⟨rfl, rfl, ⟨rfl, rfl, ⟨rfl, rfl, trivial⟩⟩⟩⟩⟩⟩⟩⟩⟩⟩
        ·refine W.exit rfl ?_
         have hr42 := Si hm
         clear hm
         subst hr42
         have hm := hk35
         try dsimp only at hm
         refine Aq <| Aw <| Am rfl rfl <| WL.mv rfl rfl ?_
         obtain ⟨w5, hv43, hm⟩ := Bs hm
         refine WL.weakR (res' := [(48, (Bx 5 true 46 ((tpagestore_Store_k0 k2).is v2) (k).1)), (1000048, Dec.Own tS 9 k2 v2.pages_.length), (70, OwnU (tI .u8) 5 k5 text), (1000051, Dec.Own tS 9 k3 v3.texts_.length), (51, (Bx 5 true 52 ((tMap (tP (tOb (k).1) (tP (tOT tS k3) (tP I6 (tOne tjournal_mark)))) (fun x : journal_Journal => (x.Store, x.texts_, x.lasting_, x.last_))).is v3) (k1).1)), (700000, GlE 0), (700001, GlI 1), (700002, GlI 2), (700003, GlT Tryd.prog "internal/strconv.uint64pow10" .u64 Lib.pow10Tab), (700007, Gl (tA 64 (tI .u8)) 7 gv7)]) ⟨rfl, rfl, ⟨rfl, rfl, ⟨rfl, rfl, ⟨rfl, rfl, ⟨rfl, rfl, ⟨rfl, rfl, ⟨rfl, rfl, ⟨rfl, rfl, ⟨rfl, rfl, ⟨rfl, rfl, trivial⟩⟩⟩⟩⟩⟩⟩⟩⟩⟩ <| WL.opR rfl (OpR.call (us := [48, 1000048]) (A := fun kx : Tok => (Asn.eq (.tuple #[]))) C11 (FSpecR.keys (rin' := [(48, (Bx 5 true 46 ((tpagestore_Store_k0 k2).is v2) (k).1)), (1000048, Dec.Own tS 9 k2 v2.pages_.length)]) (out' := fun kx : Tok => [(48, (Bx 5 true 46 ((tpagestore_Store_k0 kx).is w5) (k).1)), (1000048, Dec.Own tS 9 kx w5.pages_.length)]) (pagestore_Store_FailAfter_spec _ _ _ _ _ hv43) rfl (fun _ => rfl)) rfl ⟨(.t rfl), (.t rfl), trivial⟩) fun k6 => Ar <| Am rfl rfl <| Am rfl rfl <| WL.fixU 86 70 rfl rfl <| WL.sameU 86 14 rfl rfl <| WL.sameU 86 72 rfl rfl <| Ao rfl (.strB U32 U9 U5 (Opd.own (.t rfl))) ?_
         obtain ⟨⟨append1, w6, w7⟩, hv44, hm⟩ := Bs hm
         dsimp only at hm
         refine WL.weakR (res' := [(51, (Bx 5 true 52 ((tMap (tP (tOb (k).1) (tP (tOT tS k3) (tP I6 (tOne tjournal_mark)))) (fun x : journal_Journal => (x.Store, x.texts_, x.lasting_, x.last_))).is v3) (k1).1)), (1000051, Dec.Own tS 9 k3 v3.texts_.length), (48, (Bx 5 true 46 ((tpagestore_Store_k0 k6).is w5) (k).1)), (1000048, Dec.Own tS 9 k6 w5.pages_.length), (700003, GlT Tryd.prog "internal/strconv.uint64pow10" .u64 Lib.pow10Tab), (700007, Gl (tA 64 (tI .u8)) 7 gv7), (70, Dec.Own (tI .u8) 5 k5 text.length), (700000, GlE 0), (700001, GlI 1), (700002, GlI 2)]) ⟨rfl, rfl, ⟨rfl, rfl, ⟨rfl, rfl, ⟨rfl, rfl, ⟨rfl, rfl, ⟨rfl, rfl, ⟨rfl, rfl, ⟨rfl, rfl, ⟨rfl, rfl, ⟨rfl, rfl, trivial⟩⟩⟩⟩⟩⟩⟩⟩⟩⟩ <| WL.opR rfl (OpR.call (us := [51, 1000051, 48, 1000048, 700003, 700007]) (A := fun kx : (Tok) × (Tok) => (Asn.tuple2 (I6.is append1.1) (I6.is append1.2))) C9 (FSpecR.keys (rin' := [(51, (Bx 5 true 52 ((tMap (tP (tOb (k).1) (tP (tOT tS k3) (tP I6 (tOne tjournal_mark)))) (fun x : journal_Journal => (x.Store, x.texts_, x.lasting_, x.last_))).is v3) (k1).1)), (1000051, Dec.Own tS 9 k3 v3.texts_.length), (48, (Bx 5 true 46 ((tpagestore_Store_k0 k6).is w5) (k).1)), (1000048, Dec.Own tS 9 k6 w5.pages_.length), (700003, GlT Tryd.prog "internal/strconv.uint64pow10" .u64 Lib.pow10Tab), (700007, Gl (tA 64 (tI .u8)) 7 gv7)]) (out' := fun kx : (Tok) × (Tok) => [(51, (Bx 5 true 52 ((tMap (tP (tOb (k).1) (tP (tOT tS (kx.1)) (tP I6 (tOne tjournal_mark)))) (fun x : journal_Journal => (x.Store, x.texts_, x.lasting_, x.last_))).is w6) (k1).1)), (1000051, Dec.Own tS 9 (kx.1) w6.texts_.length), (48, (Bx 5 true 46 ((tpagestore_Store_k0 (kx.2)).is w7) (k).1)), (1000048, Dec.Own tS 9 (kx.2) w7.pages_.length), (700003, GlT Tryd.prog "internal/strconv.uint64pow10" .u64 Lib.pow10Tab), (700007, Gl (tA 64 (tI .u8)) 7 gv7)]) (journal_Journal_Append_spec _ _ _ _ _ _ _ _ _ hv44) rfl (fun _ => rfl)) rfl ⟨(.t rfl), (.t rfl), trivial⟩) fun kk2 => Am rfl rfl <| Ao rfl (.extract0 (.t rfl)) <| Ao rfl (.extract1 (.t rfl)) <| Ag rfl rfl <| Ag rfl rfl <| Ar <| WL.mv rfl rfl ?_
         obtain ⟨⟨commit1, w8, w9⟩, hv45, hm⟩ := Bs hm
         dsimp only at hm
         refine WL.weakR (res' := [(51, (Bx 5 true 52 ((tMap (tP (tOb (k).1) (tP (tOT tS (kk2.1)) (tP I6 (tOne tjournal_mark)))) (fun x : journal_Journal => (x.Store, x.texts_, x.lasting_, x.last_))).is w6) (k1).1)), (1000051, Dec.Own tS 9 (kk2.1) w6.texts_.length), (48, (Bx 5 true 46 ((tpagestore_Store_k0 (kk2.2)).is w7) (k).1)), (1000048, Dec.Own tS 9 (kk2.2) w7.pages_.length), (70, Dec.Own (tI .u8) 5 k5 text.length), (700000, GlE 0), (700001, GlI 1), (700002, GlI 2), (700003, GlT Tryd.prog "internal/strconv.uint64pow10" .u64 Lib.pow10Tab), (700007, Gl (tA 64 (tI .u8)) 7 gv7)]) ⟨rfl, rfl, ⟨rfl, rfl, ⟨rfl, rfl, ⟨rfl, rfl, ⟨rfl, rfl, ⟨rfl, rfl, ⟨rfl, rfl, ⟨rfl, rfl, ⟨rfl, rfl, ⟨rfl, rfl, trivial⟩⟩⟩⟩⟩⟩⟩⟩⟩⟩ <| WL.opR rfl (OpR.call (us := [51, 1000051, 48, 1000048]) (A := fun kx : (Tok) × (Tok) => (I6.is commit1)) C10 (FSpecR.keys (rin' := [(51, (Bx 5 true 52 ((tMap (tP (tOb (k).1) (tP (tOT tS (kk2.1)) (tP I6 (tOne tjournal_mark)))) (fun x : journal_Journal => (x.Store, x.texts_, x.lasting_, x.last_))).is w6) (k1).1)), (1000051, Dec.Own tS 9 (kk2.1) w6.texts_.length), (48, (Bx 5 true 46 ((tpagestore_Store_k0 (kk2.2)).is w7) (k).1)), (1000048, Dec.Own tS 9 (kk2.2) w7.pages_.length)]) (out' := fun kx : (Tok) × (Tok) => [(51, (Bx 5 true 52 ((tMap (tP (tOb (k).1) (tP (tOT tS (kx.1)) (tP I6 (tOne tjournal_mark)))) (fun x : journal_Journal => (x.Store, x.texts_, x.lasting_, x.last_))).is w8) (k1).1)), (1000051, Dec.Own tS 9 (kx.1) w8.texts_.length), (48, (Bx 5 true 46 ((tpagestore_Store_k0 (kx.2)).is w9) (k).1)), (1000048, Dec.Own tS 9 (kx.2) w9.pages_.length)]) (journal_Journal_Commit_spec _ _ _ _ _ _ _ hv45) rfl (fun _ => rfl)) rfl ⟨(.t rfl), trivial⟩) fun kk3 => Ag rfl rfl <| Ar <| Am rfl rfl <| Ao rfl (.strB U32 U9 U5 (Opd.own (.t rfl))) ?_
         obtain ⟨cut, hv46, hm⟩ := Bs hm
         refine Ao rfl (.call C12 (r14_Cut_spec _ _ _ hv46) ⟨(.t rfl), trivial⟩) <| Ao rfl (.lenL U34 (.t rfl)) <| Ag rfl rfl <| WL.ns ?_
         obtain ⟨s47, hs48, hk49⟩ := Bs hm
         clear hm
         refine W.join (fun s : Bool => s = s47) (fun s => [(20, (tB.is s)), (0, (tS.is first)), (3, (I6.is fuse)), (9, (Bp (k).1 0)), (14, (tO (tI .u8) k5 text)), (17, (I6.is append1.2)), (18, (I6.is commit1)), (19, (I6.is (cut.length : Int)))]) (fun s => [(70, Dec.Own (tI .u8) 5 k5 text.length), (1000048, Dec.Own tS 9 (kk3.2) w9.pages_.length), (1000051, Dec.Own tS 9 (kk3.1) w8.texts_.length), (48, (Bx 5 true 46 ((tpagestore_Store_k0 (kk3.2)).is w9) (k).1)), (51, (Bx 5 true 52 ((tMap (tP (tOb (k).1) (tP (tOT tS (kk3.1)) (tP I6 (tOne tjournal_mark)))) (fun x : journal_Journal => (x.Store, x.texts_, x.lasting_, x.last_))).is w8) (k1).1)), (700000, GlE 0), (700001, GlI 1), (700002, GlI 2), (700003, GlT Tryd.prog "internal/strconv.uint64pow10" .u64 Lib.pow10Tab), (700007, Gl (tA 64 (tI .u8)) 7 gv7)]) ?_ ?_
         ·rintro done hj102
          try dsimp only at hj102
          subst hj102
          have hm := hk49
          clear hk49
          try dsimp only at hm
          change W _ _ _ _ _ _ _ [(20, (tB.is done)), (0, (tS.is first)), (3, (I6.is fuse)), (9, (Bp (k).1 0)), (14, (tO (tI .u8) k5 text)), (17, (I6.is append1.2)), (18, (I6.is commit1)), (19, (I6.is (cut.length : Int)))] [(70, Dec.Own (tI .u8) 5 k5 text.length), (1000048, Dec.Own tS 9 (kk3.2) w9.pages_.length), (1000051, Dec.Own tS 9 (kk3.1) w8.texts_.length), (48, (Bx 5 true 46 ((tpagestore_Store_k0 (kk3.2)).is w9) (k).1)), (51, (Bx 5 true 52 ((tMap (tP (tOb (k).1) (tP (tOT tS (kk3.1)) (tP I6 (tOne tjournal_mark)))) (fun x : journal_Journal => (x.Store, x.texts_, x.lasting_, x.last_))).is w8) (k1).1)), (700000, GlE 0), (700001, GlI 1), (700002, GlI 2), (700003, GlT Tryd.prog "internal/strconv.uint64pow10" .u64 Lib.pow10Tab), (700007, Gl (tA 64 (tI .u8)) 7 gv7)]
          refine W.seq ?_
          obtain ⟨s52, hs53, hk54⟩ := Bs hm
          clear hm
          refine W.join (fun s : Bool => s = s52) (fun s => [(123, (tB.is s)), (0, (tS.is first)), (3, (I6.is fuse)), (9, (Bp (k).1 0)), (14, (tO (tI .u8) k5 text)), (20, (tB.is done))]) (fun s => [(70, Dec.Own (tI .u8) 5 k5 text.length), (1000048, Dec.Own tS 9 (kk3.2) w9.pages_.length), (1000051, Dec.Own tS 9 (kk3.1) w8.texts_.length), (48, (Bx 5 true 46 ((tpagestore_Store_k0 (kk3.2)).is w9) (k).1)), (51, (Bx 5 true 52 ((tMap (tP (tOb (k).1) (tP (tOT tS (kk3.1)) (tP I6 (tOne tjournal_mark)))) (fun x : journal_Journal => (x.Store, x.texts_, x.lasting_, x.last_))).is w8) (k1).1)), (700000, GlE 0), (700001, GlI 1), (700002, GlI 2), (700003, GlT Tryd.prog "internal/strconv.uint64pow10" .u64 Lib.pow10Tab), (700007, Gl (tA 64 (tI .u8)) 7 gv7)]) ?_ ?_
          ·rintro v6 hj101
           try dsimp only at hj101
           subst hj101
           have hm := hk54
           clear hk54
           try dsimp only at hm
           change W _ _ _ _ _ _ _ [(123, (tB.is v6)), (0, (tS.is first)), (3, (I6.is fuse)), (9, (Bp (k).1 0)), (14, (tO (tI .u8) k5 text)), (20, (tB.is done))] [(70, Dec.Own (tI .u8) 5 k5 text.length), (1000048, Dec.Own tS 9 (kk3.2) w9.pages_.length), (1000051, Dec.Own tS 9 (kk3.1) w8.texts_.length), (48, (Bx 5 true 46 ((tpagestore_Store_k0 (kk3.2)).is w9) (k).1)), (51, (Bx 5 true 52 ((tMap (tP (tOb (k).1) (tP (tOT tS (kk3.1)) (tP I6 (tOne tjournal_mark)))) (fun x : journal_Journal => (x.Store, x.texts_, x.lasting_, x.last_))).is w8) (k1).1)), (700000, GlE 0), (700001, GlI 1), (700002, GlI 2), (700003, GlT Tryd.prog "internal/strconv.uint64pow10" .u64 Lib.pow10Tab), (700007, Gl (tA 64 (tI .u8)) 7 gv7)]
           refine W.cB hm (.t rfl) (fun hp66 hm => ?_) (fun hp66 hm => ?_)
           ·refine Aw <| Ao rfl (.assign .bool) <| WL.ns ?_
            have hr := Si hm
            clear hm
            subst hr
            exact W.ret1 () rfl (.t rfl) trivial
           ·refine W.skip <| Aq <| Aw <| Am rfl rfl <| WL.mv rfl rfl ?_
            obtain ⟨w10, hv67, hm⟩ := Bs hm
            refine WL.weakR (res' := [(48, (Bx 5 true 46 ((tpagestore_Store_k0 (kk3.2)).is w9) (k).1)), (1000048, Dec.Own tS 9 (kk3.2) w9.pages_.length), (70, Dec.Own (tI .u8) 5 k5 text.length), (1000051, Dec.Own tS 9 (kk3.1) w8.texts_.length), (51, (Bx 5 true 52 ((tMap (tP (tOb (k).1) (tP (tOT tS (kk3.1)) (tP I6 (tOne tjournal_mark)))) (fun x : journal_Journal => (x.Store, x.texts_, x.lasting_, x.last_))).is w8) (k1).1)), (700000, GlE 0), (700001, GlI 1), (700002, GlI 2), (700003, GlT Tryd.prog "internal/strconv.uint64pow10" .u64 Lib.pow10Tab), (700007, Gl (tA 64 (tI .u8)) 7 gv7)]) ⟨rfl, rfl, ⟨rfl, rfl, ⟨rfl, rfl, ⟨rfl, rfl, ⟨rfl, rfl, ⟨rfl, rfl, ⟨rfl, rfl, ⟨rfl, rfl, ⟨rfl, rfl, ⟨rfl, rfl, trivial⟩⟩⟩⟩⟩⟩⟩⟩⟩⟩ <| WL.opR rfl (OpR.call (us := [48, 1000048]) (A := fun kx : Tok => (Asn.eq (.tuple #[]))) C13 (FSpecR.keys (rin' := [(48, (Bx 5 true 46 ((tpagestore_Store_k0 (kk3.2)).is w9) (k).1)), (1000048, Dec.Own tS 9 (kk3.2) w9.pages_.length)]) (out' := fun kx : Tok => [(48, (Bx 5 true 46 ((tpagestore_Store_k0 kx).is w10) (k).1)), (1000048, Dec.Own tS 9 kx w10.pages_.length)]) (pagestore_Store_Crash_spec _ _ _ _ _ hv67) rfl (fun _ => rfl)) rfl ⟨(.t rfl), (.t rfl), trivial⟩) fun k7 => Ar <| WL.mv rfl rfl ?_
            obtain ⟨open0_1, hv68, hm⟩ := Bs hm
            refine WL.weakR (res' := [(48, (Bx 5 true 46 ((tpagestore_Store_k0 k7).is w10) (k).1)), (1000048, Dec.Own tS 9 k7 w10.pages_.length), (700000, GlE 0), (700001, GlI 1), (700002, GlI 2), (700003, GlT Tryd.prog "internal/strconv.uint64pow10" .u64 Lib.pow10Tab), (700007, Gl (tA 64 (tI .u8)) 7 gv7), (70, Dec.Own (tI .u8) 5 k5 text.length), (1000051, Dec.Own tS 9 (kk3.1) w8.texts_.length), (51, (Bx 5 true 52 ((tMap (tP (tOb (k).1) (tP (tOT tS (kk3.1)) (tP I6 (tOne tjournal_mark)))) (fun x : journal_Journal => (x.Store, x.texts_, x.lasting_, x.last_))).is w8) (k1).1))]) ⟨rfl, rfl, ⟨rfl, rfl, ⟨rfl, rfl, ⟨rfl, rfl, ⟨rfl, rfl, ⟨rfl, rfl, ⟨rfl, rfl, ⟨rfl, rfl, ⟨rfl, rfl, ⟨rfl, rfl, trivial⟩⟩⟩⟩⟩⟩⟩⟩⟩⟩ <| WL.opR rfl (OpR.call (us := [48, 1000048, 700000, 700001, 700002, 700003, 700007]) (A := fun kx : Nat × Tok => (Asn.tuple2 (ObP kx open0_1.1) (I6.is open0_1.2))) C8 (FSpecR.keys (rin' := [(48, (Bx 5 true 46 ((tpagestore_Store_k0 k7).is w10) (k).1)), (1000048, Dec.Own tS 9 k7 w10.pages_.length), (700000, GlE 0), (700001, GlI 1), (700002, GlI 2), (700003, GlT Tryd.prog "internal/strconv.uint64pow10" .u64 Lib.pow10Tab), (700007, Gl (tA 64 (tI .u8)) 7 gv7)]) (out' := fun kx : Nat × Tok => [(48, (Bx 5 true 46 ((tpagestore_Store_k0 k7).is w10) (k).1)), (1000048, Dec.Own tS 9 k7 w10.pages_.length), (700000, GlE 0), (700001, GlI 1), (700002, GlI 2), (700003, GlT Tryd.prog "internal/strconv.uint64pow10" .u64 Lib.pow10Tab), (700007, Gl (tA 64 (tI .u8)) 7 gv7), (129, ObR (fun kq => (tMap (tP (tOb (k).1) (tP (tOT tS kq) (tP I6 (tOne tjournal_mark)))) (fun x : journal_Journal => (x.Store, x.texts_, x.lasting_, x.last_)))) 52 tS 9 (fun x : journal_Journal => x.texts_) kx open0_1.1)]) (journal_Open_spec _ _ _ _ _ hv68) rfl (fun _ => rfl)) rfl ⟨(.t rfl), trivial⟩) fun k8 => Am rfl rfl <| Ao rfl (.extract0 (.t rfl)) <| Ao rfl (.extract1 (.t rfl)) <| Ag rfl rfl <| Ag rfl rfl <| An <| W.seq ?_
            obtain ⟨s69, hs70, hk71⟩ := Bs hm
            clear hm
            refine W.join (fun s : Bool => s = s69) (fun s => [(137, (tB.is s)), (0, (tS.is first)), (14, (tO (tI .u8) k5 text)), (20, (tB.is done)), (21, (ObP k8 open0_1.1))]) (fun s => [(70, Dec.Own (tI .u8) 5 k5 text.length), (129, ObR (fun kq => (tMap (tP (tOb (k).1) (tP (tOT tS kq) (tP I6 (tOne tjournal_mark)))) (fun x : journal_Journal => (x.Store, x.texts_, x.lasting_, x.last_)))) 52 tS 9 (fun x : journal_Journal => x.texts_) k8 open0_1.1), (1000048, Dec.Own tS 9 k7 w10.pages_.length), (1000051, Dec.Own tS 9 (kk3.1) w8.texts_.length), (48, (Bx 5 true 46 ((tpagestore_Store_k0 k7).is w10) (k).1)), (51, (Bx 5 true 52 ((tMap (tP (tOb (k).1) (tP (tOT tS (kk3.1)) (tP I6 (tOne tjournal_mark)))) (fun x : journal_Journal => (x.Store, x.texts_, x.lasting_, x.last_))).is w8) (k1).1)), (700000, GlE 0), (700001, GlI 1), (700002, GlI 2), (700003, GlT Tryd.prog "internal/strconv.uint64pow10" .u64 Lib.pow10Tab), (700007, Gl (tA 64 (tI .u8)) 7 gv7)]) ?_ ?_
            ·rintro v7 hj100
             try dsimp only at hj100
             subst hj100
             have hm := hk71
             clear hk71
             try dsimp only at hm
             change W _ _ _ _ _ _ _ [(137, (tB.is v7)), (0, (tS.is first)), (14, (tO (tI .u8) k5 text)), (20, (tB.is done)), (21, (ObP k8 open0_1.1))] [(70, Dec.Own (tI .u8) 5 k5 text.length), (129, ObR (fun kq => (tMap (tP (tOb (k).1) (tP (tOT tS kq) (tP I6 (tOne tjournal_mark)))) (fun x : journal_Journal => (x.Store, x.texts_, x.lasting_, x.last_)))) 52 tS 9 (fun x : journal_Journal => x.texts_) k8 open0_1.1), (1000048, Dec.Own tS 9 k7 w10.pages_.length), (1000051, Dec.Own tS 9 (kk3.1) w8.texts_.length), (48, (Bx 5 true 46 ((tpagestore_Store_k0 k7).is w10) (k).1)), (51, (Bx 5 true 52 ((tMap (tP (tOb (k).1) (tP (tOT tS (kk3.1)) (tP I6 (tOne tjournal_mark)))) (fun x : journal_Journal => (x.Store, x.texts_, x.lasting_, x.last_))).is w8) (k1).1)), (700000, GlE 0), (700001, GlI 1), (700002, GlI 2), (700003, GlT Tryd.prog "internal/strconv.uint64pow10" .u64 Lib.pow10Tab), (700007, Gl (tA 64 (tI .u8)) 7 gv7)]
             refine W.cB hm (.t rfl) (fun hp75 hm => ?_) (fun hp75 hm => ?_)
             ·refine Aw <| Ao rfl (.assign .bool) <| WL.ns ?_
              have hr := Si hm
              clear hm
              subst hr
              exact W.ret1 () rfl (.t rfl) trivial
             ·refine W.skip <| Aq <| W.seq ?_
              obtain ⟨k9, hv76, hm⟩ := Bs hm
              refine W.obOpen (t := (fun kq => (tMap (tP (tOb (k).1) (tP (tOT tS kq) (tP I6 (tOne tjournal_mark)))) (fun x : journal_Journal => (x.Store, x.texts_, x.lasting_, x.last_))))) (T := 52) (te := tS) (E := 9) (f := (fun x : journal_Journal => x.texts_)) (c := k8) (u := k9) (o := open0_1.1) (key := 129) 21 129 1000129 hv76 rfl rfl <| W.region <| WL.mv rfl rfl ?_
              obtain ⟨at0_, hv77, hm⟩ := Bs hm
              refine WL.weakR (res' := [(129, (Bx 5 true 52 ((tMap (tP (tOb (k).1) (tP (tOT tS (k8).2) (tP I6 (tOne tjournal_mark)))) (fun x : journal_Journal => (x.Store, x.texts_, x.lasting_, x.last_))).is k9) (k8).1)), (1000129, Dec.Own tS 9 (k8).2 k9.texts_.length), (48, (Bx 5 true 46 ((tpagestore_Store_k0 k7).is w10) (k).1)), (1000048, Dec.Own tS 9 k7 w10.pages_.length), (70, Dec.Own (tI .u8) 5 k5 text.length), (1000051, Dec.Own tS 9 (kk3.1) w8.texts_.length), (51, (Bx 5 true 52 ((tMap (tP (tOb (k).1) (tP (tOT tS (kk3.1)) (tP I6 (tOne tjournal_mark)))) (fun x : journal_Journal => (x.Store, x.texts_, x.lasting_, x.last_))).is w8) (k1).1)), (700000, GlE 0), (700001, GlI 1), (700002, GlI 2), (700003, GlT Tryd.prog "internal/strconv.uint64pow10" .u64 Lib.pow10Tab), (700007, Gl (tA 64 (tI .u8)) 7 gv7)]) ⟨rfl, rfl, ⟨rfl, rfl, ⟨rfl, rfl, ⟨rfl, rfl, ⟨rfl, rfl, ⟨rfl, rfl, ⟨rfl, rfl, ⟨rfl, rfl, ⟨rfl, rfl, ⟨rfl, rfl, ⟨rfl, rfl, ⟨rfl, rfl, trivial⟩⟩⟩⟩⟩⟩⟩⟩⟩⟩⟩⟩ <| WL.opR rfl (OpR.call (us := [129, 1000129, 48, 1000048]) (A := fun kx : Unit => (Asn.tuple2 (tS.is at0_.1) (I6.is at0_.2))) C14 (FSpecR.keys (rin' := [(129, (Bx 5 true 52 ((tMap (tP (tOb (k).1) (tP (tOT tS (k8).2) (tP I6 (tOne tjournal_mark)))) (fun x : journal_Journal => (x.Store, x.texts_, x.lasting_, x.last_))).is k9) (k8).1)), (1000129, Dec.Own tS 9 (k8).2 k9.texts_.length), (48, (Bx 5 true 46 ((tpagestore_Store_k0 k7).is w10) (k).1)), (1000048, Dec.Own tS 9 k7 w10.pages_.length)]) (out' := fun kx : Unit => [(129, (Bx 5 true 52 ((tMap (tP (tOb (k).1) (tP (tOT tS (k8).2) (tP I6 (tOne tjournal_mark)))) (fun x : journal_Journal => (x.Store, x.texts_, x.lasting_, x.last_))).is k9) (k8).1)), (1000129, Dec.Own tS 9 (k8).2 k9.texts_.length), (48, (Bx 5 true 46 ((tpagestore_Store_k0 k7).is w10) (k).1)), (1000048, Dec.Own tS 9 k7 w10.pages_.length)]) (journal_Journal_At_spec _ _ _ _ _ _ _ _ hv77) rfl (fun _ => rfl)) rfl ⟨(.t rfl), .i64, trivial⟩) fun _ => Am rfl rfl <| Ao rfl (.extract0 (.t rfl)) <| Ao rfl (.extract1 (.t rfl)) <| Ag rfl rfl <| Ag rfl rfl <| An <| W.seq ?_
              obtain ⟨s78, hs79, hk80⟩ := Bs hm
              clear hm
              refine W.join (fun s : Bool => s = s78) (fun s => [(162, (tB.is s)), (14, (tO (tI .u8) k5 text)), (20, (tB.is done)), (21, (Bp (k8).1 0))]) (fun s => [(70, Dec.Own (tI .u8) 5 k5 text.length), (1000048, Dec.Own tS 9 k7 w10.pages_.length), (1000051, Dec.Own tS 9 (kk3.1) w8.texts_.length), (1000129, Dec.Own tS 9 (k8).2 k9.texts_.length), (48, (Bx 5 true 46 ((tpagestore_Store_k0 k7).is w10) (k).1)), (51, (Bx 5 true 52 ((tMap (tP (tOb (k).1) (tP (tOT tS (kk3.1)) (tP I6 (tOne tjournal_mark)))) (fun x : journal_Journal => (x.Store, x.texts_, x.lasting_, x.last_))).is w8) (k1).1)), (129, (Bx 5 true 52 ((tMap (tP (tOb (k).1) (tP (tOT tS (k8).2) (tP I6 (tOne tjournal_mark)))) (fun x : journal_Journal => (x.Store, x.texts_, x.lasting_, x.last_))).is k9) (k8).1)), (700000, GlE 0), (700001, GlI 1), (700002, GlI 2), (700003, GlT Tryd.prog "internal/strconv.uint64pow10" .u64 Lib.pow10Tab), (700007, Gl (tA 64 (tI .u8)) 7 gv7)]) ?_ ?_
              ·rintro v8 hj99
               try dsimp only at hj99
               subst hj99
               have hm := hk80
               clear hk80
               try dsimp only at hm
               change W _ _ _ _ _ _ _ [(162, (tB.is v8)), (14, (tO (tI .u8) k5 text)), (20, (tB.is done)), (21, (Bp (k8).1 0))] [(70, Dec.Own (tI .u8) 5 k5 text.length), (1000048, Dec.Own tS 9 k7 w10.pages_.length), (1000051, Dec.Own tS 9 (kk3.1) w8.texts_.length), (1000129, Dec.Own tS 9 (k8).2 k9.texts_.length), (48, (Bx 5 true 46 ((tpagestore_Store_k0 k7).is w10) (k).1)), (51, (Bx 5 true 52 ((tMap (tP (tOb (k).1) (tP (tOT tS (kk3.1)) (tP I6 (tOne tjournal_mark)))) (fun x : journal_Journal => (x.Store, x.texts_, x.lasting_, x.last_))).is w8) (k1).1)), (129, (Bx 5 true 52 ((tMap (tP (tOb (k).1) (tP (tOT tS (k8).2) (tP I6 (tOne tjournal_mark)))) (fun x : journal_Journal => (x.Store, x.texts_, x.lasting_, x.last_))).is k9) (k8).1)), (700000, GlE 0), (700001, GlI 1), (700002, GlI 2), (700003, GlT Tryd.prog "internal/strconv.uint64pow10" .u64 Lib.pow10Tab), (700007, Gl (tA 64 (tI .u8)) 7 gv7)]
               refine W.cB hm (.t rfl) (fun hp95 hm => ?_) (fun hp95 hm => ?_)
               ·refine Aw <| Ao rfl (.assign .bool) <| WL.ns ?_
                have hr := Si hm
                clear hm
                subst hr
                exact W.ret1 () rfl (.t rfl) trivial
               ·refine W.skip <| Aq <| Aw <| WL.mv rfl rfl ?_
                obtain ⟨at0_1, hv96, hm⟩ := Bs hm
                refine WL.weakR (res' := [(129, (Bx 5 true 52 ((tMap (tP (tOb (k).1) (tP (tOT tS (k8).2) (tP I6 (tOne tjournal_mark)))) (fun x : journal_Journal => (x.Store, x.texts_, x.lasting_, x.last_))).is k9) (k8).1)), (1000129, Dec.Own tS 9 (k8).2 k9.texts_.length), (48, (Bx 5 true 46 ((tpagestore_Store_k0 k7).is w10) (k).1)), (1000048, Dec.Own tS 9 k7 w10.pages_.length), (70, Dec.Own (tI .u8) 5 k5 text.length), (1000051, Dec.Own tS 9 (kk3.1) w8.texts_.length), (51, (Bx 5 true 52 ((tMap (tP (tOb (k).1) (tP (tOT tS (kk3.1)) (tP I6 (tOne tjournal_mark)))) (fun x : journal_Journal => (x.Store, x.texts_, x.lasting_, x.last_))).is w8) (k1).1)), (700000, GlE 0), (700001, GlI 1), (700002, GlI 2), (700003, GlT Tryd.prog "internal/strconv.uint64pow10" .u64 Lib.pow10Tab), (700007, Gl (tA 64 (tI .u8)) 7 gv7)]) ⟨rfl, rfl, ⟨rfl, rfl, ⟨rfl, rfl, ⟨rfl, rfl, ⟨rfl, rfl, ⟨rfl, rfl, ⟨rfl, rfl, ⟨rfl, rfl, ⟨rfl, rfl, ⟨rfl, rfl, ⟨rfl, rfl, ⟨rfl, rfl, trivial⟩⟩⟩⟩⟩⟩⟩⟩⟩⟩⟩⟩ <| WL.opR rfl (OpR.call (us := [129, 1000129, 48, 1000048]) (A := fun kx : Unit => (Asn.tuple2 (tS.is at0_1.1) (I6.is at0_1.2))) C14 (FSpecR.keys (rin' := [(129, (Bx 5 true 52 ((tMap (tP (tOb (k).1) (tP (tOT tS (k8).2) (tP I6 (tOne tjournal_mark)))) (fun x : journal_Journal => (x.Store, x.texts_, x.lasting_, x.last_))).is k9) (k8).1)), (1000129, Dec.Own tS 9 (k8).2 k9.texts_.length), (48, (Bx 5 true 46 ((tpagestore_Store_k0 k7).is w10) (k).1)), (1000048, Dec.Own tS 9 k7 w10.pages_.length)]) (out' := fun kx : Unit => [(129, (Bx 5 true 52 ((tMap (tP (tOb (k).1) (tP (tOT tS (k8).2) (tP I6 (tOne tjournal_mark)))) (fun x : journal_Journal => (x.Store, x.texts_, x.lasting_, x.last_))).is k9) (k8).1)), (1000129, Dec.Own tS 9 (k8).2 k9.texts_.length), (48, (Bx 5 true 46 ((tpagestore_Store_k0 k7).is w10) (k).1)), (1000048, Dec.Own tS 9 k7 w10.pages_.length)]) (journal_Journal_At_spec _ _ _ _ _ _ _ _ hv96) rfl (fun _ => rfl)) rfl ⟨(.t rfl), .i64, trivial⟩) fun _ => Am rfl rfl <| Ao rfl (.extract0 (.t rfl)) <| Ao rfl (.extract1 (.t rfl)) <| Ag rfl rfl <| Ag rfl rfl <| Ar <| Am rfl rfl <| Ao rfl (.notB (.t rfl)) <| WL.mv rfl rfl ?_
                rcases iteR hm with ⟨hp98, hb97, hm⟩ | ⟨hp98, hb97, hm⟩
                ·refine Ap rfl hb97 <| Ap rfl hb97 <| Ap rfl hb97 <| Ap rfl hb97 <| Ao rfl (.pickT (.t rfl) hb97 .bool) <| Ag rfl rfl <| WL.ns ?_
                 have hr := Si hm
                 clear hm
                 subst hr
                 exact W.ret1 () rfl (.t rfl) trivial
                ·refine Ax rfl hb97 (.move (.t rfl)) <| Ax rfl hb97 (.move (.t rfl)) <| Ax rfl hb97 (.strB U32 U9 U5 (Opd.own (.t rfl))) <| Ax rfl hb97 (.eqS (.t rfl) (.t rfl)) <| Ao rfl (.pickF (.t rfl) hb97 (.t rfl)) <| Ag rfl rfl <| WL.ns ?_
                 have hr := Si hm
                 clear hm
                 subst hr
                 exact W.ret1 () rfl (.t rfl) trivial
              ·have hm := hs79
               clear hs79
               refine W.region <| Am rfl rfl <| Am rfl rfl <| Ao rfl (.neS (.t rfl) (.t rfl)) <| WL.mv rfl rfl ?_
               rcases iteB hm with ⟨hp82, hb81, hm⟩ | ⟨hp82, hb81, hm⟩
               ·refine Ap rfl hb81 <| Ap rfl hb81 <| Ap rfl hb81 <| WL.pass2 rfl rfl rfl rfl rfl rfl <| WL.pass2 rfl rfl rfl rfl rfl rfl <| WL.pass2 rfl rfl rfl rfl rfl rfl <| Ap rfl hb81 <| Ao rfl (.pickT (.t rfl) hb81 .bool) <| Am rfl rfl <| Ap rfl rfl <| Ap rfl rfl <| WL.pass2 rfl rfl rfl rfl rfl rfl <| WL.pass2 rfl rfl rfl rfl rfl rfl <| WL.pass2 rfl rfl rfl rfl rfl rfl <| Ap rfl rfl <| Ao rfl (.pickT (.t rfl) rfl .bool) ?_
                exact WL.nil <| WN.meet true (Si hm) ⟨.q rfl, .q rfl, .q rfl, .q rfl, trivial⟩ ⟨rfl, rfl, ⟨rfl, rfl, ⟨rfl, rfl, ⟨rfl, rfl, ⟨rfl, rfl, ⟨rfl, rfl, ⟨rfl, rfl, ⟨rfl, rfl, ⟨rfl, rfl, ⟨rfl, rfl, ⟨rfl, rfl, ⟨rfl, rfl, trivial⟩⟩⟩⟩⟩⟩⟩⟩⟩⟩⟩⟩
               ·refine Ax rfl hb81 (.move (.t rfl)) <| Ax rfl hb81 (.notB (.t rfl)) <| Ax rfl hb81 (.move (.t rfl)) ?_
                rcases iteR hm with ⟨hp84, hb83, hm⟩ | ⟨hp84, hb83, hm⟩
                ·refine Ax rfl hb83 (.move (.t rfl)) ?_
                 obtain ⟨len, hv85, hm⟩ := Bs hm
                 refine WL.weakR (res' := [(129, (Bx 5 true 52 ((tMap (tP (tOb (k).1) (tP (tOT tS (k8).2) (tP I6 (tOne tjournal_mark)))) (fun x : journal_Journal => (x.Store, x.texts_, x.lasting_, x.last_))).is k9) (k8).1)), (1000129, Dec.Own tS 9 (k8).2 k9.texts_.length), (48, (Bx 5 true 46 ((tpagestore_Store_k0 k7).is w10) (k).1)), (1000048, Dec.Own tS 9 k7 w10.pages_.length), (70, Dec.Own (tI .u8) 5 k5 text.length), (1000051, Dec.Own tS 9 (kk3.1) w8.texts_.length), (51, (Bx 5 true 52 ((tMap (tP (tOb (k).1) (tP (tOT tS (kk3.1)) (tP I6 (tOne tjournal_mark)))) (fun x : journal_Journal => (x.Store, x.texts_, x.lasting_, x.last_))).is w8) (k1).1)), (700000, GlE 0), (700001, GlI 1), (700002, GlI 2), (700003, GlT Tryd.prog "internal/strconv.uint64pow10" .u64 Lib.pow10Tab), (700007, Gl (tA 64 (tI .u8)) 7 gv7)]) ⟨rfl, rfl, ⟨rfl, rfl, ⟨rfl, rfl, ⟨rfl, rfl, ⟨rfl, rfl, ⟨rfl, rfl, ⟨rfl, rfl, ⟨rfl, rfl, ⟨rfl, rfl, ⟨rfl, rfl, ⟨rfl, rfl, ⟨rfl, rfl, trivial⟩⟩⟩⟩⟩⟩⟩⟩⟩⟩⟩⟩ <| WL.runR rfl rfl rfl rfl hb83 rfl rfl (OpR.call (us := [129, 1000129, 48, 1000048]) (A := fun kx : Unit => (I6.is len)) C15 (FSpecR.keys (rin' := [(129, (Bx 5 true 52 ((tMap (tP (tOb (k).1) (tP (tOT tS (k8).2) (tP I6 (tOne tjournal_mark)))) (fun x : journal_Journal => (x.Store, x.texts_, x.lasting_, x.last_))).is k9) (k8).1)), (1000129, Dec.Own tS 9 (k8).2 k9.texts_.length), (48, (Bx 5 true 46 ((tpagestore_Store_k0 k7).is w10) (k).1)), (1000048, Dec.Own tS 9 k7 w10.pages_.length)]) (out' := fun kx : Unit => [(129, (Bx 5 true 52 ((tMap (tP (tOb (k).1) (tP (tOT tS (k8).2) (tP I6 (tOne tjournal_mark)))) (fun x : journal_Journal => (x.Store, x.texts_, x.lasting_, x.last_))).is k9) (k8).1)), (1000129, Dec.Own tS 9 (k8).2 k9.texts_.length), (48, (Bx 5 true 46 ((tpagestore_Store_k0 k7).is w10) (k).1)), (1000048, Dec.Own tS 9 k7 w10.pages_.length)]) (journal_Journal_Len_spec _ _ _ _ _ _ _ hv85) rfl (fun _ => rfl)) rfl ⟨(.t rfl), trivial⟩) fun _ => Ax rfl hb83 (.neI (.t rfl) .i64) <| Ax rfl hb81 (.pickT (.t rfl) hb83 (.t rfl)) <| Ao rfl (.pickF (.t rfl) hb81 (.t rfl)) <| WL.mv rfl rfl ?_
                 rcases iteD hm with ⟨hp87, hb86, hm⟩ | ⟨hp87, hb86, hm⟩
                 ·exact Ap rfl hb86 <| Ap rfl hb86 <| WL.pass2 rfl rfl rfl rfl rfl rfl <| WL.pass2 rfl rfl rfl rfl rfl rfl <| WL.pass2 rfl rfl rfl rfl rfl rfl <| Ap rfl hb86 <| Ao rfl (.pickT (.t rfl) hb86 .bool) <| WL.nil <| WN.meet true (Si hm) ⟨.q rfl, .q rfl, .q rfl, .q rfl, trivial⟩ ⟨rfl, rfl, ⟨rfl, rfl, ⟨rfl, rfl, ⟨rfl, rfl, ⟨rfl, rfl, ⟨rfl, rfl, ⟨rfl, rfl, ⟨rfl, rfl, ⟨rfl, rfl, ⟨rfl, rfl, ⟨rfl, rfl, ⟨rfl, rfl, trivial⟩⟩⟩⟩⟩⟩⟩⟩⟩⟩⟩⟩
                 ·refine Ax rfl hb86 (.move (.t rfl)) <| Ax rfl hb86 (.move (.t rfl)) ?_
                  rcases iteB hm with ⟨hp89, hb88, hm⟩ | ⟨hp89, hb88, hm⟩
                  ·refine Ax rfl hb88 (.move (.t rfl)) ?_
                   obtain ⟨len1, hv90, hm⟩ := Bs hm
                   exact WL.weakR (res' := [(129, (Bx 5 true 52 ((tMap (tP (tOb (k).1) (tP (tOT tS (k8).2) (tP I6 (tOne tjournal_mark)))) (fun x : journal_Journal => (x.Store, x.texts_, x.lasting_, x.last_))).is k9) (k8).1)), (1000129, Dec.Own tS 9 (k8).2 k9.texts_.length), (48, (Bx 5 true 46 ((tpagestore_Store_k0 k7).is w10) (k).1)), (1000048, Dec.Own tS 9 k7 w10.pages_.length), (70, Dec.Own (tI .u8) 5 k5 text.length), (1000051, Dec.Own tS 9 (kk3.1) w8.texts_.length), (51, (Bx 5 true 52 ((tMap (tP (tOb (k).1) (tP (tOT tS (kk3.1)) (tP I6 (tOne tjournal_mark)))) (fun x : journal_Journal => (x.Store, x.texts_, x.lasting_, x.last_))).is w8) (k1).1)), (700000, GlE 0), (700001, GlI 1), (700002, GlI 2), (700003, GlT Tryd.prog "internal/strconv.uint64pow10" .u64 Lib.pow10Tab), (700007, Gl (tA 64 (tI .u8)) 7 gv7)]) ⟨rfl, rfl, ⟨rfl, rfl, ⟨rfl, rfl, ⟨rfl, rfl, ⟨rfl, rfl, ⟨rfl, rfl, ⟨rfl, rfl, ⟨rfl, rfl, ⟨rfl, rfl, ⟨rfl, rfl, ⟨rfl, rfl, ⟨rfl, rfl, trivial⟩⟩⟩⟩⟩⟩⟩⟩⟩⟩⟩⟩ <| WL.runR rfl rfl rfl rfl hb88 rfl rfl (OpR.call (us := [129, 1000129, 48, 1000048]) (A := fun kx : Unit => (I6.is len1)) C15 (FSpecR.keys (rin' := [(129, (Bx 5 true 52 ((tMap (tP (tOb (k).1) (tP (tOT tS (k8).2) (tP I6 (tOne tjournal_mark)))) (fun x : journal_Journal => (x.Store, x.texts_, x.lasting_, x.last_))).is k9) (k8).1)), (1000129, Dec.Own tS 9 (k8).2 k9.texts_.length), (48, (Bx 5 true 46 ((tpagestore_Store_k0 k7).is w10) (k).1)), (1000048, Dec.Own tS 9 k7 w10.pages_.length)]) (out' := fun kx : Unit => [(129, (Bx 5 true 52 ((tMap (tP (tOb (k).1) (tP (tOT tS (k8).2) (tP I6 (tOne tjournal_mark)))) (fun x : journal_Journal => (x.Store, x.texts_, x.lasting_, x.last_))).is k9) (k8).1)), (1000129, Dec.Own tS 9 (k8).2 k9.texts_.length), (48, (Bx 5 true 46 ((tpagestore_Store_k0 k7).is w10) (k).1)), (1000048, Dec.Own tS 9 k7 w10.pages_.length)]) (journal_Journal_Len_spec _ _ _ _ _ _ _ hv90) rfl (fun _ => rfl)) rfl ⟨(.t rfl), trivial⟩) fun _ => Ax rfl hb88 (.neI (.t rfl) .i64) <| Ax rfl hb86 (.pickT (.t rfl) hb88 (.t rfl)) <| Ao rfl (.pickF (.t rfl) hb86 (.t rfl)) <| WL.nil <| WN.meet (decide (len1 ≠ (2 : Int))) (Si hm) ⟨.q rfl, .q rfl, .q rfl, .q rfl, trivial⟩ ⟨rfl, rfl, ⟨rfl, rfl, ⟨rfl, rfl, ⟨rfl, rfl, ⟨rfl, rfl, ⟨rfl, rfl, ⟨rfl, rfl, ⟨rfl, rfl, ⟨rfl, rfl, ⟨rfl, rfl, ⟨rfl, rfl, ⟨rfl, rfl, trivial⟩⟩⟩⟩⟩⟩⟩⟩⟩⟩⟩⟩
                  ·exact Ap rfl hb88 <| Ap rfl hb88 <| Ap rfl hb88 <| Ax rfl hb86 (.pickF (.t rfl) hb88 .bool) <| Ao rfl (.pickF (.t rfl) hb86 (.t rfl)) <| WL.nil <| WN.meet false (Si hm) ⟨.q rfl, .q rfl, .q rfl, .q rfl, trivial⟩ ⟨rfl, rfl, ⟨rfl, rfl, ⟨rfl, rfl, ⟨rfl, rfl, ⟨rfl, rfl, ⟨rfl, rfl, ⟨rfl, rfl, ⟨rfl, rfl, ⟨rfl, rfl, ⟨rfl, rfl, ⟨rfl, rfl, ⟨rfl, rfl, trivial⟩⟩⟩⟩⟩⟩⟩⟩⟩⟩⟩⟩
                ·refine Ap rfl hb83 <| Ap rfl hb83 <| Ap rfl hb83 <| Ax rfl hb81 (.pickF (.t rfl) hb83 .bool) <| Ao rfl (.pickF (.t rfl) hb81 (.t rfl)) <| Am rfl rfl <| Ax rfl rfl (.move (.t rfl)) <| Ax rfl rfl (.move (.t rfl)) ?_
                 rcases iteB hm with ⟨hp92, hb91, hm⟩ | ⟨hp92, hb91, hm⟩
                 ·refine Ax rfl hb91 (.move (.t rfl)) ?_
                  obtain ⟨len2, hv93, hm⟩ := Bs hm
                  exact WL.weakR (res' := [(129, (Bx 5 true 52 ((tMap (tP (tOb (k).1) (tP (tOT tS (k8).2) (tP I6 (tOne tjournal_mark)))) (fun x : journal_Journal => (x.Store, x.texts_, x.lasting_, x.last_))).is k9) (k8).1)), (1000129, Dec.Own tS 9 (k8).2 k9.texts_.length), (48, (Bx 5 true 46 ((tpagestore_Store_k0 k7).is w10) (k).1)), (1000048, Dec.Own tS 9 k7 w10.pages_.length), (70, Dec.Own (tI .u8) 5 k5 text.length), (1000051, Dec.Own tS 9 (kk3.1) w8.texts_.length), (51, (Bx 5 true 52 ((tMap (tP (tOb (k).1) (tP (tOT tS (kk3.1)) (tP I6 (tOne tjournal_mark)))) (fun x : journal_Journal => (x.Store, x.texts_, x.lasting_, x.last_))).is w8) (k1).1)), (700000, GlE 0), (700001, GlI 1), (700002, GlI 2), (700003, GlT Tryd.prog "internal/strconv.uint64pow10" .u64 Lib.pow10Tab), (700007, Gl (tA 64 (tI .u8)) 7 gv7)]) ⟨rfl, rfl, ⟨rfl, rfl, ⟨rfl, rfl, ⟨rfl, rfl, ⟨rfl, rfl, ⟨rfl, rfl, ⟨rfl, rfl, ⟨rfl, rfl, ⟨rfl, rfl, ⟨rfl, rfl, ⟨rfl, rfl, ⟨rfl, rfl, trivial⟩⟩⟩⟩⟩⟩⟩⟩⟩⟩⟩⟩ <| WL.runR rfl rfl rfl rfl hb91 rfl rfl (OpR.call (us := [129, 1000129, 48, 1000048]) (A := fun kx : Unit => (I6.is len2)) C15 (FSpecR.keys (rin' := [(129, (Bx 5 true 52 ((tMap (tP (tOb (k).1) (tP (tOT tS (k8).2) (tP I6 (tOne tjournal_mark)))) (fun x : journal_Journal => (x.Store, x.texts_, x.lasting_, x.last_))).is k9) (k8).1)), (1000129, Dec.Own tS 9 (k8).2 k9.texts_.length), (48, (Bx 5 true 46 ((tpagestore_Store_k0 k7).is w10) (k).1)), (1000048, Dec.Own tS 9 k7 w10.pages_.length)]) (out' := fun kx : Unit => [(129, (Bx 5 true 52 ((tMap (tP (tOb (k).1) (tP (tOT tS (k8).2) (tP I6 (tOne tjournal_mark)))) (fun x : journal_Journal => (x.Store, x.texts_, x.lasting_, x.last_))).is k9) (k8).1)), (1000129, Dec.Own tS 9 (k8).2 k9.texts_.length), (48, (Bx 5 true 46 ((tpagestore_Store_k0 k7).is w10) (k).1)), (1000048, Dec.Own tS 9 k7 w10.pages_.length)]) (journal_Journal_Len_spec _ _ _ _ _ _ _ hv93) rfl (fun _ => rfl)) rfl ⟨(.t rfl), trivial⟩) fun _ => Ax rfl hb91 (.neI (.t rfl) .i64) <| Ax rfl rfl (.pickT (.t rfl) hb91 (.t rfl)) <| Ao rfl (.pickF (.t rfl) rfl (.t rfl)) <| WL.nil <| WN.meet (decide (len2 ≠ (2 : Int))) (Si hm) ⟨.q rfl, .q rfl, .q rfl, .q rfl, trivial⟩ ⟨rfl, rfl, ⟨rfl, rfl, ⟨rfl, rfl, ⟨rfl, rfl, ⟨rfl, rfl, ⟨rfl, rfl, ⟨rfl, rfl, ⟨rfl, rfl, ⟨rfl, rfl, ⟨rfl, rfl, ⟨rfl, rfl, ⟨rfl, rfl, trivial⟩⟩⟩⟩⟩⟩⟩⟩⟩⟩⟩⟩
                 ·exact Ap rfl hb91 <| Ap rfl hb91 <| Ap rfl hb91 <| Ax rfl rfl (.pickF (.t rfl) hb91 .bool) <| Ao rfl (.pickF (.t rfl) rfl (.t rfl)) <| WL.nil <| WN.meet false (Si hm) ⟨.q rfl, .q rfl, .q rfl, .q rfl, trivial⟩ ⟨rfl, rfl, ⟨rfl, rfl, ⟨rfl, rfl, ⟨rfl, rfl, ⟨rfl, rfl, ⟨rfl, rfl, ⟨rfl, rfl, ⟨rfl, rfl, ⟨rfl, rfl, ⟨rfl, rfl, ⟨rfl, rfl, ⟨rfl, rfl, trivial⟩⟩⟩⟩⟩⟩⟩⟩⟩⟩⟩⟩
            ·have hm := hs70
             clear hs70
             refine W.region <| Am rfl rfl <| Ao rfl (.neI (.t rfl) .i64) <| WL.mv rfl rfl ?_
             rcases iteD hm with ⟨hp73, hb72, hm⟩ | ⟨hp73, hb72, hm⟩
             ·exact Ap rfl hb72 <| Ap rfl hb72 <| Ao rfl (.pickT (.t rfl) hb72 .bool) <| WL.nil <| WN.meet true (Si hm) ⟨.q rfl, .q rfl, .q rfl, .q rfl, .q rfl, trivial⟩ ⟨rfl, rfl, ⟨rfl, rfl, ⟨rfl, rfl, ⟨rfl, rfl, ⟨rfl, rfl, ⟨rfl, rfl, ⟨rfl, rfl, ⟨rfl, rfl, ⟨rfl, rfl, ⟨rfl, rfl, ⟨rfl, rfl, trivial⟩⟩⟩⟩⟩⟩⟩⟩⟩⟩⟩
             ·exact Ax rfl hb72 (.move (.t rfl)) <| Ax rfl hb72 (.eqNilO U25 (.t rfl)) <| Ao rfl (.pickF (.t rfl) hb72 (.t rfl)) <| WL.nil <| WN.meet open0_1.1.isNone (Si hm) ⟨.q rfl, .q rfl, .q rfl, .q rfl, .q rfl, trivial⟩ ⟨rfl, rfl, ⟨rfl, rfl, ⟨rfl, rfl, ⟨rfl, rfl, ⟨rfl, rfl, ⟨rfl, rfl, ⟨rfl, rfl, ⟨rfl, rfl, ⟨rfl, rfl, ⟨rfl, rfl, ⟨rfl, rfl, trivial⟩⟩⟩⟩⟩⟩⟩⟩⟩⟩⟩
          ·have hm := hs53
           clear hs53
           refine W.region <| Am rfl rfl <| Ao rfl (.eqI (.t rfl) .i64) <| Am rfl rfl <| Ao rfl (.ltI (.t rfl) .i64) <| WL.mv rfl rfl ?_
           rcases iteD hm with ⟨hp56, hb55, hm⟩ | ⟨hp56, hb55, hm⟩
           ·refine Ap rfl hb55 <| Ap rfl hb55 <| Ap rfl hb55 <| Ao rfl (.pickT (.t rfl) hb55 .bool) <| Ao rfl (.neB U4 (.t rfl) (.t rfl)) <| WL.mv rfl rfl ?_
            rcases iteB hm with ⟨hp58, hb57, hm⟩ | ⟨hp58, hb57, hm⟩
            ·exact Ap rfl hb57 <| Ap rfl hb57 <| Ap rfl hb57 <| WL.pass2 rfl rfl rfl rfl rfl rfl <| WL.pass2 rfl rfl rfl rfl rfl rfl <| WL.pass2 rfl rfl rfl rfl rfl rfl <| WL.pass2 rfl rfl rfl rfl rfl rfl <| Ap rfl hb57 <| Ao rfl (.pickT (.t rfl) hb57 .bool) <| WL.nil <| WN.meet true (Si hm) ⟨.q rfl, .q rfl, .q rfl, .q rfl, .q rfl, .q rfl, trivial⟩ ⟨rfl, rfl, ⟨rfl, rfl, ⟨rfl, rfl, ⟨rfl, rfl, ⟨rfl, rfl, ⟨rfl, rfl, ⟨rfl, rfl, ⟨rfl, rfl, ⟨rfl, rfl, ⟨rfl, rfl, trivial⟩⟩⟩⟩⟩⟩⟩⟩⟩⟩
            ·refine Ax rfl hb57 (.move (.t rfl)) <| Ax rfl hb57 (.eqI (.t rfl) .i64) <| Ax rfl hb57 (.move (.t rfl)) ?_
             rcases iteD hm with ⟨hp60, hb59, hm⟩ | ⟨hp60, hb59, hm⟩
             ·exact Ax rfl hb59 (.move (.t rfl)) <| Ax rfl hb59 (.eqI (.t rfl) .i64) <| Ax rfl hb59 (.move (.t rfl)) <| Ax rfl hb59 (.neB U4 (.t rfl) (.t rfl)) <| Ax rfl hb57 (.pickT (.t rfl) hb59 (.t rfl)) <| Ao rfl (.pickF (.t rfl) hb57 (.t rfl)) <| WL.nil <| WN.meet ((decide (commit1 = (0 : Int))) != done) (Si hm) ⟨.q rfl, .q rfl, .q rfl, .q rfl, .q rfl, .q rfl, trivial⟩ ⟨rfl, rfl, ⟨rfl, rfl, ⟨rfl, rfl, ⟨rfl, rfl, ⟨rfl, rfl, ⟨rfl, rfl, ⟨rfl, rfl, ⟨rfl, rfl, ⟨rfl, rfl, ⟨rfl, rfl, trivial⟩⟩⟩⟩⟩⟩⟩⟩⟩⟩
             ·exact Ap rfl hb59 <| Ap rfl hb59 <| Ap rfl hb59 <| Ap rfl hb59 <| Ax rfl hb57 (.pickF (.t rfl) hb59 .bool) <| Ao rfl (.pickF (.t rfl) hb57 (.t rfl)) <| WL.nil <| WN.meet false (Si hm) ⟨.q rfl, .q rfl, .q rfl, .q rfl, .q rfl, .q rfl, trivial⟩ ⟨rfl, rfl, ⟨rfl, rfl, ⟨rfl, rfl, ⟨rfl, rfl, ⟨rfl, rfl, ⟨rfl, rfl, ⟨rfl, rfl, ⟨rfl, rfl, ⟨rfl, rfl, ⟨rfl, rfl, trivial⟩⟩⟩⟩⟩⟩⟩⟩⟩⟩
           ·refine Ax rfl hb55 (.move (.t rfl)) <| Ax rfl hb55 (.move (.t rfl)) <| Ax rfl hb55 (.geI (.t rfl) (.t rfl)) <| Ao rfl (.pickF (.t rfl) hb55 (.t rfl)) <| Ao rfl (.neB U4 (.t rfl) (.t rfl)) <| WL.mv rfl rfl ?_
            rcases iteB hm with ⟨hp62, hb61, hm⟩ | ⟨hp62, hb61, hm⟩
            ·exact Ap rfl hb61 <| Ap rfl hb61 <| Ap rfl hb61 <| WL.pass2 rfl rfl rfl rfl rfl rfl <| WL.pass2 rfl rfl rfl rfl rfl rfl <| WL.pass2 rfl rfl rfl rfl rfl rfl <| WL.pass2 rfl rfl rfl rfl rfl rfl <| Ap rfl hb61 <| Ao rfl (.pickT (.t rfl) hb61 .bool) <| WL.nil <| WN.meet true (Si hm) ⟨.q rfl, .q rfl, .q rfl, .q rfl, .q rfl, .q rfl, trivial⟩ ⟨rfl, rfl, ⟨rfl, rfl, ⟨rfl, rfl, ⟨rfl, rfl, ⟨rfl, rfl, ⟨rfl, rfl, ⟨rfl, rfl, ⟨rfl, rfl, ⟨rfl, rfl, ⟨rfl, rfl, trivial⟩⟩⟩⟩⟩⟩⟩⟩⟩⟩
            ·refine Ax rfl hb61 (.move (.t rfl)) <| Ax rfl hb61 (.eqI (.t rfl) .i64) <| Ax rfl hb61 (.move (.t rfl)) ?_
             rcases iteD hm with ⟨hp64, hb63, hm⟩ | ⟨hp64, hb63, hm⟩
             ·exact Ax rfl hb63 (.move (.t rfl)) <| Ax rfl hb63 (.eqI (.t rfl) .i64) <| Ax rfl hb63 (.move (.t rfl)) <| Ax rfl hb63 (.neB U4 (.t rfl) (.t rfl)) <| Ax rfl hb61 (.pickT (.t rfl) hb63 (.t rfl)) <| Ao rfl (.pickF (.t rfl) hb61 (.t rfl)) <| WL.nil <| WN.meet ((decide (commit1 = (0 : Int))) != done) (Si hm) ⟨.q rfl, .q rfl, .q rfl, .q rfl, .q rfl, .q rfl, trivial⟩ ⟨rfl, rfl, ⟨rfl, rfl, ⟨rfl, rfl, ⟨rfl, rfl, ⟨rfl, rfl, ⟨rfl, rfl, ⟨rfl, rfl, ⟨rfl, rfl, ⟨rfl, rfl, ⟨rfl, rfl, trivial⟩⟩⟩⟩⟩⟩⟩⟩⟩⟩
             ·exact Ap rfl hb63 <| Ap rfl hb63 <| Ap rfl hb63 <| Ap rfl hb63 <| Ax rfl hb61 (.pickF (.t rfl) hb63 .bool) <| Ao rfl (.pickF (.t rfl) hb61 (.t rfl)) <| WL.nil <| WN.meet false (Si hm) ⟨.q rfl, .q rfl, .q rfl, .q rfl, .q rfl, .q rfl, trivial⟩ ⟨rfl, rfl, ⟨rfl, rfl, ⟨rfl, rfl, ⟨rfl, rfl, ⟨rfl, rfl, ⟨rfl, rfl, ⟨rfl, rfl, ⟨rfl, rfl, ⟨rfl, rfl, ⟨rfl, rfl, trivial⟩⟩⟩⟩⟩⟩⟩⟩⟩⟩
         ·have hm := hs48
          clear hs48
          refine W.region <| Am rfl rfl <| Ao rfl (.ltI (.t rfl) .i64) <| WL.mv rfl rfl ?_
          rcases iteD hm with ⟨hp51, hb50, hm⟩ | ⟨hp51, hb50, hm⟩
          ·exact Ap rfl hb50 <| Ap rfl hb50 <| Ap rfl hb50 <| Ao rfl (.pickT (.t rfl) hb50 .bool) <| Ag rfl rfl <| WL.nil <| WN.meet true (Si hm) ⟨.q rfl, .q rfl, .q rfl, .q rfl, .q rfl, .q rfl, .q rfl, .q rfl, trivial⟩ ⟨rfl, rfl, ⟨rfl, rfl, ⟨rfl, rfl, ⟨rfl, rfl, ⟨rfl, rfl, ⟨rfl, rfl, ⟨rfl, rfl, ⟨rfl, rfl, ⟨rfl, rfl, ⟨rfl, rfl, trivial⟩⟩⟩⟩⟩⟩⟩⟩⟩⟩
          ·exact Ax rfl hb50 (.move (.t rfl)) <| Ax rfl hb50 (.move (.t rfl)) <| Ax rfl hb50 (.gtI (.t rfl) (.t rfl)) <| Ao rfl (.pickF (.t rfl) hb50 (.t rfl)) <| Ag rfl rfl <| WL.nil <| WN.meet (decide ((cut.length : Int) < fuse)) (Si hm) ⟨.q rfl, .q rfl, .q rfl, .q rfl, .q rfl, .q rfl, .q rfl, .q rfl, trivial⟩ ⟨rfl, rfl, ⟨rfl, rfl, ⟨rfl, rfl, ⟨rfl, rfl, ⟨rfl, rfl, ⟨rfl, rfl, ⟨rfl, rfl, ⟨rfl, rfl, ⟨rfl, rfl, ⟨rfl, rfl, trivial⟩⟩⟩⟩⟩⟩⟩⟩⟩⟩
     ·have hm := hs25
      clear hs25
      refine W.region <| Am rfl rfl <| Ao rfl (.neI (.t rfl) .i64) <| WL.mv rfl rfl ?_
      rcases iteD hm with ⟨hp28, hb27, hm⟩ | ⟨hp28, hb27, hm⟩
      ·exact Ap rfl hb27 <| Ap rfl hb27 <| Ap rfl hb27 <| Ao rfl (.pickT (.t rfl) hb27 .bool) <| WL.nil <| WN.meet ((true, w1, w), ((kk.2), (kk.1))) (Si hm) ⟨.q rfl, .q rfl, .q rfl, .q rfl, .q rfl, .q rfl, .q rfl, trivial⟩ ⟨rfl, rfl, ⟨rfl, rfl, ⟨rfl, rfl, ⟨rfl, rfl, ⟨rfl, rfl, ⟨rfl, rfl, ⟨rfl, rfl, ⟨rfl, rfl, ⟨rfl, rfl, trivial⟩⟩⟩⟩⟩⟩⟩⟩⟩
      ·refine Ax rfl hb27 (.move (.t rfl)) ?_
       obtain ⟨⟨commit, w2, w3⟩, hv29, hm⟩ := Bs hm
       dsimp only at hm
       exact WL.weakR (res' := [(51, (Bx 5 true 52 ((tMap (tP (tOb (k).1) (tP (tOT tS (kk.1)) (tP I6 (tOne tjournal_mark)))) (fun x : journal_Journal => (x.Store, x.texts_, x.lasting_, x.last_))).is w) (k1).1)), (1000051, Dec.Own tS 9 (kk.1) w.texts_.length), (48, (Bx 5 true 46 ((tpagestore_Store_k0 (kk.2)).is w1) (k).1)), (1000048, Dec.Own tS 9 (kk.2) w1.pages_.length), (700000, GlE 0), (700001, GlI 1), (700002, GlI 2), (700003, GlT Tryd.prog "internal/strconv.uint64pow10" .u64 Lib.pow10Tab), (700007, Gl (tA 64 (tI .u8)) 7 gv7)]) ⟨rfl, rfl, ⟨rfl, rfl, ⟨rfl, rfl, ⟨rfl, rfl, ⟨rfl, rfl, ⟨rfl, rfl, ⟨rfl, rfl, ⟨rfl, rfl, ⟨rfl, rfl, trivial⟩⟩⟩⟩⟩⟩⟩⟩⟩ <| WL.runR rfl rfl rfl rfl hb27 rfl rfl (OpR.call (us := [51, 1000051, 48, 1000048]) (A := fun kx : (Tok) × (Tok) => (I6.is commit)) C10 (FSpecR.keys (rin' := [(51, (Bx 5 true 52 ((tMap (tP (tOb (k).1) (tP (tOT tS (kk.1)) (tP I6 (tOne tjournal_mark)))) (fun x : journal_Journal => (x.Store, x.texts_, x.lasting_, x.last_))).is w) (k1).1)), (1000051, Dec.Own tS 9 (kk.1) w.texts_.length), (48, (Bx 5 true 46 ((tpagestore_Store_k0 (kk.2)).is w1) (k).1)), (1000048, Dec.Own tS 9 (kk.2) w1.pages_.length)]) (out' := fun kx : (Tok) × (Tok) => [(51, (Bx 5 true 52 ((tMap (tP (tOb (k).1) (tP (tOT tS (kx.1)) (tP I6 (tOne tjournal_mark)))) (fun x : journal_Journal => (x.Store, x.texts_, x.lasting_, x.last_))).is w2) (k1).1)), (1000051, Dec.Own tS 9 (kx.1) w2.texts_.length), (48, (Bx 5 true 46 ((tpagestore_Store_k0 (kx.2)).is w3) (k).1)), (1000048, Dec.Own tS 9 (kx.2) w3.pages_.length)]) (journal_Journal_Commit_spec _ _ _ _ _ _ _ hv29) rfl (fun _ => rfl)) rfl ⟨(.t rfl), trivial⟩) fun kk1 => Ax rfl hb27 (.neI (.t rfl) .i64) <| Ao rfl (.pickF (.t rfl) hb27 (.t rfl)) <| WL.nil <| WN.meet ((decide (commit ≠ (0 : Int)), w3, w2), ((kk1.2), (kk1.1))) (Si hm) ⟨.q rfl, .q rfl, .q rfl, .q rfl, .q rfl, .q rfl, .q rfl, trivial⟩ ⟨rfl, rfl, ⟨rfl, rfl, ⟨rfl, rfl, ⟨rfl, rfl, ⟨rfl, rfl, ⟨rfl, rfl, ⟨rfl, rfl, ⟨rfl, rfl, ⟨rfl, rfl, trivial⟩⟩⟩⟩⟩⟩⟩⟩⟩
  ·have hm := hs5
   clear hs5
   refine W.region <| Am rfl rfl <| Ao rfl (.lenS U9 (.t rfl)) <| Ao rfl (.gtI (.t rfl) .i64) <| WL.mv rfl rfl ?_
   rcases iteD hm with ⟨hp8, hb7, hm⟩ | ⟨hp8, hb7, hm⟩
   ·refine Ap rfl hb7 <| Ap rfl hb7 <| Ao rfl (.pickT (.t rfl) hb7 .bool) <| Am rfl rfl <| Ap rfl rfl <| Ap rfl rfl <| Ao rfl (.pickT (.t rfl) rfl .bool) <| Am rfl rfl <| Ap rfl rfl <| Ap rfl rfl <| Ao rfl (.pickT (.t rfl) rfl .bool) <| Am rfl rfl <| Ap rfl rfl <| Ap rfl rfl <| Ao rfl (.pickT (.t rfl) rfl .bool) <| WL.nil ?_
    exact WN.meet true (Si hm) ⟨.q rfl, .q rfl, .q rfl, .q rfl, .q rfl, trivial⟩ ⟨rfl, rfl, ⟨rfl, rfl, ⟨rfl, rfl, ⟨rfl, rfl, ⟨rfl, rfl, trivial⟩⟩⟩⟩⟩
   ·refine Ax rfl hb7 (.move (.t rfl)) <| Ax rfl hb7 (.ltI (.t rfl) .i64) <| Ao rfl (.pickF (.t rfl) hb7 (.t rfl)) <| WL.mv rfl rfl ?_
    rcases iteD hm with ⟨hp10, hb9, hm⟩ | ⟨hp10, hb9, hm⟩
    ·exact Ap rfl hb9 <| Ap rfl hb9 <| Ao rfl (.pickT (.t rfl) hb9 .bool) <| Am rfl rfl <| Ap rfl rfl <| Ap rfl rfl <| Ao rfl (.pickT (.t rfl) rfl .bool) <| Am rfl rfl <| Ap rfl rfl <| Ap rfl rfl <| Ao rfl (.pickT (.t rfl) rfl .bool) <| WL.nil <| WN.meet true (Si hm) ⟨.q rfl, .q rfl, .q rfl, .q rfl, .q rfl, trivial⟩ ⟨rfl, rfl, ⟨rfl, rfl, ⟨rfl, rfl, ⟨rfl, rfl, ⟨rfl, rfl, trivial⟩⟩⟩⟩⟩
    ·refine Ax rfl hb9 (.move (.t rfl)) <| Ax rfl hb9 (.gtI (.t rfl) .i64) <| Ao rfl (.pickF (.t rfl) hb9 (.t rfl)) <| WL.mv rfl rfl ?_
     rcases iteD hm with ⟨hp12, hb11, hm⟩ | ⟨hp12, hb11, hm⟩
     ·exact Ap rfl hb11 <| Ap rfl hb11 <| Ao rfl (.pickT (.t rfl) hb11 .bool) <| Am rfl rfl <| Ap rfl rfl <| Ap rfl rfl <| Ao rfl (.pickT (.t rfl) rfl .bool) <| WL.nil <| WN.meet true (Si hm) ⟨.q rfl, .q rfl, .q rfl, .q rfl, .q rfl, trivial⟩ ⟨rfl, rfl, ⟨rfl, rfl, ⟨rfl, rfl, ⟨rfl, rfl, ⟨rfl, rfl, trivial⟩⟩⟩⟩⟩
     ·refine Ax rfl hb11 (.move (.t rfl)) <| Ax rfl hb11 (.ltI (.t rfl) .i64) <| Ao rfl (.pickF (.t rfl) hb11 (.t rfl)) <| WL.mv rfl rfl ?_
      rcases iteD hm with ⟨hp14, hb13, hm⟩ | ⟨hp14, hb13, hm⟩
      ·exact Ap rfl hb13 <| Ap rfl hb13 <| Ao rfl (.pickT (.t rfl) hb13 .bool) <| WL.nil <| WN.meet true (Si hm) ⟨.q rfl, .q rfl, .q rfl, .q rfl, .q rfl, trivial⟩ ⟨rfl, rfl, ⟨rfl, rfl, ⟨rfl, rfl, ⟨rfl, rfl, ⟨rfl, rfl, trivial⟩⟩⟩⟩⟩
      ·exact Ax rfl hb13 (.move (.t rfl)) <| Ax rfl hb13 (.gtI (.t rfl) .i64) <| Ao rfl (.pickF (.t rfl) hb13 (.t rfl)) <| WL.nil <| WN.meet (decide ((20 : Int) < fuse)) (Si hm) ⟨.q rfl, .q rfl, .q rfl, .q rfl, .q rfl, trivial⟩ ⟨rfl, rfl, ⟨rfl, rfl, ⟨rfl, rfl, ⟨rfl, rfl, ⟨rfl, rfl, trivial⟩⟩⟩⟩⟩
theorem law14_short_spec (n : Nat) (l : List Str) (r : Bool) (hm : M.law14_short n l = some r) : FSpec Tryd.prog 16 [((tL tS).is l)] (tB.is r) := by
 unfold M.law14_short at hm
 refine FSpec.of Tryd.func16 rfl rfl rfl fun g0 => Aw <| Ao rfl (.assign .bool) <| An <| W.seq <| Aw <| Ao rfl (.assign .i64) <| An <| W.block ?_
 obtain ⟨s1, hs2, hk3⟩ := Bs hm
 clear hm
 refine W.loop (fun m (s : Int) => M.law14_short_loop1 l m s = some s1) (fun s => [(3, (I6.is s)), (0, ((tL tS).is l))]) (fun s => []) _ (0 : Int) hs2 ⟨.q rfl, .q rfl, trivial⟩ trivial ?_
 rintro n4 i hm
 try dsimp only at hm
 change W _ _ _ _ _ _ _ [(3, (I6.is i)), (0, ((tL tS).is l))] []
 cases n4 with
 | zero => rw [M.law14_short_loop1.eq_1] at hm; cases hm
 | succ n4 =>
  rw [M.law14_short_loop1.eq_2] at hm
  refine W.seq <| Aw <| Am rfl rfl <| Am rfl rfl <| Ao rfl (.lenL U34 (.t rfl)) <| Ao rfl (.ltI (.t rfl) (.t rfl)) <| An <| W.cD hm (.t rfl) (fun hp6 hm => ?_) (fun hp6 hm => ?_)
  ·refine W.skip <| Aq <| W.seq <| W.block <| Aw <| Am rfl rfl <| WL.mv rfl rfl ?_
   obtain ⟨v, hv7, hm⟩ := Bs hm
   refine Ao rfl (.idx hv7 U34 Z9 (.t rfl) (.t rfl)) <| Ao rfl (.load ty9 (.t rfl)) <| Ao rfl (.lenS U9 (.t rfl)) <| Ao rfl (.gtI (.t rfl) .i64) <| An <| W.cD hm (.t rfl) (fun hp9 hm => ?_) (fun hp9 hm => ?_)
   ·refine Aw <| Ao rfl (.assign .bool) <| WL.ns ?_
    have hr10 := Si hm
    clear hm
    subst hr10
    have hm := hk3
    try dsimp only at hm
    have hr := Si hm
    clear hm
    subst hr
    exact W.ret1 () rfl (.t rfl) trivial
   ·exact W.skip <| WN.block <| Aq <| W.region <| Am rfl rfl <| WL.lenL (s := 0) (.t rfl) fun hl11 => Ao rfl (.addI1 (.t rfl) .i64 hp6 hl11) <| Ag rfl rfl <| WL.nil <| WN.again n4 (i + 1) (Nat.lt_succ_self n4) hm ⟨.q rfl, .q rfl, trivial⟩ trivial
  ·refine W.exit rfl ?_
   have hr12 := Si hm
   clear hm
   subst hr12
   have hm := hk3
   try dsimp only at hm
   refine Aq <| Aw <| Am rfl rfl <| Ao rfl (.lenL U34 (.t rfl)) <| Ao rfl (.leI (.t rfl) .i64) <| Ag rfl rfl <| WL.ns ?_
   have hr := Si hm
   clear hm
   subst hr
   exact W.ret1 () rfl (.t rfl) trivial
theorem journal_Journal_All_spec (j : journal_Journal) (st : pagestore_Store) (b : Nat) (k : Tok) (b1 : Nat) (k1 : Tok) (r : List Str) (hm : M.journal_Journal_All j st = some r) : FSpecR Tryd.prog 18 [(Bp b 0)] [(0, (Bx 5 true 52 ((tMap (tP (tOb b1) (tP (tOT tS k) (tP I6 (tOne tjournal_mark)))) (fun x : journal_Journal => (x.Store, x.texts_, x.lasting_, x.last_))).is j) b)), (1000000, Dec.Own tS 9 k j.texts_.length), (400000, (Bx 5 true 46 ((tpagestore_Store_k0 k1).is st) b1)), (1400000, Dec.Own tS 9 k1 st.pages_.length)] (fun kx : Unit => ((tL tS).is r)) (fun kx : Unit => [(0, (Bx 5 true 52 ((tMap (tP (tOb b1) (tP (tOT tS k) (tP I6 (tOne tjournal_mark)))) (fun x : journal_Journal => (x.Store, x.texts_, x.lasting_, x.last_))).is j) b)), (1000000, Dec.Own tS 9 k j.texts_.length), (400000, (Bx 5 true 46 ((tpagestore_Store_k0 k1).is st) b1)), (1400000, Dec.Own tS 9 k1 st.pages_.length)]) := by
 unfold M.journal_Journal_All at hm
 refine FSpecR.of Tryd.func18 rfl rfl rfl fun g0 => Aw <| Ao rfl (.assign (.nil (t := tS))) <| Ar <| Am rfl rfl <| Ao rfl (.nilCheckB (.t rfl)) <| Ao rfl (.fieldAddrB (o := 0) Tryd.underlying52 rfl J34 (.t rfl) rfl) <| Ao rfl (.ofOT (Op1.loadBF (s := (tMap (tP (tOb b1) (tP (tOT tS k) (tP I6 (tOne tjournal_mark)))) (fun x : journal_Journal => (x.Store, x.texts_, x.lasting_, x.last_)))) (t := (tOT tS k)) (f := fun x : journal_Journal => x.texts_) (u := j) 0 rfl ⟨ty34.agg, ty34.size⟩ ((Fld.map (m := (fun x : journal_Journal => (x.Store, x.texts_, x.lasting_, x.last_))) (Fld.next (s := (tOb b1)) (Fld.here (tOT tS k) (tP I6 (tOne tjournal_mark))))).cast rfl rfl) rfl (.t rfl))) ?_
 obtain ⟨string, hv1, hm⟩ := Bs hm
 refine Ao rfl (.call C28 ((slices_Clone_string_string_spec _ _ hv1).read fun _ _ _ => tO_tL) ⟨(Opd.own (.t rfl)), trivial⟩) <| Ag rfl rfl <| WL.ns ?_
 have hr := Si hm
 clear hm
 subst hr
 exact W.ret1 () rfl (.t rfl) ⟨rfl, rfl, ⟨rfl, rfl, ⟨rfl, rfl, ⟨rfl, rfl, trivial⟩⟩⟩⟩
theorem r14_Texts_spec (n : Nat) (a : List Str) (b : List Str) (r : Bool) (hm : M.r14_Texts n a b = some r) : FSpec Tryd.prog 17 [((tL tS).is a), ((tL tS).is b)] (tB.is r) := by
 unfold M.r14_Texts at hm
 refine FSpec.of Tryd.func17 rfl rfl rfl fun g0 => Aw <| Ao rfl (.assign .bool) <| An <| W.seq <| Aw <| Am rfl rfl <| Ao rfl (.lenL U34 (.t rfl)) <| Am rfl rfl <| Ao rfl (.lenL U34 (.t rfl)) <| Ao rfl (.neI (.t rfl) (.t rfl)) <| An <| W.cD hm (.t rfl) (fun hp2 hm => ?_) (fun hp2 hm => ?_)
 ·refine Aw <| Ao rfl (.assign .bool) <| WL.ns ?_
  have hr := Si hm
  clear hm
  subst hr
  exact W.ret1 () rfl (.t rfl) trivial
 ·refine W.skip <| Aq <| W.seq <| Aw <| Ao rfl (.assign .i64) <| An <| W.block ?_
  obtain ⟨s3, hs4, hk5⟩ := Bs hm
  clear hm
  refine W.loop (fun m (s : Int) => M.r14_Texts_loop1 a b m s = some s3) (fun s => [(5, (I6.is s)), (0, ((tL tS).is a)), (1, ((tL tS).is b))]) (fun s => []) _ (0 : Int) hs4 ⟨.q rfl, .q rfl, .q rfl, trivial⟩ trivial ?_
  rintro n6 i hm
  try dsimp only at hm
  change W _ _ _ _ _ _ _ [(5, (I6.is i)), (0, ((tL tS).is a)), (1, ((tL tS).is b))] []
  cases n6 with
  | zero => rw [M.r14_Texts_loop1.eq_1] at hm; cases hm
  | succ n6 =>
   rw [M.r14_Texts_loop1.eq_2] at hm
   refine W.seq <| Aw <| Am rfl rfl <| Am rfl rfl <| Ao rfl (.lenL U34 (.t rfl)) <| Ao rfl (.ltI (.t rfl) (.t rfl)) <| An <| W.cD hm (.t rfl) (fun hp8 hm => ?_) (fun hp8 hm => ?_)
   ·refine W.skip <| Aq <| W.seq <| W.block <| W.seq ?_
    obtain ⟨v, hv9, hm⟩ := Bs hm
    obtain ⟨v1, hv10, hm⟩ := Bs hm
    refine W.draw [.c _, .c _, .c _, .c _, .c _, .c _, .c _, .c _, .c _] [([], [0]), ([], [5]), ([0, 1], []), ([2], []), ([], [1]), ([], [5]), ([4, 5], []), ([6], []), ([3, 7], [])] Mx rfl rfl rfl rfl ⟨Dn (.move (.t rfl)), Dn (.move (.t rfl)), Dn (.idx hv9 U34 Z9 (.t rfl) (.t rfl)), Dn (.load ty9 (.t rfl)), Dn (.move (.t rfl)), Dn (.move (.t rfl)), Dn (.idx hv10 U34 Z9 (.t rfl) (.t rfl)), Dn (.load ty9 (.t rfl)), Dn (.neS (.t rfl) (.t rfl)), trivial⟩ <| Aq <| W.cB hm (.t rfl) (fun hp12 hm => ?_) (fun hp12 hm => ?_)
    ·refine Aw <| Ao rfl (.assign .bool) <| WL.ns ?_
     have hr13 := Si hm
     clear hm
     subst hr13
     have hm := hk5
     try dsimp only at hm
     have hr := Si hm
     clear hm
     subst hr
     exact W.ret1 () rfl (.t rfl) trivial
    ·exact W.skip <| WN.block <| Aq <| W.region <| Am rfl rfl <| WL.lenL (s := 0) (.t rfl) fun hl14 => Ao rfl (.addI1 (.t rfl) .i64 hp8 hl14) <| Ag rfl rfl <| WL.nil <| WN.again n6 (i + 1) (Nat.lt_succ_self n6) hm ⟨.q rfl, .q rfl, .q rfl, trivial⟩ trivial
   ·refine W.exit rfl ?_
    have hr15 := Si hm
    clear hm
    subst hr15
    have hm := hk5
    try dsimp only at hm
    refine Aq <| Aw <| Ao rfl (.assign .bool) <| WL.ns ?_
    have hr := Si hm
    clear hm
    subst hr
    exact W.ret1 () rfl (.t rfl) trivial
end Go.Proofs.YtkobngongonplaaDoor
