/-
  The code does what the models say: written by program.
-/
import Derived.Test.YtkobngongonplaaGreatDoorWa
set_option linter.unusedVariables false
set_option linter.unusedSimpArgs false
namespace Go.Proofs.YtkobngongonplaaGreatDoor
open Go Go.Dec
set_option maxRecDepth 100000
set_option maxHeartbeats 4000000
theorem pagestore_Store_Crash_spec (s0_ : pagestore_Store) (keep : Int) (b : Nat) (k : Tok) (r : pagestore_Store) (hm : M.pagestore_Store_Crash s0_ keep = some r) : FSpecR Tryz.prog 18 [(Bp b 0), (I6.is keep)] [(0, (Bx 5 true 56 ((tpagestore_Store_k0 k).is s0_) b)), (1000000, Dec.Own tS 9 k s0_.pages_.length)] (fun kx : Tok => (Asn.eq (.tuple #[]))) (fun kx : Tok => [(0, (Bx 5 true 56 ((tpagestore_Store_k0 kx).is r) b)), (1000000, Dec.Own tS 9 kx r.pages_.length)]) := by
 unfold M.pagestore_Store_Crash at hm
 refine FSpecR.of Tryz.func18 rfl rfl rfl fun g0 => W.seq ?_
 obtain ⟨v, hv1, hm⟩ := Bs hm
 refine W.draw [.c _, .c _, .c _, .c _, .c _, .c _, .c _, .c _, .c _, .c _, .c _, .c _, .c _, .c _] [([], [1]), ([0], []), ([], [0]), ([2], []), ([3], []), ([4], []), ([5], []), ([], [0]), ([7], []), ([8], []), ([9], []), ([6, 10], []), ([1, 11], []), ([12], [])] Mx rfl rfl rfl rfl ⟨Dn (.move (.t rfl)), Dn (.maxI (.t rfl) .i64), Dn (.move (.t rfl)), Dn (.nilCheckB (.t rfl)), Dn (.fieldAddrB (o := 0) Tryz.underlying56 rfl J26 (.t rfl) rfl), Dn (.ofOT (Op1.loadBF (t := (tOT tS k)) (f := fun x : pagestore_Store => x.pages_) (u := s0_) 0 rfl ⟨ty26.agg, ty26.size⟩ (fpagestore_Store_k0_0 k) rfl (.t rfl))), Dn (.lenL U26 (Opd.own (.t rfl))), Dn (.move (.t rfl)), Dn (.nilCheckB (.t rfl)), Dn (.fieldAddrB (o := 0) Tryz.underlying56 rfl J3 (.t rfl) rfl), Dn (.loadBF 0 rfl ty3 (fpagestore_Store_k0_1 k) rfl (.t rfl)), Dn (.subC hv1 (.t rfl) (.t rfl)), Dn (.minI (.t rfl) (.t rfl)), Dn (.assign (.t rfl)), trivial⟩ <| Aq <| W.seq ?_
 obtain ⟨v1, hv2, hm⟩ := Bs hm
 obtain ⟨v2, hv3, hm⟩ := Bs hm
 obtain ⟨string, hv4, hm⟩ := Bs hm
 refine W.weakR (res' := [(1000000, Dec.Own tS 9 k s0_.pages_.length), (0, (Bx 5 true 56 ((tpagestore_Store_k0 k).is s0_) b))]) ⟨rfl, rfl, ⟨rfl, rfl, trivial⟩⟩ <| W.drawM [.c (Bp b 0), .c (Bp b 0), .c (Bp b 0), .c (Bp b 0), .c (tO tS k s0_.pages_), .c (Bp b 0), .c (Bp b 0), .c (Bp b 1), .c (I6.is s0_.lasting_), .c (I6.is (min (max keep (0 : Int)) v)), .c (I6.is v1), .c ((tL tS).is v2), .f (fun cv => (tO tS (cv 0) string)), .c (Bp b 0), .c (Bp b 0), .c Asn.any] [([], [0]), ([], [0]), ([1], []), ([2], []), ([3], []), ([], [0]), ([5], []), ([6], []), ([7], []), ([], [4]), ([8, 9], []), ([4, 10], []), ([11], []), ([0], []), ([13], []), ([12, 14], [])] [12, 15] [[], [], [], [], [], [], [], [], [], [], [], [], [true], [], [], []] (fun m cv => match m with | 0 => [(1000000, Dec.Own tS 9 k s0_.pages_.length), (0, (Bx 5 true 56 ((tpagestore_Store_k0 k).is s0_) b))] | 1 => [(30, Dec.Own tS 9 (cv 0) string.length), (1000000, Dec.Own tS 9 k s0_.pages_.length), (0, (Bx 5 true 56 ((tpagestore_Store_k0 k).is s0_) b))] | _ => [(0, (Bx 5 true 56 ((tpagestore_Store_k0 (cv 0)).is ({ s0_ with pages_ := string } : pagestore_Store)) b)), (30, Dec.Own tS 9 (cv 0) string.length), (1000000, Dec.Own tS 9 k s0_.pages_.length)]) (fun _ => none) Mx rfl rfl rfl rfl rfl ⟨fun _ _ _ _ => rfl, ⟨fun _ _ _ _ => rfl, ⟨fun _ _ _ _ => rfl, ⟨fun _ _ _ _ => rfl, ⟨fun _ _ _ _ => rfl, ⟨fun _ _ _ _ => rfl, ⟨fun _ _ _ _ => rfl, ⟨fun _ _ _ _ => rfl, ⟨fun _ _ _ _ => rfl, ⟨fun _ _ _ _ => rfl, ⟨fun _ _ _ _ => rfl, ⟨fun _ _ _ _ => rfl, ⟨fun m hm c t => by simp only [DA.at, upd_dep (r := [true]) (j := 0) rfl hm], ⟨fun _ _ _ _ => rfl, ⟨fun _ _ _ _ => rfl, ⟨fun _ _ _ _ => rfl, trivial⟩⟩⟩⟩⟩⟩⟩⟩⟩⟩⟩⟩⟩⟩⟩⟩ rfl ⟨mo fun cv => Op1.move (.t rfl), ⟨mo fun cv => Op1.move (.t rfl), ⟨mo fun cv => Op1.nilCheckB (.t rfl), ⟨mo fun cv => Op1.fieldAddrB (o := 0) Tryz.underlying56 rfl J26 (.t rfl) rfl, ⟨.inr ⟨fun cv => [(0, (Bx 5 true 56 ((tpagestore_Store_k0 k).is s0_) b))], (AllUpTo.at ⟨⟨(fun _ _ => ⟨rfl, rfl, trivial⟩), (fun _ _ => ⟨rfl, rfl, trivial⟩)⟩, (fun hw => absurd hw (by decide))⟩), fun cv => Op1.ofOT (Op1.loadBF (t := (tOT tS k)) (f := fun x : pagestore_Store => x.pages_) (u := s0_) 0 rfl ⟨ty26.agg, ty26.size⟩ (fpagestore_Store_k0_0 k) rfl (.t rfl))⟩, ⟨mo fun cv => Op1.move (.t rfl), ⟨mo fun cv => Op1.nilCheckB (.t rfl), ⟨mo fun cv => Op1.fieldAddrB (o := 0) Tryz.underlying56 rfl J3 (.t rfl) rfl, ⟨.inr ⟨fun cv => [(0, (Bx 5 true 56 ((tpagestore_Store_k0 k).is s0_) b))], (AllUpTo.at ⟨⟨(fun _ _ => ⟨rfl, rfl, trivial⟩), (fun _ _ => ⟨rfl, rfl, trivial⟩)⟩, (fun hw => absurd hw (by decide))⟩), fun cv => Op1.loadBF 0 rfl ty3 (fpagestore_Store_k0_1 k) rfl (.t rfl)⟩, ⟨mo fun cv => Op1.move (.t rfl), ⟨mo fun cv => Op1.addC hv2 (.t rfl) (.t rfl), ⟨mo fun cv => Op1.slcHi hv3 U26 Z9 (Opd.own (.t rfl)) (.t rfl), ⟨.inl rfl, ⟨mo fun cv => Op1.nilCheckB (.t rfl), ⟨mo fun cv => Op1.fieldAddrB (o := 0) Tryz.underlying56 rfl J26 (.t rfl) rfl, ⟨.inl rfl, trivial⟩⟩⟩⟩⟩⟩⟩⟩⟩⟩⟩⟩⟩⟩⟩⟩ ⟨⟨_, _, _, [], (fun cv => [(30, Dec.Own tS 9 (cv 0) string.length)]), rfl, rfl, rfl, rfl, fun _ => rfl, fun _ _ => rfl, fun cv => OpR.call (us := []) C35 ((slices_Clone_string_string_spec _ _ hv4).rekey 30) rfl ⟨(.t rfl), trivial⟩⟩, ⟨⟨_, _, _, [0], (fun cv => [(0, (Bx 5 true 56 ((tpagestore_Store_k0 (cv 0)).is ({ s0_ with pages_ := string } : pagestore_Store)) b))]), rfl, rfl, rfl, rfl, fun _ => rfl, fun _ _ => rfl, fun cv => OpR.viaU (OpR.storeBFT (b := b) (s := (tpagestore_Store_k0 k)) (s' := (tpagestore_Store_k0 (cv 0))) (t := (tOT tS (cv 0))) 0 rfl rfl ⟨ty26.agg, ty26.size⟩ (sTpagestore_Store_k0 k (cv 0)) rfl (show 0 + 1 ≤ 5 by decide) (.t rfl) (Opd.toOT (.t rfl)))⟩, trivial⟩⟩ fun cv => WN.weakR (res' := [(30, Dec.Own tS 9 (cv 0) string.length), (0, (Bx 5 true 56 ((tpagestore_Store_k0 (cv 0)).is ({ s0_ with pages_ := string } : pagestore_Store)) b))]) ⟨rfl, rfl, ⟨rfl, rfl, trivial⟩⟩ <| WN.rekey (res' := [(1000000, Dec.Own tS 9 (cv 0) string.length), (0, (Bx 5 true 56 ((tpagestore_Store_k0 (cv 0)).is ({ s0_ with pages_ := string } : pagestore_Store)) b))]) rfl <| Aq <| Aw <| Am rfl rfl <| Am rfl rfl <| Ao rfl (.nilCheckB (.t rfl)) <| Ao rfl (.fieldAddrB (o := 0) Tryz.underlying56 rfl J26 (.t rfl) rfl) <| Ao rfl (.ofOT (Op1.loadBF (t := (tOT tS (cv 0))) (f := fun x : pagestore_Store => x.pages_) (u := ({ s0_ with pages_ := string } : pagestore_Store)) 0 rfl ⟨ty26.agg, ty26.size⟩ (fpagestore_Store_k0_0 (cv 0)) rfl (.t rfl))) <| Ao rfl (.lenL U26 (Opd.own (.t rfl))) <| Ao rfl (.nilCheckB (.t rfl)) <| Ao rfl (.fieldAddrB (o := 0) Tryz.underlying56 rfl J3 (.t rfl) rfl) <| WL.opU (OpR.storeBF (b := b) 0 rfl ty3 (spagestore_Store_k0_1 (cv 0)) rfl (show 1 + 1 ≤ 5 by decide) (.t rfl) (.t rfl)) fun _ => WL.nr1 ?_
 refine Am rfl rfl <| Am rfl rfl <| Ao rfl (.nilCheckB (.t rfl)) <| Ao rfl (.fieldAddrB (o := 0) Tryz.underlying56 rfl J3 (.t rfl) rfl) <| WL.opU (OpR.storeBF (b := b) 0 rfl ty3 (spagestore_Store_k0_3 (cv 0)) rfl (show 3 + 1 ≤ 5 by decide) (.t rfl) .i64) fun _ => Ao rfl (.nilCheckB (.t rfl)) <| Ao rfl (.fieldAddrB (o := 0) Tryz.underlying56 rfl J4 (.t rfl) rfl) <| WL.opU (OpR.storeBF (b := b) 0 rfl ty4 (spagestore_Store_k0_4 (cv 0)) rfl (show 4 + 1 ≤ 5 by decide) (.t rfl) .bool) fun _ => WL.nil ?_
 have hr := Si hm
 clear hm
 subst hr
 exact WN.fin (cv 0) rfl (fun _ => rfl) ⟨rfl, rfl, ⟨rfl, rfl, trivial⟩⟩
theorem journal_Journal_At_spec (j : journal_Journal) (st : pagestore_Store) (i : Int) (b : Nat) (k : Tok) (b1 : Nat) (k1 : Tok) (r : Str × Int) (hm : M.journal_Journal_At j st i = some r) : FSpecR Tryz.prog 9 [(Bp b 0), (I6.is i)] [(0, (Bx 5 true 60 ((tMap (tP (tOb b1) (tP (tOT tS k) (tP I6 (tOne tjournal_mark)))) (fun x : journal_Journal => (x.Store, x.texts_, x.lasting_, x.last_))).is j) b)), (1000000, Dec.Own tS 9 k j.texts_.length), (400000, (Bx 5 true 56 ((tpagestore_Store_k0 k1).is st) b1)), (1400000, Dec.Own tS 9 k1 st.pages_.length)] (fun kx : Unit => (Asn.tuple2 (tS.is r.1) (I6.is r.2))) (fun kx : Unit => [(0, (Bx 5 true 60 ((tMap (tP (tOb b1) (tP (tOT tS k) (tP I6 (tOne tjournal_mark)))) (fun x : journal_Journal => (x.Store, x.texts_, x.lasting_, x.last_))).is j) b)), (1000000, Dec.Own tS 9 k j.texts_.length), (400000, (Bx 5 true 56 ((tpagestore_Store_k0 k1).is st) b1)), (1400000, Dec.Own tS 9 k1 st.pages_.length)]) := by
 unfold M.journal_Journal_At at hm
 refine FSpecR.of Tryz.func9 rfl rfl rfl fun g0 => Aw <| Ao rfl (.assign (.str rfl (by decide))) <| Ao rfl (.assign .i64) <| An <| W.seq ?_
 obtain ⟨s1, hs2, hk3⟩ := Bs hm
 clear hm
 refine W.join (fun s : Bool => s = s1) (fun s => [(16, (tB.is s)), (0, (Bp b 0)), (1, (I6.is i))]) (fun s => [(1000000, Dec.Own tS 9 k j.texts_.length), (1400000, Dec.Own tS 9 k1 st.pages_.length), (0, (Bx 5 true 60 ((tMap (tP (tOb b1) (tP (tOT tS k) (tP I6 (tOne tjournal_mark)))) (fun x : journal_Journal => (x.Store, x.texts_, x.lasting_, x.last_))).is j) b)), (400000, (Bx 5 true 56 ((tpagestore_Store_k0 k1).is st) b1))]) ?_ ?_
 ·rintro v hj9
  try dsimp only at hj9
  subst hj9
  have hm := hk3
  clear hk3
  try dsimp only at hm
  change W _ _ _ _ _ _ _ [(16, (tB.is v)), (0, (Bp b 0)), (1, (I6.is i))] [(1000000, Dec.Own tS 9 k j.texts_.length), (1400000, Dec.Own tS 9 k1 st.pages_.length), (0, (Bx 5 true 60 ((tMap (tP (tOb b1) (tP (tOT tS k) (tP I6 (tOne tjournal_mark)))) (fun x : journal_Journal => (x.Store, x.texts_, x.lasting_, x.last_))).is j) b)), (400000, (Bx 5 true 56 ((tpagestore_Store_k0 k1).is st) b1))]
  refine W.cB hm (.t rfl) (fun hp7 hm => ?_) (fun hp7 hm => ?_)
  ·refine Aw <| Ao rfl (.assign (.str rfl (by decide))) <| Ao rfl (.assign .i64) <| WL.ns ?_
   have hr := Si hm
   clear hm
   subst hr
   exact W.ret2 () rfl rfl (.t rfl) (.t rfl) ⟨rfl, rfl, ⟨rfl, rfl, ⟨rfl, rfl, ⟨rfl, rfl, trivial⟩⟩⟩⟩
  ·refine W.skip <| Aq <| Aw <| Am rfl rfl <| Ao rfl (.nilCheckB (.t rfl)) <| Ao rfl (.fieldAddrB (o := 0) Tryz.underlying60 rfl J26 (.t rfl) rfl) <| Ao rfl (.ofOT (Op1.loadBF (s := (tMap (tP (tOb b1) (tP (tOT tS k) (tP I6 (tOne tjournal_mark)))) (fun x : journal_Journal => (x.Store, x.texts_, x.lasting_, x.last_)))) (t := (tOT tS k)) (f := fun x : journal_Journal => x.texts_) (u := j) 0 rfl ⟨ty26.agg, ty26.size⟩ ((Fld.map (m := (fun x : journal_Journal => (x.Store, x.texts_, x.lasting_, x.last_))) (Fld.next (s := (tOb b1)) (Fld.here (tOT tS k) (tP I6 (tOne tjournal_mark))))).cast rfl rfl) rfl (.t rfl))) <| WL.mv rfl rfl ?_
   obtain ⟨v1, hv8, hm⟩ := Bs hm
   refine Ao rfl (.idx hv8 U26 Z9 (Opd.own (.t rfl)) (.t rfl)) <| Ao rfl (.load ty9 (.t rfl)) <| Ag rfl rfl <| Ao rfl (.assign .i64) <| WL.ns ?_
   have hr := Si hm
   clear hm
   subst hr
   exact W.ret2 () rfl rfl (.t rfl) (.t rfl) ⟨rfl, rfl, ⟨rfl, rfl, ⟨rfl, rfl, ⟨rfl, rfl, trivial⟩⟩⟩⟩
 ·have hm := hs2
  clear hs2
  refine W.region <| Am rfl rfl <| Ao rfl (.ltI (.t rfl) .i64) <| WL.mv rfl rfl ?_
  rcases iteD hm with ⟨hp5, hb4, hm⟩ | ⟨hp5, hb4, hm⟩
  ·exact Ap rfl hb4 <| Ap rfl hb4 <| Ap rfl hb4 <| Ap rfl hb4 <| Ap rfl hb4 <| Ap rfl hb4 <| Ap rfl hb4 <| Ao rfl (.pickT (.t rfl) hb4 .bool) <| WL.nil <| WN.meet true (Si hm) ⟨.q rfl, .q rfl, .q rfl, trivial⟩ ⟨rfl, rfl, ⟨rfl, rfl, ⟨rfl, rfl, ⟨rfl, rfl, trivial⟩⟩⟩⟩
  ·exact Ax rfl hb4 (.move (.t rfl)) <| Ax rfl hb4 (.move (.t rfl)) <| Ax rfl hb4 (.nilCheckB (.t rfl)) <| Ax rfl hb4 (.fieldAddrB (o := 0) Tryz.underlying60 rfl J26 (.t rfl) rfl) <| Ax rfl hb4 (.ofOT (Op1.loadBF (s := (tMap (tP (tOb b1) (tP (tOT tS k) (tP I6 (tOne tjournal_mark)))) (fun x : journal_Journal => (x.Store, x.texts_, x.lasting_, x.last_)))) (t := (tOT tS k)) (f := fun x : journal_Journal => x.texts_) (u := j) 0 rfl ⟨ty26.agg, ty26.size⟩ ((Fld.map (m := (fun x : journal_Journal => (x.Store, x.texts_, x.lasting_, x.last_))) (Fld.next (s := (tOb b1)) (Fld.here (tOT tS k) (tP I6 (tOne tjournal_mark))))).cast rfl rfl) rfl (.t rfl))) <| Ax rfl hb4 (.lenL U26 (Opd.own (.t rfl))) <| Ax rfl hb4 (.geI (.t rfl) (.t rfl)) <| Ao rfl (.pickF (.t rfl) hb4 (.t rfl)) <| WL.nil <| WN.meet (decide ((j.texts_.length : Int) ≤ i)) (Si hm) ⟨.q rfl, .q rfl, .q rfl, trivial⟩ ⟨rfl, rfl, ⟨rfl, rfl, ⟨rfl, rfl, ⟨rfl, rfl, trivial⟩⟩⟩⟩
theorem journal_Journal_Len_spec (j : journal_Journal) (st : pagestore_Store) (b : Nat) (k : Tok) (b1 : Nat) (k1 : Tok) (r : Int) (hm : M.journal_Journal_Len j st = some r) : FSpecR Tryz.prog 19 [(Bp b 0)] [(0, (Bx 5 true 60 ((tMap (tP (tOb b1) (tP (tOT tS k) (tP I6 (tOne tjournal_mark)))) (fun x : journal_Journal => (x.Store, x.texts_, x.lasting_, x.last_))).is j) b)), (1000000, Dec.Own tS 9 k j.texts_.length), (400000, (Bx 5 true 56 ((tpagestore_Store_k0 k1).is st) b1)), (1400000, Dec.Own tS 9 k1 st.pages_.length)] (fun kx : Unit => (I6.is r)) (fun kx : Unit => [(0, (Bx 5 true 60 ((tMap (tP (tOb b1) (tP (tOT tS k) (tP I6 (tOne tjournal_mark)))) (fun x : journal_Journal => (x.Store, x.texts_, x.lasting_, x.last_))).is j) b)), (1000000, Dec.Own tS 9 k j.texts_.length), (400000, (Bx 5 true 56 ((tpagestore_Store_k0 k1).is st) b1)), (1400000, Dec.Own tS 9 k1 st.pages_.length)]) := by
 unfold M.journal_Journal_Len at hm
 refine FSpecR.of Tryz.func19 rfl rfl rfl fun g0 => Aw <| Ao rfl (.assign .i64) <| Ar <| Am rfl rfl <| Ao rfl (.nilCheckB (.t rfl)) <| Ao rfl (.fieldAddrB (o := 0) Tryz.underlying60 rfl J26 (.t rfl) rfl) <| Ao rfl (.ofOT (Op1.loadBF (s := (tMap (tP (tOb b1) (tP (tOT tS k) (tP I6 (tOne tjournal_mark)))) (fun x : journal_Journal => (x.Store, x.texts_, x.lasting_, x.last_)))) (t := (tOT tS k)) (f := fun x : journal_Journal => x.texts_) (u := j) 0 rfl ⟨ty26.agg, ty26.size⟩ ((Fld.map (m := (fun x : journal_Journal => (x.Store, x.texts_, x.lasting_, x.last_))) (Fld.next (s := (tOb b1)) (Fld.here (tOT tS k) (tP I6 (tOne tjournal_mark))))).cast rfl rfl) rfl (.t rfl))) <| Ao rfl (.lenL U26 (Opd.own (.t rfl))) <| Ag rfl rfl <| WL.ns ?_
 have hr := Si hm
 clear hm
 subst hr
 exact W.ret1 () rfl (.t rfl) ⟨rfl, rfl, ⟨rfl, rfl, ⟨rfl, rfl, ⟨rfl, rfl, trivial⟩⟩⟩⟩
theorem pagestore_Store_Len_spec (s0_ : pagestore_Store) (b : Nat) (k : Tok) (r : Int) (hm : M.pagestore_Store_Len s0_ = some r) : FSpecR Tryz.prog 20 [(Bp b 0)] [(0, (Bx 5 true 56 ((tpagestore_Store_k0 k).is s0_) b)), (1000000, Dec.Own tS 9 k s0_.pages_.length)] (fun kx : Unit => (I6.is r)) (fun kx : Unit => [(0, (Bx 5 true 56 ((tpagestore_Store_k0 k).is s0_) b)), (1000000, Dec.Own tS 9 k s0_.pages_.length)]) := by
 unfold M.pagestore_Store_Len at hm
 refine FSpecR.of Tryz.func20 rfl rfl rfl fun g0 => Aw <| Ao rfl (.assign .i64) <| Ar <| Am rfl rfl <| Ao rfl (.nilCheckB (.t rfl)) <| Ao rfl (.fieldAddrB (o := 0) Tryz.underlying56 rfl J26 (.t rfl) rfl) <| Ao rfl (.ofOT (Op1.loadBF (t := (tOT tS k)) (f := fun x : pagestore_Store => x.pages_) (u := s0_) 0 rfl ⟨ty26.agg, ty26.size⟩ (fpagestore_Store_k0_0 k) rfl (.t rfl))) <| Ao rfl (.lenL U26 (Opd.own (.t rfl))) <| Ag rfl rfl <| WL.ns ?_
 have hr := Si hm
 clear hm
 subst hr
 exact W.ret1 () rfl (.t rfl) ⟨rfl, rfl, ⟨rfl, rfl, trivial⟩⟩
theorem law14_awake_spec (n : Nat)  (r : Bool) (hm : M.law14_awake n  = some r) : FSpecR Tryz.prog 5 [] [(700000, GlE 0), (700001, GlI 1), (700002, GlI 2), (700003, GlT Tryz.prog "internal/strconv.uint64pow10" .u64 Lib.pow10Tab), (700007, Gl (tA 64 (tI .u8)) 7 gv7)] (fun _ : Unit => (tB.is r)) (fun _ => []) := by
 unfold M.law14_awake at hm
 refine FSpecR.of Tryz.func5 rfl rfl rfl fun g0 => Aw <| Ao rfl (.assign .bool) <| WL.nr ?_
 obtain ⟨new, hv1, hm⟩ := Bs hm
 refine WL.weakR (res' := [(700000, GlE 0), (700001, GlI 1), (700002, GlI 2), (700003, GlT Tryz.prog "internal/strconv.uint64pow10" .u64 Lib.pow10Tab), (700007, Gl (tA 64 (tI .u8)) 7 gv7)]) ⟨rfl, rfl, ⟨rfl, rfl, ⟨rfl, rfl, ⟨rfl, rfl, ⟨rfl, rfl, trivial⟩⟩⟩⟩⟩ <| WL.opR rfl (OpR.call (us := []) (A := fun kx : Nat × Tok => (ObP kx new)) C8 (FSpecR.keys (rin' := []) (out' := fun kx : Nat × Tok => [(11, ObR tpagestore_Store_k0 56 tS 9 (fun x : pagestore_Store => x.pages_) kx new)]) (pagestore_New_spec _ hv1) rfl (fun _ => rfl)) rfl trivial) fun k => Ag rfl rfl <| An <| W.seq ?_
 obtain ⟨s0_, hv2, hm⟩ := Bs hm
 refine W.obOpen (t := tpagestore_Store_k0) (T := 56) (te := tS) (E := 9) (f := (fun x : pagestore_Store => x.pages_)) (c := k) (u := s0_) (o := new) (key := 11) 1 11 1000011 hv2 rfl rfl <| W.chg (fun _ _ h => h.slotA (s := 11) rfl (fun _ _ => ObP.some hv2)) <| W.region <| WL.mv rfl rfl ?_
 obtain ⟨open0_, hv3, hm⟩ := Bs hm
 refine WL.weakR (res' := [(11, (Bx 5 true 56 ((tpagestore_Store_k0 (k).2).is s0_) (k).1)), (1000011, Dec.Own tS 9 (k).2 s0_.pages_.length), (700000, GlE 0), (700001, GlI 1), (700002, GlI 2), (700003, GlT Tryz.prog "internal/strconv.uint64pow10" .u64 Lib.pow10Tab), (700007, Gl (tA 64 (tI .u8)) 7 gv7)]) ⟨rfl, rfl, ⟨rfl, rfl, ⟨rfl, rfl, ⟨rfl, rfl, ⟨rfl, rfl, ⟨rfl, rfl, ⟨rfl, rfl, trivial⟩⟩⟩⟩⟩⟩⟩ <| WL.opR rfl (OpR.call (us := [11, 1000011, 700000, 700001, 700002, 700003, 700007]) (A := fun kx : Nat × Tok => (Asn.tuple2 (ObP kx open0_.1) (I6.is open0_.2))) C14 (FSpecR.keys (rin' := [(11, (Bx 5 true 56 ((tpagestore_Store_k0 (k).2).is s0_) (k).1)), (1000011, Dec.Own tS 9 (k).2 s0_.pages_.length), (700000, GlE 0), (700001, GlI 1), (700002, GlI 2), (700003, GlT Tryz.prog "internal/strconv.uint64pow10" .u64 Lib.pow10Tab), (700007, Gl (tA 64 (tI .u8)) 7 gv7)]) (out' := fun kx : Nat × Tok => [(11, (Bx 5 true 56 ((tpagestore_Store_k0 (k).2).is s0_) (k).1)), (1000011, Dec.Own tS 9 (k).2 s0_.pages_.length), (700000, GlE 0), (700001, GlI 1), (700002, GlI 2), (700003, GlT Tryz.prog "internal/strconv.uint64pow10" .u64 Lib.pow10Tab), (700007, Gl (tA 64 (tI .u8)) 7 gv7), (14, ObR (fun kq => (tMap (tP (tOb (k).1) (tP (tOT tS kq) (tP I6 (tOne tjournal_mark)))) (fun x : journal_Journal => (x.Store, x.texts_, x.lasting_, x.last_)))) 60 tS 9 (fun x : journal_Journal => x.texts_) kx open0_.1)]) (journal_Open_spec _ _ _ _ _ hv3) rfl (fun _ => rfl)) rfl ⟨(.t rfl), trivial⟩) fun k1 => Am rfl rfl <| Ao rfl (.extract0 (.t rfl)) <| Ao rfl (.extract1 (.t rfl)) <| Ag rfl rfl <| Ag rfl rfl <| An <| W.seq ?_
 obtain ⟨s4, hs5, hk6⟩ := Bs hm
 clear hm
 refine W.join (fun s : Bool => s = s4) (fun s => [(26, (tB.is s)), (1, (Bp (k).1 0)), (2, (ObP k1 open0_.1))]) (fun s => [(14, ObR (fun kq => (tMap (tP (tOb (k).1) (tP (tOT tS kq) (tP I6 (tOne tjournal_mark)))) (fun x : journal_Journal => (x.Store, x.texts_, x.lasting_, x.last_)))) 60 tS 9 (fun x : journal_Journal => x.texts_) k1 open0_.1), (1000011, Dec.Own tS 9 (k).2 s0_.pages_.length), (11, (Bx 5 true 56 ((tpagestore_Store_k0 (k).2).is s0_) (k).1)), (700000, GlE 0), (700001, GlI 1), (700002, GlI 2), (700003, GlT Tryz.prog "internal/strconv.uint64pow10" .u64 Lib.pow10Tab), (700007, Gl (tA 64 (tI .u8)) 7 gv7)]) ?_ ?_
 ·rintro v hj39
  try dsimp only at hj39
  subst hj39
  have hm := hk6
  clear hk6
  try dsimp only at hm
  change W _ _ _ _ _ _ _ [(26, (tB.is v)), (1, (Bp (k).1 0)), (2, (ObP k1 open0_.1))] [(14, ObR (fun kq => (tMap (tP (tOb (k).1) (tP (tOT tS kq) (tP I6 (tOne tjournal_mark)))) (fun x : journal_Journal => (x.Store, x.texts_, x.lasting_, x.last_)))) 60 tS 9 (fun x : journal_Journal => x.texts_) k1 open0_.1), (1000011, Dec.Own tS 9 (k).2 s0_.pages_.length), (11, (Bx 5 true 56 ((tpagestore_Store_k0 (k).2).is s0_) (k).1)), (700000, GlE 0), (700001, GlI 1), (700002, GlI 2), (700003, GlT Tryz.prog "internal/strconv.uint64pow10" .u64 Lib.pow10Tab), (700007, Gl (tA 64 (tI .u8)) 7 gv7)]
  refine W.cB hm (.t rfl) (fun hp12 hm => ?_) (fun hp12 hm => ?_)
  ·refine Aw <| Ao rfl (.assign .bool) <| WL.ns ?_
   have hr := Si hm
   clear hm
   subst hr
   exact W.ret1 () rfl (.t rfl) trivial
  ·refine W.skip <| Aq <| W.seq ?_
   obtain ⟨j, hv13, hm⟩ := Bs hm
   refine W.obOpen (t := (fun kq => (tMap (tP (tOb (k).1) (tP (tOT tS kq) (tP I6 (tOne tjournal_mark)))) (fun x : journal_Journal => (x.Store, x.texts_, x.lasting_, x.last_))))) (T := 60) (te := tS) (E := 9) (f := (fun x : journal_Journal => x.texts_)) (c := k1) (u := j) (o := open0_.1) (key := 14) 2 14 1000014 hv13 rfl rfl <| W.region <| WL.mv rfl rfl ?_
   obtain ⟨⟨append, w, w1⟩, hv14, hm⟩ := Bs hm
   dsimp only at hm
   refine WL.weakR (res' := [(14, (Bx 5 true 60 ((tMap (tP (tOb (k).1) (tP (tOT tS (k1).2) (tP I6 (tOne tjournal_mark)))) (fun x : journal_Journal => (x.Store, x.texts_, x.lasting_, x.last_))).is j) (k1).1)), (1000014, Dec.Own tS 9 (k1).2 j.texts_.length), (11, (Bx 5 true 56 ((tpagestore_Store_k0 (k).2).is s0_) (k).1)), (1000011, Dec.Own tS 9 (k).2 s0_.pages_.length), (700003, GlT Tryz.prog "internal/strconv.uint64pow10" .u64 Lib.pow10Tab), (700007, Gl (tA 64 (tI .u8)) 7 gv7), (700000, GlE 0), (700001, GlI 1), (700002, GlI 2)]) ⟨rfl, rfl, ⟨rfl, rfl, ⟨rfl, rfl, ⟨rfl, rfl, ⟨rfl, rfl, ⟨rfl, rfl, ⟨rfl, rfl, ⟨rfl, rfl, ⟨rfl, rfl, trivial⟩⟩⟩⟩⟩⟩⟩⟩⟩ <| WL.opR rfl (OpR.call (us := [14, 1000014, 11, 1000011, 700003, 700007]) (A := fun kx : (Tok) × (Tok) => (Asn.tuple2 (I6.is append.1) (I6.is append.2))) C16 (FSpecR.keys (rin' := [(14, (Bx 5 true 60 ((tMap (tP (tOb (k).1) (tP (tOT tS (k1).2) (tP I6 (tOne tjournal_mark)))) (fun x : journal_Journal => (x.Store, x.texts_, x.lasting_, x.last_))).is j) (k1).1)), (1000014, Dec.Own tS 9 (k1).2 j.texts_.length), (11, (Bx 5 true 56 ((tpagestore_Store_k0 (k).2).is s0_) (k).1)), (1000011, Dec.Own tS 9 (k).2 s0_.pages_.length), (700003, GlT Tryz.prog "internal/strconv.uint64pow10" .u64 Lib.pow10Tab), (700007, Gl (tA 64 (tI .u8)) 7 gv7)]) (out' := fun kx : (Tok) × (Tok) => [(14, (Bx 5 true 60 ((tMap (tP (tOb (k).1) (tP (tOT tS (kx.1)) (tP I6 (tOne tjournal_mark)))) (fun x : journal_Journal => (x.Store, x.texts_, x.lasting_, x.last_))).is w) (k1).1)), (1000014, Dec.Own tS 9 (kx.1) w.texts_.length), (11, (Bx 5 true 56 ((tpagestore_Store_k0 (kx.2)).is w1) (k).1)), (1000011, Dec.Own tS 9 (kx.2) w1.pages_.length), (700003, GlT Tryz.prog "internal/strconv.uint64pow10" .u64 Lib.pow10Tab), (700007, Gl (tA 64 (tI .u8)) 7 gv7)]) (journal_Journal_Append_spec _ _ _ _ _ _ _ _ _ hv14) rfl (fun _ => rfl)) rfl ⟨(.t rfl), (.str rfl (by decide)), trivial⟩) fun kk => Am rfl rfl <| Ao rfl (.extract0 (.t rfl)) <| Ao rfl (.extract1 (.t rfl)) <| Ag rfl rfl <| Ag rfl rfl <| Ar <| WL.mv rfl rfl ?_
   obtain ⟨⟨commit, w2, w3⟩, hv15, hm⟩ := Bs hm
   dsimp only at hm
   refine WL.weakR (res' := [(14, (Bx 5 true 60 ((tMap (tP (tOb (k).1) (tP (tOT tS (kk.1)) (tP I6 (tOne tjournal_mark)))) (fun x : journal_Journal => (x.Store, x.texts_, x.lasting_, x.last_))).is w) (k1).1)), (1000014, Dec.Own tS 9 (kk.1) w.texts_.length), (11, (Bx 5 true 56 ((tpagestore_Store_k0 (kk.2)).is w1) (k).1)), (1000011, Dec.Own tS 9 (kk.2) w1.pages_.length), (700000, GlE 0), (700001, GlI 1), (700002, GlI 2), (700003, GlT Tryz.prog "internal/strconv.uint64pow10" .u64 Lib.pow10Tab), (700007, Gl (tA 64 (tI .u8)) 7 gv7)]) ⟨rfl, rfl, ⟨rfl, rfl, ⟨rfl, rfl, ⟨rfl, rfl, ⟨rfl, rfl, ⟨rfl, rfl, ⟨rfl, rfl, ⟨rfl, rfl, ⟨rfl, rfl, trivial⟩⟩⟩⟩⟩⟩⟩⟩⟩ <| WL.opR rfl (OpR.call (us := [14, 1000014, 11, 1000011]) (A := fun kx : (Tok) × (Tok) => (I6.is commit)) C17 (FSpecR.keys (rin' := [(14, (Bx 5 true 60 ((tMap (tP (tOb (k).1) (tP (tOT tS (kk.1)) (tP I6 (tOne tjournal_mark)))) (fun x : journal_Journal => (x.Store, x.texts_, x.lasting_, x.last_))).is w) (k1).1)), (1000014, Dec.Own tS 9 (kk.1) w.texts_.length), (11, (Bx 5 true 56 ((tpagestore_Store_k0 (kk.2)).is w1) (k).1)), (1000011, Dec.Own tS 9 (kk.2) w1.pages_.length)]) (out' := fun kx : (Tok) × (Tok) => [(14, (Bx 5 true 60 ((tMap (tP (tOb (k).1) (tP (tOT tS (kx.1)) (tP I6 (tOne tjournal_mark)))) (fun x : journal_Journal => (x.Store, x.texts_, x.lasting_, x.last_))).is w2) (k1).1)), (1000014, Dec.Own tS 9 (kx.1) w2.texts_.length), (11, (Bx 5 true 56 ((tpagestore_Store_k0 (kx.2)).is w3) (k).1)), (1000011, Dec.Own tS 9 (kx.2) w3.pages_.length)]) (journal_Journal_Commit_spec _ _ _ _ _ _ _ hv15) rfl (fun _ => rfl)) rfl ⟨(.t rfl), trivial⟩) fun kk1 => Ag rfl rfl <| Ar <| WL.mv rfl rfl ?_
   obtain ⟨⟨append1, w4, w5⟩, hv16, hm⟩ := Bs hm
   dsimp only at hm
   refine WL.weakR (res' := [(14, (Bx 5 true 60 ((tMap (tP (tOb (k).1) (tP (tOT tS (kk1.1)) (tP I6 (tOne tjournal_mark)))) (fun x : journal_Journal => (x.Store, x.texts_, x.lasting_, x.last_))).is w2) (k1).1)), (1000014, Dec.Own tS 9 (kk1.1) w2.texts_.length), (11, (Bx 5 true 56 ((tpagestore_Store_k0 (kk1.2)).is w3) (k).1)), (1000011, Dec.Own tS 9 (kk1.2) w3.pages_.length), (700003, GlT Tryz.prog "internal/strconv.uint64pow10" .u64 Lib.pow10Tab), (700007, Gl (tA 64 (tI .u8)) 7 gv7), (700000, GlE 0), (700001, GlI 1), (700002, GlI 2)]) ⟨rfl, rfl, ⟨rfl, rfl, ⟨rfl, rfl, ⟨rfl, rfl, ⟨rfl, rfl, ⟨rfl, rfl, ⟨rfl, rfl, ⟨rfl, rfl, ⟨rfl, rfl, trivial⟩⟩⟩⟩⟩⟩⟩⟩⟩ <| WL.opR rfl (OpR.call (us := [14, 1000014, 11, 1000011, 700003, 700007]) (A := fun kx : (Tok) × (Tok) => (Asn.tuple2 (I6.is append1.1) (I6.is append1.2))) C16 (FSpecR.keys (rin' := [(14, (Bx 5 true 60 ((tMap (tP (tOb (k).1) (tP (tOT tS (kk1.1)) (tP I6 (tOne tjournal_mark)))) (fun x : journal_Journal => (x.Store, x.texts_, x.lasting_, x.last_))).is w2) (k1).1)), (1000014, Dec.Own tS 9 (kk1.1) w2.texts_.length), (11, (Bx 5 true 56 ((tpagestore_Store_k0 (kk1.2)).is w3) (k).1)), (1000011, Dec.Own tS 9 (kk1.2) w3.pages_.length), (700003, GlT Tryz.prog "internal/strconv.uint64pow10" .u64 Lib.pow10Tab), (700007, Gl (tA 64 (tI .u8)) 7 gv7)]) (out' := fun kx : (Tok) × (Tok) => [(14, (Bx 5 true 60 ((tMap (tP (tOb (k).1) (tP (tOT tS (kx.1)) (tP I6 (tOne tjournal_mark)))) (fun x : journal_Journal => (x.Store, x.texts_, x.lasting_, x.last_))).is w4) (k1).1)), (1000014, Dec.Own tS 9 (kx.1) w4.texts_.length), (11, (Bx 5 true 56 ((tpagestore_Store_k0 (kx.2)).is w5) (k).1)), (1000011, Dec.Own tS 9 (kx.2) w5.pages_.length), (700003, GlT Tryz.prog "internal/strconv.uint64pow10" .u64 Lib.pow10Tab), (700007, Gl (tA 64 (tI .u8)) 7 gv7)]) (journal_Journal_Append_spec _ _ _ _ _ _ _ _ _ hv16) rfl (fun _ => rfl)) rfl ⟨(.t rfl), (.str rfl (by decide)), trivial⟩) fun kk2 => Ar <| WL.mv rfl rfl ?_
   obtain ⟨w6, hv17, hm⟩ := Bs hm
   refine WL.weakR (res' := [(11, (Bx 5 true 56 ((tpagestore_Store_k0 (kk2.2)).is w5) (k).1)), (1000011, Dec.Own tS 9 (kk2.2) w5.pages_.length), (1000014, Dec.Own tS 9 (kk2.1) w4.texts_.length), (700000, GlE 0), (700001, GlI 1), (700002, GlI 2), (700003, GlT Tryz.prog "internal/strconv.uint64pow10" .u64 Lib.pow10Tab), (700007, Gl (tA 64 (tI .u8)) 7 gv7), (14, (Bx 5 true 60 ((tMap (tP (tOb (k).1) (tP (tOT tS (kk2.1)) (tP I6 (tOne tjournal_mark)))) (fun x : journal_Journal => (x.Store, x.texts_, x.lasting_, x.last_))).is w4) (k1).1))]) ⟨rfl, rfl, ⟨rfl, rfl, ⟨rfl, rfl, ⟨rfl, rfl, ⟨rfl, rfl, ⟨rfl, rfl, ⟨rfl, rfl, ⟨rfl, rfl, ⟨rfl, rfl, trivial⟩⟩⟩⟩⟩⟩⟩⟩⟩ <| WL.opR rfl (OpR.call (us := [11, 1000011]) (A := fun kx : Tok => (Asn.eq (.tuple #[]))) C18 (FSpecR.keys (rin' := [(11, (Bx 5 true 56 ((tpagestore_Store_k0 (kk2.2)).is w5) (k).1)), (1000011, Dec.Own tS 9 (kk2.2) w5.pages_.length)]) (out' := fun kx : Tok => [(11, (Bx 5 true 56 ((tpagestore_Store_k0 kx).is w6) (k).1)), (1000011, Dec.Own tS 9 kx w6.pages_.length)]) (pagestore_Store_Crash_spec _ _ _ _ _ hv17) rfl (fun _ => rfl)) rfl ⟨(.t rfl), .i64, trivial⟩) fun k2 => Ar <| WL.mv rfl rfl ?_
   obtain ⟨open0_1, hv18, hm⟩ := Bs hm
   refine WL.weakR (res' := [(11, (Bx 5 true 56 ((tpagestore_Store_k0 k2).is w6) (k).1)), (1000011, Dec.Own tS 9 k2 w6.pages_.length), (700000, GlE 0), (700001, GlI 1), (700002, GlI 2), (700003, GlT Tryz.prog "internal/strconv.uint64pow10" .u64 Lib.pow10Tab), (700007, Gl (tA 64 (tI .u8)) 7 gv7), (1000014, Dec.Own tS 9 (kk2.1) w4.texts_.length), (14, (Bx 5 true 60 ((tMap (tP (tOb (k).1) (tP (tOT tS (kk2.1)) (tP I6 (tOne tjournal_mark)))) (fun x : journal_Journal => (x.Store, x.texts_, x.lasting_, x.last_))).is w4) (k1).1))]) ⟨rfl, rfl, ⟨rfl, rfl, ⟨rfl, rfl, ⟨rfl, rfl, ⟨rfl, rfl, ⟨rfl, rfl, ⟨rfl, rfl, ⟨rfl, rfl, ⟨rfl, rfl, trivial⟩⟩⟩⟩⟩⟩⟩⟩⟩ <| WL.opR rfl (OpR.call (us := [11, 1000011, 700000, 700001, 700002, 700003, 700007]) (A := fun kx : Nat × Tok => (Asn.tuple2 (ObP kx open0_1.1) (I6.is open0_1.2))) C14 (FSpecR.keys (rin' := [(11, (Bx 5 true 56 ((tpagestore_Store_k0 k2).is w6) (k).1)), (1000011, Dec.Own tS 9 k2 w6.pages_.length), (700000, GlE 0), (700001, GlI 1), (700002, GlI 2), (700003, GlT Tryz.prog "internal/strconv.uint64pow10" .u64 Lib.pow10Tab), (700007, Gl (tA 64 (tI .u8)) 7 gv7)]) (out' := fun kx : Nat × Tok => [(11, (Bx 5 true 56 ((tpagestore_Store_k0 k2).is w6) (k).1)), (1000011, Dec.Own tS 9 k2 w6.pages_.length), (700000, GlE 0), (700001, GlI 1), (700002, GlI 2), (700003, GlT Tryz.prog "internal/strconv.uint64pow10" .u64 Lib.pow10Tab), (700007, Gl (tA 64 (tI .u8)) 7 gv7), (40, ObR (fun kq => (tMap (tP (tOb (k).1) (tP (tOT tS kq) (tP I6 (tOne tjournal_mark)))) (fun x : journal_Journal => (x.Store, x.texts_, x.lasting_, x.last_)))) 60 tS 9 (fun x : journal_Journal => x.texts_) kx open0_1.1)]) (journal_Open_spec _ _ _ _ _ hv18) rfl (fun _ => rfl)) rfl ⟨(.t rfl), trivial⟩) fun k3 => Am rfl rfl <| Ao rfl (.extract0 (.t rfl)) <| Ao rfl (.extract1 (.t rfl)) <| Ag rfl rfl <| Ag rfl rfl <| An <| W.seq <| Aw <| Am rfl rfl <| Ao rfl (.eqNilO U25 (.t rfl)) <| An <| W.cB hm (.t rfl) (fun hp20 hm => ?_) (fun hp20 hm => ?_)
   ·refine Aw <| Ao rfl (.assign .bool) <| WL.ns ?_
    have hr := Si hm
    clear hm
    subst hr
    exact W.ret1 () rfl (.t rfl) trivial
   ·refine W.skip <| Aq <| W.seq ?_
    obtain ⟨k4, hv21, hm⟩ := Bs hm
    refine W.obOpen (t := (fun kq => (tMap (tP (tOb (k).1) (tP (tOT tS kq) (tP I6 (tOne tjournal_mark)))) (fun x : journal_Journal => (x.Store, x.texts_, x.lasting_, x.last_))))) (T := 60) (te := tS) (E := 9) (f := (fun x : journal_Journal => x.texts_)) (c := k3) (u := k4) (o := open0_1.1) (key := 40) 7 40 1000040 hv21 rfl rfl <| W.chg (fun _ _ h => h.slotA (s := 41) rfl (fun _ _ => ObP.some hv21)) <| W.chg (fun _ _ h => h.slotA (s := 43) rfl (fun _ _ => ObP.some hv21)) <| W.region <| WL.mv rfl rfl ?_
    obtain ⟨at0_, hv22, hm⟩ := Bs hm
    refine WL.weakR (res' := [(40, (Bx 5 true 60 ((tMap (tP (tOb (k).1) (tP (tOT tS (k3).2) (tP I6 (tOne tjournal_mark)))) (fun x : journal_Journal => (x.Store, x.texts_, x.lasting_, x.last_))).is k4) (k3).1)), (1000040, Dec.Own tS 9 (k3).2 k4.texts_.length), (11, (Bx 5 true 56 ((tpagestore_Store_k0 k2).is w6) (k).1)), (1000011, Dec.Own tS 9 k2 w6.pages_.length), (1000014, Dec.Own tS 9 (kk2.1) w4.texts_.length), (700000, GlE 0), (700001, GlI 1), (700002, GlI 2), (700003, GlT Tryz.prog "internal/strconv.uint64pow10" .u64 Lib.pow10Tab), (700007, Gl (tA 64 (tI .u8)) 7 gv7), (14, (Bx 5 true 60 ((tMap (tP (tOb (k).1) (tP (tOT tS (kk2.1)) (tP I6 (tOne tjournal_mark)))) (fun x : journal_Journal => (x.Store, x.texts_, x.lasting_, x.last_))).is w4) (k1).1))]) ⟨rfl, rfl, ⟨rfl, rfl, ⟨rfl, rfl, ⟨rfl, rfl, ⟨rfl, rfl, ⟨rfl, rfl, ⟨rfl, rfl, ⟨rfl, rfl, ⟨rfl, rfl, ⟨rfl, rfl, ⟨rfl, rfl, trivial⟩⟩⟩⟩⟩⟩⟩⟩⟩⟩⟩ <| WL.opR rfl (OpR.call (us := [40, 1000040, 11, 1000011]) (A := fun kx : Unit => (Asn.tuple2 (tS.is at0_.1) (I6.is at0_.2))) C9 (FSpecR.keys (rin' := [(40, (Bx 5 true 60 ((tMap (tP (tOb (k).1) (tP (tOT tS (k3).2) (tP I6 (tOne tjournal_mark)))) (fun x : journal_Journal => (x.Store, x.texts_, x.lasting_, x.last_))).is k4) (k3).1)), (1000040, Dec.Own tS 9 (k3).2 k4.texts_.length), (11, (Bx 5 true 56 ((tpagestore_Store_k0 k2).is w6) (k).1)), (1000011, Dec.Own tS 9 k2 w6.pages_.length)]) (out' := fun kx : Unit => [(40, (Bx 5 true 60 ((tMap (tP (tOb (k).1) (tP (tOT tS (k3).2) (tP I6 (tOne tjournal_mark)))) (fun x : journal_Journal => (x.Store, x.texts_, x.lasting_, x.last_))).is k4) (k3).1)), (1000040, Dec.Own tS 9 (k3).2 k4.texts_.length), (11, (Bx 5 true 56 ((tpagestore_Store_k0 k2).is w6) (k).1)), (1000011, Dec.Own tS 9 k2 w6.pages_.length)]) (journal_Journal_At_spec _ _ _ _ _ _ _ _ hv22) rfl (fun _ => rfl)) rfl ⟨(.t rfl), .i64, trivial⟩) fun _ => Am rfl rfl <| Ao rfl (.extract0 (.t rfl)) <| Ao rfl (.extract1 (.t rfl)) <| Ag rfl rfl <| Ag rfl rfl <| Ar <| Am rfl rfl <| Ao rfl (.eqI (.t rfl) .i64) <| WL.mv rfl rfl ?_
    rcases iteD hm with ⟨hp24, hb23, hm⟩ | ⟨hp24, hb23, hm⟩
    ·refine Ax rfl hb23 (.move (.t rfl)) <| Ax rfl hb23 (.eqI (.t rfl) .i64) <| Ao rfl (.pickT (.t rfl) hb23 (.t rfl)) <| WL.mv rfl rfl ?_
     rcases iteD hm with ⟨hp26, hb25, hm⟩ | ⟨hp26, hb25, hm⟩
     ·refine Ax rfl hb25 (.move (.t rfl)) <| Ax rfl hb25 (.eqI (.t rfl) .i64) <| Ao rfl (.pickT (.t rfl) hb25 (.t rfl)) <| WL.mv rfl rfl ?_
      rcases iteD hm with ⟨hp28, hb27, hm⟩ | ⟨hp28, hb27, hm⟩
      ·refine Ax rfl hb27 (.move (.t rfl)) <| Ax rfl hb27 (.eqI (.t rfl) .i64) <| Ao rfl (.pickT (.t rfl) hb27 (.t rfl)) <| WL.mv rfl rfl ?_
       rcases iteD hm with ⟨hp30, hb29, hm⟩ | ⟨hp30, hb29, hm⟩
       ·refine Ax rfl hb29 (.move (.t rfl)) <| Ax rfl hb29 (.eqS (.t rfl) (.str rfl (by decide))) <| Ao rfl (.pickT (.t rfl) hb29 (.t rfl)) <| WL.mv rfl rfl ?_
        rcases iteB hm with ⟨hp32, hb31, hm⟩ | ⟨hp32, hb31, hm⟩
        ·refine Ax rfl hb31 (.move (.t rfl)) <| Ax rfl hb31 (.eqI (.t rfl) .i64) <| Ao rfl (.pickT (.t rfl) hb31 (.t rfl)) <| WL.mv rfl rfl ?_
         rcases iteD hm with ⟨hp34, hb33, hm⟩ | ⟨hp34, hb33, hm⟩
         ·refine Ax rfl hb33 (.move (.t rfl)) ?_
          obtain ⟨len, hv35, hm⟩ := Bs hm
          refine WL.weakR (res' := [(40, (Bx 5 true 60 ((tMap (tP (tOb (k).1) (tP (tOT tS (k3).2) (tP I6 (tOne tjournal_mark)))) (fun x : journal_Journal => (x.Store, x.texts_, x.lasting_, x.last_))).is k4) (k3).1)), (1000040, Dec.Own tS 9 (k3).2 k4.texts_.length), (11, (Bx 5 true 56 ((tpagestore_Store_k0 k2).is w6) (k).1)), (1000011, Dec.Own tS 9 k2 w6.pages_.length), (1000014, Dec.Own tS 9 (kk2.1) w4.texts_.length), (700000, GlE 0), (700001, GlI 1), (700002, GlI 2), (700003, GlT Tryz.prog "internal/strconv.uint64pow10" .u64 Lib.pow10Tab), (700007, Gl (tA 64 (tI .u8)) 7 gv7), (14, (Bx 5 true 60 ((tMap (tP (tOb (k).1) (tP (tOT tS (kk2.1)) (tP I6 (tOne tjournal_mark)))) (fun x : journal_Journal => (x.Store, x.texts_, x.lasting_, x.last_))).is w4) (k1).1))]) ⟨rfl, rfl, ⟨rfl, rfl, ⟨rfl, rfl, ⟨rfl, rfl, ⟨rfl, rfl, ⟨rfl, rfl, ⟨rfl, rfl, ⟨rfl, rfl, ⟨rfl, rfl, ⟨rfl, rfl, ⟨rfl, rfl, trivial⟩⟩⟩⟩⟩⟩⟩⟩⟩⟩⟩ <| WL.runR rfl rfl rfl rfl hb33 rfl rfl (OpR.call (us := [40, 1000040, 11, 1000011]) (A := fun kx : Unit => (I6.is len)) C19 (FSpecR.keys (rin' := [(40, (Bx 5 true 60 ((tMap (tP (tOb (k).1) (tP (tOT tS (k3).2) (tP I6 (tOne tjournal_mark)))) (fun x : journal_Journal => (x.Store, x.texts_, x.lasting_, x.last_))).is k4) (k3).1)), (1000040, Dec.Own tS 9 (k3).2 k4.texts_.length), (11, (Bx 5 true 56 ((tpagestore_Store_k0 k2).is w6) (k).1)), (1000011, Dec.Own tS 9 k2 w6.pages_.length)]) (out' := fun kx : Unit => [(40, (Bx 5 true 60 ((tMap (tP (tOb (k).1) (tP (tOT tS (k3).2) (tP I6 (tOne tjournal_mark)))) (fun x : journal_Journal => (x.Store, x.texts_, x.lasting_, x.last_))).is k4) (k3).1)), (1000040, Dec.Own tS 9 (k3).2 k4.texts_.length), (11, (Bx 5 true 56 ((tpagestore_Store_k0 k2).is w6) (k).1)), (1000011, Dec.Own tS 9 k2 w6.pages_.length)]) (journal_Journal_Len_spec _ _ _ _ _ _ _ hv35) rfl (fun _ => rfl)) rfl ⟨(.t rfl), trivial⟩) fun _ => Ax rfl hb33 (.eqI (.t rfl) .i64) <| Ao rfl (.pickT (.t rfl) hb33 (.t rfl)) <| WL.mv rfl rfl ?_
          rcases iteD hm with ⟨hp37, hb36, hm⟩ | ⟨hp37, hb36, hm⟩
          ·refine Ax rfl hb36 (.move (.t rfl)) ?_
           obtain ⟨len1, hv38, hm⟩ := Bs hm
           refine WL.weakR (res' := [(11, (Bx 5 true 56 ((tpagestore_Store_k0 k2).is w6) (k).1)), (1000011, Dec.Own tS 9 k2 w6.pages_.length), (1000014, Dec.Own tS 9 (kk2.1) w4.texts_.length), (1000040, Dec.Own tS 9 (k3).2 k4.texts_.length), (700000, GlE 0), (700001, GlI 1), (700002, GlI 2), (700003, GlT Tryz.prog "internal/strconv.uint64pow10" .u64 Lib.pow10Tab), (700007, Gl (tA 64 (tI .u8)) 7 gv7), (14, (Bx 5 true 60 ((tMap (tP (tOb (k).1) (tP (tOT tS (kk2.1)) (tP I6 (tOne tjournal_mark)))) (fun x : journal_Journal => (x.Store, x.texts_, x.lasting_, x.last_))).is w4) (k1).1)), (40, (Bx 5 true 60 ((tMap (tP (tOb (k).1) (tP (tOT tS (k3).2) (tP I6 (tOne tjournal_mark)))) (fun x : journal_Journal => (x.Store, x.texts_, x.lasting_, x.last_))).is k4) (k3).1))]) ⟨rfl, rfl, ⟨rfl, rfl, ⟨rfl, rfl, ⟨rfl, rfl, ⟨rfl, rfl, ⟨rfl, rfl, ⟨rfl, rfl, ⟨rfl, rfl, ⟨rfl, rfl, ⟨rfl, rfl, ⟨rfl, rfl, trivial⟩⟩⟩⟩⟩⟩⟩⟩⟩⟩⟩ <| WL.runR rfl rfl rfl rfl hb36 rfl rfl (OpR.call (us := [11, 1000011]) (A := fun kx : Unit => (I6.is len1)) C20 (FSpecR.keys (rin' := [(11, (Bx 5 true 56 ((tpagestore_Store_k0 k2).is w6) (k).1)), (1000011, Dec.Own tS 9 k2 w6.pages_.length)]) (out' := fun kx : Unit => [(11, (Bx 5 true 56 ((tpagestore_Store_k0 k2).is w6) (k).1)), (1000011, Dec.Own tS 9 k2 w6.pages_.length)]) (pagestore_Store_Len_spec _ _ _ _ hv38) rfl (fun _ => rfl)) rfl ⟨(.t rfl), trivial⟩) fun _ => Ax rfl hb36 (.eqI (.t rfl) .i64) <| Ao rfl (.pickT (.t rfl) hb36 (.t rfl)) <| Ag rfl rfl <| WL.ns ?_
           have hr := Si hm
           clear hm
           subst hr
           exact W.ret1 () rfl (.t rfl) trivial
          ·refine Ap rfl hb36 <| Ap rfl hb36 <| Ap rfl hb36 <| Ao rfl (.pickF (.t rfl) hb36 .bool) <| Ag rfl rfl <| WL.ns ?_
           have hr := Si hm
           clear hm
           subst hr
           exact W.ret1 () rfl (.t rfl) trivial
         ·refine Ap rfl hb33 <| Ap rfl hb33 <| Ap rfl hb33 <| Ao rfl (.pickF (.t rfl) hb33 .bool) <| Am rfl rfl <| Ap rfl rfl <| Ap rfl rfl <| Ap rfl rfl <| Ao rfl (.pickF (.t rfl) rfl .bool) <| Ag rfl rfl <| WL.ns ?_
          have hr := Si hm
          clear hm
          subst hr
          exact W.ret1 () rfl (.t rfl) trivial
        ·refine Ap rfl hb31 <| Ap rfl hb31 <| Ao rfl (.pickF (.t rfl) hb31 .bool) <| Am rfl rfl <| Ap rfl rfl <| Ap rfl rfl <| Ap rfl rfl <| Ao rfl (.pickF (.t rfl) rfl .bool) <| Am rfl rfl <| Ap rfl rfl <| Ap rfl rfl <| Ap rfl rfl <| Ao rfl (.pickF (.t rfl) rfl .bool) <| Ag rfl rfl <| WL.ns ?_
         have hr := Si hm
         clear hm
         subst hr
         exact W.ret1 () rfl (.t rfl) trivial
       ·refine Ap rfl hb29 <| Ap rfl hb29 <| Ao rfl (.pickF (.t rfl) hb29 .bool) <| Am rfl rfl <| Ap rfl rfl <| Ap rfl rfl <| Ao rfl (.pickF (.t rfl) rfl .bool) <| Am rfl rfl <| Ap rfl rfl <| Ap rfl rfl <| Ap rfl rfl <| Ao rfl (.pickF (.t rfl) rfl .bool) <| Am rfl rfl <| Ap rfl rfl <| Ap rfl rfl <| Ap rfl rfl ?_
        refine Ao rfl (.pickF (.t rfl) rfl .bool) <| Ag rfl rfl <| WL.ns ?_
        have hr := Si hm
        clear hm
        subst hr
        exact W.ret1 () rfl (.t rfl) trivial
      ·refine Ap rfl hb27 <| Ap rfl hb27 <| Ao rfl (.pickF (.t rfl) hb27 .bool) <| Am rfl rfl <| Ap rfl rfl <| Ap rfl rfl <| Ao rfl (.pickF (.t rfl) rfl .bool) <| Am rfl rfl <| Ap rfl rfl <| Ap rfl rfl <| Ao rfl (.pickF (.t rfl) rfl .bool) <| Am rfl rfl <| Ap rfl rfl <| Ap rfl rfl <| Ap rfl rfl <| Ao rfl (.pickF (.t rfl) rfl .bool) ?_
       refine Am rfl rfl <| Ap rfl rfl <| Ap rfl rfl <| Ap rfl rfl <| Ao rfl (.pickF (.t rfl) rfl .bool) <| Ag rfl rfl <| WL.ns ?_
       have hr := Si hm
       clear hm
       subst hr
       exact W.ret1 () rfl (.t rfl) trivial
     ·refine Ap rfl hb25 <| Ap rfl hb25 <| Ao rfl (.pickF (.t rfl) hb25 .bool) <| Am rfl rfl <| Ap rfl rfl <| Ap rfl rfl <| Ao rfl (.pickF (.t rfl) rfl .bool) <| Am rfl rfl <| Ap rfl rfl <| Ap rfl rfl <| Ao rfl (.pickF (.t rfl) rfl .bool) <| Am rfl rfl <| Ap rfl rfl <| Ap rfl rfl <| Ao rfl (.pickF (.t rfl) rfl .bool) <| WL.mv rfl rfl ?_
      refine Ap rfl rfl <| Ap rfl rfl <| Ap rfl rfl <| Ao rfl (.pickF (.t rfl) rfl .bool) <| Am rfl rfl <| Ap rfl rfl <| Ap rfl rfl <| Ap rfl rfl <| Ao rfl (.pickF (.t rfl) rfl .bool) <| Ag rfl rfl <| WL.ns ?_
      have hr := Si hm
      clear hm
      subst hr
      exact W.ret1 () rfl (.t rfl) trivial
    ·refine Ap rfl hb23 <| Ap rfl hb23 <| Ao rfl (.pickF (.t rfl) hb23 .bool) <| Am rfl rfl <| Ap rfl rfl <| Ap rfl rfl <| Ao rfl (.pickF (.t rfl) rfl .bool) <| Am rfl rfl <| Ap rfl rfl <| Ap rfl rfl <| Ao rfl (.pickF (.t rfl) rfl .bool) <| Am rfl rfl <| Ap rfl rfl <| Ap rfl rfl <| Ao rfl (.pickF (.t rfl) rfl .bool) <| WL.mv rfl rfl ?_
     refine Ap rfl rfl <| Ap rfl rfl <| Ao rfl (.pickF (.t rfl) rfl .bool) <| Am rfl rfl <| Ap rfl rfl <| Ap rfl rfl <| Ap rfl rfl <| Ao rfl (.pickF (.t rfl) rfl .bool) <| Am rfl rfl <| Ap rfl rfl <| Ap rfl rfl <| Ap rfl rfl <| Ao rfl (.pickF (.t rfl) rfl .bool) <| Ag rfl rfl <| WL.ns ?_
     have hr := Si hm
     clear hm
     subst hr
     exact W.ret1 () rfl (.t rfl) trivial
 ·have hm := hs5
  clear hs5
  refine W.region <| Am rfl rfl <| Ao rfl (.neI (.t rfl) .i64) <| WL.mv rfl rfl ?_
  rcases iteD hm with ⟨hp8, hb7, hm⟩ | ⟨hp8, hb7, hm⟩
  ·exact Ap rfl hb7 <| Ap rfl hb7 <| Ao rfl (.pickT (.t rfl) hb7 .bool) <| Am rfl rfl <| Ap rfl rfl <| Ap rfl rfl <| Ao rfl (.pickT (.t rfl) rfl .bool) <| WL.nil <| WN.meet true (Si hm) ⟨.q rfl, .q rfl, .q rfl, trivial⟩ ⟨rfl, rfl, ⟨rfl, rfl, ⟨rfl, rfl, ⟨rfl, rfl, ⟨rfl, rfl, ⟨rfl, rfl, ⟨rfl, rfl, ⟨rfl, rfl, trivial⟩⟩⟩⟩⟩⟩⟩⟩
  ·refine Ax rfl hb7 (.move (.t rfl)) <| Ax rfl hb7 (.eqNilO U25 (.t rfl)) <| Ao rfl (.pickF (.t rfl) hb7 (.t rfl)) <| WL.mv rfl rfl ?_
   rcases iteB hm with ⟨hp10, hb9, hm⟩ | ⟨hp10, hb9, hm⟩
   ·exact Ap rfl hb9 <| Ap rfl hb9 <| Ao rfl (.pickT (.t rfl) hb9 .bool) <| WL.nil <| WN.meet true (Si hm) ⟨.q rfl, .q rfl, .q rfl, trivial⟩ ⟨rfl, rfl, ⟨rfl, rfl, ⟨rfl, rfl, ⟨rfl, rfl, ⟨rfl, rfl, ⟨rfl, rfl, ⟨rfl, rfl, ⟨rfl, rfl, trivial⟩⟩⟩⟩⟩⟩⟩⟩
   ·exact Ax rfl hb9 (.move (.t rfl)) <| Ax rfl hb9 (.eqNilP (p := some ⟨(k).1, 0, none⟩) U29 (.t rfl)) <| Ao rfl (.pickF (.t rfl) hb9 (.t rfl)) <| WL.nil <| WN.meet false (Si hm) ⟨.q rfl, .q rfl, .q rfl, trivial⟩ ⟨rfl, rfl, ⟨rfl, rfl, ⟨rfl, rfl, ⟨rfl, rfl, ⟨rfl, rfl, ⟨rfl, rfl, ⟨rfl, rfl, ⟨rfl, rfl, trivial⟩⟩⟩⟩⟩⟩⟩⟩
theorem law14_few_spec (n : Nat) (l : List pandectlaw14_Call) (r : Bool) (hm : M.law14_few n l = some r) : FSpec Tryz.prog 6 [((tL tpandectlaw14_Call).is l)] (tB.is r) := by
 unfold M.law14_few at hm
 refine FSpec.of Tryz.func6 rfl rfl rfl fun g0 => Aw <| Ao rfl (.assign .bool) <| An <| W.seq <| Aw <| Ao rfl (.assign .i64) <| An <| W.block ?_
 obtain ⟨s1, hs2, hk3⟩ := Bs hm
 clear hm
 refine W.loop (fun m (s : Int) => M.law14_few_loop1 l m s = some s1) (fun s => [(3, (I6.is s)), (0, ((tL tpandectlaw14_Call).is l))]) (fun s => []) _ (0 : Int) hs2 ⟨.q rfl, .q rfl, trivial⟩ trivial ?_
 rintro n4 i hm
 try dsimp only at hm
 change W _ _ _ _ _ _ _ [(3, (I6.is i)), (0, ((tL tpandectlaw14_Call).is l))] []
 cases n4 with
 | zero => rw [M.law14_few_loop1.eq_1] at hm; cases hm
 | succ n4 =>
  rw [M.law14_few_loop1.eq_2] at hm
  refine W.seq <| Aw <| Am rfl rfl <| Am rfl rfl <| Ao rfl (.lenL U22 (.t rfl)) <| Ao rfl (.ltI (.t rfl) (.t rfl)) <| An <| W.cD hm (.t rfl) (fun hp6 hm => ?_) (fun hp6 hm => ?_)
  ·refine W.skip <| Aq <| W.seq <| W.block <| Aw <| Am rfl rfl <| WL.mv rfl rfl ?_
   obtain ⟨v, hv7, hm⟩ := Bs hm
   refine Ao rfl (.idx hv7 U22 Z52 (.t rfl) (.t rfl)) <| Ao rfl (.fieldAddr U52 rfl J9 fpandectlaw14_Call_2 (.t rfl)) <| Ao rfl (.load ty9 (.t rfl)) <| Ao rfl (.lenS U9 (.t rfl)) <| Ao rfl (.gtI (.t rfl) .i64) <| An <| W.cD hm (.t rfl) (fun hp9 hm => ?_) (fun hp9 hm => ?_)
   ·refine Aw <| Ao rfl (.assign .bool) <| WL.ns ?_
    have hr10 := Si hm
    clear hm
    subst hr10
    have hm := hk3
    try dsimp only at hm
    have hr := Si hm
    clear hm
    subst hr
    exact W.ret1 () rfl (.t rfl) trivial
   ·exact W.skip <| WN.block <| Aq <| W.region <| Am rfl rfl <| WL.lenL (s := 0) (.t rfl) fun hl11 => Ao rfl (.addI1 (.t rfl) .i64 hp6 hl11) <| Ag rfl rfl <| WL.nil <| WN.again n4 (i + 1) (Nat.lt_succ_self n4) hm ⟨.q rfl, .q rfl, trivial⟩ trivial
  ·refine W.exit rfl ?_
   have hr12 := Si hm
   clear hm
   subst hr12
   have hm := hk3
   try dsimp only at hm
   refine Aq <| Aw <| Am rfl rfl <| Ao rfl (.lenL U22 (.t rfl)) <| Ao rfl (.leI (.t rfl) .i64) <| Ag rfl rfl <| WL.ns ?_
   have hr := Si hm
   clear hm
   subst hr
   exact W.ret1 () rfl (.t rfl) trivial
theorem pagestore_Store_FailAfter_spec (s0_ : pagestore_Store) (n0_ : Int) (b : Nat) (k : Tok) (r : pagestore_Store) (hm : M.pagestore_Store_FailAfter s0_ n0_ = some r) : FSpecR Tryz.prog 22 [(Bp b 0), (I6.is n0_)] [(0, (Bx 5 true 56 ((tpagestore_Store_k0 k).is s0_) b)), (1000000, Dec.Own tS 9 k s0_.pages_.length)] (fun kx : Tok => (Asn.eq (.tuple #[]))) (fun kx : Tok => [(0, (Bx 5 true 56 ((tpagestore_Store_k0 kx).is r) b)), (1000000, Dec.Own tS 9 kx r.pages_.length)]) := by
 unfold M.pagestore_Store_FailAfter at hm
 refine FSpecR.of Tryz.func22 rfl rfl rfl fun g0 => W.region <| Am rfl rfl <| Am rfl rfl <| Ao rfl (.maxI (.t rfl) .i64) <| Ao rfl (.nilCheckB (.t rfl)) <| Ao rfl (.fieldAddrB (o := 0) Tryz.underlying56 rfl J3 (.t rfl) rfl) <| WL.opU (OpR.storeBF (b := b) 0 rfl ty3 (spagestore_Store_k0_3 k) rfl (show 3 + 1 ≤ 5 by decide) (.t rfl) (.t rfl)) fun _ => WL.nil ?_
 have hr := Si hm
 clear hm
 subst hr
 exact WN.fin k rfl (fun _ => rfl) ⟨rfl, rfl, ⟨rfl, rfl, trivial⟩⟩
theorem journal_Journal_Committed_spec (j : journal_Journal) (st : pagestore_Store) (b : Nat) (k : Tok) (b1 : Nat) (k1 : Tok) (r : Int) (hm : M.journal_Journal_Committed j st = some r) : FSpecR Tryz.prog 23 [(Bp b 0)] [(0, (Bx 5 true 60 ((tMap (tP (tOb b1) (tP (tOT tS k) (tP I6 (tOne tjournal_mark)))) (fun x : journal_Journal => (x.Store, x.texts_, x.lasting_, x.last_))).is j) b)), (1000000, Dec.Own tS 9 k j.texts_.length), (400000, (Bx 5 true 56 ((tpagestore_Store_k0 k1).is st) b1)), (1400000, Dec.Own tS 9 k1 st.pages_.length)] (fun kx : Unit => (I6.is r)) (fun kx : Unit => [(0, (Bx 5 true 60 ((tMap (tP (tOb b1) (tP (tOT tS k) (tP I6 (tOne tjournal_mark)))) (fun x : journal_Journal => (x.Store, x.texts_, x.lasting_, x.last_))).is j) b)), (1000000, Dec.Own tS 9 k j.texts_.length), (400000, (Bx 5 true 56 ((tpagestore_Store_k0 k1).is st) b1)), (1400000, Dec.Own tS 9 k1 st.pages_.length)]) := by
 unfold M.journal_Journal_Committed at hm
 refine FSpecR.of Tryz.func23 rfl rfl rfl fun g0 => Aw <| Ao rfl (.assign .i64) <| Ar <| Am rfl rfl <| Ao rfl (.nilCheckB (.t rfl)) <| Ao rfl (.fieldAddrB (o := 0) Tryz.underlying60 rfl J3 (.t rfl) rfl) <| Ao rfl (.loadBF (s := (tMap (tP (tOb b1) (tP (tOT tS k) (tP I6 (tOne tjournal_mark)))) (fun x : journal_Journal => (x.Store, x.texts_, x.lasting_, x.last_)))) (t := I6) (f := fun x : journal_Journal => x.lasting_) (u := j) 0 rfl ⟨ty3.agg, ty3.size⟩ ((Fld.map (m := (fun x : journal_Journal => (x.Store, x.texts_, x.lasting_, x.last_))) (Fld.next (s := (tOb b1)) (Fld.next (s := (tOT tS k)) (Fld.here I6 (tOne tjournal_mark))))).cast rfl rfl) rfl (.t rfl)) <| Ag rfl rfl <| WL.ns ?_
 have hr := Si hm
 clear hm
 subst hr
 exact W.ret1 () rfl (.t rfl) ⟨rfl, rfl, ⟨rfl, rfl, ⟨rfl, rfl, ⟨rfl, rfl, trivial⟩⟩⟩⟩
theorem journal_Journal_All_spec (j : journal_Journal) (st : pagestore_Store) (b : Nat) (k : Tok) (b1 : Nat) (k1 : Tok) (r : List Str) (hm : M.journal_Journal_All j st = some r) : FSpecR Tryz.prog 25 [(Bp b 0)] [(0, (Bx 5 true 60 ((tMap (tP (tOb b1) (tP (tOT tS k) (tP I6 (tOne tjournal_mark)))) (fun x : journal_Journal => (x.Store, x.texts_, x.lasting_, x.last_))).is j) b)), (1000000, Dec.Own tS 9 k j.texts_.length), (400000, (Bx 5 true 56 ((tpagestore_Store_k0 k1).is st) b1)), (1400000, Dec.Own tS 9 k1 st.pages_.length)] (fun kx : Unit => ((tL tS).is r)) (fun kx : Unit => [(0, (Bx 5 true 60 ((tMap (tP (tOb b1) (tP (tOT tS k) (tP I6 (tOne tjournal_mark)))) (fun x : journal_Journal => (x.Store, x.texts_, x.lasting_, x.last_))).is j) b)), (1000000, Dec.Own tS 9 k j.texts_.length), (400000, (Bx 5 true 56 ((tpagestore_Store_k0 k1).is st) b1)), (1400000, Dec.Own tS 9 k1 st.pages_.length)]) := by
 unfold M.journal_Journal_All at hm
 refine FSpecR.of Tryz.func25 rfl rfl rfl fun g0 => Aw <| Ao rfl (.assign (.nil (t := tS))) <| Ar <| Am rfl rfl <| Ao rfl (.nilCheckB (.t rfl)) <| Ao rfl (.fieldAddrB (o := 0) Tryz.underlying60 rfl J26 (.t rfl) rfl) <| Ao rfl (.ofOT (Op1.loadBF (s := (tMap (tP (tOb b1) (tP (tOT tS k) (tP I6 (tOne tjournal_mark)))) (fun x : journal_Journal => (x.Store, x.texts_, x.lasting_, x.last_)))) (t := (tOT tS k)) (f := fun x : journal_Journal => x.texts_) (u := j) 0 rfl ⟨ty26.agg, ty26.size⟩ ((Fld.map (m := (fun x : journal_Journal => (x.Store, x.texts_, x.lasting_, x.last_))) (Fld.next (s := (tOb b1)) (Fld.here (tOT tS k) (tP I6 (tOne tjournal_mark))))).cast rfl rfl) rfl (.t rfl))) ?_
 obtain ⟨string, hv1, hm⟩ := Bs hm
 refine Ao rfl (.call C35 ((slices_Clone_string_string_spec _ _ hv1).read fun _ _ _ => tO_tL) ⟨(Opd.own (.t rfl)), trivial⟩) <| Ag rfl rfl <| WL.ns ?_
 have hr := Si hm
 clear hm
 subst hr
 exact W.ret1 () rfl (.t rfl) ⟨rfl, rfl, ⟨rfl, rfl, ⟨rfl, rfl, ⟨rfl, rfl, trivial⟩⟩⟩⟩
theorem r14_Texts_spec (n : Nat) (a : List Str) (b : List Str) (r : Bool) (hm : M.r14_Texts n a b = some r) : FSpec Tryz.prog 24 [((tL tS).is a), ((tL tS).is b)] (tB.is r) := by
 unfold M.r14_Texts at hm
 refine FSpec.of Tryz.func24 rfl rfl rfl fun g0 => Aw <| Ao rfl (.assign .bool) <| An <| W.seq <| Aw <| Am rfl rfl <| Ao rfl (.lenL U26 (.t rfl)) <| Am rfl rfl <| Ao rfl (.lenL U26 (.t rfl)) <| Ao rfl (.neI (.t rfl) (.t rfl)) <| An <| W.cD hm (.t rfl) (fun hp2 hm => ?_) (fun hp2 hm => ?_)
 ·refine Aw <| Ao rfl (.assign .bool) <| WL.ns ?_
  have hr := Si hm
  clear hm
  subst hr
  exact W.ret1 () rfl (.t rfl) trivial
 ·refine W.skip <| Aq <| W.seq <| Aw <| Ao rfl (.assign .i64) <| An <| W.block ?_
  obtain ⟨s3, hs4, hk5⟩ := Bs hm
  clear hm
  refine W.loop (fun m (s : Int) => M.r14_Texts_loop1 a b m s = some s3) (fun s => [(5, (I6.is s)), (0, ((tL tS).is a)), (1, ((tL tS).is b))]) (fun s => []) _ (0 : Int) hs4 ⟨.q rfl, .q rfl, .q rfl, trivial⟩ trivial ?_
  rintro n6 i hm
  try dsimp only at hm
  change W _ _ _ _ _ _ _ [(5, (I6.is i)), (0, ((tL tS).is a)), (1, ((tL tS).is b))] []
  cases n6 with
  | zero => rw [M.r14_Texts_loop1.eq_1] at hm; cases hm
  | succ n6 =>
   rw [M.r14_Texts_loop1.eq_2] at hm
   refine W.seq <| Aw <| Am rfl rfl <| Am rfl rfl <| Ao rfl (.lenL U26 (.t rfl)) <| Ao rfl (.ltI (.t rfl) (.t rfl)) <| An <| W.cD hm (.t rfl) (fun hp8 hm => ?_) (fun hp8 hm => ?_)
   ·refine W.skip <| Aq <| W.seq <| W.block <| W.seq ?_
    obtain ⟨v, hv9, hm⟩ := Bs hm
    obtain ⟨v1, hv10, hm⟩ := Bs hm
    refine W.draw [.c _, .c _, .c _, .c _, .c _, .c _, .c _, .c _, .c _] [([], [0]), ([], [5]), ([0, 1], []), ([2], []), ([], [1]), ([], [5]), ([4, 5], []), ([6], []), ([3, 7], [])] Mx rfl rfl rfl rfl ⟨Dn (.move (.t rfl)), Dn (.move (.t rfl)), Dn (.idx hv9 U26 Z9 (.t rfl) (.t rfl)), Dn (.load ty9 (.t rfl)), Dn (.move (.t rfl)), Dn (.move (.t rfl)), Dn (.idx hv10 U26 Z9 (.t rfl) (.t rfl)), Dn (.load ty9 (.t rfl)), Dn (.neS (.t rfl) (.t rfl)), trivial⟩ <| Aq <| W.cB hm (.t rfl) (fun hp12 hm => ?_) (fun hp12 hm => ?_)
    ·refine Aw <| Ao rfl (.assign .bool) <| WL.ns ?_
     have hr13 := Si hm
     clear hm
     subst hr13
     have hm := hk5
     try dsimp only at hm
     have hr := Si hm
     clear hm
     subst hr
     exact W.ret1 () rfl (.t rfl) trivial
    ·exact W.skip <| WN.block <| Aq <| W.region <| Am rfl rfl <| WL.lenL (s := 0) (.t rfl) fun hl14 => Ao rfl (.addI1 (.t rfl) .i64 hp8 hl14) <| Ag rfl rfl <| WL.nil <| WN.again n6 (i + 1) (Nat.lt_succ_self n6) hm ⟨.q rfl, .q rfl, .q rfl, trivial⟩ trivial
   ·refine W.exit rfl ?_
    have hr15 := Si hm
    clear hm
    subst hr15
    have hm := hk5
    try dsimp only at hm
    refine Aq <| Aw <| Ao rfl (.assign .bool) <| WL.ns ?_
    have hr := Si hm
    clear hm
    subst hr
    exact W.ret1 () rfl (.t rfl) trivial
theorem law14_play_spec (n : Nat) (s0_ : pagestore_Store) (l : List pandectlaw14_Call) (b : Nat) (k : Tok) (r : ((Option journal_Journal) × (List Str) × Int × Bool) × pagestore_Store) (hm : M.law14_play n s0_ l = some r) : FSpecR Tryz.prog 7 [(Bp b 0), ((tL tpandectlaw14_Call).is l)] [(0, (Bx 5 true 56 ((tpagestore_Store_k0 k).is s0_) b)), (1000000, Dec.Own tS 9 k s0_.pages_.length), (700000, GlE 0), (700001, GlI 1), (700002, GlI 2), (700003, GlT Tryz.prog "internal/strconv.uint64pow10" .u64 Lib.pow10Tab), (700007, Gl (tA 64 (tI .u8)) 7 gv7)] (fun kx : (Nat × Tok) × (Tok) => (Asn.tuple4 (ObP (kx.1) r.1.1) ((tL tS).is r.1.2.1) (I6.is r.1.2.2.1) (tB.is r.1.2.2.2))) (fun kx : (Nat × Tok) × (Tok) => [(0, (Bx 5 true 56 ((tpagestore_Store_k0 (kx.2)).is r.2) b)), (1000000, Dec.Own tS 9 (kx.2) r.2.pages_.length), (700000, GlE 0), (700001, GlI 1), (700002, GlI 2), (700003, GlT Tryz.prog "internal/strconv.uint64pow10" .u64 Lib.pow10Tab), (700007, Gl (tA 64 (tI .u8)) 7 gv7), (88888, ObR (fun kq => (tMap (tP (tOb b) (tP (tOT tS kq) (tP I6 (tOne tjournal_mark)))) (fun x : journal_Journal => (x.Store, x.texts_, x.lasting_, x.last_)))) 60 tS 9 (fun x : journal_Journal => x.texts_) (kx.1) r.1.1)]) := by
 unfold M.law14_play at hm
 refine FSpecR.of Tryz.func7 rfl rfl rfl fun g0 => Aw <| Ao rfl (.assign (show Opd _ (Operand.const (Value.pointer none)) (Asn.eq (Value.pointer none)) from fun _ _ _ => rfl)) <| Ao rfl (.assign (.nil (t := tS))) <| Ao rfl (.assign .i64) <| Ao rfl (.assign .bool) <| Ar <| WL.mv rfl rfl ?_
 obtain ⟨open0_, hv1, hm⟩ := Bs hm
 refine WL.weakR (res' := [(0, (Bx 5 true 56 ((tpagestore_Store_k0 k).is s0_) b)), (1000000, Dec.Own tS 9 k s0_.pages_.length), (700000, GlE 0), (700001, GlI 1), (700002, GlI 2), (700003, GlT Tryz.prog "internal/strconv.uint64pow10" .u64 Lib.pow10Tab), (700007, Gl (tA 64 (tI .u8)) 7 gv7)]) ⟨rfl, rfl, ⟨rfl, rfl, ⟨rfl, rfl, ⟨rfl, rfl, ⟨rfl, rfl, ⟨rfl, rfl, ⟨rfl, rfl, trivial⟩⟩⟩⟩⟩⟩⟩ <| WL.opR rfl (OpR.call (us := [0, 1000000, 700000, 700001, 700002, 700003, 700007]) (A := fun kx : Nat × Tok => (Asn.tuple2 (ObP kx open0_.1) (I6.is open0_.2))) C14 (FSpecR.keys (rin' := [(0, (Bx 5 true 56 ((tpagestore_Store_k0 k).is s0_) b)), (1000000, Dec.Own tS 9 k s0_.pages_.length), (700000, GlE 0), (700001, GlI 1), (700002, GlI 2), (700003, GlT Tryz.prog "internal/strconv.uint64pow10" .u64 Lib.pow10Tab), (700007, Gl (tA 64 (tI .u8)) 7 gv7)]) (out' := fun kx : Nat × Tok => [(0, (Bx 5 true 56 ((tpagestore_Store_k0 k).is s0_) b)), (1000000, Dec.Own tS 9 k s0_.pages_.length), (700000, GlE 0), (700001, GlI 1), (700002, GlI 2), (700003, GlT Tryz.prog "internal/strconv.uint64pow10" .u64 Lib.pow10Tab), (700007, Gl (tA 64 (tI .u8)) 7 gv7), (19, ObR (fun kq => (tMap (tP (tOb b) (tP (tOT tS kq) (tP I6 (tOne tjournal_mark)))) (fun x : journal_Journal => (x.Store, x.texts_, x.lasting_, x.last_)))) 60 tS 9 (fun x : journal_Journal => x.texts_) kx open0_.1)]) (journal_Open_spec _ _ _ _ _ hv1) rfl (fun _ => rfl)) rfl ⟨(.t rfl), trivial⟩) fun k1 => Am rfl rfl <| Ao rfl (.extract0 (.t rfl)) <| Ao rfl (.extract1 (.t rfl)) <| Ag rfl rfl <| Ag rfl rfl <| An <| W.seq ?_
 obtain ⟨s2, hs3, hk4⟩ := Bs hm
 clear hm
 refine W.join (fun s : Bool => s = s2) (fun s => [(27, (tB.is s)), (0, (Bp b 0)), (1, ((tL tpandectlaw14_Call).is l)), (8, (ObP k1 open0_.1))]) (fun s => [(19, ObR (fun kq => (tMap (tP (tOb b) (tP (tOT tS kq) (tP I6 (tOne tjournal_mark)))) (fun x : journal_Journal => (x.Store, x.texts_, x.lasting_, x.last_)))) 60 tS 9 (fun x : journal_Journal => x.texts_) k1 open0_.1), (1000000, Dec.Own tS 9 k s0_.pages_.length), (0, (Bx 5 true 56 ((tpagestore_Store_k0 k).is s0_) b)), (700000, GlE 0), (700001, GlI 1), (700002, GlI 2), (700003, GlT Tryz.prog "internal/strconv.uint64pow10" .u64 Lib.pow10Tab), (700007, Gl (tA 64 (tI .u8)) 7 gv7)]) ?_ ?_
 ·rintro v hj127
  try dsimp only at hj127
  subst hj127
  have hm := hk4
  clear hk4
  try dsimp only at hm
  change W _ _ _ _ _ _ _ [(27, (tB.is v)), (0, (Bp b 0)), (1, ((tL tpandectlaw14_Call).is l)), (8, (ObP k1 open0_.1))] [(19, ObR (fun kq => (tMap (tP (tOb b) (tP (tOT tS kq) (tP I6 (tOne tjournal_mark)))) (fun x : journal_Journal => (x.Store, x.texts_, x.lasting_, x.last_)))) 60 tS 9 (fun x : journal_Journal => x.texts_) k1 open0_.1), (1000000, Dec.Own tS 9 k s0_.pages_.length), (0, (Bx 5 true 56 ((tpagestore_Store_k0 k).is s0_) b)), (700000, GlE 0), (700001, GlI 1), (700002, GlI 2), (700003, GlT Tryz.prog "internal/strconv.uint64pow10" .u64 Lib.pow10Tab), (700007, Gl (tA 64 (tI .u8)) 7 gv7)]
  refine W.cB hm (.t rfl) (fun hp8 hm => ?_) (fun hp8 hm => ?_)
  ·refine Aw <| Ao rfl (.assign (show Opd _ (Operand.const (Value.pointer none)) (Asn.eq (Value.pointer none)) from fun _ _ _ => rfl)) <| Ao rfl (.assign (.nil (t := tS))) <| Ao rfl (.assign .i64) <| Ao rfl (.assign .bool) <| WL.ns ?_
   have hr := Si hm
   clear hm
   subst hr
   exact W.obNil (fun kq => (tMap (tP (tOb b) (tP (tOT tS kq) (tP I6 (tOne tjournal_mark)))) (fun x : journal_Journal => (x.Store, x.texts_, x.lasting_, x.last_)))) 60 tS 9 (fun x : journal_Journal => x.texts_) (0, none) 4 88888 rfl <| W.ret4 (((0, none) : Nat × Tok), k) rfl rfl (.t rfl) (.t rfl) (.t rfl) (.t rfl) ⟨rfl, rfl, ⟨rfl, rfl, ⟨rfl, rfl, ⟨rfl, rfl, ⟨rfl, rfl, ⟨rfl, rfl, ⟨rfl, rfl, ⟨rfl, rfl, trivial⟩⟩⟩⟩⟩⟩⟩⟩
  ·refine W.skip <| Aq <| Aw <| WL.opR rfl (OpR.buildSlice (n := 0) (ys := []) (z := ([] : Str)) (xs := ([] : List Str)) 28 U26 el9 ze9 trivial (by simp) (by decide) rfl) fun k2 => WL.freeU (t := tS) (E := 9) 28 28 rfl rfl <| Ag rfl rfl <| Ao rfl (.assign .i64) <| An <| W.seq <| Aw <| Ao rfl (.assign .i64) <| An <| W.block <| W.weakR (res' := [(19, ObR (fun kq => (tMap (tP (tOb b) (tP (tOT tS kq) (tP I6 (tOne tjournal_mark)))) (fun x : journal_Journal => (x.Store, x.texts_, x.lasting_, x.last_)))) 60 tS 9 (fun x : journal_Journal => x.texts_) k1 open0_.1), (1000000, Dec.Own tS 9 k s0_.pages_.length), (28, OwnU tS 9 k2 ([] : List Str)), (0, (Bx 5 true 56 ((tpagestore_Store_k0 k).is s0_) b)), (700000, GlE 0), (700001, GlI 1), (700002, GlI 2), (700003, GlT Tryz.prog "internal/strconv.uint64pow10" .u64 Lib.pow10Tab), (700007, Gl (tA 64 (tI .u8)) 7 gv7)]) ⟨rfl, rfl, ⟨rfl, rfl, ⟨rfl, rfl, ⟨rfl, rfl, ⟨rfl, rfl, ⟨rfl, rfl, ⟨rfl, rfl, ⟨rfl, rfl, ⟨rfl, rfl, trivial⟩⟩⟩⟩⟩⟩⟩⟩⟩ <| W.rekey (res' := [(300008, ObR (fun kq => (tMap (tP (tOb b) (tP (tOT tS kq) (tP I6 (tOne tjournal_mark)))) (fun x : journal_Journal => (x.Store, x.texts_, x.lasting_, x.last_)))) 60 tS 9 (fun x : journal_Journal => x.texts_) k1 open0_.1), (1000000, Dec.Own tS 9 k s0_.pages_.length), (28, OwnU tS 9 k2 ([] : List Str)), (0, (Bx 5 true 56 ((tpagestore_Store_k0 k).is s0_) b)), (700000, GlE 0), (700001, GlI 1), (700002, GlI 2), (700003, GlT Tryz.prog "internal/strconv.uint64pow10" .u64 Lib.pow10Tab), (700007, Gl (tA 64 (tI .u8)) 7 gv7)]) rfl ?_
   obtain ⟨s9, hs10, hk11⟩ := Bs hm
   clear hm
   refine W.loop (fun m (s : ((Option journal_Journal) × (List Str) × Int × Int × pagestore_Store) × ((Nat × Tok) × Tok × Tok)) => M.law14_play_loop1 l m s.1.1 s.1.2.1 s.1.2.2.1 s.1.2.2.2.1 s.1.2.2.2.2 = some s9) (fun s => [(8, (ObP s.2.1 s.1.1)), (10, (tU s.2.2.1 s.1.2.1.length)), (11, (I6.is s.1.2.2.1)), (12, (I6.is s.1.2.2.2.1)), (0, (Bp b 0)), (1, ((tL tpandectlaw14_Call).is l))]) (fun s => [(300008, ObR (fun kq => (tMap (tP (tOb b) (tP (tOT tS kq) (tP I6 (tOne tjournal_mark)))) (fun x : journal_Journal => (x.Store, x.texts_, x.lasting_, x.last_)))) 60 tS 9 (fun x : journal_Journal => x.texts_) s.2.1 s.1.1), (28, OwnU tS 9 s.2.2.1 s.1.2.1), (1000000, Dec.Own tS 9 s.2.2.2 s.1.2.2.2.2.pages_.length), (0, (Bx 5 true 56 ((tpagestore_Store_k0 s.2.2.2).is s.1.2.2.2.2) b)), (700000, GlE 0), (700001, GlI 1), (700002, GlI 2), (700003, GlT Tryz.prog "internal/strconv.uint64pow10" .u64 Lib.pow10Tab), (700007, Gl (tA 64 (tI .u8)) 7 gv7)]) _ ((open0_.1, ([] : List Str), (0 : Int), (0 : Int), s0_), (k1, k2, k)) hs10 ⟨.q rfl, .q rfl, .q rfl, .q rfl, .q rfl, .q rfl, trivial⟩ ⟨rfl, rfl, ⟨rfl, rfl, ⟨rfl, rfl, ⟨rfl, rfl, ⟨rfl, rfl, ⟨rfl, rfl, ⟨rfl, rfl, ⟨rfl, rfl, ⟨rfl, rfl, trivial⟩⟩⟩⟩⟩⟩⟩⟩⟩ ?_
   rintro n12 ⟨⟨j, texts, lasting, i, s0_1⟩, ⟨k3, k4, k5⟩⟩ hm
   try dsimp only at hm
   change W _ _ _ _ _ _ _ [(8, (ObP k3 j)), (10, (tU k4 texts.length)), (11, (I6.is lasting)), (12, (I6.is i)), (0, (Bp b 0)), (1, ((tL tpandectlaw14_Call).is l))] [(300008, ObR (fun kq => (tMap (tP (tOb b) (tP (tOT tS kq) (tP I6 (tOne tjournal_mark)))) (fun x : journal_Journal => (x.Store, x.texts_, x.lasting_, x.last_)))) 60 tS 9 (fun x : journal_Journal => x.texts_) k3 j), (28, OwnU tS 9 k4 texts), (1000000, Dec.Own tS 9 k5 s0_1.pages_.length), (0, (Bx 5 true 56 ((tpagestore_Store_k0 k5).is s0_1) b)), (700000, GlE 0), (700001, GlI 1), (700002, GlI 2), (700003, GlT Tryz.prog "internal/strconv.uint64pow10" .u64 Lib.pow10Tab), (700007, Gl (tA 64 (tI .u8)) 7 gv7)]
   cases n12 with
   | zero => rw [M.law14_play_loop1.eq_1] at hm; cases hm
   | succ n12 =>
    rw [M.law14_play_loop1.eq_2] at hm
    refine W.seq <| Aw <| Am rfl rfl <| Am rfl rfl <| Ao rfl (.lenL U22 (.t rfl)) <| Ao rfl (.ltI (.t rfl) (.t rfl)) <| An <| W.cD hm (.t rfl) (fun hp14 hm => ?_) (fun hp14 hm => ?_)
    ·refine W.skip <| Aq <| W.seq <| W.block <| Aw <| WL.mv rfl rfl ?_
     obtain ⟨failed, hv15, hm⟩ := Bs hm
     refine WL.weakR (res' := [(0, (Bx 5 true 56 ((tpagestore_Store_k0 k5).is s0_1) b)), (1000000, Dec.Own tS 9 k5 s0_1.pages_.length), (300008, ObR (fun kq => (tMap (tP (tOb b) (tP (tOT tS kq) (tP I6 (tOne tjournal_mark)))) (fun x : journal_Journal => (x.Store, x.texts_, x.lasting_, x.last_)))) 60 tS 9 (fun x : journal_Journal => x.texts_) k3 j), (28, OwnU tS 9 k4 texts), (700000, GlE 0), (700001, GlI 1), (700002, GlI 2), (700003, GlT Tryz.prog "internal/strconv.uint64pow10" .u64 Lib.pow10Tab), (700007, Gl (tA 64 (tI .u8)) 7 gv7)]) ⟨rfl, rfl, ⟨rfl, rfl, ⟨rfl, rfl, ⟨rfl, rfl, ⟨rfl, rfl, ⟨rfl, rfl, ⟨rfl, rfl, ⟨rfl, rfl, ⟨rfl, rfl, trivial⟩⟩⟩⟩⟩⟩⟩⟩⟩ <| WL.opR rfl (OpR.call (us := [0, 1000000]) (A := fun kx : Unit => (tB.is failed)) C21 (FSpecR.keys (rin' := [(0, (Bx 5 true 56 ((tpagestore_Store_k0 k5).is s0_1) b)), (1000000, Dec.Own tS 9 k5 s0_1.pages_.length)]) (out' := fun kx : Unit => [(0, (Bx 5 true 56 ((tpagestore_Store_k0 k5).is s0_1) b)), (1000000, Dec.Own tS 9 k5 s0_1.pages_.length)]) (pagestore_Store_Failed_spec _ _ _ _ hv15) rfl (fun _ => rfl)) rfl ⟨(.t rfl), trivial⟩) fun _ => Ag rfl rfl <| WL.ns ?_
     obtain ⟨s16, hs17, hk18⟩ := Bs hm
     clear hm
     refine W.join (fun s : ((Option journal_Journal) × (List Str) × Int × pagestore_Store) × (Nat × Tok) × Tok × Tok => (Sum.inl s.1 : ((Option journal_Journal) × (List Str) × Int × pagestore_Store) ⊕ (((Option journal_Journal) × (List Str) × Int × Bool) × pagestore_Store)) = s16) (fun s => [(8, (ObP s.2.1 s.1.1)), (10, (tU s.2.2.1 s.1.2.1.length)), (11, (I6.is s.1.2.2.1)), (0, (Bp b 0)), (1, ((tL tpandectlaw14_Call).is l)), (12, (I6.is i))]) (fun s => [(300008, ObR (fun kq => (tMap (tP (tOb b) (tP (tOT tS kq) (tP I6 (tOne tjournal_mark)))) (fun x : journal_Journal => (x.Store, x.texts_, x.lasting_, x.last_)))) 60 tS 9 (fun x : journal_Journal => x.texts_) s.2.1 s.1.1), (28, OwnU tS 9 s.2.2.1 s.1.2.1), (1000000, Dec.Own tS 9 s.2.2.2 s.1.2.2.2.pages_.length), (0, (Bx 5 true 56 ((tpagestore_Store_k0 s.2.2.2).is s.1.2.2.2) b)), (700000, GlE 0), (700001, GlI 1), (700002, GlI 2), (700003, GlT Tryz.prog "internal/strconv.uint64pow10" .u64 Lib.pow10Tab), (700007, Gl (tA 64 (tI .u8)) 7 gv7)]) ?_ ?_
     ·rintro ⟨⟨j1, texts1, lasting1, s0_2⟩, ⟨k6, k7, k8⟩⟩ hj125
      try dsimp only at hj125
      subst hj125
      have hm := hk18
      clear hk18
      try dsimp only at hm
      change W _ _ _ _ _ _ _ [(8, (ObP k6 j1)), (10, (tU k7 texts1.length)), (11, (I6.is lasting1)), (0, (Bp b 0)), (1, ((tL tpandectlaw14_Call).is l)), (12, (I6.is i))] [(300008, ObR (fun kq => (tMap (tP (tOb b) (tP (tOT tS kq) (tP I6 (tOne tjournal_mark)))) (fun x : journal_Journal => (x.Store, x.texts_, x.lasting_, x.last_)))) 60 tS 9 (fun x : journal_Journal => x.texts_) k6 j1), (28, OwnU tS 9 k7 texts1), (1000000, Dec.Own tS 9 k8 s0_2.pages_.length), (0, (Bx 5 true 56 ((tpagestore_Store_k0 k8).is s0_2) b)), (700000, GlE 0), (700001, GlI 1), (700002, GlI 2), (700003, GlT Tryz.prog "internal/strconv.uint64pow10" .u64 Lib.pow10Tab), (700007, Gl (tA 64 (tI .u8)) 7 gv7)]
      refine W.seq ?_
      obtain ⟨j4, hv110, hm⟩ := Bs hm
      refine W.obOpen (t := (fun kq => (tMap (tP (tOb b) (tP (tOT tS kq) (tP I6 (tOne tjournal_mark)))) (fun x : journal_Journal => (x.Store, x.texts_, x.lasting_, x.last_))))) (T := 60) (te := tS) (E := 9) (f := (fun x : journal_Journal => x.texts_)) (c := k6) (u := j4) (o := j1) (key := 300008) 8 300008 1300008 hv110 rfl rfl <| W.region <| WL.mv rfl rfl ?_
      obtain ⟨len, hv111, hm⟩ := Bs hm
      refine WL.weakR (res' := [(300008, (Bx 5 true 60 ((tMap (tP (tOb b) (tP (tOT tS (k6).2) (tP I6 (tOne tjournal_mark)))) (fun x : journal_Journal => (x.Store, x.texts_, x.lasting_, x.last_))).is j4) (k6).1)), (1300008, Dec.Own tS 9 (k6).2 j4.texts_.length), (0, (Bx 5 true 56 ((tpagestore_Store_k0 k8).is s0_2) b)), (1000000, Dec.Own tS 9 k8 s0_2.pages_.length), (28, OwnU tS 9 k7 texts1), (700000, GlE 0), (700001, GlI 1), (700002, GlI 2), (700003, GlT Tryz.prog "internal/strconv.uint64pow10" .u64 Lib.pow10Tab), (700007, Gl (tA 64 (tI .u8)) 7 gv7)]) ⟨rfl, rfl, ⟨rfl, rfl, ⟨rfl, rfl, ⟨rfl, rfl, ⟨rfl, rfl, ⟨rfl, rfl, ⟨rfl, rfl, ⟨rfl, rfl, ⟨rfl, rfl, ⟨rfl, rfl, trivial⟩⟩⟩⟩⟩⟩⟩⟩⟩⟩ <| WL.opR rfl (OpR.call (us := [300008, 1300008, 0, 1000000]) (A := fun kx : Unit => (I6.is len)) C19 (FSpecR.keys (rin' := [(300008, (Bx 5 true 60 ((tMap (tP (tOb b) (tP (tOT tS (k6).2) (tP I6 (tOne tjournal_mark)))) (fun x : journal_Journal => (x.Store, x.texts_, x.lasting_, x.last_))).is j4) (k6).1)), (1300008, Dec.Own tS 9 (k6).2 j4.texts_.length), (0, (Bx 5 true 56 ((tpagestore_Store_k0 k8).is s0_2) b)), (1000000, Dec.Own tS 9 k8 s0_2.pages_.length)]) (out' := fun kx : Unit => [(300008, (Bx 5 true 60 ((tMap (tP (tOb b) (tP (tOT tS (k6).2) (tP I6 (tOne tjournal_mark)))) (fun x : journal_Journal => (x.Store, x.texts_, x.lasting_, x.last_))).is j4) (k6).1)), (1300008, Dec.Own tS 9 (k6).2 j4.texts_.length), (0, (Bx 5 true 56 ((tpagestore_Store_k0 k8).is s0_2) b)), (1000000, Dec.Own tS 9 k8 s0_2.pages_.length)]) (journal_Journal_Len_spec _ _ _ _ _ _ _ hv111) rfl (fun _ => rfl)) rfl ⟨(.t rfl), trivial⟩) fun _ => Am rfl rfl <| Ao rfl (.lenU U26 (.t rfl)) <| Ao rfl (.neI (.t rfl) (.t rfl)) <| WL.mv rfl rfl ?_
      rcases iteD hm with ⟨hp113, hb112, hm⟩ | ⟨hp113, hb112, hm⟩
      ·refine Ap rfl hb112 <| Ap rfl hb112 <| Ap rfl hb112 <| Ap rfl hb112 <| Ao rfl (.pickT (.t rfl) hb112 .bool) <| Am rfl rfl <| Ap rfl rfl <| Ap rfl rfl <| Ap rfl rfl <| Ap rfl rfl <| Ap rfl rfl <| Ao rfl (.pickT (.t rfl) rfl .bool) <| An <| W.condT (.t rfl) <| Aw <| Ao rfl (.assign (show Opd _ (Operand.const (Value.pointer none)) (Asn.eq (Value.pointer none)) from fun _ _ _ => rfl)) ?_
       refine Ao rfl (.assign (.nil (t := tS))) <| Ao rfl (.assign .i64) <| Ao rfl (.assign .bool) <| WL.ns ?_
       have hr114 := Si hm
       clear hm
       subst hr114
       have hm := hk11
       try dsimp only at hm
       have hr := Si hm
       clear hm
       subst hr
       exact W.obNil (fun kq => (tMap (tP (tOb b) (tP (tOT tS kq) (tP I6 (tOne tjournal_mark)))) (fun x : journal_Journal => (x.Store, x.texts_, x.lasting_, x.last_)))) 60 tS 9 (fun x : journal_Journal => x.texts_) (0, none) 4 88888 rfl <| W.ret4 (((0, none) : Nat × Tok), k8) rfl rfl (.t rfl) (.t rfl) (.t rfl) (.t rfl) ⟨rfl, rfl, ⟨rfl, rfl, ⟨rfl, rfl, ⟨rfl, rfl, ⟨rfl, rfl, ⟨rfl, rfl, ⟨rfl, rfl, ⟨rfl, rfl, trivial⟩⟩⟩⟩⟩⟩⟩⟩
      ·refine Ax rfl hb112 (.move (.t rfl)) ?_
       obtain ⟨commit1, hv115, hm⟩ := Bs hm
       refine WL.weakR (res' := [(300008, (Bx 5 true 60 ((tMap (tP (tOb b) (tP (tOT tS (k6).2) (tP I6 (tOne tjournal_mark)))) (fun x : journal_Journal => (x.Store, x.texts_, x.lasting_, x.last_))).is j4) (k6).1)), (1300008, Dec.Own tS 9 (k6).2 j4.texts_.length), (0, (Bx 5 true 56 ((tpagestore_Store_k0 k8).is s0_2) b)), (1000000, Dec.Own tS 9 k8 s0_2.pages_.length), (28, OwnU tS 9 k7 texts1), (700000, GlE 0), (700001, GlI 1), (700002, GlI 2), (700003, GlT Tryz.prog "internal/strconv.uint64pow10" .u64 Lib.pow10Tab), (700007, Gl (tA 64 (tI .u8)) 7 gv7)]) ⟨rfl, rfl, ⟨rfl, rfl, ⟨rfl, rfl, ⟨rfl, rfl, ⟨rfl, rfl, ⟨rfl, rfl, ⟨rfl, rfl, ⟨rfl, rfl, ⟨rfl, rfl, ⟨rfl, rfl, trivial⟩⟩⟩⟩⟩⟩⟩⟩⟩⟩ <| WL.runR rfl rfl rfl rfl hb112 rfl rfl (OpR.call (us := [300008, 1300008, 0, 1000000]) (A := fun kx : Unit => (I6.is commit1)) C23 (FSpecR.keys (rin' := [(300008, (Bx 5 true 60 ((tMap (tP (tOb b) (tP (tOT tS (k6).2) (tP I6 (tOne tjournal_mark)))) (fun x : journal_Journal => (x.Store, x.texts_, x.lasting_, x.last_))).is j4) (k6).1)), (1300008, Dec.Own tS 9 (k6).2 j4.texts_.length), (0, (Bx 5 true 56 ((tpagestore_Store_k0 k8).is s0_2) b)), (1000000, Dec.Own tS 9 k8 s0_2.pages_.length)]) (out' := fun kx : Unit => [(300008, (Bx 5 true 60 ((tMap (tP (tOb b) (tP (tOT tS (k6).2) (tP I6 (tOne tjournal_mark)))) (fun x : journal_Journal => (x.Store, x.texts_, x.lasting_, x.last_))).is j4) (k6).1)), (1300008, Dec.Own tS 9 (k6).2 j4.texts_.length), (0, (Bx 5 true 56 ((tpagestore_Store_k0 k8).is s0_2) b)), (1000000, Dec.Own tS 9 k8 s0_2.pages_.length)]) (journal_Journal_Committed_spec _ _ _ _ _ _ _ hv115) rfl (fun _ => rfl)) rfl ⟨(.t rfl), trivial⟩) fun _ => Ax rfl hb112 (.move (.t rfl)) <| Ax rfl hb112 (.neI (.t rfl) (.t rfl)) <| Ao rfl (.pickF (.t rfl) hb112 (.t rfl)) <| WL.mv rfl rfl ?_
       rcases iteD hm with ⟨hp117, hb116, hm⟩ | ⟨hp117, hb116, hm⟩
       ·refine Ap rfl hb116 <| Ap rfl hb116 <| Ap rfl hb116 <| Ap rfl hb116 <| Ap rfl hb116 <| Ao rfl (.pickT (.t rfl) hb116 .bool) <| An <| W.condT (.t rfl) <| Aw <| Ao rfl (.assign (show Opd _ (Operand.const (Value.pointer none)) (Asn.eq (Value.pointer none)) from fun _ _ _ => rfl)) <| Ao rfl (.assign (.nil (t := tS))) <| Ao rfl (.assign .i64) <| Ao rfl (.assign .bool) <| WL.ns ?_
        have hr118 := Si hm
        clear hm
        subst hr118
        have hm := hk11
        try dsimp only at hm
        have hr := Si hm
        clear hm
        subst hr
        exact W.obNil (fun kq => (tMap (tP (tOb b) (tP (tOT tS kq) (tP I6 (tOne tjournal_mark)))) (fun x : journal_Journal => (x.Store, x.texts_, x.lasting_, x.last_)))) 60 tS 9 (fun x : journal_Journal => x.texts_) (0, none) 4 88888 rfl <| W.ret4 (((0, none) : Nat × Tok), k8) rfl rfl (.t rfl) (.t rfl) (.t rfl) (.t rfl) ⟨rfl, rfl, ⟨rfl, rfl, ⟨rfl, rfl, ⟨rfl, rfl, ⟨rfl, rfl, ⟨rfl, rfl, ⟨rfl, rfl, ⟨rfl, rfl, trivial⟩⟩⟩⟩⟩⟩⟩⟩
       ·refine Ax rfl hb116 (.move (.t rfl)) ?_
        obtain ⟨all, hv119, hm⟩ := Bs hm
        refine WL.weakR (res' := [(300008, (Bx 5 true 60 ((tMap (tP (tOb b) (tP (tOT tS (k6).2) (tP I6 (tOne tjournal_mark)))) (fun x : journal_Journal => (x.Store, x.texts_, x.lasting_, x.last_))).is j4) (k6).1)), (1300008, Dec.Own tS 9 (k6).2 j4.texts_.length), (0, (Bx 5 true 56 ((tpagestore_Store_k0 k8).is s0_2) b)), (1000000, Dec.Own tS 9 k8 s0_2.pages_.length), (28, OwnU tS 9 k7 texts1), (700000, GlE 0), (700001, GlI 1), (700002, GlI 2), (700003, GlT Tryz.prog "internal/strconv.uint64pow10" .u64 Lib.pow10Tab), (700007, Gl (tA 64 (tI .u8)) 7 gv7)]) ⟨rfl, rfl, ⟨rfl, rfl, ⟨rfl, rfl, ⟨rfl, rfl, ⟨rfl, rfl, ⟨rfl, rfl, ⟨rfl, rfl, ⟨rfl, rfl, ⟨rfl, rfl, ⟨rfl, rfl, trivial⟩⟩⟩⟩⟩⟩⟩⟩⟩⟩ <| WL.runR rfl rfl rfl rfl hb116 rfl rfl (OpR.call (us := [300008, 1300008, 0, 1000000]) (A := fun kx : Unit => ((tL tS).is all)) C25 (FSpecR.keys (rin' := [(300008, (Bx 5 true 60 ((tMap (tP (tOb b) (tP (tOT tS (k6).2) (tP I6 (tOne tjournal_mark)))) (fun x : journal_Journal => (x.Store, x.texts_, x.lasting_, x.last_))).is j4) (k6).1)), (1300008, Dec.Own tS 9 (k6).2 j4.texts_.length), (0, (Bx 5 true 56 ((tpagestore_Store_k0 k8).is s0_2) b)), (1000000, Dec.Own tS 9 k8 s0_2.pages_.length)]) (out' := fun kx : Unit => [(300008, (Bx 5 true 60 ((tMap (tP (tOb b) (tP (tOT tS (k6).2) (tP I6 (tOne tjournal_mark)))) (fun x : journal_Journal => (x.Store, x.texts_, x.lasting_, x.last_))).is j4) (k6).1)), (1300008, Dec.Own tS 9 (k6).2 j4.texts_.length), (0, (Bx 5 true 56 ((tpagestore_Store_k0 k8).is s0_2) b)), (1000000, Dec.Own tS 9 k8 s0_2.pages_.length)]) (journal_Journal_All_spec _ _ _ _ _ _ _ hv119) rfl (fun _ => rfl)) rfl ⟨(.t rfl), trivial⟩) fun _ => Ax rfl hb116 (.move (.t rfl)) ?_
        obtain ⟨texts2, hv120, hm⟩ := Bs hm
        refine WL.runR rfl rfl rfl rfl hb116 rfl rfl (OpR.lookU (t := tS) (n := 169) (key := 28) fl9 Flat.B C24 (r14_Texts_spec _ _ _ _ hv120) rfl ⟨(.t rfl), (Opd.own (.t rfl)), trivial⟩ rfl) fun _ => Ax rfl hb116 (.notB (.t rfl)) <| Ao rfl (.pickF (.t rfl) hb116 (.t rfl)) <| An <| W.cR hm (.t rfl) (fun hp122 hm => ?_) (fun hp122 hm => ?_)
        ·refine Aw <| Ao rfl (.assign (show Opd _ (Operand.const (Value.pointer none)) (Asn.eq (Value.pointer none)) from fun _ _ _ => rfl)) <| Ao rfl (.assign (.nil (t := tS))) <| Ao rfl (.assign .i64) <| Ao rfl (.assign .bool) <| WL.ns ?_
         have hr123 := Si hm
         clear hm
         subst hr123
         have hm := hk11
         try dsimp only at hm
         have hr := Si hm
         clear hm
         subst hr
         exact W.obNil (fun kq => (tMap (tP (tOb b) (tP (tOT tS kq) (tP I6 (tOne tjournal_mark)))) (fun x : journal_Journal => (x.Store, x.texts_, x.lasting_, x.last_)))) 60 tS 9 (fun x : journal_Journal => x.texts_) (0, none) 4 88888 rfl <| W.ret4 (((0, none) : Nat × Tok), k8) rfl rfl (.t rfl) (.t rfl) (.t rfl) (.t rfl) ⟨rfl, rfl, ⟨rfl, rfl, ⟨rfl, rfl, ⟨rfl, rfl, ⟨rfl, rfl, ⟨rfl, rfl, ⟨rfl, rfl, ⟨rfl, rfl, trivial⟩⟩⟩⟩⟩⟩⟩⟩
        ·exact W.skip <| WN.block <| Aq <| W.region <| Am rfl rfl <| WL.lenL (s := 1) (.t rfl) fun hl124 => Ao rfl (.addI1 (.t rfl) .i64 hp14 hl124) <| Ag rfl rfl <| WL.nil <| WN.obClose (k1 := 300008) (k2 := 1300008) (fun kq => (tMap (tP (tOb b) (tP (tOT tS kq) (tP I6 (tOne tjournal_mark)))) (fun x : journal_Journal => (x.Store, x.texts_, x.lasting_, x.last_)))) tS (fun x : journal_Journal => x.texts_) k6 j4 8 300008 rfl rfl (by decide) rfl <| WN.again n12 ((some j4, texts1, lasting1, i + 1, s0_2), (k6, k7, k8)) (Nat.lt_succ_self n12) hm ⟨.q rfl, .q rfl, .q rfl, .q rfl, .q rfl, .q rfl, trivial⟩ ⟨rfl, rfl, ⟨rfl, rfl, ⟨rfl, rfl, ⟨rfl, rfl, ⟨rfl, rfl, ⟨rfl, rfl, ⟨rfl, rfl, ⟨rfl, rfl, ⟨rfl, rfl, trivial⟩⟩⟩⟩⟩⟩⟩⟩⟩
     ·have hm := hs17
      clear hs17
      refine Aw <| Am rfl rfl <| WL.mv rfl rfl ?_
      obtain ⟨v1, hv19, hm⟩ := Bs hm
      refine Ao rfl (.idx hv19 U22 Z52 (.t rfl) (.t rfl)) <| Ao rfl (.fieldAddr U52 rfl J3 fpandectlaw14_Call_0 (.t rfl)) <| Ao rfl (.load ty3 (.t rfl)) <| An <| W.block <| Aw <| Ao rfl (.eqI (.t rfl) .i64) <| Ag rfl rfl <| An <| W.cD hm (.t rfl) (fun hp21 hm => ?_) (fun hp21 hm => ?_)
      ·refine W.seq ?_
       obtain ⟨j2, hv22, hm⟩ := Bs hm
       refine W.obOpen (t := (fun kq => (tMap (tP (tOb b) (tP (tOT tS kq) (tP I6 (tOne tjournal_mark)))) (fun x : journal_Journal => (x.Store, x.texts_, x.lasting_, x.last_))))) (T := 60) (te := tS) (E := 9) (f := (fun x : journal_Journal => x.texts_)) (c := k3) (u := j2) (o := j) (key := 300008) 8 300008 1300008 hv22 rfl rfl <| W.region <| Am rfl rfl <| Am rfl rfl <| WL.mv rfl rfl ?_
       obtain ⟨v2, hv23, hm⟩ := Bs hm
       refine Ao rfl (.idx hv23 U22 Z52 (.t rfl) (.t rfl)) <| Ao rfl (.fieldAddr U52 rfl J9 fpandectlaw14_Call_2 (.t rfl)) <| Ao rfl (.load ty9 (.t rfl)) ?_
       obtain ⟨⟨append, w, s0_3⟩, hv24, hm⟩ := Bs hm
       dsimp only at hm
       refine WL.weakR (res' := [(300008, (Bx 5 true 60 ((tMap (tP (tOb b) (tP (tOT tS (k3).2) (tP I6 (tOne tjournal_mark)))) (fun x : journal_Journal => (x.Store, x.texts_, x.lasting_, x.last_))).is j2) (k3).1)), (1300008, Dec.Own tS 9 (k3).2 j2.texts_.length), (0, (Bx 5 true 56 ((tpagestore_Store_k0 k5).is s0_1) b)), (1000000, Dec.Own tS 9 k5 s0_1.pages_.length), (700003, GlT Tryz.prog "internal/strconv.uint64pow10" .u64 Lib.pow10Tab), (700007, Gl (tA 64 (tI .u8)) 7 gv7), (28, OwnU tS 9 k4 texts), (700000, GlE 0), (700001, GlI 1), (700002, GlI 2)]) ⟨rfl, rfl, ⟨rfl, rfl, ⟨rfl, rfl, ⟨rfl, rfl, ⟨rfl, rfl, ⟨rfl, rfl, ⟨rfl, rfl, ⟨rfl, rfl, ⟨rfl, rfl, ⟨rfl, rfl, trivial⟩⟩⟩⟩⟩⟩⟩⟩⟩⟩ <| WL.opR rfl (OpR.call (us := [300008, 1300008, 0, 1000000, 700003, 700007]) (A := fun kx : (Tok) × (Tok) => (Asn.tuple2 (I6.is append.1) (I6.is append.2))) C16 (FSpecR.keys (rin' := [(300008, (Bx 5 true 60 ((tMap (tP (tOb b) (tP (tOT tS (k3).2) (tP I6 (tOne tjournal_mark)))) (fun x : journal_Journal => (x.Store, x.texts_, x.lasting_, x.last_))).is j2) (k3).1)), (1300008, Dec.Own tS 9 (k3).2 j2.texts_.length), (0, (Bx 5 true 56 ((tpagestore_Store_k0 k5).is s0_1) b)), (1000000, Dec.Own tS 9 k5 s0_1.pages_.length), (700003, GlT Tryz.prog "internal/strconv.uint64pow10" .u64 Lib.pow10Tab), (700007, Gl (tA 64 (tI .u8)) 7 gv7)]) (out' := fun kx : (Tok) × (Tok) => [(300008, (Bx 5 true 60 ((tMap (tP (tOb b) (tP (tOT tS (kx.1)) (tP I6 (tOne tjournal_mark)))) (fun x : journal_Journal => (x.Store, x.texts_, x.lasting_, x.last_))).is w) (k3).1)), (1300008, Dec.Own tS 9 (kx.1) w.texts_.length), (0, (Bx 5 true 56 ((tpagestore_Store_k0 (kx.2)).is s0_3) b)), (1000000, Dec.Own tS 9 (kx.2) s0_3.pages_.length), (700003, GlT Tryz.prog "internal/strconv.uint64pow10" .u64 Lib.pow10Tab), (700007, Gl (tA 64 (tI .u8)) 7 gv7)]) (journal_Journal_Append_spec _ _ _ _ _ _ _ _ _ hv24) rfl (fun _ => rfl)) rfl ⟨(.t rfl), (.t rfl), trivial⟩) fun kk => Am rfl rfl <| Ao rfl (.extract0 (.t rfl)) <| Ao rfl (.extract1 (.t rfl)) <| Ag rfl rfl <| Ag rfl rfl <| An <| W.seq ?_
       obtain ⟨s25, hs26, hk27⟩ := Bs hm
       clear hm
       refine W.join (fun s : Bool => s = s25) (fun s => [(81, (tB.is s)), (0, (Bp b 0)), (1, ((tL tpandectlaw14_Call).is l)), (8, (Bp (k3).1 0)), (10, (tU k4 texts.length)), (11, (I6.is lasting)), (12, (I6.is i)), (15, (I6.is append.2))]) (fun s => [(28, OwnU tS 9 k4 texts), (1000000, Dec.Own tS 9 (kk.2) s0_3.pages_.length), (1300008, Dec.Own tS 9 (kk.1) w.texts_.length), (0, (Bx 5 true 56 ((tpagestore_Store_k0 (kk.2)).is s0_3) b)), (300008, (Bx 5 true 60 ((tMap (tP (tOb b) (tP (tOT tS (kk.1)) (tP I6 (tOne tjournal_mark)))) (fun x : journal_Journal => (x.Store, x.texts_, x.lasting_, x.last_))).is w) (k3).1)), (700000, GlE 0), (700001, GlI 1), (700002, GlI 2), (700003, GlT Tryz.prog "internal/strconv.uint64pow10" .u64 Lib.pow10Tab), (700007, Gl (tA 64 (tI .u8)) 7 gv7)]) ?_ ?_
       ·rintro v3 hj56
        try dsimp only at hj56
        subst hj56
        have hm := hk27
        clear hk27
        try dsimp only at hm
        change W _ _ _ _ _ _ _ [(81, (tB.is v3)), (0, (Bp b 0)), (1, ((tL tpandectlaw14_Call).is l)), (8, (Bp (k3).1 0)), (10, (tU k4 texts.length)), (11, (I6.is lasting)), (12, (I6.is i)), (15, (I6.is append.2))] [(28, OwnU tS 9 k4 texts), (1000000, Dec.Own tS 9 (kk.2) s0_3.pages_.length), (1300008, Dec.Own tS 9 (kk.1) w.texts_.length), (0, (Bx 5 true 56 ((tpagestore_Store_k0 (kk.2)).is s0_3) b)), (300008, (Bx 5 true 60 ((tMap (tP (tOb b) (tP (tOT tS (kk.1)) (tP I6 (tOne tjournal_mark)))) (fun x : journal_Journal => (x.Store, x.texts_, x.lasting_, x.last_))).is w) (k3).1)), (700000, GlE 0), (700001, GlI 1), (700002, GlI 2), (700003, GlT Tryz.prog "internal/strconv.uint64pow10" .u64 Lib.pow10Tab), (700007, Gl (tA 64 (tI .u8)) 7 gv7)]
        refine W.cB hm (.t rfl) (fun hp49 hm => ?_) (fun hp49 hm => ?_)
        ·refine Aw <| Ao rfl (.assign (show Opd _ (Operand.const (Value.pointer none)) (Asn.eq (Value.pointer none)) from fun _ _ _ => rfl)) <| Ao rfl (.assign (.nil (t := tS))) <| Ao rfl (.assign .i64) <| Ao rfl (.assign .bool) <| WL.ns ?_
         have hr50 := Si hm
         clear hm
         subst hr50
         have hm := hk18
         try dsimp only at hm
         have hr51 := Si hm
         clear hm
         subst hr51
         have hm := hk11
         try dsimp only at hm
         have hr := Si hm
         clear hm
         subst hr
         exact W.obNil (fun kq => (tMap (tP (tOb b) (tP (tOT tS kq) (tP I6 (tOne tjournal_mark)))) (fun x : journal_Journal => (x.Store, x.texts_, x.lasting_, x.last_)))) 60 tS 9 (fun x : journal_Journal => x.texts_) (0, none) 4 88888 rfl <| W.ret4 (((0, none) : Nat × Tok), (kk.2)) rfl rfl (.t rfl) (.t rfl) (.t rfl) (.t rfl) ⟨rfl, rfl, ⟨rfl, rfl, ⟨rfl, rfl, ⟨rfl, rfl, ⟨rfl, rfl, ⟨rfl, rfl, ⟨rfl, rfl, ⟨rfl, rfl, trivial⟩⟩⟩⟩⟩⟩⟩⟩
        ·refine W.skip <| Aq <| Aw <| Am rfl rfl <| Ao rfl (.eqI (.t rfl) .i64) <| An <| W.cD hm (.t rfl) (fun hp53 hm => ?_) (fun hp53 hm => ?_)
         ·refine W.region <| Am rfl rfl <| Am rfl rfl <| WL.mv rfl rfl ?_
          obtain ⟨v4, hv54, hm⟩ := Bs hm
          refine Ao rfl (.idx hv54 U22 Z52 (.t rfl) (.t rfl)) <| Ao rfl (.fieldAddr U52 rfl J9 fpandectlaw14_Call_2 (.t rfl)) <| Ao rfl (.load ty9 (.t rfl)) <| Ao rfl (.buildSlice (n := 1) (ys := [(0, v4.Text)]) (z := ([] : Str)) (xs := [v4.Text]) U26 el9 ze9 ⟨rfl, (.t rfl), trivial⟩ (by simp) (by decide) rfl) ?_
          obtain ⟨out, hv55, hm⟩ := Bs hm
          exact WL.opR rfl (OpR.appendU (key := 28) fl9 hv55 U26 el9 rfl (.t rfl) rfl) fun k9 => Ag rfl rfl <| WL.nil <| WN.block <| WN.obClose (k1 := 300008) (k2 := 1300008) (fun kq => (tMap (tP (tOb b) (tP (tOT tS kq) (tP I6 (tOne tjournal_mark)))) (fun x : journal_Journal => (x.Store, x.texts_, x.lasting_, x.last_)))) tS (fun x : journal_Journal => x.texts_) ((k3).1, (kk.1)) w 8 300008 rfl rfl (by decide) rfl <| WN.meet ((some w, out, lasting, s0_3), (((k3).1, (kk.1)), k9, (kk.2))) (Si hm) ⟨.q rfl, .q rfl, .q rfl, .q rfl, .q rfl, .q rfl, trivial⟩ ⟨rfl, rfl, ⟨rfl, rfl, ⟨rfl, rfl, ⟨rfl, rfl, ⟨rfl, rfl, ⟨rfl, rfl, ⟨rfl, rfl, ⟨rfl, rfl, ⟨rfl, rfl, trivial⟩⟩⟩⟩⟩⟩⟩⟩⟩
         ·exact W.skip <| WN.block <| WN.obClose (k1 := 300008) (k2 := 1300008) (fun kq => (tMap (tP (tOb b) (tP (tOT tS kq) (tP I6 (tOne tjournal_mark)))) (fun x : journal_Journal => (x.Store, x.texts_, x.lasting_, x.last_)))) tS (fun x : journal_Journal => x.texts_) ((k3).1, (kk.1)) w 8 300008 rfl rfl (by decide) rfl <| WN.meet ((some w, texts, lasting, s0_3), (((k3).1, (kk.1)), k4, (kk.2))) (Si hm) ⟨.q rfl, .q rfl, .q rfl, .q rfl, .q rfl, .q rfl, trivial⟩ ⟨rfl, rfl, ⟨rfl, rfl, ⟨rfl, rfl, ⟨rfl, rfl, ⟨rfl, rfl, ⟨rfl, rfl, ⟨rfl, rfl, ⟨rfl, rfl, ⟨rfl, rfl, trivial⟩⟩⟩⟩⟩⟩⟩⟩⟩
       ·have hm := hs26
        clear hs26
        refine W.region <| Am rfl rfl <| Ao rfl (.eqI (.t rfl) .i64) <| WL.mv rfl rfl ?_
        rcases iteD hm with ⟨hp29, hb28, hm⟩ | ⟨hp29, hb28, hm⟩
        ·refine Ax rfl hb28 (.move (.t rfl)) <| Ax rfl hb28 (.move (.t rfl)) ?_
         rcases iteB hm with ⟨hp31, hb30, hm⟩ | ⟨hp31, hb30, hm⟩
         ·refine Ap rfl hb30 <| Ap rfl hb30 <| Ap rfl hb30 <| Ap rfl hb30 <| Ax rfl hb28 (.pickT (.t rfl) hb30 .bool) <| Ao rfl (.pickT (.t rfl) hb28 (.t rfl)) <| Am rfl rfl <| Ap rfl rfl <| Ap rfl rfl <| Ap rfl rfl <| WL.pass2 rfl rfl rfl rfl rfl rfl <| WL.pass2 rfl rfl rfl rfl rfl rfl <| WL.pass2 rfl rfl rfl rfl rfl rfl <| WL.pass2 rfl rfl rfl rfl rfl rfl <| WL.pass2 rfl rfl rfl rfl rfl rfl <| WL.pass2 rfl rfl rfl rfl rfl rfl ?_
          exact WL.pass2 rfl rfl rfl rfl rfl rfl <| WL.pass2 rfl rfl rfl rfl rfl rfl <| WL.pass2 rfl rfl rfl rfl rfl rfl <| WL.pass2 rfl rfl rfl rfl rfl rfl <| WL.pass2 rfl rfl rfl rfl rfl rfl <| Ap rfl rfl <| Ao rfl (.pickT (.t rfl) rfl .bool) <| WL.nil <| WN.meet true (Si hm) ⟨.q rfl, .q rfl, .q rfl, .q rfl, .q rfl, .q rfl, .q rfl, .q rfl, trivial⟩ ⟨rfl, rfl, ⟨rfl, rfl, ⟨rfl, rfl, ⟨rfl, rfl, ⟨rfl, rfl, ⟨rfl, rfl, ⟨rfl, rfl, ⟨rfl, rfl, ⟨rfl, rfl, ⟨rfl, rfl, trivial⟩⟩⟩⟩⟩⟩⟩⟩⟩⟩
         ·refine Ax rfl hb30 (.move (.t rfl)) <| Ax rfl hb30 (.move (.t rfl)) <| Ax rfl hb30 (.lenU U26 (.t rfl)) <| Ax rfl hb30 (.neI (.t rfl) (.t rfl)) <| Ax rfl hb28 (.pickF (.t rfl) hb30 (.t rfl)) <| Ao rfl (.pickT (.t rfl) hb28 (.t rfl)) <| WL.mv rfl rfl ?_
          rcases iteD hm with ⟨hp33, hb32, hm⟩ | ⟨hp33, hb32, hm⟩
          ·refine Ap rfl hb32 <| Ap rfl hb32 <| Ap rfl hb32 <| WL.pass2 rfl rfl rfl rfl rfl rfl <| WL.pass2 rfl rfl rfl rfl rfl rfl <| WL.pass2 rfl rfl rfl rfl rfl rfl <| WL.pass2 rfl rfl rfl rfl rfl rfl <| WL.pass2 rfl rfl rfl rfl rfl rfl <| WL.pass2 rfl rfl rfl rfl rfl rfl <| WL.pass2 rfl rfl rfl rfl rfl rfl <| WL.pass2 rfl rfl rfl rfl rfl rfl <| WL.pass2 rfl rfl rfl rfl rfl rfl <| WL.pass2 rfl rfl rfl rfl rfl rfl <| WL.pass2 rfl rfl rfl rfl rfl rfl <| Ap rfl hb32 <| Ao rfl (.pickT (.t rfl) hb32 .bool) ?_
           exact WL.nil <| WN.meet true (Si hm) ⟨.q rfl, .q rfl, .q rfl, .q rfl, .q rfl, .q rfl, .q rfl, .q rfl, trivial⟩ ⟨rfl, rfl, ⟨rfl, rfl, ⟨rfl, rfl, ⟨rfl, rfl, ⟨rfl, rfl, ⟨rfl, rfl, ⟨rfl, rfl, ⟨rfl, rfl, ⟨rfl, rfl, ⟨rfl, rfl, trivial⟩⟩⟩⟩⟩⟩⟩⟩⟩⟩
          ·refine Ax rfl hb32 (.move (.t rfl)) <| Ax rfl hb32 (.neI (.t rfl) .i64) <| Ax rfl hb32 (.move (.t rfl)) ?_
           rcases iteD hm with ⟨hp35, hb34, hm⟩ | ⟨hp35, hb34, hm⟩
           ·refine Ax rfl hb34 (.move (.t rfl)) <| Ax rfl hb34 (.neI (.t rfl) .i64) <| Ax rfl hb34 (.move (.t rfl)) ?_
            rcases iteD hm with ⟨hp37, hb36, hm⟩ | ⟨hp37, hb36, hm⟩
            ·exact Ap rfl hb36 <| Ap rfl hb36 <| Ap rfl hb36 <| Ax rfl hb34 (.pickT (.t rfl) hb36 .bool) <| Ax rfl hb34 (.move (.t rfl)) <| Ap rfl rfl <| Ap rfl rfl <| Ax rfl hb34 (.pickT (.t rfl) rfl .bool) <| Ax rfl hb32 (.pickT (.t rfl) hb34 (.t rfl)) <| Ao rfl (.pickF (.t rfl) hb32 (.t rfl)) <| WL.nil <| WN.meet true (Si hm) ⟨.q rfl, .q rfl, .q rfl, .q rfl, .q rfl, .q rfl, .q rfl, .q rfl, trivial⟩ ⟨rfl, rfl, ⟨rfl, rfl, ⟨rfl, rfl, ⟨rfl, rfl, ⟨rfl, rfl, ⟨rfl, rfl, ⟨rfl, rfl, ⟨rfl, rfl, ⟨rfl, rfl, ⟨rfl, rfl, trivial⟩⟩⟩⟩⟩⟩⟩⟩⟩⟩
            ·refine Ax rfl hb36 (.move (.t rfl)) ?_
             obtain ⟨failed1, hv38, hm⟩ := Bs hm
             refine WL.weakR (res' := [(0, (Bx 5 true 56 ((tpagestore_Store_k0 (kk.2)).is s0_3) b)), (1000000, Dec.Own tS 9 (kk.2) s0_3.pages_.length), (28, OwnU tS 9 k4 texts), (1300008, Dec.Own tS 9 (kk.1) w.texts_.length), (700000, GlE 0), (700001, GlI 1), (700002, GlI 2), (700003, GlT Tryz.prog "internal/strconv.uint64pow10" .u64 Lib.pow10Tab), (700007, Gl (tA 64 (tI .u8)) 7 gv7), (300008, (Bx 5 true 60 ((tMap (tP (tOb b) (tP (tOT tS (kk.1)) (tP I6 (tOne tjournal_mark)))) (fun x : journal_Journal => (x.Store, x.texts_, x.lasting_, x.last_))).is w) (k3).1))]) ⟨rfl, rfl, ⟨rfl, rfl, ⟨rfl, rfl, ⟨rfl, rfl, ⟨rfl, rfl, ⟨rfl, rfl, ⟨rfl, rfl, ⟨rfl, rfl, ⟨rfl, rfl, ⟨rfl, rfl, trivial⟩⟩⟩⟩⟩⟩⟩⟩⟩⟩ <| WL.runR rfl rfl rfl rfl hb36 rfl rfl (OpR.call (us := [0, 1000000]) (A := fun kx : Unit => (tB.is failed1)) C21 (FSpecR.keys (rin' := [(0, (Bx 5 true 56 ((tpagestore_Store_k0 (kk.2)).is s0_3) b)), (1000000, Dec.Own tS 9 (kk.2) s0_3.pages_.length)]) (out' := fun kx : Unit => [(0, (Bx 5 true 56 ((tpagestore_Store_k0 (kk.2)).is s0_3) b)), (1000000, Dec.Own tS 9 (kk.2) s0_3.pages_.length)]) (pagestore_Store_Failed_spec _ _ _ _ hv38) rfl (fun _ => rfl)) rfl ⟨(.t rfl), trivial⟩) fun _ => Ax rfl hb36 (.notB (.t rfl)) <| Ax rfl hb34 (.pickF (.t rfl) hb36 (.t rfl)) <| Ax rfl hb34 (.move (.t rfl)) ?_
             rcases iteR hm with ⟨hp40, hb39, hm⟩ | ⟨hp40, hb39, hm⟩
             ·exact Ap rfl hb39 <| Ap rfl hb39 <| Ax rfl hb34 (.pickT (.t rfl) hb39 .bool) <| Ax rfl hb32 (.pickT (.t rfl) hb34 (.t rfl)) <| Ao rfl (.pickF (.t rfl) hb32 (.t rfl)) <| WL.nil <| WN.meet true (Si hm) ⟨.q rfl, .q rfl, .q rfl, .q rfl, .q rfl, .q rfl, .q rfl, .q rfl, trivial⟩ ⟨rfl, rfl, ⟨rfl, rfl, ⟨rfl, rfl, ⟨rfl, rfl, ⟨rfl, rfl, ⟨rfl, rfl, ⟨rfl, rfl, ⟨rfl, rfl, ⟨rfl, rfl, ⟨rfl, rfl, trivial⟩⟩⟩⟩⟩⟩⟩⟩⟩⟩
             ·exact Ax rfl hb39 (.move (.t rfl)) <| Ax rfl hb39 (.neI (.t rfl) .i64) <| Ax rfl hb34 (.pickF (.t rfl) hb39 (.t rfl)) <| Ax rfl hb32 (.pickT (.t rfl) hb34 (.t rfl)) <| Ao rfl (.pickF (.t rfl) hb32 (.t rfl)) <| WL.nil <| WN.meet (decide (append.1 ≠ (0 : Int))) (Si hm) ⟨.q rfl, .q rfl, .q rfl, .q rfl, .q rfl, .q rfl, .q rfl, .q rfl, trivial⟩ ⟨rfl, rfl, ⟨rfl, rfl, ⟨rfl, rfl, ⟨rfl, rfl, ⟨rfl, rfl, ⟨rfl, rfl, ⟨rfl, rfl, ⟨rfl, rfl, ⟨rfl, rfl, ⟨rfl, rfl, trivial⟩⟩⟩⟩⟩⟩⟩⟩⟩⟩
           ·exact Ap rfl hb34 <| Ap rfl hb34 <| Ap rfl hb34 <| WL.pass2 rfl rfl rfl rfl rfl rfl <| WL.pass2 rfl rfl rfl rfl rfl rfl <| WL.pass2 rfl rfl rfl rfl rfl rfl <| Ap rfl hb34 <| Ap rfl hb34 <| WL.pass2 rfl rfl rfl rfl rfl rfl <| WL.pass2 rfl rfl rfl rfl rfl rfl <| Ap rfl hb34 <| Ax rfl hb32 (.pickF (.t rfl) hb34 .bool) <| Ao rfl (.pickF (.t rfl) hb32 (.t rfl)) <| WL.nil <| WN.meet false (Si hm) ⟨.q rfl, .q rfl, .q rfl, .q rfl, .q rfl, .q rfl, .q rfl, .q rfl, trivial⟩ ⟨rfl, rfl, ⟨rfl, rfl, ⟨rfl, rfl, ⟨rfl, rfl, ⟨rfl, rfl, ⟨rfl, rfl, ⟨rfl, rfl, ⟨rfl, rfl, ⟨rfl, rfl, ⟨rfl, rfl, trivial⟩⟩⟩⟩⟩⟩⟩⟩⟩⟩
        ·refine Ap rfl hb28 <| Ap rfl hb28 <| WL.pass2 rfl rfl rfl rfl rfl rfl <| WL.pass2 rfl rfl rfl rfl rfl rfl <| WL.pass2 rfl rfl rfl rfl rfl rfl <| WL.pass2 rfl rfl rfl rfl rfl rfl <| Ap rfl hb28 <| Ao rfl (.pickF (.t rfl) hb28 .bool) <| Am rfl rfl <| Ax rfl rfl (.move (.t rfl)) <| Ax rfl rfl (.neI (.t rfl) .i64) <| Ax rfl rfl (.move (.t rfl)) ?_
         rcases iteD hm with ⟨hp42, hb41, hm⟩ | ⟨hp42, hb41, hm⟩
         ·refine Ax rfl hb41 (.move (.t rfl)) <| Ax rfl hb41 (.neI (.t rfl) .i64) <| Ax rfl hb41 (.move (.t rfl)) ?_
          rcases iteD hm with ⟨hp44, hb43, hm⟩ | ⟨hp44, hb43, hm⟩
          ·exact Ap rfl hb43 <| Ap rfl hb43 <| Ap rfl hb43 <| Ax rfl hb41 (.pickT (.t rfl) hb43 .bool) <| Ax rfl hb41 (.move (.t rfl)) <| Ap rfl rfl <| Ap rfl rfl <| Ax rfl hb41 (.pickT (.t rfl) rfl .bool) <| Ax rfl rfl (.pickT (.t rfl) hb41 (.t rfl)) <| Ao rfl (.pickF (.t rfl) rfl (.t rfl)) <| WL.nil <| WN.meet true (Si hm) ⟨.q rfl, .q rfl, .q rfl, .q rfl, .q rfl, .q rfl, .q rfl, .q rfl, trivial⟩ ⟨rfl, rfl, ⟨rfl, rfl, ⟨rfl, rfl, ⟨rfl, rfl, ⟨rfl, rfl, ⟨rfl, rfl, ⟨rfl, rfl, ⟨rfl, rfl, ⟨rfl, rfl, ⟨rfl, rfl, trivial⟩⟩⟩⟩⟩⟩⟩⟩⟩⟩
          ·refine Ax rfl hb43 (.move (.t rfl)) ?_
           obtain ⟨failed2, hv45, hm⟩ := Bs hm
           refine WL.weakR (res' := [(0, (Bx 5 true 56 ((tpagestore_Store_k0 (kk.2)).is s0_3) b)), (1000000, Dec.Own tS 9 (kk.2) s0_3.pages_.length), (28, OwnU tS 9 k4 texts), (1300008, Dec.Own tS 9 (kk.1) w.texts_.length), (700000, GlE 0), (700001, GlI 1), (700002, GlI 2), (700003, GlT Tryz.prog "internal/strconv.uint64pow10" .u64 Lib.pow10Tab), (700007, Gl (tA 64 (tI .u8)) 7 gv7), (300008, (Bx 5 true 60 ((tMap (tP (tOb b) (tP (tOT tS (kk.1)) (tP I6 (tOne tjournal_mark)))) (fun x : journal_Journal => (x.Store, x.texts_, x.lasting_, x.last_))).is w) (k3).1))]) ⟨rfl, rfl, ⟨rfl, rfl, ⟨rfl, rfl, ⟨rfl, rfl, ⟨rfl, rfl, ⟨rfl, rfl, ⟨rfl, rfl, ⟨rfl, rfl, ⟨rfl, rfl, ⟨rfl, rfl, trivial⟩⟩⟩⟩⟩⟩⟩⟩⟩⟩ <| WL.runR rfl rfl rfl rfl hb43 rfl rfl (OpR.call (us := [0, 1000000]) (A := fun kx : Unit => (tB.is failed2)) C21 (FSpecR.keys (rin' := [(0, (Bx 5 true 56 ((tpagestore_Store_k0 (kk.2)).is s0_3) b)), (1000000, Dec.Own tS 9 (kk.2) s0_3.pages_.length)]) (out' := fun kx : Unit => [(0, (Bx 5 true 56 ((tpagestore_Store_k0 (kk.2)).is s0_3) b)), (1000000, Dec.Own tS 9 (kk.2) s0_3.pages_.length)]) (pagestore_Store_Failed_spec _ _ _ _ hv45) rfl (fun _ => rfl)) rfl ⟨(.t rfl), trivial⟩) fun _ => Ax rfl hb43 (.notB (.t rfl)) <| Ax rfl hb41 (.pickF (.t rfl) hb43 (.t rfl)) <| Ax rfl hb41 (.move (.t rfl)) ?_
           rcases iteR hm with ⟨hp47, hb46, hm⟩ | ⟨hp47, hb46, hm⟩
           ·exact Ap rfl hb46 <| Ap rfl hb46 <| Ax rfl hb41 (.pickT (.t rfl) hb46 .bool) <| Ax rfl rfl (.pickT (.t rfl) hb41 (.t rfl)) <| Ao rfl (.pickF (.t rfl) rfl (.t rfl)) <| WL.nil <| WN.meet true (Si hm) ⟨.q rfl, .q rfl, .q rfl, .q rfl, .q rfl, .q rfl, .q rfl, .q rfl, trivial⟩ ⟨rfl, rfl, ⟨rfl, rfl, ⟨rfl, rfl, ⟨rfl, rfl, ⟨rfl, rfl, ⟨rfl, rfl, ⟨rfl, rfl, ⟨rfl, rfl, ⟨rfl, rfl, ⟨rfl, rfl, trivial⟩⟩⟩⟩⟩⟩⟩⟩⟩⟩
           ·exact Ax rfl hb46 (.move (.t rfl)) <| Ax rfl hb46 (.neI (.t rfl) .i64) <| Ax rfl hb41 (.pickF (.t rfl) hb46 (.t rfl)) <| Ax rfl rfl (.pickT (.t rfl) hb41 (.t rfl)) <| Ao rfl (.pickF (.t rfl) rfl (.t rfl)) <| WL.nil <| WN.meet (decide (append.1 ≠ (0 : Int))) (Si hm) ⟨.q rfl, .q rfl, .q rfl, .q rfl, .q rfl, .q rfl, .q rfl, .q rfl, trivial⟩ ⟨rfl, rfl, ⟨rfl, rfl, ⟨rfl, rfl, ⟨rfl, rfl, ⟨rfl, rfl, ⟨rfl, rfl, ⟨rfl, rfl, ⟨rfl, rfl, ⟨rfl, rfl, ⟨rfl, rfl, trivial⟩⟩⟩⟩⟩⟩⟩⟩⟩⟩
         ·exact Ap rfl hb41 <| Ap rfl hb41 <| Ap rfl hb41 <| WL.pass2 rfl rfl rfl rfl rfl rfl <| WL.pass2 rfl rfl rfl rfl rfl rfl <| WL.pass2 rfl rfl rfl rfl rfl rfl <| Ap rfl hb41 <| Ap rfl hb41 <| WL.pass2 rfl rfl rfl rfl rfl rfl <| WL.pass2 rfl rfl rfl rfl rfl rfl <| Ap rfl hb41 <| Ax rfl rfl (.pickF (.t rfl) hb41 .bool) <| Ao rfl (.pickF (.t rfl) rfl (.t rfl)) <| WL.nil <| WN.meet false (Si hm) ⟨.q rfl, .q rfl, .q rfl, .q rfl, .q rfl, .q rfl, .q rfl, .q rfl, trivial⟩ ⟨rfl, rfl, ⟨rfl, rfl, ⟨rfl, rfl, ⟨rfl, rfl, ⟨rfl, rfl, ⟨rfl, rfl, ⟨rfl, rfl, ⟨rfl, rfl, ⟨rfl, rfl, ⟨rfl, rfl, trivial⟩⟩⟩⟩⟩⟩⟩⟩⟩⟩
      ·refine Aw <| Ao rfl (.eqI (.t rfl) .i64) <| Ag rfl rfl <| An <| W.cD hm (.t rfl) (fun hp58 hm => ?_) (fun hp58 hm => ?_)
       ·refine W.seq ?_
        obtain ⟨j3, hv59, hm⟩ := Bs hm
        refine W.obOpen (t := (fun kq => (tMap (tP (tOb b) (tP (tOT tS kq) (tP I6 (tOne tjournal_mark)))) (fun x : journal_Journal => (x.Store, x.texts_, x.lasting_, x.last_))))) (T := 60) (te := tS) (E := 9) (f := (fun x : journal_Journal => x.texts_)) (c := k3) (u := j3) (o := j) (key := 300008) 8 300008 1300008 hv59 rfl rfl <| W.region <| WL.mv rfl rfl ?_
        obtain ⟨⟨commit, w1, s0_4⟩, hv60, hm⟩ := Bs hm
        dsimp only at hm
        refine WL.weakR (res' := [(300008, (Bx 5 true 60 ((tMap (tP (tOb b) (tP (tOT tS (k3).2) (tP I6 (tOne tjournal_mark)))) (fun x : journal_Journal => (x.Store, x.texts_, x.lasting_, x.last_))).is j3) (k3).1)), (1300008, Dec.Own tS 9 (k3).2 j3.texts_.length), (0, (Bx 5 true 56 ((tpagestore_Store_k0 k5).is s0_1) b)), (1000000, Dec.Own tS 9 k5 s0_1.pages_.length), (28, OwnU tS 9 k4 texts), (700000, GlE 0), (700001, GlI 1), (700002, GlI 2), (700003, GlT Tryz.prog "internal/strconv.uint64pow10" .u64 Lib.pow10Tab), (700007, Gl (tA 64 (tI .u8)) 7 gv7)]) ⟨rfl, rfl, ⟨rfl, rfl, ⟨rfl, rfl, ⟨rfl, rfl, ⟨rfl, rfl, ⟨rfl, rfl, ⟨rfl, rfl, ⟨rfl, rfl, ⟨rfl, rfl, ⟨rfl, rfl, trivial⟩⟩⟩⟩⟩⟩⟩⟩⟩⟩ <| WL.opR rfl (OpR.call (us := [300008, 1300008, 0, 1000000]) (A := fun kx : (Tok) × (Tok) => (I6.is commit)) C17 (FSpecR.keys (rin' := [(300008, (Bx 5 true 60 ((tMap (tP (tOb b) (tP (tOT tS (k3).2) (tP I6 (tOne tjournal_mark)))) (fun x : journal_Journal => (x.Store, x.texts_, x.lasting_, x.last_))).is j3) (k3).1)), (1300008, Dec.Own tS 9 (k3).2 j3.texts_.length), (0, (Bx 5 true 56 ((tpagestore_Store_k0 k5).is s0_1) b)), (1000000, Dec.Own tS 9 k5 s0_1.pages_.length)]) (out' := fun kx : (Tok) × (Tok) => [(300008, (Bx 5 true 60 ((tMap (tP (tOb b) (tP (tOT tS (kx.1)) (tP I6 (tOne tjournal_mark)))) (fun x : journal_Journal => (x.Store, x.texts_, x.lasting_, x.last_))).is w1) (k3).1)), (1300008, Dec.Own tS 9 (kx.1) w1.texts_.length), (0, (Bx 5 true 56 ((tpagestore_Store_k0 (kx.2)).is s0_4) b)), (1000000, Dec.Own tS 9 (kx.2) s0_4.pages_.length)]) (journal_Journal_Commit_spec _ _ _ _ _ _ _ hv60) rfl (fun _ => rfl)) rfl ⟨(.t rfl), trivial⟩) fun kk1 => Ag rfl rfl <| An <| W.seq ?_
        obtain ⟨s61, hs62, hk63⟩ := Bs hm
        clear hm
        refine W.join (fun s : Bool => s = s61) (fun s => [(118, (tB.is s)), (0, (Bp b 0)), (1, ((tL tpandectlaw14_Call).is l)), (8, (Bp (k3).1 0)), (10, (tU k4 texts.length)), (11, (I6.is lasting)), (12, (I6.is i)), (16, (I6.is commit))]) (fun s => [(28, OwnU tS 9 k4 texts), (1000000, Dec.Own tS 9 (kk1.2) s0_4.pages_.length), (1300008, Dec.Own tS 9 (kk1.1) w1.texts_.length), (0, (Bx 5 true 56 ((tpagestore_Store_k0 (kk1.2)).is s0_4) b)), (300008, (Bx 5 true 60 ((tMap (tP (tOb b) (tP (tOT tS (kk1.1)) (tP I6 (tOne tjournal_mark)))) (fun x : journal_Journal => (x.Store, x.texts_, x.lasting_, x.last_))).is w1) (k3).1)), (700000, GlE 0), (700001, GlI 1), (700002, GlI 2), (700003, GlT Tryz.prog "internal/strconv.uint64pow10" .u64 Lib.pow10Tab), (700007, Gl (tA 64 (tI .u8)) 7 gv7)]) ?_ ?_
        ·rintro v5 hj91
         try dsimp only at hj91
         subst hj91
         have hm := hk63
         clear hk63
         try dsimp only at hm
         change W _ _ _ _ _ _ _ [(118, (tB.is v5)), (0, (Bp b 0)), (1, ((tL tpandectlaw14_Call).is l)), (8, (Bp (k3).1 0)), (10, (tU k4 texts.length)), (11, (I6.is lasting)), (12, (I6.is i)), (16, (I6.is commit))] [(28, OwnU tS 9 k4 texts), (1000000, Dec.Own tS 9 (kk1.2) s0_4.pages_.length), (1300008, Dec.Own tS 9 (kk1.1) w1.texts_.length), (0, (Bx 5 true 56 ((tpagestore_Store_k0 (kk1.2)).is s0_4) b)), (300008, (Bx 5 true 60 ((tMap (tP (tOb b) (tP (tOT tS (kk1.1)) (tP I6 (tOne tjournal_mark)))) (fun x : journal_Journal => (x.Store, x.texts_, x.lasting_, x.last_))).is w1) (k3).1)), (700000, GlE 0), (700001, GlI 1), (700002, GlI 2), (700003, GlT Tryz.prog "internal/strconv.uint64pow10" .u64 Lib.pow10Tab), (700007, Gl (tA 64 (tI .u8)) 7 gv7)]
         refine W.cB hm (.t rfl) (fun hp86 hm => ?_) (fun hp86 hm => ?_)
         ·refine Aw <| Ao rfl (.assign (show Opd _ (Operand.const (Value.pointer none)) (Asn.eq (Value.pointer none)) from fun _ _ _ => rfl)) <| Ao rfl (.assign (.nil (t := tS))) <| Ao rfl (.assign .i64) <| Ao rfl (.assign .bool) <| WL.ns ?_
          have hr87 := Si hm
          clear hm
          subst hr87
          have hm := hk18
          try dsimp only at hm
          have hr88 := Si hm
          clear hm
          subst hr88
          have hm := hk11
          try dsimp only at hm
          have hr := Si hm
          clear hm
          subst hr
          exact W.obNil (fun kq => (tMap (tP (tOb b) (tP (tOT tS kq) (tP I6 (tOne tjournal_mark)))) (fun x : journal_Journal => (x.Store, x.texts_, x.lasting_, x.last_)))) 60 tS 9 (fun x : journal_Journal => x.texts_) (0, none) 4 88888 rfl <| W.ret4 (((0, none) : Nat × Tok), (kk1.2)) rfl rfl (.t rfl) (.t rfl) (.t rfl) (.t rfl) ⟨rfl, rfl, ⟨rfl, rfl, ⟨rfl, rfl, ⟨rfl, rfl, ⟨rfl, rfl, ⟨rfl, rfl, ⟨rfl, rfl, ⟨rfl, rfl, trivial⟩⟩⟩⟩⟩⟩⟩⟩
         ·refine W.skip <| Aq <| Aw <| Am rfl rfl <| Ao rfl (.eqI (.t rfl) .i64) <| An <| W.cD hm (.t rfl) (fun hp90 hm => ?_) (fun hp90 hm => ?_)
          ·exact W.region <| Am rfl rfl <| Ao rfl (.lenU U26 (.t rfl)) <| Ag rfl rfl <| WL.nil <| WN.block <| WN.obClose (k1 := 300008) (k2 := 1300008) (fun kq => (tMap (tP (tOb b) (tP (tOT tS kq) (tP I6 (tOne tjournal_mark)))) (fun x : journal_Journal => (x.Store, x.texts_, x.lasting_, x.last_)))) tS (fun x : journal_Journal => x.texts_) ((k3).1, (kk1.1)) w1 8 300008 rfl rfl (by decide) rfl <| WN.meet ((some w1, texts, (texts.length : Int), s0_4), (((k3).1, (kk1.1)), k4, (kk1.2))) (Si hm) ⟨.q rfl, .q rfl, .q rfl, .q rfl, .q rfl, .q rfl, trivial⟩ ⟨rfl, rfl, ⟨rfl, rfl, ⟨rfl, rfl, ⟨rfl, rfl, ⟨rfl, rfl, ⟨rfl, rfl, ⟨rfl, rfl, ⟨rfl, rfl, ⟨rfl, rfl, trivial⟩⟩⟩⟩⟩⟩⟩⟩⟩
          ·exact W.skip <| WN.block <| WN.obClose (k1 := 300008) (k2 := 1300008) (fun kq => (tMap (tP (tOb b) (tP (tOT tS kq) (tP I6 (tOne tjournal_mark)))) (fun x : journal_Journal => (x.Store, x.texts_, x.lasting_, x.last_)))) tS (fun x : journal_Journal => x.texts_) ((k3).1, (kk1.1)) w1 8 300008 rfl rfl (by decide) rfl <| WN.meet ((some w1, texts, lasting, s0_4), (((k3).1, (kk1.1)), k4, (kk1.2))) (Si hm) ⟨.q rfl, .q rfl, .q rfl, .q rfl, .q rfl, .q rfl, trivial⟩ ⟨rfl, rfl, ⟨rfl, rfl, ⟨rfl, rfl, ⟨rfl, rfl, ⟨rfl, rfl, ⟨rfl, rfl, ⟨rfl, rfl, ⟨rfl, rfl, ⟨rfl, rfl, trivial⟩⟩⟩⟩⟩⟩⟩⟩⟩
        ·have hm := hs62
         clear hs62
         refine W.region <| Am rfl rfl <| Ao rfl (.eqI (.t rfl) .i64) <| WL.mv rfl rfl ?_
         rcases iteD hm with ⟨hp65, hb64, hm⟩ | ⟨hp65, hb64, hm⟩
         ·refine Ax rfl hb64 (.move (.t rfl)) <| Ao rfl (.pickT (.t rfl) hb64 (.t rfl)) <| WL.mv rfl rfl ?_
          rcases iteB hm with ⟨hp67, hb66, hm⟩ | ⟨hp67, hb66, hm⟩
          ·refine Ax rfl hb66 (.move (.t rfl)) <| Ax rfl hb66 (.lenU U26 (.t rfl)) <| Ax rfl hb66 (.gtI (.t rfl) .i64) <| Ao rfl (.pickT (.t rfl) hb66 (.t rfl)) <| WL.mv rfl rfl ?_
           rcases iteD hm with ⟨hp69, hb68, hm⟩ | ⟨hp69, hb68, hm⟩
           ·exact Ap rfl hb68 <| Ap rfl hb68 <| Ap rfl hb68 <| WL.pass2 rfl rfl rfl rfl rfl rfl <| WL.pass2 rfl rfl rfl rfl rfl rfl <| WL.pass2 rfl rfl rfl rfl rfl rfl <| WL.pass2 rfl rfl rfl rfl rfl rfl <| WL.pass2 rfl rfl rfl rfl rfl rfl <| WL.pass2 rfl rfl rfl rfl rfl rfl <| WL.pass2 rfl rfl rfl rfl rfl rfl <| Ap rfl hb68 <| Ao rfl (.pickT (.t rfl) hb68 .bool) <| WL.nil <| WN.meet true (Si hm) ⟨.q rfl, .q rfl, .q rfl, .q rfl, .q rfl, .q rfl, .q rfl, .q rfl, trivial⟩ ⟨rfl, rfl, ⟨rfl, rfl, ⟨rfl, rfl, ⟨rfl, rfl, ⟨rfl, rfl, ⟨rfl, rfl, ⟨rfl, rfl, ⟨rfl, rfl, ⟨rfl, rfl, ⟨rfl, rfl, trivial⟩⟩⟩⟩⟩⟩⟩⟩⟩⟩
           ·refine Ax rfl hb68 (.move (.t rfl)) <| Ax rfl hb68 (.neI (.t rfl) .i64) <| Ax rfl hb68 (.move (.t rfl)) ?_
            rcases iteD hm with ⟨hp71, hb70, hm⟩ | ⟨hp71, hb70, hm⟩
            ·refine Ax rfl hb70 (.move (.t rfl)) <| Ax rfl hb70 (.neI (.t rfl) .i64) <| Ax rfl hb70 (.move (.t rfl)) ?_
             rcases iteD hm with ⟨hp73, hb72, hm⟩ | ⟨hp73, hb72, hm⟩
             ·exact Ap rfl hb72 <| Ap rfl hb72 <| Ap rfl hb72 <| Ax rfl hb70 (.pickT (.t rfl) hb72 .bool) <| Ax rfl hb68 (.pickT (.t rfl) hb70 (.t rfl)) <| Ao rfl (.pickF (.t rfl) hb68 (.t rfl)) <| WL.nil <| WN.meet true (Si hm) ⟨.q rfl, .q rfl, .q rfl, .q rfl, .q rfl, .q rfl, .q rfl, .q rfl, trivial⟩ ⟨rfl, rfl, ⟨rfl, rfl, ⟨rfl, rfl, ⟨rfl, rfl, ⟨rfl, rfl, ⟨rfl, rfl, ⟨rfl, rfl, ⟨rfl, rfl, ⟨rfl, rfl, ⟨rfl, rfl, trivial⟩⟩⟩⟩⟩⟩⟩⟩⟩⟩
             ·refine Ax rfl hb72 (.move (.t rfl)) ?_
              obtain ⟨failed3, hv74, hm⟩ := Bs hm
              exact WL.weakR (res' := [(0, (Bx 5 true 56 ((tpagestore_Store_k0 (kk1.2)).is s0_4) b)), (1000000, Dec.Own tS 9 (kk1.2) s0_4.pages_.length), (28, OwnU tS 9 k4 texts), (1300008, Dec.Own tS 9 (kk1.1) w1.texts_.length), (700000, GlE 0), (700001, GlI 1), (700002, GlI 2), (700003, GlT Tryz.prog "internal/strconv.uint64pow10" .u64 Lib.pow10Tab), (700007, Gl (tA 64 (tI .u8)) 7 gv7), (300008, (Bx 5 true 60 ((tMap (tP (tOb b) (tP (tOT tS (kk1.1)) (tP I6 (tOne tjournal_mark)))) (fun x : journal_Journal => (x.Store, x.texts_, x.lasting_, x.last_))).is w1) (k3).1))]) ⟨rfl, rfl, ⟨rfl, rfl, ⟨rfl, rfl, ⟨rfl, rfl, ⟨rfl, rfl, ⟨rfl, rfl, ⟨rfl, rfl, ⟨rfl, rfl, ⟨rfl, rfl, ⟨rfl, rfl, trivial⟩⟩⟩⟩⟩⟩⟩⟩⟩⟩ <| WL.runR rfl rfl rfl rfl hb72 rfl rfl (OpR.call (us := [0, 1000000]) (A := fun kx : Unit => (tB.is failed3)) C21 (FSpecR.keys (rin' := [(0, (Bx 5 true 56 ((tpagestore_Store_k0 (kk1.2)).is s0_4) b)), (1000000, Dec.Own tS 9 (kk1.2) s0_4.pages_.length)]) (out' := fun kx : Unit => [(0, (Bx 5 true 56 ((tpagestore_Store_k0 (kk1.2)).is s0_4) b)), (1000000, Dec.Own tS 9 (kk1.2) s0_4.pages_.length)]) (pagestore_Store_Failed_spec _ _ _ _ hv74) rfl (fun _ => rfl)) rfl ⟨(.t rfl), trivial⟩) fun _ => Ax rfl hb72 (.notB (.t rfl)) <| Ax rfl hb70 (.pickF (.t rfl) hb72 (.t rfl)) <| Ax rfl hb68 (.pickT (.t rfl) hb70 (.t rfl)) <| Ao rfl (.pickF (.t rfl) hb68 (.t rfl)) <| WL.nil <| WN.meet (!failed3) (Si hm) ⟨.q rfl, .q rfl, .q rfl, .q rfl, .q rfl, .q rfl, .q rfl, .q rfl, trivial⟩ ⟨rfl, rfl, ⟨rfl, rfl, ⟨rfl, rfl, ⟨rfl, rfl, ⟨rfl, rfl, ⟨rfl, rfl, ⟨rfl, rfl, ⟨rfl, rfl, ⟨rfl, rfl, ⟨rfl, rfl, trivial⟩⟩⟩⟩⟩⟩⟩⟩⟩⟩
            ·exact Ap rfl hb70 <| Ap rfl hb70 <| Ap rfl hb70 <| WL.pass2 rfl rfl rfl rfl rfl rfl <| WL.pass2 rfl rfl rfl rfl rfl rfl <| WL.pass2 rfl rfl rfl rfl rfl rfl <| Ap rfl hb70 <| Ax rfl hb68 (.pickF (.t rfl) hb70 .bool) <| Ao rfl (.pickF (.t rfl) hb68 (.t rfl)) <| WL.nil <| WN.meet false (Si hm) ⟨.q rfl, .q rfl, .q rfl, .q rfl, .q rfl, .q rfl, .q rfl, .q rfl, trivial⟩ ⟨rfl, rfl, ⟨rfl, rfl, ⟨rfl, rfl, ⟨rfl, rfl, ⟨rfl, rfl, ⟨rfl, rfl, ⟨rfl, rfl, ⟨rfl, rfl, ⟨rfl, rfl, ⟨rfl, rfl, trivial⟩⟩⟩⟩⟩⟩⟩⟩⟩⟩
          ·refine Ap rfl hb66 <| Ap rfl hb66 <| Ap rfl hb66 <| Ao rfl (.pickF (.t rfl) hb66 .bool) <| Am rfl rfl <| Ax rfl rfl (.move (.t rfl)) <| Ax rfl rfl (.neI (.t rfl) .i64) <| Ax rfl rfl (.move (.t rfl)) ?_
           rcases iteD hm with ⟨hp76, hb75, hm⟩ | ⟨hp76, hb75, hm⟩
           ·refine Ax rfl hb75 (.move (.t rfl)) <| Ax rfl hb75 (.neI (.t rfl) .i64) <| Ax rfl hb75 (.move (.t rfl)) ?_
            rcases iteD hm with ⟨hp78, hb77, hm⟩ | ⟨hp78, hb77, hm⟩
            ·exact Ap rfl hb77 <| Ap rfl hb77 <| Ap rfl hb77 <| Ax rfl hb75 (.pickT (.t rfl) hb77 .bool) <| Ax rfl rfl (.pickT (.t rfl) hb75 (.t rfl)) <| Ao rfl (.pickF (.t rfl) rfl (.t rfl)) <| WL.nil <| WN.meet true (Si hm) ⟨.q rfl, .q rfl, .q rfl, .q rfl, .q rfl, .q rfl, .q rfl, .q rfl, trivial⟩ ⟨rfl, rfl, ⟨rfl, rfl, ⟨rfl, rfl, ⟨rfl, rfl, ⟨rfl, rfl, ⟨rfl, rfl, ⟨rfl, rfl, ⟨rfl, rfl, ⟨rfl, rfl, ⟨rfl, rfl, trivial⟩⟩⟩⟩⟩⟩⟩⟩⟩⟩
            ·refine Ax rfl hb77 (.move (.t rfl)) ?_
             obtain ⟨failed4, hv79, hm⟩ := Bs hm
             exact WL.weakR (res' := [(0, (Bx 5 true 56 ((tpagestore_Store_k0 (kk1.2)).is s0_4) b)), (1000000, Dec.Own tS 9 (kk1.2) s0_4.pages_.length), (28, OwnU tS 9 k4 texts), (1300008, Dec.Own tS 9 (kk1.1) w1.texts_.length), (700000, GlE 0), (700001, GlI 1), (700002, GlI 2), (700003, GlT Tryz.prog "internal/strconv.uint64pow10" .u64 Lib.pow10Tab), (700007, Gl (tA 64 (tI .u8)) 7 gv7), (300008, (Bx 5 true 60 ((tMap (tP (tOb b) (tP (tOT tS (kk1.1)) (tP I6 (tOne tjournal_mark)))) (fun x : journal_Journal => (x.Store, x.texts_, x.lasting_, x.last_))).is w1) (k3).1))]) ⟨rfl, rfl, ⟨rfl, rfl, ⟨rfl, rfl, ⟨rfl, rfl, ⟨rfl, rfl, ⟨rfl, rfl, ⟨rfl, rfl, ⟨rfl, rfl, ⟨rfl, rfl, ⟨rfl, rfl, trivial⟩⟩⟩⟩⟩⟩⟩⟩⟩⟩ <| WL.runR rfl rfl rfl rfl hb77 rfl rfl (OpR.call (us := [0, 1000000]) (A := fun kx : Unit => (tB.is failed4)) C21 (FSpecR.keys (rin' := [(0, (Bx 5 true 56 ((tpagestore_Store_k0 (kk1.2)).is s0_4) b)), (1000000, Dec.Own tS 9 (kk1.2) s0_4.pages_.length)]) (out' := fun kx : Unit => [(0, (Bx 5 true 56 ((tpagestore_Store_k0 (kk1.2)).is s0_4) b)), (1000000, Dec.Own tS 9 (kk1.2) s0_4.pages_.length)]) (pagestore_Store_Failed_spec _ _ _ _ hv79) rfl (fun _ => rfl)) rfl ⟨(.t rfl), trivial⟩) fun _ => Ax rfl hb77 (.notB (.t rfl)) <| Ax rfl hb75 (.pickF (.t rfl) hb77 (.t rfl)) <| Ax rfl rfl (.pickT (.t rfl) hb75 (.t rfl)) <| Ao rfl (.pickF (.t rfl) rfl (.t rfl)) <| WL.nil <| WN.meet (!failed4) (Si hm) ⟨.q rfl, .q rfl, .q rfl, .q rfl, .q rfl, .q rfl, .q rfl, .q rfl, trivial⟩ ⟨rfl, rfl, ⟨rfl, rfl, ⟨rfl, rfl, ⟨rfl, rfl, ⟨rfl, rfl, ⟨rfl, rfl, ⟨rfl, rfl, ⟨rfl, rfl, ⟨rfl, rfl, ⟨rfl, rfl, trivial⟩⟩⟩⟩⟩⟩⟩⟩⟩⟩
           ·exact Ap rfl hb75 <| Ap rfl hb75 <| Ap rfl hb75 <| WL.pass2 rfl rfl rfl rfl rfl rfl <| WL.pass2 rfl rfl rfl rfl rfl rfl <| WL.pass2 rfl rfl rfl rfl rfl rfl <| Ap rfl hb75 <| Ax rfl rfl (.pickF (.t rfl) hb75 .bool) <| Ao rfl (.pickF (.t rfl) rfl (.t rfl)) <| WL.nil <| WN.meet false (Si hm) ⟨.q rfl, .q rfl, .q rfl, .q rfl, .q rfl, .q rfl, .q rfl, .q rfl, trivial⟩ ⟨rfl, rfl, ⟨rfl, rfl, ⟨rfl, rfl, ⟨rfl, rfl, ⟨rfl, rfl, ⟨rfl, rfl, ⟨rfl, rfl, ⟨rfl, rfl, ⟨rfl, rfl, ⟨rfl, rfl, trivial⟩⟩⟩⟩⟩⟩⟩⟩⟩⟩
         ·refine Ap rfl hb64 <| Ao rfl (.pickF (.t rfl) hb64 .bool) <| Am rfl rfl <| Ap rfl rfl <| Ap rfl rfl <| Ap rfl rfl <| Ao rfl (.pickF (.t rfl) rfl .bool) <| Am rfl rfl <| Ax rfl rfl (.move (.t rfl)) <| Ax rfl rfl (.neI (.t rfl) .i64) <| Ax rfl rfl (.move (.t rfl)) ?_
          rcases iteD hm with ⟨hp81, hb80, hm⟩ | ⟨hp81, hb80, hm⟩
          ·refine Ax rfl hb80 (.move (.t rfl)) <| Ax rfl hb80 (.neI (.t rfl) .i64) <| Ax rfl hb80 (.move (.t rfl)) ?_
           rcases iteD hm with ⟨hp83, hb82, hm⟩ | ⟨hp83, hb82, hm⟩
           ·exact Ap rfl hb82 <| Ap rfl hb82 <| Ap rfl hb82 <| Ax rfl hb80 (.pickT (.t rfl) hb82 .bool) <| Ax rfl rfl (.pickT (.t rfl) hb80 (.t rfl)) <| Ao rfl (.pickF (.t rfl) rfl (.t rfl)) <| WL.nil <| WN.meet true (Si hm) ⟨.q rfl, .q rfl, .q rfl, .q rfl, .q rfl, .q rfl, .q rfl, .q rfl, trivial⟩ ⟨rfl, rfl, ⟨rfl, rfl, ⟨rfl, rfl, ⟨rfl, rfl, ⟨rfl, rfl, ⟨rfl, rfl, ⟨rfl, rfl, ⟨rfl, rfl, ⟨rfl, rfl, ⟨rfl, rfl, trivial⟩⟩⟩⟩⟩⟩⟩⟩⟩⟩
           ·refine Ax rfl hb82 (.move (.t rfl)) ?_
            obtain ⟨failed5, hv84, hm⟩ := Bs hm
            exact WL.weakR (res' := [(0, (Bx 5 true 56 ((tpagestore_Store_k0 (kk1.2)).is s0_4) b)), (1000000, Dec.Own tS 9 (kk1.2) s0_4.pages_.length), (28, OwnU tS 9 k4 texts), (1300008, Dec.Own tS 9 (kk1.1) w1.texts_.length), (700000, GlE 0), (700001, GlI 1), (700002, GlI 2), (700003, GlT Tryz.prog "internal/strconv.uint64pow10" .u64 Lib.pow10Tab), (700007, Gl (tA 64 (tI .u8)) 7 gv7), (300008, (Bx 5 true 60 ((tMap (tP (tOb b) (tP (tOT tS (kk1.1)) (tP I6 (tOne tjournal_mark)))) (fun x : journal_Journal => (x.Store, x.texts_, x.lasting_, x.last_))).is w1) (k3).1))]) ⟨rfl, rfl, ⟨rfl, rfl, ⟨rfl, rfl, ⟨rfl, rfl, ⟨rfl, rfl, ⟨rfl, rfl, ⟨rfl, rfl, ⟨rfl, rfl, ⟨rfl, rfl, ⟨rfl, rfl, trivial⟩⟩⟩⟩⟩⟩⟩⟩⟩⟩ <| WL.runR rfl rfl rfl rfl hb82 rfl rfl (OpR.call (us := [0, 1000000]) (A := fun kx : Unit => (tB.is failed5)) C21 (FSpecR.keys (rin' := [(0, (Bx 5 true 56 ((tpagestore_Store_k0 (kk1.2)).is s0_4) b)), (1000000, Dec.Own tS 9 (kk1.2) s0_4.pages_.length)]) (out' := fun kx : Unit => [(0, (Bx 5 true 56 ((tpagestore_Store_k0 (kk1.2)).is s0_4) b)), (1000000, Dec.Own tS 9 (kk1.2) s0_4.pages_.length)]) (pagestore_Store_Failed_spec _ _ _ _ hv84) rfl (fun _ => rfl)) rfl ⟨(.t rfl), trivial⟩) fun _ => Ax rfl hb82 (.notB (.t rfl)) <| Ax rfl hb80 (.pickF (.t rfl) hb82 (.t rfl)) <| Ax rfl rfl (.pickT (.t rfl) hb80 (.t rfl)) <| Ao rfl (.pickF (.t rfl) rfl (.t rfl)) <| WL.nil <| WN.meet (!failed5) (Si hm) ⟨.q rfl, .q rfl, .q rfl, .q rfl, .q rfl, .q rfl, .q rfl, .q rfl, trivial⟩ ⟨rfl, rfl, ⟨rfl, rfl, ⟨rfl, rfl, ⟨rfl, rfl, ⟨rfl, rfl, ⟨rfl, rfl, ⟨rfl, rfl, ⟨rfl, rfl, ⟨rfl, rfl, ⟨rfl, rfl, trivial⟩⟩⟩⟩⟩⟩⟩⟩⟩⟩
          ·exact Ap rfl hb80 <| Ap rfl hb80 <| Ap rfl hb80 <| WL.pass2 rfl rfl rfl rfl rfl rfl <| WL.pass2 rfl rfl rfl rfl rfl rfl <| WL.pass2 rfl rfl rfl rfl rfl rfl <| Ap rfl hb80 <| Ax rfl rfl (.pickF (.t rfl) hb80 .bool) <| Ao rfl (.pickF (.t rfl) rfl (.t rfl)) <| WL.nil <| WN.meet false (Si hm) ⟨.q rfl, .q rfl, .q rfl, .q rfl, .q rfl, .q rfl, .q rfl, .q rfl, trivial⟩ ⟨rfl, rfl, ⟨rfl, rfl, ⟨rfl, rfl, ⟨rfl, rfl, ⟨rfl, rfl, ⟨rfl, rfl, ⟨rfl, rfl, ⟨rfl, rfl, ⟨rfl, rfl, ⟨rfl, rfl, trivial⟩⟩⟩⟩⟩⟩⟩⟩⟩⟩
       ·refine Aw <| Ao rfl (.eqI (.t rfl) .i64) <| Ag rfl rfl <| An <| W.cD hm (.t rfl) (fun hp93 hm => ?_) (fun hp93 hm => ?_)
        ·refine Aw <| Am rfl rfl <| Am rfl rfl <| WL.mv rfl rfl ?_
         obtain ⟨v6, hv94, hm⟩ := Bs hm
         refine Ao rfl (.idx hv94 U22 Z52 (.t rfl) (.t rfl)) <| Ao rfl (.fieldAddr U52 rfl J3 fpandectlaw14_Call_1 (.t rfl)) <| Ao rfl (.load ty3 (.t rfl)) ?_
         obtain ⟨s0_5, hv95, hm⟩ := Bs hm
         refine WL.weakR (res' := [(0, (Bx 5 true 56 ((tpagestore_Store_k0 k5).is s0_1) b)), (1000000, Dec.Own tS 9 k5 s0_1.pages_.length), (300008, ObR (fun kq => (tMap (tP (tOb b) (tP (tOT tS kq) (tP I6 (tOne tjournal_mark)))) (fun x : journal_Journal => (x.Store, x.texts_, x.lasting_, x.last_)))) 60 tS 9 (fun x : journal_Journal => x.texts_) k3 j), (28, OwnU tS 9 k4 texts), (700000, GlE 0), (700001, GlI 1), (700002, GlI 2), (700003, GlT Tryz.prog "internal/strconv.uint64pow10" .u64 Lib.pow10Tab), (700007, Gl (tA 64 (tI .u8)) 7 gv7)]) ⟨rfl, rfl, ⟨rfl, rfl, ⟨rfl, rfl, ⟨rfl, rfl, ⟨rfl, rfl, ⟨rfl, rfl, ⟨rfl, rfl, ⟨rfl, rfl, ⟨rfl, rfl, trivial⟩⟩⟩⟩⟩⟩⟩⟩⟩ <| WL.opR rfl (OpR.call (us := [0, 1000000]) (A := fun kx : Tok => (Asn.eq (.tuple #[]))) C18 (FSpecR.keys (rin' := [(0, (Bx 5 true 56 ((tpagestore_Store_k0 k5).is s0_1) b)), (1000000, Dec.Own tS 9 k5 s0_1.pages_.length)]) (out' := fun kx : Tok => [(0, (Bx 5 true 56 ((tpagestore_Store_k0 kx).is s0_5) b)), (1000000, Dec.Own tS 9 kx s0_5.pages_.length)]) (pagestore_Store_Crash_spec _ _ _ _ _ hv95) rfl (fun _ => rfl)) rfl ⟨(.t rfl), (.t rfl), trivial⟩) fun k10 => Ar <| WL.mv rfl rfl ?_
         obtain ⟨open0_1, hv96, hm⟩ := Bs hm
         refine WL.weakR (res' := [(0, (Bx 5 true 56 ((tpagestore_Store_k0 k10).is s0_5) b)), (1000000, Dec.Own tS 9 k10 s0_5.pages_.length), (700000, GlE 0), (700001, GlI 1), (700002, GlI 2), (700003, GlT Tryz.prog "internal/strconv.uint64pow10" .u64 Lib.pow10Tab), (700007, Gl (tA 64 (tI .u8)) 7 gv7), (300008, ObR (fun kq => (tMap (tP (tOb b) (tP (tOT tS kq) (tP I6 (tOne tjournal_mark)))) (fun x : journal_Journal => (x.Store, x.texts_, x.lasting_, x.last_)))) 60 tS 9 (fun x : journal_Journal => x.texts_) k3 j), (28, OwnU tS 9 k4 texts)]) ⟨rfl, rfl, ⟨rfl, rfl, ⟨rfl, rfl, ⟨rfl, rfl, ⟨rfl, rfl, ⟨rfl, rfl, ⟨rfl, rfl, ⟨rfl, rfl, ⟨rfl, rfl, trivial⟩⟩⟩⟩⟩⟩⟩⟩⟩ <| WL.opR rfl (OpR.call (us := [0, 1000000, 700000, 700001, 700002, 700003, 700007]) (A := fun kx : Nat × Tok => (Asn.tuple2 (ObP kx open0_1.1) (I6.is open0_1.2))) C14 (FSpecR.keys (rin' := [(0, (Bx 5 true 56 ((tpagestore_Store_k0 k10).is s0_5) b)), (1000000, Dec.Own tS 9 k10 s0_5.pages_.length), (700000, GlE 0), (700001, GlI 1), (700002, GlI 2), (700003, GlT Tryz.prog "internal/strconv.uint64pow10" .u64 Lib.pow10Tab), (700007, Gl (tA 64 (tI .u8)) 7 gv7)]) (out' := fun kx : Nat × Tok => [(0, (Bx 5 true 56 ((tpagestore_Store_k0 k10).is s0_5) b)), (1000000, Dec.Own tS 9 k10 s0_5.pages_.length), (700000, GlE 0), (700001, GlI 1), (700002, GlI 2), (700003, GlT Tryz.prog "internal/strconv.uint64pow10" .u64 Lib.pow10Tab), (700007, Gl (tA 64 (tI .u8)) 7 gv7), (134, ObR (fun kq => (tMap (tP (tOb b) (tP (tOT tS kq) (tP I6 (tOne tjournal_mark)))) (fun x : journal_Journal => (x.Store, x.texts_, x.lasting_, x.last_)))) 60 tS 9 (fun x : journal_Journal => x.texts_) kx open0_1.1)]) (journal_Open_spec _ _ _ _ _ hv96) rfl (fun _ => rfl)) rfl ⟨(.t rfl), trivial⟩) fun k11 => Am rfl rfl <| Ao rfl (.extract0 (.t rfl)) <| Ao rfl (.extract1 (.t rfl)) <| Ag rfl rfl <| Ag rfl rfl <| An <| W.seq <| Aw <| Am rfl rfl <| Ao rfl (.neI (.t rfl) .i64) <| WL.mv rfl rfl ?_
         rcases iteD hm with ⟨hp98, hb97, hm⟩ | ⟨hp98, hb97, hm⟩
         ·refine Ap rfl hb97 <| Ap rfl hb97 <| Ao rfl (.pickT (.t rfl) hb97 .bool) <| An <| W.condT (.t rfl) <| Aw <| Ao rfl (.assign (show Opd _ (Operand.const (Value.pointer none)) (Asn.eq (Value.pointer none)) from fun _ _ _ => rfl)) <| Ao rfl (.assign (.nil (t := tS))) <| Ao rfl (.assign .i64) <| Ao rfl (.assign .bool) <| WL.ns ?_
          have hr99 := Si hm
          clear hm
          subst hr99
          have hm := hk18
          try dsimp only at hm
          have hr100 := Si hm
          clear hm
          subst hr100
          have hm := hk11
          try dsimp only at hm
          have hr := Si hm
          clear hm
          subst hr
          exact W.obNil (fun kq => (tMap (tP (tOb b) (tP (tOT tS kq) (tP I6 (tOne tjournal_mark)))) (fun x : journal_Journal => (x.Store, x.texts_, x.lasting_, x.last_)))) 60 tS 9 (fun x : journal_Journal => x.texts_) (0, none) 4 88888 rfl <| W.ret4 (((0, none) : Nat × Tok), k10) rfl rfl (.t rfl) (.t rfl) (.t rfl) (.t rfl) ⟨rfl, rfl, ⟨rfl, rfl, ⟨rfl, rfl, ⟨rfl, rfl, ⟨rfl, rfl, ⟨rfl, rfl, ⟨rfl, rfl, ⟨rfl, rfl, trivial⟩⟩⟩⟩⟩⟩⟩⟩
         ·refine Ax rfl hb97 (.move (.t rfl)) <| Ax rfl hb97 (.eqNilO U25 (.t rfl)) <| Ao rfl (.pickF (.t rfl) hb97 (.t rfl)) <| An <| W.cB hm (.t rfl) (fun hp102 hm => ?_) (fun hp102 hm => ?_)
          ·refine Aw <| Ao rfl (.assign (show Opd _ (Operand.const (Value.pointer none)) (Asn.eq (Value.pointer none)) from fun _ _ _ => rfl)) <| Ao rfl (.assign (.nil (t := tS))) <| Ao rfl (.assign .i64) <| Ao rfl (.assign .bool) <| WL.ns ?_
           have hr103 := Si hm
           clear hm
           subst hr103
           have hm := hk18
           try dsimp only at hm
           have hr104 := Si hm
           clear hm
           subst hr104
           have hm := hk11
           try dsimp only at hm
           have hr := Si hm
           clear hm
           subst hr
           exact W.obNil (fun kq => (tMap (tP (tOb b) (tP (tOT tS kq) (tP I6 (tOne tjournal_mark)))) (fun x : journal_Journal => (x.Store, x.texts_, x.lasting_, x.last_)))) 60 tS 9 (fun x : journal_Journal => x.texts_) (0, none) 4 88888 rfl <| W.ret4 (((0, none) : Nat × Tok), k10) rfl rfl (.t rfl) (.t rfl) (.t rfl) (.t rfl) ⟨rfl, rfl, ⟨rfl, rfl, ⟨rfl, rfl, ⟨rfl, rfl, ⟨rfl, rfl, ⟨rfl, rfl, ⟨rfl, rfl, ⟨rfl, rfl, trivial⟩⟩⟩⟩⟩⟩⟩⟩
          ·refine W.skip <| Aq <| W.region <| Am rfl rfl <| WL.mv rfl rfl ?_
           obtain ⟨v7, hv105, hm⟩ := Bs hm
           exact WL.opR rfl (OpR.cutU (t := tS) (key := 28) hv105 U26 Z9 (.t rfl) (.t rfl) rfl) fun k12 => Ag rfl rfl <| WL.nil <| WN.block <| WN.weakR (res' := [(28, OwnU tS 9 k12 v7), (1000000, Dec.Own tS 9 k10 s0_5.pages_.length), (134, ObR (fun kq => (tMap (tP (tOb b) (tP (tOT tS kq) (tP I6 (tOne tjournal_mark)))) (fun x : journal_Journal => (x.Store, x.texts_, x.lasting_, x.last_)))) 60 tS 9 (fun x : journal_Journal => x.texts_) k11 open0_1.1), (0, (Bx 5 true 56 ((tpagestore_Store_k0 k10).is s0_5) b)), (700000, GlE 0), (700001, GlI 1), (700002, GlI 2), (700003, GlT Tryz.prog "internal/strconv.uint64pow10" .u64 Lib.pow10Tab), (700007, Gl (tA 64 (tI .u8)) 7 gv7)]) ⟨rfl, rfl, ⟨rfl, rfl, ⟨rfl, rfl, ⟨rfl, rfl, ⟨rfl, rfl, ⟨rfl, rfl, ⟨rfl, rfl, ⟨rfl, rfl, ⟨rfl, rfl, trivial⟩⟩⟩⟩⟩⟩⟩⟩⟩ <| WN.rekey (res' := [(28, OwnU tS 9 k12 v7), (1000000, Dec.Own tS 9 k10 s0_5.pages_.length), (300008, ObR (fun kq => (tMap (tP (tOb b) (tP (tOT tS kq) (tP I6 (tOne tjournal_mark)))) (fun x : journal_Journal => (x.Store, x.texts_, x.lasting_, x.last_)))) 60 tS 9 (fun x : journal_Journal => x.texts_) k11 open0_1.1), (0, (Bx 5 true 56 ((tpagestore_Store_k0 k10).is s0_5) b)), (700000, GlE 0), (700001, GlI 1), (700002, GlI 2), (700003, GlT Tryz.prog "internal/strconv.uint64pow10" .u64 Lib.pow10Tab), (700007, Gl (tA 64 (tI .u8)) 7 gv7)]) rfl <| WN.meet ((open0_1.1, v7, lasting, s0_5), (k11, k12, k10)) (Si hm) ⟨.q rfl, .q rfl, .q rfl, .q rfl, .q rfl, .q rfl, trivial⟩ ⟨rfl, rfl, ⟨rfl, rfl, ⟨rfl, rfl, ⟨rfl, rfl, ⟨rfl, rfl, ⟨rfl, rfl, ⟨rfl, rfl, ⟨rfl, rfl, ⟨rfl, rfl, trivial⟩⟩⟩⟩⟩⟩⟩⟩⟩
        ·refine Aw <| Ao rfl (.eqI (.t rfl) .i64) <| Ag rfl rfl <| An <| W.cD hm (.t rfl) (fun hp107 hm => ?_) (fun hp107 hm => ?_)
         ·refine W.region <| Am rfl rfl <| Am rfl rfl <| WL.mv rfl rfl ?_
          obtain ⟨v8, hv108, hm⟩ := Bs hm
          refine Ao rfl (.idx hv108 U22 Z52 (.t rfl) (.t rfl)) <| Ao rfl (.fieldAddr U52 rfl J3 fpandectlaw14_Call_1 (.t rfl)) <| Ao rfl (.load ty3 (.t rfl)) ?_
          obtain ⟨s0_6, hv109, hm⟩ := Bs hm
          exact WL.weakR (res' := [(0, (Bx 5 true 56 ((tpagestore_Store_k0 k5).is s0_1) b)), (1000000, Dec.Own tS 9 k5 s0_1.pages_.length), (300008, ObR (fun kq => (tMap (tP (tOb b) (tP (tOT tS kq) (tP I6 (tOne tjournal_mark)))) (fun x : journal_Journal => (x.Store, x.texts_, x.lasting_, x.last_)))) 60 tS 9 (fun x : journal_Journal => x.texts_) k3 j), (28, OwnU tS 9 k4 texts), (700000, GlE 0), (700001, GlI 1), (700002, GlI 2), (700003, GlT Tryz.prog "internal/strconv.uint64pow10" .u64 Lib.pow10Tab), (700007, Gl (tA 64 (tI .u8)) 7 gv7)]) ⟨rfl, rfl, ⟨rfl, rfl, ⟨rfl, rfl, ⟨rfl, rfl, ⟨rfl, rfl, ⟨rfl, rfl, ⟨rfl, rfl, ⟨rfl, rfl, ⟨rfl, rfl, trivial⟩⟩⟩⟩⟩⟩⟩⟩⟩ <| WL.opR rfl (OpR.call (us := [0, 1000000]) (A := fun kx : Tok => (Asn.eq (.tuple #[]))) C22 (FSpecR.keys (rin' := [(0, (Bx 5 true 56 ((tpagestore_Store_k0 k5).is s0_1) b)), (1000000, Dec.Own tS 9 k5 s0_1.pages_.length)]) (out' := fun kx : Tok => [(0, (Bx 5 true 56 ((tpagestore_Store_k0 kx).is s0_6) b)), (1000000, Dec.Own tS 9 kx s0_6.pages_.length)]) (pagestore_Store_FailAfter_spec _ _ _ _ _ hv109) rfl (fun _ => rfl)) rfl ⟨(.t rfl), (.t rfl), trivial⟩) fun k13 => WL.nil <| WN.block <| WN.meet ((j, texts, lasting, s0_6), (k3, k4, k13)) (Si hm) ⟨.q rfl, .q rfl, .q rfl, .q rfl, .q rfl, .q rfl, trivial⟩ ⟨rfl, rfl, ⟨rfl, rfl, ⟨rfl, rfl, ⟨rfl, rfl, ⟨rfl, rfl, ⟨rfl, rfl, ⟨rfl, rfl, ⟨rfl, rfl, ⟨rfl, rfl, trivial⟩⟩⟩⟩⟩⟩⟩⟩⟩
         ·exact W.skip <| WN.block <| WN.meet ((j, texts, lasting, s0_1), (k3, k4, k5)) (Si hm) ⟨.q rfl, .q rfl, .q rfl, .q rfl, .q rfl, .q rfl, trivial⟩ ⟨rfl, rfl, ⟨rfl, rfl, ⟨rfl, rfl, ⟨rfl, rfl, ⟨rfl, rfl, ⟨rfl, rfl, ⟨rfl, rfl, ⟨rfl, rfl, ⟨rfl, rfl, trivial⟩⟩⟩⟩⟩⟩⟩⟩⟩
    ·refine W.exit rfl ?_
     have hr126 := Si hm
     clear hm
     subst hr126
     have hm := hk11
     try dsimp only at hm
     refine Aq <| Aw <| Am rfl rfl <| Am rfl rfl <| Am rfl rfl <| Ag rfl rfl <| WL.fixU 174 28 rfl rfl <| WL.sameU 174 10 rfl rfl <| Ag rfl rfl <| Ag rfl rfl <| Ao rfl (.assign .bool) <| WL.ns ?_
     have hr := Si hm
     clear hm
     subst hr
     exact W.weakR (res' := [(300008, ObR (fun kq => (tMap (tP (tOb b) (tP (tOT tS kq) (tP I6 (tOne tjournal_mark)))) (fun x : journal_Journal => (x.Store, x.texts_, x.lasting_, x.last_)))) 60 tS 9 (fun x : journal_Journal => x.texts_) k3 j), (28, Dec.Own tS 9 k4 texts.length), (1000000, Dec.Own tS 9 k5 s0_1.pages_.length), (0, (Bx 5 true 56 ((tpagestore_Store_k0 k5).is s0_1) b)), (700000, GlE 0), (700001, GlI 1), (700002, GlI 2), (700003, GlT Tryz.prog "internal/strconv.uint64pow10" .u64 Lib.pow10Tab), (700007, Gl (tA 64 (tI .u8)) 7 gv7)]) ⟨rfl, rfl, ⟨rfl, rfl, ⟨rfl, rfl, ⟨rfl, rfl, ⟨rfl, rfl, ⟨rfl, rfl, ⟨rfl, rfl, ⟨rfl, rfl, ⟨rfl, rfl, trivial⟩⟩⟩⟩⟩⟩⟩⟩⟩ <| W.rekey (res' := [(88888, ObR (fun kq => (tMap (tP (tOb b) (tP (tOT tS kq) (tP I6 (tOne tjournal_mark)))) (fun x : journal_Journal => (x.Store, x.texts_, x.lasting_, x.last_)))) 60 tS 9 (fun x : journal_Journal => x.texts_) k3 j), (28, Dec.Own tS 9 k4 texts.length), (1000000, Dec.Own tS 9 k5 s0_1.pages_.length), (0, (Bx 5 true 56 ((tpagestore_Store_k0 k5).is s0_1) b)), (700000, GlE 0), (700001, GlI 1), (700002, GlI 2), (700003, GlT Tryz.prog "internal/strconv.uint64pow10" .u64 Lib.pow10Tab), (700007, Gl (tA 64 (tI .u8)) 7 gv7)]) rfl <| W.ret4 (k3, k5) rfl rfl (.t rfl) (Opd.own (.t rfl)) (.t rfl) (.t rfl) ⟨rfl, rfl, ⟨rfl, rfl, ⟨rfl, rfl, ⟨rfl, rfl, ⟨rfl, rfl, ⟨rfl, rfl, ⟨rfl, rfl, ⟨rfl, rfl, trivial⟩⟩⟩⟩⟩⟩⟩⟩
 ·have hm := hs3
  clear hs3
  refine W.region <| Am rfl rfl <| Ao rfl (.neI (.t rfl) .i64) <| WL.mv rfl rfl ?_
  rcases iteD hm with ⟨hp6, hb5, hm⟩ | ⟨hp6, hb5, hm⟩
  ·exact Ap rfl hb5 <| Ap rfl hb5 <| Ao rfl (.pickT (.t rfl) hb5 .bool) <| WL.nil <| WN.meet true (Si hm) ⟨.q rfl, .q rfl, .q rfl, .q rfl, trivial⟩ ⟨rfl, rfl, ⟨rfl, rfl, ⟨rfl, rfl, ⟨rfl, rfl, ⟨rfl, rfl, ⟨rfl, rfl, ⟨rfl, rfl, ⟨rfl, rfl, trivial⟩⟩⟩⟩⟩⟩⟩⟩
  ·exact Ax rfl hb5 (.move (.t rfl)) <| Ax rfl hb5 (.eqNilO U25 (.t rfl)) <| Ao rfl (.pickF (.t rfl) hb5 (.t rfl)) <| WL.nil <| WN.meet open0_.1.isNone (Si hm) ⟨.q rfl, .q rfl, .q rfl, .q rfl, trivial⟩ ⟨rfl, rfl, ⟨rfl, rfl, ⟨rfl, rfl, ⟨rfl, rfl, ⟨rfl, rfl, ⟨rfl, rfl, ⟨rfl, rfl, ⟨rfl, rfl, trivial⟩⟩⟩⟩⟩⟩⟩⟩
theorem law14_JournalSequences_spec (n : Nat) (l : List pandectlaw14_Call) (n0_ : Int) (r : Bool) (hm : M.law14_JournalSequences n l n0_ = some r) : FSpecR Tryz.prog 3 [((tL tpandectlaw14_Call).is l), (I6.is n0_)] [(700000, GlE 0), (700001, GlI 1), (700002, GlI 2), (700003, GlT Tryz.prog "internal/strconv.uint64pow10" .u64 Lib.pow10Tab), (700007, Gl (tA 64 (tI .u8)) 7 gv7)] (fun _ : Unit => (tB.is r)) (fun _ => []) := by
 unfold M.law14_JournalSequences at hm
 refine FSpecR.of Tryz.func3 rfl rfl rfl fun g0 => Aw <| Ao rfl (.assign .bool) <| An <| W.seq <| W.sr ?_
 obtain ⟨awake, hv1, hm⟩ := Bs hm
 refine Ao rfl (.callG (rin := [(700000, GlE 0), (700001, GlI 1), (700002, GlI 2), (700003, GlT Tryz.prog "internal/strconv.uint64pow10" .u64 Lib.pow10Tab), (700007, Gl (tA 64 (tI .u8)) 7 gv7)]) C5 (law14_awake_spec _ _ hv1) ⟨rfl, rfl, rfl, rfl, rfl, trivial⟩ ⟨rfl, rfl, ⟨rfl, rfl, ⟨rfl, rfl, ⟨rfl, rfl, ⟨rfl, rfl, trivial⟩⟩⟩⟩⟩ trivial) <| Ao rfl (.notB (.t rfl)) <| An <| W.cR hm (.t rfl) (fun hp3 hm => ?_) (fun hp3 hm => ?_)
 ·refine Aw <| Ao rfl (.assign .bool) <| WL.ns ?_
  have hr := Si hm
  clear hm
  subst hr
  exact W.ret1 () rfl (.t rfl) trivial
 ·refine W.skip <| Aq <| W.seq <| Aw <| WL.mv rfl rfl ?_
  obtain ⟨few, hv4, hm⟩ := Bs hm
  refine Ao rfl (.call C6 (law14_few_spec _ _ _ hv4) ⟨(.t rfl), trivial⟩) <| Ao rfl (.notB (.t rfl)) <| An <| W.cR hm (.t rfl) (fun hp6 hm => ?_) (fun hp6 hm => ?_)
  ·refine Aw <| Ao rfl (.assign .bool) <| WL.ns ?_
   have hr := Si hm
   clear hm
   subst hr
   exact W.ret1 () rfl (.t rfl) trivial
  ·refine W.skip <| Aq <| W.sr ?_
   obtain ⟨new, hv7, hm⟩ := Bs hm
   refine WL.weakR (res' := [(700000, GlE 0), (700001, GlI 1), (700002, GlI 2), (700003, GlT Tryz.prog "internal/strconv.uint64pow10" .u64 Lib.pow10Tab), (700007, Gl (tA 64 (tI .u8)) 7 gv7)]) ⟨rfl, rfl, ⟨rfl, rfl, ⟨rfl, rfl, ⟨rfl, rfl, ⟨rfl, rfl, trivial⟩⟩⟩⟩⟩ <| WL.opR rfl (OpR.call (us := []) (A := fun kx : Nat × Tok => (ObP kx new)) C8 (FSpecR.keys (rin' := []) (out' := fun kx : Nat × Tok => [(17, ObR tpagestore_Store_k0 56 tS 9 (fun x : pagestore_Store => x.pages_) kx new)]) (pagestore_New_spec _ hv7) rfl (fun _ => rfl)) rfl trivial) fun k => WL.mv rfl rfl ?_
   obtain ⟨ob, hv8, hm⟩ := Bs hm
   obtain ⟨⟨play, w⟩, hv9, hm⟩ := Bs hm
   dsimp only at hm
   refine WL.obOpen (t := tpagestore_Store_k0) (T := 56) (te := tS) (E := 9) (f := (fun x : pagestore_Store => x.pages_)) (c := k) (u := ob) (o := new) (key := 17) 17 17 1000017 hv8 rfl rfl <| WL.weakR (res' := [(17, (Bx 5 true 56 ((tpagestore_Store_k0 (k).2).is ob) (k).1)), (1000017, Dec.Own tS 9 (k).2 ob.pages_.length), (700000, GlE 0), (700001, GlI 1), (700002, GlI 2), (700003, GlT Tryz.prog "internal/strconv.uint64pow10" .u64 Lib.pow10Tab), (700007, Gl (tA 64 (tI .u8)) 7 gv7)]) ⟨rfl, rfl, ⟨rfl, rfl, ⟨rfl, rfl, ⟨rfl, rfl, ⟨rfl, rfl, ⟨rfl, rfl, ⟨rfl, rfl, trivial⟩⟩⟩⟩⟩⟩⟩ <| WL.opR rfl (OpR.call (us := [17, 1000017, 700000, 700001, 700002, 700003, 700007]) (A := fun kx : (Nat × Tok) × (Tok) => (Asn.tuple4 (ObP (kx.1) play.1) ((tL tS).is play.2.1) (I6.is play.2.2.1) (tB.is play.2.2.2))) C7 (FSpecR.keys (rin' := [(17, (Bx 5 true 56 ((tpagestore_Store_k0 (k).2).is ob) (k).1)), (1000017, Dec.Own tS 9 (k).2 ob.pages_.length), (700000, GlE 0), (700001, GlI 1), (700002, GlI 2), (700003, GlT Tryz.prog "internal/strconv.uint64pow10" .u64 Lib.pow10Tab), (700007, Gl (tA 64 (tI .u8)) 7 gv7)]) (out' := fun kx : (Nat × Tok) × (Tok) => [(17, (Bx 5 true 56 ((tpagestore_Store_k0 (kx.2)).is w) (k).1)), (1000017, Dec.Own tS 9 (kx.2) w.pages_.length), (700000, GlE 0), (700001, GlI 1), (700002, GlI 2), (700003, GlT Tryz.prog "internal/strconv.uint64pow10" .u64 Lib.pow10Tab), (700007, Gl (tA 64 (tI .u8)) 7 gv7), (19, ObR (fun kq => (tMap (tP (tOb (k).1) (tP (tOT tS kq) (tP I6 (tOne tjournal_mark)))) (fun x : journal_Journal => (x.Store, x.texts_, x.lasting_, x.last_)))) 60 tS 9 (fun x : journal_Journal => x.texts_) (kx.1) play.1)]) (law14_play_spec _ _ _ _ _ _ hv9) rfl (fun _ => rfl)) rfl ⟨(.t rfl), (.t rfl), trivial⟩) fun kk => Am rfl rfl <| Ao rfl (.extract40 (.t rfl)) <| Ao rfl (.extract41 (.t rfl)) <| Ao rfl (.extract42 (.t rfl)) <| Ao rfl (.extract43 (.t rfl)) <| Ag rfl rfl <| Ag rfl rfl <| Ag rfl rfl <| Ag rfl rfl <| An <| W.seq <| Aw <| WL.mv rfl rfl ?_
   refine Ao rfl (.notB (.t rfl)) <| An <| W.cR hm (.t rfl) (fun hp11 hm => ?_) (fun hp11 hm => ?_)
   ·refine Aw <| Ao rfl (.assign .bool) <| WL.ns ?_
    have hr := Si hm
    clear hm
    subst hr
    exact W.ret1 () rfl (.t rfl) trivial
   ·refine W.skip <| Aq <| W.seq ?_
    obtain ⟨j, hv12, hm⟩ := Bs hm
    refine W.obOpen (t := (fun kq => (tMap (tP (tOb (k).1) (tP (tOT tS kq) (tP I6 (tOne tjournal_mark)))) (fun x : journal_Journal => (x.Store, x.texts_, x.lasting_, x.last_))))) (T := 60) (te := tS) (E := 9) (f := (fun x : journal_Journal => x.texts_)) (c := (kk.1)) (u := j) (o := play.1) (key := 19) 5 19 1000019 hv12 rfl rfl <| W.chg (fun _ _ h => h.slotA (s := 20) rfl (fun _ _ => ObP.some hv12)) <| W.region <| Am rfl rfl <| WL.mv rfl rfl ?_
    obtain ⟨at0_, hv13, hm⟩ := Bs hm
    refine WL.weakR (res' := [(19, (Bx 5 true 60 ((tMap (tP (tOb (k).1) (tP (tOT tS ((kk.1)).2) (tP I6 (tOne tjournal_mark)))) (fun x : journal_Journal => (x.Store, x.texts_, x.lasting_, x.last_))).is j) ((kk.1)).1)), (1000019, Dec.Own tS 9 ((kk.1)).2 j.texts_.length), (17, (Bx 5 true 56 ((tpagestore_Store_k0 (kk.2)).is w) (k).1)), (1000017, Dec.Own tS 9 (kk.2) w.pages_.length), (700000, GlE 0), (700001, GlI 1), (700002, GlI 2), (700003, GlT Tryz.prog "internal/strconv.uint64pow10" .u64 Lib.pow10Tab), (700007, Gl (tA 64 (tI .u8)) 7 gv7)]) ⟨rfl, rfl, ⟨rfl, rfl, ⟨rfl, rfl, ⟨rfl, rfl, ⟨rfl, rfl, ⟨rfl, rfl, ⟨rfl, rfl, ⟨rfl, rfl, ⟨rfl, rfl, trivial⟩⟩⟩⟩⟩⟩⟩⟩⟩ <| WL.opR rfl (OpR.call (us := [19, 1000019, 17, 1000017]) (A := fun kx : Unit => (Asn.tuple2 (tS.is at0_.1) (I6.is at0_.2))) C9 (FSpecR.keys (rin' := [(19, (Bx 5 true 60 ((tMap (tP (tOb (k).1) (tP (tOT tS ((kk.1)).2) (tP I6 (tOne tjournal_mark)))) (fun x : journal_Journal => (x.Store, x.texts_, x.lasting_, x.last_))).is j) ((kk.1)).1)), (1000019, Dec.Own tS 9 ((kk.1)).2 j.texts_.length), (17, (Bx 5 true 56 ((tpagestore_Store_k0 (kk.2)).is w) (k).1)), (1000017, Dec.Own tS 9 (kk.2) w.pages_.length)]) (out' := fun kx : Unit => [(19, (Bx 5 true 60 ((tMap (tP (tOb (k).1) (tP (tOT tS ((kk.1)).2) (tP I6 (tOne tjournal_mark)))) (fun x : journal_Journal => (x.Store, x.texts_, x.lasting_, x.last_))).is j) ((kk.1)).1)), (1000019, Dec.Own tS 9 ((kk.1)).2 j.texts_.length), (17, (Bx 5 true 56 ((tpagestore_Store_k0 (kk.2)).is w) (k).1)), (1000017, Dec.Own tS 9 (kk.2) w.pages_.length)]) (journal_Journal_At_spec _ _ _ _ _ _ _ _ hv13) rfl (fun _ => rfl)) rfl ⟨(.t rfl), (.t rfl), trivial⟩) fun _ => Am rfl rfl <| Ao rfl (.extract0 (.t rfl)) <| Ao rfl (.extract1 (.t rfl)) <| Ag rfl rfl <| Ag rfl rfl <| An <| W.seq ?_
    obtain ⟨s14, hs15, hk16⟩ := Bs hm
    clear hm
    refine W.join (fun s : Bool => s = s14) (fun s => [(39, (tB.is s)), (1, (I6.is n0_)), (6, ((tL tS).is play.2.1)), (9, (tS.is at0_.1)), (10, (I6.is at0_.2))]) (fun s => [(1000017, Dec.Own tS 9 (kk.2) w.pages_.length), (1000019, Dec.Own tS 9 ((kk.1)).2 j.texts_.length), (17, (Bx 5 true 56 ((tpagestore_Store_k0 (kk.2)).is w) (k).1)), (19, (Bx 5 true 60 ((tMap (tP (tOb (k).1) (tP (tOT tS ((kk.1)).2) (tP I6 (tOne tjournal_mark)))) (fun x : journal_Journal => (x.Store, x.texts_, x.lasting_, x.last_))).is j) ((kk.1)).1)), (700000, GlE 0), (700001, GlI 1), (700002, GlI 2), (700003, GlT Tryz.prog "internal/strconv.uint64pow10" .u64 Lib.pow10Tab), (700007, Gl (tA 64 (tI .u8)) 7 gv7)]) ?_ ?_
    ·rintro v hj30
     try dsimp only at hj30
     subst hj30
     have hm := hk16
     clear hk16
     try dsimp only at hm
     change W _ _ _ _ _ _ _ [(39, (tB.is v)), (1, (I6.is n0_)), (6, ((tL tS).is play.2.1)), (9, (tS.is at0_.1)), (10, (I6.is at0_.2))] [(1000017, Dec.Own tS 9 (kk.2) w.pages_.length), (1000019, Dec.Own tS 9 ((kk.1)).2 j.texts_.length), (17, (Bx 5 true 56 ((tpagestore_Store_k0 (kk.2)).is w) (k).1)), (19, (Bx 5 true 60 ((tMap (tP (tOb (k).1) (tP (tOT tS ((kk.1)).2) (tP I6 (tOne tjournal_mark)))) (fun x : journal_Journal => (x.Store, x.texts_, x.lasting_, x.last_))).is j) ((kk.1)).1)), (700000, GlE 0), (700001, GlI 1), (700002, GlI 2), (700003, GlT Tryz.prog "internal/strconv.uint64pow10" .u64 Lib.pow10Tab), (700007, Gl (tA 64 (tI .u8)) 7 gv7)]
     refine W.cB hm (.t rfl) (fun hp20 hm => ?_) (fun hp20 hm => ?_)
     ·obtain ⟨s21, hs22, hk23⟩ := Bs hm
      clear hm
      refine W.join (fun s : Bool => s = s21) (fun s => [(4, (tB.is s))]) (fun s => [(1000017, Dec.Own tS 9 (kk.2) w.pages_.length), (1000019, Dec.Own tS 9 ((kk.1)).2 j.texts_.length), (17, (Bx 5 true 56 ((tpagestore_Store_k0 (kk.2)).is w) (k).1)), (19, (Bx 5 true 60 ((tMap (tP (tOb (k).1) (tP (tOT tS ((kk.1)).2) (tP I6 (tOne tjournal_mark)))) (fun x : journal_Journal => (x.Store, x.texts_, x.lasting_, x.last_))).is j) ((kk.1)).1)), (700000, GlE 0), (700001, GlI 1), (700002, GlI 2), (700003, GlT Tryz.prog "internal/strconv.uint64pow10" .u64 Lib.pow10Tab), (700007, Gl (tA 64 (tI .u8)) 7 gv7)]) ?_ ?_
      ·rintro v1 hj26
       try dsimp only at hj26
       subst hj26
       have hm := hk23
       clear hk23
       try dsimp only at hm
       change W _ _ _ _ _ _ _ [(4, (tB.is v1))] [(1000017, Dec.Own tS 9 (kk.2) w.pages_.length), (1000019, Dec.Own tS 9 ((kk.1)).2 j.texts_.length), (17, (Bx 5 true 56 ((tpagestore_Store_k0 (kk.2)).is w) (k).1)), (19, (Bx 5 true 60 ((tMap (tP (tOb (k).1) (tP (tOT tS ((kk.1)).2) (tP I6 (tOne tjournal_mark)))) (fun x : journal_Journal => (x.Store, x.texts_, x.lasting_, x.last_))).is j) ((kk.1)).1)), (700000, GlE 0), (700001, GlI 1), (700002, GlI 2), (700003, GlT Tryz.prog "internal/strconv.uint64pow10" .u64 Lib.pow10Tab), (700007, Gl (tA 64 (tI .u8)) 7 gv7)]
       have hr := Si hm
       clear hm
       subst hr
       exact W.ret1 () rfl (.t rfl) trivial
      ·have hm := hs22
       clear hs22
       refine W.region <| Am rfl rfl <| Ao rfl (.eqS (.t rfl) (.str rfl (by decide))) <| WL.mv rfl rfl ?_
       rcases iteB hm with ⟨hp25, hb24, hm⟩ | ⟨hp25, hb24, hm⟩
       ·exact Ax rfl hb24 (.move (.t rfl)) <| Ax rfl hb24 (.eqI (.t rfl) .i64) <| Ao rfl (.pickT (.t rfl) hb24 (.t rfl)) <| Ag rfl rfl <| WL.nil <| WN.meet (decide (at0_.2 = (3 : Int))) (Si hm) ⟨.q rfl, trivial⟩ ⟨rfl, rfl, ⟨rfl, rfl, ⟨rfl, rfl, ⟨rfl, rfl, ⟨rfl, rfl, ⟨rfl, rfl, ⟨rfl, rfl, ⟨rfl, rfl, ⟨rfl, rfl, trivial⟩⟩⟩⟩⟩⟩⟩⟩⟩
       ·exact Ap rfl hb24 <| Ap rfl hb24 <| Ao rfl (.pickF (.t rfl) hb24 .bool) <| Ag rfl rfl <| WL.nil <| WN.meet false (Si hm) ⟨.q rfl, trivial⟩ ⟨rfl, rfl, ⟨rfl, rfl, ⟨rfl, rfl, ⟨rfl, rfl, ⟨rfl, rfl, ⟨rfl, rfl, ⟨rfl, rfl, ⟨rfl, rfl, ⟨rfl, rfl, trivial⟩⟩⟩⟩⟩⟩⟩⟩⟩
     ·refine W.skip <| Aq <| Aw <| Am rfl rfl <| Am rfl rfl <| WL.mv rfl rfl ?_
      obtain ⟨v2, hv27, hm⟩ := Bs hm
      refine Ao rfl (.idx hv27 U26 Z9 (.t rfl) (.t rfl)) <| Ao rfl (.load ty9 (.t rfl)) <| Ao rfl (.eqS (.t rfl) (.t rfl)) <| WL.mv rfl rfl ?_
      rcases iteB hm with ⟨hp29, hb28, hm⟩ | ⟨hp29, hb28, hm⟩
      ·refine Ax rfl hb28 (.move (.t rfl)) <| Ax rfl hb28 (.eqI (.t rfl) .i64) <| Ao rfl (.pickT (.t rfl) hb28 (.t rfl)) <| Ag rfl rfl <| WL.ns ?_
       have hr := Si hm
       clear hm
       subst hr
       exact W.ret1 () rfl (.t rfl) trivial
      ·refine Ap rfl hb28 <| Ap rfl hb28 <| Ao rfl (.pickF (.t rfl) hb28 .bool) <| Ag rfl rfl <| WL.ns ?_
       have hr := Si hm
       clear hm
       subst hr
       exact W.ret1 () rfl (.t rfl) trivial
    ·have hm := hs15
     clear hs15
     refine W.region <| Am rfl rfl <| Ao rfl (.ltI (.t rfl) .i64) <| WL.mv rfl rfl ?_
     rcases iteD hm with ⟨hp18, hb17, hm⟩ | ⟨hp18, hb17, hm⟩
     ·exact Ap rfl hb17 <| Ap rfl hb17 <| Ap rfl hb17 <| Ap rfl hb17 <| Ao rfl (.pickT (.t rfl) hb17 .bool) <| WL.nil <| WN.meet true (Si hm) ⟨.q rfl, .q rfl, .q rfl, .q rfl, .q rfl, trivial⟩ ⟨rfl, rfl, ⟨rfl, rfl, ⟨rfl, rfl, ⟨rfl, rfl, ⟨rfl, rfl, ⟨rfl, rfl, ⟨rfl, rfl, ⟨rfl, rfl, ⟨rfl, rfl, trivial⟩⟩⟩⟩⟩⟩⟩⟩⟩
     ·exact Ax rfl hb17 (.move (.t rfl)) <| Ax rfl hb17 (.move (.t rfl)) <| Ax rfl hb17 (.lenL U26 (.t rfl)) <| Ax rfl hb17 (.geI (.t rfl) (.t rfl)) <| Ao rfl (.pickF (.t rfl) hb17 (.t rfl)) <| WL.nil <| WN.meet (decide ((play.2.1.length : Int) ≤ n0_)) (Si hm) ⟨.q rfl, .q rfl, .q rfl, .q rfl, .q rfl, trivial⟩ ⟨rfl, rfl, ⟨rfl, rfl, ⟨rfl, rfl, ⟨rfl, rfl, ⟨rfl, rfl, ⟨rfl, rfl, ⟨rfl, rfl, ⟨rfl, rfl, ⟨rfl, rfl, trivial⟩⟩⟩⟩⟩⟩⟩⟩⟩
theorem law14_short_spec (n : Nat) (l : List Str) (r : Bool) (hm : M.law14_short n l = some r) : FSpec Tryz.prog 10 [((tL tS).is l)] (tB.is r) := by
 unfold M.law14_short at hm
 refine FSpec.of Tryz.func10 rfl rfl rfl fun g0 => Aw <| Ao rfl (.assign .bool) <| An <| W.seq <| Aw <| Ao rfl (.assign .i64) <| An <| W.block ?_
 obtain ⟨s1, hs2, hk3⟩ := Bs hm
 clear hm
 refine W.loop (fun m (s : Int) => M.law14_short_loop1 l m s = some s1) (fun s => [(3, (I6.is s)), (0, ((tL tS).is l))]) (fun s => []) _ (0 : Int) hs2 ⟨.q rfl, .q rfl, trivial⟩ trivial ?_
 rintro n4 i hm
 try dsimp only at hm
 change W _ _ _ _ _ _ _ [(3, (I6.is i)), (0, ((tL tS).is l))] []
 cases n4 with
 | zero => rw [M.law14_short_loop1.eq_1] at hm; cases hm
 | succ n4 =>
  rw [M.law14_short_loop1.eq_2] at hm
  refine W.seq <| Aw <| Am rfl rfl <| Am rfl rfl <| Ao rfl (.lenL U26 (.t rfl)) <| Ao rfl (.ltI (.t rfl) (.t rfl)) <| An <| W.cD hm (.t rfl) (fun hp6 hm => ?_) (fun hp6 hm => ?_)
  ·refine W.skip <| Aq <| W.seq <| W.block <| Aw <| Am rfl rfl <| WL.mv rfl rfl ?_
   obtain ⟨v, hv7, hm⟩ := Bs hm
   refine Ao rfl (.idx hv7 U26 Z9 (.t rfl) (.t rfl)) <| Ao rfl (.load ty9 (.t rfl)) <| Ao rfl (.lenS U9 (.t rfl)) <| Ao rfl (.gtI (.t rfl) .i64) <| An <| W.cD hm (.t rfl) (fun hp9 hm => ?_) (fun hp9 hm => ?_)
   ·refine Aw <| Ao rfl (.assign .bool) <| WL.ns ?_
    have hr10 := Si hm
    clear hm
    subst hr10
    have hm := hk3
    try dsimp only at hm
    have hr := Si hm
    clear hm
    subst hr
    exact W.ret1 () rfl (.t rfl) trivial
   ·exact W.skip <| WN.block <| Aq <| W.region <| Am rfl rfl <| WL.lenL (s := 0) (.t rfl) fun hl11 => Ao rfl (.addI1 (.t rfl) .i64 hp6 hl11) <| Ag rfl rfl <| WL.nil <| WN.again n4 (i + 1) (Nat.lt_succ_self n4) hm ⟨.q rfl, .q rfl, trivial⟩ trivial
  ·refine W.exit rfl ?_
   have hr12 := Si hm
   clear hm
   subst hr12
   have hm := hk3
   try dsimp only at hm
   refine Aq <| Aw <| Am rfl rfl <| Ao rfl (.lenL U26 (.t rfl)) <| Ao rfl (.leI (.t rfl) .i64) <| Ag rfl rfl <| WL.ns ?_
   have hr := Si hm
   clear hm
   subst hr
   exact W.ret1 () rfl (.t rfl) trivial
theorem r14_Cut_spec (n : Nat) (s0_ : Str) (r : List Str) (hm : M.r14_Cut n s0_ = some r) : FSpec Tryz.prog 26 [(tS.is s0_)] ((tL tS).is r) := by
 unfold M.r14_Cut at hm
 refine FSpec.of Tryz.func26 rfl rfl rfl fun g0 => Aw <| Ao rfl (.assign (.nil (t := tS))) <| Ar <| WL.opR rfl (OpR.buildSlice (n := 0) (ys := []) (z := ([] : Str)) (xs := ([] : List Str)) 4 U26 el9 ze9 trivial (by simp) (by decide) rfl) fun k => Ag rfl rfl <| An <| W.seq <| W.block ?_
 obtain ⟨s1, hs2, hk3⟩ := Bs hm
 clear hm
 refine W.loop (fun m (s : (Str × (List Str)) × Tok) => M.r14_Cut_loop1 m s.1.1 s.1.2 = some s1) (fun s => [(0, (tS.is s.1.1)), (3, (tO tS s.2 s.1.2))]) (fun s => [(4, Dec.Own tS 9 s.2 s.1.2.length)]) _ ((s0_, ([] : List Str)), k) hs2 ⟨.q rfl, .q rfl, trivial⟩ ⟨rfl, rfl, trivial⟩ ?_
 rintro n4 ⟨⟨s0_1, out⟩, k1⟩ hm
 try dsimp only at hm
 change W _ _ _ _ _ _ _ [(0, (tS.is s0_1)), (3, (tO tS k1 out))] [(4, Dec.Own tS 9 k1 out.length)]
 cases n4 with
 | zero => rw [M.r14_Cut_loop1.eq_1] at hm; cases hm
 | succ n4 =>
  rw [M.r14_Cut_loop1.eq_2] at hm
  refine W.seq <| Aw <| Am rfl rfl <| Ao rfl (.lenS U9 (.t rfl)) <| Ao rfl (.gtI (.t rfl) .i64) <| An <| W.cD hm (.t rfl) (fun hp6 hm => ?_) (fun hp6 hm => ?_)
  ·refine W.skip <| Aq <| W.block <| Aw <| Am rfl rfl <| WL.mv rfl rfl ?_
   obtain ⟨v, hv7, hm⟩ := Bs hm
   refine Ao rfl (.sslcHi hv7 U9 (.t rfl) .i64) <| Ao rfl (.buildSlice (n := 1) (ys := [(0, v)]) (z := ([] : Str)) (xs := [v]) U26 el9 ze9 ⟨rfl, (.t rfl), trivial⟩ (by simp) (by decide) rfl) ?_
   obtain ⟨out1, hv8, hm⟩ := Bs hm
   refine WL.opR rfl (OpR.appC (key := 4) hv8 U26 el9 (.t rfl) (.t rfl) rfl) fun k2 => Ag rfl rfl <| WL.nr1 <| WL.mv rfl rfl ?_
   obtain ⟨v1, hv9, hm⟩ := Bs hm
   exact Ao rfl (.sslcLo hv9 U9 (.t rfl) .i64) <| Ag rfl rfl <| WL.nil <| WN.block <| WN.again n4 ((v1, out1), k2) (Nat.lt_succ_self n4) hm ⟨.q rfl, .q rfl, trivial⟩ ⟨rfl, rfl, trivial⟩
  ·refine W.exit rfl ?_
   have hr10 := Si hm
   clear hm
   subst hr10
   have hm := hk3
   try dsimp only at hm
   refine Aq <| Aw <| Am rfl rfl <| Am rfl rfl <| Ao rfl (.buildSlice (n := 1) (ys := [(0, s0_1)]) (z := ([] : Str)) (xs := [s0_1]) U26 el9 ze9 ⟨rfl, (.t rfl), trivial⟩ (by simp) (by decide) rfl) ?_
   obtain ⟨out2, hv11, hm⟩ := Bs hm
   refine WL.opR rfl (OpR.appC (key := 4) hv11 U26 el9 (.t rfl) (.t rfl) rfl) fun k3 => Ag rfl rfl <| WL.ns ?_
   have hr := Si hm
   clear hm
   subst hr
   exact W.ret1 () rfl (Opd.own (.t rfl)) trivial
theorem r12_Text_spec (n : Nat) (s0_ : Str) (r : Str) (hm : M.r12_Text n s0_ = some r) : FSpec Tryz.prog 47 [(tS.is s0_)] (tS.is r) := by
 unfold M.r12_Text at hm
 refine FSpec.of Tryz.func47 rfl rfl rfl fun g0 => Aw <| Ao rfl (.assign (.str rfl (by decide))) <| Ar <| Ao rfl (.assign (.int (by decide))) <| An <| W.seq <| Aw <| Ao rfl (.assign .i64) <| An <| W.block ?_
 obtain ⟨s1, hs2, hk3⟩ := Bs hm
 clear hm
 refine W.loop (fun m (s : Int × Int) => M.r12_Text_loop1 s0_ m s.1 s.2 = some s1) (fun s => [(3, ((tI .u64).is s.1)), (4, (I6.is s.2)), (0, (tS.is s0_))]) (fun s => []) _ ((11400714819323198485 : Int), (0 : Int)) hs2 ⟨.q rfl, .q rfl, .q rfl, trivial⟩ trivial ?_
 rintro n4 ⟨d, i⟩ hm
 try dsimp only at hm
 change W _ _ _ _ _ _ _ [(3, ((tI .u64).is d)), (4, (I6.is i)), (0, (tS.is s0_))] []
 cases n4 with
 | zero => rw [M.r12_Text_loop1.eq_1] at hm; cases hm
 | succ n4 =>
  rw [M.r12_Text_loop1.eq_2] at hm
  refine W.seq <| Aw <| Am rfl rfl <| Am rfl rfl <| Ao rfl (.lenS U9 (.t rfl)) <| Ao rfl (.ltI (.t rfl) (.t rfl)) <| An <| W.cD hm (.t rfl) (fun hp6 hm => ?_) (fun hp6 hm => ?_)
  ·refine W.skip <| Aq <| W.seq <| W.block <| Aw <| Am rfl rfl <| Am rfl rfl <| WL.mv rfl rfl ?_
   obtain ⟨b, hv7, hm⟩ := Bs hm
   refine Ao rfl (.sidx hv7 U9 (.t rfl) (.t rfl)) <| Ao rfl (.convU U5 U95 (.t rfl)) <| Ao rfl (.addU (.t rfl) (.t rfl)) <| Ao rfl (.addU (.t rfl) (.int (by decide))) <| Ao rfl (.mulU (.t rfl) (.int (by decide))) <| Ag rfl rfl <| WL.nr1 <| Am rfl rfl <| Am rfl rfl <| Ao rfl (.shrUU (.t rfl) (.int (by decide))) <| Ao rfl (.xorU (.t rfl) (.t rfl)) <| Ag rfl rfl <| WL.nil <| WN.block <| Aq <| W.region ?_
   exact Am rfl rfl <| WL.lenS (s := 0) (.t rfl) fun hl8 => Ao rfl (.addI1 (.t rfl) .i64 hp6 hl8) <| Ag rfl rfl <| WL.nil <| WN.again n4 (xorU (wrapU ((wrapU ((wrapU (d + (wrapU (b.toNat : Int)))) + (1 : Int))) * (10723151780598845931 : Int))) (shrU (wrapU ((wrapU ((wrapU (d + (wrapU (b.toNat : Int)))) + (1 : Int))) * (10723151780598845931 : Int))) (31 : Int)), i + 1) (Nat.lt_succ_self n4) hm ⟨.q rfl, .q rfl, .q rfl, trivial⟩ trivial
  ·refine W.exit rfl ?_
   have hr9 := Si hm
   clear hm
   subst hr9
   have hm := hk3
   try dsimp only at hm
   refine Aq <| Aw <| WL.opR rfl (OpR.buildSlice (n := 0) (ys := []) (z := (0 : Int)) (xs := ([] : List Int)) 26 U38 el5 ze5 trivial (by simp) (by decide) rfl) fun k => Ag rfl rfl <| An <| W.seq <| Aw <| Ao rfl (.assign .i64) <| An <| W.block ?_
   obtain ⟨s10, hs11, hk12⟩ := Bs hm
   clear hm
   refine W.loop (fun m (s : ((List Int) × Int) × Tok) => M.r12_Text_loop2 d m s.1.1 s.1.2 = some s10) (fun s => [(5, (tO (tI .u8) s.2 s.1.1)), (6, (I6.is s.1.2)), (3, ((tI .u64).is d))]) (fun s => [(26, Dec.Own (tI .u8) 5 s.2 s.1.1.length)]) _ ((([] : List Int), (0 : Int)), k) hs11 ⟨.q rfl, .q rfl, .q rfl, trivial⟩ ⟨rfl, rfl, trivial⟩ ?_
   rintro n13 ⟨⟨out, i1⟩, k1⟩ hm
   try dsimp only at hm
   change W _ _ _ _ _ _ _ [(5, (tO (tI .u8) k1 out)), (6, (I6.is i1)), (3, ((tI .u64).is d))] [(26, Dec.Own (tI .u8) 5 k1 out.length)]
   cases n13 with
   | zero => rw [M.r12_Text_loop2.eq_1] at hm; cases hm
   | succ n13 =>
    rw [M.r12_Text_loop2.eq_2] at hm
    refine W.seq <| Aw <| Am rfl rfl <| Ao rfl (.ltI (.t rfl) .i64) <| An <| W.cD hm (.t rfl) (fun hp15 hm => ?_) (fun hp15 hm => ?_)
    ·refine W.skip <| Aq <| W.seq <| W.block <| Aw <| Am rfl rfl <| WL.mv rfl rfl ?_
     obtain ⟨v, hv16, hm⟩ := Bs hm
     refine Ao rfl (.mulC hv16 .i64 (.t rfl)) ?_
     obtain ⟨v1, hv17, hm⟩ := Bs hm
     refine Ao rfl (.subC hv17 .i64 (.t rfl)) <| Ao rfl (.convU U3 U96 (.t rfl)) <| Ao rfl (.shrUU (.t rfl) (.t rfl)) <| Ao rfl (.andU (.t rfl) (.int (by decide))) <| Ao rfl (.conv8K U95 U5 (.t rfl)) <| Ag rfl rfl <| Ar <| Am rfl rfl <| Ao rfl (.ltI (.t rfl) (.int (inR8.2 (by omega)))) <| An <| W.cD hm (.t rfl) (fun hp19 hm => ?_) (fun hp19 hm => ?_)
     ·refine W.region <| Am rfl rfl <| Am rfl rfl <| Ao rfl (.add8 (.int (inR8.2 (by omega))) (.t rfl)) <| Ao rfl (.buildSlice (n := 1) (ys := [(0, wrap8 ((48 : Int) + (wrap8 (andU (shrU d (wrapU v1)) (15 : Int)))))]) (z := (0 : Int)) (xs := [wrap8 ((48 : Int) + (wrap8 (andU (shrU d (wrapU v1)) (15 : Int))))]) U38 el5 ze5 ⟨rfl, (.t rfl), trivial⟩ (by simp) (by decide) rfl) ?_
      obtain ⟨out1, hv20, hm⟩ := Bs hm
      refine WL.opR rfl (OpR.appC (key := 26) hv20 U38 el5 (.t rfl) (.t rfl) rfl) fun k2 => Ag rfl rfl <| WL.nil <| WN.block <| Aq <| W.region <| WL.mv rfl rfl ?_
      obtain ⟨v2, hv21, hm⟩ := Bs hm
      exact Ao rfl (.addC hv21 (.t rfl) .i64) <| Ag rfl rfl <| WL.nil <| WN.again n13 ((out1, v2), k2) (Nat.lt_succ_self n13) hm ⟨.q rfl, .q rfl, .q rfl, trivial⟩ ⟨rfl, rfl, trivial⟩
     ·refine W.region <| Am rfl rfl <| Am rfl rfl <| Ao rfl (.add8 (.int (inR8.2 (by omega))) (.t rfl)) <| Ao rfl (.buildSlice (n := 1) (ys := [(0, wrap8 ((87 : Int) + (wrap8 (andU (shrU d (wrapU v1)) (15 : Int)))))]) (z := (0 : Int)) (xs := [wrap8 ((87 : Int) + (wrap8 (andU (shrU d (wrapU v1)) (15 : Int))))]) U38 el5 ze5 ⟨rfl, (.t rfl), trivial⟩ (by simp) (by decide) rfl) ?_
      obtain ⟨out2, hv22, hm⟩ := Bs hm
      refine WL.opR rfl (OpR.appC (key := 26) hv22 U38 el5 (.t rfl) (.t rfl) rfl) fun k3 => Ag rfl rfl <| WL.nil <| WN.block <| Aq <| W.region <| WL.mv rfl rfl ?_
      obtain ⟨v3, hv23, hm⟩ := Bs hm
      exact Ao rfl (.addC hv23 (.t rfl) .i64) <| Ag rfl rfl <| WL.nil <| WN.again n13 ((out2, v3), k3) (Nat.lt_succ_self n13) hm ⟨.q rfl, .q rfl, .q rfl, trivial⟩ ⟨rfl, rfl, trivial⟩
    ·refine W.exit rfl ?_
     have hr24 := Si hm
     clear hm
     subst hr24
     have hm := hk12
     try dsimp only at hm
     refine Aq <| Aw <| Am rfl rfl <| Ao rfl (.strB U38 U9 U5 (Opd.own (.t rfl))) <| Ag rfl rfl <| WL.ns ?_
     have hr := Si hm
     clear hm
     subst hr
     exact W.ret1 () rfl (.t rfl) trivial
theorem r14_Sum_spec (n : Nat) (ahead : Str) (sign : Str) (part : Str) (r : Str) (hm : M.r14_Sum n ahead sign part = some r) : FSpec Tryz.prog 36 [(tS.is ahead), (tS.is sign), (tS.is part)] (tS.is r) := by
 unfold M.r14_Sum at hm
 refine FSpec.of Tryz.func36 rfl rfl rfl fun g0 => Aw <| Ao rfl (.assign (.str rfl (by decide))) <| Ar <| WL.mv rfl rfl ?_
 obtain ⟨v, hv1, hm⟩ := Bs hm
 refine Ao rfl (.catC hv1 (.t rfl) (.str rfl (by decide))) <| WL.mv rfl rfl ?_
 obtain ⟨v1, hv2, hm⟩ := Bs hm
 refine Ao rfl (.catC hv2 (.t rfl) (.t rfl)) ?_
 obtain ⟨v2, hv3, hm⟩ := Bs hm
 refine Ao rfl (.catC hv3 (.t rfl) (.str rfl (by decide))) <| WL.mv rfl rfl ?_
 obtain ⟨v3, hv4, hm⟩ := Bs hm
 refine Ao rfl (.catC hv4 (.t rfl) (.t rfl)) ?_
 obtain ⟨text, hv5, hm⟩ := Bs hm
 refine Ao rfl (.call C47 (r12_Text_spec _ _ _ hv5) ⟨(.t rfl), trivial⟩) <| Ag rfl rfl <| WL.ns ?_
 have hr := Si hm
 clear hm
 subst hr
 exact W.ret1 () rfl (.t rfl) trivial
theorem r12_Digits_spec : ∀ (n : Nat) (n0_ : Int) (r : Str), M.r12_Digits n n0_ = some r → FSpec Tryz.prog 48 [(I6.is n0_)] (tS.is r) := by
 intro n
 induction n with
 | zero => intro n0_ r hm; cases hm
 | succ n ih =>
  intro n0_ r hm
  rw [M.r12_Digits.eq_2] at hm
  refine FSpec.of Tryz.func48 rfl rfl rfl fun g0 => Aw <| Ao rfl (.assign (.str rfl (by decide))) <| An <| W.seq <| Aw <| Am rfl rfl <| Ao rfl (.ltI (.t rfl) .i64) <| An <| W.cD hm (.t rfl) (fun hp2 hm => ?_) (fun hp2 hm => ?_)
  ·refine W.seq <| Aw <| Am rfl rfl <| Ao rfl (.gtI (.t rfl) .i64) <| An <| W.cD hm (.t rfl) (fun hp4 hm => ?_) (fun hp4 hm => ?_)
   ·refine Aw <| WL.mv rfl rfl ?_
    obtain ⟨v, hv5, hm⟩ := Bs hm
    refine Ao rfl (.subC hv5 .i64 (.t rfl)) <| Ao rfl (.convTo8 U3 U5 (.t rfl)) <| Ao rfl (.buildSlice (n := 1) (ys := [(0, wrap8 v)]) (z := (0 : Int)) (xs := [wrap8 v]) U38 el5 ze5 ⟨rfl, (.t rfl), trivial⟩ (by simp) (by decide) rfl) <| Ao rfl (.strB U38 U9 U5 (.t rfl)) ?_
    obtain ⟨v1, hv6, hm⟩ := Bs hm
    refine Ao rfl (.catC hv6 (.str rfl (by decide)) (.t rfl)) <| Ag rfl rfl <| WL.ns ?_
    have hr := Si hm
    clear hm
    subst hr
    exact W.ret1 () rfl (.t rfl) trivial
   ·refine W.skip <| Aq <| W.seq ?_
    obtain ⟨v2, hv7, hm⟩ := Bs hm
    obtain ⟨digits, hv8, hm⟩ := Bs hm
    obtain ⟨v3, hv9, hm⟩ := Bs hm
    obtain ⟨v4, hv10, hm⟩ := Bs hm
    obtain ⟨v5, hv11, hm⟩ := Bs hm
    refine W.draw [.c _, .c _, .c _, .c _, .c _, .c _, .c _, .c _, .c _, .c _, .c _] [([], [0]), ([0], []), ([1], []), ([], [0]), ([3], []), ([4], []), ([5], []), ([6], []), ([7], []), ([2, 8], []), ([9], [])] Mx rfl rfl rfl rfl ⟨Dn (.move (.t rfl)), Dn (.quoC hv7 (.t rfl) .i64), Dn (.call C48 (ih _ _ hv8) ⟨(.t rfl), trivial⟩), Dn (.move (.t rfl)), Dn (.remC hv9 (.t rfl) .i64), Dn (.subC hv10 .i64 (.t rfl)), Dn (.convTo8 U3 U5 (.t rfl)), Dn (.buildSlice (n := 1) (ys := [(0, wrap8 v4)]) (z := (0 : Int)) (xs := [wrap8 v4]) U38 el5 ze5 ⟨rfl, (.t rfl), trivial⟩ (by simp) (by decide) rfl), Dn (.strB U38 U9 U5 (.t rfl)), Dn (.catC hv11 (.t rfl) (.t rfl)), Dn (.assign (.t rfl)), trivial⟩ <| WN.seq ?_
    have hr := Si hm
    clear hm
    subst hr
    exact W.ret1 () rfl (.t rfl) trivial
  ·refine W.skip <| Aq <| W.seq <| Aw <| Am rfl rfl <| Ao rfl (.ltI (.t rfl) .i64) <| An <| W.cD hm (.t rfl) (fun hp13 hm => ?_) (fun hp13 hm => ?_)
   ·refine Aw <| WL.mv rfl rfl ?_
    obtain ⟨v6, hv14, hm⟩ := Bs hm
    refine Ao rfl (.addC hv14 .i64 (.t rfl)) <| Ao rfl (.convTo8 U3 U5 (.t rfl)) <| Ao rfl (.buildSlice (n := 1) (ys := [(0, wrap8 v6)]) (z := (0 : Int)) (xs := [wrap8 v6]) U38 el5 ze5 ⟨rfl, (.t rfl), trivial⟩ (by simp) (by decide) rfl) <| Ao rfl (.strB U38 U9 U5 (.t rfl)) <| Ag rfl rfl <| WL.ns ?_
    have hr := Si hm
    clear hm
    subst hr
    exact W.ret1 () rfl (.t rfl) trivial
   ·refine W.skip <| Aq <| W.seq ?_
    obtain ⟨v7, hv15, hm⟩ := Bs hm
    obtain ⟨digits1, hv16, hm⟩ := Bs hm
    obtain ⟨v8, hv17, hm⟩ := Bs hm
    obtain ⟨v9, hv18, hm⟩ := Bs hm
    obtain ⟨v10, hv19, hm⟩ := Bs hm
    refine W.draw [.c _, .c _, .c _, .c _, .c _, .c _, .c _, .c _, .c _, .c _, .c _] [([], [0]), ([0], []), ([1], []), ([], [0]), ([3], []), ([4], []), ([5], []), ([6], []), ([7], []), ([2, 8], []), ([9], [])] Mx rfl rfl rfl rfl ⟨Dn (.move (.t rfl)), Dn (.quoC hv15 (.t rfl) .i64), Dn (.call C48 (ih _ _ hv16) ⟨(.t rfl), trivial⟩), Dn (.move (.t rfl)), Dn (.remC hv17 (.t rfl) .i64), Dn (.addC hv18 .i64 (.t rfl)), Dn (.convTo8 U3 U5 (.t rfl)), Dn (.buildSlice (n := 1) (ys := [(0, wrap8 v9)]) (z := (0 : Int)) (xs := [wrap8 v9]) U38 el5 ze5 ⟨rfl, (.t rfl), trivial⟩ (by simp) (by decide) rfl), Dn (.strB U38 U9 U5 (.t rfl)), Dn (.catC hv19 (.t rfl) (.t rfl)), Dn (.assign (.t rfl)), trivial⟩ <| WN.seq ?_
    have hr := Si hm
    clear hm
    subst hr
    exact W.ret1 () rfl (.t rfl) trivial
theorem r14_number_spec (n : Nat) (n0_ : Int) (r : Str) (hm : M.r14_number n n0_ = some r) : FSpec Tryz.prog 37 [(I6.is n0_)] (tS.is r) := by
 unfold M.r14_number at hm
 refine FSpec.of Tryz.func37 rfl rfl rfl fun g0 => Aw <| Ao rfl (.assign (.str rfl (by decide))) <| An <| W.seq <| Aw <| Am rfl rfl <| Ao rfl (.ltI (.t rfl) .i64) <| An <| W.cD hm (.t rfl) (fun hp2 hm => ?_) (fun hp2 hm => ?_)
 ·refine Aw <| Ao rfl (.assign (.str rfl (by decide))) <| WL.ns ?_
  have hr := Si hm
  clear hm
  subst hr
  exact W.ret1 () rfl (.t rfl) trivial
 ·refine W.skip <| Aq <| Aw <| WL.mv rfl rfl ?_
  obtain ⟨digits, hv3, hm⟩ := Bs hm
  refine Ao rfl (.call C48 (r12_Digits_spec _ _ _ hv3) ⟨(.t rfl), trivial⟩) <| Ag rfl rfl <| WL.ns ?_
  have hr := Si hm
  clear hm
  subst hr
  exact W.ret1 () rfl (.t rfl) trivial
theorem r14_Page_spec (n : Nat) (ahead : Int) (sum : Str) (sign : Str) (part : Str) (r : Str × Str) (hm : M.r14_Page n ahead sum sign part = some r) : FSpec Tryz.prog 27 [(I6.is ahead), (tS.is sum), (tS.is sign), (tS.is part)] (Asn.tuple2 (tS.is r.1) (tS.is r.2)) := by
 unfold M.r14_Page at hm
 refine FSpec.of Tryz.func27 rfl rfl rfl fun g0 => Aw <| Ao rfl (.assign (.str rfl (by decide))) <| Ao rfl (.assign (.str rfl (by decide))) <| Ar <| Am rfl rfl <| Am rfl rfl <| WL.mv rfl rfl ?_
 obtain ⟨sum1, hv1, hm⟩ := Bs hm
 refine Ao rfl (.call C36 (r14_Sum_spec _ _ _ _ _ hv1) ⟨(.t rfl), (.t rfl), (.t rfl), trivial⟩) <| Ag rfl rfl <| Ar <| WL.mv rfl rfl ?_
 obtain ⟨number, hv2, hm⟩ := Bs hm
 refine Ao rfl (.call C37 (r14_number_spec _ _ _ hv2) ⟨(.t rfl), trivial⟩) ?_
 obtain ⟨v, hv3, hm⟩ := Bs hm
 refine Ao rfl (.catC hv3 (.t rfl) (.str rfl (by decide))) <| WL.mv rfl rfl ?_
 obtain ⟨v1, hv4, hm⟩ := Bs hm
 refine Ao rfl (.catC hv4 (.t rfl) (.t rfl)) ?_
 obtain ⟨v2, hv5, hm⟩ := Bs hm
 refine Ao rfl (.catC hv5 (.t rfl) (.str rfl (by decide))) <| WL.mv rfl rfl ?_
 obtain ⟨v3, hv6, hm⟩ := Bs hm
 refine Ao rfl (.catC hv6 (.t rfl) (.t rfl)) ?_
 obtain ⟨v4, hv7, hm⟩ := Bs hm
 refine Ao rfl (.catC hv7 (.t rfl) (.str rfl (by decide))) <| WL.mv rfl rfl ?_
 obtain ⟨v5, hv8, hm⟩ := Bs hm
 refine Ao rfl (.catC hv8 (.t rfl) (.t rfl)) <| Am rfl rfl <| Ag rfl rfl <| Ag rfl rfl <| WL.ns ?_
 have hr := Si hm
 clear hm
 subst hr
 exact W.ret2 () rfl rfl (.t rfl) (.t rfl) trivial
theorem r14_Text_spec (n : Nat) (s0_ : Str) (ahead : Int) (sum : Str) (first : Int) (r : (List Str) × Str) (hm : M.r14_Text n s0_ ahead sum first = some r) : FSpec Tryz.prog 11 [(tS.is s0_), (I6.is ahead), (tS.is sum), (I6.is first)] (Asn.tuple2 ((tL tS).is r.1) (tS.is r.2)) := by
 unfold M.r14_Text at hm
 refine FSpec.of Tryz.func11 rfl rfl rfl fun g0 => Aw <| Ao rfl (.assign (.nil (t := tS))) <| Ao rfl (.assign (.str rfl (by decide))) <| Ar <| WL.opR rfl (OpR.buildSlice (n := 0) (ys := []) (z := ([] : Str)) (xs := ([] : List Str)) 16 U26 el9 ze9 trivial (by simp) (by decide) rfl) fun k => Ag rfl rfl <| Ar <| WL.mv rfl rfl ?_
 obtain ⟨cut, hv1, hm⟩ := Bs hm
 refine Ao rfl (.call C26 (r14_Cut_spec _ _ _ hv1) ⟨(.t rfl), trivial⟩) <| Ag rfl rfl <| An <| W.seq <| Aw <| Ao rfl (.assign .i64) <| An <| W.block ?_
 obtain ⟨s2, hs3, hk4⟩ := Bs hm
 clear hm
 refine W.loop (fun m (s : (Int × Str × (List Str) × Int) × Tok) => M.r14_Text_loop1 first cut m s.1.1 s.1.2.1 s.1.2.2.1 s.1.2.2.2 = some s2) (fun s => [(1, (I6.is s.1.1)), (2, (tS.is s.1.2.1)), (10, (tO tS s.2 s.1.2.2.1)), (12, (I6.is s.1.2.2.2)), (3, (I6.is first)), (11, ((tL tS).is cut))]) (fun s => [(16, Dec.Own tS 9 s.2 s.1.2.2.1.length)]) _ ((ahead, sum, ([] : List Str), (0 : Int)), k) hs3 ⟨.q rfl, .q rfl, .q rfl, .q rfl, .q rfl, .q rfl, trivial⟩ ⟨rfl, rfl, trivial⟩ ?_
 rintro n5 ⟨⟨ahead1, sum1, out, i⟩, k1⟩ hm
 try dsimp only at hm
 change W _ _ _ _ _ _ _ [(1, (I6.is ahead1)), (2, (tS.is sum1)), (10, (tO tS k1 out)), (12, (I6.is i)), (3, (I6.is first)), (11, ((tL tS).is cut))] [(16, Dec.Own tS 9 k1 out.length)]
 cases n5 with
 | zero => rw [M.r14_Text_loop1.eq_1] at hm; cases hm
 | succ n5 =>
  rw [M.r14_Text_loop1.eq_2] at hm
  refine W.seq <| Aw <| Am rfl rfl <| Am rfl rfl <| Ao rfl (.lenL U26 (.t rfl)) <| Ao rfl (.ltI (.t rfl) (.t rfl)) <| An <| W.cD hm (.t rfl) (fun hp7 hm => ?_) (fun hp7 hm => ?_)
  ·refine W.skip <| Aq <| W.seq <| W.block <| Aw <| Ao rfl (.assign (.str rfl (by decide))) <| WL.ns ?_
   obtain ⟨s8, hs9, hk10⟩ := Bs hm
   clear hm
   refine W.join (fun s : Str => s = s8) (fun s => [(13, (tS.is s)), (1, (I6.is ahead1)), (2, (tS.is sum1)), (3, (I6.is first)), (10, (tO tS k1 out)), (11, ((tL tS).is cut)), (12, (I6.is i))]) (fun s => [(16, Dec.Own tS 9 k1 out.length)]) ?_ ?_
   ·rintro sign hj19
    try dsimp only at hj19
    subst hj19
    have hm := hk10
    clear hk10
    try dsimp only at hm
    change W _ _ _ _ _ _ _ [(13, (tS.is sign)), (1, (I6.is ahead1)), (2, (tS.is sum1)), (3, (I6.is first)), (10, (tO tS k1 out)), (11, ((tL tS).is cut)), (12, (I6.is i))] [(16, Dec.Own tS 9 k1 out.length)]
    refine Aw <| Am rfl rfl <| Am rfl rfl <| Am rfl rfl <| Am rfl rfl <| WL.mv rfl rfl ?_
    obtain ⟨v1, hv14, hm⟩ := Bs hm
    refine Ao rfl (.idx hv14 U26 Z9 (.t rfl) (.t rfl)) <| Ao rfl (.load ty9 (.t rfl)) ?_
    obtain ⟨page, hv15, hm⟩ := Bs hm
    refine Ao rfl (.call C27 (r14_Page_spec _ _ _ _ _ _ hv15) ⟨(.t rfl), (.t rfl), (.t rfl), (.t rfl), trivial⟩) <| Am rfl rfl <| Ao rfl (.extract0 (.t rfl)) <| Ao rfl (.extract1 (.t rfl)) <| Ag rfl rfl <| Ag rfl rfl <| Ar <| Am rfl rfl <| Am rfl rfl <| Ao rfl (.buildSlice (n := 1) (ys := [(0, page.1)]) (z := ([] : Str)) (xs := [page.1]) U26 el9 ze9 ⟨rfl, (.t rfl), trivial⟩ (by simp) (by decide) rfl) ?_
    obtain ⟨out1, hv16, hm⟩ := Bs hm
    refine WL.opR rfl (OpR.appC (key := 16) hv16 U26 el9 (.t rfl) (.t rfl) rfl) fun k2 => Ag rfl rfl <| WL.nr1 <| Am rfl rfl <| WL.mv rfl rfl ?_
    obtain ⟨v2, hv17, hm⟩ := Bs hm
    exact Ao rfl (.addC hv17 (.t rfl) (.t rfl)) <| Am rfl rfl <| Ag rfl rfl <| Ag rfl rfl <| WL.nil <| WN.block <| Aq <| W.region <| Am rfl rfl <| WL.lenL (s := 11) (.t rfl) fun hl18 => Ao rfl (.addI1 (.t rfl) .i64 hp7 hl18) <| Ag rfl rfl <| WL.nil <| WN.again n5 ((v2, page.2, out1, i + 1), k2) (Nat.lt_succ_self n5) hm ⟨.q rfl, .q rfl, .q rfl, .q rfl, .q rfl, .q rfl, trivial⟩ ⟨rfl, rfl, trivial⟩
   ·have hm := hs9
    clear hs9
    refine Aw <| Am rfl rfl <| Am rfl rfl <| Ao rfl (.lenL U26 (.t rfl)) ?_
    obtain ⟨v, hv11, hm⟩ := Bs hm
    refine Ao rfl (.subC hv11 (.t rfl) .i64) <| Ao rfl (.eqI (.t rfl) (.t rfl)) <| An <| W.cD hm (.t rfl) (fun hp13 hm => ?_) (fun hp13 hm => ?_)
    ·exact W.region <| Ao rfl (.assign (.str rfl (by decide))) <| WL.nil <| WN.meet ([46] : Str) (Si hm) ⟨.q rfl, .q rfl, .q rfl, .q rfl, .q rfl, .q rfl, .q rfl, trivial⟩ ⟨rfl, rfl, trivial⟩
    ·exact W.skip <| WN.meet ([43] : Str) (Si hm) ⟨.q rfl, .q rfl, .q rfl, .q rfl, .q rfl, .q rfl, .q rfl, trivial⟩ ⟨rfl, rfl, trivial⟩
  ·refine W.exit rfl ?_
   have hr20 := Si hm
   clear hm
   subst hr20
   have hm := hk4
   try dsimp only at hm
   refine Aq <| Aw <| Am rfl rfl <| Am rfl rfl <| Ag rfl rfl <| Ag rfl rfl <| WL.ns ?_
   have hr := Si hm
   clear hm
   subst hr
   exact W.ret2 () rfl rfl (Opd.own (.t rfl)) (.t rfl) trivial
theorem r14_words_spec (n : Nat) (s0_ : Str) (r : (List Str) × Str × Bool) (hm : M.r14_words n s0_ = some r) : FSpec Tryz.prog 28 [(tS.is s0_)] (Asn.tuple3 ((tL tS).is r.1) (tS.is r.2.1) (tB.is r.2.2)) := by
 unfold M.r14_words at hm
 refine FSpec.of Tryz.func28 rfl rfl rfl fun g0 => Aw <| Ao rfl (.assign (.nil (t := tS))) <| Ao rfl (.assign (.str rfl (by decide))) <| Ao rfl (.assign .bool) <| Ar <| WL.opR rfl (OpR.buildSlice (n := 0) (ys := []) (z := ([] : Str)) (xs := ([] : List Str)) 8 U26 el9 ze9 trivial (by simp) (by decide) rfl) fun k => Ag rfl rfl <| Ar <| Ao rfl (.assign .i64) <| An <| W.seq <| Aw <| Ao rfl (.assign .i64) <| An <| W.block ?_
 obtain ⟨s1, hs2, hk3⟩ := Bs hm
 clear hm
 refine W.loop (fun m (s : ((List Str) × Int × Int) × Tok) => M.r14_words_loop1 s0_ m s.1.1 s.1.2.1 s.1.2.2 = some s1) (fun s => [(5, (tO tS s.2 s.1.1)), (6, (I6.is s.1.2.1)), (7, (I6.is s.1.2.2)), (0, (tS.is s0_))]) (fun s => [(8, Dec.Own tS 9 s.2 s.1.1.length)]) _ ((([] : List Str), (0 : Int), (0 : Int)), k) hs2 ⟨.q rfl, .q rfl, .q rfl, .q rfl, trivial⟩ ⟨rfl, rfl, trivial⟩ ?_
 rintro n4 ⟨⟨out, at0_, i⟩, k1⟩ hm
 try dsimp only at hm
 change W _ _ _ _ _ _ _ [(5, (tO tS k1 out)), (6, (I6.is at0_)), (7, (I6.is i)), (0, (tS.is s0_))] [(8, Dec.Own tS 9 k1 out.length)]
 cases n4 with
 | zero => rw [M.r14_words_loop1.eq_1] at hm; cases hm
 | succ n4 =>
  rw [M.r14_words_loop1.eq_2] at hm
  refine W.seq <| Aw <| Am rfl rfl <| Am rfl rfl <| Ao rfl (.lenS U9 (.t rfl)) <| Ao rfl (.ltI (.t rfl) (.t rfl)) <| An <| W.cD hm (.t rfl) (fun hp6 hm => ?_) (fun hp6 hm => ?_)
  ·refine W.skip <| Aq <| W.seq <| W.block ?_
   obtain ⟨s7, hs8, hk9⟩ := Bs hm
   clear hm
   refine W.join (fun s : ((List Str) × Int) × Tok => s.1 = s7) (fun s => [(5, (tO tS s.2 s.1.1)), (6, (I6.is s.1.2)), (0, (tS.is s0_)), (7, (I6.is i))]) (fun s => [(8, Dec.Own tS 9 s.2 s.1.1.length)]) ?_ ?_
   ·rintro ⟨⟨out1, at0_1⟩, k2⟩ hj29
    try dsimp only at hj29
    subst hj29
    have hm := hk9
    clear hk9
    try dsimp only at hm
    change W _ _ _ _ _ _ _ [(5, (tO tS k2 out1)), (6, (I6.is at0_1)), (0, (tS.is s0_)), (7, (I6.is i))] [(8, Dec.Own tS 9 k2 out1.length)]
    refine Aw <| Am rfl rfl <| WL.mv rfl rfl ?_
    obtain ⟨b2, hv23, hm⟩ := Bs hm
    refine Ao rfl (.sidx hv23 U9 (.t rfl) (.t rfl)) <| Ao rfl (.eqI (.t rfl) (.int (inR8.2 (by omega)))) <| An <| W.cD hm (.t rfl) (fun hp25 hm => ?_) (fun hp25 hm => ?_)
    ·refine W.seq ?_
     obtain ⟨v2, hv26, hm⟩ := Bs hm
     refine W.weakR (res' := [(8, Dec.Own tS 9 k2 out1.length)]) ⟨rfl, rfl, trivial⟩ <| W.drawM [.c (tO tS k2 out1), .c (tS.is s0_), .c (I6.is at0_1), .c (tS.is v2), .c (tO tS k2 out1), .c (I6.is (out1.length : Int)), .c (tB.is (decide ((out1.length : Int) = (3 : Int)))), .c (tO tS k2 out1), .c (tS.is v2), .c (tB.is (decide ((out1.length : Int) = (3 : Int))))] [([], [5]), ([], [0]), ([], [6]), ([1, 2], []), ([], [5]), ([4], []), ([5], []), ([0], []), ([3], []), ([6], [])] [] [[], [], [], [], [], [], [], [], [], []] (fun m cv => match m with  | _ => [(8, Dec.Own tS 9 k2 out1.length)]) (fun _ => none) Mx rfl rfl rfl rfl rfl ⟨fun _ _ _ _ => rfl, ⟨fun _ _ _ _ => rfl, ⟨fun _ _ _ _ => rfl, ⟨fun _ _ _ _ => rfl, ⟨fun _ _ _ _ => rfl, ⟨fun _ _ _ _ => rfl, ⟨fun _ _ _ _ => rfl, ⟨fun _ _ _ _ => rfl, ⟨fun _ _ _ _ => rfl, ⟨fun _ _ _ _ => rfl, trivial⟩⟩⟩⟩⟩⟩⟩⟩⟩⟩ rfl ⟨mo fun cv => Op1.move (.t rfl), ⟨mo fun cv => Op1.move (.t rfl), ⟨mo fun cv => Op1.move (.t rfl), ⟨mo fun cv => Op1.sslcLo hv26 U9 (.t rfl) (.t rfl), ⟨mo fun cv => Op1.move (.t rfl), ⟨mo fun cv => Op1.lenL U26 (Opd.own (.t rfl)), ⟨mo fun cv => Op1.eqI (.t rfl) .i64, ⟨mo fun cv => Op1.assign (.t rfl), ⟨mo fun cv => Op1.assign (.t rfl), ⟨mo fun cv => Op1.assign (.t rfl), trivial⟩⟩⟩⟩⟩⟩⟩⟩⟩⟩ trivial fun cv => WN.seq ?_
     have hr27 := Si hm
     clear hm
     subst hr27
     have hm := hk3
     try dsimp only at hm
     have hr := Si hm
     clear hm
     subst hr
     exact W.ret3 () rfl rfl (Opd.own (.t rfl)) (.t rfl) (.t rfl) trivial
    ·exact W.skip <| WN.block <| Aq <| W.region <| Am rfl rfl <| WL.lenS (s := 0) (.t rfl) fun hl28 => Ao rfl (.addI1 (.t rfl) .i64 hp6 hl28) <| Ag rfl rfl <| WL.nil <| WN.again n4 ((out1, at0_1, i + 1), k2) (Nat.lt_succ_self n4) hm ⟨.q rfl, .q rfl, .q rfl, .q rfl, trivial⟩ ⟨rfl, rfl, trivial⟩
   ·have hm := hs8
    clear hs8
    obtain ⟨s10, hs11, hk12⟩ := Bs hm
    clear hm
    refine W.join (fun s : Bool => s = s10) (fun s => [(24, (tB.is s)), (0, (tS.is s0_)), (5, (tO tS k1 out)), (6, (I6.is at0_)), (7, (I6.is i))]) (fun s => [(8, Dec.Own tS 9 k1 out.length)]) ?_ ?_
    ·rintro v hj22
     try dsimp only at hj22
     subst hj22
     have hm := hk12
     clear hk12
     try dsimp only at hm
     change W _ _ _ _ _ _ _ [(24, (tB.is v)), (0, (tS.is s0_)), (5, (tO tS k1 out)), (6, (I6.is at0_)), (7, (I6.is i))] [(8, Dec.Own tS 9 k1 out.length)]
     refine W.cB hm (.t rfl) (fun hp18 hm => ?_) (fun hp18 hm => ?_)
     ·refine Aw <| Am rfl rfl <| Am rfl rfl <| Am rfl rfl <| WL.mv rfl rfl ?_
      obtain ⟨v1, hv19, hm⟩ := Bs hm
      refine Ao rfl (.sslc hv19 U9 (.t rfl) (.t rfl) (.t rfl)) <| Ao rfl (.buildSlice (n := 1) (ys := [(0, v1)]) (z := ([] : Str)) (xs := [v1]) U26 el9 ze9 ⟨rfl, (.t rfl), trivial⟩ (by simp) (by decide) rfl) ?_
      obtain ⟨out2, hv20, hm⟩ := Bs hm
      exact WL.opR rfl (OpR.appC (key := 8) hv20 U26 el9 (.t rfl) (.t rfl) rfl) fun k3 => Ag rfl rfl <| WL.nr1 <| Am rfl rfl <| WL.lenS (s := 0) (.t rfl) fun hl21 => Ao rfl (.addI1 (.t rfl) .i64 hp6 hl21) <| Ag rfl rfl <| WL.nil <| WN.meet ((out2, i + 1), k3) (Si hm) ⟨.q rfl, .q rfl, .q rfl, .q rfl, trivial⟩ ⟨rfl, rfl, trivial⟩
     ·exact W.skip <| WN.meet ((out, at0_), k1) (Si hm) ⟨.q rfl, .q rfl, .q rfl, .q rfl, trivial⟩ ⟨rfl, rfl, trivial⟩
    ·have hm := hs11
     clear hs11
     refine W.region <| Am rfl rfl <| WL.mv rfl rfl ?_
     obtain ⟨b, hv13, hm⟩ := Bs hm
     refine Ao rfl (.sidx hv13 U9 (.t rfl) (.t rfl)) <| Ao rfl (.eqI (.t rfl) (.int (inR8.2 (by omega)))) <| WL.mv rfl rfl ?_
     rcases iteD hm with ⟨hp15, hb14, hm⟩ | ⟨hp15, hb14, hm⟩
     ·exact Ap rfl hb14 <| Ap rfl hb14 <| Ap rfl hb14 <| Ap rfl hb14 <| Ao rfl (.pickT (.t rfl) hb14 .bool) <| WL.nil <| WN.meet true (Si hm) ⟨.q rfl, .q rfl, .q rfl, .q rfl, .q rfl, trivial⟩ ⟨rfl, rfl, trivial⟩
     ·refine Ax rfl hb14 (.move (.t rfl)) <| Ax rfl hb14 (.move (.t rfl)) ?_
      obtain ⟨b1, hv16, hm⟩ := Bs hm
      exact Ax rfl hb14 (.sidx hv16 U9 (.t rfl) (.t rfl)) <| Ax rfl hb14 (.eqI (.t rfl) (.int (inR8.2 (by omega)))) <| Ao rfl (.pickF (.t rfl) hb14 (.t rfl)) <| WL.nil <| WN.meet (decide ((b1.toNat : Int) = (10 : Int))) (Si hm) ⟨.q rfl, .q rfl, .q rfl, .q rfl, .q rfl, trivial⟩ ⟨rfl, rfl, trivial⟩
  ·refine W.exit rfl ?_
   have hr30 := Si hm
   clear hm
   subst hr30
   have hm := hk3
   try dsimp only at hm
   refine Aq <| Aw <| Ao rfl (.assign (.nil (t := tS))) <| Ao rfl (.assign (.str rfl (by decide))) <| Ao rfl (.assign .bool) <| WL.ns ?_
   have hr := Si hm
   clear hm
   subst hr
   exact W.ret3 () rfl rfl (.t rfl) (.t rfl) (.t rfl) trivial
theorem r14_back_spec (n : Nat) (s0_ : Str) (r : Int) (hm : M.r14_back n s0_ = some r) : FSpec Tryz.prog 29 [(tS.is s0_)] (I6.is r) := by
 unfold M.r14_back at hm
 refine FSpec.of Tryz.func29 rfl rfl rfl fun g0 => Aw <| Ao rfl (.assign .i64) <| An <| W.seq <| Aw <| Am rfl rfl <| Ao rfl (.eqS (.t rfl) (.str rfl (by decide))) <| An <| W.cB hm (.t rfl) (fun hp2 hm => ?_) (fun hp2 hm => ?_)
 ·refine Aw <| Ao rfl (.assign .i64) <| WL.ns ?_
  have hr := Si hm
  clear hm
  subst hr
  exact W.ret1 () rfl (.t rfl) trivial
 ·refine W.skip <| Aq <| Aw <| Ao rfl (.assign .i64) <| An <| W.seq <| Aw <| Ao rfl (.assign .i64) <| An <| W.block ?_
  obtain ⟨s3, hs4, hk5⟩ := Bs hm
  clear hm
  refine W.loop (fun m (s : Int × Int) => M.r14_back_loop1 s0_ m s.1 s.2 = some s3) (fun s => [(3, (I6.is s.1)), (4, (I6.is s.2)), (0, (tS.is s0_))]) (fun s => []) _ ((0 : Int), (0 : Int)) hs4 ⟨.q rfl, .q rfl, .q rfl, trivial⟩ trivial ?_
  rintro n6 ⟨n0_, i⟩ hm
  try dsimp only at hm
  change W _ _ _ _ _ _ _ [(3, (I6.is n0_)), (4, (I6.is i)), (0, (tS.is s0_))] []
  cases n6 with
  | zero => rw [M.r14_back_loop1.eq_1] at hm; cases hm
  | succ n6 =>
   rw [M.r14_back_loop1.eq_2] at hm
   refine W.seq <| Aw <| Am rfl rfl <| Am rfl rfl <| Ao rfl (.lenS U9 (.t rfl)) <| Ao rfl (.ltI (.t rfl) (.t rfl)) <| An <| W.cD hm (.t rfl) (fun hp8 hm => ?_) (fun hp8 hm => ?_)
   ·refine W.skip <| Aq <| W.seq <| W.block <| W.seq ?_
    obtain ⟨s9, hs10, hk11⟩ := Bs hm
    clear hm
    refine W.join (fun s : Bool => s = s9) (fun s => [(26, (tB.is s)), (0, (tS.is s0_)), (3, (I6.is n0_)), (4, (I6.is i))]) (fun s => []) ?_ ?_
    ·rintro v hj23
     try dsimp only at hj23
     subst hj23
     have hm := hk11
     clear hk11
     try dsimp only at hm
     change W _ _ _ _ _ _ _ [(26, (tB.is v)), (0, (tS.is s0_)), (3, (I6.is n0_)), (4, (I6.is i))] []
     refine W.cB hm (.t rfl) (fun hp19 hm => ?_) (fun hp19 hm => ?_)
     ·refine Aw <| Ao rfl (.assign .i64) <| WL.ns ?_
      have hr20 := Si hm
      clear hm
      subst hr20
      have hm := hk5
      try dsimp only at hm
      have hr := Si hm
      clear hm
      subst hr
      exact W.ret1 () rfl (.t rfl) trivial
     ·refine W.skip <| Aq <| W.region <| Am rfl rfl <| Ao rfl (.mulW64 .i64 (.t rfl)) <| Am rfl rfl <| WL.mv rfl rfl ?_
      obtain ⟨b2, hv21, hm⟩ := Bs hm
      exact Ao rfl (.sidx hv21 U9 (.t rfl) (.t rfl)) <| Ao rfl (.sub8 (.t rfl) (.int (inR8.2 (by omega)))) <| Ao rfl (.conv8 U5 U3 (.t rfl)) <| Ao rfl (.addW64 (.t rfl) (.t rfl)) <| Ag rfl rfl <| WL.nil <| WN.block <| Aq <| W.region <| Am rfl rfl <| WL.lenS (s := 0) (.t rfl) fun hl22 => Ao rfl (.addI1 (.t rfl) .i64 hp8 hl22) <| Ag rfl rfl <| WL.nil <| WN.again n6 (wrap64 (wrap64 ((10 : Int) * n0_) + wrap8 ((b2.toNat : Int) - (48 : Int))), i + 1) (Nat.lt_succ_self n6) hm ⟨.q rfl, .q rfl, .q rfl, trivial⟩ trivial
    ·have hm := hs10
     clear hs10
     refine W.region <| Am rfl rfl <| WL.mv rfl rfl ?_
     obtain ⟨b, hv12, hm⟩ := Bs hm
     refine Ao rfl (.sidx hv12 U9 (.t rfl) (.t rfl)) <| Ao rfl (.ltI (.t rfl) (.int (inR8.2 (by omega)))) <| WL.mv rfl rfl ?_
     rcases iteD hm with ⟨hp14, hb13, hm⟩ | ⟨hp14, hb13, hm⟩
     ·exact Ap rfl hb13 <| Ap rfl hb13 <| Ap rfl hb13 <| Ap rfl hb13 <| Ao rfl (.pickT (.t rfl) hb13 .bool) <| Am rfl rfl <| Ap rfl rfl <| Ap rfl rfl <| Ao rfl (.pickT (.t rfl) rfl .bool) <| WL.nil <| WN.meet true (Si hm) ⟨.q rfl, .q rfl, .q rfl, .q rfl, trivial⟩ trivial
     ·refine Ax rfl hb13 (.move (.t rfl)) <| Ax rfl hb13 (.move (.t rfl)) ?_
      obtain ⟨b1, hv15, hm⟩ := Bs hm
      refine Ax rfl hb13 (.sidx hv15 U9 (.t rfl) (.t rfl)) <| Ax rfl hb13 (.gtI (.t rfl) (.int (inR8.2 (by omega)))) <| Ao rfl (.pickF (.t rfl) hb13 (.t rfl)) <| WL.mv rfl rfl ?_
      rcases iteD hm with ⟨hp17, hb16, hm⟩ | ⟨hp17, hb16, hm⟩
      ·exact Ap rfl hb16 <| Ap rfl hb16 <| Ao rfl (.pickT (.t rfl) hb16 .bool) <| WL.nil <| WN.meet true (Si hm) ⟨.q rfl, .q rfl, .q rfl, .q rfl, trivial⟩ trivial
      ·exact Ax rfl hb16 (.move (.t rfl)) <| Ax rfl hb16 (.gtI (.t rfl) .i64) <| Ao rfl (.pickF (.t rfl) hb16 (.t rfl)) <| WL.nil <| WN.meet (decide ((6 : Int) < i)) (Si hm) ⟨.q rfl, .q rfl, .q rfl, .q rfl, trivial⟩ trivial
   ·refine W.exit rfl ?_
    have hr24 := Si hm
    clear hm
    subst hr24
    have hm := hk5
    try dsimp only at hm
    refine Aq <| W.seq <| Aw <| Am rfl rfl <| Ao rfl (.eqS (.t rfl) (.str rfl (by decide))) <| WL.mv rfl rfl ?_
    rcases iteB hm with ⟨hp26, hb25, hm⟩ | ⟨hp26, hb25, hm⟩
    ·refine Ap rfl hb25 <| Ap rfl hb25 <| Ap rfl hb25 <| Ap rfl hb25 <| Ao rfl (.pickT (.t rfl) hb25 .bool) <| An <| W.condT (.t rfl) <| Aw <| Ao rfl (.assign .i64) <| WL.ns ?_
     have hr := Si hm
     clear hm
     subst hr
     exact W.ret1 () rfl (.t rfl) trivial
    ·refine Ax rfl hb25 (.move (.t rfl)) ?_
     obtain ⟨number, hv27, hm⟩ := Bs hm
     refine Ax rfl hb25 (.call C37 (r14_number_spec _ _ _ hv27) ⟨(.t rfl), trivial⟩) <| Ax rfl hb25 (.move (.t rfl)) <| Ax rfl hb25 (.neS (.t rfl) (.t rfl)) <| Ao rfl (.pickF (.t rfl) hb25 (.t rfl)) <| An <| W.cB hm (.t rfl) (fun hp29 hm => ?_) (fun hp29 hm => ?_)
     ·refine Aw <| Ao rfl (.assign .i64) <| WL.ns ?_
      have hr := Si hm
      clear hm
      subst hr
      exact W.ret1 () rfl (.t rfl) trivial
     ·refine W.skip <| Aq <| Aw <| Am rfl rfl <| Ag rfl rfl <| WL.ns ?_
      have hr := Si hm
      clear hm
      subst hr
      exact W.ret1 () rfl (.t rfl) trivial
end Go.Proofs.YtkobngongonplaaGreatDoor
