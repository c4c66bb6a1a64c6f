/-
  The code does what the models say: written by program.
-/
import Derived.Test.YtalogjkalmkpjaaGreatDoorWb
set_option linter.unusedVariables false
set_option linter.unusedSimpArgs false
namespace Go.Proofs.YtalogjkalmkpjaaGreatDoor
open Go Go.Dec
set_option maxRecDepth 100000
set_option maxHeartbeats 4000000
def tTUo (k : Tok) : Ty api_TrackedUnit := tMap (tP (tI .i64) (tP (tI .i64) (tP tapi_Id (tP tS (tP tS (tP tB (tP (tL tapi_TrackedWord) (tP (tL tapi_TrackedWord) (tOne (tUT k)))))))))) (fun x : api_TrackedUnit => (x.State, x.Kind, x.Id, x.Label, x.Was, x.Moved, x.Head, x.Words, x.Kids))
theorem fTUo (k : Tok) : Fld (tTUo k) 10 (tUT k) (fun x => x.Kids) := (Fld.map (m := (fun x : api_TrackedUnit => (x.State, x.Kind, x.Id, x.Label, x.Was, x.Moved, x.Head, x.Words, x.Kids))) (Fld.next (s := (tI .i64)) (Fld.next (s := (tI .i64)) (Fld.next (s := tapi_Id) (Fld.next (s := tS) (Fld.next (s := tS) (Fld.next (s := tB) (Fld.next (s := (tL tapi_TrackedWord)) (Fld.next (s := (tL tapi_TrackedWord)) (Fld.one (tUT k))))))))))).cast rfl rfl
theorem sTUo (k k2 : Tok) : FldSetT (tTUo k) (tTUo k2) 10 (tUT k2) (fun x y => { x with Kids := y }) := (FldSetT.map (m := (fun x : api_TrackedUnit => (x.State, x.Kind, x.Id, x.Label, x.Was, x.Moved, x.Head, x.Words, x.Kids))) (f' := fun x y => { x with Kids := y }) (FldSetT.next (s := (tI .i64)) (FldSetT.next (s := (tI .i64)) (FldSetT.next (s := tapi_Id) (FldSetT.next (s := tS) (FldSetT.next (s := tS) (FldSetT.next (s := tB) (FldSetT.next (s := (tL tapi_TrackedWord)) (FldSetT.next (s := (tL tapi_TrackedWord)) (FldSetT.one (tUT k) (tUT k2) rfl))))))))) (fun _ _ => rfl)).cast rfl rfl
theorem TUo_clo {g : G} {k : Tok} {u : api_TrackedUnit} {ys : List api_TrackedUnit} {ds : List Value} (h : (tTUo k).rep g ds u) (hl : u.Kids.length = ys.length) (hr : Row tapi_TrackedUnit g k.addr ys) : tapi_TrackedUnit.rep g ds (spSk u ys) := by
  refine (leapi_TrackedUnit_k8 k).rep _ _ _ ?_
  obtain ⟨a1, b1, e1, h1, a2, b2, e2, h2, a3, b3, e3, h3, a4, b4, e4, h4, a5, b5, e5, h5, a6, b6, e6, h6, a7, b7, e7, h7, a8, b8, e8, h8, h9⟩ := h
  obtain ⟨q1, q2, q3⟩ := h9
  exact ⟨a1, b1, e1, h1, a2, b2, e2, h2, a3, b3, e3, h3, a4, b4, e4, h4, a5, b5, e5, h5, a6, b6, e6, h6, a7, b7, e7, h7, a8, b8, e8, h8, _, by rw [q1, show u.Kids.length = (spSk u ys).Kids.length from hl], rfl, by rw [hl] at q2; exact q2, by rw [hl] at q3; exact q3, hr⟩
theorem TUo_spk : Spk tTUo tapi_TrackedUnit (fun u => u.Kids) spSk := ⟨fun _ => rfl, fun _ => rfl, TUo_clo⟩
theorem le_TUo : Le (tapi_TrackedUnit_k8 none) (tTUo none) := Le.mapT (Le.pair (Le.refl _) (Le.pair (Le.refl _) (Le.pair (Le.refl _) (Le.pair (Le.refl _) (Le.pair (Le.refl _) (Le.pair (Le.refl _) (Le.pair (Le.refl _) (Le.pair (Le.refl _) (Le.one (show Le (tOT tapi_TrackedUnit none) (tUT none) from ⟨rfl, rfl, fun g cs xs h => by obtain ⟨v, h1, h2, h3, h4, h5⟩ := h; exact ⟨by rw [h1, h2], h3, h4⟩⟩)))))))))) _
theorem tyTUo (k : Tok) : TyAt Tryz.prog 33 (tTUo k) := ⟨Tryz.isAgg33, Tryz.sizeOf33⟩
theorem tyUT (k : Tok) : TyAt Tryz.prog 31 (tUT (α := api_TrackedUnit) k) := ⟨Tryz.isAgg31, Tryz.sizeOf31⟩
theorem tyTAd : TyAt Tryz.prog 73 tAd := ⟨Tryz.isAgg73, Tryz.sizeOf73⟩
theorem elTAd : ElAt Tryz.prog 73 tAd := ⟨⟨Tryz.t73, _, Tryz.type73, rfl, rfl, by decide, rfl⟩, Nat.zero_lt_one⟩
theorem elTAdO : ElAt Tryz.prog 73 tAdO := ⟨⟨Tryz.t73, _, Tryz.type73, rfl, rfl, by decide, rfl⟩, Nat.zero_lt_one⟩
theorem zeTAdO : ZeroAt Tryz.prog 73 tAdO none := ⟨_, Tryz.zeroValue73, fun _ => ⟨_, rfl, rfl⟩⟩
theorem nk_kids {env : Env} {res : Rs} {N : Nat} {g0 : G} {T0 : Nat → Prop} {w : api_TrackedUnit} {s : Nat} (hs : Dec.look s env = some ((tapi_TrackedUnit_k8 none).is w)) (a : Act) (g : G) (h : St N g0 T0 env res a g) : w.Kids = [] := by
  obtain ⟨cs, hr, _⟩ := h.henv s _ hs
  obtain ⟨ds, hd, _⟩ := fapi_TrackedUnit_k8_8 none g cs w hr
  obtain ⟨v, _, hv⟩ := hd
  exact List.length_eq_zero_iff.1 (Nat.le_zero.1 hv.2.1)
theorem sp_v_eq : ∀ sp : SpL, spV spSk sp = M.sp_v sp
  | [] => rfl
  | (xs, u) :: sp => by rw [spV, M.sp_v, sp_v_eq sp]
abbrev spChn := Chn (α := api_TrackedUnit) (fun u => u.Kids)
def SpOk (b0 : Nat) (ks : List Tok) (sp : SpL) : Prop := ks.length = (M.sp_n sp).length ∧ spChn (M.sp_n sp) ∧ ∃ ks' u r, ks = some (b0, 1) :: ks' ∧ M.sp_n sp = ([], u) :: r
abbrev spRR (kl : Tok) (ks : List Tok) (sp : SpL) : List Res := spR tTUo tapi_TrackedUnit 33 kl ks sp
def SpM (b0 : Nat) (ks : List Tok) (sp : SpL) : Res := Many (Fact (SpOk b0 ks sp) :: spRR none ks (M.sp_n sp))
def adrS (ks : List Tok) : SpL → List (Nat × Nat)
  | [] => []
  | x :: sp => adr tapi_TrackedUnit ks (x :: sp)
theorem adrS_len {b0 : Nat} {ks : List Tok} {sp : SpL} (h : SpOk b0 ks sp) : (adrS ks sp).length = sp.length := by
  cases sp with
  | nil => rfl
  | cons x sp => exact adr_len _ _ _ h.1
theorem SpOk.zero (b0 : Nat) : SpOk b0 [some (b0, 1)] [] := ⟨rfl, rfl, [], _, [], rfl, rfl⟩
theorem SpOk.one (b0 : Nat) {w : api_TrackedUnit} (h : w.Kids = []) : SpOk b0 [some (b0, 1)] [([], w)] := ⟨rfl, h, [], _, [], rfl, rfl⟩
theorem sp_split {ks : List Tok} {sp : SpL} {d : Nat} {xs : List api_TrackedUnit} {u : api_TrackedUnit} {r : SpL} (hl : ks.length = sp.length) (hd : sp.drop d = (xs, u) :: r) :
    ∃ ks1 k ks2, ks = ks1 ++ k :: ks2 ∧ sp = sp.take d ++ (xs, u) :: r ∧ ks1.length = (sp.take d).length ∧ ks2.length = r.length ∧ ks1 = ks.take d ∧ d < sp.length := by
  have hdl : d < sp.length := by
    rcases Nat.lt_or_ge d sp.length with h | h
    · exact h
    · rw [List.drop_eq_nil_of_le h] at hd; cases hd
  have hks : ks.drop d = ks[d] :: ks.drop (d + 1) := List.drop_eq_getElem_cons (by omega)
  have hr := congrArg List.length hd
  simp at hr
  refine ⟨ks.take d, ks[d], ks.drop (d + 1), by rw [← hks, List.take_append_drop], by rw [← hd, List.take_append_drop], by simp; omega, by simp; omega, rfl, hdl⟩
theorem Chn.tail {sp2 : SpL} : ∀ sp1 : SpL, spChn (sp1 ++ sp2) → spChn sp2
  | [], h => h
  | (xs, u) :: sp1, h => Chn.tail sp1 (Chn.cons (sk := spSk) h).1
theorem Chn.two {xs ys : List api_TrackedUnit} {u u' w : api_TrackedUnit} {r : SpL} (hu : u'.Kids.length = ys.length + 1) (hw : w.Kids = []) : ∀ sp1 : SpL, spChn (sp1 ++ (xs, u) :: r) → spChn (sp1 ++ [(xs, u'), (ys, w)])
  | [], _ => ⟨hu, hw⟩
  | [(zs, z)], h => ⟨h.1, hu, hw⟩
  | (zs, z) :: (ys', z') :: sp1, h => ⟨h.1, Chn.two hu hw ((ys', z') :: sp1) h.2⟩
theorem SpOk.push {b0 : Nat} {ks1 ks2 : List Tok} {k kl : Tok} {sp1 r : SpL} {xs ys : List api_TrackedUnit} {u u' w : api_TrackedUnit} (h : SpOk b0 (ks1 ++ k :: ks2) (sp1 ++ (xs, u) :: r)) (hl : ks1.length = sp1.length) (hu : u'.Kids.length = ys.length + 1) (hw : w.Kids = []) : SpOk b0 (ks1 ++ [k, kl]) (sp1 ++ [(xs, u'), (ys, w)]) := by
  have hn : ∀ s : SpL, s ≠ [] → M.sp_n s = s := fun s hs => by cases s with
    | nil => exact absurd rfl hs
    | cons x s => rfl
  obtain ⟨h1, h2, ks', u0, r0, h3, h4⟩ := h
  rw [hn _ (by simp)] at h1 h2 h4
  refine ⟨by rw [hn _ (by simp)]; simp [hl], by rw [hn _ (by simp)]; exact Chn.two hu hw sp1 h2, ?_⟩
  rw [hn _ (by simp)]
  cases sp1 with
  | nil =>
    have hk1 : ks1 = [] := List.length_eq_zero_iff.1 hl
    subst hk1
    simp only [List.nil_append, List.cons.injEq] at h3 h4
    exact ⟨[kl], u', [(ys, w)], by rw [h3.1]; rfl, by rw [(Prod.mk.inj h4.1).1]; rfl⟩
  | cons x sp1 =>
    cases ks1 with
    | nil => cases hl
    | cons k1 ks1 =>
      simp only [List.cons_append, List.cons.injEq] at h3 h4
      exact ⟨ks1 ++ [k, kl], u0, sp1 ++ [(xs, u'), (ys, w)], by rw [h3.1]; rfl, by rw [h4.1]; rfl⟩
theorem markup_Parse_spec (n : Nat) (s : Str) (r : api_TrackedUnit × Int × Int) (hm : M.markup_Parse n s = some r) :
    FSpecR Tryz.prog 18 [tS.is s] [(700000, Gl (tA 3 tS) 0 gv0), (700001, Gl (tA 3 tS) 1 gv1), (700002, Gl (tA 8 tS) 2 gv2), (700003, GlE 3), (700007, GlT Tryz.prog "internal/strconv.uint64pow10" .u64 Lib.pow10Tab), (700008, GlI 8), (700009, GlI 9)] (fun _ : Unit => Asn.tuple3 (tapi_TrackedUnit.is r.1) ((tI .i64).is r.2.1) ((tI .i64).is r.2.2)) (fun _ => []) := by
  unfold M.markup_Parse at hm
  refine FSpecR.of Tryz.func18 rfl rfl rfl (fun g0 => ?_)
  refine W.seq ?_
  refine W.region ?_
  refine WL.opR rfl (OpR.alloc 2 ze33) (fun br => ?_)
  refine WL.op rfl (Op1.assign (.int (inR64.2 (by omega)))) ?_
  refine WL.op rfl (Op1.assign (.int (inR64.2 (by omega)))) ?_
  refine WL.nil ?_
  refine WN.seq ?_
  refine W.seq ?_
  refine W.seq ?_
  refine W.region ?_
  refine WL.op rfl (Op1.move (.tmp rfl)) ?_
  refine WL.op rfl (Op1.lenS Tryz.underlying9 (.tmp rfl)) ?_
  refine WL.op rfl (Op1.gtI (.tmp rfl) (.int (inR64.2 (by omega)))) ?_
  refine WL.nil ?_
  refine WN.seq ?_
  refine W.cond (.tmp rfl) (fun hc1 => ?_) (fun hc1 => ?_)
  · rw [if_pos (of_decide_eq_true hc1)] at hm
    refine W.seq ?_
    refine W.region ?_
    refine WL.op rfl (Op1.build (s := tapi_TrackedUnit) (x := zapi_TrackedUnit) zapi_TrackedUnit_f rfl Tryz.underlying33 (zapi_TrackedUnit_sz _ Tryz.underlying33) ze33 rfl) ?_
    refine WL.opU (OpR.storeB (b := br) 2 Tryz.sizeOf33 (Cellable.is tapi_TrackedUnit zapi_TrackedUnit) rfl (.tmp rfl) (.tmp rfl)) (fun _ => ?_)
    refine WL.op rfl (Op1.assign (.int (inR64.2 (by omega)))) ?_
    refine WL.op rfl (Op1.assign (.int (inR64.2 (by omega)))) ?_
    refine WL.nil ?_
    refine WN.seq ?_
    cases hm
    exact W.retQ3 () rfl rfl (ResAt.cell 2 Tryz.isAgg33 Tryz.sizeOf33 rfl (.tmp rfl)) (ResAt.tmp (.tmp rfl)) (ResAt.tmp (.tmp rfl)) trivial
  rw [if_neg (of_decide_eq_false hc1)] at hm
  obtain ⟨o, hlo, hk⟩ := bind_some hm
  clear hm
  refine W.skip ?_
  refine WN.seq ?_
  refine W.seq ?_
  refine W.region ?_
  refine WL.opR rfl (OpR.alloc 5 zeapi_TrackedUnit_k8) (fun b0 => ?_)
  refine WL.nil ?_
  refine WN.seq ?_
  refine W.seq ?_
  refine W.region ?_
  refine WL.op rfl (Op1.assign (show Opd _ (Operand.const (Value.slice none 0 0)) (tU none 0) from fun _ _ _ => ⟨rfl, Nat.le_refl _, Nat.zero_le _⟩)) ?_
  refine WL.nil ?_
  refine WN.seq ?_
  refine W.seq ?_
  refine W.region ?_
  refine WL.op rfl (Op1.assign (.int (inR64.2 (by omega)))) ?_
  refine WL.nil ?_
  refine WN.seq ?_
  refine W.chg (fun a g h => St.free 6 (R := OwnU tAd 73 none (adrS [some (b0, 1)] [])) (fun b hb => by cases hb) rfl h) ?_
  refine W.chg (fun a g h => St.turn (key := 5) (R' := SpM b0 [some (b0, 1)] []) rfl (fun g hB => ⟨fun R hR => ?_, ?_⟩) (fun b hb => ?_) h) ?_
  · rcases List.mem_cons.1 hR with rfl | hR
    · exact SpOk.zero b0
    rw [List.mem_singleton.1 (show R ∈ [Lv (tTUo none) tapi_TrackedUnit 33 (some (b0, 1)) [] zapi_TrackedUnit] from hR)]
    exact Lv.ofBx rfl rfl (Bx.le le_TUo hB)
  · exact List.pairwise_cons.2 ⟨fun R _ b hb => hb.elim, List.pairwise_singleton _ (Lv (tTUo none) tapi_TrackedUnit 33 (some (b0, 1)) [] zapi_TrackedUnit)⟩
  · obtain ⟨R, hR, hb⟩ := hb
    rcases List.mem_cons.1 hR with rfl | hR
    · exact hb.elim
    rw [List.mem_singleton.1 (show R ∈ [Lv (tTUo none) tapi_TrackedUnit 33 (some (b0, 1)) [] zapi_TrackedUnit] from hR)] at hb
    exact hb
  refine W.seq ?_
  refine W.block ?_
  refine W.loop (fun m (s : Str × SpL × Nat × Tok × List Tok) => M.markup_Parse_loop m s.1 s.2.1 s.2.2.1 = some o) (fun s => [(0, (tS.is s.1)), (5, (Bp b0 0)), (6, (tU s.2.2.2.1 s.2.1.length)), (7, ((tI .i64).is (s.2.2.1 : Int))), (2, (Bp br 0))]) (fun s => [(5, SpM b0 s.2.2.2.2 s.2.1), (6, OwnU tAd 73 s.2.2.2.1 (adrS s.2.2.2.2 s.2.1)), (700000, Gl (tA 3 tS) 0 gv0), (700001, Gl (tA 3 tS) 1 gv1), (700002, Gl (tA 8 tS) 2 gv2), (700003, GlE 3), (700007, GlT Tryz.prog "internal/strconv.uint64pow10" .u64 Lib.pow10Tab), (700008, GlI 8), (700009, GlI 9), (2, (Bx 11 true 33 (tapi_TrackedUnit.is zapi_TrackedUnit) br))]) n (s, [], 0, none, [some (b0, 1)]) hlo ⟨Ent.q rfl, Ent.q rfl, Ent.q rfl, Ent.q rfl, Ent.q rfl, trivial⟩ ⟨rfl, rfl, ⟨rfl, rfl, ⟨rfl, rfl, ⟨rfl, rfl, ⟨rfl, rfl, ⟨rfl, rfl, ⟨rfl, rfl, ⟨rfl, rfl, ⟨rfl, rfl, ⟨rfl, rfl, trivial⟩⟩⟩⟩⟩⟩⟩⟩⟩⟩ ?_
  rintro m ⟨s, sp, i, kp, ks⟩ hm
  try dsimp only at hm
  change W _ _ _ _ _ _ _ [(0, (tS.is s)), (5, (Bp b0 0)), (6, (tU kp sp.length)), (7, ((tI .i64).is (i : Int))), (2, (Bp br 0))] [(5, SpM b0 ks sp), (6, OwnU tAd 73 kp (adrS ks sp)), (700000, Gl (tA 3 tS) 0 gv0), (700001, Gl (tA 3 tS) 1 gv1), (700002, Gl (tA 8 tS) 2 gv2), (700003, GlE 3), (700007, GlT Tryz.prog "internal/strconv.uint64pow10" .u64 Lib.pow10Tab), (700008, GlI 8), (700009, GlI 9), (2, (Bx 11 true 33 (tapi_TrackedUnit.is zapi_TrackedUnit) br))]
  cases m with
  | zero => cases hm
  | succ m =>
  unfold M.markup_Parse_loop at hm
  refine W.know (fun a g h => (h.hres _ (findR_mem (k := 5) rfl)).1 _ List.mem_cons_self) (fun hok => ?_)
  have hok : SpOk b0 ks sp := hok
  refine W.join (fun _ : Unit => s ≠ [] ∨ i = 0) (fun _ => [(0, (tS.is s)), (5, (Bp b0 0)), (6, (tU kp sp.length)), (7, ((tI .i64).is (i : Int))), (2, (Bp br 0))]) (fun _ => [(5, SpM b0 ks sp), (6, OwnU tAd 73 kp (adrS ks sp)), (700000, Gl (tA 3 tS) 0 gv0), (700001, Gl (tA 3 tS) 1 gv1), (700002, Gl (tA 8 tS) 2 gv2), (700003, GlE 3), (700007, GlT Tryz.prog "internal/strconv.uint64pow10" .u64 Lib.pow10Tab), (700008, GlI 8), (700009, GlI 9), (2, (Bx 11 true 33 (tapi_TrackedUnit.is zapi_TrackedUnit) br))]) ?_ ?_
  · rintro _ hsi
    rw [if_pos hsi] at hm
    obtain ⟨c, hcut, hm⟩ := bind_some hm
    obtain ⟨v, hpl, hm⟩ := bind_some hm
    change W _ _ _ _ _ _ _ [(0, (tS.is s)), (5, (Bp b0 0)), (6, (tU kp sp.length)), (7, ((tI .i64).is (i : Int))), (2, (Bp br 0))] [(5, SpM b0 ks sp), (6, OwnU tAd 73 kp (adrS ks sp)), (700000, Gl (tA 3 tS) 0 gv0), (700001, Gl (tA 3 tS) 1 gv1), (700002, Gl (tA 8 tS) 2 gv2), (700003, GlE 3), (700007, GlT Tryz.prog "internal/strconv.uint64pow10" .u64 Lib.pow10Tab), (700008, GlI 8), (700009, GlI 9), (2, (Bx 11 true 33 (tapi_TrackedUnit.is zapi_TrackedUnit) br))]
    refine W.seq ?_
    refine W.block ?_
    refine W.seq ?_
    refine W.region ?_
    refine WL.op rfl (Op1.move (.tmp rfl)) ?_
    refine WL.op rfl (Op1.callG (rin := [(700003, GlE 3)]) Tryz.call35 (strings_Cut_spec _ _ _ hcut) ⟨rfl, trivial⟩ ⟨rfl, rfl, trivial⟩ ⟨(.tmp rfl), (.str rfl (by decide)), trivial⟩) ?_
    refine WL.op rfl (Op1.move (.tmp rfl)) ?_
    refine WL.op rfl (Op1.extract30 (.tmp rfl)) ?_
    refine WL.op rfl (Op1.extract31 (.tmp rfl)) ?_
    refine WL.op rfl (Op1.extract32 (.tmp rfl)) ?_
    refine WL.op rfl (Op1.assign (.tmp rfl)) ?_
    refine WL.op rfl (Op1.assign (.tmp rfl)) ?_
    refine WL.op rfl (Op1.assign (.tmp rfl)) ?_
    refine WL.nil ?_
    refine WN.seq ?_
    refine W.seq ?_
    refine W.region ?_
    refine WL.op rfl (Op1.move (.tmp rfl)) ?_
    refine WL.op rfl (Op1.callG (rin := [(700000, Gl (tA 3 tS) 0 gv0), (700001, Gl (tA 3 tS) 1 gv1), (700002, Gl (tA 8 tS) 2 gv2), (700003, GlE 3), (700007, GlT Tryz.prog "internal/strconv.uint64pow10" .u64 Lib.pow10Tab), (700008, GlI 8), (700009, GlI 9)]) Tryz.call36 (markup_parseLine_spec _ _ _ hpl) ⟨rfl, rfl, rfl, rfl, rfl, rfl, rfl, trivial⟩ ⟨rfl, rfl, ⟨rfl, rfl, ⟨rfl, rfl, ⟨rfl, rfl, ⟨rfl, rfl, ⟨rfl, rfl, ⟨rfl, rfl, trivial⟩⟩⟩⟩⟩⟩⟩ ⟨(.tmp rfl), trivial⟩) ?_
    refine WL.op rfl (Op1.move (.tmp rfl)) ?_
    refine WL.op rfl (Op1.extract30 (.tmp rfl)) ?_
    refine WL.op rfl (Op1.extract31 (.tmp rfl)) ?_
    refine WL.op rfl (Op1.extract32 (.tmp rfl)) ?_
    refine WL.opR rfl (OpR.alloc 11 zeapi_TrackedUnit_k8) (fun bt => ?_)
    refine WL.opU (OpR.storeB (b := bt) 11 Tryz.sizeOf33 (Cellable.is (tapi_TrackedUnit_k8 none) v.1) rfl (.tmp rfl) (.tmp rfl)) (fun _ => ?_)
    refine WL.op rfl (Op1.assign (.tmp rfl)) ?_
    refine WL.op rfl (Op1.assign (.tmp rfl)) ?_
    refine WL.nil ?_
    refine WN.seq ?_
    refine W.know (nk_kids (s := 36) (w := v.1) rfl) (fun hvk => ?_)
    refine W.join (fun _ : Unit => c.2.2 = true ∧ v.2.2 = true) (fun _ => [(9, (tS.is c.2.1)), (11, (Bp bt 0)), (12, ((tI .i64).is v.2.1)), (5, (Bp b0 0)), (6, (tU kp sp.length)), (7, ((tI .i64).is (i : Int))), (2, (Bp br 0))]) (fun _ => [(11, (Bx 11 true 33 ((tapi_TrackedUnit_k8 none).is v.1) bt)), (5, SpM b0 ks sp), (6, OwnU tAd 73 kp (adrS ks sp)), (700000, Gl (tA 3 tS) 0 gv0), (700001, Gl (tA 3 tS) 1 gv1), (700002, Gl (tA 8 tS) 2 gv2), (700003, GlE 3), (700007, GlT Tryz.prog "internal/strconv.uint64pow10" .u64 Lib.pow10Tab), (700008, GlI 8), (700009, GlI 9), (2, (Bx 11 true 33 (tapi_TrackedUnit.is zapi_TrackedUnit) br))]) ?_ ?_
    · rintro _ ⟨hc2, hv2⟩
      rw [if_neg (by rw [hc2, hv2]; simp)] at hm
      change W _ _ _ _ _ _ _ [(9, (tS.is c.2.1)), (11, (Bp bt 0)), (12, ((tI .i64).is v.2.1)), (5, (Bp b0 0)), (6, (tU kp sp.length)), (7, ((tI .i64).is (i : Int))), (2, (Bp br 0))] [(11, (Bx 11 true 33 ((tapi_TrackedUnit_k8 none).is v.1) bt)), (5, SpM b0 ks sp), (6, OwnU tAd 73 kp (adrS ks sp)), (700000, Gl (tA 3 tS) 0 gv0), (700001, Gl (tA 3 tS) 1 gv1), (700002, Gl (tA 8 tS) 2 gv2), (700003, GlE 3), (700007, GlT Tryz.prog "internal/strconv.uint64pow10" .u64 Lib.pow10Tab), (700008, GlI 8), (700009, GlI 9), (2, (Bx 11 true 33 (tapi_TrackedUnit.is zapi_TrackedUnit) br))]
      refine W.seq ?_
      refine W.region ?_
      refine WL.op rfl (Op1.move (.tmp rfl)) ?_
      refine WL.op rfl (Op1.assign (.tmp rfl)) ?_
      refine WL.nil ?_
      refine WN.seq ?_
      refine W.seq ?_
      refine W.block ?_
      by_cases hi : i = 0
      · rw [if_pos hi] at hm
        have hb1 : decide ((i : Int) = 0) = true := decide_eq_true (by omega)
        have hb0 : decide (0 < (i : Int)) = false := decide_eq_false (by omega)
        refine W.seq ?_
        refine W.seq ?_
        refine W.region ?_
        refine WL.op rfl (Op1.move (.tmp rfl)) ?_
        refine WL.op rfl (Op1.eqI (.tmp rfl) (.int (inR64.2 (by omega)))) ?_
        refine WL.op rfl (Op1.move (.tmp rfl)) ?_
        refine WL.run rfl rfl rfl rfl hb1 rfl rfl (Op1.move (.tmp rfl)) ?_
        refine WL.run rfl rfl rfl rfl hb1 rfl rfl (Op1.gtI (.tmp rfl) (.int (inR64.2 (by omega)))) ?_
        refine WL.op rfl (Op1.pickT (.tmp rfl) hb1 (.tmp rfl)) ?_
        refine WL.op rfl (Op1.assign (.tmp rfl)) ?_
        refine WL.nil ?_
        refine WN.seq ?_
        refine W.cond (.tmp rfl) (fun hc5 => ?_) (fun hc5 => ?_)
        · rw [if_pos (of_decide_eq_true hc5)] at hm
          refine W.skip ?_
          refine WN.seq ?_
          refine W.cond (.tmp rfl) (fun _ => ?_) (fun h => absurd (h.symm.trans hc5) (by decide))
          refine W.seq ?_
          refine W.region ?_
          refine WL.op rfl (Op1.build (s := tapi_TrackedUnit) (x := zapi_TrackedUnit) zapi_TrackedUnit_f rfl Tryz.underlying33 (zapi_TrackedUnit_sz _ Tryz.underlying33) ze33 rfl) ?_
          refine WL.op rfl (Op1.move (.tmp rfl)) ?_
          refine WL.opU (OpR.storeB (b := br) 2 Tryz.sizeOf33 (Cellable.is tapi_TrackedUnit zapi_TrackedUnit) rfl (.tmp rfl) (.tmp rfl)) (fun _ => ?_)
          refine WL.op rfl (Op1.assign (.tmp rfl)) ?_
          refine WL.op rfl (Op1.assign (.int (inR64.2 (by omega)))) ?_
          refine WL.nil ?_
          refine WN.seq ?_
          cases hm
          cases hk
          exact W.retQ3 () rfl rfl (ResAt.cell 2 Tryz.isAgg33 Tryz.sizeOf33 rfl (.tmp rfl)) (ResAt.tmp (.tmp rfl)) (ResAt.tmp (.tmp rfl)) trivial
        rw [if_neg (of_decide_eq_false hc5)] at hm
        have hd0 := of_decide_eq_false hc5
        obtain ⟨p, hph, hm⟩ := bind_some hm
        refine W.seq ?_
        refine W.region ?_
        refine WL.op rfl (Op1.move (.tmp rfl)) ?_
        refine WL.op rfl (Op1.gtI (.tmp rfl) (.int (inR64.2 (by omega)))) ?_
        refine WL.op rfl (Op1.move (.tmp rfl)) ?_
        refine WL.pass rfl rfl rfl rfl hb0 rfl rfl ?_
        refine WL.pass rfl rfl rfl rfl hb0 rfl rfl ?_
        refine WL.pass rfl rfl rfl rfl hb0 rfl rfl ?_
        refine WL.pass2 rfl rfl rfl rfl rfl rfl ?_
        refine WL.pass2 rfl rfl rfl rfl rfl rfl ?_
        refine WL.pass2 rfl rfl rfl rfl rfl rfl ?_
        refine WL.pass2 rfl rfl rfl rfl rfl rfl ?_
        refine WL.pass rfl rfl rfl rfl hb0 rfl rfl ?_
        refine WL.op rfl (Op1.pickF (.tmp rfl) hb0 .bool) ?_
        refine WL.op rfl (Op1.assign (.tmp rfl)) ?_
        refine WL.nil ?_
        refine WN.seq ?_
        refine W.condF (.tmp rfl) ?_
        refine W.region ?_
        refine WL.op rfl (Op1.move (.tmp rfl)) ?_
        refine WL.op rfl (Op1.gtI (.tmp rfl) (.int (inR64.2 (by omega)))) ?_
        refine WL.op rfl (Op1.assign (.tmp rfl)) ?_
        refine WL.nil ?_
        refine WN.seq ?_
        refine W.cond (.tmp rfl) (fun h => absurd (of_decide_eq_true h) (by omega)) (fun _ => ?_)
        refine W.seq ?_
        refine W.seq ?_
        refine W.region ?_
        refine WL.op rfl (Op1.move (.tmp rfl)) ?_
        refine WL.op rfl (Op1.eqI (.tmp rfl) (.int (inR64.2 (by omega)))) ?_
        refine WL.op rfl (Op1.move (.tmp rfl)) ?_
        refine WL.run rfl rfl rfl rfl hb1 rfl rfl (Op1.loadB 11 Tryz.isAgg33 Tryz.sizeOf33 rfl (.tmp rfl)) ?_
        refine WL.run rfl rfl rfl rfl hb1 rfl rfl (Op1.call Tryz.call37 (markup_isPlaceholder_spec _ _ hph) ⟨Opd.leT (leapi_TrackedUnit_k8 none) (.tmp rfl), trivial⟩) ?_
        refine WL.op rfl (Op1.pickT (.tmp rfl) hb1 (.tmp rfl)) ?_
        refine WL.op rfl (Op1.assign (.tmp rfl)) ?_
        refine WL.nil ?_
        refine WN.seq ?_
        refine W.cond (.tmp rfl) (fun hc6 => ?_) (fun hc6 => ?_)
        · rw [if_pos hc6] at hm
          refine W.skip ?_
          refine WN.seq ?_
          refine W.cond (.tmp rfl) (fun _ => ?_) (fun h => absurd (h.symm.trans hc6) (by decide))
          refine W.seq ?_
          refine W.region ?_
          refine WL.op rfl (Op1.build (s := tapi_TrackedUnit) (x := zapi_TrackedUnit) zapi_TrackedUnit_f rfl Tryz.underlying33 (zapi_TrackedUnit_sz _ Tryz.underlying33) ze33 rfl) ?_
          refine WL.op rfl (Op1.move (.tmp rfl)) ?_
          refine WL.opU (OpR.storeB (b := br) 2 Tryz.sizeOf33 (Cellable.is tapi_TrackedUnit zapi_TrackedUnit) rfl (.tmp rfl) (.tmp rfl)) (fun _ => ?_)
          refine WL.op rfl (Op1.assign (.tmp rfl)) ?_
          refine WL.op rfl (Op1.assign (.int (inR64.2 (by omega)))) ?_
          refine WL.nil ?_
          refine WN.seq ?_
          cases hm
          cases hk
          exact W.retQ3 () rfl rfl (ResAt.cell 2 Tryz.isAgg33 Tryz.sizeOf33 rfl (.tmp rfl)) (ResAt.tmp (.tmp rfl)) (ResAt.tmp (.tmp rfl)) trivial
        rw [if_neg (ne_of_false hc6)] at hm
        obtain ⟨i2, hi2, hm⟩ := bind_some hm
        refine W.region ?_
        refine WL.op rfl (Op1.move (.tmp rfl)) ?_
        refine WL.op rfl (Op1.gtI (.tmp rfl) (.int (inR64.2 (by omega)))) ?_
        refine WL.op rfl (Op1.move (.tmp rfl)) ?_
        refine WL.pass rfl rfl rfl rfl hb0 rfl rfl ?_
        refine WL.pass rfl rfl rfl rfl hb0 rfl rfl ?_
        refine WL.pass rfl rfl rfl rfl hb0 rfl rfl ?_
        refine WL.pass rfl rfl rfl rfl hb0 rfl rfl ?_
        refine WL.pass rfl rfl rfl rfl hb0 rfl rfl ?_
        refine WL.pass rfl rfl rfl rfl hb0 rfl rfl ?_
        refine WL.pass rfl rfl rfl rfl hb0 rfl rfl ?_
        refine WL.pass rfl rfl rfl rfl hb0 rfl rfl ?_
        refine WL.op rfl (Op1.pickF (.tmp rfl) hb0 .bool) ?_
        refine WL.op rfl (Op1.assign (.tmp rfl)) ?_
        refine WL.nil ?_
        refine WN.seq ?_
        refine W.condF (.tmp rfl) ?_
        refine W.seq ?_
        refine W.region ?_
        refine WL.op rfl (Op1.move (.tmp rfl)) ?_
        refine WL.op rfl (Op1.eqI (.tmp rfl) (.int (inR64.2 (by omega)))) ?_
        refine WL.op rfl (Op1.assign (.tmp rfl)) ?_
        refine WL.nil ?_
        refine WN.seq ?_
        refine W.cond (.tmp rfl) (fun _ => ?_) (fun h => absurd (h.symm.trans hb1) (by decide))
        obtain ⟨hk1, hk2, ks', ux, rx, hks, hsx⟩ := hok
        refine W.chg (fun a g h => St.turn (key := 5) (R := SpM b0 ks sp) (R' := Lv (tTUo (ks'.headD none)) tapi_TrackedUnit 33 (some (b0, 1)) [] ux) rfl (fun g hB => hB.1 _ (by rw [hks, hsx]; exact List.mem_cons_of_mem _ List.mem_cons_self)) (fun b hb => ⟨_, by rw [hks, hsx]; exact List.mem_cons_of_mem _ List.mem_cons_self, hb⟩) h) ?_
        refine W.seq ?_
        refine W.region ?_
        refine WL.op rfl (Op1.loadB 11 Tryz.isAgg33 Tryz.sizeOf33 rfl (.tmp rfl)) ?_
        refine WL.opU (OpR.storeLv (key := 5) (t := tapi_TrackedUnit) (tx := tTUo (ks'.headD none)) (tx' := tTUo none) (t2 := tTUo none) (o := 0) (tyTUo none) (FldSetT.all (tTUo (ks'.headD none)) (tTUo none) rfl) rfl (.tmp rfl) (Opd.leT le_TUo (.tmp rfl)) rfl) (fun _ => ?_)
        refine WL.nil ?_
        refine WN.seq ?_
        refine W.weakR (res' := [(5, Lv (tTUo none) tapi_TrackedUnit 33 (some (b0, 1)) [] v.1), (700000, Gl (tA 3 tS) 0 gv0), (700001, Gl (tA 3 tS) 1 gv1), (700002, Gl (tA 8 tS) 2 gv2), (700003, GlE 3), (700007, GlT Tryz.prog "internal/strconv.uint64pow10" .u64 Lib.pow10Tab), (700008, GlI 8), (700009, GlI 9), (2, (Bx 11 true 33 (tapi_TrackedUnit.is zapi_TrackedUnit) br))]) ⟨rfl, rfl, ⟨rfl, rfl, ⟨rfl, rfl, ⟨rfl, rfl, ⟨rfl, rfl, ⟨rfl, rfl, ⟨rfl, rfl, ⟨rfl, rfl, ⟨rfl, rfl, trivial⟩⟩⟩⟩⟩⟩⟩⟩⟩ ?_
        refine W.seq ?_
        refine W.region ?_
        refine WL.opR rfl (OpR.loosen tAd_flat (OpR.bsMap (f := some) (t := tAdO) (xs := [(b0, 0)]) (E := 73) (key := 6) (OpR.buildSlice (n := 1) (t := tAdO) (ys := [(0, some (b0, 0))]) (z := none) (xs := [some (b0, 0)]) 6 Tryz.underlying68 elTAdO zeTAdO ⟨rfl, Opd.toAd (.tmp rfl), trivial⟩ (by simp) (by decide) rfl))) (fun k2 => ?_)
        refine WL.op rfl (Op1.assign (.tmp rfl)) ?_
        refine WL.nil ?_
        refine WN.seq ?_
        refine W.exit rfl ?_
        refine WN.seq ?_
        refine W.region ?_
        refine WL.op rfl (Op1.move (.tmp rfl)) ?_
        refine WL.op rfl (Op1.addC hi2 (.tmp rfl) (.int (inR64.2 (by omega)))) ?_
        refine WL.op rfl (Op1.assign (.tmp rfl)) ?_
        refine WL.nil ?_
        have hi3 : i2 = ((i + 1 : Nat) : Int) := by
          unfold addC at hi2
          split at hi2
          · have := Option.some.inj hi2; omega
          · cases hi2
        subst hi3
        refine WN.chg (fun a g h => St.turn (key := 5) (R' := SpM b0 [some (b0, 1)] [([], v.1)]) rfl (fun g hB => ⟨fun R hR => ?_, ?_⟩) (fun b hb => ?_) h) ?_
        · rcases List.mem_cons.1 hR with rfl | hR
          · exact SpOk.one b0 hvk
          rw [List.mem_singleton.1 (show R ∈ [Lv (tTUo none) tapi_TrackedUnit 33 (some (b0, 1)) [] v.1] from hR)]
          exact hB
        · exact List.pairwise_cons.2 ⟨fun R _ b hb => hb.elim, List.pairwise_singleton _ (Lv (tTUo none) tapi_TrackedUnit 33 (some (b0, 1)) [] v.1)⟩
        · obtain ⟨R, hR, hb⟩ := hb
          rcases List.mem_cons.1 hR with rfl | hR
          · exact hb.elim
          rw [List.mem_singleton.1 (show R ∈ [Lv (tTUo none) tapi_TrackedUnit 33 (some (b0, 1)) [] v.1] from hR)] at hb
          exact hb
        have hadr : adrS [some (b0, 1)] [([], v.1)] = [(b0, 0)] := by simp [adrS, adr, bk]
        refine WN.chg (fun a g h => St.turn (key := 6) (R' := OwnU tAd 73 k2 (adrS [some (b0, 1)] [([], v.1)])) rfl (fun g hB => by rw [hadr]; exact hB) (fun b hb => hb) h) ?_
        exact WN.again m (c.2.1, [([], v.1)], i + 1, k2, [some (b0, 1)]) (Nat.lt_succ_self m) hm ⟨Ent.q rfl, Ent.q rfl, Ent.q rfl, Ent.q rfl, Ent.q rfl, trivial⟩ ⟨rfl, rfl, ⟨rfl, rfl, ⟨rfl, rfl, ⟨rfl, rfl, ⟨rfl, rfl, ⟨rfl, rfl, ⟨rfl, rfl, ⟨rfl, rfl, ⟨rfl, rfl, ⟨rfl, rfl, trivial⟩⟩⟩⟩⟩⟩⟩⟩⟩⟩
      rw [if_neg hi] at hm
      have hb1 : decide ((i : Int) = 0) = false := decide_eq_false (by omega)
      have hb0 : decide (0 < (i : Int)) = true := decide_eq_true (by omega)
      refine W.seq ?_
      refine W.seq ?_
      refine W.region ?_
      refine WL.op rfl (Op1.move (.tmp rfl)) ?_
      refine WL.op rfl (Op1.eqI (.tmp rfl) (.int (inR64.2 (by omega)))) ?_
      refine WL.op rfl (Op1.move (.tmp rfl)) ?_
      refine WL.pass rfl rfl rfl rfl hb1 rfl rfl ?_
      refine WL.pass rfl rfl rfl rfl hb1 rfl rfl ?_
      refine WL.op rfl (Op1.pickF (.tmp rfl) hb1 .bool) ?_
      refine WL.op rfl (Op1.assign (.tmp rfl)) ?_
      refine WL.nil ?_
      refine WN.seq ?_
      refine W.condF (.tmp rfl) ?_
      refine W.seq ?_
      refine W.region ?_
      refine WL.op rfl (Op1.move (.tmp rfl)) ?_
      refine WL.op rfl (Op1.gtI (.tmp rfl) (.int (inR64.2 (by omega)))) ?_
      refine WL.op rfl (Op1.move (.tmp rfl)) ?_
      refine WL.run rfl rfl rfl rfl hb0 rfl rfl (Op1.move (.tmp rfl)) ?_
      refine WL.run rfl rfl rfl rfl hb0 rfl rfl (Op1.ltI (.tmp rfl) (.int (inR64.2 (by omega)))) ?_
      refine WL.run rfl rfl rfl rfl hb0 rfl rfl (Op1.move (.tmp rfl)) ?_
      by_cases hd1 : v.2.1 < 1
      · have hbd : decide (v.2.1 < 1) = true := decide_eq_true hd1
        rw [if_pos (.inl hd1)] at hm
        refine WL.pass rfl rfl rfl rfl hbd rfl rfl ?_
        refine WL.pass rfl rfl rfl rfl hbd rfl rfl ?_
        refine WL.pass rfl rfl rfl rfl hbd rfl rfl ?_
        refine WL.pass rfl rfl rfl rfl hbd rfl rfl ?_
        refine WL.run rfl rfl rfl rfl hb0 rfl rfl (Op1.pickT (.tmp rfl) hbd .bool) ?_
        refine WL.op rfl (Op1.pickT (.tmp rfl) hb0 (.tmp rfl)) ?_
        refine WL.op rfl (Op1.assign (.tmp rfl)) ?_
        refine WL.nil ?_
        refine WN.seq ?_
        refine W.condT (.tmp rfl) ?_
        refine W.skip ?_
        refine WN.seq ?_
        refine W.condT (.tmp rfl) ?_
        refine W.seq ?_
        refine W.region ?_
        refine WL.op rfl (Op1.build (s := tapi_TrackedUnit) (x := zapi_TrackedUnit) zapi_TrackedUnit_f rfl Tryz.underlying33 (zapi_TrackedUnit_sz _ Tryz.underlying33) ze33 rfl) ?_
        refine WL.op rfl (Op1.move (.tmp rfl)) ?_
        refine WL.opU (OpR.storeB (b := br) 2 Tryz.sizeOf33 (Cellable.is tapi_TrackedUnit zapi_TrackedUnit) rfl (.tmp rfl) (.tmp rfl)) (fun _ => ?_)
        refine WL.op rfl (Op1.assign (.tmp rfl)) ?_
        refine WL.op rfl (Op1.assign (.int (inR64.2 (by omega)))) ?_
        refine WL.nil ?_
        refine WN.seq ?_
        cases hm
        cases hk
        exact W.retQ3 () rfl rfl (ResAt.cell 2 Tryz.isAgg33 Tryz.sizeOf33 rfl (.tmp rfl)) (ResAt.tmp (.tmp rfl)) (ResAt.tmp (.tmp rfl)) trivial
      have hbd : decide (v.2.1 < 1) = false := decide_eq_false hd1
      refine WL.run rfl rfl rfl rfl hbd rfl rfl (Op1.move (.tmp rfl)) ?_
      refine WL.run rfl rfl rfl rfl hbd rfl rfl (Op1.move (.tmp rfl)) ?_
      refine WL.run rfl rfl rfl rfl hbd rfl rfl (Op1.lenU Tryz.underlying68 (.tmp rfl)) ?_
      refine WL.run rfl rfl rfl rfl hbd rfl rfl (Op1.gtI (.tmp rfl) (.tmp rfl)) ?_
      refine WL.run rfl rfl rfl rfl hb0 rfl rfl (Op1.pickF (.tmp rfl) hbd (.tmp rfl)) ?_
      refine WL.op rfl (Op1.pickT (.tmp rfl) hb0 (.tmp rfl)) ?_
      refine WL.op rfl (Op1.assign (.tmp rfl)) ?_
      refine WL.nil ?_
      refine WN.seq ?_
      refine W.cond (.tmp rfl) (fun hc5 => ?_) (fun hc5 => ?_)
      · rw [if_pos (.inr (.inl (of_decide_eq_true hc5)))] at hm
        refine W.skip ?_
        refine WN.seq ?_
        refine W.cond (.tmp rfl) (fun _ => ?_) (fun h => absurd (h.symm.trans hc5) (by decide))
        refine W.seq ?_
        refine W.region ?_
        refine WL.op rfl (Op1.build (s := tapi_TrackedUnit) (x := zapi_TrackedUnit) zapi_TrackedUnit_f rfl Tryz.underlying33 (zapi_TrackedUnit_sz _ Tryz.underlying33) ze33 rfl) ?_
        refine WL.op rfl (Op1.move (.tmp rfl)) ?_
        refine WL.opU (OpR.storeB (b := br) 2 Tryz.sizeOf33 (Cellable.is tapi_TrackedUnit zapi_TrackedUnit) rfl (.tmp rfl) (.tmp rfl)) (fun _ => ?_)
        refine WL.op rfl (Op1.assign (.tmp rfl)) ?_
        refine WL.op rfl (Op1.assign (.int (inR64.2 (by omega)))) ?_
        refine WL.nil ?_
        refine WN.seq ?_
        cases hm
        cases hk
        exact W.retQ3 () rfl rfl (ResAt.cell 2 Tryz.isAgg33 Tryz.sizeOf33 rfl (.tmp rfl)) (ResAt.tmp (.tmp rfl)) (ResAt.tmp (.tmp rfl)) trivial
      refine W.region ?_
      refine WL.op rfl (Op1.move (.tmp rfl)) ?_
      refine WL.op rfl (Op1.gtI (.tmp rfl) (.int (inR64.2 (by omega)))) ?_
      refine WL.op rfl (Op1.assign (.tmp rfl)) ?_
      refine WL.nil ?_
      refine WN.seq ?_
      refine W.cond (.tmp rfl) (fun hc7 => ?_) (fun hc7 => ?_)
      · rw [if_pos (.inr (.inr (of_decide_eq_true hc7)))] at hm
        refine W.seq ?_
        refine W.region ?_
        refine WL.op rfl (Op1.build (s := tapi_TrackedUnit) (x := zapi_TrackedUnit) zapi_TrackedUnit_f rfl Tryz.underlying33 (zapi_TrackedUnit_sz _ Tryz.underlying33) ze33 rfl) ?_
        refine WL.op rfl (Op1.move (.tmp rfl)) ?_
        refine WL.opU (OpR.storeB (b := br) 2 Tryz.sizeOf33 (Cellable.is tapi_TrackedUnit zapi_TrackedUnit) rfl (.tmp rfl) (.tmp rfl)) (fun _ => ?_)
        refine WL.op rfl (Op1.assign (.tmp rfl)) ?_
        refine WL.op rfl (Op1.assign (.int (inR64.2 (by omega)))) ?_
        refine WL.nil ?_
        refine WN.seq ?_
        cases hm
        cases hk
        exact W.retQ3 () rfl rfl (ResAt.cell 2 Tryz.isAgg33 Tryz.sizeOf33 rfl (.tmp rfl)) (ResAt.tmp (.tmp rfl)) (ResAt.tmp (.tmp rfl)) trivial
      have hd2 := of_decide_eq_false hc5
      have hd3 := of_decide_eq_false hc7
      rw [if_neg (by omega)] at hm
      obtain ⟨q, hq, hm⟩ := bind_some hm
      obtain ⟨p, hph, hm⟩ := bind_some hm
      obtain ⟨d, hd⟩ : ∃ d : Nat, v.2.1 = ((d + 1 : Nat) : Int) := ⟨v.2.1.toNat - 1, by omega⟩
      have hdn : v.2.1.toNat - 1 = d := by omega
      rw [hdn] at hq hm
      obtain ⟨xs, u, r, hdr⟩ : ∃ xs u r, sp.drop d = (xs, u) :: r := by
        have hl : d < sp.length := by omega
        exact ⟨_, _, _, List.drop_eq_getElem_cons hl⟩
      have hspn : M.sp_n sp = sp := by
        cases sp with
        | nil => rw [List.drop_nil] at hdr; cases hdr
        | cons x sp => rfl
      have hadS : adrS ks sp = adr tapi_TrackedUnit ks sp := by
        cases sp with
        | nil => rw [List.drop_nil] at hdr; cases hdr
        | cons x sp => rfl
      have hadl := adrS_len hok
      have hok2 := hok
      obtain ⟨hk1, hk2, _⟩ := hok2
      rw [hspn] at hk1 hk2
      obtain ⟨ks1, k, ks2, hks, hsp, hl1, hl2, hkt, hdl⟩ := sp_split hk1 hdr
      generalize hsp1 : sp.take d = sp1 at hsp hl1
      have hl3 : sp1.length = d := by rw [← hsp1, List.length_take]; omega
      have hch : spChn ((xs, u) :: r) := Chn.tail sp1 (by rw [← hsp]; exact hk2)
      have hlk : u.Kids.length = (M.sp_v r).length := by have := (Chn.cons (sk := spSk) hch).2; rw [sp_v_eq] at this; exact this
      have hqe : q = spSk u (M.sp_v r) := by
        unfold M.sp_at at hq
        rw [hdr] at hq
        exact (Option.some.inj hq).symm
      rw [hqe] at hph
      have hix : idx (adrS ks sp) ((d : Nat) : Int) = some (bk k, xs.length * tapi_TrackedUnit.size) := by
        rw [hadS, hks, hsp, adr_app _ _ _ _ _ hl1, idx_nat, List.getElem?_append_right (by rw [adr_len _ _ _ hl1]; omega), adr_len _ _ _ hl1, hl3, Nat.sub_self]
        rfl
      have hsub : subC v.2.1 1 = some ((d : Nat) : Int) := by rw [hd, subC_eq (by omega) (by omega)]; congr 1; omega
      refine W.seq ?_
      refine W.seq ?_
      refine W.region ?_
      refine WL.op rfl (Op1.move (.tmp rfl)) ?_
      refine WL.op rfl (Op1.eqI (.tmp rfl) (.int (inR64.2 (by omega)))) ?_
      refine WL.op rfl (Op1.move (.tmp rfl)) ?_
      refine WL.pass rfl rfl rfl rfl hb1 rfl rfl ?_
      refine WL.pass rfl rfl rfl rfl hb1 rfl rfl ?_
      refine WL.op rfl (Op1.pickF (.tmp rfl) hb1 .bool) ?_
      refine WL.op rfl (Op1.assign (.tmp rfl)) ?_
      refine WL.nil ?_
      refine WN.seq ?_
      refine W.condF (.tmp rfl) ?_
      refine W.chg (fun a g h => St.turn (key := 5) (R' := Many (Fact (SpOk b0 ks sp) :: spRR none (ks1 ++ k :: ks2) (sp1 ++ (xs, u) :: r))) rfl (fun g hB => by rw [← hks, ← hsp]; unfold SpM at hB; rw [hspn] at hB; exact hB) (fun b hb => by unfold SpM; rw [hspn]; rw [← hks, ← hsp] at hb; exact hb) h) ?_
      refine W.ghost (fun a g h => St.spCut TUo_spk 5 55 56 hl1 hl2 hch rfl a g h) ?_
      rw [sp_v_eq]
      refine W.region ?_
      refine WL.op rfl (Op1.move (.tmp rfl)) ?_
      refine WL.op rfl (Op1.gtI (.tmp rfl) (.int (inR64.2 (by omega)))) ?_
      refine WL.op rfl (Op1.move (.tmp rfl)) ?_
      refine WL.run rfl rfl rfl rfl hb0 rfl rfl (Op1.move (.tmp rfl)) ?_
      refine WL.run rfl rfl rfl rfl hb0 rfl rfl (Op1.move (.tmp rfl)) ?_
      refine WL.run rfl rfl rfl rfl hb0 rfl rfl (Op1.subC hsub (.tmp rfl) (.int (inR64.2 (by omega)))) ?_
      refine WL.run rfl rfl rfl rfl hb0 rfl rfl (Op1.idxU (t := tAd) hix Tryz.underlying68 Tryz.sizeOf73 (by rw [hadl]; exact .tmp rfl) (.tmp rfl)) ?_
      refine WL.run rfl rfl rfl rfl hb0 rfl rfl (Op1.loadU 6 hix tyTAd rfl (.tmp rfl)) ?_
      refine WL.run rfl rfl rfl rfl hb0 rfl rfl (Op1.nilCheckB (Opd.ofAd (.tmp rfl))) ?_
      refine WL.run rfl rfl rfl rfl hb0 rfl rfl (Op1.loadLvS TUo_spk 55 56 ty33 rfl rfl hlk (.tmp rfl)) ?_
      refine WL.run rfl rfl rfl rfl hb0 rfl rfl (Op1.call Tryz.call37 (markup_isPlaceholder_spec _ _ hph) ⟨(.tmp rfl), trivial⟩) ?_
      refine WL.op rfl (Op1.pickT (.tmp rfl) hb0 (.tmp rfl)) ?_
      refine WL.op rfl (Op1.assign (.tmp rfl)) ?_
      refine WL.nil ?_
      refine WN.seq ?_
      refine W.cond (.tmp rfl) (fun hc6 => ?_) (fun hc6 => ?_)
      · rw [if_pos hc6] at hm
        refine W.seq ?_
        refine W.region ?_
        refine WL.op rfl (Op1.build (s := tapi_TrackedUnit) (x := zapi_TrackedUnit) zapi_TrackedUnit_f rfl Tryz.underlying33 (zapi_TrackedUnit_sz _ Tryz.underlying33) ze33 rfl) ?_
        refine WL.op rfl (Op1.move (.tmp rfl)) ?_
        refine WL.opU (OpR.storeB (b := br) 2 Tryz.sizeOf33 (Cellable.is tapi_TrackedUnit zapi_TrackedUnit) rfl (.tmp rfl) (.tmp rfl)) (fun _ => ?_)
        refine WL.op rfl (Op1.assign (.tmp rfl)) ?_
        refine WL.op rfl (Op1.assign (.int (inR64.2 (by omega)))) ?_
        refine WL.nil ?_
        refine WN.seq ?_
        cases hm
        cases hk
        exact W.retQ3 () rfl rfl (ResAt.cell 2 Tryz.isAgg33 Tryz.sizeOf33 rfl (.tmp rfl)) (ResAt.tmp (.tmp rfl)) (ResAt.tmp (.tmp rfl)) trivial
      rw [if_neg (ne_of_false hc6)] at hm
      obtain ⟨sp2, hpush, hm⟩ := bind_some hm
      obtain ⟨i2, hi2, hm⟩ := bind_some hm
      have hpu : ∃ kz, appC (M.sp_v r) [v.1] = some kz ∧ sp2 = sp1 ++ [(xs, spSk u kz), (M.sp_v r, v.1)] := by
        unfold M.sp_push at hpush
        rw [hdr] at hpush
        obtain ⟨kz, h1, h2⟩ := bind_some hpush
        exact ⟨kz, h1, by rw [← Option.some.inj h2, hsp1]⟩
      obtain ⟨kz, hkz, hsp2⟩ := hpu
      rw [hsp2] at hm
      refine W.seq ?_
      refine W.region ?_
      refine WL.op rfl (Op1.move (.tmp rfl)) ?_
      refine WL.op rfl (Op1.eqI (.tmp rfl) (.int (inR64.2 (by omega)))) ?_
      refine WL.op rfl (Op1.assign (.tmp rfl)) ?_
      refine WL.nil ?_
      refine WN.seq ?_
      refine W.cond (.tmp rfl) (fun h => absurd (h.symm.trans hb1) (by decide)) (fun _ => ?_)
      refine W.skip ?_
      refine WN.block ?_
      refine WN.seq ?_
      refine W.seq ?_
      refine W.region ?_
      refine WL.op rfl (Op1.move (.tmp rfl)) ?_
      refine WL.op rfl (Op1.move (.tmp rfl)) ?_
      refine WL.op rfl (Op1.subC hsub (.tmp rfl) (.int (inR64.2 (by omega)))) ?_
      refine WL.op rfl (Op1.idxU (t := tAd) hix Tryz.underlying68 Tryz.sizeOf73 (by rw [hadl]; exact .tmp rfl) (.tmp rfl)) ?_
      refine WL.op rfl (Op1.loadU 6 hix tyTAd rfl (.tmp rfl)) ?_
      refine WL.op rfl (Op1.assign (.tmp rfl)) ?_
      refine WL.nil ?_
      refine WN.seq ?_
      refine W.chg (fun a g h => h.slotA (s := 14) rfl (fun _ _ => Asn.ofAd)) ?_
      obtain ⟨hkze, hkzl⟩ := appC_out hkz
      generalize ks2.headD none = kl
      generalize M.sp_v r = ys at *
      refine W.weakR (res' := [(5, Many (spRR k ks1 sp1)), (55, Lv (tTUo kl) tapi_TrackedUnit 33 k xs u), (56, Grown tapi_TrackedUnit 33 kl ys), (11, (Bx 11 true 33 ((tapi_TrackedUnit_k8 none).is v.1) bt)), (6, OwnU tAd 73 kp (adrS ks sp)), (700000, Gl (tA 3 tS) 0 gv0), (700001, Gl (tA 3 tS) 1 gv1), (700002, Gl (tA 8 tS) 2 gv2), (700003, GlE 3), (700007, GlT Tryz.prog "internal/strconv.uint64pow10" .u64 Lib.pow10Tab), (700008, GlI 8), (700009, GlI 9), (2, (Bx 11 true 33 (tapi_TrackedUnit.is zapi_TrackedUnit) br))]) ⟨rfl, rfl, ⟨rfl, rfl, ⟨rfl, rfl, ⟨rfl, rfl, ⟨rfl, rfl, ⟨rfl, rfl, ⟨rfl, rfl, ⟨rfl, rfl, ⟨rfl, rfl, ⟨rfl, rfl, ⟨rfl, rfl, ⟨rfl, rfl, ⟨rfl, rfl, trivial⟩⟩⟩⟩⟩⟩⟩⟩⟩⟩⟩⟩⟩ ?_
      refine W.seq ?_
      refine W.drawS [.c (Bp (bk k) (xs.length * tapi_TrackedUnit.size)), .c (Bp (bk k) (xs.length * tapi_TrackedUnit.size)), .c (Bp (bk k) (xs.length * tapi_TrackedUnit.size + 10)), .c (tO tapi_TrackedUnit kl ys), .c ((tapi_TrackedUnit_k8 none).is v.1), .c ((tI .i64).is (ys.length : Int)), .c ((tL tapi_TrackedUnit).is [zapi_TrackedUnit]), .f (fun cv => rawS (cv 0) (ys.length + 1)), .f (fun cv => Bp (bk (cv 0)) (ys.length * tapi_TrackedUnit.size)), .c Asn.any, .c (Bp (bk k) (xs.length * tapi_TrackedUnit.size)), .c (Bp (bk k) (xs.length * tapi_TrackedUnit.size + 10)), .c Asn.any] [([], [14]), ([0], []), ([1], []), ([2], []), ([], [11]), ([3], []), ([], []), ([3, 6], []), ([7, 5], []), ([8, 4], []), ([0], []), ([10], []), ([11, 7], [])] [7, 9, 12] [[], [], [], [], [], [], [], [true], [true], [], [], [], []] (fun mk cv => match mk with | [false, false, false] => [(5, Many (spRR k ks1 sp1)), (55, Lv (tTUo kl) tapi_TrackedUnit 33 k xs u), (56, Grown tapi_TrackedUnit 33 kl ys), (11, (Bx 11 true 33 ((tapi_TrackedUnit_k8 none).is v.1) bt)), (6, OwnU tAd 73 kp (adrS ks sp)), (700000, Gl (tA 3 tS) 0 gv0), (700001, Gl (tA 3 tS) 1 gv1), (700002, Gl (tA 8 tS) 2 gv2), (700003, GlE 3), (700007, GlT Tryz.prog "internal/strconv.uint64pow10" .u64 Lib.pow10Tab), (700008, GlI 8), (700009, GlI 9), (2, (Bx 11 true 33 (tapi_TrackedUnit.is zapi_TrackedUnit) br))] | [true, false, false] => [(5, Many (spRR k ks1 sp1)), (55, Lv (tTUo kl) tapi_TrackedUnit 33 k xs u), (56, Resv tapi_TrackedUnit 33 (cv 0) ys), (11, (Bx 11 true 33 ((tapi_TrackedUnit_k8 none).is v.1) bt)), (6, OwnU tAd 73 kp (adrS ks sp)), (700000, Gl (tA 3 tS) 0 gv0), (700001, Gl (tA 3 tS) 1 gv1), (700002, Gl (tA 8 tS) 2 gv2), (700003, GlE 3), (700007, GlT Tryz.prog "internal/strconv.uint64pow10" .u64 Lib.pow10Tab), (700008, GlI 8), (700009, GlI 9), (2, (Bx 11 true 33 (tapi_TrackedUnit.is zapi_TrackedUnit) br))] | [true, true, false] => [(5, Many (spRR k ks1 sp1)), (55, Lv (tTUo kl) tapi_TrackedUnit 33 k xs u), (56, Lv (tTUo none) tapi_TrackedUnit 33 (cv 0) ys v.1), (11, (Bx 11 true 33 ((tapi_TrackedUnit_k8 none).is v.1) bt)), (6, OwnU tAd 73 kp (adrS ks sp)), (700000, Gl (tA 3 tS) 0 gv0), (700001, Gl (tA 3 tS) 1 gv1), (700002, Gl (tA 8 tS) 2 gv2), (700003, GlE 3), (700007, GlT Tryz.prog "internal/strconv.uint64pow10" .u64 Lib.pow10Tab), (700008, GlI 8), (700009, GlI 9), (2, (Bx 11 true 33 (tapi_TrackedUnit.is zapi_TrackedUnit) br))] | [true, false, true] => [(5, Many (spRR k ks1 sp1)), (55, Lv (tTUo (cv 0)) tapi_TrackedUnit 33 k xs (spSk u kz)), (56, Resv tapi_TrackedUnit 33 (cv 0) ys), (11, (Bx 11 true 33 ((tapi_TrackedUnit_k8 none).is v.1) bt)), (6, OwnU tAd 73 kp (adrS ks sp)), (700000, Gl (tA 3 tS) 0 gv0), (700001, Gl (tA 3 tS) 1 gv1), (700002, Gl (tA 8 tS) 2 gv2), (700003, GlE 3), (700007, GlT Tryz.prog "internal/strconv.uint64pow10" .u64 Lib.pow10Tab), (700008, GlI 8), (700009, GlI 9), (2, (Bx 11 true 33 (tapi_TrackedUnit.is zapi_TrackedUnit) br))] | _ => [(5, Many (spRR k ks1 sp1)), (55, Lv (tTUo (cv 0)) tapi_TrackedUnit 33 k xs (spSk u kz)), (56, Lv (tTUo none) tapi_TrackedUnit 33 (cv 0) ys v.1), (11, (Bx 11 true 33 ((tapi_TrackedUnit_k8 none).is v.1) bt)), (6, OwnU tAd 73 kp (adrS ks sp)), (700000, Gl (tA 3 tS) 0 gv0), (700001, Gl (tA 3 tS) 1 gv1), (700002, Gl (tA 8 tS) 2 gv2), (700003, GlE 3), (700007, GlT Tryz.prog "internal/strconv.uint64pow10" .u64 Lib.pow10Tab), (700008, GlI 8), (700009, GlI 9), (2, (Bx 11 true 33 (tapi_TrackedUnit.is zapi_TrackedUnit) br))]) (fun _ => none) Tryz.mixed rfl rfl rfl rfl rfl ⟨fun _ _ _ _ => rfl, ⟨fun _ _ _ _ => rfl, ⟨fun _ _ _ _ => rfl, ⟨fun _ _ _ _ => rfl, ⟨fun _ _ _ _ => rfl, ⟨fun _ _ _ _ => rfl, ⟨fun _ _ _ _ => rfl, ⟨fun m hm c t => by simp only [DA.at, upd_dep (r := [true]) (j := 0) rfl hm], ⟨fun m hm c t => by simp only [DA.at, upd_dep (r := [true]) (j := 0) rfl hm], ⟨fun _ _ _ _ => rfl, ⟨fun _ _ _ _ => rfl, ⟨fun _ _ _ _ => rfl, ⟨fun _ _ _ _ => rfl, trivial⟩⟩⟩⟩⟩⟩⟩⟩⟩⟩⟩⟩⟩ rfl ⟨.inr ⟨fun cv => [], (AllIn.all (fun _ _ _ => trivial) _), fun cv => Op1.move (.tmp rfl)⟩, ⟨.inr ⟨fun cv => [], (AllIn.all (fun _ _ _ => trivial) _), fun cv => Op1.nilCheckB (.tmp rfl)⟩, ⟨.inr ⟨fun cv => [], (AllIn.all (fun _ _ _ => trivial) _), fun cv => Op1.fieldAddrB (o := xs.length * tapi_TrackedUnit.size) Tryz.underlying33 rfl (fun w => ⟨0, Tryz.sizeOf31 w⟩) (.tmp rfl) rfl⟩, ⟨.inr ⟨fun cv => [(55, Lv (tTUo kl) tapi_TrackedUnit 33 k xs u), (56, Grown tapi_TrackedUnit 33 kl ys)], ⟨fun _ _ => ⟨rfl, rfl, ⟨rfl, rfl, trivial⟩⟩, fun hw => absurd hw (by decide), fun hw => absurd hw (by decide), fun hw => absurd hw (by decide), fun hw => absurd hw (by decide), fun hw => absurd hw (by decide), fun hw => absurd hw (by decide), fun hw => absurd hw (by decide), trivial⟩, fun cv => Op1.loadLvK 55 56 (tyUT kl) (fTUo kl) rfl rfl hlk (.tmp rfl)⟩, ⟨.inr ⟨fun cv => [(11, (Bx 11 true 33 ((tapi_TrackedUnit_k8 none).is v.1) bt))], ⟨fun _ _ => ⟨rfl, rfl, trivial⟩, fun hw => absurd hw (by decide), fun hw => absurd hw (by decide), fun hw => absurd hw (by decide), fun hw => absurd hw (by decide), fun hw => absurd hw (by decide), fun hw => absurd hw (by decide), fun hw => absurd hw (by decide), trivial⟩, fun cv => Op1.loadB 11 Tryz.isAgg33 Tryz.sizeOf33 rfl (.tmp rfl)⟩, ⟨.inr ⟨fun cv => [], (AllIn.all (fun _ _ _ => trivial) _), fun cv => Op1.lenL Tryz.underlying31 (Opd.own (.tmp rfl))⟩, ⟨.inr ⟨fun cv => [], (AllIn.all (fun _ _ _ => trivial) _), fun cv => Op1.buildSlice (n := 1) (ys := [(0, zapi_TrackedUnit)]) (z := zapi_TrackedUnit) (xs := [zapi_TrackedUnit]) Tryz.underlying31 el33 ze33 ⟨rfl, (fun _ _ _ => ⟨_, (rapi_TrackedUnit.into.rep _ _ _ ⟨_, _, rfl, ⟨rfl, inR64.2 ⟨by decide, by decide⟩⟩, ⟨_, _, rfl, ⟨rfl, inR64.2 ⟨by decide, by decide⟩⟩, ⟨_, _, rfl, ⟨_, _, rfl, ⟨rfl, inR64.2 ⟨by decide, by decide⟩⟩, ⟨_, _, rfl, ⟨rfl, inR64.2 ⟨by decide, by decide⟩⟩, ⟨rfl, inR64.2 ⟨by decide, by decide⟩⟩⟩⟩, ⟨_, _, rfl, ⟨rfl, by decide⟩, ⟨_, _, rfl, ⟨rfl, by decide⟩, ⟨_, _, rfl, rfl, ⟨_, _, rfl, ⟨none, 0, rfl, Nat.le_refl _, Nat.zero_le _, fun _ => rfl, rfl⟩, ⟨_, _, rfl, ⟨none, 0, rfl, Nat.le_refl _, Nat.zero_le _, fun _ => rfl, rfl⟩, ⟨none, 0, rfl, Nat.le_refl _, Nat.zero_le _, fun _ => rfl, rfl⟩⟩⟩⟩⟩⟩⟩⟩⟩), rfl⟩), trivial⟩ (by simp) (by decide) rfl⟩, ⟨.inl rfl, ⟨.inr ⟨fun cv => [], (AllIn.all (fun _ _ _ => trivial) _), fun cv => Op1.rawIdx (t := tapi_TrackedUnit) Tryz.underlying31 Tryz.sizeOf33 (.tmp rfl) (.tmp rfl)⟩, ⟨.inl rfl, ⟨.inr ⟨fun cv => [], (AllIn.all (fun _ _ _ => trivial) _), fun cv => Op1.nilCheckB (.tmp rfl)⟩, ⟨.inr ⟨fun cv => [], (AllIn.all (fun _ _ _ => trivial) _), fun cv => Op1.fieldAddrB (o := xs.length * tapi_TrackedUnit.size) Tryz.underlying33 rfl (fun w => ⟨0, Tryz.sizeOf31 w⟩) (.tmp rfl) rfl⟩, ⟨.inl rfl, trivial⟩⟩⟩⟩⟩⟩⟩⟩⟩⟩⟩⟩⟩ ⟨⟨_, _, _, rfl, rfl, rfl, rfl, ⟨fun _ _ => ⟨[56], (fun cv => [(56, Resv tapi_TrackedUnit 33 (cv 0) ys)]), (fun cv => ⟨rfl, rfl, ⟨rfl, rfl, ⟨rfl, rfl, ⟨rfl, rfl, ⟨rfl, rfl, ⟨rfl, rfl, ⟨rfl, rfl, ⟨rfl, rfl, ⟨rfl, rfl, ⟨rfl, rfl, ⟨rfl, rfl, ⟨rfl, rfl, ⟨rfl, rfl, trivial⟩⟩⟩⟩⟩⟩⟩⟩⟩⟩⟩⟩⟩), (fun _ _ => rfl), fun cv => OpR.appendGr (key := 56) hkzl Tryz.underlying31 el33 (.tmp rfl) (.tmp rfl) rfl⟩, fun h _ => absurd h (by decide), fun _ h => absurd h (by decide), fun h _ => absurd h (by decide), fun _ h => absurd h (by decide), fun h _ => absurd h (by decide), fun _ h => absurd h (by decide), fun h _ => absurd h (by decide), trivial⟩⟩, ⟨⟨_, _, _, rfl, rfl, rfl, rfl, ⟨fun _ h => absurd h (by decide), fun _ _ => ⟨[56], (fun cv => [(56, Lv (tTUo none) tapi_TrackedUnit 33 (cv 0) ys v.1)]), (fun cv => ⟨rfl, rfl, ⟨rfl, rfl, ⟨rfl, rfl, ⟨rfl, rfl, ⟨rfl, rfl, ⟨rfl, rfl, ⟨rfl, rfl, ⟨rfl, rfl, ⟨rfl, rfl, ⟨rfl, rfl, ⟨rfl, rfl, ⟨rfl, rfl, ⟨rfl, rfl, trivial⟩⟩⟩⟩⟩⟩⟩⟩⟩⟩⟩⟩⟩), (fun _ _ => rfl), fun cv => OpR.viaU (OpR.storeRv (t := tapi_TrackedUnit) (tx := tTUo none) (xs := ys) (u := v.1) (k := cv 0) (key := 56) (tyTUo none) rfl (.tmp rfl) (Opd.leT le_TUo (.tmp rfl)) rfl)⟩, fun h _ => absurd h (by decide), fun h _ => absurd h (by decide), fun _ h => absurd h (by decide), fun _ _ => ⟨[56], (fun cv => [(56, Lv (tTUo none) tapi_TrackedUnit 33 (cv 0) ys v.1)]), (fun cv => ⟨rfl, rfl, ⟨rfl, rfl, ⟨rfl, rfl, ⟨rfl, rfl, ⟨rfl, rfl, ⟨rfl, rfl, ⟨rfl, rfl, ⟨rfl, rfl, ⟨rfl, rfl, ⟨rfl, rfl, ⟨rfl, rfl, ⟨rfl, rfl, ⟨rfl, rfl, trivial⟩⟩⟩⟩⟩⟩⟩⟩⟩⟩⟩⟩⟩), (fun _ _ => rfl), fun cv => OpR.viaU (OpR.storeRv (t := tapi_TrackedUnit) (tx := tTUo none) (xs := ys) (u := v.1) (k := cv 0) (key := 56) (tyTUo none) rfl (.tmp rfl) (Opd.leT le_TUo (.tmp rfl)) rfl)⟩, fun h _ => absurd h (by decide), fun h _ => absurd h (by decide), trivial⟩⟩, ⟨⟨_, _, _, rfl, rfl, rfl, rfl, ⟨fun _ h => absurd h (by decide), fun _ _ => ⟨[55], (fun cv => [(55, Lv (tTUo (cv 0)) tapi_TrackedUnit 33 k xs (spSk u kz))]), (fun cv => ⟨rfl, rfl, ⟨rfl, rfl, ⟨rfl, rfl, ⟨rfl, rfl, ⟨rfl, rfl, ⟨rfl, rfl, ⟨rfl, rfl, ⟨rfl, rfl, ⟨rfl, rfl, ⟨rfl, rfl, ⟨rfl, rfl, ⟨rfl, rfl, ⟨rfl, rfl, trivial⟩⟩⟩⟩⟩⟩⟩⟩⟩⟩⟩⟩⟩), (fun _ _ => rfl), fun cv => OpR.viaU (OpR.storeLv (key := 55) (t := tapi_TrackedUnit) (tx := tTUo kl) (k := k) (xs := xs) (u := u) (w := kz) (tx' := tTUo (cv 0)) (t2 := tUT (cv 0)) (o := 10) (tyUT (cv 0)) (sTUo kl (cv 0)) rfl (.tmp rfl) (Opd.rawUT (n := ys.length + 1) (v := kz) (.tmp rfl) (appC_len hkz)) rfl)⟩, fun _ h => absurd h (by decide), fun _ _ => ⟨[55], (fun cv => [(55, Lv (tTUo (cv 0)) tapi_TrackedUnit 33 k xs (spSk u kz))]), (fun cv => ⟨rfl, rfl, ⟨rfl, rfl, ⟨rfl, rfl, ⟨rfl, rfl, ⟨rfl, rfl, ⟨rfl, rfl, ⟨rfl, rfl, ⟨rfl, rfl, ⟨rfl, rfl, ⟨rfl, rfl, ⟨rfl, rfl, ⟨rfl, rfl, ⟨rfl, rfl, trivial⟩⟩⟩⟩⟩⟩⟩⟩⟩⟩⟩⟩⟩), (fun _ _ => rfl), fun cv => OpR.viaU (OpR.storeLv (key := 55) (t := tapi_TrackedUnit) (tx := tTUo kl) (k := k) (xs := xs) (u := u) (w := kz) (tx' := tTUo (cv 0)) (t2 := tUT (cv 0)) (o := 10) (tyUT (cv 0)) (sTUo kl (cv 0)) rfl (.tmp rfl) (Opd.rawUT (n := ys.length + 1) (v := kz) (.tmp rfl) (appC_len hkz)) rfl)⟩, fun h _ => absurd h (by decide), fun h _ => absurd h (by decide), fun h _ => absurd h (by decide), fun h _ => absurd h (by decide), trivial⟩⟩, trivial⟩⟩⟩ (fun cv => ?_)
      refine WN.seq ?_
      generalize cv 0 = k3
      have hcut2 : (adrS ks sp).take (d + 1) = adr tapi_TrackedUnit (ks1 ++ [k]) (sp1 ++ [(xs, spSk u kz)]) := by
        rw [hadS, hks, hsp, adr_app _ _ _ _ _ hl1, adr_app _ _ _ _ _ hl1, List.take_append, adr_len _ _ _ hl1, hl3, List.take_of_length_le (by rw [adr_len _ _ _ hl1]; omega), show d + 1 - d = 1 by omega]
        rfl
      have hcl : ((adrS ks sp).take (d + 1)).length = d + 1 := by rw [List.length_take, hadl]; omega
      refine W.chg (fun a g h => St.turn (key := 6) (R' := OwnU tAd 73 kp ((adrS ks sp).take (d + 1))) rfl (fun g hR => OwnU.take _ (by rw [hadl]; omega) hR) (fun _ hb => hb) h) ?_
      have hap : appC ((adrS ks sp).take (d + 1)) [(bk k3, ys.length * tapi_TrackedUnit.size)] = some ((adrS ks sp).take (d + 1) ++ [(bk k3, ys.length * tapi_TrackedUnit.size)]) := appC_eq (by rw [hcl]; simp; omega)
      have hkzi : idx (spSk u kz).Kids ((ys.length : Nat) : Int) = some v.1 := by
        rw [idx_nat, show (spSk u kz).Kids = ys ++ [v.1] from hkze]; simp
      have hkzn : ((spSk u kz).Kids.length : Int) = (ys.length : Int) + 1 := by rw [show (spSk u kz).Kids = ys ++ [v.1] from hkze]; simp
      have hsub2 : subC ((spSk u kz).Kids.length : Int) 1 = some ((ys.length : Nat) : Int) := by rw [hkzn, subC_eq (by unfold limA at hkzl; omega) (by unfold limA at hkzl; omega), Int.add_sub_cancel]
      have hj2 : (0 : Int) ≤ v.2.1 ∧ v.2.1 ≤ (sp.length : Int) := by omega
      refine W.drawR [.c (tU kp sp.length), .c ((tI .i64).is v.2.1), .c (tU kp ((adrS ks sp).take (d + 1)).length), .c (Bp (bk k) (xs.length * tapi_TrackedUnit.size)), .c (Bp (bk k) (xs.length * tapi_TrackedUnit.size)), .c (Bp (bk k) (xs.length * tapi_TrackedUnit.size + 10)), .c (tU k3 (spSk u kz).Kids.length), .c (Bp (bk k) (xs.length * tapi_TrackedUnit.size)), .c (Bp (bk k) (xs.length * tapi_TrackedUnit.size)), .c (Bp (bk k) (xs.length * tapi_TrackedUnit.size + 10)), .c (tU k3 (spSk u kz).Kids.length), .c ((tI .i64).is ((spSk u kz).Kids.length : Int)), .c ((tI .i64).is ((ys.length : Nat) : Int)), .c (Bp (bk k3) (((ys.length : Nat) : Int).toNat * tapi_TrackedUnit.size)), .c ((tL tAd).is [(bk k3, ys.length * tapi_TrackedUnit.size)]), .f (fun kx : Tok => tU kx ((adrS ks sp).take (d + 1) ++ [(bk k3, ys.length * tapi_TrackedUnit.size)]).length), .f (fun kx : Tok => tU kx ((adrS ks sp).take (d + 1) ++ [(bk k3, ys.length * tapi_TrackedUnit.size)]).length)] [([], [6]), ([], [12]), ([0, 1], []), ([], [14]), ([3], []), ([4], []), ([5], []), ([], [14]), ([7], []), ([8], []), ([9], []), ([10], []), ([11], []), ([6, 12], []), ([13], []), ([2, 14], []), ([15], [])] 15 [6] (fun kx : Tok => tU kx ((adrS ks sp).take (d + 1) ++ [(bk k3, ys.length * tapi_TrackedUnit.size)]).length) (fun kx : Tok => [(6, OwnU tAd 73 kx ((adrS ks sp).take (d + 1) ++ [(bk k3, ys.length * tapi_TrackedUnit.size)]))]) (none : Tok) Tryz.mixed rfl rfl rfl (fun kx => ⟨.inr (Op1.move (.tmp rfl)), .inr (Op1.move (.tmp rfl)), .inr (Op1.sliceUhi Tryz.underlying68 Tryz.sizeOf73 (.tmp rfl) (.tmp rfl) hj2.1 hj2.2 (by rw [hcl]; omega)), .inr (Op1.move (.tmp rfl)), .inr (Op1.nilCheckB (.tmp rfl)), .inr (Op1.fieldAddrB (o := xs.length * tapi_TrackedUnit.size) Tryz.underlying33 rfl (fun w => ⟨0, Tryz.sizeOf31 w⟩) (.tmp rfl) rfl), .inr (Op1.ofUT (Op1.loadLvF 55 (tyUT k3) (fTUo k3) rfl (.tmp rfl))), .inr (Op1.move (.tmp rfl)), .inr (Op1.nilCheckB (.tmp rfl)), .inr (Op1.fieldAddrB (o := xs.length * tapi_TrackedUnit.size) Tryz.underlying33 rfl (fun w => ⟨0, Tryz.sizeOf31 w⟩) (.tmp rfl) rfl), .inr (Op1.ofUT (Op1.loadLvF 55 (tyUT k3) (fTUo k3) rfl (.tmp rfl))), .inr (Op1.lenU Tryz.underlying31 (.tmp rfl)), .inr (Op1.subC hsub2 (.tmp rfl) (.int (inR64.2 (by omega)))), .inr (Op1.idxU (t := tapi_TrackedUnit) hkzi Tryz.underlying31 Tryz.sizeOf33 (.tmp rfl) (.tmp rfl)), .inr (Op1.weak (Op1.buildSlice (n := 1) (t := tAdO) (ys := [(0, some (bk k3, ys.length * tapi_TrackedUnit.size))]) (z := none) (xs := [some (bk k3, ys.length * tapi_TrackedUnit.size)]) Tryz.underlying68 elTAdO zeTAdO ⟨rfl, Opd.toAd (.tmp rfl), trivial⟩ (by simp) (by decide) rfl) (fun _ _ => tL_map (xs := [(bk k3, ys.length * tapi_TrackedUnit.size)]))), .inl rfl, .inr (Op1.assign (.tmp rfl)), trivial⟩) (.inl ⟨by decide, _, _, rfl, rfl, rfl, rfl, OpR.appendL (key := 6) hap (by simp) Tryz.underlying68 elTAd (.tmp rfl) (.tmp rfl) rfl⟩) (fun kx => ?_)
      refine WN.block ?_
      refine WN.seq ?_
      have hok3 : SpOk b0 (ks1 ++ [k, k3]) (sp1 ++ [(xs, spSk u kz), (ys, v.1)]) := by
        have hok4 := hok
        rw [hks, hsp] at hok4
        exact hok4.push hl1 (by rw [show (spSk u kz).Kids = ys ++ [v.1] from hkze]; simp) hvk
      refine W.chg (St.spJoin hok3 5 55 56 (by decide) hl1 rfl rfl rfl) ?_
      have hnn : M.sp_n (sp1 ++ [(xs, spSk u kz), (ys, v.1)]) = sp1 ++ [(xs, spSk u kz), (ys, v.1)] := by cases sp1 <;> rfl
      refine W.chg (fun a g h => St.turn (key := 5) (R' := SpM b0 (ks1 ++ [k, k3]) (sp1 ++ [(xs, spSk u kz), (ys, v.1)])) rfl (fun g hB => by unfold SpM; rw [hnn]; exact hB) (fun b hb => by unfold SpM at hb; rw [hnn] at hb; exact hb) h) ?_
      have hnew : adrS (ks1 ++ [k, k3]) (sp1 ++ [(xs, spSk u kz), (ys, v.1)]) = ((adrS ks sp).take (d + 1) ++ [(bk k3, ys.length * tapi_TrackedUnit.size)]) := by
        have e1 : adrS (ks1 ++ [k, k3]) (sp1 ++ [(xs, spSk u kz), (ys, v.1)]) = adr tapi_TrackedUnit (ks1 ++ [k, k3]) (sp1 ++ [(xs, spSk u kz), (ys, v.1)]) := by cases sp1 <;> rfl
        rw [e1, hcut2, adr_app _ _ _ _ _ hl1, adr_app _ _ _ _ _ hl1, List.append_assoc]
        rfl
      have hnl : ((adrS ks sp).take (d + 1) ++ [(bk k3, ys.length * tapi_TrackedUnit.size)]).length = (sp1 ++ [(xs, spSk u kz), (ys, v.1)]).length := by rw [← hnew]; exact adrS_len hok3
      refine W.chg (fun a g h => St.turn (key := 6) (R := OwnU tAd 73 kx ((adrS ks sp).take (d + 1) ++ [(bk k3, ys.length * tapi_TrackedUnit.size)])) (R' := OwnU tAd 73 kx (adrS (ks1 ++ [k, k3]) (sp1 ++ [(xs, spSk u kz), (ys, v.1)]))) rfl (fun g hB => by rw [hnew]; exact hB) (fun b hb => hb) h) ?_
      refine W.chg (fun a g h => h.slotA (s := 6) (A' := tU kx (sp1 ++ [(xs, spSk u kz), (ys, v.1)]).length) rfl (fun _ _ hv => by rw [← hnl]; exact hv)) ?_
      refine W.region ?_
      refine WL.op rfl (Op1.move (.tmp rfl)) ?_
      refine WL.op rfl (Op1.addC hi2 (.tmp rfl) (.int (inR64.2 (by omega)))) ?_
      refine WL.op rfl (Op1.assign (.tmp rfl)) ?_
      refine WL.nil ?_
      have hi3 : i2 = ((i + 1 : Nat) : Int) := by
        unfold addC at hi2
        split at hi2
        · have := Option.some.inj hi2; omega
        · cases hi2
      subst hi3
      exact WN.again m (c.2.1, sp1 ++ [(xs, spSk u kz), (ys, v.1)], i + 1, kx, ks1 ++ [k, k3]) (Nat.lt_succ_self m) hm ⟨Ent.q rfl, Ent.q rfl, Ent.q rfl, Ent.q rfl, Ent.q rfl, trivial⟩ ⟨rfl, rfl, ⟨rfl, rfl, ⟨rfl, rfl, ⟨rfl, rfl, ⟨rfl, rfl, ⟨rfl, rfl, ⟨rfl, rfl, ⟨rfl, rfl, ⟨rfl, rfl, ⟨rfl, rfl, trivial⟩⟩⟩⟩⟩⟩⟩⟩⟩⟩
    · rcases bcases c.2.2 with hc2 | hc2
      · refine W.seq ?_
        refine W.region ?_
        refine WL.op rfl (Op1.move (.tmp rfl)) ?_
        refine WL.op rfl (Op1.notB (.tmp rfl)) ?_
        refine WL.op rfl (Op1.move (.tmp rfl)) ?_
        refine WL.run rfl rfl rfl rfl (by rw [hc2]; rfl) rfl rfl (Op1.move (.tmp rfl)) ?_
        refine WL.run rfl rfl rfl rfl (by rw [hc2]; rfl) rfl rfl (Op1.notB (.tmp rfl)) ?_
        refine WL.op rfl (Op1.pickF (.tmp rfl) (by rw [hc2]; rfl) (.tmp rfl)) ?_
        refine WL.nil ?_
        refine WN.seq ?_
        refine W.cond (.tmp rfl) (fun hc3 => ?_) (fun hc3 => ?_)
        · rw [if_pos (.inr (not_pos hc3))] at hm
          refine W.seq ?_
          refine W.region ?_
          refine WL.op rfl (Op1.build (s := tapi_TrackedUnit) (x := zapi_TrackedUnit) zapi_TrackedUnit_f rfl Tryz.underlying33 (zapi_TrackedUnit_sz _ Tryz.underlying33) ze33 rfl) ?_
          refine WL.op rfl (Op1.move (.tmp rfl)) ?_
          refine WL.opU (OpR.storeB (b := br) 2 Tryz.sizeOf33 (Cellable.is tapi_TrackedUnit zapi_TrackedUnit) rfl (.tmp rfl) (.tmp rfl)) (fun _ => ?_)
          refine WL.op rfl (Op1.assign (.tmp rfl)) ?_
          refine WL.op rfl (Op1.assign (.int (inR64.2 (by omega)))) ?_
          refine WL.nil ?_
          refine WN.seq ?_
          cases hm
          cases hk
          exact W.retQ3 () rfl rfl (ResAt.cell 2 Tryz.isAgg33 Tryz.sizeOf33 rfl (.tmp rfl)) (ResAt.tmp (.tmp rfl)) (ResAt.tmp (.tmp rfl)) trivial
        refine W.skip ?_
        exact WN.meet () ⟨hc2, by cases hv : v.2.2 with | true => rfl | false => rw [hv] at hc3; cases hc3⟩ ⟨Ent.q rfl, Ent.q rfl, Ent.q rfl, Ent.q rfl, Ent.q rfl, Ent.q rfl, Ent.q rfl, trivial⟩ ⟨rfl, rfl, ⟨rfl, rfl, ⟨rfl, rfl, ⟨rfl, rfl, ⟨rfl, rfl, ⟨rfl, rfl, ⟨rfl, rfl, ⟨rfl, rfl, ⟨rfl, rfl, ⟨rfl, rfl, ⟨rfl, rfl, trivial⟩⟩⟩⟩⟩⟩⟩⟩⟩⟩⟩
      · rw [if_pos (.inl hc2)] at hm
        refine W.seq ?_
        refine W.region ?_
        refine WL.op rfl (Op1.move (.tmp rfl)) ?_
        refine WL.op rfl (Op1.notB (.tmp rfl)) ?_
        refine WL.op rfl (Op1.move (.tmp rfl)) ?_
        refine WL.pass rfl rfl rfl rfl (by rw [hc2]) rfl rfl ?_
        refine WL.pass rfl rfl rfl rfl (by rw [hc2]) rfl rfl ?_
        refine WL.op rfl (Op1.pickT (.tmp rfl) (by rw [hc2]; rfl) .bool) ?_
        refine WL.nil ?_
        refine WN.seq ?_
        refine W.condT (.tmp rfl) ?_
        refine W.seq ?_
        refine W.region ?_
        refine WL.op rfl (Op1.build (s := tapi_TrackedUnit) (x := zapi_TrackedUnit) zapi_TrackedUnit_f rfl Tryz.underlying33 (zapi_TrackedUnit_sz _ Tryz.underlying33) ze33 rfl) ?_
        refine WL.op rfl (Op1.move (.tmp rfl)) ?_
        refine WL.opU (OpR.storeB (b := br) 2 Tryz.sizeOf33 (Cellable.is tapi_TrackedUnit zapi_TrackedUnit) rfl (.tmp rfl) (.tmp rfl)) (fun _ => ?_)
        refine WL.op rfl (Op1.assign (.tmp rfl)) ?_
        refine WL.op rfl (Op1.assign (.int (inR64.2 (by omega)))) ?_
        refine WL.nil ?_
        refine WN.seq ?_
        cases hm
        cases hk
        exact W.retQ3 () rfl rfl (ResAt.cell 2 Tryz.isAgg33 Tryz.sizeOf33 rfl (.tmp rfl)) (ResAt.tmp (.tmp rfl)) (ResAt.tmp (.tmp rfl)) trivial
  · rcases bcases (s != ([] : Str)) with hs | hs
    · refine W.seq ?_
      refine W.region ?_
      refine WL.op rfl (Op1.move (.tmp rfl)) ?_
      refine WL.op rfl (Op1.neS (.tmp rfl) (.str rfl (by decide))) ?_
      refine WL.op rfl (Op1.move (.tmp rfl)) ?_
      refine WL.pass rfl rfl rfl rfl hs rfl rfl ?_
      refine WL.pass rfl rfl rfl rfl hs rfl rfl ?_
      refine WL.op rfl (Op1.pickT (.tmp rfl) hs .bool) ?_
      refine WL.nil ?_
      refine WN.seq ?_
      refine W.condT (.tmp rfl) ?_
      refine W.skip ?_
      exact WN.meet () (.inl (by simpa using hs)) ⟨Ent.q rfl, Ent.q rfl, Ent.q rfl, Ent.q rfl, Ent.q rfl, trivial⟩ ⟨rfl, rfl, ⟨rfl, rfl, ⟨rfl, rfl, ⟨rfl, rfl, ⟨rfl, rfl, ⟨rfl, rfl, ⟨rfl, rfl, ⟨rfl, rfl, ⟨rfl, rfl, ⟨rfl, rfl, trivial⟩⟩⟩⟩⟩⟩⟩⟩⟩⟩
    refine W.seq ?_
    refine W.region ?_
    refine WL.op rfl (Op1.move (.tmp rfl)) ?_
    refine WL.op rfl (Op1.neS (.tmp rfl) (.str rfl (by decide))) ?_
    refine WL.op rfl (Op1.move (.tmp rfl)) ?_
    refine WL.run rfl rfl rfl rfl hs rfl rfl (Op1.move (.tmp rfl)) ?_
    refine WL.run rfl rfl rfl rfl hs rfl rfl (Op1.eqI (.tmp rfl) (.int (inR64.2 (by omega)))) ?_
    refine WL.op rfl (Op1.pickF (.tmp rfl) hs (.tmp rfl)) ?_
    refine WL.nil ?_
    refine WN.seq ?_
    refine W.cond (.tmp rfl) (fun hc => ?_) (fun hc => ?_)
    · refine W.skip ?_
      exact WN.meet () (.inr (by have := of_decide_eq_true hc; omega)) ⟨Ent.q rfl, Ent.q rfl, Ent.q rfl, Ent.q rfl, Ent.q rfl, trivial⟩ ⟨rfl, rfl, ⟨rfl, rfl, ⟨rfl, rfl, ⟨rfl, rfl, ⟨rfl, rfl, ⟨rfl, rfl, ⟨rfl, rfl, ⟨rfl, rfl, ⟨rfl, rfl, ⟨rfl, rfl, trivial⟩⟩⟩⟩⟩⟩⟩⟩⟩⟩
    rw [if_neg (by rintro (h | h); exact h (by simpa using hs); exact of_decide_eq_false hc (by omega))] at hm
    cases hm
    cases hk
    refine W.exit rfl ?_
    refine WN.seq ?_
    obtain ⟨hk1, hk2, ks', ux, rx, hks, hsx⟩ := hok
    rw [hsx] at hk1 hk2
    subst hks
    refine W.chg (fun a g h => St.turn (key := 5) (R' := Many (Fact (SpOk b0 (some (b0, 1) :: ks') sp) :: spRR none ([] ++ some (b0, 1) :: ks') ([] ++ ([], ux) :: rx))) rfl (fun g hB => by unfold SpM at hB; rw [hsx] at hB; exact hB) (fun b hb => by unfold SpM; rw [hsx]; exact hb) h) ?_
    have hlk : ux.Kids.length = (spV spSk rx).length := (Chn.cons (sk := spSk) hk2).2
    refine W.ghost (fun a g h => St.spCut TUo_spk 5 55 56 rfl (by simpa using hk1) hk2 rfl a g h) ?_
    refine W.ghost (fun a g h => St.lvSeal TUo_spk 55 56 hlk rfl rfl a g h) ?_
    have hroot : M.sp_root sp = spSk ux (spV spSk rx) := by unfold M.sp_root; rw [hsx, sp_v_eq]
    refine W.seq ?_
    refine W.region ?_
    refine WL.op rfl (Op1.loadGr (xs := [] ++ [spSk ux (spV spSk rx)]) (i := 0) 55 ty33 rfl rfl (.tmp rfl)) ?_
    refine WL.op rfl (Op1.move (.tmp rfl)) ?_
    refine WL.opU (OpR.storeB (b := br) 2 Tryz.sizeOf33 (Cellable.is tapi_TrackedUnit (spSk ux (spV spSk rx))) rfl (.tmp rfl) (.tmp rfl)) (fun _ => ?_)
    refine WL.op rfl (Op1.assign (.tmp rfl)) ?_
    refine WL.op rfl (Op1.assign (.int (inR64.2 (by omega)))) ?_
    refine WL.nil ?_
    refine WN.seq ?_
    rw [hroot]
    exact W.retQ3 () rfl rfl (ResAt.cell 2 Tryz.isAgg33 Tryz.sizeOf33 rfl (.tmp rfl)) (ResAt.tmp (.tmp rfl)) (ResAt.tmp (.tmp rfl)) trivial
theorem r53_Rows_spec (n : Nat) (a : List api_TrackedWord) (b : List api_TrackedWord) (r : Bool) (hm : M.r53_Rows n a b = some r) : FSpec Tryz.prog 38 [((tL tapi_TrackedWord).is a), ((tL tapi_TrackedWord).is b)] (tB.is r) := by
 unfold M.r53_Rows at hm
 refine FSpec.of Tryz.func38 rfl rfl rfl fun g0 => Aw <| Ao rfl (.assign .bool) <| An <| W.seq <| Aw <| Am rfl rfl <| Ao rfl (.lenL U30 (.t rfl)) <| Am rfl rfl <| Ao rfl (.lenL U30 (.t rfl)) <| Ao rfl (.neI (.t rfl) (.t rfl)) <| An <| W.cD hm (.t rfl) (fun hp2 hm => ?_) (fun hp2 hm => ?_)
 ·refine Aw <| Ao rfl (.assign .bool) <| WL.ns ?_
  cases hm
  exact W.ret1 () rfl (.t rfl) trivial
 ·refine W.skip <| Aq <| W.seq <| Aw <| Ao rfl (.assign .i64) <| An <| W.block ?_
  obtain ⟨s3, hs4, hk5⟩ := Bs hm
  clear hm
  refine W.loop (fun m (s : Int) => M.r53_Rows_loop1 a b m s = some s3) (fun s => [(5, (I6.is s)), (0, ((tL tapi_TrackedWord).is a)), (1, ((tL tapi_TrackedWord).is b))]) (fun s => []) _ (0 : Int) hs4 ⟨.q rfl, .q rfl, .q rfl, trivial⟩ trivial ?_
  rintro n6 i hm
  try dsimp only at hm
  change W _ _ _ _ _ _ _ [(5, (I6.is i)), (0, ((tL tapi_TrackedWord).is a)), (1, ((tL tapi_TrackedWord).is b))] []
  cases n6 with
  | zero => rw [M.r53_Rows_loop1.eq_1] at hm; cases hm
  | succ n6 =>
   rw [M.r53_Rows_loop1.eq_2] at hm
   refine W.seq <| Aw <| Am rfl rfl <| Am rfl rfl <| Ao rfl (.lenL U30 (.t rfl)) <| Ao rfl (.ltI (.t rfl) (.t rfl)) <| An <| W.cD hm (.t rfl) (fun hp8 hm => ?_) (fun hp8 hm => ?_)
   ·refine W.skip <| Aq <| W.seq <| W.block <| W.seq ?_
    obtain ⟨v, hv9, hm⟩ := Bs hm
    obtain ⟨v1, hv10, hm⟩ := Bs hm
    refine W.draw [.c _, .c _, .c _, .c _, .c _, .c _, .c _, .c _, .c _] [([], [0]), ([], [5]), ([0, 1], []), ([2], []), ([], [1]), ([], [5]), ([4, 5], []), ([6], []), ([3, 7], [])] Mx rfl rfl rfl rfl ⟨Dn (.move (.t rfl)), Dn (.move (.t rfl)), Dn (.idx hv9 U30 Z53 (.t rfl) (.t rfl)), Dn (.load ty53 (.t rfl)), Dn (.move (.t rfl)), Dn (.move (.t rfl)), Dn (.idx hv10 U30 Z53 (.t rfl) (.t rfl)), Dn (.load ty53 (.t rfl)), Dn (.neSt (D := 2) rfl (by decide) eg53 eq53 (.t rfl) (.t rfl)), trivial⟩ <| Aq <| W.cD hm (.t rfl) (fun hp12 hm => ?_) (fun hp12 hm => ?_)
    ·refine Aw <| Ao rfl (.assign .bool) <| WL.ns ?_
     have hr13 := Si hm
     clear hm
     subst hr13
     have hm := hk5
     try dsimp only at hm
     cases hm
     exact W.ret1 () rfl (.t rfl) trivial
    ·exact W.skip <| WN.block <| Aq <| W.region <| Am rfl rfl <| WL.lenL (s := 0) (.t rfl) fun hl14 => Ao rfl (.addI1 (.t rfl) .i64 hp8 hl14) <| Ag rfl rfl <| WL.nil <| WN.again n6 (i + 1) (Nat.lt_succ_self n6) hm ⟨.q rfl, .q rfl, .q rfl, trivial⟩ trivial
   ·refine W.exit rfl ?_
    have hr15 := Si hm
    clear hm
    subst hr15
    have hm := hk5
    try dsimp only at hm
    refine Aq <| Aw <| Ao rfl (.assign .bool) <| WL.ns ?_
    cases hm
    exact W.ret1 () rfl (.t rfl) trivial
theorem r53_Same_spec : ∀ (n : Nat) (a : api_TrackedUnit) (b : api_TrackedUnit) (r : Bool), M.r53_Same n a b = some r → FSpec Tryz.prog 19 [(tapi_TrackedUnit.is a), (tapi_TrackedUnit.is b)] (tB.is r) := by
 intro n
 induction n with
 | zero => intro a b r hm; cases hm
 | succ n ih =>
  intro a b r hm
  rw [M.r53_Same.eq_2] at hm
  refine FSpec.of Tryz.func19 rfl rfl rfl fun g0 => Aw <| Ao rfl (.box (.t rfl)) <| Ao rfl (.box (.t rfl)) <| Ao rfl (.assign .bool) <| An <| W.seq ?_
  obtain ⟨s1, hs2, hk3⟩ := Bs hm
  clear hm
  refine W.join (fun s : Bool => s = s1) (fun s => [(70, (tB.is s)), (2, (tapi_TrackedUnit.ptr a)), (3, (tapi_TrackedUnit.ptr b))]) (fun s => []) ?_ ?_
  ·rintro v hj38
   try dsimp only at hj38
   subst hj38
   have hm := hk3
   clear hk3
   try dsimp only at hm
   change W _ _ _ _ _ _ _ [(70, (tB.is v)), (2, (tapi_TrackedUnit.ptr a)), (3, (tapi_TrackedUnit.ptr b))] []
   refine W.cB hm (.t rfl) (fun hp23 hm => ?_) (fun hp23 hm => ?_)
   ·refine Aw <| Ao rfl (.assign .bool) <| WL.ns ?_
    cases hm
    exact W.ret1 () rfl (.t rfl) trivial
   ·refine W.skip <| Aq <| W.seq <| Aw <| Ao rfl (.assign .i64) <| An <| W.block ?_
    obtain ⟨s24, hs25, hk26⟩ := Bs hm
    clear hm
    refine W.loop (fun m (s : Int) => M.r53_Same_loop1 a b (M.r53_Same n) m s = some s24) (fun s => [(5, (I6.is s)), (2, (tapi_TrackedUnit.ptr a)), (3, (tapi_TrackedUnit.ptr b))]) (fun s => []) _ (0 : Int) hs25 ⟨.q rfl, .q rfl, .q rfl, trivial⟩ trivial ?_
    rintro n27 i hm
    try dsimp only at hm
    change W _ _ _ _ _ _ _ [(5, (I6.is i)), (2, (tapi_TrackedUnit.ptr a)), (3, (tapi_TrackedUnit.ptr b))] []
    cases n27 with
    | zero => rw [M.r53_Same_loop1.eq_1] at hm; cases hm
    | succ n27 =>
     rw [M.r53_Same_loop1.eq_2] at hm
     refine W.seq <| Aw <| Am rfl rfl <| Ao rfl (.fieldAddr U33 rfl J31 fapi_TrackedUnit_8 (.t rfl)) <| Ao rfl (.load ty31 (.t rfl)) <| Ao rfl (.lenL U31 (.t rfl)) <| Ao rfl (.ltI (.t rfl) (.t rfl)) <| An <| W.cD hm (.t rfl) (fun hp29 hm => ?_) (fun hp29 hm => ?_)
     ·refine W.skip <| Aq <| W.seq <| W.block <| W.seq ?_
      obtain ⟨v1, hv30, hm⟩ := Bs hm
      obtain ⟨v2, hv31, hm⟩ := Bs hm
      obtain ⟨same, hv32, hm⟩ := Bs hm
      refine W.draw [.c _, .c _, .c _, .c _, .c _, .c _, .c _, .c _, .c _, .c _, .c _, .c _] [([], [2]), ([0], []), ([], [5]), ([1, 2], []), ([3], []), ([], [3]), ([5], []), ([], [5]), ([6, 7], []), ([8], []), ([4, 9], []), ([10], [])] Mx rfl rfl rfl rfl ⟨Dn (.fieldAddr U33 rfl J31 fapi_TrackedUnit_8 (.t rfl)), Dn (.load ty31 (.t rfl)), Dn (.move (.t rfl)), Dn (.idx hv30 U31 Z33 (.t rfl) (.t rfl)), Dn (.load ty33 (.t rfl)), Dn (.fieldAddr U33 rfl J31 fapi_TrackedUnit_8 (.t rfl)), Dn (.load ty31 (.t rfl)), Dn (.move (.t rfl)), Dn (.idx hv31 U31 Z33 (.t rfl) (.t rfl)), Dn (.load ty33 (.t rfl)), Dn (.call C19 (ih _ _ _ hv32) ⟨(.t rfl), (.t rfl), trivial⟩), Dn (.notB (.t rfl)), trivial⟩ <| Aq <| W.cR hm (.t rfl) (fun hp34 hm => ?_) (fun hp34 hm => ?_)
      ·refine Aw <| Ao rfl (.assign .bool) <| WL.ns ?_
       have hr35 := Si hm
       clear hm
       subst hr35
       have hm := hk26
       try dsimp only at hm
       cases hm
       exact W.ret1 () rfl (.t rfl) trivial
      ·exact W.skip <| WN.block <| Aq <| W.region <| Am rfl rfl <| WL.lenL (s := 73) (.t rfl) fun hl36 => Ao rfl (.addI1 (.t rfl) .i64 hp29 hl36) <| Ag rfl rfl <| WL.nil <| WN.again n27 (i + 1) (Nat.lt_succ_self n27) hm ⟨.q rfl, .q rfl, .q rfl, trivial⟩ trivial
     ·refine W.exit rfl ?_
      have hr37 := Si hm
      clear hm
      subst hr37
      have hm := hk26
      try dsimp only at hm
      refine Aq <| Aw <| Ao rfl (.assign .bool) <| WL.ns ?_
      cases hm
      exact W.ret1 () rfl (.t rfl) trivial
  ·have hm := hs2
   clear hs2
   refine W.region <| Ao rfl (.fieldAddr U33 rfl J3 fapi_TrackedUnit_0 (.t rfl)) <| Ao rfl (.load ty3 (.t rfl)) <| Ao rfl (.fieldAddr U33 rfl J3 fapi_TrackedUnit_0 (.t rfl)) <| Ao rfl (.load ty3 (.t rfl)) <| Ao rfl (.neI (.t rfl) (.t rfl)) <| WL.mv rfl rfl ?_
   rcases iteD hm with ⟨hp5, hb4, hm⟩ | ⟨hp5, hb4, hm⟩
   ·refine Ap rfl hb4 <| Ap rfl hb4 <| Ap rfl hb4 <| Ap rfl hb4 <| Ap rfl hb4 <| Ao rfl (.pickT (.t rfl) hb4 .bool) <| Am rfl rfl <| Ap rfl rfl <| Ap rfl rfl <| Ap rfl rfl <| Ap rfl rfl <| Ap rfl rfl <| Ao rfl (.pickT (.t rfl) rfl .bool) <| Am rfl rfl <| Ap rfl rfl <| Ap rfl rfl ?_
    refine Ap rfl rfl <| Ap rfl rfl <| Ap rfl rfl <| Ao rfl (.pickT (.t rfl) rfl .bool) <| Am rfl rfl <| Ap rfl rfl <| Ap rfl rfl <| Ap rfl rfl <| Ap rfl rfl <| Ap rfl rfl <| Ao rfl (.pickT (.t rfl) rfl .bool) <| Am rfl rfl <| Ap rfl rfl <| Ap rfl rfl <| Ap rfl rfl <| Ap rfl rfl ?_
    refine Ap rfl rfl <| Ao rfl (.pickT (.t rfl) rfl .bool) <| Am rfl rfl <| Ap rfl rfl <| Ap rfl rfl <| Ap rfl rfl <| Ap rfl rfl <| Ap rfl rfl <| Ap rfl rfl <| Ao rfl (.pickT (.t rfl) rfl .bool) <| Am rfl rfl <| Ap rfl rfl <| Ap rfl rfl <| Ap rfl rfl <| Ap rfl rfl <| Ap rfl rfl ?_
    exact Ap rfl rfl <| Ao rfl (.pickT (.t rfl) rfl .bool) <| Am rfl rfl <| Ap rfl rfl <| Ap rfl rfl <| Ap rfl rfl <| Ap rfl rfl <| Ap rfl rfl <| Ap rfl rfl <| Ap rfl rfl <| Ao rfl (.pickT (.t rfl) rfl .bool) <| WL.nil <| WN.meet true (Si hm) ⟨.q rfl, .q rfl, .q rfl, trivial⟩ trivial
   ·refine Ax rfl hb4 (.fieldAddr U33 rfl J3 fapi_TrackedUnit_1 (.t rfl)) <| Ax rfl hb4 (.load ty3 (.t rfl)) <| Ax rfl hb4 (.fieldAddr U33 rfl J3 fapi_TrackedUnit_1 (.t rfl)) <| Ax rfl hb4 (.load ty3 (.t rfl)) <| Ax rfl hb4 (.neI (.t rfl) (.t rfl)) <| Ao rfl (.pickF (.t rfl) hb4 (.t rfl)) <| WL.mv rfl rfl ?_
    rcases iteD hm with ⟨hp7, hb6, hm⟩ | ⟨hp7, hb6, hm⟩
    ·refine Ap rfl hb6 <| Ap rfl hb6 <| Ap rfl hb6 <| Ap rfl hb6 <| Ap rfl hb6 <| Ao rfl (.pickT (.t rfl) hb6 .bool) <| Am rfl rfl <| Ap rfl rfl <| Ap rfl rfl <| Ap rfl rfl <| Ap rfl rfl <| Ap rfl rfl <| Ao rfl (.pickT (.t rfl) rfl .bool) <| Am rfl rfl <| Ap rfl rfl <| Ap rfl rfl ?_
     refine Ap rfl rfl <| Ap rfl rfl <| Ap rfl rfl <| Ao rfl (.pickT (.t rfl) rfl .bool) <| Am rfl rfl <| Ap rfl rfl <| Ap rfl rfl <| Ap rfl rfl <| Ap rfl rfl <| Ap rfl rfl <| Ao rfl (.pickT (.t rfl) rfl .bool) <| Am rfl rfl <| Ap rfl rfl <| Ap rfl rfl <| Ap rfl rfl <| Ap rfl rfl ?_
     refine Ap rfl rfl <| Ap rfl rfl <| Ao rfl (.pickT (.t rfl) rfl .bool) <| Am rfl rfl <| Ap rfl rfl <| Ap rfl rfl <| Ap rfl rfl <| Ap rfl rfl <| Ap rfl rfl <| Ap rfl rfl <| Ao rfl (.pickT (.t rfl) rfl .bool) <| Am rfl rfl <| Ap rfl rfl <| Ap rfl rfl <| Ap rfl rfl <| Ap rfl rfl ?_
     exact Ap rfl rfl <| Ap rfl rfl <| Ap rfl rfl <| Ao rfl (.pickT (.t rfl) rfl .bool) <| WL.nil <| WN.meet true (Si hm) ⟨.q rfl, .q rfl, .q rfl, trivial⟩ trivial
    ·refine Ax rfl hb6 (.fieldAddr U33 rfl J23 fapi_TrackedUnit_2 (.t rfl)) <| Ax rfl hb6 (.load ty23 (.t rfl)) <| Ax rfl hb6 (.fieldAddr U33 rfl J23 fapi_TrackedUnit_2 (.t rfl)) <| Ax rfl hb6 (.load ty23 (.t rfl)) <| Ax rfl hb6 (.neSt (D := 2) rfl (by decide) eg23 eq23 (.t rfl) (.t rfl)) <| Ao rfl (.pickF (.t rfl) hb6 (.t rfl)) <| WL.mv rfl rfl ?_
     rcases iteD hm with ⟨hp9, hb8, hm⟩ | ⟨hp9, hb8, hm⟩
     ·refine Ap rfl hb8 <| Ap rfl hb8 <| Ap rfl hb8 <| Ap rfl hb8 <| Ap rfl hb8 <| Ao rfl (.pickT (.t rfl) hb8 .bool) <| Am rfl rfl <| Ap rfl rfl <| Ap rfl rfl <| Ap rfl rfl <| Ap rfl rfl <| Ap rfl rfl <| Ao rfl (.pickT (.t rfl) rfl .bool) <| Am rfl rfl <| Ap rfl rfl <| Ap rfl rfl ?_
      refine Ap rfl rfl <| Ap rfl rfl <| Ap rfl rfl <| Ao rfl (.pickT (.t rfl) rfl .bool) <| Am rfl rfl <| Ap rfl rfl <| Ap rfl rfl <| Ap rfl rfl <| Ap rfl rfl <| Ap rfl rfl <| Ap rfl rfl <| Ao rfl (.pickT (.t rfl) rfl .bool) <| Am rfl rfl <| Ap rfl rfl <| Ap rfl rfl <| Ap rfl rfl ?_
      exact Ap rfl rfl <| Ap rfl rfl <| Ap rfl rfl <| Ao rfl (.pickT (.t rfl) rfl .bool) <| Am rfl rfl <| Ap rfl rfl <| Ap rfl rfl <| Ap rfl rfl <| Ap rfl rfl <| Ap rfl rfl <| Ap rfl rfl <| Ap rfl rfl <| Ao rfl (.pickT (.t rfl) rfl .bool) <| WL.nil <| WN.meet true (Si hm) ⟨.q rfl, .q rfl, .q rfl, trivial⟩ trivial
     ·refine Ax rfl hb8 (.fieldAddr U33 rfl J9 fapi_TrackedUnit_3 (.t rfl)) <| Ax rfl hb8 (.load ty9 (.t rfl)) <| Ax rfl hb8 (.fieldAddr U33 rfl J9 fapi_TrackedUnit_3 (.t rfl)) <| Ax rfl hb8 (.load ty9 (.t rfl)) <| Ax rfl hb8 (.neS (.t rfl) (.t rfl)) <| Ao rfl (.pickF (.t rfl) hb8 (.t rfl)) <| WL.mv rfl rfl ?_
      rcases iteB hm with ⟨hp11, hb10, hm⟩ | ⟨hp11, hb10, hm⟩
      ·refine Ap rfl hb10 <| Ap rfl hb10 <| Ap rfl hb10 <| Ap rfl hb10 <| Ap rfl hb10 <| Ao rfl (.pickT (.t rfl) hb10 .bool) <| Am rfl rfl <| Ap rfl rfl <| Ap rfl rfl <| Ap rfl rfl <| Ap rfl rfl <| Ap rfl rfl <| Ao rfl (.pickT (.t rfl) rfl .bool) <| Am rfl rfl <| Ap rfl rfl <| Ap rfl rfl ?_
       refine Ap rfl rfl <| Ap rfl rfl <| Ap rfl rfl <| Ap rfl rfl <| Ao rfl (.pickT (.t rfl) rfl .bool) <| Am rfl rfl <| Ap rfl rfl <| Ap rfl rfl <| Ap rfl rfl <| Ap rfl rfl <| Ap rfl rfl <| Ap rfl rfl <| Ao rfl (.pickT (.t rfl) rfl .bool) <| Am rfl rfl <| Ap rfl rfl <| Ap rfl rfl ?_
       exact Ap rfl rfl <| Ap rfl rfl <| Ap rfl rfl <| Ap rfl rfl <| Ap rfl rfl <| Ao rfl (.pickT (.t rfl) rfl .bool) <| WL.nil <| WN.meet true (Si hm) ⟨.q rfl, .q rfl, .q rfl, trivial⟩ trivial
      ·refine Ax rfl hb10 (.fieldAddr U33 rfl J9 fapi_TrackedUnit_4 (.t rfl)) <| Ax rfl hb10 (.load ty9 (.t rfl)) <| Ax rfl hb10 (.fieldAddr U33 rfl J9 fapi_TrackedUnit_4 (.t rfl)) <| Ax rfl hb10 (.load ty9 (.t rfl)) <| Ax rfl hb10 (.neS (.t rfl) (.t rfl)) <| Ao rfl (.pickF (.t rfl) hb10 (.t rfl)) <| WL.mv rfl rfl ?_
       rcases iteB hm with ⟨hp13, hb12, hm⟩ | ⟨hp13, hb12, hm⟩
       ·refine Ap rfl hb12 <| Ap rfl hb12 <| Ap rfl hb12 <| Ap rfl hb12 <| Ap rfl hb12 <| Ao rfl (.pickT (.t rfl) hb12 .bool) <| Am rfl rfl <| Ap rfl rfl <| Ap rfl rfl <| Ap rfl rfl <| Ap rfl rfl <| Ap rfl rfl <| Ap rfl rfl <| Ao rfl (.pickT (.t rfl) rfl .bool) <| Am rfl rfl <| Ap rfl rfl ?_
        refine Ap rfl rfl <| Ap rfl rfl <| Ap rfl rfl <| Ap rfl rfl <| Ap rfl rfl <| Ao rfl (.pickT (.t rfl) rfl .bool) <| Am rfl rfl <| Ap rfl rfl <| Ap rfl rfl <| Ap rfl rfl <| Ap rfl rfl <| Ap rfl rfl <| Ap rfl rfl <| Ap rfl rfl <| Ao rfl (.pickT (.t rfl) rfl .bool) <| WL.nil ?_
        exact WN.meet true (Si hm) ⟨.q rfl, .q rfl, .q rfl, trivial⟩ trivial
       ·refine Ax rfl hb12 (.fieldAddr U33 rfl J4 fapi_TrackedUnit_5 (.t rfl)) <| Ax rfl hb12 (.load ty4 (.t rfl)) <| Ax rfl hb12 (.fieldAddr U33 rfl J4 fapi_TrackedUnit_5 (.t rfl)) <| Ax rfl hb12 (.load ty4 (.t rfl)) <| Ax rfl hb12 (.neB U4 (.t rfl) (.t rfl)) <| Ao rfl (.pickF (.t rfl) hb12 (.t rfl)) <| WL.mv rfl rfl ?_
        rcases iteB hm with ⟨hp15, hb14, hm⟩ | ⟨hp15, hb14, hm⟩
        ·refine Ap rfl hb14 <| Ap rfl hb14 <| Ap rfl hb14 <| Ap rfl hb14 <| Ap rfl hb14 <| Ap rfl hb14 <| Ao rfl (.pickT (.t rfl) hb14 .bool) <| Am rfl rfl <| Ap rfl rfl <| Ap rfl rfl <| Ap rfl rfl <| Ap rfl rfl <| Ap rfl rfl <| Ap rfl rfl <| Ao rfl (.pickT (.t rfl) rfl .bool) <| WL.mv rfl rfl ?_
         exact Ap rfl rfl <| Ap rfl rfl <| Ap rfl rfl <| Ap rfl rfl <| Ap rfl rfl <| Ap rfl rfl <| Ap rfl rfl <| Ao rfl (.pickT (.t rfl) rfl .bool) <| WL.nil <| WN.meet true (Si hm) ⟨.q rfl, .q rfl, .q rfl, trivial⟩ trivial
        ·refine Ax rfl hb14 (.fieldAddr U33 rfl J30 fapi_TrackedUnit_6 (.t rfl)) <| Ax rfl hb14 (.load ty30 (.t rfl)) <| Ax rfl hb14 (.fieldAddr U33 rfl J30 fapi_TrackedUnit_6 (.t rfl)) <| Ax rfl hb14 (.load ty30 (.t rfl)) ?_
         obtain ⟨rows, hv16, hm⟩ := Bs hm
         refine Ax rfl hb14 (.call C38 (r53_Rows_spec _ _ _ _ hv16) ⟨(.t rfl), (.t rfl), trivial⟩) <| Ax rfl hb14 (.notB (.t rfl)) <| Ao rfl (.pickF (.t rfl) hb14 (.t rfl)) <| WL.mv rfl rfl ?_
         rcases iteR hm with ⟨hp18, hb17, hm⟩ | ⟨hp18, hb17, hm⟩
         ·refine Ap rfl hb17 <| Ap rfl hb17 <| Ap rfl hb17 <| Ap rfl hb17 <| Ap rfl hb17 <| Ap rfl hb17 <| Ao rfl (.pickT (.t rfl) hb17 .bool) <| Am rfl rfl <| Ap rfl rfl <| Ap rfl rfl <| Ap rfl rfl <| Ap rfl rfl <| Ap rfl rfl <| Ap rfl rfl <| Ap rfl rfl <| Ao rfl (.pickT (.t rfl) rfl .bool) ?_
          exact WL.nil <| WN.meet true (Si hm) ⟨.q rfl, .q rfl, .q rfl, trivial⟩ trivial
         ·refine Ax rfl hb17 (.fieldAddr U33 rfl J30 fapi_TrackedUnit_7 (.t rfl)) <| Ax rfl hb17 (.load ty30 (.t rfl)) <| Ax rfl hb17 (.fieldAddr U33 rfl J30 fapi_TrackedUnit_7 (.t rfl)) <| Ax rfl hb17 (.load ty30 (.t rfl)) ?_
          obtain ⟨rows1, hv19, hm⟩ := Bs hm
          refine Ax rfl hb17 (.call C38 (r53_Rows_spec _ _ _ _ hv19) ⟨(.t rfl), (.t rfl), trivial⟩) <| Ax rfl hb17 (.notB (.t rfl)) <| Ao rfl (.pickF (.t rfl) hb17 (.t rfl)) <| WL.mv rfl rfl ?_
          rcases iteR hm with ⟨hp21, hb20, hm⟩ | ⟨hp21, hb20, hm⟩
          ·exact Ap rfl hb20 <| Ap rfl hb20 <| Ap rfl hb20 <| Ap rfl hb20 <| Ap rfl hb20 <| Ap rfl hb20 <| Ap rfl hb20 <| Ao rfl (.pickT (.t rfl) hb20 .bool) <| WL.nil <| WN.meet true (Si hm) ⟨.q rfl, .q rfl, .q rfl, trivial⟩ trivial
          ·exact Ax rfl hb20 (.fieldAddr U33 rfl J31 fapi_TrackedUnit_8 (.t rfl)) <| Ax rfl hb20 (.load ty31 (.t rfl)) <| Ax rfl hb20 (.lenL U31 (.t rfl)) <| Ax rfl hb20 (.fieldAddr U33 rfl J31 fapi_TrackedUnit_8 (.t rfl)) <| Ax rfl hb20 (.load ty31 (.t rfl)) <| Ax rfl hb20 (.lenL U31 (.t rfl)) <| Ax rfl hb20 (.neI (.t rfl) (.t rfl)) <| Ao rfl (.pickF (.t rfl) hb20 (.t rfl)) <| WL.nil <| WN.meet (decide ((a.Kids.length : Int) ≠ (b.Kids.length : Int))) (Si hm) ⟨.q rfl, .q rfl, .q rfl, trivial⟩ trivial
theorem law53_MarkupFormat_spec (n : Nat) (t : api_TrackedUnit) (r : Bool) (hm : M.law53_MarkupFormat n t = some r) : FSpecR Tryz.prog 4 [(tapi_TrackedUnit.is t)] [(700000, Gl (tA 3 tS) 0 gv0), (700001, Gl (tA 3 tS) 1 gv1), (700002, Gl (tA 8 tS) 2 gv2), (700003, GlE 3), (700007, GlT Tryz.prog "internal/strconv.uint64pow10" .u64 Lib.pow10Tab), (700008, GlI 8), (700009, GlI 9)] (fun _ : Unit => (tB.is r)) (fun _ => []) := by
 unfold M.law53_MarkupFormat at hm
 refine FSpecR.of Tryz.func4 rfl rfl rfl fun g0 => Aw <| Ao rfl (.box (.t rfl)) <| Ao rfl (.assign .bool) <| An <| W.seq <| W.sr ?_
 obtain ⟨awake, hv1, hm⟩ := Bs hm
 refine Ao rfl (.callG (rin := [(700000, Gl (tA 3 tS) 0 gv0), (700001, Gl (tA 3 tS) 1 gv1), (700002, Gl (tA 8 tS) 2 gv2), (700003, GlE 3), (700007, GlT Tryz.prog "internal/strconv.uint64pow10" .u64 Lib.pow10Tab)]) C6 (law53_awake_spec _ _ hv1) ⟨rfl, rfl, rfl, rfl, rfl, trivial⟩ ⟨rfl, rfl, ⟨rfl, rfl, ⟨rfl, rfl, ⟨rfl, rfl, ⟨rfl, rfl, trivial⟩⟩⟩⟩⟩ trivial) <| Ao rfl (.notB (.t rfl)) <| An <| W.cR hm (.t rfl) (fun hp3 hm => ?_) (fun hp3 hm => ?_)
 ·refine Aw <| Ao rfl (.assign .bool) <| WL.ns ?_
  cases hm
  exact W.ret1 () rfl (.t rfl) trivial
 ·refine W.skip <| Aq <| W.seq <| Aw <| Ao rfl (.load ty33 (.t rfl)) ?_
  obtain ⟨few, hv4, hm⟩ := Bs hm
  refine Ao rfl (.call C13 (r53_Few_spec _ _ _ _ hv4) ⟨(.t rfl), .i64, trivial⟩) <| Ao rfl (.notB (.t rfl)) <| An <| W.cR hm (.t rfl) (fun hp6 hm => ?_) (fun hp6 hm => ?_)
  ·refine Aw <| Ao rfl (.assign .bool) <| WL.ns ?_
   cases hm
   exact W.ret1 () rfl (.t rfl) trivial
  ·refine W.skip <| Aq <| Aw <| Ao rfl (.load ty33 (.t rfl)) ?_
   obtain ⟨format, hv7, hm⟩ := Bs hm
   refine Ao rfl (.callG (rin := [(700000, Gl (tA 3 tS) 0 gv0), (700001, Gl (tA 3 tS) 1 gv1), (700002, Gl (tA 8 tS) 2 gv2), (700003, GlE 3), (700007, GlT Tryz.prog "internal/strconv.uint64pow10" .u64 Lib.pow10Tab)]) C14 (markup_Format_spec _ _ _ hv7) ⟨rfl, rfl, rfl, rfl, rfl, trivial⟩ ⟨rfl, rfl, ⟨rfl, rfl, ⟨rfl, rfl, ⟨rfl, rfl, ⟨rfl, rfl, trivial⟩⟩⟩⟩⟩ ⟨(.t rfl), trivial⟩) <| Am rfl rfl <| Ao rfl (.extract0 (.t rfl)) <| Ao rfl (.extract1 (.t rfl)) <| Ag rfl rfl <| Ag rfl rfl <| Ar <| Ao rfl (.load ty33 (.t rfl)) ?_
   obtain ⟨text, hv8, hm⟩ := Bs hm
   refine Ao rfl (.call C15 (r53_Text_spec _ _ _ hv8) ⟨(.t rfl), trivial⟩) <| Am rfl rfl <| Ao rfl (.extract0 (.t rfl)) <| Ao rfl (.extract1 (.t rfl)) <| Ag rfl rfl <| Ag rfl rfl <| An <| W.seq <| W.seq ?_
   rcases iteB hm with ⟨hp10, hb9, hm⟩ | ⟨hp10, hb9, hm⟩
   ·refine W.draw [.c _, .c _, .c (tB.is (format.1 != text.1)), .c (tB.is (format.1 != text.1)), .c _, .c _, .c _, .c (tB.is true), .c (tB.is true), .c _, .c _, .c _, .c _, .c _, .c _, .c (tB.is true)] [([], [3]), ([], [5]), ([0, 1], []), ([2], []), ([3], [4]), ([3], [6]), ([3, 4, 5], []), ([3, 6], []), ([7], []), ([8], [1]), ([8, 9], []), ([8], [1]), ([8, 11], []), ([8, 10, 12], []), ([8, 13], []), ([8, 14], [])] Mx rfl rfl rfl rfl ⟨Dn (.move (.t rfl)), Dn (.move (.t rfl)), Dn (.neS (.t rfl) (.t rfl)), Dn (.move (.t rfl)), Dp rfl hb9, Dp rfl hb9, Dp rfl hb9, Dn (.pickT (.t rfl) hb9 .bool), Dn (.move (.t rfl)), Dp rfl rfl, Dp rfl rfl, Dp rfl rfl, Dp rfl rfl, Dp rfl rfl, Dp rfl rfl, Dn (.pickT (.t rfl) rfl .bool), trivial⟩ <| Aq <| W.condT (.t rfl) <| Aw <| Ao rfl (.assign .bool) <| WL.ns ?_
    cases hm
    exact W.ret1 () rfl (.t rfl) trivial
   ·rcases iteD hm with ⟨hp12, hb11, hm⟩ | ⟨hp12, hb11, hm⟩
    ·refine W.draw [.c _, .c _, .c _, .c _, .c _, .c _, .c _, .c _, .c _, .c _, .c _, .c _, .c _, .c _, .c _, .c _] [([], [3]), ([], [5]), ([0, 1], []), ([2], []), ([3], [4]), ([3], [6]), ([3, 4, 5], []), ([3, 6], []), ([7], []), ([8], [1]), ([8, 9], []), ([8], [1]), ([8, 11], []), ([8, 10, 12], []), ([8, 13], []), ([8, 14], [])] Mx rfl rfl rfl rfl ⟨Dn (.move (.t rfl)), Dn (.move (.t rfl)), Dn (.neS (.t rfl) (.t rfl)), Dn (.move (.t rfl)), Dr rfl hb9 (.move (.t rfl)), Dr rfl hb9 (.move (.t rfl)), Dr rfl hb9 (.neI (.t rfl) (.t rfl)), Dn (.pickF (.t rfl) hb9 (.t rfl)), Dn (.move (.t rfl)), Dp rfl hb11, Dp rfl hb11, Dp rfl hb11, Dp rfl hb11, Dp rfl hb11, Dp rfl hb11, Dn (.pickT (.t rfl) hb11 .bool), trivial⟩ <| Aq <| W.condT (.t rfl) <| Aw <| Ao rfl (.assign .bool) <| WL.ns ?_
     cases hm
     exact W.ret1 () rfl (.t rfl) trivial
    ·obtain ⟨lines, hv13, hm⟩ := Bs hm
     obtain ⟨lines1, hv14, hm⟩ := Bs hm
     obtain ⟨same, hv15, hm⟩ := Bs hm
     refine W.draw [.c _, .c _, .c _, .c _, .c _, .c _, .c _, .c _, .c _, .c _, .c _, .c _, .c _, .c _, .c _, .c _] [([], [3]), ([], [5]), ([0, 1], []), ([2], []), ([3], [4]), ([3], [6]), ([3, 4, 5], []), ([3, 6], []), ([7], []), ([8], [1]), ([8, 9], []), ([8], [1]), ([8, 11], []), ([8, 10, 12], []), ([8, 13], []), ([8, 14], [])] Mx rfl rfl rfl rfl ⟨Dn (.move (.t rfl)), Dn (.move (.t rfl)), Dn (.neS (.t rfl) (.t rfl)), Dn (.move (.t rfl)), Dr rfl hb9 (.move (.t rfl)), Dr rfl hb9 (.move (.t rfl)), Dr rfl hb9 (.neI (.t rfl) (.t rfl)), Dn (.pickF (.t rfl) hb9 (.t rfl)), Dn (.move (.t rfl)), Dr rfl hb11 (.load ty33 (.t rfl)), Dr rfl hb11 (.callG (rin := [(700000, Gl (tA 3 tS) 0 gv0), (700001, Gl (tA 3 tS) 1 gv1), (700002, Gl (tA 8 tS) 2 gv2), (700003, GlE 3), (700007, GlT Tryz.prog "internal/strconv.uint64pow10" .u64 Lib.pow10Tab)]) C10 (markup_Lines_spec _ _ _ hv13) ⟨rfl, rfl, rfl, rfl, rfl, trivial⟩ ⟨rfl, rfl, ⟨rfl, rfl, ⟨rfl, rfl, ⟨rfl, rfl, ⟨rfl, rfl, trivial⟩⟩⟩⟩⟩ ⟨(.t rfl), trivial⟩), Dr rfl hb11 (.load ty33 (.t rfl)), Dr rfl hb11 (.call C17 (r53_Lines_spec _ _ _ hv14) ⟨(.t rfl), trivial⟩), Dr rfl hb11 (.call C16 (r04_Same_spec _ _ _ _ hv15) ⟨(.t rfl), (.t rfl), trivial⟩), Dr rfl hb11 (.notB (.t rfl)), Dn (.pickF (.t rfl) hb11 (.t rfl)), trivial⟩ <| Aq <| W.cR hm (.t rfl) (fun hp17 hm => ?_) (fun hp17 hm => ?_)
     ·refine Aw <| Ao rfl (.assign .bool) <| WL.ns ?_
      cases hm
      exact W.ret1 () rfl (.t rfl) trivial
     ·refine W.skip <| Aq <| W.seq <| Aw <| Am rfl rfl <| Ao rfl (.neI (.t rfl) .i64) <| An <| W.cD hm (.t rfl) (fun hp19 hm => ?_) (fun hp19 hm => ?_)
      ·refine Aw <| Ao rfl (.assign .bool) <| WL.ns ?_
       cases hm
       exact W.ret1 () rfl (.t rfl) trivial
      ·refine W.skip <| Aq <| Aw <| WL.mv rfl rfl ?_
       obtain ⟨parse, hv20, hm⟩ := Bs hm
       refine Ao rfl (.callG (rin := [(700000, Gl (tA 3 tS) 0 gv0), (700001, Gl (tA 3 tS) 1 gv1), (700002, Gl (tA 8 tS) 2 gv2), (700003, GlE 3), (700007, GlT Tryz.prog "internal/strconv.uint64pow10" .u64 Lib.pow10Tab), (700008, GlI 8), (700009, GlI 9)]) C18 (markup_Parse_spec _ _ _ hv20) ⟨rfl, rfl, rfl, rfl, rfl, rfl, rfl, trivial⟩ ⟨rfl, rfl, ⟨rfl, rfl, ⟨rfl, rfl, ⟨rfl, rfl, ⟨rfl, rfl, ⟨rfl, rfl, ⟨rfl, rfl, trivial⟩⟩⟩⟩⟩⟩⟩ ⟨(.t rfl), trivial⟩) <| Am rfl rfl <| Ao rfl (.extract30 (.t rfl)) <| Ao rfl (.extract31 (.t rfl)) <| Ao rfl (.extract32 (.t rfl)) <| WL.opR rfl (OpR.alloc 7 ze33) fun b => WL.opU (OpR.storeB (b := b) 7 Z33 (Cellable.is tapi_TrackedUnit parse.1) rfl (.t rfl) (.t rfl)) fun _ => WL.sealed (t := tapi_TrackedUnit) (u := parse.1) 7 7 rfl rfl <| Ag rfl rfl <| Ag rfl rfl <| Ar <| Am rfl rfl <| Ao rfl (.eqI (.t rfl) .i64) <| WL.mv rfl rfl ?_
       rcases iteD hm with ⟨hp22, hb21, hm⟩ | ⟨hp22, hb21, hm⟩
       ·refine Ax rfl hb21 (.move (.t rfl)) <| Ax rfl hb21 (.load ty33 (.t rfl)) ?_
        obtain ⟨lines2, hv23, hm⟩ := Bs hm
        refine Ax rfl hb21 (.call C17 (r53_Lines_spec _ _ _ hv23) ⟨(.t rfl), trivial⟩) <| Ax rfl hb21 (.lenL U38 (.t rfl)) <| Ax rfl hb21 (.eqI (.t rfl) (.t rfl)) <| Ao rfl (.pickT (.t rfl) hb21 (.t rfl)) <| WL.mv rfl rfl ?_
        rcases iteD hm with ⟨hp25, hb24, hm⟩ | ⟨hp25, hb24, hm⟩
        ·refine Ax rfl hb24 (.load ty33 (.t rfl)) <| Ax rfl hb24 (.load ty33 (.t rfl)) ?_
         obtain ⟨same1, hv26, hm⟩ := Bs hm
         refine Ax rfl hb24 (.call C19 (r53_Same_spec _ _ _ _ hv26) ⟨(.t rfl), (.t rfl), trivial⟩) <| Ao rfl (.pickT (.t rfl) hb24 (.t rfl)) <| Ag rfl rfl <| WL.ns ?_
         cases hm
         exact W.ret1 () rfl (.t rfl) trivial
        ·refine Ap rfl hb24 <| Ap rfl hb24 <| Ap rfl hb24 <| Ao rfl (.pickF (.t rfl) hb24 .bool) <| Ag rfl rfl <| WL.ns ?_
         cases hm
         exact W.ret1 () rfl (.t rfl) trivial
       ·refine Ap rfl hb21 <| Ap rfl hb21 <| Ap rfl hb21 <| Ap rfl hb21 <| Ap rfl hb21 <| Ao rfl (.pickF (.t rfl) hb21 .bool) <| Am rfl rfl <| Ap rfl rfl <| Ap rfl rfl <| Ap rfl rfl <| Ao rfl (.pickF (.t rfl) rfl .bool) <| Ag rfl rfl <| WL.ns ?_
        cases hm
        exact W.ret1 () rfl (.t rfl) trivial
end Go.Proofs.YtalogjkalmkpjaaGreatDoor
