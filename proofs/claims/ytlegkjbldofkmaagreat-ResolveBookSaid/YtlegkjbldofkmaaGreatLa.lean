/-
  The rows of these laws, proved: for each law the walk of its code and its plain law, put together. No condition.
-/
import Derived.Test.YtlegkjbldofkmaaGreatRows
import Derived.Test.YtlegkjbldofkmaaGreatReadR
import Derived.Test.YtlegkjbldofkmaaGreatWd
import Derived.Test.YtlegkjbldofkmaaGreatPh
import Derived.ProofKit
set_option linter.unusedVariables false
set_option linter.unusedSimpArgs false
set_option maxRecDepth 100000
namespace Go.Proofs.YtlegkjbldofkmaaGreat
open Go Go.Dec Go.ChangeShapes Go.WideShapes Go.ChangeAt Go.RowKit
theorem Tryz.zown:ownKnob Tryz.prog.godebug=none:=by kernel_rfl
theorem Tryz.zlaidOut:laidOutB Tryz.prog=true:=by kernel_rfl
theorem zrd3(W:World):Rds Tryz.prog W 3 (tI .i64):=Rds.int Tryz.underlying3
theorem zok3{W:World}{base:Nat}(v:Value)(h:Value.okWide Tryz.prog W .any base 3 v):v=mkVal false v.cells.toList:=okW_int Tryz.underlying3 v h
theorem zrd23(W:World):Rds Tryz.prog W 23 tapi_Id:=Rds.struct (fun x=>(⟨x.1,x.2.1,x.2.2⟩:api_Id)) (fun _=>rfl) Tryz.underlying23 (by kernel_rfl) (RdF.cons rfl (by kernel_rfl) rfl (zrd3 W) (RdF.cons rfl (by kernel_rfl) rfl (zrd3 W) (RdF.last rfl (by kernel_rfl) (zrd3 W))))
theorem zok23{W:World}{base:Nat}(v:Value)(h:Value.okWide Tryz.prog W .any base 23 v):v=mkVal true v.cells.toList:=okW_struct Tryz.underlying23 v h
theorem zrd9(W:World):Rds Tryz.prog W 9 tS:=Rds.string Tryz.underlying9
theorem zok9{W:World}{base:Nat}(v:Value)(h:Value.okWide Tryz.prog W .any base 9 v):v=mkVal false v.cells.toList:=okW_string Tryz.underlying9 v h
theorem zrd31(W:World):Rds Tryz.prog W 31 tapi_Mark:=Rds.struct (fun x=>(⟨x.1,x.2.1,x.2.2⟩:api_Mark)) (fun _=>rfl) Tryz.underlying31 (by kernel_rfl) (RdF.cons rfl (by kernel_rfl) rfl (zrd3 W) (RdF.cons rfl (by kernel_rfl) rfl (zrd3 W) (RdF.last rfl (by kernel_rfl) (zrd3 W))))
theorem zok31{W:World}{base:Nat}(v:Value)(h:Value.okWide Tryz.prog W .any base 31 v):v=mkVal true v.cells.toList:=okW_struct Tryz.underlying31 v h
theorem zrd33(W:World):Rds Tryz.prog W 33 tapi_Word:=Rds.struct (fun x=>(⟨x.1,x.2⟩:api_Word)) (fun _=>rfl) Tryz.underlying33 (by kernel_rfl) (RdF.cons rfl (by kernel_rfl) rfl (zrd9 W) (RdF.last rfl (by kernel_rfl) (zrd31 W)))
theorem zok33{W:World}{base:Nat}(v:Value)(h:Value.okWide Tryz.prog W .any base 33 v):v=mkVal true v.cells.toList:=okW_struct Tryz.underlying33 v h
theorem zrd24(W:World):Rds Tryz.prog W 24 (tL tapi_Word):=Rds.slice Tryz.underlying24 (zrd33 W) (by kernel_rfl) (by decide) (of_decide_eq_true (by kernel_rfl))
theorem zok24{W:World}{base:Nat}(v:Value)(h:Value.okWide Tryz.prog W .any base 24 v):v=mkVal false v.cells.toList:=okW_slice Tryz.underlying24 v h
theorem zrd27(W:World):Rds Tryz.prog W 27 tapi_Unit:=Rds.fix rapi_Unit Tryz.underlying27 (fun k ih=>RdU.struct (fun x=>(⟨x.1,x.2.1,x.2.2.1,x.2.2.2.1,x.2.2.2.2.1,x.2.2.2.2.2⟩:api_Unit)) (fun _=>rfl) Tryz.underlying27 (by kernel_rfl) (RdFU.cons rfl (by kernel_rfl) rfl ((zrd23 W).to k) (RdFU.cons rfl (by kernel_rfl) rfl ((zrd3 W).to k) (RdFU.cons rfl (by kernel_rfl) rfl ((zrd9 W).to k) (RdFU.cons rfl (by kernel_rfl) rfl ((zrd24 W).to k) (RdFU.cons rfl (by kernel_rfl) rfl ((zrd24 W).to k) (RdFU.last rfl (by kernel_rfl) ((RdU.slice Tryz.underlying25 ih (by kernel_rfl) (by decide) (of_decide_eq_true (by kernel_rfl))).down (Nat.le_succ k)))))))))
theorem zok27{W:World}{base:Nat}(v:Value)(h:Value.okWide Tryz.prog W .any base 27 v):v=mkVal true v.cells.toList:=okW_struct Tryz.underlying27 v h
theorem resolveWordList_law(W:World)(base:Nat)(vs:List Value)(h:ArgsOk Tryz.prog W base Tryz.f3.params.toList vs):∃ As,All2 As vs (G.top W)∧FSpec Tryz.prog 3 As (tB.is true):=by
 rw [Tryz.params3] at h
 obtain ⟨v1,vs,x1,rfl,h1,h⟩:=ArgsOk.cons (t:=tapi_Unit) h (zrd27 W) zok27
 obtain ⟨v2,vs,x2,rfl,h2,h⟩:=ArgsOk.cons (t:=tapi_Id) h (zrd23 W) zok23
 obtain ⟨v3,vs,x3,rfl,h3,h⟩:=ArgsOk.cons (t:=(tL tapi_Word)) h (zrd24 W) zok24
 obtain rfl:=h.nil
 obtain ⟨n,hm⟩:=wordlist_true x1 x2 x3
 exact ⟨[tapi_Unit.is x1,tapi_Id.is x2,(tL tapi_Word).is x3],⟨h1,h2,h3,trivial⟩,law41_ResolveWordList_spec n x1 x2 x3 true hm⟩
set_option maxRecDepth 100000 in
theorem resolveWordList_lifted(os:Os)(started:os.Started)(H:Type)(enc:TypeId×Value→H) :
  ReturnsInHanded {} Tryz.checked os 3 .any (Rows.resolveWordListSpec.pre6 enc Tryz.prog Tryz.f3 Rows.resolveWordListRow.domain false) (Rows.resolveWordListSpec.post enc Tryz.prog Tryz.f3 false true false false):=
 lifted_of_law (C:=Tryz.checked) Tryz.zown started (by kernel_rfl) Tryz.func3
  (ChangeSpec.witness6 (enc:=enc) (C:=Tryz.checked) false ⟨#[],#[.agg #[.int .i64 0,.int .i64 0,.int .i64 0,.int .i64 0,.string ⟨#[]⟩,.slice none 0 0,.slice none 0 0,.slice none 0 0],.agg #[.int .i64 0,.int .i64 0,.int .i64 0],.slice none 0 0],[]⟩ 8 (by kernel_rfl) (by kernel_rfl) (by kernel_rfl) (by kernel_rfl))
  Tryz.zlaidOut (by kernel_rfl) rfl Tryz.underlying4 rfl
  (fun | [_,_,_],_=>⟨rfl,rfl,rfl⟩) resolveWordList_law
theorem resolveWordList_holds:Rows.ResolveWordListSaid:=
 OpenClaim.holds_of_wide 3 Tryz.f3 rfl rfl rfl rfl rfl rfl rfl ⟨rfl,rfl,rfl,rfl,rfl⟩ rfl rfl rfl rfl rfl (by kernel_rfl) Tryz.func3 (by kernel_rfl)
  (of_decide_eq_true (by kernel_rfl)) (by unfold Func.isWrapper;first | (rw [if_pos (by decide+kernel)];kernel_rfl) | (rw [if_neg (by decide+kernel)];exact ⟨rfl,rfl⟩))
  (fun os started H enc _=>resolveWordList_lifted os started H enc)
theorem resolveBook_law(W:World)(base:Nat)(vs:List Value)(h:ArgsOk Tryz.prog W base Tryz.f4.params.toList vs):∃ As,All2 As vs (G.top W)∧FSpec Tryz.prog 4 As (tB.is true):=by
 rw [Tryz.params4] at h
 obtain ⟨v1,vs,x1,rfl,h1,h⟩:=ArgsOk.cons (t:=tapi_Unit) h (zrd27 W) zok27
 obtain rfl:=h.nil
 obtain ⟨n,hm⟩:=book_true x1
 exact ⟨[tapi_Unit.is x1],⟨h1,trivial⟩,law41_ResolveBook_spec n x1 true hm⟩
set_option maxRecDepth 100000 in
theorem resolveBook_lifted(os:Os)(started:os.Started)(H:Type)(enc:TypeId×Value→H) :
  ReturnsInHanded {} Tryz.checked os 4 .any (Rows.resolveBookSpec.pre6 enc Tryz.prog Tryz.f4 Rows.resolveBookRow.domain false) (Rows.resolveBookSpec.post enc Tryz.prog Tryz.f4 false true false false):=
 lifted_of_law (C:=Tryz.checked) Tryz.zown started (by kernel_rfl) Tryz.func4
  (ChangeSpec.witness6 (enc:=enc) (C:=Tryz.checked) false ⟨#[],#[.agg #[.int .i64 0,.int .i64 0,.int .i64 0,.int .i64 0,.string ⟨#[]⟩,.slice none 0 0,.slice none 0 0,.slice none 0 0]],[]⟩ 8 (by kernel_rfl) (by kernel_rfl) (by kernel_rfl) (by kernel_rfl))
  Tryz.zlaidOut (by kernel_rfl) rfl Tryz.underlying4 rfl
  (fun | [_],_=>⟨rfl,rfl,rfl⟩) resolveBook_law
theorem resolveBook_holds:Rows.ResolveBookSaid:=
 OpenClaim.holds_of_wide 4 Tryz.f4 rfl rfl rfl rfl rfl rfl rfl ⟨rfl,rfl,rfl,rfl,rfl⟩ rfl rfl rfl rfl rfl (by kernel_rfl) Tryz.func4 (by kernel_rfl)
  (of_decide_eq_true (by kernel_rfl)) (by unfold Func.isWrapper;first | (rw [if_pos (by decide+kernel)];kernel_rfl) | (rw [if_neg (by decide+kernel)];exact ⟨rfl,rfl⟩))
  (fun os started H enc _=>resolveBook_lifted os started H enc)
end Go.Proofs.YtlegkjbldofkmaaGreat
