/-
  Known closures, calls that write their caller's variables, and resources under other keys.
-/
import Derived.Test.YtalogjkalmkpjaaGreatDoorDec16
set_option linter.unusedVariables false
set_option linter.unusedSimpArgs false
namespace Go.Dec
open Go
theorem Rs.all_snd{r:Rs}{g:G}:r.all g ↔ ∀ R∈r.map Prod.snd,R.holds g:=by
 constructor
 ·intro h R hR
  obtain ⟨x,hx,rfl⟩:=List.mem_map.1 hR
  exact h x hx
 ·intro h x hx
  exact h x.2 (List.mem_map.2 ⟨x,hx,rfl⟩)
theorem Rs.blks_snd{r:Rs}{b:Nat}:r.blks b ↔ ∃ R∈r.map Prod.snd,R.blk b:=by
 constructor
 ·rintro ⟨x,hx,hb⟩;exact ⟨x.2,List.mem_map.2 ⟨x,hx,rfl⟩,hb⟩
 ·rintro ⟨R,hR,hb⟩
  obtain ⟨x,hx,rfl⟩:=List.mem_map.1 hR
  exact ⟨x,hx,hb⟩
theorem Rs.dis_snd{r:Rs}:r.dis ↔ (r.map Prod.snd).Pairwise (fun x y=>∀ b,x.blk b→¬ y.blk b):=by
 unfold Rs.dis
 rw [List.pairwise_map]
theorem Rs.blks_eq{r s:Rs}(h:r.map Prod.snd=s.map Prod.snd):r.blks=s.blks:=by
 funext b
 exact propext ⟨fun hb=>Rs.blks_snd.2 (h▸Rs.blks_snd.1 hb),fun hb=>Rs.blks_snd.2 (h▸Rs.blks_snd.1 hb)⟩
theorem FSpecR.keys{P:Program}{f:FuncId}{As:List Asn}{rin rin':Rs}{ρ:Type}{A:ρ→Asn}{out out':ρ→Rs}(h:FSpecR P f As rin A out)(h1:rin.map Prod.snd=rin'.map Prod.snd)
  (h2:∀ x,(out x).map Prod.snd=(out' x).map Prod.snd):FSpecR P f As rin' A out':=by
 intro g vs hvs hr hd
 refine (h g vs hvs (Rs.all_snd.2 (h1▸Rs.all_snd.1 hr)) (Rs.dis_snd.2 (h1▸Rs.dis_snd.1 hd))).mono ?_
 rintro e w' ⟨x,v,g',k1,k2,k3,k4,k5,k6,k7⟩
 rw [Rs.blks_eq h1] at k3 k7
 refine ⟨x,v,g',k1,k2,k3,k4,Rs.all_snd.2 (h2 x▸Rs.all_snd.1 k5),Rs.dis_snd.2 (h2 x▸Rs.dis_snd.1 k6),fun b hb=>k7 b ?_⟩
 rw [Rs.blks_eq (h2 x)];exact hb
def cloA(f:FuncId)(Cs:List Asn):Asn:=
 ⟨fun v g=>∃ caps:List Value,v= .func (.func f) #[] caps.toArray∧All2 Cs caps g,fun e ⟨caps,h,k⟩=>⟨caps,h,All2.mono e k⟩⟩
theorem Cellable.clo(f:FuncId)(Cs:List Asn):Cellable 1 false (cloA f Cs):=fun v g ⟨caps,hv,_⟩=>⟨[v],by rw [hv];rfl,rfl,fun _=>rfl,rfl,fun c hc=>by rw [List.mem_singleton.1 hc,hv];rfl⟩
section
variable {P:Program} {N:Nat} {g0:G} {T0:Nat→Prop} {env:Env} {res:Rs} {d:Option Tmp} {ty:TypeId} {pos:String} {aft:Array Edge} {gd:Option (Nat×Bool)}
theorem Opd.cloFn{f:FuncId}:Opd env (.func f) (cloA f []):=fun a g he=>⟨[],rfl,trivial⟩
theorem Op1.makeClo{f:FuncId}{cap:List Operand}{Cs:List Asn}(hcap:Opds env cap Cs):Op1 P ⟨d,.makeFunc (.func f) #[] cap.toArray,ty,pos,aft,gd⟩ env res (cloA f Cs):=
 Op1.same fun a g hc=>⟨.func (.func f) #[] (cap.map a.eval).toArray,by simp [execOp,Instr.makeFunc],_,rfl,Opds.all hc.henv hcap⟩
theorem exec_callV{f:FuncId}{caps:List Value}(hcall:∀ as w,(callFunc f as).run P w= .ok (.enter f as) w){x:Operand}{xs:List Operand}{ats:Array TypeId}(a:Act)(w:World)(hx:a.eval x= .func (.func f) #[] caps.toArray) :
  (execOp a.eval ⟨d,.call ⟨.value x,xs.toArray,ats⟩,ty,pos,aft,gd⟩).run P w= .ok (.enter f (xs.map a.eval++caps).toArray) w:=by
 have h:=hcall ((xs.map a.eval).toArray++caps.toArray) w
 simp [execOp,resolve,hx,Deferred.ofValue,invoke] at h ⊢
 exact h
theorem Op1.callClo{f:FuncId}{x:Operand}{xs:List Operand}{ats:Array TypeId}{As Cs:List Asn}{A:Asn}(hcall:∀ as w,(callFunc f as).run P w= .ok (.enter f as) w)(hx:Opd env x (cloA f Cs))(hf:FSpec P f (As++Cs) A)(h:Opds env xs As) :
  Op1 P ⟨d,.call ⟨.value x,xs.toArray,ats⟩,ty,pos,aft,gd⟩ env res A:=
 Op1.of_calls fun a g hc=>by
  obtain ⟨caps,hv,hcs⟩:=hx a g hc.henv
  exact ⟨f,_,exec_callV hcall a g.w hv,hf g _ (All2.append (Opds.all hc.henv h) hcs)⟩
theorem OpR.callClo{f:FuncId}{x:Operand}{xs:List Operand}{ats:Array TypeId}{As Cs:List Asn}{us:List Nat}{rin:Rs}{ρ:Type}{A:ρ→Asn}{out:ρ→Rs}(hcall:∀ as w,(callFunc f as).run P w= .ok (.enter f as) w)
  (hx:Opd env x (cloA f Cs)) (hf:FSpecR P f (As++Cs) rin A out) (hr:res.pick us=rin) (h:Opds env xs As):OpR P ⟨d,.call ⟨.value x,xs.toArray,ats⟩,ty,pos,aft,gd⟩ env res us A out:=
 OpR.of_calls fun a g hc hd=>by
  obtain ⟨caps,hv,hcs⟩:=hx a g hc.henv
  refine ⟨f,_,exec_callV hcall a g.w hv,?_⟩
  subst hr
  exact hf g _ (All2.append (Opds.all hc.henv h) hcs) (fun y hy=>hc.hres y (List.mem_filter.1 hy).1) (hd.filter _)
theorem WL.weakR{ops:Array Oper}{Q:Exit→Act→World→Prop}{l:List Oper}{res':Rs}(hr:RSub res' res)(h:WL P N g0 T0 ops Q l env res'):WL P N g0 T0 ops Q l env res:=
 fun a g hst=>h a g ⟨hst.sz,hst.dfr,hst.henv,fun x hx=>hst.hres x (hr.mem x hx),hr.dis hst.dis,fun b ⟨x,hx,hb⟩=>hst.own b ⟨x,hr.mem x hx,hb⟩,hst.ext⟩
theorem OpR.allocF{T:TypeId}(key:Nat)(hz:∀ w,(zeroValue T).run P w= .ok .nilFunc w) :
  OpR P ⟨d,.alloc T,ty,pos,aft,gd⟩ env res [] (fun b:Nat=>Bp b 0) (fun b=>[(key,Bx 1 false T (Asn.eq .nilFunc) b)]):=by
 intro a g K Q hc hd hK
 have hrun:(execOp a.eval ⟨d,.alloc T,ty,pos,aft,gd⟩).run P g.w= .ok (.value (.pointer (some ⟨g.w.heap.size,0,none⟩))) (g.alloc (.cells #[.nilFunc] T) 0).w:=by simp [execOp,Instr.alloc,hz,newVar,newRow,Value.cells,G.alloc]
 show Oper.upon P _ a K Q ((execOp a.eval _).run P g.w)
 rw [hrun]
 refine hK g.w.heap.size _ (g.alloc (.cells #[.nilFunc] T) 0) (Ext.alloc _ _ _ _) rfl (fun y hy=>?_) (List.pairwise_singleton _ _) (fun b hb=>.inr (by rw [(blks_one rfl).1 hb];exact Nat.le_refl _))
 rw [List.mem_singleton.1 hy]
 exact bx_new (cs:=[.nilFunc]) rfl (fun _=>rfl) (fun c hc=>by rw [List.mem_singleton.1 hc];rfl) rfl
section
variable {ks:List KF} {B:Exit→Act→World→Prop}
theorem W.sr{id:Nat}{l:List Oper}{c:Code}(h:WL P N g0 T0 l.toArray (KF.sem P (.seq c :: ks) B) l env res):W P N g0 T0 (.seq (.region id l.toArray false) c) ks B env res:=W.seq (W.region h)
theorem WL.ns{ops:Array Oper}{c:Code}(h:W P N g0 T0 c ks B env res):WL P N g0 T0 ops (KF.sem P (.seq c :: ks) B) [] env res:=WL.nil (WN.seq h)
theorem WL.nr{ops:Array Oper}{id:Nat}{l:List Oper}{c:Code}(h:WL P N g0 T0 l.toArray (KF.sem P (.seq c :: ks) B) l env res):WL P N g0 T0 ops (KF.sem P (.seq (.seq (.region id l.toArray false) c) :: ks) B) [] env res:=WL.ns (W.sr h)
theorem WL.nr1{ops:Array Oper}{id:Nat}{l:List Oper}(h:WL P N g0 T0 l.toArray (KF.sem P ks B) l env res):WL P N g0 T0 ops (KF.sem P (.seq (.region id l.toArray false) :: ks) B) [] env res:=WL.ns (W.region h)
theorem WL.mv{ops:Array Oper}{Q:Exit→Act→World→Prop}{rest:List Oper}{d t:Nat}{A:Asn}(h:look t env=some A)(hd:Nat.blt d N=true)(k:WL P N g0 T0 ops Q rest ((d,A) :: env) res):WL P N g0 T0 ops Q (⟨some d,.move (.tmp t),ty,pos,aft,none⟩ :: rest) env res:=WL.op hd (Op1.move (.tmp h)) k
theorem WL.gv{ops:Array Oper}{Q:Exit→Act→World→Prop}{rest:List Oper}{d t:Nat}{A:Asn}(h:look t env=some A)(hd:Nat.blt d N=true)(k:WL P N g0 T0 ops Q rest ((d,A) :: env) res):WL P N g0 T0 ops Q (⟨some d,.assign (.tmp t),ty,pos,aft,none⟩ :: rest) env res:=WL.op hd (Op1.assign (.tmp h)) k
end
end
end Go.Dec
