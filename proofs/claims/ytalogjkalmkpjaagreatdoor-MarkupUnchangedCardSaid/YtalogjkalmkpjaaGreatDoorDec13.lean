/-
  Ranging over a string.
-/
import Derived.Test.YtalogjkalmkpjaaGreatDoorDec12
import Derived.Laws.RangeString
import Derived.Laws.RangeAny
set_option linter.unusedVariables false
set_option linter.unusedSimpArgs false
namespace Go.Dec
open Go
theorem runeAt_ascii{l:Str}{p:Nat}(h:p<l.length)(ha:l[p].toNat<128):runeAt l p=(l[p].toNat,1):=by
 have hs:p<(Dec.str l).size:=by rw [str_size];exact h
 have e:(Dec.str l)[p]'hs=l[p]:=by simp [Dec.str,ByteArray.getElem_eq_getElem_data];rfl
 have:=decode_ascii (Dec.str l) p hs (by rw [e];exact ha)
 rw [e] at this;exact this
theorem runeAt_high{l:Str}{p:Nat}(h:p<l.length)(ha:128≤l[p].toNat):128≤(runeAt l p).1∧1≤(runeAt l p).2:=by
 have hs:p<(Dec.str l).size:=by rw [str_size];exact h
 have e:(Dec.str l)[p]'hs=l[p]:=by simp [Dec.str,ByteArray.getElem_eq_getElem_data];rfl
 exact decode_high (Dec.str l) p hs (by rw [e];exact ha)
def It(l:Str)(p:Nat)(b:Nat):Res where
 blk:=fun x=>some b=some x
 holds:=fun g=>g.w.heap[b]? =some (.stringIter (Dec.str l) p)∧l.length≤lim
 stay:=fun {T g g'} e hn h=>by
  have hlt:=(Array.getElem?_eq_some_iff.1 h.1).1
  exact ⟨(e.same b hlt (hn b rfl)).1.trans h.1,h.2⟩
 lt:=fun {g b'} h hb=>by cases hb;exact (Array.getElem?_eq_some_iff.1 h.1).1
def Asn.tuple1(A:Asn):Asn:=⟨fun v g=>∃ x,v= .tuple #[x]∧A.holds x g,fun e ⟨x,h,a⟩=>⟨x,h,A.mono e a⟩⟩
section
variable {P:Program} {env:Env} {res:Rs} {d:Option Tmp} {ty:TypeId} {pos:String} {aft:Array Edge} {gd:Option (Nat×Bool)}
theorem OpR.range{T:TypeId}{x:Operand}{l:Str}(key:Nat)(hT:P.underlying T=some .string)(hx:Opd env x (tS.is l)) :
  OpR P ⟨d,.range T x,ty,pos,aft,gd⟩ env res [] (fun b:Nat=>Bp b 0) (fun b=>[(key,It l 0 b)]):=by
 intro a g K Q hc hd hK
 have h1:=(hx.atStr hc).1
 have hrun:(execOp a.eval ⟨d,.range T x,ty,pos,aft,gd⟩).run P g.w= .ok (.value (.pointer (some ⟨g.w.heap.size,0,none⟩))) (g.alloc (.stringIter (Dec.str l) 0) 0).w:=by
  simp [execOp,h1,run_range_string g.w T _ hT,World.iter,G.alloc]
 show Oper.upon P _ a K Q ((execOp a.eval _).run P g.w)
 rw [hrun]
 refine hK g.w.heap.size _ (g.alloc (.stringIter (Dec.str l) 0) 0) (Ext.alloc _ _ _ _) rfl (fun y hy=>?_) (List.pairwise_singleton _ _) (fun b hb=>.inr (by rw [(blks_one rfl).1 hb];exact Nat.le_refl _))
 rw [List.mem_singleton.1 hy]
 exact ⟨heap_alloc_new g.w _,(hx.atStr hc).2⟩
theorem Op1.nextF{x:Operand}{l:Str}{p b:Nat}(key:Nat)(hp:¬ p<l.length)(hr:findR key res=some (It l p b))(hx:Opd env x (Bp b 0)):Op1 P ⟨d,.next x true,ty,pos,aft,gd⟩ env res (Asn.tuple1 (tB.is false)):=
 Op1.same fun a g hc=>by
  have hv:a.eval x= .pointer (some ⟨b,0,none⟩):=hx a g hc.henv
  have hh:g.w.heap[b]? =some (.stringIter (Dec.str l) p):=(hc.hres _ (findR_mem hr)).1
  refine ⟨.tuple #[.bool false],?_,_,rfl,Asn.bool⟩
  have hsz:¬ p<(Dec.str l).size:=by rw [str_size];exact hp
  simp [execOp,hv,Instr.next,getObj,Sem.run,hh,hsz]
theorem OpR.nextT{x:Operand}{l:Str}{p b:Nat}(key:Nat)(hp:p<l.length)(hr:res.pick [key]= [(key,It l p b)])(hx:Opd env x (Bp b 0)) :
  OpR P ⟨d,.next x true,ty,pos,aft,gd⟩ env res [key] (fun _:Unit=>Asn.tuple3 (tB.is true) ((tI .i64).is (p:Int)) ((tI .i32).is ((runeAt l p).1:Int))) (fun _=>[(key,It l (p+(runeAt l p).2) b)]):=by
 intro a g K Q hc hd hK
 have hin:(key,It l p b)∈res:=by
  have:(key,It l p b)∈res.pick [key]:=by rw [hr];exact List.mem_singleton.2 rfl
  exact (List.mem_filter.1 this).1
 obtain ⟨hh,hl⟩:g.w.heap[b]? =some (.stringIter (Dec.str l) p)∧l.length≤lim:=hc.hres _ hin
 have hb:=(Array.getElem?_eq_some_iff.1 hh).1
 have hv:a.eval x= .pointer (some ⟨b,0,none⟩):=hx a g hc.henv
 have hsz:p<(Dec.str l).size:=by rw [str_size];exact hp
 have hrt:runeAt l p=Utf8.decode (Dec.str l) p:=rfl
 let w':World:={g.w with heap:=g.w.heap.setIfInBounds b (.stringIter (Dec.str l) (p+(runeAt l p).2))}
 have hrun:(execOp a.eval ⟨d,.next x true,ty,pos,aft,gd⟩).run P g.w= .ok (.value (.tuple #[.bool true,.int .i64 p,.int .i32 (runeAt l p).1])) w':=by
  simp [execOp,hv,Instr.next,getObj,setObj,Sem.run,hh,hsz,hrt,w',goInt,Result.andThen]
 show Oper.upon P _ a K Q ((execOp a.eval _).run P g.w)
 rw [hrun]
 have other:∀ y,y≠b→w'.heap[y]? =g.w.heap[y]?:=fun y hy=>by
  show (g.w.heap.setIfInBounds b _)[y]? =_
  rw [Array.getElem?_setIfInBounds_ne (Ne.symm hy)]
 have e:Ext (res.pick [key]).blks g ⟨w',g.S⟩:=by
  refine ⟨rfl,rfl,rfl,by simp [w'],fun y _ hn=>⟨other y (fun hy=>hn (by rw [hr];exact (blks_one rfl).2 hy)),rfl⟩,fun y i v hv=>⟨hv.1,?_⟩,fun y n hF=>hF.same (other y (fun hy=>by rw [hy] at hF;rcases hF.row hh with ⟨_,_,_,he,_⟩ | ⟨_,_,he,_⟩<;> cases he)) (Nat.le_refl _)⟩
  have hyb:y≠b:=fun hy=>by
   have:=hv.2
   subst hy
   simp [World.cell?,hh] at this
  have:=hv.2
  simp only [World.cell?] at this ⊢
  rw [show (({w:=w',S:=g.S}:G).w).heap[y]? =g.w.heap[y]? from other y hyb]
  exact this
 refine hK () _ ⟨w',g.S⟩ e ⟨_,_,_,rfl,Asn.bool,Asn.int (inR64.2 (by unfold lim at hl;omega)),Asn.int ?_⟩ (fun y hy=>?_) (List.pairwise_singleton _ _) (fun b' hb'=>.inl (by rw [hr];exact (blks_one rfl).2 ((blks_one rfl).1 hb')))
 ·rw [inR32]
  have:=decode_le (Dec.str l) p
  rw [hrt]
  omega
 ·rw [List.mem_singleton.1 hy]
  refine ⟨?_,hl⟩
  show (g.w.heap.setIfInBounds b _)[b]? =_
  simp [hb]
theorem Opd.fnE{σ:Type}{ok:σ→Prop}{As:σ→List Asn}{A:σ→Asn}{f:FuncId}{x:Operand}(hx:Opd env x (Asn.eq (.func (.func f) #[] #[])))(hcall:∀ as w,(callFunc f as).run P w= .ok (.enter f as) w)(h:∀ s,ok s→FSpec P f (As s) (A s)):Opd env x (tF P ok As A):=
 fun a g he=>by
  have h1:a.eval x= .func (.func f) #[] #[]:=hx a g he
  have h2:=(Opd.fn (env:=env) hcall h) a g he
  rw [h1];exact h2
theorem W.condT{N:Nat}{g0:G}{T0:Nat→Prop}{ks:List KF}{B:Exit→Act→World→Prop}{x:Operand}{c c':Code}(hx:Opd env x (tB.is true))(h:W P N g0 T0 c ks B env res):W P N g0 T0 (.cond x c c') ks B env res:=W.cond hx (fun _=>h) (fun e=>by cases e)
theorem W.condF{N:Nat}{g0:G}{T0:Nat→Prop}{ks:List KF}{B:Exit→Act→World→Prop}{x:Operand}{c c':Code}(hx:Opd env x (tB.is false))(h:W P N g0 T0 c' ks B env res):W P N g0 T0 (.cond x c c') ks B env res:=W.cond hx (fun e=>by cases e) (fun _=>h)
theorem Op1.extract10{x:Operand}{A:Asn}(h:Opd env x (Asn.tuple1 A)):Op1 P ⟨d,.extract x 0,ty,pos,aft,gd⟩ env res A:=
 Op1.same fun a g hc=>by
  obtain ⟨v,hv,hA⟩:=h a g hc.henv
  exact ⟨v,by simp [execOp,hv,Instr.extract],hA⟩
end
end Go.Dec
