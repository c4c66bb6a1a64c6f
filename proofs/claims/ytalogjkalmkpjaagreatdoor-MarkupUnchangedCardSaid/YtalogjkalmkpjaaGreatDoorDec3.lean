/-
  Rules for single operations, over the logic of the first two texts.
-/
import Derived.Test.YtalogjkalmkpjaaGreatDoorDec2
set_option linter.unusedVariables false
set_option linter.unusedSimpArgs false
namespace Go.Dec
open Go
section
variable {P:Program} {env:Env} {res:Rs} {d:Option Tmp} {ty:TypeId} {pos:String} {aft:Array Edge} {gd:Option (Nat×Bool)}
theorem Op1.val{o:Oper}{A:Asn}(h:∀ a g,Cx env res a g→∃ v g',(execOp a.eval o).run P g.w= .ok (.value v) g'.w∧Ext No g g'∧A.holds v g'):Op1 P o env res A:=by
 intro a g K Q hc hK
 obtain ⟨v,g',hr,e,hv⟩:=h a g hc
 show o.upon P a K Q ((execOp a.eval o).run P g.w)
 rw [hr]
 exact hK v g' e hv
theorem Op1.same{o:Oper}{A:Asn}(h:∀ a g,Cx env res a g→∃ v,(execOp a.eval o).run P g.w= .ok (.value v) g.w∧A.holds v g):Op1 P o env res A:=
 Op1.val fun a g hc=>let ⟨v,hr,hv⟩:=h a g hc;⟨v,g,hr,Ext.refl _ _,hv⟩
theorem Op1.weak{o:Oper}{A A':Asn}(h:Op1 P o env res A)(hA:∀ v g,A.holds v g→A'.holds v g):Op1 P o env res A':=
 fun a g K Q hc hK=>h a g K Q hc fun v g' e hv=>hK v g' e (hA v g' hv)
theorem Op1.move{x:Operand}{A:Asn}(h:Opd env x A):Op1 P ⟨d,.move x,ty,pos,aft,gd⟩ env res A:=
 Op1.same fun a g hc=>⟨a.eval x,rfl,h a g hc.henv⟩
theorem Op1.assign{x:Operand}{A:Asn}(h:Opd env x A):Op1 P ⟨d,.assign x,ty,pos,aft,gd⟩ env res A:=
 Op1.same fun a g hc=>⟨a.eval x,rfl,h a g hc.henv⟩
theorem Opd.atInt{x:Operand}{k:IntKind}{n:Int}(h:Opd env x ((tI k).is n)){a:Act}{g:G}(hc:Cx env res a g):a.eval x= .int k n∧inR k n:=by
 obtain ⟨cs,⟨h1,h2⟩,hv⟩:=h a g hc.henv
 exact ⟨by rw [hv,h1];rfl,h2⟩
theorem Opd.atBool{x:Operand}{b:Bool}(h:Opd env x (tB.is b)){a:Act}{g:G}(hc:Cx env res a g):a.eval x= .bool b:=by
 obtain ⟨cs,h1,hv⟩:=h a g hc.henv
 rw [hv,show cs= [.bool b] from h1];rfl
theorem Opd.atStr{x:Operand}{l:Str}(h:Opd env x (tS.is l)){a:Act}{g:G}(hc:Cx env res a g):a.eval x= .string (Dec.str l)∧l.length≤lim:=by
 obtain ⟨cs,⟨h1,h2⟩,hv⟩:=h a g hc.henv
 exact ⟨by rw [hv,h1];rfl,h2⟩
theorem Opd.atL{α:Type}{t:Ty α}{x:Operand}{xs:List α}(h:Opd env x ((tL t).is xs)){a:Act}{g:G}(hc:Cx env res a g) :
  ∃ p c,a.eval x= .slice p xs.length c∧xs.length≤c∧xs.length≤lim∧(p=none→c=0)∧Row t g p xs:=by
 obtain ⟨cs,⟨p,c,h1,h2,h3,h4,h5⟩,hv⟩:=h a g hc.henv
 exact ⟨p,c,by rw [hv,h1];rfl,h2,h3,h4,h5⟩
theorem Asn.int{k:IntKind}{n:Int}{g:G}(h:inR k n):((tI k).is n).holds (.int k n) g:=⟨_,⟨rfl,h⟩,rfl⟩
theorem Asn.bool{b:Bool}{g:G}:(tB.is b).holds (.bool b) g:=⟨_,rfl,rfl⟩
theorem Asn.str{l:Str}{g:G}(h:l.length≤lim):(tS.is l).holds (.string (Dec.str l)) g:=⟨_,⟨rfl,h⟩,rfl⟩
theorem tLn_tL{α:Type}{t:Ty α}{xs:List α}{v:Value}{g:G}(h:((tLn t).is xs).holds v g):((tL t).is xs).holds v g:=by
 obtain ⟨cs,⟨p,c,h1,h2,h3,h4,h5,_⟩,hv⟩:=h
 exact ⟨cs,⟨p,c,h1,h2,h3,h4,h5⟩,hv⟩
theorem inR64{n:Int}:inR .i64 n ↔ -9223372036854775808≤n∧n≤9223372036854775807:=by
 unfold inR
 have h1:IntKind.i64.min= -9223372036854775808:=by decide
 have h2:IntKind.i64.max=9223372036854775807:=by decide
 rw [h1,h2]
theorem Opd.i64{env:Env}{n:Int}(h:-9223372036854775808≤n∧n≤9223372036854775807:=by omega):Opd env (.const (.int .i64 n)) ((tI .i64).is n):=.int (inR64.2 h)
theorem inR8{n:Int}:inR .u8 n ↔ 0≤n∧n≤255:=by
 unfold inR
 have h1:IntKind.u8.min=0:=by decide
 have h2:IntKind.u8.max=255:=by decide
 rw [h1,h2]
theorem inR32{n:Int}:inR .i32 n ↔ -2147483648≤n∧n≤2147483647:=by
 unfold inR
 have h1:IntKind.i32.min= -2147483648:=by decide
 have h2:IntKind.i32.max=2147483647:=by decide
 rw [h1,h2]
theorem inRlen{n:Nat}(h:n≤lim):inR .i64 (n:Int):=by
 rw [inR64];unfold lim at h;omega
theorem wrap_in{k:IntKind}{n:Int}(h:inR k n):k.wrap n=n:=by
 unfold inR at h
 cases k
 ·exact IntWalk.i8_in n h
 ·exact IntWalk.i16_in n h
 ·exact IntWalk.i32_in n h
 ·exact IntWalk.i64_in n h
 ·exact IntWalk.u8_in n h
 ·exact IntWalk.u16_in n h
 ·exact IntWalk.u32_in n h
 ·exact IntWalk.u64_in n h
theorem exec_bin{x y:Operand}{T T':TypeId}{op:BinOp}{a:Act}{w:World}{u v r:Value}(h1:a.eval x=u)(h2:a.eval y=v)(hg:eqGuard op T x y u v=pure ())(hr:(binOp op T u v).run P w= .ok r w) :
  (execOp a.eval ⟨d,.binOp op T x y T',ty,pos,aft,gd⟩).run P w= .ok (.value r) w:=by
 simp [execOp,h1,h2,hg,hr]
theorem str_append(a b:Str):Dec.str a++Dec.str b=Dec.str (a++b):=by
 ext1
 simp [Dec.str]
theorem str_toList(a:Str):(Dec.str a).toList=a:=ByteArray.toList_mk a
theorem str_size(a:Str):(Dec.str a).size=a.length:=by simp [Dec.str,ByteArray.size]
theorem str_extract(a:Str)(i j:Nat):(Dec.str a).extract i j=Dec.str ((a.take j).drop i):=by
 ext1
 simp [Dec.str,List.extract_eq_take_drop,List.drop_take]
theorem str_get(a:Str)(i:Nat):(Dec.str a)[i]? =a[i]?:=by
 by_cases h:i<a.length
 ·rw [List.getElem?_eq_getElem h,getElem?_pos (Dec.str a) i (by rw [str_size];exact h)]
  rfl
 ·rw [List.getElem?_eq_none (by omega),getElem?_neg (Dec.str a) i (by rw [str_size];exact h)]
theorem Op1.lenL{α:Type}{t:Ty α}{x:Operand}{xs:List α}{T e:TypeId}(hT:P.underlying T=some (.slice e))(h:Opd env x ((tL t).is xs)) :
  Op1 P ⟨d,.call ⟨.builtin .len,#[x],#[T]⟩,ty,pos,aft,gd⟩ env res ((tI .i64).is (xs.length:Int)):=
 Op1.same fun a g hc=>by
  obtain ⟨p,c,hv,_,h3,_⟩:=h.atL hc
  exact ⟨.int .i64 xs.length,by simp [execOp,resolve,invoke,builtin,Builtin.len_,run_underlying hT,hv,goInt],Asn.int (inRlen h3)⟩
theorem Op1.lenS{x:Operand}{l:Str}{T:TypeId}(hT:P.underlying T=some .string)(h:Opd env x (tS.is l)) :
  Op1 P ⟨d,.call ⟨.builtin .len,#[x],#[T]⟩,ty,pos,aft,gd⟩ env res ((tI .i64).is (l.length:Int)):=
 Op1.same fun a g hc=>by
  obtain ⟨hv,h3⟩:=h.atStr hc
  exact ⟨.int .i64 l.length,by simp [execOp,resolve,invoke,builtin,Builtin.len_,run_underlying hT,hv,goInt,str_size],Asn.int (inRlen h3)⟩
section
variable {x y:Operand} {k:IntKind} {m n:Int} {T T':TypeId}
theorem Op1.eqI(hx:Opd env x ((tI k).is m))(hy:Opd env y ((tI k).is n)):Op1 P ⟨d,.binOp .eql T x y T',ty,pos,aft,gd⟩ env res (tB.is (decide (m=n))):=
 Op1.same fun a g hc=>⟨.bool (decide (m=n)),exec_bin (hx.atInt hc).1 (hy.atInt hc).1 (eqGuard_at_int _ _ _ _ _ _ _) (by simp [binOp,Op.intCmp];try rfl),Asn.bool⟩
theorem Op1.neI(hx:Opd env x ((tI k).is m))(hy:Opd env y ((tI k).is n)):Op1 P ⟨d,.binOp .neq T x y T',ty,pos,aft,gd⟩ env res (tB.is (decide (m≠n))):=
 Op1.same fun a g hc=>⟨.bool (decide (m≠n)),exec_bin (hx.atInt hc).1 (hy.atInt hc).1 (eqGuard_at_int _ _ _ _ _ _ _) (by simp [binOp,Op.intCmp,bne];rfl),Asn.bool⟩
theorem Op1.ltI(hx:Opd env x ((tI k).is m))(hy:Opd env y ((tI k).is n)):Op1 P ⟨d,.binOp .lss T x y T',ty,pos,aft,gd⟩ env res (tB.is (decide (m<n))):=
 Op1.same fun a g hc=>⟨.bool (decide (m<n)),exec_bin (hx.atInt hc).1 (hy.atInt hc).1 (eqGuard_at_int _ _ _ _ _ _ _) (by simp [binOp,Op.intCmp];try rfl),Asn.bool⟩
theorem Op1.leI(hx:Opd env x ((tI k).is m))(hy:Opd env y ((tI k).is n)):Op1 P ⟨d,.binOp .leq T x y T',ty,pos,aft,gd⟩ env res (tB.is (decide (m≤n))):=
 Op1.same fun a g hc=>⟨.bool (decide (m≤n)),exec_bin (hx.atInt hc).1 (hy.atInt hc).1 (eqGuard_at_int _ _ _ _ _ _ _) (by simp [binOp,Op.intCmp];try rfl),Asn.bool⟩
theorem Op1.gtI(hx:Opd env x ((tI k).is m))(hy:Opd env y ((tI k).is n)):Op1 P ⟨d,.binOp .gtr T x y T',ty,pos,aft,gd⟩ env res (tB.is (decide (n<m))):=
 Op1.same fun a g hc=>⟨.bool (decide (n<m)),exec_bin (hx.atInt hc).1 (hy.atInt hc).1 (eqGuard_at_int _ _ _ _ _ _ _) (by simp [binOp,Op.intCmp];try rfl),Asn.bool⟩
theorem Op1.geI(hx:Opd env x ((tI k).is m))(hy:Opd env y ((tI k).is n)):Op1 P ⟨d,.binOp .geq T x y T',ty,pos,aft,gd⟩ env res (tB.is (decide (n≤m))):=
 Op1.same fun a g hc=>⟨.bool (decide (n≤m)),exec_bin (hx.atInt hc).1 (hy.atInt hc).1 (eqGuard_at_int _ _ _ _ _ _ _) (by simp [binOp,Op.intCmp];try rfl),Asn.bool⟩
theorem Op1.addI(hx:Opd env x ((tI k).is m))(hy:Opd env y ((tI k).is n))(h:inR k (m+n)):Op1 P ⟨d,.binOp .add T x y T',ty,pos,aft,gd⟩ env res ((tI k).is (m+n)):=
 Op1.same fun a g hc=>⟨.int k (m+n),by have h1:=(hx.atInt hc).1;have h2:=(hy.atInt hc).1;simp [execOp,h1,h2,binOp_add,eqGuard_add,Op.intArith,wrap_in h],Asn.int h⟩
theorem Op1.subI(hx:Opd env x ((tI k).is m))(hy:Opd env y ((tI k).is n))(h:inR k (m-n)):Op1 P ⟨d,.binOp .sub T x y T',ty,pos,aft,gd⟩ env res ((tI k).is (m-n)):=
 Op1.same fun a g hc=>⟨.int k (m-n),by have h1:=(hx.atInt hc).1;have h2:=(hy.atInt hc).1;simp [execOp,h1,h2,binOp_sub,eqGuard_sub,Op.intArith,wrap_in h],Asn.int h⟩
theorem Op1.mulI(hx:Opd env x ((tI k).is m))(hy:Opd env y ((tI k).is n))(h:inR k (m*n)):Op1 P ⟨d,.binOp .mul T x y T',ty,pos,aft,gd⟩ env res ((tI k).is (m*n)):=
 Op1.same fun a g hc=>⟨.int k (m*n),by have h1:=(hx.atInt hc).1;have h2:=(hy.atInt hc).1;simp [execOp,h1,h2,binOp_mul,eqGuard_mul,Op.intArith,wrap_in h],Asn.int h⟩
theorem Op1.quoI(hx:Opd env x ((tI k).is m))(hy:Opd env y ((tI k).is n))(h0:n≠0)(h:inR k (m.tdiv n)):Op1 P ⟨d,.binOp .quo T x y T',ty,pos,aft,gd⟩ env res ((tI k).is (m.tdiv n)):=
 Op1.same fun a g hc=>⟨.int k (m.tdiv n),by have h1:=(hx.atInt hc).1;have h2:=(hy.atInt hc).1;simp [execOp,h1,h2,eqGuard_quo,binOp,Op.intDiv,h0,wrap_in h],Asn.int h⟩
end
theorem Op1.notB{x:Operand}{b:Bool}{T:TypeId}(h:Opd env x (tB.is b)):Op1 P ⟨d,.unOp .not T x,ty,pos,aft,gd⟩ env res (tB.is (!b)):=
 Op1.same fun a g hc=>⟨.bool (!b),by have h1:=h.atBool hc;simp [execOp,h1,Op.unary],Asn.bool⟩
theorem Op1.eqB{x y:Operand}{b c:Bool}{T T':TypeId}(hT:P.underlying T=some .bool)(hx:Opd env x (tB.is b))(hy:Opd env y (tB.is c)):Op1 P ⟨d,.binOp .eql T x y T',ty,pos,aft,gd⟩ env res (tB.is (b==c)):=
 Op1.same fun a g hc=>⟨.bool (b==c),by have h1:=hx.atBool hc;have h2:=hy.atBool hc;simp [execOp,h1,h2,eqGuard_at_bool,run_eql_bool g.w T b c hT],Asn.bool⟩
theorem Op1.neB{x y:Operand}{b c:Bool}{T T':TypeId}(hT:P.underlying T=some .bool)(hx:Opd env x (tB.is b))(hy:Opd env y (tB.is c)):Op1 P ⟨d,.binOp .neq T x y T',ty,pos,aft,gd⟩ env res (tB.is (b !=c)):=
 Op1.same fun a g hc=>⟨.bool (b !=c),by have h1:=hx.atBool hc;have h2:=hy.atBool hc;simp [execOp,h1,h2,eqGuard_at_bool,run_neq_bool g.w T b c hT,bne],Asn.bool⟩
theorem Op1.pickT{x y z:Operand}{b:Bool}{A:Asn}(hx:Opd env x (tB.is b))(hb:b=true)(hy:Opd env y A):Op1 P ⟨d,.pick x y z,ty,pos,aft,gd⟩ env res A:=
 Op1.same fun a g hc=>⟨a.eval y,by have h1:=hx.atBool hc;subst hb;simp [execOp,h1,asBool],hy a g hc.henv⟩
theorem Op1.pickF{x y z:Operand}{b:Bool}{A:Asn}(hx:Opd env x (tB.is b))(hb:b=false)(hz:Opd env z A):Op1 P ⟨d,.pick x y z,ty,pos,aft,gd⟩ env res A:=
 Op1.same fun a g hc=>⟨a.eval z,by have h1:=hx.atBool hc;subst hb;simp [execOp,h1,asBool],hz a g hc.henv⟩
section
variable {x y:Operand} {l m:Str} {T T':TypeId}
theorem Op1.cat(hx:Opd env x (tS.is l))(hy:Opd env y (tS.is m))(h:l.length+m.length≤lim):Op1 P ⟨d,.binOp .add T x y T',ty,pos,aft,gd⟩ env res (tS.is (l++m)):=
 Op1.same fun a g hc=>⟨.string (Dec.str (l++m)),by
  have h1:=(hx.atStr hc).1;have h2:=(hy.atStr hc).1
  have h3:(l.length:Int)+(m.length:Int)≤9223372036854775807:=by unfold lim at h;omega
  simp [execOp,h1,h2,eqGuard_add,binOp,Op.stringOp,str_append,str_size,h3],Asn.str (by simpa using h)⟩
theorem Op1.eqS(hx:Opd env x (tS.is l))(hy:Opd env y (tS.is m)):Op1 P ⟨d,.binOp .eql T x y T',ty,pos,aft,gd⟩ env res (tB.is (l==m)):=
 Op1.same fun a g hc=>⟨.bool (l==m),by
  have h1:=(hx.atStr hc).1;have h2:=(hy.atStr hc).1
  simp [execOp,h1,h2,eqGuard_at_string,binOp,Op.stringOp,str_toList],Asn.bool⟩
theorem Op1.neS(hx:Opd env x (tS.is l))(hy:Opd env y (tS.is m)):Op1 P ⟨d,.binOp .neq T x y T',ty,pos,aft,gd⟩ env res (tB.is (l !=m)):=
 Op1.same fun a g hc=>⟨.bool (l !=m),by
  have h1:=(hx.atStr hc).1;have h2:=(hy.atStr hc).1
  simp [execOp,h1,h2,eqGuard_at_string,binOp,Op.stringOp,str_toList,bne],Asn.bool⟩
theorem Op1.indexS{k:IntKind}{i:Int}{b:UInt8}(hT:P.underlying T=some .string)(hx:Opd env x (tS.is l))(hy:Opd env y ((tI k).is i))(h0:0≤i)(hb:l[i.toNat]? =some b) :
  Op1 P ⟨d,.index T x y,ty,pos,aft,gd⟩ env res ((tI .u8).is (b.toNat:Int)):=
 Op1.same fun a g hc=>⟨.int .u8 b.toNat,by
  have h1:=(hx.atStr hc).1;have h2:=(hy.atInt hc).1
  have h3:(Dec.str l)[i.toNat]? =some b:=by rw [str_get];exact hb
  simp [execOp,h1,h2,Instr.index,asIntOf,run_underlying hT,h0,h3],Asn.int (by rw [inR8];have:=b.toNat_lt;omega)⟩
theorem Op1.sliceS{k k':IntKind}{z:Operand}{i j:Int}(hT:P.underlying T=some .string)(hx:Opd env x (tS.is l))(hy:Opd env y ((tI k).is i))(hz:Opd env z ((tI k').is j))(h0:0≤i)(h1:i≤j)(h2:j≤l.length) :
  Op1 P ⟨d,.slice T x (some y) (some z) none,ty,pos,aft,gd⟩ env res (tS.is ((l.take j.toNat).drop i.toNat)):=
 Op1.same fun a g hc=>⟨.string (Dec.str ((l.take j.toNat).drop i.toNat)),by
  have e1:=(hx.atStr hc).1;have e2:=(hy.atInt hc).1;have e3:=(hz.atInt hc).1
  have h3:0≤j:=by omega
  have h4:i≤max j 0:=by omega
  simp [execOp,e1,e2,e3,Instr.sliceAt,Instr.slice,Instr.sliceBounds,Instr.sliceBound,asIntOf,run_underlying hT,h0,h2,h3,h4,str_size,str_extract],Asn.str (by have:=(hx.atStr hc).2;simp only [List.length_drop,List.length_take];omega)⟩
theorem Op1.sliceSlo{k:IntKind}{i:Int}(hT:P.underlying T=some .string)(hx:Opd env x (tS.is l))(hy:Opd env y ((tI k).is i))(h0:0≤i)(h1:i≤l.length) :
  Op1 P ⟨d,.slice T x (some y) none none,ty,pos,aft,gd⟩ env res (tS.is (l.drop i.toNat)):=
 Op1.same fun a g hc=>⟨.string (Dec.str (l.drop i.toNat)),by
  have e1:=(hx.atStr hc).1;have e2:=(hy.atInt hc).1
  simp [execOp,e1,e2,Instr.sliceAt,Instr.slice,Instr.sliceBounds,Instr.sliceBound,asIntOf,run_underlying hT,h0,h1,str_size,str_extract],Asn.str (by have:=(hx.atStr hc).2;simp only [List.length_drop];omega)⟩
theorem Op1.sliceShi{k:IntKind}{j:Int}(hT:P.underlying T=some .string)(hx:Opd env x (tS.is l))(hy:Opd env y ((tI k).is j))(h0:0≤j)(h1:j≤l.length) :
  Op1 P ⟨d,.slice T x none (some y) none,ty,pos,aft,gd⟩ env res (tS.is (l.take j.toNat)):=
 Op1.same fun a g hc=>⟨.string (Dec.str (l.take j.toNat)),by
  have e1:=(hx.atStr hc).1;have e2:=(hy.atInt hc).1
  simp [execOp,e1,e2,Instr.sliceAt,Instr.slice,Instr.sliceBounds,Instr.sliceBound,asIntOf,run_underlying hT,h0,h1,str_size,str_extract],Asn.str (by have:=(hx.atStr hc).2;simp only [List.length_take];omega)⟩
end
theorem Row.part{α:Type}{t:Ty α}{g:G}{p:Option Addr}{xs:List α}(h:Row t g p xs)(i j:Nat)(full:Bool)(hf:full=true→xs.length≤i∨j≤i) :
  Row t g (if full=true then p else p.map (·.add (i*t.size))) ((xs.take j).drop i):=by
 cases p with
 | none=>
  have:xs= []:=h
  subst this
  cases full<;> simp [Row]
 | some a=>
  obtain ⟨hs,hx⟩:=h
  cases full with
  | true=>
   refine ⟨hs.imp (fun h=>by rw [h];simp) id,fun q x hq=>?_⟩
   have:=hf rfl
   have hl:=(List.getElem?_eq_some_iff.1 hq).1
   simp only [List.length_drop,List.length_take] at hl
   omega
  | false=>
   refine ⟨?_,fun q x hq=>?_⟩
   ·show _∨(a.add (i*t.size)).spot=none
    refine hs.imp (fun h=>by rw [h];simp) (fun hs=>?_)
    unfold Addr.add;split
    ·exact hs
    ·rfl
   ·have hq':xs[i+q]? =some x:=by
     rw [List.getElem?_drop,List.getElem?_take] at hq
     split at hq
     ·exact hq
     ·cases hq
    have:=hx (i+q) x hq'
    show t.At g (a.add (i*t.size)).block ((a.add (i*t.size)).off+q*t.size) x
    have e1:(a.add (i*t.size)).block=a.block:=by unfold Addr.add;split<;> rfl
    have e2:(a.add (i*t.size)).off=a.off+i*t.size:=by
     unfold Addr.add;split
     ·rename_i h0;rw [h0];rfl
     ·rfl
    rw [e1,e2,Nat.add_assoc,←Nat.add_mul]
    exact this
theorem sliceL_run{α:Type}{t:Ty α}{T e:TypeId}(hT:P.underlying T=some (.slice e))(hsz:∀ w,(sizeOf e).run P w= .ok t.size w){g:G}{p:Option Addr}{xs:List α}{c:Nat}(hc:xs.length≤c)(hl:xs.length≤lim)
  (hp:p=none→c=0) (hr:Row t g p xs) (lo hi:Option Value) (i j:Nat) (hij:i≤j) (hj:j≤xs.length) (hlo:match lo with | none=>i=0 | some v=>∃ k,v= .int k i) (hhi:match hi with | none=>j=xs.length | some v=>∃ k,v= .int k j) :
  ∃ v,(Instr.sliceAt T (.slice p xs.length c) lo hi none).run P g.w= .ok v g.w∧((tL t).is ((xs.take j).drop i)).holds v g:=by
 have hb:(Instr.sliceBounds true xs.length c lo hi none).run P g.w= .ok (i,j,c) g.w:=by
  cases lo with
  | none=>
   cases hi with
   | none=>simp at hlo hhi;subst hlo hhi;simp [Instr.sliceBounds]
   | some v=>
    obtain ⟨k,rfl⟩:=hhi
    simp at hlo;subst hlo
    have:j≤c:=by omega
    simp [Instr.sliceBounds,Instr.sliceBound,asIntOf,this]
  | some v=>
   obtain ⟨k,rfl⟩:=hlo
   cases hi with
   | none=>
    simp at hhi;subst hhi
    have:i≤xs.length:=by omega
    simp [Instr.sliceBounds,Instr.sliceBound,asIntOf,this]
   | some v=>
    obtain ⟨k',rfl⟩:=hhi
    have h1:j≤c:=by omega
    have h2:i≤j:=by omega
    simp [Instr.sliceBounds,Instr.sliceBound,asIntOf,h1,h2]
 refine ⟨.slice (if c=i then p else p.map (·.add (i*t.size))) (j-i) (c-i),?_,?_⟩
 ·simp [Instr.sliceAt,Instr.slice,run_underlying hT,hb,hsz]
 ·have hlen:((xs.take j).drop i).length=j-i:=by simp only [List.length_drop,List.length_take];omega
  refine ⟨[.slice (if c=i then p else p.map (·.add (i*t.size))) (j-i) (c-i)],⟨_,c-i,by rw [hlen],by rw [hlen];omega,by rw [hlen];omega,?_,?_⟩,rfl⟩
  ·intro hn
   split at hn
   ·have:=hp hn;omega
   ·cases p with
    | none=>have:=hp rfl;omega
    | some a=>cases hn
  ·have:=hr.part i j (decide (c=i)) (by intro h;have:=of_decide_eq_true h;omega)
   simpa using this
section
variable {α:Type} {t:Ty α} {x y z:Operand} {xs:List α} {T e:TypeId}
theorem Op1.sliceL{k k':IntKind}{i j:Int}(hT:P.underlying T=some (.slice e))(hsz:∀ w,(sizeOf e).run P w= .ok t.size w)(hx:Opd env x ((tL t).is xs))(hy:Opd env y ((tI k).is i))(hz:Opd env z ((tI k').is j))(h0:0≤i)(h1:i≤j)(h2:j≤xs.length) :
  Op1 P ⟨d,.slice T x (some y) (some z) none,ty,pos,aft,gd⟩ env res ((tL t).is ((xs.take j.toNat).drop i.toNat)):=
 Op1.same fun a g hc=>by
  obtain ⟨p,c,hv,h3,h4,h5,h6⟩:=hx.atL hc
  obtain ⟨v,hr,hh⟩:=sliceL_run hT hsz h3 h4 h5 h6 (some (a.eval y)) (some (a.eval z)) i.toNat j.toNat (by omega) (by omega) ⟨k,by rw [(hy.atInt hc).1];simp;omega⟩ ⟨k',by rw [(hz.atInt hc).1];simp;omega⟩
  exact ⟨v,by simp only [execOp,hv,Option.map,Sem.run_bind,hr,Result.andThen_ok];rfl,hh⟩
theorem Op1.sliceLlo{k:IntKind}{i:Int}(hT:P.underlying T=some (.slice e))(hsz:∀ w,(sizeOf e).run P w= .ok t.size w)(hx:Opd env x ((tL t).is xs))(hy:Opd env y ((tI k).is i))(h0:0≤i)(h1:i≤xs.length) :
  Op1 P ⟨d,.slice T x (some y) none none,ty,pos,aft,gd⟩ env res ((tL t).is (xs.drop i.toNat)):=
 Op1.same fun a g hc=>by
  obtain ⟨p,c,hv,h3,h4,h5,h6⟩:=hx.atL hc
  obtain ⟨v,hr,hh⟩:=sliceL_run hT hsz h3 h4 h5 h6 (some (a.eval y)) none i.toNat xs.length (by omega) (Nat.le_refl _) ⟨k,by rw [(hy.atInt hc).1];simp;omega⟩ rfl
  exact ⟨v,by simp only [execOp,hv,Option.map,Sem.run_bind,hr,Result.andThen_ok];rfl,by simpa using hh⟩
theorem Op1.sliceLhi{k:IntKind}{j:Int}(hT:P.underlying T=some (.slice e))(hsz:∀ w,(sizeOf e).run P w= .ok t.size w)(hx:Opd env x ((tL t).is xs))(hy:Opd env y ((tI k).is j))(h0:0≤j)(h1:j≤xs.length) :
  Op1 P ⟨d,.slice T x none (some y) none,ty,pos,aft,gd⟩ env res ((tL t).is (xs.take j.toNat)):=
 Op1.same fun a g hc=>by
  obtain ⟨p,c,hv,h3,h4,h5,h6⟩:=hx.atL hc
  obtain ⟨v,hr,hh⟩:=sliceL_run hT hsz h3 h4 h5 h6 none (some (a.eval y)) 0 j.toNat (by omega) (by omega) rfl ⟨k,by rw [(hy.atInt hc).1];simp;omega⟩
  exact ⟨v,by simp only [execOp,hv,Option.map,Sem.run_bind,hr,Result.andThen_ok];rfl,by simpa using hh⟩
theorem Op1.indexAddr{k:IntKind}{i:Int}{u:α}(hT:P.underlying T=some (.slice e))(hsz:∀ w,(sizeOf e).run P w= .ok t.size w)(hx:Opd env x ((tL t).is xs))(hy:Opd env y ((tI k).is i))(h0:0≤i)(hu:xs[i.toNat]? =some u) :
  Op1 P ⟨d,.indexAddr T x y,ty,pos,aft,gd⟩ env res (t.ptr u):=
 Op1.same fun a g hc=>by
  obtain ⟨p,c,hv,h3,h4,h5,h6⟩:=hx.atL hc
  have h1:=(hy.atInt hc).1
  have hl:=(List.getElem?_eq_some_iff.1 hu).1
  cases p with
  | none=>rw [show xs= [] from h6] at hl;simp at hl
  | some ad=>
   obtain ⟨hs,hrow⟩:=h6
   refine ⟨.pointer (some (ad.add (i.toNat*t.size))),?_,?_⟩
   ·have hlt:i<(xs.length:Int):=by omega
    simp [execOp,Instr.indexAt,asIntOf,hv,h1,run_underlying hT,hsz,h0,hlt]
   ·refine ⟨ad.block,ad.off+i.toNat*t.size,?_,hrow _ _ hu⟩
    obtain ⟨b,o,s⟩:=ad
    replace hs:=hs.resolve_left (fun h=>by rw [h] at hu;simp at hu)
    simp at hs;subst hs
    unfold Addr.add;split
    ·rename_i hz;simp [hz]
    ·rfl
end
structure TyAt (P:Program) {α:Type} (T:TypeId) (t:Ty α):Prop where
 agg:∀ w,(isAgg T).run P w= .ok t.agg w
 size:∀ w,(sizeOf T).run P w= .ok t.size w
theorem At.load{α:Type}{t:Ty α}{T:TypeId}(ht:TyAt P T t){g:G}{b o:Nat}{x:α}(h:t.At g b o x):∃ v,(loadVar T ⟨b,o,none⟩).run P g.w= .ok v g.w∧(t.is x).holds v g:=by
 obtain ⟨cs,h1,h2⟩:=h
 refine ⟨mkVal t.agg cs,?_,⟨cs,h1,rfl⟩⟩
 have hcell:∀ j v,cs[j]? =some v→g.w.cell? ((⟨b,o,none⟩:Addr).add j)=some v:=fun j v hj=>by
  rw [Addr.add_lit];exact (h2 j v hj).2
 have hl:=run_loadCells_list (P:=P) g.w ⟨b,o,none⟩ cs hcell
 rw [t.len h1] at hl
 unfold mkVal
 cases ha:t.agg with
 | true=>
  have hagg:=ht.agg g.w
  rw [ha] at hagg
  simp [loadVar,hagg,ht.size,hl]
 | false=>
  have hagg:=ht.agg g.w
  rw [ha] at hagg
  have hlen:=t.len h1
  rw [t.sing ha] at hlen
  match cs,hlen with
  | [c],_=>
   have hc0:=hcell 0 c rfl
   rw [Addr.add_zero'] at hc0
   simp [loadVar,hagg,hc0]
theorem Op1.load{α:Type}{t:Ty α}{T:TypeId}{x:Operand}{u:α}(ht:TyAt P T t)(h:Opd env x (t.ptr u)):Op1 P ⟨d,.load T x,ty,pos,aft,gd⟩ env res (t.is u):=
 Op1.same fun a g hc=>by
  obtain ⟨b,o,hv,hat⟩:=h a g hc.henv
  obtain ⟨v,hr,hh⟩:=At.load ht hat
  exact ⟨v,by simp [execOp,hv,Instr.loadAt,Instr.sureAddr,hr],hh⟩
theorem Op1.fieldAddr{α β:Type}{s:Ty α}{t:Ty β}{f:α→β}{T:TypeId}{fs:Array Field}{fd:Field}{n:Nat}{x:Operand}{u:α}(hT:P.underlying T=some (.struct fs))(hf:fs[n]? =some fd)
  (hz:∀ w,∃ m,(sizeOf fd.type).run P w= .ok (m+1) w) (hF:Fld s fd.offset t f) (h:Opd env x (s.ptr u)):Op1 P ⟨d,.fieldAddr T x n,ty,pos,aft,gd⟩ env res (t.ptr (f u)):=
 Op1.same fun a g hc=>by
  obtain ⟨b,o,hv,hat⟩:=h a g hc.henv
  obtain ⟨m,hm⟩:=hz g.w
  refine ⟨.pointer (some ⟨b,o+fd.offset,none⟩),?_,⟨b,o+fd.offset,rfl,hF.at hat⟩⟩
  simp [execOp,hv,Instr.fieldAt,run_underlying hT,hf,Instr.sureAddr,fieldPlace,hm,Addr.add_lit]
theorem Op1.nilCheck{x:Operand}{α:Type}{s:Ty α}{u:α}(h:Opd env x (s.ptr u)):Op1 P ⟨d,.nilCheck x,ty,pos,aft,gd⟩ env res (s.ptr u):=
 Op1.same fun a g hc=>by
  obtain ⟨b,o,hv,hat⟩:=h a g hc.henv
  exact ⟨_,by simp [execOp,hv],⟨b,o,rfl,hat⟩⟩
theorem Op1.extract0{x:Operand}{A B:Asn}(h:Opd env x (Asn.tuple2 A B)):Op1 P ⟨d,.extract x 0,ty,pos,aft,gd⟩ env res A:=
 Op1.same fun a g hc=>by
  obtain ⟨u,v,hv,h1,_⟩:=h a g hc.henv
  exact ⟨u,by simp [execOp,hv,Instr.extract],h1⟩
theorem Op1.extract1{x:Operand}{A B:Asn}(h:Opd env x (Asn.tuple2 A B)):Op1 P ⟨d,.extract x 1,ty,pos,aft,gd⟩ env res B:=
 Op1.same fun a g hc=>by
  obtain ⟨u,v,hv,_,h1⟩:=h a g hc.henv
  exact ⟨v,by simp [execOp,hv,Instr.extract],h1⟩
theorem Op1.extract30{x:Operand}{A B C:Asn}(h:Opd env x (Asn.tuple3 A B C)):Op1 P ⟨d,.extract x 0,ty,pos,aft,gd⟩ env res A:=
 Op1.same fun a g hc=>by
  obtain ⟨u,v,w,hv,h1,_⟩:=h a g hc.henv
  exact ⟨u,by simp [execOp,hv,Instr.extract],h1⟩
theorem Op1.extract31{x:Operand}{A B C:Asn}(h:Opd env x (Asn.tuple3 A B C)):Op1 P ⟨d,.extract x 1,ty,pos,aft,gd⟩ env res B:=
 Op1.same fun a g hc=>by
  obtain ⟨u,v,w,hv,_,h1,_⟩:=h a g hc.henv
  exact ⟨v,by simp [execOp,hv,Instr.extract],h1⟩
theorem Op1.extract32{x:Operand}{A B C:Asn}(h:Opd env x (Asn.tuple3 A B C)):Op1 P ⟨d,.extract x 2,ty,pos,aft,gd⟩ env res C:=
 Op1.same fun a g hc=>by
  obtain ⟨u,v,w,hv,_,_,h1⟩:=h a g hc.henv
  exact ⟨w,by simp [execOp,hv,Instr.extract],h1⟩
def Opds(env:Env):List Operand→List Asn→Prop
 | [],[]=>True
 | x :: xs,A :: As=>Opd env x A∧Opds env xs As
 | _,_=>False
theorem Opds.all{env:Env}{a:Act}{g:G}(he:∀ s B,look s env=some B→B.holds (a.tmps.getD s undef) g):∀ {xs:List Operand} {As:List Asn},Opds env xs As→All2 As (xs.map a.eval) g
 | [],[],_=>trivial
 | x :: xs,A :: As,h=>⟨h.1 a g he,Opds.all he h.2⟩
 | [],_ :: _,h=>h.elim
 | _ :: _,[],h=>h.elim
theorem Op1.of_calls{o:Oper}{A:Asn}(h:∀ a g,Cx env res a g→∃ f vs,(execOp a.eval o).run P g.w= .ok (.enter f vs) g.w∧
  Calls P f vs g.w fun e w'=>∃ v g',g'.w=w'∧e= .returned v∧Ext No g g'∧A.holds v g'):Op1 P o env res A:=by
 intro a g K Q hc hK
 obtain ⟨f,vs,hr,hcall⟩:=h a g hc
 show o.upon P a K Q ((execOp a.eval o).run P g.w)
 rw [hr]
 refine hcall.mono ?_
 rintro e w' ⟨v,g',rfl,rfl,h1,h2⟩
 exact hK v g' h1 h2
theorem OpR.of_calls{o:Oper}{us:List Nat}{ρ:Type}{A:ρ→Asn}{out:ρ→Rs}(h:∀ a g,Cx env res a g→res.dis→∃ f vs,(execOp a.eval o).run P g.w= .ok (.enter f vs) g.w∧
  Calls P f vs g.w fun e w'=>∃ x v g',g'.w=w'∧e= .returned v∧Ext (res.pick us).blks g g'∧(A x).holds v g'∧(out x).all g'∧(out x).dis∧(∀ b,(out x).blks b→(res.pick us).blks b∨g.w.heap.size≤b)) :
  OpR P o env res us A out:=by
 intro a g K Q hc hd hK
 obtain ⟨f,vs,hr,hcall⟩:=h a g hc hd
 show o.upon P a K Q ((execOp a.eval o).run P g.w)
 rw [hr]
 refine hcall.mono ?_
 rintro e w' ⟨x,v,g',rfl,rfl,h1,h2,h3,h4,h5⟩
 exact hK x v g' h1 h2 h3 h4 h5
theorem exec_call(hb:∀ f:FuncId,f=f){f:FuncId}(hcall:∀ as w,(callFunc f as).run P w= .ok (.enter f as) w){xs:List Operand}{ats:Array TypeId}(a:Act)(w:World) :
  (execOp a.eval ⟨d,.call ⟨.value (.func f),xs.toArray,ats⟩,ty,pos,aft,gd⟩).run P w= .ok (.enter f (xs.map a.eval).toArray) w:=by
 simp [execOp,resolve,Act.eval,Deferred.ofValue,invoke,hcall]
theorem Op1.call{f:FuncId}{xs:List Operand}{ats:Array TypeId}{As:List Asn}{A:Asn}(hcall:∀ as w,(callFunc f as).run P w= .ok (.enter f as) w)(hf:FSpec P f As A)(hx:Opds env xs As) :
  Op1 P ⟨d,.call ⟨.value (.func f),xs.toArray,ats⟩,ty,pos,aft,gd⟩ env res A:=
 Op1.of_calls fun a g hc=>⟨f,_,exec_call (fun _=>rfl) hcall a g.w,hf g _ (Opds.all hc.henv hx)⟩
theorem OpR.call{f:FuncId}{xs:List Operand}{ats:Array TypeId}{As:List Asn}{us:List Nat}{rin:Rs}{ρ:Type}{A:ρ→Asn}{out:ρ→Rs}(hcall:∀ as w,(callFunc f as).run P w= .ok (.enter f as) w)
  (hf:FSpecR P f As rin A out) (hr:res.pick us=rin) (hx:Opds env xs As):OpR P ⟨d,.call ⟨.value (.func f),xs.toArray,ats⟩,ty,pos,aft,gd⟩ env res us A out:=
 OpR.of_calls fun a g hc hd=>⟨f,_,exec_call (fun _=>rfl) hcall a g.w,by
  subst hr
  exact hf g _ (Opds.all hc.henv hx) (fun y hy=>hc.hres y (List.mem_filter.1 hy).1) (hd.filter _)⟩
def Does(P:Program)(As:List Asn)(A:Asn)(f:FuncId)(pre cap:Array Value)(g:G):Prop:=
 ∀ T g1,Ext T g g1→∀ vs,All2 As vs g1→Calls P f (pre++vs.toArray++cap) g1.w fun e w'=>∃ v g',g'.w=w'∧e= .returned v∧Ext No g1 g'∧A.holds v g'
theorem Does.mono{As:List Asn}{A:Asn}{f:FuncId}{pre cap:Array Value}{T:Nat→Prop}{g g':G}(e:Ext T g g')(h:Does P As A f pre cap g):Does P As A f pre cap g':=
 fun T' g1 e1=>h (fun b=>T b∨T' b) g1 ((e.mono fun _ h=>.inl h).trans e1 (fun _ _ h=>.inr h))
end
end Go.Dec
