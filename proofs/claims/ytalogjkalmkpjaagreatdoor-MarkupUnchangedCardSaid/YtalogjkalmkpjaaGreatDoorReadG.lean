/-
  Readings of package variables whose contents are given, and the last step of a row whose law leans on them.
-/
import Derived.Test.YtalogjkalmkpjaaGreatDoorReadL
import Derived.MakeChecks
set_option linter.unusedVariables false
set_option linter.unusedSimpArgs false
namespace Go.Dec
open Go Go.RowKit Go.WideShapes Go.ChangeShapes
def RdV(P:Program)(W:World)(T:TypeId){α:Type}(t:Ty α)(d:DataW Unit)(x:α):Prop:=
 ∀ (spare:Nat→Bool) (held:Bool) (fuel:Nat) (cs:List Value) (ps:List MemPlace),DataW.trod (fun _=>()) P W 0 spare held fuel T cs=some (d,ps)→t.rep (G.top W) cs x
section
variable {P:Program} {W:World}
theorem RdV.int{T:TypeId}{k:IntKind}{n:Int}(hT:P.underlying T=some (.int k))(hn:inR k n):RdV P W T (tI k) (.lit (.int k n)) n:=by
 intro spare held fuel cs ps h
 obtain ⟨m,rfl,hx,_⟩:=DataW.trod_int hT h
 simp only [Prod.mk.injEq,DataW.lit.injEq,Lit.int.injEq,true_and] at hx
 rw [←hx.1]
 exact ⟨rfl,hn⟩
theorem RdV.string{T:TypeId}{l:Str}(hT:P.underlying T=some .string)(hl:l.length≤lim):RdV P W T tS (.lit (.string l)) l:=by
 intro spare held fuel cs ps h
 obtain ⟨s,rfl,hx,_⟩:=DataW.trod_string hT h
 simp only [Prod.mk.injEq,DataW.lit.injEq,Lit.string.injEq] at hx
 refine ⟨?_,hl⟩
 rw [hx.1]
 simp [str]
def RdVs(P:Program)(W:World)(E:TypeId){α:Type}(t:Ty α):List (DataW Unit)→List α→Prop
 | [],[]=>True
 | d :: ds,x :: xs=>RdV P W E t d x∧RdVs P W E t ds xs
 | _,_=>False
theorem RdVs.len{E:TypeId}{α:Type}{t:Ty α}:∀ {ds:List (DataW Unit)} {xs:List α},RdVs P W E t ds xs→ds.length=xs.length
 | [],[],_=>rfl
 | _ :: ds,_ :: xs,h=>by simp [RdVs.len h.2]
 | [],_ :: _,h=>h.elim
 | _ :: _,[],h=>h.elim
theorem RdVs.get{E:TypeId}{α:Type}{t:Ty α}:∀ {ds:List (DataW Unit)} {xs:List α},RdVs P W E t ds xs→∀ (i:Nat) (x:α),xs[i]? =some x→∃ d,ds[i]? =some d∧RdV P W E t d x
 | d :: ds,y :: xs,h,0,x,hx=>by
  simp at hx;subst hx
  exact ⟨d,rfl,h.1⟩
 | d :: ds,y :: xs,h,i+1,x,hx=>by
  simp at hx
  obtain ⟨e,he,hr⟩:=RdVs.get h.2 i x hx
  exact ⟨e,by simpa using he,hr⟩
 | [],[],_,i,x,hx=>by simp at hx
theorem RdV.nil{T e:TypeId}{α:Type}{t:Ty α}(hT:P.underlying T=some (.slice e)):RdV P W T (tL t) .nil []:=by
 intro spare held fuel cs ps h
 rcases DataW.trod_slice hT h with ⟨rfl,_⟩ | ⟨a,len,cap,elems,rest,n,_,_,hx,_⟩
 ·exact ⟨none,0,rfl,Nat.zero_le _,Nat.zero_le _,fun _=>rfl,rfl⟩
 ·simp at hx
theorem RdV.slice{T e:TypeId}{α:Type}{t:Ty α}{ds rs:List (DataW Unit)}{xs:List α}(hT:P.underlying T=some (.slice e))(hc:P.cellsOf e=t.size)(h0:0<t.size)(hl:xs.length≤lim)(hd:RdVs P W e t ds xs):RdV P W T (tL t) (.slice ds rs) xs:=by
 intro spare held fuel cs ps h
 rcases DataW.trod_slice hT h with ⟨_,hx⟩ | ⟨a,len,cap,elems,rest,n,_,rfl,hx,_,hlc,_,hlen,hel,_,_⟩
 ·simp at hx
 ·simp only [Prod.mk.injEq,DataW.slice.injEq] at hx
  have hds:=hx.1.1
  have hxl:len=xs.length:=by
   have:=hd.len
   rw [hds,List.length_map] at this
   omega
  subst hxl
  have key:∀ (i:Nat) (x:α),xs[i]? =some x→(i=0→a.spot=none)∧t.At (G.top W) a.block (a.off+i*t.size) x∧(i=0→t.size=0→True):=by
   intro i x hx
   obtain ⟨d,hdi,hr⟩:=hd.get i x hx
   have hi:i<xs.length:=(List.getElem?_eq_some_iff.1 hx).1
   have h1:=hel i hi
   have hi':i<elems.length:=by omega
   rw [List.getElem?_eq_getElem hi',Option.bind_eq_some_iff] at h1
   obtain ⟨cs',hcs,htr⟩:=h1
   have hde:elems[i].1=d:=by
    rw [hds] at hdi
    simpa [hi'] using hdi
   have hrep:=hr spare held n cs' elems[i].2 (by rw [←hde];exact htr)
   obtain ⟨_,hlen',hcell⟩:=World.cells?_some hcs
   have hA:∀ j v,cs'[j]? =some v→(G.top W).Has a.block (a.off+i*t.size+j) v∧(i*t.size+j=0→a.spot=none):=by
    intro j v hj
    have hlt:=(List.getElem?_eq_some_iff.1 hj).1
    have hc1:W.cell? ((a.add (i*P.cellsOf e)).add j)=some v:=by
     have:=hcell j (by omega)
     rw [this];exact hj
    obtain ⟨hs,hh⟩:=top_has hc1
    have hbk:((a.add (i*P.cellsOf e)).add j).block=a.block:=by unfold Addr.add;split<;> split<;> rfl
    have hof:((a.add (i*P.cellsOf e)).add j).off=a.off+i*t.size+j:=by
     rw [hc];unfold Addr.add;split<;> split<;> simp_all<;> omega
    rw [hbk,hof] at hh
    refine ⟨hh,fun hz=>?_⟩
    have h3:i*P.cellsOf e=0:=by rw [hc];omega
    have h4:j=0:=by omega
    rw [h3,h4] at hs
    exact hs
   refine ⟨fun hi0=>?_,⟨cs',hrep,fun j v hj=>(hA j v hj).1⟩,fun _ _=>trivial⟩
   have hz:0<cs'.length:=by omega
   obtain ⟨_,hs⟩:=hA 0 cs'[0] (List.getElem?_eq_getElem hz)
   exact hs (by rw [hi0];simp)
  refine ⟨some a,cap,rfl,hlc,hl,(fun h=>by cases h),?_,fun i x hi=>(key i x hi).2.1⟩
  cases xs with
  | nil=>exact .inl rfl
  | cons x r=>exact .inr ((key 0 x rfl).1 rfl)
theorem RdV.array{T e:TypeId}{α:Type}{t:Ty α}{n:Nat}{ds:List (DataW Unit)}{xs:List α}(hT:P.underlying T=some (.array n e))(hc:P.cellsOf e=t.size)(hct:P.cellsOf T=n*t.size)(hn:xs.length=n)(hd:RdVs P W e t ds xs):RdV P W T (tA n t) (.agg ds) xs:=by
 intro spare held fuel cs ps h
 obtain ⟨ys,m,_,hx,hcl,hyl,hel⟩:=DataW.trod_array hT h
 simp only [Prod.mk.injEq,DataW.agg.injEq] at hx
 have hds:=hx.1
 rw [hct] at hcl
 have key:∀ (i:Nat) (x:α),xs[i]? =some x→t.rep (G.top W) ((cs.drop (i*t.size)).take t.size) x:=by
  intro i x hx
  obtain ⟨d,hdi,hr⟩:=hd.get i x hx
  have hi:i<n:=by have:=(List.getElem?_eq_some_iff.1 hx).1;omega
  have h1:=hel i hi
  have hi':i<ys.length:=by omega
  rw [List.getElem?_eq_getElem hi',hc] at h1
  have hde:ys[i].1=d:=by
   rw [hds] at hdi
   simpa [hi'] using hdi
  exact hr spare held m _ ys[i].2 (by rw [←hde];exact h1)
 have hcells:∀ (xs:List α) (cs:List Value),cs.length=xs.length*t.size→(∀ (i:Nat) (x:α),xs[i]? =some x→t.rep (G.top W) ((cs.drop (i*t.size)).take t.size) x)→Cells t (G.top W) cs xs:=by
  intro xs
  induction xs with
  | nil=>
   intro cs hl _
   have:cs= []:=by simpa using hl
   rw [this];exact Cells.nil
  | cons x xs ih=>
   intro cs hl hk
   have h0:=hk 0 x rfl
   rw [Nat.zero_mul,List.drop_zero] at h0
   have:=Cells.cons h0 (ih (cs.drop t.size) (by rw [List.length_drop,hl,List.length_cons,Nat.add_mul];omega) fun i y hy=>by
    have:=hk (i+1) y (by simpa using hy)
    rw [List.drop_drop]
    rwa [show t.size+i*t.size=(i+1)*t.size by rw [Nat.add_mul];omega])
   rwa [List.take_append_drop] at this
 exact ⟨hn,hcells xs cs (by rw [hcl,hn]) key⟩
theorem laid_at{laid:List (String×DataW Unit)}:∀ {ps:List MemPlace},DataW.LaidVars P W laid ps→∀ {name:String} {d:DataW Unit},(name,d)∈laid→
  ∃ g t cs fuel qs,P.globalNamed name=some g∧(P.globals[g]?).map (·.type)=some t∧W.var? P name=some cs∧DataW.trod (fun _=>()) P W 0 (fun _=>true) false fuel t cs.toList=some (d,qs):=by
 induction laid with
 | nil=>intro ps _ name d hm;cases hm
 | cons y laid ih=>
  intro ps h name d hm
  obtain ⟨n,d'⟩:=y
  obtain ⟨g,t,cs,fuel,p,q,h1,h2,h3,h4,h5,_⟩:=h
  rcases List.mem_cons.1 hm with e | hm
  ·cases e
   exact ⟨g,t,cs,fuel,p,h1,h2,h3,h4⟩
  ·exact ih h5 hm
theorem Gl.ofLaid{laid:List (String×DataW Unit)}(hp:(laid.all fun x=>x.2.handleName?.isNone)=true)(h:laidMetH P laid W){name:String}{d:DataW Unit}(hm:(name,d)∈laid){b:Nat}{T:TypeId}{α:Type}{t:Ty α}{x:α}
  (hg:P.globalNamed name=some b) (hT:(P.globals[b]?).map (·.type)=some T) (hr:RdV P W T t d x):(Gl t b x).holds (G.top W):=by
 rw [MakeChecks.laidMetH_plain _ _ _ hp] at h
 obtain ⟨ps,hl,_⟩:=h
 obtain ⟨g,t',cs,fuel,qs,h1,h2,h3,h4⟩:=laid_at hl hm
 obtain rfl:=Option.some.inj (hg.symm.trans h1)
 obtain rfl:=Option.some.inj (hT.symm.trans h2)
 refine ⟨cs.toList,hr _ _ _ _ _ h4,fun j v hj=>?_⟩
 have hc:=World.var?_cell h1 h3 j
 have hj':cs[j]? =some v:=by simpa using hj
 rw [hj'] at hc
 have:=(top_has hc).2
 rw [Nat.zero_add]
 exact this
end
section
variable {P:Program} {H:Type}
theorem lifted_of_law_GS{C:Checked}{os:Os}{f:FuncId}{fn:Func}{s:ChangeSpec}{conds:List PathCond}{apart fresh handsOn again:Bool}{tb:TypeId}{enc:TypeId×Value→H}{X:World→Array Value→Prop}(hX:∀ (w w':World) (args:Array Value),w.heap=w'.heap→X w args→X w' args)
  (own:ownKnob C.prog.godebug=none) (started:os.Started) (noInit:C.prog.inits.idxOf? f=none) (hfn:C.prog.funcs[f]? =some fn)
  (witness:∃ (w:World) (tape:Tape) (i:Input),w.os=os∧(w.forCall tape i).Shaped C.prog∧i.vars= []∧Input.okWide C.prog (w.forCall tape i) .any w.heap.size f i∧
   ((s.pre enc C.prog fn conds apart (w.forCall tape i).memory i.args∧X (w.forCall tape i).memory i.args)∧sizedMet enc C.prog fn (OpenSpec.ofChange s) apart (w.forCall tape i).memory i.args)∧Assume.holds {} C.prog (lone (Frame.enter C.prog f i.args .normal) [] (w.forCall tape i)))
  (hl:laidOutB C.prog=true) (hr:fn.params.toList.all (fun t=>C.prog.readableRec t && decide (t<C.prog.types.size))=true)
  (hres:fn.resultTypes= #[tb]) (htb:C.prog.underlying tb=some .bool) (hvars:s.vars= [])
  (hs:∀ ds:List (DataW H),ds.length=fn.params.toList.length→(s.fn H ds).results= [.lit (.bool true)]∧(s.fn H ds).args=ds∧(s.fn H ds).vars= [])
  (law:∀ W base vs,(∃ args,X W args)→W.ShapedOpen C.prog→ArgsOk C.prog W base fn.params.toList vs→∃ As rin,All2 As vs (G.top W)∧rin.all (G.top W)∧NoBlk rin∧FSpecR C.prog f As rin (fun _:Unit=>tB.is true) (fun _=>[])) :
  ReturnsInHanded {} C os f .any (fun w args=>(s.pre enc C.prog fn conds apart w args∧X w args)∧sizedMet enc C.prog fn (OpenSpec.ofChange s) apart w args) (s.post enc C.prog fn apart fresh handsOn again):=by
 refine returnsInHanded_of_calls own started noInit witness ?_
 intro w tape i _ hsh _ hok hpre hholds
 obtain ⟨_,_,_,fn',hfn',_,_,_,_,hval⟩:=hok
 have e:fn=fn':=Option.some.inj (hfn.symm.trans hfn')
 subst e
 obtain ⟨⟨⟨ds,gs,before,hw,hc⟩,hx⟩,hz⟩:=hpre
 have hw':=DataW.Whole.of_heap (w':=w.forCall tape i) (by rfl) hw
 refine (show Calls C.prog f i.args (w.forCall tape i) fun e W'=>∃ v,e= .returned v∧s.post enc C.prog fn apart fresh handsOn again (w.forCall tape i) i.args v W' from ?_).mono fun e W' ⟨v,he,hp⟩=>by
  subst he
  exact ChangeSpec.post_blind hp
 have hX2:=hX _ (w.forCall tape i) i.args (by rfl) hx
 have hsz:(DataW.weightsEach C.prog (fn.params.toList++s.plain.varTypes C.prog) (ds++gs)).all (· ≤reachBytes)=true:=hz.weights hw
 have hval:=hval
 generalize hbase:w.heap.size=base at hval
 generalize w.forCall tape i=W at *
 generalize i.args=args at *
 have hW:=hw'
 have hW':=hW
 obtain ⟨p,q,hA,hV,rfl,hfz,hnd⟩:=hW
 rw [hvars] at hV
 have hg:gs= []∧q= []:=by
  cases gs with
  | nil=>exact ⟨rfl,hV⟩
  | cons _ _=>exact hV.elim
 obtain ⟨rfl,rfl⟩:=hg
 have hlt:∀ x∈p,x.block<W.heap.size:=fun x hx=>hW'.lt x (by simpa using hx)
 have hr':∀ t∈fn.params.toList,C.prog.readableRec t=true∧t<C.prog.types.size:=fun t ht=>by
  have:=List.all_eq_true.1 hr t ht
  simpa using this
 have hvt:s.plain.varTypes C.prog= []:=by
  have:s.plain.vars= []:=hvars
  simp [DataSpec.varTypes,this]
 have hsz':∀ n∈DataW.weightsEach C.prog fn.params.toList ds,n≤reachBytes:=fun n hn=>by
  have:=List.all_eq_true.1 hsz n (by rw [hvt];simpa using hn)
  simpa using this
 obtain ⟨As,rin,hvs,hr2,hnb,hspec⟩:=law W base args.toList ⟨args,hX2⟩ hsh ⟨H,enc,ds,p,hA,hsz',fun j t v hj hv=>hval j t v (by simpa using hj) (by simpa using hv)⟩
 have:=calls_G hspec hnb hvs hr2
 refine (show Calls C.prog f args W _ from by simpa [G.top] using this).mono ?_
 rintro e W' ⟨v,g',rfl,rfl,hext,cs,hcs,hv⟩
 have hcs':cs= [.bool true]:=hcs
 subst hcs'
 have hv':v= .bool true:=hv
 subst hv'
 have hb:Below W.heap.size W g'.w:=Ext.below hext
 have hlen:(ds++ []).length=fn.params.toList.length:=by rw [List.append_nil];exact trodAll_len hA
 obtain ⟨hs1,hs2,hs3⟩:=hs (ds++ []) hlen
 refine ⟨_,rfl,post_of_below (pa:=p) (pv:=[]) hW' ?_ ?_ ?_ rfl hb (ok_one hres rfl (okWide_bool_mk htb true))⟩
 ·intro b sp hd
  rw [hs1,hres]
  exact trodAll_mk1 (shut_bool htb true)
 ·intro sp hsp
  rw [hs2,List.append_nil]
  exact trodAll_stays hl hb hr' hA hlt (fun x hx=>hsp x (by simpa using hx))
 ·intro sp _
  rw [hs3,hvars]
  rfl
end
end Go.Dec
