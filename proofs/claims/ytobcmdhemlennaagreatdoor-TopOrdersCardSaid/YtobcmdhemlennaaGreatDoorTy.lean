/-
  How the types of the program are read.
-/
import Derived.Test.YtobcmdhemlennaaGreatDoorReadF
import Derived.Test.YtobcmdhemlennaaGreatDoorDec32
import Derived.Test.YtobcmdhemlennaaGreatDoorDec46
import Derived.Test.YtobcmdhemlennaaGreatDoorDec53
import Derived.Test.YtobcmdhemlennaaGreatDoorMdl
import Derived.Test.YtobcmdhemlennaaGreatDoorProg
import Derived.Test.YtobcmdhemlennaaGreatDoorDec51
import Derived.KernelRfl
set_option maxRecDepth 100000
namespace Go.Proofs.YtobcmdhemlennaaGreatDoor
open Go Go.Dec
theorem Tryz.mixed:Tryz.prog.follows .mixedOrders=true:=by kernel_rfl
def aH:Ty ai:=tMap (tP (tI .i64) (tP (tI .i64) (tOne (tI .i64)))) (λx:ai=>(x.Act,x.Item,x.N))
abbrev DL:FC aH 0 _ (tI .i64) ai.Act:=fm Fh
abbrev LQ:SFC aH 0 _ (tI .i64) (λx y=>{x with Act:=y}):=sm Sh
abbrev DN:FC aH 1 _ (tI .i64) ai.Item:=fm (Fk Fh)
abbrev LU:SFC aH 1 _ (tI .i64) (λx y=>{x with Item:=y}):=sm (Sk Sh)
abbrev DR:FC aH 2 _ (tI .i64) ai.N:=fm (Fk (Fk Fo))
abbrev LV:SFC aH 2 _ (tI .i64) (λx y=>{x with N:=y}):=sm (Sk (Sk So))
def zX(fd:Field):Nat:=if fd.type=3 then 1 else 0
theorem Ca:∀ fs,Tryz.prog.underlying 23=some (.struct fs)->∀ fd,fd∈fs->∀ w,(sizeOf fd.type).run Tryz.prog w= .ok (zX fd) w:=by
 intro fs h;rw [Tryz.underlying23] at h;cases h;intro fd hfd w;simp only [List.mem_toArray,List.mem_cons,List.not_mem_nil,or_false] at hfd;rcases hfd with rfl | rfl | rfl
 .exact Tryz.sizeOf3 w
 .exact Tryz.sizeOf3 w
 .exact Tryz.sizeOf3 w
def jZ:Ty kU:=tMap (tP (tI .i64) (tP (tI .i64) (tOne (tI .i64)))) (λx:kU=>(x.Act,x.Item,x.At))
abbrev Gh:FC jZ 0 _ (tI .i64) kU.Act:=fm Fh
abbrev Tp:SFC jZ 0 _ (tI .i64) (λx y=>{x with Act:=y}):=sm Sh
abbrev Gi:FC jZ 1 _ (tI .i64) kU.Item:=fm (Fk Fh)
abbrev Tq:SFC jZ 1 _ (tI .i64) (λx y=>{x with Item:=y}):=sm (Sk Sh)
abbrev Gj:FC jZ 2 _ (tI .i64) kU.At:=fm (Fk (Fk Fo))
abbrev Tt:SFC jZ 2 _ (tI .i64) (λx y=>{x with At:=y}):=sm (Sk (Sk So))
def wJ(fd:Field):Nat:=if fd.type=3 then 1 else 0
theorem zn:∀ fs,Tryz.prog.underlying 104=some (.struct fs)->∀ fd,fd∈fs->∀ w,(sizeOf fd.type).run Tryz.prog w= .ok (wJ fd) w:=by
 intro fs h;rw [Tryz.underlying104] at h;cases h;intro fd hfd w;simp only [List.mem_toArray,List.mem_cons,List.not_mem_nil,or_false] at hfd;rcases hfd with rfl | rfl | rfl
 .exact Tryz.sizeOf3 w
 .exact Tryz.sizeOf3 w
 .exact Tryz.sizeOf3 w
def aj:Ty af:=tMap (tP tS (tOne jZ)) (λx:af=>(x.Text,x.By))
abbrev Gm:FC aj 0 _ tS af.Text:=fm Fh
abbrev Tu:SFC aj 0 _ tS (λx y=>{x with Text:=y}):=sm Sh
abbrev Gn:FC aj 1 _ jZ af.By:=fm (Fk Fo)
abbrev AJ:SFC aj 1 _ jZ (λx y=>{x with By:=y}):=sm (Sk So)
def xI(X:Ty aa):Ty aa:=tMap (tP aH (tP (tI .i64) (tP tS (tP (tL aj) (tP (tL aj) (tOne (tL X))))))) (λx:aa=>(x.Id,x.Kind,x.Label,x.Head,x.Words,x.Kids))
theorem LW:Cont xI:=Cont.map (λx:aa=>(x.Id,x.Kind,x.Label,x.Head,x.Words,x.Kids)) (Cont.pair (Cont.const _) (Cont.pair (Cont.const _) (Cont.pair (Cont.const _) (Cont.pair (Cont.const _) (Cont.pair (Cont.const _) (Cont.one ((Cont.list Cont.id))))))))
theorem mW:Rec xI 8:=⟨LW,rfl,rfl⟩
def ae:Ty aa:=tFix mW
abbrev wK:FC ae 0 _ aH aa.Id:=⟨Fr (Fm Fh)⟩
abbrev Gp:SFC ae 0 _ aH (λx y=>{x with Id:=y}):=⟨Sr (Sm Sh)⟩
abbrev Gr:FC ae 3 _ (tI .i64) aa.Kind:=⟨Fr (Fm (Fk Fh))⟩
abbrev Gs:FC ae 4 _ tS aa.Label:=⟨Fr (Fm (Fk (Fk Fh)))⟩
abbrev Tv:SFC ae 4 _ tS (λx y=>{x with Label:=y}):=⟨Sr (Sm (Sk (Sk Sh)))⟩
abbrev AL:FC ae 5 _ (tL aj) aa.Head:=⟨Fr (Fm (Fk (Fk (Fk Fh))))⟩
abbrev Gt:SFC ae 5 _ (tL aj) (λx y=>{x with Head:=y}):=⟨Sr (Sm (Sk (Sk (Sk Sh))))⟩
abbrev AO:FC ae 6 _ (tL aj) aa.Words:=⟨Fr (Fm (Fk (Fk (Fk (Fk Fh)))))⟩
abbrev Gu:SFC ae 6 _ (tL aj) (λx y=>{x with Words:=y}):=⟨Sr (Sm (Sk (Sk (Sk (Sk Sh)))))⟩
abbrev ny:FC ae 7 _ (tL ae) aa.Kids:=⟨Fr (Fm (Fk (Fk (Fk (Fk (Fk Fo))))))⟩
abbrev Gv:SFC ae 7 _ (tL ae) (λx y=>{x with Kids:=y}):=⟨Sr (Sm (Sk (Sk (Sk (Sk (Sk So))))))⟩
def AP(fd:Field):Nat:=if fd.type=3 then 1 else if fd.type=9 then 1 else if fd.type=23 then 3 else if fd.type=24 then 1 else if fd.type=25 then 1 else 0
theorem EN:∀ fs,Tryz.prog.underlying 27=some (.struct fs)->∀ fd,fd∈fs->∀ w,(sizeOf fd.type).run Tryz.prog w= .ok (AP fd) w:=by
 intro fs h;rw [Tryz.underlying27] at h;cases h;intro fd hfd w;simp only [List.mem_toArray,List.mem_cons,List.not_mem_nil,or_false] at hfd;rcases hfd with rfl | rfl | rfl | rfl | rfl | rfl
 .exact Tryz.sizeOf23 w
 .exact Tryz.sizeOf3 w
 .exact Tryz.sizeOf9 w
 .exact Tryz.sizeOf24 w
 .exact Tryz.sizeOf24 w
 .exact Tryz.sizeOf25 w
def aX(k:Tok):Ty aa:=tMap (tP aH (tP (tI .i64) (tP tS (tP (tL aj) (tP (tL aj) (tOne (tOT ae k))))))) (λx:aa=>(x.Id,x.Kind,x.Label,x.Head,x.Words,x.Kids))
theorem Cb(k:Tok):dU (aX k) 3 (tI .i64) (λx y=>{x with Kind:=y}):=Sm (Sk Sh)
theorem Cc(k:Tok):dU (aX k) 4 tS (λx y=>{x with Label:=y}):=Sm (Sk (Sk Sh))
theorem Ce(k:Tok):dU (aX k) 5 (tL aj) (λx y=>{x with Head:=y}):=Sm (Sk (Sk (Sk Sh)))
theorem Cf(k:Tok):dU (aX k) 6 (tL aj) (λx y=>{x with Words:=y}):=Sm (Sk (Sk (Sk (Sk Sh))))
theorem Cg(k:Tok):Fld (aX k) 7 (tOT ae k) aa.Kids:=Fm (Fk (Fk (Fk (Fk (Fk Fo)))))
theorem Dr(k k2:Tok):aY (aX k) (aX k2) 7 (tOT ae k2) (λx y=>{x with Kids:=y}):=(aY.map (m:=(λx:aa=>(x.Id,x.Kind,x.Label,x.Head,x.Words,x.Kids))) (f':=λx y=>{x with Kids:=y}) (aY.next (s:=aH) (aY.next (s:=(tI .i64)) (aY.next (s:=tS) (aY.next (s:=(tL aj)) (aY.next (s:=(tL aj)) (aY.one (tOT ae k) (tOT ae k2) rfl)))))) (λ_ _=>rfl)).cast rfl rfl
theorem Dt(k:Tok):Le (aX k) ae:=Le.trans (Le.mapT (Le.pair (Le.refl _) (Le.pair (Le.refl _) (Le.pair (Le.refl _) (Le.pair (Le.refl _) (Le.pair (Le.refl _) (Le.one (UD _ _))))))) _) mW.into
theorem uG:oF Tryz.prog 27 (aX none) az:=⟨_,Tryz.zeroValue27,λ_=>⟨_,⟨_,_,rfl,⟨_,_,rfl,⟨rfl,inR64.2 ⟨by decide,by decide⟩⟩,_,_,rfl,⟨rfl,inR64.2 ⟨by decide,by decide⟩⟩,rfl,inR64.2 ⟨by decide,by decide⟩⟩,_,_,rfl,⟨rfl,inR64.2 ⟨by decide,by decide⟩⟩,_,_,rfl,⟨rfl,by decide⟩,_,_,rfl,⟨none,0,rfl,Nat.le_refl _,Nat.zero_le _,λ_=>rfl,rfl⟩,_,_,rfl,⟨none,0,rfl,Nat.le_refl _,Nat.zero_le _,λ_=>rfl,rfl⟩,_,rfl,rfl,Nat.le_refl _,Nat.zero_le _,rfl⟩,rfl⟩⟩
def aI(k:Tok):Ty aa:=tMap (tP aH (tP (tI .i64) (tP tS (tP (tL aj) (tP (tL aj) (tOne (tUT k))))))) (λx:aa=>(x.Id,x.Kind,x.Label,x.Head,x.Words,x.Kids))
theorem Ch(k:Tok):dU (aI k) 4 tS (λx y=>{x with Label:=y}):=Sm (Sk (Sk Sh))
theorem Ci(k:Tok):dU (aI k) 5 (tL aj) (λx y=>{x with Head:=y}):=Sm (Sk (Sk (Sk Sh)))
theorem wL(k:Tok):dU (aI k) 6 (tL aj) (λx y=>{x with Words:=y}):=Sm (Sk (Sk (Sk (Sk Sh))))
theorem tJ(k:Tok):Fld (aI k) 7 (tUT k) aa.Kids:=Fm (Fk (Fk (Fk (Fk (Fk Fo)))))
theorem uH(k:Tok):aY ae (aI k) 7 (tUT k) (λx y=>{x with Kids:=y}):=aY.leL mW.out ((aY.map (m:=(λx:aa=>(x.Id,x.Kind,x.Label,x.Head,x.Words,x.Kids))) (f':=λx y=>{x with Kids:=y}) (aY.next (s:=aH) (aY.next (s:=(tI .i64)) (aY.next (s:=tS) (aY.next (s:=(tL aj)) (aY.next (s:=(tL aj)) (aY.one (tL ae) (tUT k) rfl)))))) (λ_ _=>rfl)).cast rfl rfl)
theorem uI(k:Tok):aY (aI k) ae 7 (tL ae) (λx y=>{x with Kids:=y}):=aY.leR mW.into ((aY.map (m:=(λx:aa=>(x.Id,x.Kind,x.Label,x.Head,x.Words,x.Kids))) (f':=λx y=>{x with Kids:=y}) (aY.next (s:=aH) (aY.next (s:=(tI .i64)) (aY.next (s:=tS) (aY.next (s:=(tL aj)) (aY.next (s:=(tL aj)) (aY.one (tUT k) (tL ae) rfl)))))) (λ_ _=>rfl)).cast rfl rfl)
theorem lX{k:Tok}{u:aa}{g:Dec.G}(h:(Grown ae 27 k u.Kids).holds g){v:Value}(hv:((aI k).is u).holds v g):(ae.is u).holds v g:=Le.is mW.into (CvT.is (t:=xI ae) (y:=u) (s:=aI k) (x:=u) rfl (CvT.map (CvT.pair CvT.same (CvT.pair CvT.same (CvT.pair CvT.same (CvT.pair CvT.same (CvT.pair CvT.same (CvT.one (CvT.gr h rfl)))))))) hv)
def ko:Ty fP:=tMap (tP (tI .i64) (tP (tI .i64) (tOne tS))) (λx:fP=>(x.Kind,x.Day,x.Event))
abbrev EO:FC ko 0 _ (tI .i64) fP.Kind:=fm Fh
abbrev EQ:FC ko 1 _ (tI .i64) fP.Day:=fm (Fk Fh)
abbrev ER:FC ko 2 _ tS fP.Event:=fm (Fk (Fk Fo))
def bE:Ty av:=tMap (tP (tI .i64) (tOne tS)) (λx:av=>(x.Kind,x.Label))
abbrev Gw:FC bE 0 _ (tI .i64) av.Kind:=fm Fh
abbrev Tw:SFC bE 0 _ (tI .i64) (λx y=>{x with Kind:=y}):=sm Sh
abbrev Gx:FC bE 1 _ tS av.Label:=fm (Fk Fo)
abbrev Tx:SFC bE 1 _ tS (λx y=>{x with Label:=y}):=sm (Sk So)
def DT(X:Ty ag):Ty ag:=tMap (tP (tI .i64) (tP (tL bE) (tP (tL bE) (tP (tI .i64) (tP (tI .i64) (tP ae (tP (tL tS) (tP (tL tS) (tP tS (tP tS (tP ko (tP (tI .i64) (tP (tI .i64) (tP (tI .i64) (tP tS (tOne (tL X))))))))))))))))) (λx:ag=>(x.Kind,x.At,x.To,x.Where,x.Nth,x.Unit,x.Old,x.New,x.Label,x.For,x.Start,x.Act,x.Item,x.Day,x.Event,x.By))
theorem LX:Cont DT:=Cont.map (λx:ag=>(x.Kind,x.At,x.To,x.Where,x.Nth,x.Unit,x.Old,x.New,x.Label,x.For,x.Start,x.Act,x.Item,x.Day,x.Event,x.By)) (Cont.pair (Cont.const _) (Cont.pair (Cont.const _) (Cont.pair (Cont.const _) (Cont.pair (Cont.const _) (Cont.pair (Cont.const _) (Cont.pair (Cont.const _) (Cont.pair (Cont.const _) (Cont.pair (Cont.const _) (Cont.pair (Cont.const _) (Cont.pair (Cont.const _) (Cont.pair (Cont.const _) (Cont.pair (Cont.const _) (Cont.pair (Cont.const _) (Cont.pair (Cont.const _) (Cont.pair (Cont.const _) (Cont.one ((Cont.list Cont.id))))))))))))))))))
theorem DU:Rec DT 25:=⟨LX,rfl,rfl⟩
def aB:Ty ag:=tFix DU
abbrev Tz:FC aB 0 _ (tI .i64) ag.Kind:=⟨Fr (Fm Fh)⟩
abbrev TA:SFC aB 0 _ (tI .i64) (λx y=>{x with Kind:=y}):=⟨Sr (Sm Sh)⟩
abbrev TB:FC aB 1 _ (tL bE) ag.At:=⟨Fr (Fm (Fk Fh))⟩
abbrev TC:SFC aB 1 _ (tL bE) (λx y=>{x with At:=y}):=⟨Sr (Sm (Sk Sh))⟩
abbrev TD:FC aB 2 _ (tL bE) ag.To:=⟨Fr (Fm (Fk (Fk Fh)))⟩
abbrev TE:SFC aB 2 _ (tL bE) (λx y=>{x with To:=y}):=⟨Sr (Sm (Sk (Sk Sh)))⟩
abbrev TF:FC aB 3 _ (tI .i64) ag.Where:=⟨Fr (Fm (Fk (Fk (Fk Fh))))⟩
abbrev TG:SFC aB 3 _ (tI .i64) (λx y=>{x with Where:=y}):=⟨Sr (Sm (Sk (Sk (Sk Sh))))⟩
abbrev TH:FC aB 4 _ (tI .i64) ag.Nth:=⟨Fr (Fm (Fk (Fk (Fk (Fk Fh)))))⟩
abbrev TI:SFC aB 4 _ (tI .i64) (λx y=>{x with Nth:=y}):=⟨Sr (Sm (Sk (Sk (Sk (Sk Sh)))))⟩
abbrev TJ:FC aB 5 _ ae ag.Unit:=⟨Fr (Fm (Fk (Fk (Fk (Fk (Fk Fh))))))⟩
abbrev TK:SFC aB 5 _ ae (λx y=>{x with Unit:=y}):=⟨Sr (Sm (Sk (Sk (Sk (Sk (Sk Sh))))))⟩
abbrev TL:FC aB 13 _ (tL tS) ag.Old:=⟨Fr (Fm (Fk (Fk (Fk (Fk (Fk (Fk Fh)))))))⟩
abbrev TM:SFC aB 13 _ (tL tS) (λx y=>{x with Old:=y}):=⟨Sr (Sm (Sk (Sk (Sk (Sk (Sk (Sk Sh)))))))⟩
abbrev Gy:FC aB 14 _ (tL tS) ag.New:=⟨Fr (Fm (Fk (Fk (Fk (Fk (Fk (Fk (Fk Fh))))))))⟩
abbrev TN:SFC aB 14 _ (tL tS) (λx y=>{x with New:=y}):=⟨Sr (Sm (Sk (Sk (Sk (Sk (Sk (Sk (Sk Sh))))))))⟩
abbrev Gz:FC aB 15 _ tS ag.Label:=⟨Fr (Fm (Fk (Fk (Fk (Fk (Fk (Fk (Fk (Fk Fh)))))))))⟩
abbrev TP:SFC aB 15 _ tS (λx y=>{x with Label:=y}):=⟨Sr (Sm (Sk (Sk (Sk (Sk (Sk (Sk (Sk (Sk Sh)))))))))⟩
abbrev TQ:FC aB 16 _ tS ag.For:=⟨Fr (Fm (Fk (Fk (Fk (Fk (Fk (Fk (Fk (Fk (Fk Fh))))))))))⟩
abbrev TR:SFC aB 16 _ tS (λx y=>{x with For:=y}):=⟨Sr (Sm (Sk (Sk (Sk (Sk (Sk (Sk (Sk (Sk (Sk Sh))))))))))⟩
abbrev Q0:FC aB 17 _ ko ag.Start:=⟨Fr (Fm (Fk (Fk (Fk (Fk (Fk (Fk (Fk (Fk (Fk (Fk Fh)))))))))))⟩
abbrev Q3:SFC aB 17 _ ko (λx y=>{x with Start:=y}):=⟨Sr (Sm (Sk (Sk (Sk (Sk (Sk (Sk (Sk (Sk (Sk (Sk Sh)))))))))))⟩
abbrev Q4:FC aB 20 _ (tI .i64) ag.Act:=⟨Fr (Fm (Fk (Fk (Fk (Fk (Fk (Fk (Fk (Fk (Fk (Fk (Fk Fh))))))))))))⟩
abbrev Q5:SFC aB 20 _ (tI .i64) (λx y=>{x with Act:=y}):=⟨Sr (Sm (Sk (Sk (Sk (Sk (Sk (Sk (Sk (Sk (Sk (Sk (Sk Sh))))))))))))⟩
abbrev Q6:FC aB 21 _ (tI .i64) ag.Item:=⟨Fr (Fm (Fk (Fk (Fk (Fk (Fk (Fk (Fk (Fk (Fk (Fk (Fk (Fk Fh)))))))))))))⟩
abbrev Q7:SFC aB 21 _ (tI .i64) (λx y=>{x with Item:=y}):=⟨Sr (Sm (Sk (Sk (Sk (Sk (Sk (Sk (Sk (Sk (Sk (Sk (Sk (Sk Sh)))))))))))))⟩
abbrev Q8:FC aB 22 _ (tI .i64) ag.Day:=⟨Fr (Fm (Fk (Fk (Fk (Fk (Fk (Fk (Fk (Fk (Fk (Fk (Fk (Fk (Fk Fh))))))))))))))⟩
abbrev Q9:SFC aB 22 _ (tI .i64) (λx y=>{x with Day:=y}):=⟨Sr (Sm (Sk (Sk (Sk (Sk (Sk (Sk (Sk (Sk (Sk (Sk (Sk (Sk (Sk Sh))))))))))))))⟩
abbrev Ra:FC aB 23 _ tS ag.Event:=⟨Fr (Fm (Fk (Fk (Fk (Fk (Fk (Fk (Fk (Fk (Fk (Fk (Fk (Fk (Fk (Fk Fh)))))))))))))))⟩
abbrev Rb:SFC aB 23 _ tS (λx y=>{x with Event:=y}):=⟨Sr (Sm (Sk (Sk (Sk (Sk (Sk (Sk (Sk (Sk (Sk (Sk (Sk (Sk (Sk (Sk Sh)))))))))))))))⟩
abbrev Rc:FC aB 24 _ (tL aB) ag.By:=⟨Fr (Fm (Fk (Fk (Fk (Fk (Fk (Fk (Fk (Fk (Fk (Fk (Fk (Fk (Fk (Fk (Fk Fo))))))))))))))))⟩
abbrev Re:SFC aB 24 _ (tL aB) (λx y=>{x with By:=y}):=⟨Sr (Sm (Sk (Sk (Sk (Sk (Sk (Sk (Sk (Sk (Sk (Sk (Sk (Sk (Sk (Sk (Sk So))))))))))))))))⟩
def jE:Ty aS:=tMap (tP (tI .i64) (tP tS (tP (tI .i64) (tP ko (tOne (tL aB)))))) (λx:aS=>(x.Number,x.Title,x.Day,x.Start,x.Items))
abbrev UL:FC jE 0 _ (tI .i64) aS.Number:=fm Fh
abbrev UM:FC jE 2 _ (tI .i64) aS.Day:=fm (Fk (Fk Fh))
abbrev UN:FC jE 3 _ ko aS.Start:=fm (Fk (Fk (Fk Fh)))
abbrev UO:FC jE 6 _ (tL aB) aS.Items:=fm (Fk (Fk (Fk (Fk Fo))))
noncomputable def dx:Ty eF:=tMap (tP (tFun Tryz.prog (λ(f:ag->Option ag)=>(λs:ag×ag=>f s.1=some s.2)) (λs:ag×ag=>[aB.is s.1]) (λs:ag×ag=>(aB.is s.2))) (tOne (tFun Tryz.prog (λ(f:ag->Option Bool)=>(λs:ag×Bool=>f s.1=some s.2)) (λs:ag×Bool=>[aB.is s.1]) (λs:ag×Bool=>(tB.is s.2))))) (λx:eF=>(x.has_,x.may_))
noncomputable abbrev N7:FC dx 0 _ (tFun Tryz.prog (λ(f:ag->Option ag)=>(λs:ag×ag=>f s.1=some s.2)) (λs:ag×ag=>[aB.is s.1]) (λs:ag×ag=>(aB.is s.2))) eF.has_:=fm Fh
noncomputable abbrev N8:SFC dx 0 _ (tFun Tryz.prog (λ(f:ag->Option ag)=>(λs:ag×ag=>f s.1=some s.2)) (λs:ag×ag=>[aB.is s.1]) (λs:ag×ag=>(aB.is s.2))) (λx y=>{x with has_:=y}):=sm Sh
noncomputable abbrev N9:FC dx 1 _ (tFun Tryz.prog (λ(f:ag->Option Bool)=>(λs:ag×Bool=>f s.1=some s.2)) (λs:ag×Bool=>[aB.is s.1]) (λs:ag×Bool=>(tB.is s.2))) eF.may_:=fm (Fk Fo)
noncomputable abbrev Oa:SFC dx 1 _ (tFun Tryz.prog (λ(f:ag->Option Bool)=>(λs:ag×Bool=>f s.1=some s.2)) (λs:ag×Bool=>[aB.is s.1]) (λs:ag×Bool=>(tB.is s.2))) (λx y=>{x with may_:=y}):=sm (Sk So)
def jU:Ty iC:=tMap (tP (tI .i64) (tP (tI .i64) (tOne (tI .i64)))) (λx:iC=>(x.Act,x.Item,x.Why))
abbrev Ob:SFC jU 0 _ (tI .i64) (λx y=>{x with Act:=y}):=sm Sh
abbrev Od:SFC jU 1 _ (tI .i64) (λx y=>{x with Item:=y}):=sm (Sk Sh)
abbrev Oe:SFC jU 2 _ (tI .i64) (λx y=>{x with Why:=y}):=sm (Sk (Sk So))
def aJ:Ty ak:=tMap (tP (tI .i64) (tP (tI .i64) (tP (tI .i64) (tOne aB)))) (λx:ak=>(x.Act,x.Item,x.Day,x.It))
abbrev yF:FC aJ 0 _ (tI .i64) ak.Act:=fm Fh
abbrev Jc:SFC aJ 0 _ (tI .i64) (λx y=>{x with Act:=y}):=sm Sh
abbrev yG:FC aJ 1 _ (tI .i64) ak.Item:=fm (Fk Fh)
abbrev Jd:SFC aJ 1 _ (tI .i64) (λx y=>{x with Item:=y}):=sm (Sk Sh)
abbrev Je:SFC aJ 2 _ (tI .i64) (λx y=>{x with Day:=y}):=sm (Sk (Sk Sh))
abbrev tK:FC aJ 3 _ aB ak.It:=fm (Fk (Fk (Fk Fo)))
abbrev Jf:SFC aJ 3 _ aB (λx y=>{x with It:=y}):=sm (Sk (Sk (Sk So)))
def dD:Ty aF:=tMap (tP aH (tOne (tI .i64))) (λx:aF=>(x.parent_,x.at_))
abbrev Og:FC dD 0 _ aH aF.parent_:=fm Fh
abbrev Oh:SFC dD 0 _ aH (λx y=>{x with parent_:=y}):=sm Sh
abbrev Oi:FC dD 3 _ (tI .i64) aF.at_:=fm (Fk Fo)
abbrev Oj:SFC dD 3 _ (tI .i64) (λx y=>{x with at_:=y}):=sm (Sk So)
def aL:Ty au:=tMap (tP (tI .i64) (tP (tI .i64) (tP (tI .i64) (tOne (tI .i64))))) (λx:au=>(x.act_,x.item_,x.unit_,x.word_))
abbrev yH:FC aL 0 _ (tI .i64) au.act_:=fm Fh
abbrev Jg:SFC aL 0 _ (tI .i64) (λx y=>{x with act_:=y}):=sm Sh
abbrev yI:FC aL 1 _ (tI .i64) au.item_:=fm (Fk Fh)
abbrev Jh:SFC aL 1 _ (tI .i64) (λx y=>{x with item_:=y}):=sm (Sk Sh)
abbrev tN:FC aL 2 _ (tI .i64) au.unit_:=fm (Fk (Fk Fh))
abbrev yJ:SFC aL 2 _ (tI .i64) (λx y=>{x with unit_:=y}):=sm (Sk (Sk Sh))
abbrev Ji:FC aL 3 _ (tI .i64) au.word_:=fm (Fk (Fk (Fk Fo)))
abbrev Jj:SFC aL 3 _ (tI .i64) (λx y=>{x with word_:=y}):=sm (Sk (Sk (Sk So)))
def kH:Ty bG:=tMap (tP (tI .i64) (tOne tS)) (λx:bG=>(x.kind_,x.label_))
abbrev wM:FC kH 0 _ (tI .i64) bG.kind_:=fm Fh
abbrev Ol:SFC kH 0 _ (tI .i64) (λx y=>{x with kind_:=y}):=sm Sh
abbrev wN:FC kH 1 _ tS bG.label_:=fm (Fk Fo)
abbrev Om:SFC kH 1 _ tS (λx y=>{x with label_:=y}):=sm (Sk So)
abbrev ty3:=yM (t:=(tI .i64)) Tryz.isAgg3 Tryz.sizeOf3
abbrev el3:ElC Tryz.prog 3 _ (tI .i64):=eM Tryz.type3 rfl
abbrev ze3:=zM (t:=(tI .i64)) (z:=(0:Int)) Tryz.zeroValue3
abbrev ty4:=yM (t:=tB) Tryz.isAgg4 Tryz.sizeOf4
abbrev ze4:=zM (t:=tB) (z:=false) Tryz.zeroValue4
abbrev ty5:=yM (t:=(tI .u8)) Tryz.isAgg5 Tryz.sizeOf5
abbrev el5:ElC Tryz.prog 5 _ (tI .u8):=eM Tryz.type5 rfl
abbrev ty9:=yM (t:=tS) Tryz.isAgg9 Tryz.sizeOf9
abbrev el9:ElC Tryz.prog 9 _ tS:=eM Tryz.type9 rfl
abbrev ze9:=zM (t:=tS) (z:=([]:Str)) Tryz.zeroValue9
abbrev ty23:=yM (t:=aH) Tryz.isAgg23 Tryz.sizeOf23
abbrev el23:ElC Tryz.prog 23 _ aH:=eM Tryz.type23 rfl
abbrev ze23:=zM (t:=aH) (z:=aO) Tryz.zeroValue23
abbrev ty24:=yM (t:=(tL aj)) Tryz.isAgg24 Tryz.sizeOf24
abbrev el24:ElC Tryz.prog 24 _ (tL aj):=eM Tryz.type24 rfl
abbrev ze24:=zM (t:=(tL aj)) (z:=([]:List af)) Tryz.zeroValue24
abbrev ty25:=yM (t:=(tL ae)) Tryz.isAgg25 Tryz.sizeOf25
abbrev ty27:=yM (t:=ae) Tryz.isAgg27 Tryz.sizeOf27
abbrev el27:ElC Tryz.prog 27 _ ae:=eM Tryz.type27 rfl
abbrev ze27:=zM (t:=ae) (z:=az) Tryz.zeroValue27
abbrev ty32:=yM (t:=ko) Tryz.isAgg32 Tryz.sizeOf32
abbrev ty33:=yM (t:=(tL aB)) Tryz.isAgg33 Tryz.sizeOf33
abbrev ty35:=yM (t:=jE) Tryz.isAgg35 Tryz.sizeOf35
abbrev ty36:=yM (t:=(tFun Tryz.prog (λ(f:ag->Option Bool)=>(λs:ag×Bool=>f s.1=some s.2)) (λs:ag×Bool=>[aB.is s.1]) (λs:ag×Bool=>(tB.is s.2)))) Tryz.isAgg36 Tryz.sizeOf36
abbrev ty37:=yM (t:=(tL bE)) Tryz.isAgg37 Tryz.sizeOf37
abbrev ty38:=yM (t:=(tL tS)) Tryz.isAgg38 Tryz.sizeOf38
abbrev ty40:=yM (t:=aB) Tryz.isAgg40 Tryz.sizeOf40
abbrev ze40:=zM (t:=aB) (z:=xC) Tryz.zeroValue40
abbrev ty41:=yM (t:=(tL (tI .i64))) Tryz.isAgg41 Tryz.sizeOf41
abbrev el41:ElC Tryz.prog 41 _ (tL (tI .i64)):=eM Tryz.type41 rfl
abbrev ze41:=zM (t:=(tL (tI .i64))) (z:=([]:List Int)) Tryz.zeroValue41
abbrev ty42:=yM (t:=(tI .i64)) Tryz.isAgg42 Tryz.sizeOf42
abbrev ty55:=yM (t:=(tFun Tryz.prog (λ(f:ag->Option ag)=>(λs:ag×ag=>f s.1=some s.2)) (λs:ag×ag=>[aB.is s.1]) (λs:ag×ag=>(aB.is s.2)))) Tryz.isAgg55 Tryz.sizeOf55
abbrev ty85:=yM (t:=bE) Tryz.isAgg85 Tryz.sizeOf85
abbrev ze85:=zM (t:=bE) (z:=LP) Tryz.zeroValue85
abbrev ty104:=yM (t:=jZ) Tryz.isAgg104 Tryz.sizeOf104
abbrev ze104:=zM (t:=jZ) (z:=mE) Tryz.zeroValue104
abbrev ty106:=yM (t:=aj) Tryz.isAgg106 Tryz.sizeOf106
abbrev el106:ElC Tryz.prog 106 _ aj:=eM Tryz.type106 rfl
abbrev ze106:=zM (t:=aj) (z:=sK) Tryz.zeroValue106
abbrev ty111:=yM (t:=(tL aH)) Tryz.isAgg111 Tryz.sizeOf111
abbrev ze111:=zM (t:=(tL aH)) (z:=([]:List ai)) Tryz.zeroValue111
abbrev ty120:=yM (t:=aJ) Tryz.isAgg120 Tryz.sizeOf120
abbrev el120:ElC Tryz.prog 120 _ aJ:=eM Tryz.type120 rfl
abbrev ze120:=zM (t:=aJ) (z:=qV) Tryz.zeroValue120
abbrev ty158:=yM (t:=jU) Tryz.isAgg158 Tryz.sizeOf158
abbrev el158:ElC Tryz.prog 158 _ jU:=eM Tryz.type158 rfl
abbrev ze158:=zM (t:=jU) (z:=zg) Tryz.zeroValue158
abbrev ty172:=yM (t:=(tFun Tryz.prog (λ(f:aa->aa->ak->Option (aa×Int))=>(λs:aa×aa×ak×(aa×Int)=>f s.1 s.2.1 s.2.2.1=some s.2.2.2)) (λs:aa×aa×ak×(aa×Int)=>[ae.is s.1,ae.is s.2.1,aJ.is s.2.2.1]) (λs:aa×aa×ak×(aa×Int)=>(Asn.tuple2 (ae.is s.2.2.2.1) ((tI .i64).is s.2.2.2.2))))) Tryz.isAgg172 Tryz.sizeOf172
abbrev ze172:=zM (t:=(tFun Tryz.prog (λ(f:aa->aa->ak->Option (aa×Int))=>(λs:aa×aa×ak×(aa×Int)=>f s.1 s.2.1 s.2.2.1=some s.2.2.2)) (λs:aa×aa×ak×(aa×Int)=>[ae.is s.1,ae.is s.2.1,aJ.is s.2.2.1]) (λs:aa×aa×ak×(aa×Int)=>(Asn.tuple2 (ae.is s.2.2.2.1) ((tI .i64).is s.2.2.2.2))))) (z:=(λ_ _ _=>none:aa->aa->ak->Option (aa×Int))) Tryz.zeroValue172
noncomputable abbrev ty186:=yM (t:=dx) Tryz.isAgg186 Tryz.sizeOf186
noncomputable abbrev ze186:=zM (t:=dx) (z:=nz) Tryz.zeroValue186
abbrev ty214:=yM (t:=dD) Tryz.isAgg214 Tryz.sizeOf214
abbrev ze214:=zM (t:=dD) (z:=zh) Tryz.zeroValue214
abbrev ze218:=zM (t:=aL) (z:=uR) Tryz.zeroValue218
abbrev ty245:=yM (t:=(tFun Tryz.prog (λ(f:aa->ai->Option (aF×Int))=>(λs:aa×ai×(aF×Int)=>f s.1 s.2.1=some s.2.2)) (λs:aa×ai×(aF×Int)=>[ae.is s.1,aH.is s.2.1]) (λs:aa×ai×(aF×Int)=>(Asn.tuple2 (dD.is s.2.2.1) ((tI .i64).is s.2.2.2))))) Tryz.isAgg245 Tryz.sizeOf245
abbrev ze245:=zM (t:=(tFun Tryz.prog (λ(f:aa->ai->Option (aF×Int))=>(λs:aa×ai×(aF×Int)=>f s.1 s.2.1=some s.2.2)) (λs:aa×ai×(aF×Int)=>[ae.is s.1,aH.is s.2.1]) (λs:aa×ai×(aF×Int)=>(Asn.tuple2 (dD.is s.2.2.1) ((tI .i64).is s.2.2.2))))) (z:=(λ_ _=>none:aa->ai->Option (aF×Int))) Tryz.zeroValue245
abbrev ty290:=yM (t:=kH) Tryz.isAgg290 Tryz.sizeOf290
abbrev ze290:=zM (t:=kH) (z:=zi) Tryz.zeroValue290
abbrev ty66:=yM (t:=(tA 5 tB)) Tryz.isAgg66 Tryz.sizeOf66
abbrev ze66:ZeC Tryz.prog 66 _ (tA 5 tB) (List.replicate 5 false):=⟨oF.array ze4.h Tryz.zeroValue4 Tryz.zeroValue66 rfl default⟩
abbrev ty101:=yM (t:=(tA 5 (tI .i64))) Tryz.isAgg101 Tryz.sizeOf101
abbrev ze101:ZeC Tryz.prog 101 _ (tA 5 (tI .i64)) (List.replicate 5 (0:Int)):=⟨oF.array ze3.h Tryz.zeroValue3 Tryz.zeroValue101 rfl default⟩
abbrev ty238:=yM (t:=(tA 256 tB)) Tryz.isAgg238 Tryz.sizeOf238
abbrev ze238:ZeC Tryz.prog 238 _ (tA 256 tB) (List.replicate 256 false):=⟨oF.array ze4.h Tryz.zeroValue4 Tryz.zeroValue238 rfl default⟩
abbrev ze246:ZeC Tryz.prog 246 _ (tA 4 (tFun Tryz.prog (λ(f:aa->ai->Option (aF×Int))=>(λs:aa×ai×(aF×Int)=>f s.1 s.2.1=some s.2.2)) (λs:aa×ai×(aF×Int)=>[ae.is s.1,aH.is s.2.1]) (λs:aa×ai×(aF×Int)=>(Asn.tuple2 (dD.is s.2.2.1) ((tI .i64).is s.2.2.2))))) (List.replicate 4 (λ_ _=>none:aa->ai->Option (aF×Int))):=⟨oF.array ze245.h Tryz.zeroValue245 Tryz.zeroValue246 rfl default⟩
theorem eq23:EqT (α:=ai) (P:=Tryz.prog) (T:=23) (t:=aH) (D:=2):=EqT.struct (D:=1) rfl Tryz.underlying23 (by kernel_rfl) ⟨_,inferInstance,_,_,_,by decide,ty3.h,DL.h,((EqT.int Tryz.underlying3).up (by decide)),⟨_,inferInstance,_,_,_,by decide,ty3.h,DN.h,((EqT.int Tryz.underlying3).up (by decide)),⟨_,inferInstance,_,_,_,by decide,ty3.h,DR.h,((EqT.int Tryz.underlying3).up (by decide)),rfl,rfl⟩,rfl⟩,rfl⟩ (λx y=>by cases x;cases y;simp)
theorem eg23:Tryz.prog.eqGuardType Tryz.prog.depth 23=false:=by kernel_rfl
theorem eq32:EqT (α:=fP) (P:=Tryz.prog) (T:=32) (t:=ko) (D:=2):=EqT.struct (D:=1) rfl Tryz.underlying32 (by kernel_rfl) ⟨_,inferInstance,_,_,_,by decide,ty3.h,EO.h,((EqT.int Tryz.underlying3).up (by decide)),⟨_,inferInstance,_,_,_,by decide,ty3.h,EQ.h,((EqT.int Tryz.underlying3).up (by decide)),⟨_,inferInstance,_,_,_,by decide,ty9.h,ER.h,((EqT.string Tryz.underlying9).up (by decide)),rfl,rfl⟩,rfl⟩,rfl⟩ (λx y=>by cases x;cases y;simp)
theorem eg32:Tryz.prog.eqGuardType Tryz.prog.depth 32=false:=by kernel_rfl
theorem eq85:EqT (α:=av) (P:=Tryz.prog) (T:=85) (t:=bE) (D:=2):=EqT.struct (D:=1) rfl Tryz.underlying85 (by kernel_rfl) ⟨_,inferInstance,_,_,_,by decide,ty3.h,Gw.h,((EqT.int Tryz.underlying3).up (by decide)),⟨_,inferInstance,_,_,_,by decide,ty9.h,Gx.h,((EqT.string Tryz.underlying9).up (by decide)),rfl,rfl⟩,rfl⟩ (λx y=>by cases x;cases y;simp)
theorem eg85:Tryz.prog.eqGuardType Tryz.prog.depth 85=false:=by kernel_rfl
theorem eq104:EqT (α:=kU) (P:=Tryz.prog) (T:=104) (t:=jZ) (D:=2):=EqT.struct (D:=1) rfl Tryz.underlying104 (by kernel_rfl) ⟨_,inferInstance,_,_,_,by decide,ty3.h,Gh.h,((EqT.int Tryz.underlying3).up (by decide)),⟨_,inferInstance,_,_,_,by decide,ty3.h,Gi.h,((EqT.int Tryz.underlying3).up (by decide)),⟨_,inferInstance,_,_,_,by decide,ty3.h,Gj.h,((EqT.int Tryz.underlying3).up (by decide)),rfl,rfl⟩,rfl⟩,rfl⟩ (λx y=>by cases x;cases y;simp)
theorem eg104:Tryz.prog.eqGuardType Tryz.prog.depth 104=false:=by kernel_rfl
theorem eq106:EqT (α:=af) (P:=Tryz.prog) (T:=106) (t:=aj) (D:=3):=EqT.struct (D:=2) rfl Tryz.underlying106 (by kernel_rfl) ⟨_,inferInstance,_,_,_,by decide,ty9.h,Gm.h,((EqT.string Tryz.underlying9).up (by decide)),⟨_,inferInstance,_,_,_,by decide,ty104.h,Gn.h,((eq104).up (by decide)),rfl,rfl⟩,rfl⟩ (λx y=>by cases x;cases y;simp)
theorem eg106:Tryz.prog.eqGuardType Tryz.prog.depth 106=false:=by kernel_rfl
theorem eq290:EqT (α:=bG) (P:=Tryz.prog) (T:=290) (t:=kH) (D:=2):=EqT.struct (D:=1) rfl Tryz.underlying290 (by kernel_rfl) ⟨_,inferInstance,_,_,_,by decide,ty3.h,wM.h,((EqT.int Tryz.underlying3).up (by decide)),⟨_,inferInstance,_,_,_,by decide,ty9.h,wN.h,((EqT.string Tryz.underlying9).up (by decide)),rfl,rfl⟩,rfl⟩ (λx y=>by cases x;cases y;simp)
theorem eg290:Tryz.prog.eqGuardType Tryz.prog.depth 290=false:=by kernel_rfl
theorem fl3:Flat (tI .i64):=Flat.I
theorem fl106:Flat aj:=(Flat.map (Flat.pair Flat.S (Flat.one (Flat.map (Flat.pair Flat.I (Flat.pair Flat.I (Flat.one Flat.I))) _))) _)
theorem kt3:KeyT Tryz.prog 3 (tI .i64):=KeyT.int Tryz.underlying3
theorem kt23:KeyT Tryz.prog 23 aH:=KeyT.struct eq23 (by decide) rfl Tryz.underlying23 ⟨⟨_,_,_,ty3.h,DL.h,(λh e w=>BN Tryz.underlying3 9998 h e w)⟩,⟨_,_,_,ty3.h,DN.h,(λh e w=>BN Tryz.underlying3 9998 h e w)⟩,⟨_,_,_,ty3.h,DR.h,(λh e w=>BN Tryz.underlying3 9998 h e w)⟩,trivial⟩
theorem kt290:KeyT Tryz.prog 290 kH:=KeyT.struct eq290 (by decide) rfl Tryz.underlying290 ⟨⟨_,_,_,ty3.h,wM.h,(λh e w=>BN Tryz.underlying3 9998 h e w)⟩,⟨_,_,_,ty9.h,wN.h,(λh e w=>Lv Tryz.underlying9 9998 h e w)⟩,trivial⟩
abbrev I6:Ty Int:=tI .i64
theorem Mx:Tryz.prog.follows .mixedOrders=true:=Tryz.mixed
theorem C29(xs:Array Value)(w:World):(callFunc 29 xs).run Tryz.prog w= .ok (.enter 29 xs) w:=Tryz.call29 xs w
theorem C31(xs:Array Value)(w:World):(callFunc 31 xs).run Tryz.prog w= .ok (.enter 31 xs) w:=Tryz.call31 xs w
theorem C32(xs:Array Value)(w:World):(callFunc 32 xs).run Tryz.prog w= .ok (.enter 32 xs) w:=Tryz.call32 xs w
theorem C33(xs:Array Value)(w:World):(callFunc 33 xs).run Tryz.prog w= .ok (.enter 33 xs) w:=Tryz.call33 xs w
theorem C34(xs:Array Value)(w:World):(callFunc 34 xs).run Tryz.prog w= .ok (.enter 34 xs) w:=Tryz.call34 xs w
theorem C35(xs:Array Value)(w:World):(callFunc 35 xs).run Tryz.prog w= .ok (.enter 35 xs) w:=Tryz.call35 xs w
theorem C36(xs:Array Value)(w:World):(callFunc 36 xs).run Tryz.prog w= .ok (.enter 36 xs) w:=Tryz.call36 xs w
theorem C37(xs:Array Value)(w:World):(callFunc 37 xs).run Tryz.prog w= .ok (.enter 37 xs) w:=Tryz.call37 xs w
theorem C54(xs:Array Value)(w:World):(callFunc 54 xs).run Tryz.prog w= .ok (.enter 54 xs) w:=Tryz.call54 xs w
theorem C64(xs:Array Value)(w:World):(callFunc 64 xs).run Tryz.prog w= .ok (.enter 64 xs) w:=Tryz.call64 xs w
theorem C65(xs:Array Value)(w:World):(callFunc 65 xs).run Tryz.prog w= .ok (.enter 65 xs) w:=Tryz.call65 xs w
theorem C78(xs:Array Value)(w:World):(callFunc 78 xs).run Tryz.prog w= .ok (.enter 78 xs) w:=Tryz.call78 xs w
theorem C136(xs:Array Value)(w:World):(callFunc 136 xs).run Tryz.prog w= .ok (.enter 136 xs) w:=Tryz.call136 xs w
theorem C154(xs:Array Value)(w:World):(callFunc 154 xs).run Tryz.prog w= .ok (.enter 154 xs) w:=Tryz.call154 xs w
theorem C167(xs:Array Value)(w:World):(callFunc 167 xs).run Tryz.prog w= .ok (.enter 167 xs) w:=Tryz.call167 xs w
theorem C169(xs:Array Value)(w:World):(callFunc 169 xs).run Tryz.prog w= .ok (.enter 169 xs) w:=Tryz.call169 xs w
theorem C175(xs:Array Value)(w:World):(callFunc 175 xs).run Tryz.prog w= .ok (.enter 175 xs) w:=Tryz.call175 xs w
theorem C176(xs:Array Value)(w:World):(callFunc 176 xs).run Tryz.prog w= .ok (.enter 176 xs) w:=Tryz.call176 xs w
theorem C215(xs:Array Value)(w:World):(callFunc 215 xs).run Tryz.prog w= .ok (.enter 215 xs) w:=Tryz.call215 xs w
theorem C225(xs:Array Value)(w:World):(callFunc 225 xs).run Tryz.prog w= .ok (.enter 225 xs) w:=Tryz.call225 xs w
theorem C229(xs:Array Value)(w:World):(callFunc 229 xs).run Tryz.prog w= .ok (.enter 229 xs) w:=Tryz.call229 xs w
theorem C230(xs:Array Value)(w:World):(callFunc 230 xs).run Tryz.prog w= .ok (.enter 230 xs) w:=Tryz.call230 xs w
theorem C231(xs:Array Value)(w:World):(callFunc 231 xs).run Tryz.prog w= .ok (.enter 231 xs) w:=Tryz.call231 xs w
theorem C248(xs:Array Value)(w:World):(callFunc 248 xs).run Tryz.prog w= .ok (.enter 248 xs) w:=Tryz.call248 xs w
theorem C250(xs:Array Value)(w:World):(callFunc 250 xs).run Tryz.prog w= .ok (.enter 250 xs) w:=Tryz.call250 xs w
theorem C257(xs:Array Value)(w:World):(callFunc 257 xs).run Tryz.prog w= .ok (.enter 257 xs) w:=Tryz.call257 xs w
theorem C270(xs:Array Value)(w:World):(callFunc 270 xs).run Tryz.prog w= .ok (.enter 270 xs) w:=Tryz.call270 xs w
theorem C273(xs:Array Value)(w:World):(callFunc 273 xs).run Tryz.prog w= .ok (.enter 273 xs) w:=Tryz.call273 xs w
theorem C275(xs:Array Value)(w:World):(callFunc 275 xs).run Tryz.prog w= .ok (.enter 275 xs) w:=Tryz.call275 xs w
theorem C277(xs:Array Value)(w:World):(callFunc 277 xs).run Tryz.prog w= .ok (.enter 277 xs) w:=Tryz.call277 xs w
theorem C280(xs:Array Value)(w:World):(callFunc 280 xs).run Tryz.prog w= .ok (.enter 280 xs) w:=Tryz.call280 xs w
theorem C281(xs:Array Value)(w:World):(callFunc 281 xs).run Tryz.prog w= .ok (.enter 281 xs) w:=Tryz.call281 xs w
theorem C282(xs:Array Value)(w:World):(callFunc 282 xs).run Tryz.prog w= .ok (.enter 282 xs) w:=Tryz.call282 xs w
theorem C283(xs:Array Value)(w:World):(callFunc 283 xs).run Tryz.prog w= .ok (.enter 283 xs) w:=Tryz.call283 xs w
theorem C284(xs:Array Value)(w:World):(callFunc 284 xs).run Tryz.prog w= .ok (.enter 284 xs) w:=Tryz.call284 xs w
theorem C285(xs:Array Value)(w:World):(callFunc 285 xs).run Tryz.prog w= .ok (.enter 285 xs) w:=Tryz.call285 xs w
theorem C290(xs:Array Value)(w:World):(callFunc 290 xs).run Tryz.prog w= .ok (.enter 290 xs) w:=Tryz.call290 xs w
theorem C291(xs:Array Value)(w:World):(callFunc 291 xs).run Tryz.prog w= .ok (.enter 291 xs) w:=Tryz.call291 xs w
theorem C300(xs:Array Value)(w:World):(callFunc 300 xs).run Tryz.prog w= .ok (.enter 300 xs) w:=Tryz.call300 xs w
theorem J3(w:World):∃ m,(sizeOf 3).run Tryz.prog w= .ok (m+1) w:=⟨0,Tryz.sizeOf3 w⟩
theorem J9(w:World):∃ m,(sizeOf 9).run Tryz.prog w= .ok (m+1) w:=⟨0,Tryz.sizeOf9 w⟩
theorem J23(w:World):∃ m,(sizeOf 23).run Tryz.prog w= .ok (m+1) w:=⟨2,Tryz.sizeOf23 w⟩
theorem J24(w:World):∃ m,(sizeOf 24).run Tryz.prog w= .ok (m+1) w:=⟨0,Tryz.sizeOf24 w⟩
theorem J25(w:World):∃ m,(sizeOf 25).run Tryz.prog w= .ok (m+1) w:=⟨0,Tryz.sizeOf25 w⟩
theorem J38(w:World):∃ m,(sizeOf 38).run Tryz.prog w= .ok (m+1) w:=⟨0,Tryz.sizeOf38 w⟩
theorem J40(w:World):∃ m,(sizeOf 40).run Tryz.prog w= .ok (m+1) w:=⟨24,Tryz.sizeOf40 w⟩
theorem J269(w:World):∃ m,(sizeOf 269).run Tryz.prog w= .ok (m+1) w:=⟨0,Tryz.sizeOf269 w⟩
theorem U4:Tryz.prog.underlying 4=some (.bool):=Tryz.underlying4
theorem U5:Tryz.prog.underlying 5=some (.int .u8):=Tryz.underlying5
theorem U9:Tryz.prog.underlying 9=some (.string):=Tryz.underlying9
theorem U23:Tryz.prog.underlying 23=some (.struct #[⟨ "Act",3,0,false,"","",0⟩,⟨ "Item",3,1,false,"","",8⟩,⟨ "N",3,2,false,"","",16⟩]):=Tryz.underlying23
theorem U24:Tryz.prog.underlying 24=some (.slice 106):=Tryz.underlying24
theorem U25:Tryz.prog.underlying 25=some (.slice 27):=Tryz.underlying25
theorem U27:Tryz.prog.underlying 27=some (.struct #[⟨ "Id",23,0,false,"","",0⟩,⟨ "Kind",3,3,false,"","",24⟩,⟨ "Label",9,4,false,"","",32⟩,⟨ "Head",24,5,false,"","",48⟩,⟨ "Words",24,6,false,"","",72⟩,⟨ "Kids",25,7,false,"","",96⟩]):=Tryz.underlying27
theorem U37:Tryz.prog.underlying 37=some (.slice 85):=Tryz.underlying37
theorem U38:Tryz.prog.underlying 38=some (.slice 9):=Tryz.underlying38
theorem U40:Tryz.prog.underlying 40=some (.struct #[⟨ "Kind",3,0,false,"","",0⟩,⟨ "At",37,1,false,"","",8⟩,⟨ "To",37,2,false,"","",32⟩,⟨ "Where",3,3,false,"","",56⟩,⟨ "Nth",3,4,false,"","",64⟩,⟨ "Unit",27,5,false,"","",72⟩,⟨ "Old",38,13,false,"","",192⟩,⟨ "New",38,14,false,"","",216⟩,⟨ "Label",9,15,false,"","",240⟩,⟨ "For",9,16,false,"","",256⟩,⟨ "Start",32,17,false,"","",272⟩,⟨ "Act",3,20,false,"","",304⟩,⟨ "Item",3,21,false,"","",312⟩,⟨ "Day",3,22,false,"","",320⟩,⟨ "Event",9,23,false,"","",328⟩,⟨ "By",33,24,false,"","",344⟩]):=Tryz.underlying40
theorem U41:Tryz.prog.underlying 41=some (.slice 3):=Tryz.underlying41
theorem U47:Tryz.prog.underlying 47=some (.slice 41):=Tryz.underlying47
theorem U120:Tryz.prog.underlying 120=some (.struct #[⟨ "Act",3,0,false,"","",0⟩,⟨ "Item",3,1,false,"","",8⟩,⟨ "Day",3,2,false,"","",16⟩,⟨ "It",40,3,false,"","",24⟩]):=Tryz.underlying120
theorem U246:Tryz.prog.underlying 246=some (.array 4 245):=Tryz.underlying246
theorem U269:Tryz.prog.underlying 269=some (.slice 5):=Tryz.underlying269
theorem U287:Tryz.prog.underlying 287=some (.pointer 5):=Tryz.underlying287
theorem Y25(w:World):(isAgg 25).run Tryz.prog w= .ok false w:=Tryz.isAgg25 w
theorem Y27(w:World):(isAgg 27).run Tryz.prog w= .ok true w:=Tryz.isAgg27 w
theorem Y38(w:World):(isAgg 38).run Tryz.prog w= .ok false w:=Tryz.isAgg38 w
theorem Y47(w:World):(isAgg 47).run Tryz.prog w= .ok false w:=Tryz.isAgg47 w
theorem Y246(w:World):(isAgg 246).run Tryz.prog w= .ok true w:=Tryz.isAgg246 w
theorem Y267(w:World):(isAgg 267).run Tryz.prog w= .ok false w:=Tryz.isAgg267 w
theorem Y269(w:World):(isAgg 269).run Tryz.prog w= .ok false w:=Tryz.isAgg269 w
theorem Z3(w:World):(sizeOf 3).run Tryz.prog w= .ok 1 w:=Tryz.sizeOf3 w
theorem Z9(w:World):(sizeOf 9).run Tryz.prog w= .ok 1 w:=Tryz.sizeOf9 w
theorem Z24(w:World):(sizeOf 24).run Tryz.prog w= .ok 1 w:=Tryz.sizeOf24 w
theorem Z25(w:World):(sizeOf 25).run Tryz.prog w= .ok 1 w:=Tryz.sizeOf25 w
theorem Z27(w:World):(sizeOf 27).run Tryz.prog w= .ok 8 w:=Tryz.sizeOf27 w
theorem Z38(w:World):(sizeOf 38).run Tryz.prog w= .ok 1 w:=Tryz.sizeOf38 w
theorem Z47(w:World):(sizeOf 47).run Tryz.prog w= .ok 1 w:=Tryz.sizeOf47 w
theorem Z85(w:World):(sizeOf 85).run Tryz.prog w= .ok 2 w:=Tryz.sizeOf85 w
theorem Z106(w:World):(sizeOf 106).run Tryz.prog w= .ok 4 w:=Tryz.sizeOf106 w
theorem Z245(w:World):(sizeOf 245).run Tryz.prog w= .ok 1 w:=Tryz.sizeOf245 w
theorem Z246(w:World):(sizeOf 246).run Tryz.prog w= .ok 4 w:=Tryz.sizeOf246 w
theorem Z267(w:World):(sizeOf 267).run Tryz.prog w= .ok 1 w:=Tryz.sizeOf267 w
theorem Z269(w:World):(sizeOf 269).run Tryz.prog w= .ok 1 w:=Tryz.sizeOf269 w
abbrev iU4:=UC.mk Tryz.underlying4
abbrev iU9:=UC.mk Tryz.underlying9
abbrev iU24:=UC.mk Tryz.underlying24
abbrev iU25:=UC.mk Tryz.underlying25
abbrev iU27:=UC.mk Tryz.underlying27
abbrev iU28:=UC.mk Tryz.underlying28
abbrev iU32:=UC.mk Tryz.underlying32
abbrev iU33:=UC.mk Tryz.underlying33
abbrev iU35:=UC.mk Tryz.underlying35
abbrev iU37:=UC.mk Tryz.underlying37
abbrev iU38:=UC.mk Tryz.underlying38
abbrev iU40:=UC.mk Tryz.underlying40
abbrev iU41:=UC.mk Tryz.underlying41
abbrev iU47:=UC.mk Tryz.underlying47
abbrev iU66:=UC.mk Tryz.underlying66
abbrev iU85:=UC.mk Tryz.underlying85
abbrev iU96:=UC.mk Tryz.underlying96
abbrev iU101:=UC.mk Tryz.underlying101
abbrev iU106:=UC.mk Tryz.underlying106
abbrev iU111:=UC.mk Tryz.underlying111
abbrev iU115:=UC.mk Tryz.underlying115
abbrev iU120:=UC.mk Tryz.underlying120
abbrev iU174:=UC.mk Tryz.underlying174
abbrev iU186:=UC.mk Tryz.underlying186
abbrev iU188:=UC.mk Tryz.underlying188
abbrev iU214:=UC.mk Tryz.underlying214
abbrev iU218:=UC.mk Tryz.underlying218
abbrev iU238:=UC.mk Tryz.underlying238
abbrev iU246:=UC.mk Tryz.underlying246
abbrev iU250:=UC.mk Tryz.underlying250
abbrev iU269:=UC.mk Tryz.underlying269
abbrev iU288:=UC.mk Tryz.underlying288
abbrev iU291:=UC.mk Tryz.underlying291
abbrev iU303:=UC.mk Tryz.underlying303
abbrev iZ3:=ZC.mk Tryz.sizeOf3
abbrev iZ4:=ZC.mk Tryz.sizeOf4
abbrev iZ9:=ZC.mk Tryz.sizeOf9
abbrev iZ23:=ZC.mk Tryz.sizeOf23
abbrev iZ24:=ZC.mk Tryz.sizeOf24
abbrev iZ25:=ZC.mk Tryz.sizeOf25
abbrev iZ27:=ZC.mk Tryz.sizeOf27
abbrev iZ32:=ZC.mk Tryz.sizeOf32
abbrev iZ33:=ZC.mk Tryz.sizeOf33
abbrev iZ36:=ZC.mk Tryz.sizeOf36
abbrev iZ37:=ZC.mk Tryz.sizeOf37
abbrev iZ38:=ZC.mk Tryz.sizeOf38
abbrev iZ40:=ZC.mk Tryz.sizeOf40
abbrev iZ42:=ZC.mk Tryz.sizeOf42
abbrev iZ55:=ZC.mk Tryz.sizeOf55
abbrev iZ66:=ZC.mk Tryz.sizeOf66
abbrev iZ85:=ZC.mk Tryz.sizeOf85
abbrev iZ101:=ZC.mk Tryz.sizeOf101
abbrev iZ104:=ZC.mk Tryz.sizeOf104
abbrev iZ106:=ZC.mk Tryz.sizeOf106
abbrev iZ111:=ZC.mk Tryz.sizeOf111
abbrev iZ120:=ZC.mk Tryz.sizeOf120
abbrev iZ186:=ZC.mk Tryz.sizeOf186
abbrev iZ214:=ZC.mk Tryz.sizeOf214
abbrev iZ218:=ZC.mk Tryz.sizeOf218
abbrev iZ238:=ZC.mk Tryz.sizeOf238
abbrev iZ290:=ZC.mk Tryz.sizeOf290
abbrev ieq23:=EqC.mk rfl eg23 ⟨_,by decide,eq23⟩
abbrev ieq32:=EqC.mk rfl eg32 ⟨_,by decide,eq32⟩
abbrev ieq85:=EqC.mk rfl eg85 ⟨_,by decide,eq85⟩
abbrev ieq104:=EqC.mk rfl eg104 ⟨_,by decide,eq104⟩
abbrev ieq106:=EqC.mk rfl eg106 ⟨_,by decide,eq106⟩
abbrev ieq290:=EqC.mk rfl eg290 ⟨_,by decide,eq290⟩
attribute [instance] DL LQ DN LU DR LV Gh Tp Gi Tq Gj Tt Gm Tu Gn AJ wK Gp Gr Gs Tv AL Gt AO Gu ny Gv EO EQ ER Gw Tw Gx Tx Tz TA TB TC TD TE TF TG TH TI TJ TK TL TM Gy TN Gz TP TQ TR Q0 Q3 Q4 Q5 Q6 Q7 Q8 Q9 Ra Rb Rc Re UL UM UN UO N7 N8 N9 Oa Ob Od Oe yF Jc yG Jd Je tK Jf Og Oh Oi Oj yH Jg yI Jh tN yJ Ji Jj wM Ol wN Om ty3 el3 ze3 ty4 ze4 ty5 el5 ty9 el9 ze9 ty23 el23 ze23 ty24 el24 ze24 ty25 ty27 el27 ze27 ty32 ty33 ty35 ty36 ty37 ty38 ty40 ze40 ty41 el41 ze41 ty42 ty55 ty85 ze85 ty104 ze104 ty106 el106 ze106 ty111 ze111 ty120 el120 ze120 ty158 el158 ze158 ty172 ze172 ty186 ze186 ty214 ze214 ze218 ty245 ze245 ty290 ze290 ty66 ze66 ty101 ze101 ty238 ze238 ze246 iU4 iU9 iU24 iU25 iU27 iU28 iU32 iU33 iU35 iU37 iU38 iU40 iU41 iU47 iU66 iU85 iU96 iU101 iU106 iU111 iU115 iU120 iU174 iU186 iU188 iU214 iU218 iU238 iU246 iU250 iU269 iU288 iU291 iU303 iZ3 iZ4 iZ9 iZ23 iZ24 iZ25 iZ27 iZ32 iZ33 iZ36 iZ37 iZ38 iZ40 iZ42 iZ55 iZ66 iZ85 iZ101 iZ104 iZ106 iZ111 iZ120 iZ186 iZ214 iZ218 iZ238 iZ290 ieq23 ieq32 ieq85 ieq104 ieq106 ieq290
abbrev iB23:=bM (t:=aH) (z:=aO) Tryz.underlying23
abbrev iB104:=bM (t:=jZ) (z:=mE) Tryz.underlying104
abbrev iB106:=bM (t:=aj) (z:=sK) Tryz.underlying106
abbrev iB27:=bM (t:=ae) (z:=az) Tryz.underlying27
abbrev iB40:=bM (t:=aB) (z:=xC) Tryz.underlying40
noncomputable abbrev iB186:=bM (t:=dx) (z:=nz) Tryz.underlying186
abbrev iB158:=bM (t:=jU) (z:=zg) Tryz.underlying158
abbrev iB120:=bM (t:=aJ) (z:=qV) Tryz.underlying120
abbrev iB214:=bM (t:=dD) (z:=zh) Tryz.underlying214
abbrev iB218:=bM (t:=aL) (z:=uR) Tryz.underlying218
abbrev iB290:=bM (t:=kH) (z:=zi) Tryz.underlying290
abbrev VD:Inhabited ai:=⟨aO⟩
abbrev UQ:Inhabited af:=⟨sK⟩
abbrev UR:Inhabited aa:=⟨az⟩
abbrev UT:Inhabited ag:=⟨xC⟩
abbrev Kw:Inhabited ak:=⟨qV⟩
abbrev ikt3:=KC.mk kt3
abbrev ikt23:=KC.mk kt23
abbrev ikt290:=KC.mk kt290
abbrev iV25:=ZvC.mk Tryz.zeroValue25
abbrev iV111:=ZvC.mk Tryz.zeroValue111
abbrev iMx:=MxC.mk Tryz.mixed
attribute [instance] iB23 iB104 iB106 iB27 iB40 iB186 iB158 iB120 iB214 iB218 iB290 VD UQ UR UT Kw ikt3 ikt23 ikt290 iV25 iV111 iMx
end Go.Proofs.YtobcmdhemlennaaGreatDoor
