/-
  How the types of the program are read.
-/
import Derived.Test.YtapobcikfdbjiaaGreatDoorDec32
import Derived.Test.YtapobcikfdbjiaaGreatDoorDec45
import Derived.Test.YtapobcikfdbjiaaGreatDoorDec47
import Derived.Test.YtapobcikfdbjiaaGreatDoorMdl
import Derived.Test.YtapobcikfdbjiaaGreatDoorProg
import Derived.Test.YtapobcikfdbjiaaGreatDoorDec51
import Derived.KernelRfl
set_option maxRecDepth 100000
namespace Go.Proofs.YtapobcikfdbjiaaGreatDoor
open Go Go.Dec
theorem Tryz.mixed:Tryz.prog.follows .mixedOrders=true:=by kernel_rfl
def aB:Ty ai:=tMap (tP (tI .i64) (tP (tI .i64) (tOne (tI .i64)))) (fun x:ai=>(x.Act,x.Item,x.N))
abbrev Ey:FC aB 0 _ (tI .i64) ai.Act:=fm Fh
abbrev M6:SFC aB 0 _ (tI .i64) (fun x y=>{x with Act:=y}):=sm Sh
abbrev Ez:FC aB 1 _ (tI .i64) ai.Item:=fm (Fk Fh)
abbrev M7:SFC aB 1 _ (tI .i64) (fun x y=>{x with Item:=y}):=sm (Sk Sh)
abbrev EA:FC aB 2 _ (tI .i64) ai.N:=fm (Fk (Fk Fo))
abbrev M8:SFC aB 2 _ (tI .i64) (fun x y=>{x with N:=y}):=sm (Sk (Sk So))
def Be(fd:Field):Nat:=if fd.type=3 then 1 else 0
theorem Da:∀ fs,Tryz.prog.underlying 23=some (.struct fs)->∀ fd,fd∈fs->∀ w,(sizeOf fd.type).run Tryz.prog w= .ok (Be fd) w:=by
 intro fs h;rw [Tryz.underlying23] at h;cases h;intro fd hfd w;simp only [List.mem_toArray,List.mem_cons,List.not_mem_nil,or_false] at hfd;rcases hfd with rfl | rfl | rfl
 ·exact Tryz.sizeOf3 w
 ·exact Tryz.sizeOf3 w
 ·exact Tryz.sizeOf3 w
def jJ:Ty kL:=tMap (tP (tI .i64) (tP (tI .i64) (tOne (tI .i64)))) (fun x:kL=>(x.Act,x.Item,x.At))
abbrev G6:FC jJ 0 _ (tI .i64) kL.Act:=fm Fh
abbrev Um:SFC jJ 0 _ (tI .i64) (fun x y=>{x with Act:=y}):=sm Sh
abbrev G7:FC jJ 1 _ (tI .i64) kL.Item:=fm (Fk Fh)
abbrev Uo:SFC jJ 1 _ (tI .i64) (fun x y=>{x with Item:=y}):=sm (Sk Sh)
abbrev G8:FC jJ 2 _ (tI .i64) kL.At:=fm (Fk (Fk Fo))
abbrev Uq:SFC jJ 2 _ (tI .i64) (fun x y=>{x with At:=y}):=sm (Sk (Sk So))
def xK(fd:Field):Nat:=if fd.type=3 then 1 else 0
theorem Ah:∀ fs,Tryz.prog.underlying 96=some (.struct fs)->∀ fd,fd∈fs->∀ w,(sizeOf fd.type).run Tryz.prog w= .ok (xK fd) w:=by
 intro fs h;rw [Tryz.underlying96] at h;cases h;intro fd hfd w;simp only [List.mem_toArray,List.mem_cons,List.not_mem_nil,or_false] at hfd;rcases hfd with rfl | rfl | rfl
 ·exact Tryz.sizeOf3 w
 ·exact Tryz.sizeOf3 w
 ·exact Tryz.sizeOf3 w
def aj:Ty af:=tMap (tP tS (tOne jJ)) (fun x:af=>(x.Text,x.By))
abbrev G9:FC aj 0 _ tS af.Text:=fm Fh
abbrev Ur:SFC aj 0 _ tS (fun x y=>{x with Text:=y}):=sm Sh
abbrev Ha:FC aj 1 _ jJ af.By:=fm (Fk Fo)
abbrev BH:SFC aj 1 _ jJ (fun x y=>{x with By:=y}):=sm (Sk So)
def yG(X:Ty aa):Ty aa:=tMap (tP aB (tP (tI .i64) (tP tS (tP (tL aj) (tP (tL aj) (tOne (tL X))))))) (fun x:aa=>(x.Id,x.Kind,x.Label,x.Head,x.Words,x.Kids))
theorem M9:Cont yG:=Cont.map (fun x:aa=>(x.Id,x.Kind,x.Label,x.Head,x.Words,x.Kids)) (Cont.pair (Cont.const _) (Cont.pair (Cont.const _) (Cont.pair (Cont.const _) (Cont.pair (Cont.const _) (Cont.pair (Cont.const _) (Cont.one ((Cont.list Cont.id))))))))
theorem nD:Rec yG 8:=⟨M9,rfl,rfl⟩
def ae:Ty aa:=tFix nD
abbrev vL:FC ae 0 _ aB aa.Id:=⟨Fr (Fm Fh)⟩
abbrev Hd:SFC ae 0 _ aB (fun x y=>{x with Id:=y}):=⟨Sr (Sm Sh)⟩
abbrev He:FC ae 3 _ (tI .i64) aa.Kind:=⟨Fr (Fm (Fk Fh))⟩
abbrev Hf:FC ae 4 _ tS aa.Label:=⟨Fr (Fm (Fk (Fk Fh)))⟩
abbrev Us:SFC ae 4 _ tS (fun x y=>{x with Label:=y}):=⟨Sr (Sm (Sk (Sk Sh)))⟩
abbrev xL:FC ae 5 _ (tL aj) aa.Head:=⟨Fr (Fm (Fk (Fk (Fk Fh))))⟩
abbrev BI:SFC ae 5 _ (tL aj) (fun x y=>{x with Head:=y}):=⟨Sr (Sm (Sk (Sk (Sk Sh))))⟩
abbrev xM:FC ae 6 _ (tL aj) aa.Words:=⟨Fr (Fm (Fk (Fk (Fk (Fk Fh)))))⟩
abbrev BJ:SFC ae 6 _ (tL aj) (fun x y=>{x with Words:=y}):=⟨Sr (Sm (Sk (Sk (Sk (Sk Sh)))))⟩
abbrev ib:FC ae 7 _ (tL ae) aa.Kids:=⟨Fr (Fm (Fk (Fk (Fk (Fk (Fk Fo))))))⟩
abbrev xN:SFC ae 7 _ (tL ae) (fun x y=>{x with Kids:=y}):=⟨Sr (Sm (Sk (Sk (Sk (Sk (Sk So))))))⟩
def xO(fd:Field):Nat:=if fd.type=3 then 1 else if fd.type=9 then 1 else if fd.type=23 then 3 else if fd.type=24 then 1 else if fd.type=25 then 1 else 0
theorem Ai:∀ fs,Tryz.prog.underlying 27=some (.struct fs)->∀ fd,fd∈fs->∀ w,(sizeOf fd.type).run Tryz.prog w= .ok (xO fd) w:=by
 intro fs h;rw [Tryz.underlying27] at h;cases h;intro fd hfd w;simp only [List.mem_toArray,List.mem_cons,List.not_mem_nil,or_false] at hfd;rcases hfd with rfl | rfl | rfl | rfl | rfl | rfl
 ·exact Tryz.sizeOf23 w
 ·exact Tryz.sizeOf3 w
 ·exact Tryz.sizeOf9 w
 ·exact Tryz.sizeOf24 w
 ·exact Tryz.sizeOf24 w
 ·exact Tryz.sizeOf25 w
def aZ(k:Tok):Ty aa:=tMap (tP aB (tP (tI .i64) (tP tS (tP (tL aj) (tP (tL aj) (tOne (tOT ae k))))))) (fun x:aa=>(x.Id,x.Kind,x.Label,x.Head,x.Words,x.Kids))
theorem Db(k:Tok):dN (aZ k) 3 (tI .i64) (fun x y=>{x with Kind:=y}):=Sm (Sk Sh)
theorem Dc(k:Tok):dN (aZ k) 4 tS (fun x y=>{x with Label:=y}):=Sm (Sk (Sk Sh))
theorem De(k:Tok):dN (aZ k) 5 (tL aj) (fun x y=>{x with Head:=y}):=Sm (Sk (Sk (Sk Sh)))
theorem Df(k:Tok):dN (aZ k) 6 (tL aj) (fun x y=>{x with Words:=y}):=Sm (Sk (Sk (Sk (Sk Sh))))
theorem Dg(k:Tok):Fld (aZ k) 7 (tOT ae k) aa.Kids:=Fm (Fk (Fk (Fk (Fk (Fk Fo)))))
theorem Ej(k k2:Tok):bg (aZ k) (aZ k2) 7 (tOT ae k2) (fun x y=>{x with Kids:=y}):=(bg.map (m:=(fun x:aa=>(x.Id,x.Kind,x.Label,x.Head,x.Words,x.Kids))) (f':=fun x y=>{x with Kids:=y}) (bg.next (s:=aB) (bg.next (s:=(tI .i64)) (bg.next (s:=tS) (bg.next (s:=(tL aj)) (bg.next (s:=(tL aj)) (bg.one (tOT ae k) (tOT ae k2) rfl)))))) (fun _ _=>rfl)).cast rfl rfl
theorem El(k:Tok):Le (aZ k) ae:=Le.trans (Le.mapT (Le.pair (Le.refl _) (Le.pair (Le.refl _) (Le.pair (Le.refl _) (Le.pair (Le.refl _) (Le.pair (Le.refl _) (Le.one (Vt _ _))))))) _) nD.into
theorem vQ:pW Tryz.prog 27 (aZ none) au:=⟨_,Tryz.zeroValue27,fun _=>⟨_,⟨_,_,rfl,⟨_,_,rfl,⟨rfl,inR64.2 ⟨by decide,by decide⟩⟩,_,_,rfl,⟨rfl,inR64.2 ⟨by decide,by decide⟩⟩,rfl,inR64.2 ⟨by decide,by decide⟩⟩,_,_,rfl,⟨rfl,inR64.2 ⟨by decide,by decide⟩⟩,_,_,rfl,⟨rfl,by decide⟩,_,_,rfl,⟨none,0,rfl,Nat.le_refl _,Nat.zero_le _,fun _=>rfl,rfl⟩,_,_,rfl,⟨none,0,rfl,Nat.le_refl _,Nat.zero_le _,fun _=>rfl,rfl⟩,_,rfl,rfl,Nat.le_refl _,Nat.zero_le _,rfl⟩,rfl⟩⟩
def aC(k:Tok):Ty aa:=tMap (tP aB (tP (tI .i64) (tP tS (tP (tL aj) (tP (tL aj) (tOne (tUT k))))))) (fun x:aa=>(x.Id,x.Kind,x.Label,x.Head,x.Words,x.Kids))
theorem Dh(k:Tok):dN (aC k) 4 tS (fun x y=>{x with Label:=y}):=Sm (Sk (Sk Sh))
theorem Di(k:Tok):dN (aC k) 5 (tL aj) (fun x y=>{x with Head:=y}):=Sm (Sk (Sk (Sk Sh)))
theorem xP(k:Tok):dN (aC k) 6 (tL aj) (fun x y=>{x with Words:=y}):=Sm (Sk (Sk (Sk (Sk Sh))))
theorem nE(k:Tok):Fld (aC k) 7 (tUT k) aa.Kids:=Fm (Fk (Fk (Fk (Fk (Fk Fo)))))
theorem qV(k:Tok):bg ae (aC k) 7 (tUT k) (fun x y=>{x with Kids:=y}):=bg.leL nD.out ((bg.map (m:=(fun x:aa=>(x.Id,x.Kind,x.Label,x.Head,x.Words,x.Kids))) (f':=fun x y=>{x with Kids:=y}) (bg.next (s:=aB) (bg.next (s:=(tI .i64)) (bg.next (s:=tS) (bg.next (s:=(tL aj)) (bg.next (s:=(tL aj)) (bg.one (tL ae) (tUT k) rfl)))))) (fun _ _=>rfl)).cast rfl rfl)
theorem vR(k:Tok):bg (aC k) ae 7 (tL ae) (fun x y=>{x with Kids:=y}):=bg.leR nD.into ((bg.map (m:=(fun x:aa=>(x.Id,x.Kind,x.Label,x.Head,x.Words,x.Kids))) (f':=fun x y=>{x with Kids:=y}) (bg.next (s:=aB) (bg.next (s:=(tI .i64)) (bg.next (s:=tS) (bg.next (s:=(tL aj)) (bg.next (s:=(tL aj)) (bg.one (tUT k) (tL ae) rfl)))))) (fun _ _=>rfl)).cast rfl rfl)
theorem xQ{k:Tok}{u:aa}{xs:List aa}(h:u.Kids.length=xs.length){v:Value}{g:Dec.G}(hv:((aC k).is u).holds v g):((aC k).is {u with Kids:=xs}).holds v g:=CvT.is (s:=aC k) (x:=u) rfl (CvT.map (CvT.pair CvT.same (CvT.pair CvT.same (CvT.pair CvT.same (CvT.pair CvT.same (CvT.pair CvT.same (CvT.one (CvT.ut h)))))))) hv
theorem jO{k:Tok}{u:aa}{g:Dec.G}(h:(Grown ae 27 k u.Kids).holds g){v:Value}(hv:((aC k).is u).holds v g):(ae.is u).holds v g:=Le.is nD.into (CvT.is (t:=yG ae) (y:=u) (s:=aC k) (x:=u) rfl (CvT.map (CvT.pair CvT.same (CvT.pair CvT.same (CvT.pair CvT.same (CvT.pair CvT.same (CvT.pair CvT.same (CvT.one (CvT.gr h rfl)))))))) hv)
def bu:Ty ax:=tMap (tP (tI .i64) (tOne tS)) (fun x:ax=>(x.Kind,x.Label))
abbrev Hg:FC bu 0 _ (tI .i64) ax.Kind:=fm Fh
abbrev Ut:SFC bu 0 _ (tI .i64) (fun x y=>{x with Kind:=y}):=sm Sh
abbrev Hl:FC bu 1 _ tS ax.Label:=fm (Fk Fo)
abbrev Uu:SFC bu 1 _ tS (fun x y=>{x with Label:=y}):=sm (Sk So)
def lM:Ty fZ:=tMap (tP (tI .i64) (tP (tI .i64) (tOne tS))) (fun x:fZ=>(x.Kind,x.Day,x.Event))
abbrev FK:FC lM 0 _ (tI .i64) fZ.Kind:=fm Fh
abbrev FL:FC lM 1 _ (tI .i64) fZ.Day:=fm (Fk Fh)
abbrev FM:FC lM 2 _ tS fZ.Event:=fm (Fk (Fk Fo))
def EB(X:Ty ah):Ty ah:=tMap (tP (tI .i64) (tP (tL bu) (tP (tL bu) (tP (tI .i64) (tP (tI .i64) (tP ae (tP (tL tS) (tP (tL tS) (tP tS (tP tS (tP lM (tP (tI .i64) (tP (tI .i64) (tP (tI .i64) (tP tS (tOne (tL X))))))))))))))))) (fun x:ah=>(x.Kind,x.At,x.To,x.Where,x.Nth,x.Unit,x.Old,x.New,x.Label,x.For,x.Start,x.Act,x.Item,x.Day,x.Event,x.By))
theorem Na:Cont EB:=Cont.map (fun x:ah=>(x.Kind,x.At,x.To,x.Where,x.Nth,x.Unit,x.Old,x.New,x.Label,x.For,x.Start,x.Act,x.Item,x.Day,x.Event,x.By)) (Cont.pair (Cont.const _) (Cont.pair (Cont.const _) (Cont.pair (Cont.const _) (Cont.pair (Cont.const _) (Cont.pair (Cont.const _) (Cont.pair (Cont.const _) (Cont.pair (Cont.const _) (Cont.pair (Cont.const _) (Cont.pair (Cont.const _) (Cont.pair (Cont.const _) (Cont.pair (Cont.const _) (Cont.pair (Cont.const _) (Cont.pair (Cont.const _) (Cont.pair (Cont.const _) (Cont.pair (Cont.const _) (Cont.one ((Cont.list Cont.id))))))))))))))))))
theorem EC:Rec EB 25:=⟨Na,rfl,rfl⟩
def aD:Ty ah:=tFix EC
abbrev Uv:FC aD 0 _ (tI .i64) ah.Kind:=⟨Fr (Fm Fh)⟩
abbrev Uw:SFC aD 0 _ (tI .i64) (fun x y=>{x with Kind:=y}):=⟨Sr (Sm Sh)⟩
abbrev Ux:FC aD 1 _ (tL bu) ah.At:=⟨Fr (Fm (Fk Fh))⟩
abbrev Uy:SFC aD 1 _ (tL bu) (fun x y=>{x with At:=y}):=⟨Sr (Sm (Sk Sh))⟩
abbrev Uz:FC aD 2 _ (tL bu) ah.To:=⟨Fr (Fm (Fk (Fk Fh)))⟩
abbrev UA:SFC aD 2 _ (tL bu) (fun x y=>{x with To:=y}):=⟨Sr (Sm (Sk (Sk Sh)))⟩
abbrev UB:FC aD 3 _ (tI .i64) ah.Where:=⟨Fr (Fm (Fk (Fk (Fk Fh))))⟩
abbrev UD:SFC aD 3 _ (tI .i64) (fun x y=>{x with Where:=y}):=⟨Sr (Sm (Sk (Sk (Sk Sh))))⟩
abbrev UE:FC aD 4 _ (tI .i64) ah.Nth:=⟨Fr (Fm (Fk (Fk (Fk (Fk Fh)))))⟩
abbrev UF:SFC aD 4 _ (tI .i64) (fun x y=>{x with Nth:=y}):=⟨Sr (Sm (Sk (Sk (Sk (Sk Sh)))))⟩
abbrev UG:FC aD 5 _ ae ah.Unit:=⟨Fr (Fm (Fk (Fk (Fk (Fk (Fk Fh))))))⟩
abbrev UH:SFC aD 5 _ ae (fun x y=>{x with Unit:=y}):=⟨Sr (Sm (Sk (Sk (Sk (Sk (Sk Sh))))))⟩
abbrev UI:FC aD 13 _ (tL tS) ah.Old:=⟨Fr (Fm (Fk (Fk (Fk (Fk (Fk (Fk Fh)))))))⟩
abbrev UJ:SFC aD 13 _ (tL tS) (fun x y=>{x with Old:=y}):=⟨Sr (Sm (Sk (Sk (Sk (Sk (Sk (Sk Sh)))))))⟩
abbrev Hm:FC aD 14 _ (tL tS) ah.New:=⟨Fr (Fm (Fk (Fk (Fk (Fk (Fk (Fk (Fk Fh))))))))⟩
abbrev UK:SFC aD 14 _ (tL tS) (fun x y=>{x with New:=y}):=⟨Sr (Sm (Sk (Sk (Sk (Sk (Sk (Sk (Sk Sh))))))))⟩
abbrev Ho:FC aD 15 _ tS ah.Label:=⟨Fr (Fm (Fk (Fk (Fk (Fk (Fk (Fk (Fk (Fk Fh)))))))))⟩
abbrev UL:SFC aD 15 _ tS (fun x y=>{x with Label:=y}):=⟨Sr (Sm (Sk (Sk (Sk (Sk (Sk (Sk (Sk (Sk Sh)))))))))⟩
abbrev UM:FC aD 16 _ tS ah.For:=⟨Fr (Fm (Fk (Fk (Fk (Fk (Fk (Fk (Fk (Fk (Fk Fh))))))))))⟩
abbrev UN:SFC aD 16 _ tS (fun x y=>{x with For:=y}):=⟨Sr (Sm (Sk (Sk (Sk (Sk (Sk (Sk (Sk (Sk (Sk Sh))))))))))⟩
abbrev RO:FC aD 17 _ lM ah.Start:=⟨Fr (Fm (Fk (Fk (Fk (Fk (Fk (Fk (Fk (Fk (Fk (Fk Fh)))))))))))⟩
abbrev RP:SFC aD 17 _ lM (fun x y=>{x with Start:=y}):=⟨Sr (Sm (Sk (Sk (Sk (Sk (Sk (Sk (Sk (Sk (Sk (Sk Sh)))))))))))⟩
abbrev RQ:FC aD 20 _ (tI .i64) ah.Act:=⟨Fr (Fm (Fk (Fk (Fk (Fk (Fk (Fk (Fk (Fk (Fk (Fk (Fk Fh))))))))))))⟩
abbrev RS:SFC aD 20 _ (tI .i64) (fun x y=>{x with Act:=y}):=⟨Sr (Sm (Sk (Sk (Sk (Sk (Sk (Sk (Sk (Sk (Sk (Sk (Sk Sh))))))))))))⟩
abbrev RV:FC aD 21 _ (tI .i64) ah.Item:=⟨Fr (Fm (Fk (Fk (Fk (Fk (Fk (Fk (Fk (Fk (Fk (Fk (Fk (Fk Fh)))))))))))))⟩
abbrev RX:SFC aD 21 _ (tI .i64) (fun x y=>{x with Item:=y}):=⟨Sr (Sm (Sk (Sk (Sk (Sk (Sk (Sk (Sk (Sk (Sk (Sk (Sk (Sk Sh)))))))))))))⟩
abbrev RY:FC aD 22 _ (tI .i64) ah.Day:=⟨Fr (Fm (Fk (Fk (Fk (Fk (Fk (Fk (Fk (Fk (Fk (Fk (Fk (Fk (Fk Fh))))))))))))))⟩
abbrev RZ:SFC aD 22 _ (tI .i64) (fun x y=>{x with Day:=y}):=⟨Sr (Sm (Sk (Sk (Sk (Sk (Sk (Sk (Sk (Sk (Sk (Sk (Sk (Sk (Sk Sh))))))))))))))⟩
abbrev R3:FC aD 23 _ tS ah.Event:=⟨Fr (Fm (Fk (Fk (Fk (Fk (Fk (Fk (Fk (Fk (Fk (Fk (Fk (Fk (Fk (Fk Fh)))))))))))))))⟩
abbrev R4:SFC aD 23 _ tS (fun x y=>{x with Event:=y}):=⟨Sr (Sm (Sk (Sk (Sk (Sk (Sk (Sk (Sk (Sk (Sk (Sk (Sk (Sk (Sk (Sk Sh)))))))))))))))⟩
abbrev R5:FC aD 24 _ (tL aD) ah.By:=⟨Fr (Fm (Fk (Fk (Fk (Fk (Fk (Fk (Fk (Fk (Fk (Fk (Fk (Fk (Fk (Fk (Fk Fo))))))))))))))))⟩
abbrev R6:SFC aD 24 _ (tL aD) (fun x y=>{x with By:=y}):=⟨Sr (Sm (Sk (Sk (Sk (Sk (Sk (Sk (Sk (Sk (Sk (Sk (Sk (Sk (Sk (Sk (Sk So))))))))))))))))⟩
def aO:Ty ak:=tMap (tP (tI .i64) (tP (tI .i64) (tP (tI .i64) (tOne aD)))) (fun x:ak=>(x.Act,x.Item,x.Day,x.It))
abbrev zx:FC aO 0 _ (tI .i64) ak.Act:=fm Fh
abbrev zy:FC aO 1 _ (tI .i64) ak.Item:=fm (Fk Fh)
abbrev uX:FC aO 3 _ aD ak.It:=fm (Fk (Fk (Fk Fo)))
def aL:Ty az:=tMap (tP (tI .i64) (tP (tI .i64) (tP aB (tP aB (tP ae (tP tS (tOne (tL aj)))))))) (fun x:az=>(x.Kind,x.At,x.Id,x.Parent,x.Unit,x.Label,x.Words))
abbrev R7:FC aL 0 _ (tI .i64) az.Kind:=fm Fh
abbrev R8:SFC aL 0 _ (tI .i64) (fun x y=>{x with Kind:=y}):=sm Sh
abbrev R9:FC aL 1 _ (tI .i64) az.At:=fm (Fk Fh)
abbrev Sa:SFC aL 1 _ (tI .i64) (fun x y=>{x with At:=y}):=sm (Sk Sh)
abbrev Sb:FC aL 2 _ aB az.Id:=fm (Fk (Fk Fh))
abbrev Sc:SFC aL 2 _ aB (fun x y=>{x with Id:=y}):=sm (Sk (Sk Sh))
abbrev Sd:FC aL 5 _ aB az.Parent:=fm (Fk (Fk (Fk Fh)))
abbrev Sg:SFC aL 5 _ aB (fun x y=>{x with Parent:=y}):=sm (Sk (Sk (Sk Sh)))
abbrev Sj:FC aL 8 _ ae az.Unit:=fm (Fk (Fk (Fk (Fk Fh))))
abbrev Sl:SFC aL 8 _ ae (fun x y=>{x with Unit:=y}):=sm (Sk (Sk (Sk (Sk Sh))))
abbrev Sn:FC aL 16 _ tS az.Label:=fm (Fk (Fk (Fk (Fk (Fk Fh)))))
abbrev Sq:SFC aL 16 _ tS (fun x y=>{x with Label:=y}):=sm (Sk (Sk (Sk (Sk (Sk Sh)))))
abbrev Su:FC aL 17 _ (tL aj) az.Words:=fm (Fk (Fk (Fk (Fk (Fk (Fk Fo))))))
abbrev Sv:SFC aL 17 _ (tL aj) (fun x y=>{x with Words:=y}):=sm (Sk (Sk (Sk (Sk (Sk (Sk So))))))
noncomputable def eO:Ty dX:=tMap (tP (tFun Tryz.prog (fun (f:ah->Option ah)=>(fun s:ah×ah=>f s.1=some s.2)) (fun s:ah×ah=>[aD.is s.1]) (fun s:ah×ah=>(aD.is s.2))) (tOne (tFun Tryz.prog (fun (f:ah->Option Bool)=>(fun s:ah×Bool=>f s.1=some s.2)) (fun s:ah×Bool=>[aD.is s.1]) (fun s:ah×Bool=>(tB.is s.2))))) (fun x:dX=>(x.has_,x.may_))
noncomputable abbrev O5:FC eO 0 _ (tFun Tryz.prog (fun (f:ah->Option ah)=>(fun s:ah×ah=>f s.1=some s.2)) (fun s:ah×ah=>[aD.is s.1]) (fun s:ah×ah=>(aD.is s.2))) dX.has_:=fm Fh
noncomputable abbrev O6:SFC eO 0 _ (tFun Tryz.prog (fun (f:ah->Option ah)=>(fun s:ah×ah=>f s.1=some s.2)) (fun s:ah×ah=>[aD.is s.1]) (fun s:ah×ah=>(aD.is s.2))) (fun x y=>{x with has_:=y}):=sm Sh
noncomputable abbrev O7:FC eO 1 _ (tFun Tryz.prog (fun (f:ah->Option Bool)=>(fun s:ah×Bool=>f s.1=some s.2)) (fun s:ah×Bool=>[aD.is s.1]) (fun s:ah×Bool=>(tB.is s.2))) dX.may_:=fm (Fk Fo)
noncomputable abbrev O8:SFC eO 1 _ (tFun Tryz.prog (fun (f:ah->Option Bool)=>(fun s:ah×Bool=>f s.1=some s.2)) (fun s:ah×Bool=>[aD.is s.1]) (fun s:ah×Bool=>(tB.is s.2))) (fun x y=>{x with may_:=y}):=sm (Sk So)
def dx:Ty aH:=tMap (tP aB (tOne (tI .i64))) (fun x:aH=>(x.parent_,x.at_))
abbrev O9:FC dx 0 _ aB aH.parent_:=fm Fh
abbrev Pb:SFC dx 0 _ aB (fun x y=>{x with parent_:=y}):=sm Sh
abbrev Pd:FC dx 3 _ (tI .i64) aH.at_:=fm (Fk Fo)
abbrev Pe:SFC dx 3 _ (tI .i64) (fun x y=>{x with at_:=y}):=sm (Sk So)
def aP:Ty av:=tMap (tP (tI .i64) (tP (tI .i64) (tP (tI .i64) (tOne (tI .i64))))) (fun x:av=>(x.act_,x.item_,x.unit_,x.word_))
abbrev zA:FC aP 0 _ (tI .i64) av.act_:=fm Fh
abbrev JS:SFC aP 0 _ (tI .i64) (fun x y=>{x with act_:=y}):=sm Sh
abbrev zB:FC aP 1 _ (tI .i64) av.item_:=fm (Fk Fh)
abbrev JU:SFC aP 1 _ (tI .i64) (fun x y=>{x with item_:=y}):=sm (Sk Sh)
abbrev uY:FC aP 2 _ (tI .i64) av.unit_:=fm (Fk (Fk Fh))
abbrev zC:SFC aP 2 _ (tI .i64) (fun x y=>{x with unit_:=y}):=sm (Sk (Sk Sh))
abbrev JV:FC aP 3 _ (tI .i64) av.word_:=fm (Fk (Fk (Fk Fo)))
abbrev JW:SFC aP 3 _ (tI .i64) (fun x y=>{x with word_:=y}):=sm (Sk (Sk (Sk So)))
def j5:Ty bD:=tMap (tP (tI .i64) (tOne tS)) (fun x:bD=>(x.kind_,x.label_))
abbrev xR:FC j5 0 _ (tI .i64) bD.kind_:=fm Fh
abbrev Pf:SFC j5 0 _ (tI .i64) (fun x y=>{x with kind_:=y}):=sm Sh
abbrev xS:FC j5 1 _ tS bD.label_:=fm (Fk Fo)
abbrev Pg:SFC j5 1 _ tS (fun x y=>{x with label_:=y}):=sm (Sk So)
def j6:Ty jL:=tMap (tP (tI .i64) (tP (tI .i64) (tOne (tI .i64)))) (fun x:jL=>(x.Act,x.Item,x.Why))
abbrev Ph:SFC j6 0 _ (tI .i64) (fun x y=>{x with Act:=y}):=sm Sh
abbrev Pj:SFC j6 1 _ (tI .i64) (fun x y=>{x with Item:=y}):=sm (Sk Sh)
abbrev Pk:SFC j6 2 _ (tI .i64) (fun x y=>{x with Why:=y}):=sm (Sk (Sk So))
noncomputable def jb:Ty aV:=tMap (tP (tFun Tryz.prog (fun (f:Unit->Option Bool)=>(fun s:Bool=>f ()=some s)) (fun _:Bool=>[]) (fun s:Bool=>(tB.is s))) (tOne (tI .i64))) (fun x:aV=>(x.wrong_,x.e_))
noncomputable abbrev LH:FC jb 0 _ (tFun Tryz.prog (fun (f:Unit->Option Bool)=>(fun s:Bool=>f ()=some s)) (fun _:Bool=>[]) (fun s:Bool=>(tB.is s))) aV.wrong_:=fm Fh
noncomputable abbrev LJ:SFC jb 0 _ (tFun Tryz.prog (fun (f:Unit->Option Bool)=>(fun s:Bool=>f ()=some s)) (fun _:Bool=>[]) (fun s:Bool=>(tB.is s))) (fun x y=>{x with wrong_:=y}):=sm Sh
noncomputable abbrev LM:FC jb 1 _ (tI .i64) aV.e_:=fm (Fk Fo)
noncomputable abbrev LP:SFC jb 1 _ (tI .i64) (fun x y=>{x with e_:=y}):=sm (Sk So)
abbrev ty3:=yM (t:=(tI .i64)) Tryz.isAgg3 Tryz.sizeOf3
abbrev el3:ElC Tryz.prog 3 _ (tI .i64):=eM Tryz.type3 rfl
abbrev ze3:=zM (t:=(tI .i64)) (z:=(0:Int)) Tryz.zeroValue3
abbrev ty4:=yM (t:=tB) Tryz.isAgg4 Tryz.sizeOf4
abbrev ze4:=zM (t:=tB) (z:=false) Tryz.zeroValue4
abbrev ty5:=yM (t:=(tI .u8)) Tryz.isAgg5 Tryz.sizeOf5
abbrev el5:ElC Tryz.prog 5 _ (tI .u8):=eM Tryz.type5 rfl
abbrev ty9:=yM (t:=tS) Tryz.isAgg9 Tryz.sizeOf9
abbrev el9:ElC Tryz.prog 9 _ tS:=eM Tryz.type9 rfl
abbrev ze9:=zM (t:=tS) (z:=([]:Str)) Tryz.zeroValue9
abbrev ty23:=yM (t:=aB) Tryz.isAgg23 Tryz.sizeOf23
abbrev el23:ElC Tryz.prog 23 _ aB:=eM Tryz.type23 rfl
abbrev ze23:=zM (t:=aB) (z:=aF) Tryz.zeroValue23
abbrev ty24:=yM (t:=(tL aj)) Tryz.isAgg24 Tryz.sizeOf24
abbrev el24:ElC Tryz.prog 24 _ (tL aj):=eM Tryz.type24 rfl
abbrev ze24:=zM (t:=(tL aj)) (z:=([]:List af)) Tryz.zeroValue24
abbrev ty25:=yM (t:=(tL ae)) Tryz.isAgg25 Tryz.sizeOf25
abbrev ty27:=yM (t:=ae) Tryz.isAgg27 Tryz.sizeOf27
abbrev el27:ElC Tryz.prog 27 _ ae:=eM Tryz.type27 rfl
abbrev ze27:=zM (t:=ae) (z:=au) Tryz.zeroValue27
abbrev ty38:=yM (t:=(tI .i64)) Tryz.isAgg38 Tryz.sizeOf38
abbrev ze38:=zM (t:=(tI .i64)) (z:=(0:Int)) Tryz.zeroValue38
abbrev ty43:=yM (t:=(tFun Tryz.prog (fun (f:ah->Option Bool)=>(fun s:ah×Bool=>f s.1=some s.2)) (fun s:ah×Bool=>[aD.is s.1]) (fun s:ah×Bool=>(tB.is s.2)))) Tryz.isAgg43 Tryz.sizeOf43
abbrev ty44:=yM (t:=(tL bu)) Tryz.isAgg44 Tryz.sizeOf44
abbrev ty45:=yM (t:=(tL tS)) Tryz.isAgg45 Tryz.sizeOf45
abbrev ty47:=yM (t:=lM) Tryz.isAgg47 Tryz.sizeOf47
abbrev ty48:=yM (t:=(tL aD)) Tryz.isAgg48 Tryz.sizeOf48
abbrev ty50:=yM (t:=aD) Tryz.isAgg50 Tryz.sizeOf50
abbrev ze50:=zM (t:=aD) (z:=yA) Tryz.zeroValue50
abbrev ty52:=yM (t:=aO) Tryz.isAgg52 Tryz.sizeOf52
abbrev ze52:=zM (t:=aO) (z:=wh) Tryz.zeroValue52
abbrev ty56:=yM (t:=aL) Tryz.isAgg56 Tryz.sizeOf56
abbrev el56:ElC Tryz.prog 56 _ aL:=eM Tryz.type56 rfl
abbrev ze56:=zM (t:=aL) (z:=zu) Tryz.zeroValue56
abbrev ty61:=yM (t:=j6) Tryz.isAgg61 Tryz.sizeOf61
abbrev el61:ElC Tryz.prog 61 _ j6:=eM Tryz.type61 rfl
abbrev ze61:=zM (t:=j6) (z:=Af) Tryz.zeroValue61
abbrev ty66:=yM (t:=(tFun Tryz.prog (fun (f:aa->az->Option (aa×Int))=>(fun s:aa×az×(aa×Int)=>f s.1 s.2.1=some s.2.2)) (fun s:aa×az×(aa×Int)=>[ae.is s.1,aL.is s.2.1]) (fun s:aa×az×(aa×Int)=>(Asn.tuple2 (ae.is s.2.2.1) ((tI .i64).is s.2.2.2))))) Tryz.isAgg66 Tryz.sizeOf66
abbrev ze66:=zM (t:=(tFun Tryz.prog (fun (f:aa->az->Option (aa×Int))=>(fun s:aa×az×(aa×Int)=>f s.1 s.2.1=some s.2.2)) (fun s:aa×az×(aa×Int)=>[ae.is s.1,aL.is s.2.1]) (fun s:aa×az×(aa×Int)=>(Asn.tuple2 (ae.is s.2.2.1) ((tI .i64).is s.2.2.2))))) (z:=(fun _ _=>none:aa->az->Option (aa×Int))) Tryz.zeroValue66
abbrev ty70:=yM (t:=bu) Tryz.isAgg70 Tryz.sizeOf70
abbrev ze70:=zM (t:=bu) (z:=M5) Tryz.zeroValue70
abbrev ty75:=yM (t:=(tFun Tryz.prog (fun (f:aa->aa->Option az)=>(fun s:aa×aa×az=>f s.1 s.2.1=some s.2.2)) (fun s:aa×aa×az=>[ae.is s.1,ae.is s.2.1]) (fun s:aa×aa×az=>(aL.is s.2.2)))) Tryz.isAgg75 Tryz.sizeOf75
abbrev ze75:=zM (t:=(tFun Tryz.prog (fun (f:aa->aa->Option az)=>(fun s:aa×aa×az=>f s.1 s.2.1=some s.2.2)) (fun s:aa×aa×az=>[ae.is s.1,ae.is s.2.1]) (fun s:aa×aa×az=>(aL.is s.2.2)))) (z:=(fun _ _=>none:aa->aa->Option az)) Tryz.zeroValue75
abbrev ty79:=yM (t:=(tFun Tryz.prog (fun (f:aa->aa->ak->Option (aa×Int))=>(fun s:aa×aa×ak×(aa×Int)=>f s.1 s.2.1 s.2.2.1=some s.2.2.2)) (fun s:aa×aa×ak×(aa×Int)=>[ae.is s.1,ae.is s.2.1,aO.is s.2.2.1]) (fun s:aa×aa×ak×(aa×Int)=>(Asn.tuple2 (ae.is s.2.2.2.1) ((tI .i64).is s.2.2.2.2))))) Tryz.isAgg79 Tryz.sizeOf79
abbrev ze79:=zM (t:=(tFun Tryz.prog (fun (f:aa->aa->ak->Option (aa×Int))=>(fun s:aa×aa×ak×(aa×Int)=>f s.1 s.2.1 s.2.2.1=some s.2.2.2)) (fun s:aa×aa×ak×(aa×Int)=>[ae.is s.1,ae.is s.2.1,aO.is s.2.2.1]) (fun s:aa×aa×ak×(aa×Int)=>(Asn.tuple2 (ae.is s.2.2.2.1) ((tI .i64).is s.2.2.2.2))))) (z:=(fun _ _ _=>none:aa->aa->ak->Option (aa×Int))) Tryz.zeroValue79
abbrev ty96:=yM (t:=jJ) Tryz.isAgg96 Tryz.sizeOf96
abbrev ze96:=zM (t:=jJ) (z:=mR) Tryz.zeroValue96
abbrev ty98:=yM (t:=aj) Tryz.isAgg98 Tryz.sizeOf98
abbrev el98:ElC Tryz.prog 98 _ aj:=eM Tryz.type98 rfl
abbrev ze98:=zM (t:=aj) (z:=uJ) Tryz.zeroValue98
abbrev ty104:=yM (t:=(tL aB)) Tryz.isAgg104 Tryz.sizeOf104
abbrev ze104:=zM (t:=(tL aB)) (z:=([]:List ai)) Tryz.zeroValue104
abbrev ty108:=yM (t:=(tFun Tryz.prog (fun (f:ah->Option ah)=>(fun s:ah×ah=>f s.1=some s.2)) (fun s:ah×ah=>[aD.is s.1]) (fun s:ah×ah=>(aD.is s.2)))) Tryz.isAgg108 Tryz.sizeOf108
noncomputable abbrev ty121:=yM (t:=eO) Tryz.isAgg121 Tryz.sizeOf121
noncomputable abbrev ze121:=zM (t:=eO) (z:=nQ) Tryz.zeroValue121
abbrev ty131:=yM (t:=(tL (tI .i64))) Tryz.isAgg131 Tryz.sizeOf131
abbrev ty167:=yM (t:=(tFun Tryz.prog (fun (f:Unit->Option Bool)=>(fun s:Bool=>f ()=some s)) (fun _:Bool=>[]) (fun s:Bool=>(tB.is s)))) Tryz.isAgg167 Tryz.sizeOf167
noncomputable abbrev ty169:=yM (t:=jb) Tryz.isAgg169 Tryz.sizeOf169
noncomputable abbrev el169:ElC Tryz.prog 169 _ jb:=eM Tryz.type169 rfl
noncomputable abbrev ze169:=zM (t:=jb) (z:=xq) Tryz.zeroValue169
abbrev ty184:=yM (t:=dx) Tryz.isAgg184 Tryz.sizeOf184
abbrev ze184:=zM (t:=dx) (z:=Ad) Tryz.zeroValue184
abbrev ze188:=zM (t:=aP) (z:=wm) Tryz.zeroValue188
abbrev ty220:=yM (t:=(tFun Tryz.prog (fun (f:af->Option Bool)=>(fun s:af×Bool=>f s.1=some s.2)) (fun s:af×Bool=>[aj.is s.1]) (fun s:af×Bool=>(tB.is s.2)))) Tryz.isAgg220 Tryz.sizeOf220
abbrev ty223:=yM (t:=(tFun Tryz.prog (fun (f:aa->ai->Option (aH×Int))=>(fun s:aa×ai×(aH×Int)=>f s.1 s.2.1=some s.2.2)) (fun s:aa×ai×(aH×Int)=>[ae.is s.1,aB.is s.2.1]) (fun s:aa×ai×(aH×Int)=>(Asn.tuple2 (dx.is s.2.2.1) ((tI .i64).is s.2.2.2))))) Tryz.isAgg223 Tryz.sizeOf223
abbrev ze223:=zM (t:=(tFun Tryz.prog (fun (f:aa->ai->Option (aH×Int))=>(fun s:aa×ai×(aH×Int)=>f s.1 s.2.1=some s.2.2)) (fun s:aa×ai×(aH×Int)=>[ae.is s.1,aB.is s.2.1]) (fun s:aa×ai×(aH×Int)=>(Asn.tuple2 (dx.is s.2.2.1) ((tI .i64).is s.2.2.2))))) (z:=(fun _ _=>none:aa->ai->Option (aH×Int))) Tryz.zeroValue223
abbrev ty262:=yM (t:=j5) Tryz.isAgg262 Tryz.sizeOf262
abbrev ze262:=zM (t:=j5) (z:=Ae) Tryz.zeroValue262
abbrev ze210:ZeC Tryz.prog 210 _ (tA 256 tB) (List.replicate 256 false):=⟨pW.array ze4.h Tryz.zeroValue4 Tryz.zeroValue210 rfl default⟩
abbrev ze224:ZeC Tryz.prog 224 _ (tA 4 (tFun Tryz.prog (fun (f:aa->ai->Option (aH×Int))=>(fun s:aa×ai×(aH×Int)=>f s.1 s.2.1=some s.2.2)) (fun s:aa×ai×(aH×Int)=>[ae.is s.1,aB.is s.2.1]) (fun s:aa×ai×(aH×Int)=>(Asn.tuple2 (dx.is s.2.2.1) ((tI .i64).is s.2.2.2))))) (List.replicate 4 (fun _ _=>none:aa->ai->Option (aH×Int))):=⟨pW.array ze223.h Tryz.zeroValue223 Tryz.zeroValue224 rfl default⟩
theorem eq23:EqT (α:=ai) (P:=Tryz.prog) (T:=23) (t:=aB) (D:=2):=EqT.struct (D:=1) rfl Tryz.underlying23 (by kernel_rfl) ⟨_,inferInstance,_,_,_,by decide,ty3.h,Ey.h,((EqT.int Tryz.underlying3).up (by decide)),⟨_,inferInstance,_,_,_,by decide,ty3.h,Ez.h,((EqT.int Tryz.underlying3).up (by decide)),⟨_,inferInstance,_,_,_,by decide,ty3.h,EA.h,((EqT.int Tryz.underlying3).up (by decide)),rfl,rfl⟩,rfl⟩,rfl⟩ (fun x y=>by cases x;cases y;simp)
theorem eg23:Tryz.prog.eqGuardType Tryz.prog.depth 23=false:=by kernel_rfl
theorem eq47:EqT (α:=fZ) (P:=Tryz.prog) (T:=47) (t:=lM) (D:=2):=EqT.struct (D:=1) rfl Tryz.underlying47 (by kernel_rfl) ⟨_,inferInstance,_,_,_,by decide,ty3.h,FK.h,((EqT.int Tryz.underlying3).up (by decide)),⟨_,inferInstance,_,_,_,by decide,ty3.h,FL.h,((EqT.int Tryz.underlying3).up (by decide)),⟨_,inferInstance,_,_,_,by decide,ty9.h,FM.h,((EqT.string Tryz.underlying9).up (by decide)),rfl,rfl⟩,rfl⟩,rfl⟩ (fun x y=>by cases x;cases y;simp)
theorem eg47:Tryz.prog.eqGuardType Tryz.prog.depth 47=false:=by kernel_rfl
theorem eq70:EqT (α:=ax) (P:=Tryz.prog) (T:=70) (t:=bu) (D:=2):=EqT.struct (D:=1) rfl Tryz.underlying70 (by kernel_rfl) ⟨_,inferInstance,_,_,_,by decide,ty3.h,Hg.h,((EqT.int Tryz.underlying3).up (by decide)),⟨_,inferInstance,_,_,_,by decide,ty9.h,Hl.h,((EqT.string Tryz.underlying9).up (by decide)),rfl,rfl⟩,rfl⟩ (fun x y=>by cases x;cases y;simp)
theorem eg70:Tryz.prog.eqGuardType Tryz.prog.depth 70=false:=by kernel_rfl
theorem eq96:EqT (α:=kL) (P:=Tryz.prog) (T:=96) (t:=jJ) (D:=2):=EqT.struct (D:=1) rfl Tryz.underlying96 (by kernel_rfl) ⟨_,inferInstance,_,_,_,by decide,ty3.h,G6.h,((EqT.int Tryz.underlying3).up (by decide)),⟨_,inferInstance,_,_,_,by decide,ty3.h,G7.h,((EqT.int Tryz.underlying3).up (by decide)),⟨_,inferInstance,_,_,_,by decide,ty3.h,G8.h,((EqT.int Tryz.underlying3).up (by decide)),rfl,rfl⟩,rfl⟩,rfl⟩ (fun x y=>by cases x;cases y;simp)
theorem eg96:Tryz.prog.eqGuardType Tryz.prog.depth 96=false:=by kernel_rfl
theorem eq98:EqT (α:=af) (P:=Tryz.prog) (T:=98) (t:=aj) (D:=3):=EqT.struct (D:=2) rfl Tryz.underlying98 (by kernel_rfl) ⟨_,inferInstance,_,_,_,by decide,ty9.h,G9.h,((EqT.string Tryz.underlying9).up (by decide)),⟨_,inferInstance,_,_,_,by decide,ty96.h,Ha.h,((eq96).up (by decide)),rfl,rfl⟩,rfl⟩ (fun x y=>by cases x;cases y;simp)
theorem eg98:Tryz.prog.eqGuardType Tryz.prog.depth 98=false:=by kernel_rfl
theorem eq262:EqT (α:=bD) (P:=Tryz.prog) (T:=262) (t:=j5) (D:=2):=EqT.struct (D:=1) rfl Tryz.underlying262 (by kernel_rfl) ⟨_,inferInstance,_,_,_,by decide,ty3.h,xR.h,((EqT.int Tryz.underlying3).up (by decide)),⟨_,inferInstance,_,_,_,by decide,ty9.h,xS.h,((EqT.string Tryz.underlying9).up (by decide)),rfl,rfl⟩,rfl⟩ (fun x y=>by cases x;cases y;simp)
theorem eg262:Tryz.prog.eqGuardType Tryz.prog.depth 262=false:=by kernel_rfl
theorem fl3:Flat (tI .i64):=Flat.I
theorem fl98:Flat aj:=(Flat.map (Flat.pair Flat.S (Flat.one (Flat.map (Flat.pair Flat.I (Flat.pair Flat.I (Flat.one Flat.I))) _))) _)
theorem kt3:KeyT Tryz.prog 3 (tI .i64):=KeyT.int Tryz.underlying3
theorem kt23:KeyT Tryz.prog 23 aB:=KeyT.struct eq23 (by decide) rfl Tryz.underlying23 ⟨⟨_,_,_,ty3.h,Ey.h,(fun h e w=>CS Tryz.underlying3 9998 h e w)⟩,⟨_,_,_,ty3.h,Ez.h,(fun h e w=>CS Tryz.underlying3 9998 h e w)⟩,⟨_,_,_,ty3.h,EA.h,(fun h e w=>CS Tryz.underlying3 9998 h e w)⟩,trivial⟩
theorem kt262:KeyT Tryz.prog 262 j5:=KeyT.struct eq262 (by decide) rfl Tryz.underlying262 ⟨⟨_,_,_,ty3.h,xR.h,(fun h e w=>CS Tryz.underlying3 9998 h e w)⟩,⟨_,_,_,ty9.h,xS.h,(fun h e w=>MS Tryz.underlying9 9998 h e w)⟩,trivial⟩
abbrev I6:Ty Int:=tI .i64
theorem Mx:Tryz.prog.follows .mixedOrders=true:=Tryz.mixed
theorem C20(xs:Array Value)(w:World):(callFunc 20 xs).run Tryz.prog w= .ok (.enter 20 xs) w:=Tryz.call20 xs w
theorem C21(xs:Array Value)(w:World):(callFunc 21 xs).run Tryz.prog w= .ok (.enter 21 xs) w:=Tryz.call21 xs w
theorem C30(xs:Array Value)(w:World):(callFunc 30 xs).run Tryz.prog w= .ok (.enter 30 xs) w:=Tryz.call30 xs w
theorem C44(xs:Array Value)(w:World):(callFunc 44 xs).run Tryz.prog w= .ok (.enter 44 xs) w:=Tryz.call44 xs w
theorem C61(xs:Array Value)(w:World):(callFunc 61 xs).run Tryz.prog w= .ok (.enter 61 xs) w:=Tryz.call61 xs w
theorem C64(xs:Array Value)(w:World):(callFunc 64 xs).run Tryz.prog w= .ok (.enter 64 xs) w:=Tryz.call64 xs w
theorem C78(xs:Array Value)(w:World):(callFunc 78 xs).run Tryz.prog w= .ok (.enter 78 xs) w:=Tryz.call78 xs w
theorem C110(xs:Array Value)(w:World):(callFunc 110 xs).run Tryz.prog w= .ok (.enter 110 xs) w:=Tryz.call110 xs w
theorem C124(xs:Array Value)(w:World):(callFunc 124 xs).run Tryz.prog w= .ok (.enter 124 xs) w:=Tryz.call124 xs w
theorem C126(xs:Array Value)(w:World):(callFunc 126 xs).run Tryz.prog w= .ok (.enter 126 xs) w:=Tryz.call126 xs w
theorem C132(xs:Array Value)(w:World):(callFunc 132 xs).run Tryz.prog w= .ok (.enter 132 xs) w:=Tryz.call132 xs w
theorem C133(xs:Array Value)(w:World):(callFunc 133 xs).run Tryz.prog w= .ok (.enter 133 xs) w:=Tryz.call133 xs w
theorem C161(xs:Array Value)(w:World):(callFunc 161 xs).run Tryz.prog w= .ok (.enter 161 xs) w:=Tryz.call161 xs w
theorem C177(xs:Array Value)(w:World):(callFunc 177 xs).run Tryz.prog w= .ok (.enter 177 xs) w:=Tryz.call177 xs w
theorem C201(xs:Array Value)(w:World):(callFunc 201 xs).run Tryz.prog w= .ok (.enter 201 xs) w:=Tryz.call201 xs w
theorem C203(xs:Array Value)(w:World):(callFunc 203 xs).run Tryz.prog w= .ok (.enter 203 xs) w:=Tryz.call203 xs w
theorem C205(xs:Array Value)(w:World):(callFunc 205 xs).run Tryz.prog w= .ok (.enter 205 xs) w:=Tryz.call205 xs w
theorem C211(xs:Array Value)(w:World):(callFunc 211 xs).run Tryz.prog w= .ok (.enter 211 xs) w:=Tryz.call211 xs w
theorem C220(xs:Array Value)(w:World):(callFunc 220 xs).run Tryz.prog w= .ok (.enter 220 xs) w:=Tryz.call220 xs w
theorem C224(xs:Array Value)(w:World):(callFunc 224 xs).run Tryz.prog w= .ok (.enter 224 xs) w:=Tryz.call224 xs w
theorem C225(xs:Array Value)(w:World):(callFunc 225 xs).run Tryz.prog w= .ok (.enter 225 xs) w:=Tryz.call225 xs w
theorem C226(xs:Array Value)(w:World):(callFunc 226 xs).run Tryz.prog w= .ok (.enter 226 xs) w:=Tryz.call226 xs w
theorem C227(xs:Array Value)(w:World):(callFunc 227 xs).run Tryz.prog w= .ok (.enter 227 xs) w:=Tryz.call227 xs w
theorem C246(xs:Array Value)(w:World):(callFunc 246 xs).run Tryz.prog w= .ok (.enter 246 xs) w:=Tryz.call246 xs w
theorem C255(xs:Array Value)(w:World):(callFunc 255 xs).run Tryz.prog w= .ok (.enter 255 xs) w:=Tryz.call255 xs w
theorem C268(xs:Array Value)(w:World):(callFunc 268 xs).run Tryz.prog w= .ok (.enter 268 xs) w:=Tryz.call268 xs w
theorem C292(xs:Array Value)(w:World):(callFunc 292 xs).run Tryz.prog w= .ok (.enter 292 xs) w:=Tryz.call292 xs w
theorem C295(xs:Array Value)(w:World):(callFunc 295 xs).run Tryz.prog w= .ok (.enter 295 xs) w:=Tryz.call295 xs w
theorem C297(xs:Array Value)(w:World):(callFunc 297 xs).run Tryz.prog w= .ok (.enter 297 xs) w:=Tryz.call297 xs w
theorem C299(xs:Array Value)(w:World):(callFunc 299 xs).run Tryz.prog w= .ok (.enter 299 xs) w:=Tryz.call299 xs w
theorem C301(xs:Array Value)(w:World):(callFunc 301 xs).run Tryz.prog w= .ok (.enter 301 xs) w:=Tryz.call301 xs w
theorem C302(xs:Array Value)(w:World):(callFunc 302 xs).run Tryz.prog w= .ok (.enter 302 xs) w:=Tryz.call302 xs w
theorem C303(xs:Array Value)(w:World):(callFunc 303 xs).run Tryz.prog w= .ok (.enter 303 xs) w:=Tryz.call303 xs w
theorem C304(xs:Array Value)(w:World):(callFunc 304 xs).run Tryz.prog w= .ok (.enter 304 xs) w:=Tryz.call304 xs w
theorem C305(xs:Array Value)(w:World):(callFunc 305 xs).run Tryz.prog w= .ok (.enter 305 xs) w:=Tryz.call305 xs w
theorem C306(xs:Array Value)(w:World):(callFunc 306 xs).run Tryz.prog w= .ok (.enter 306 xs) w:=Tryz.call306 xs w
theorem C308(xs:Array Value)(w:World):(callFunc 308 xs).run Tryz.prog w= .ok (.enter 308 xs) w:=Tryz.call308 xs w
theorem C309(xs:Array Value)(w:World):(callFunc 309 xs).run Tryz.prog w= .ok (.enter 309 xs) w:=Tryz.call309 xs w
theorem C320(xs:Array Value)(w:World):(callFunc 320 xs).run Tryz.prog w= .ok (.enter 320 xs) w:=Tryz.call320 xs w
theorem J3(w:World):∃ m,(sizeOf 3).run Tryz.prog w= .ok (m+1) w:=⟨0,Tryz.sizeOf3 w⟩
theorem J9(w:World):∃ m,(sizeOf 9).run Tryz.prog w= .ok (m+1) w:=⟨0,Tryz.sizeOf9 w⟩
theorem J23(w:World):∃ m,(sizeOf 23).run Tryz.prog w= .ok (m+1) w:=⟨2,Tryz.sizeOf23 w⟩
theorem J24(w:World):∃ m,(sizeOf 24).run Tryz.prog w= .ok (m+1) w:=⟨0,Tryz.sizeOf24 w⟩
theorem J25(w:World):∃ m,(sizeOf 25).run Tryz.prog w= .ok (m+1) w:=⟨0,Tryz.sizeOf25 w⟩
theorem J45(w:World):∃ m,(sizeOf 45).run Tryz.prog w= .ok (m+1) w:=⟨0,Tryz.sizeOf45 w⟩
theorem J50(w:World):∃ m,(sizeOf 50).run Tryz.prog w= .ok (m+1) w:=⟨24,Tryz.sizeOf50 w⟩
theorem J246(w:World):∃ m,(sizeOf 246).run Tryz.prog w= .ok (m+1) w:=⟨0,Tryz.sizeOf246 w⟩
theorem U4:Tryz.prog.underlying 4=some (.bool):=Tryz.underlying4
theorem U5:Tryz.prog.underlying 5=some (.int .u8):=Tryz.underlying5
theorem U9:Tryz.prog.underlying 9=some (.string):=Tryz.underlying9
theorem U23:Tryz.prog.underlying 23=some (.struct #[⟨ "Act",3,0,false,"","",0⟩,⟨ "Item",3,1,false,"","",8⟩,⟨ "N",3,2,false,"","",16⟩]):=Tryz.underlying23
theorem U24:Tryz.prog.underlying 24=some (.slice 98):=Tryz.underlying24
theorem U25:Tryz.prog.underlying 25=some (.slice 27):=Tryz.underlying25
theorem U27:Tryz.prog.underlying 27=some (.struct #[⟨ "Id",23,0,false,"","",0⟩,⟨ "Kind",3,3,false,"","",24⟩,⟨ "Label",9,4,false,"","",32⟩,⟨ "Head",24,5,false,"","",48⟩,⟨ "Words",24,6,false,"","",72⟩,⟨ "Kids",25,7,false,"","",96⟩]):=Tryz.underlying27
theorem U31:Tryz.prog.underlying 31=some (.slice 56):=Tryz.underlying31
theorem U44:Tryz.prog.underlying 44=some (.slice 70):=Tryz.underlying44
theorem U45:Tryz.prog.underlying 45=some (.slice 9):=Tryz.underlying45
theorem U50:Tryz.prog.underlying 50=some (.struct #[⟨ "Kind",3,0,false,"","",0⟩,⟨ "At",44,1,false,"","",8⟩,⟨ "To",44,2,false,"","",32⟩,⟨ "Where",3,3,false,"","",56⟩,⟨ "Nth",3,4,false,"","",64⟩,⟨ "Unit",27,5,false,"","",72⟩,⟨ "Old",45,13,false,"","",192⟩,⟨ "New",45,14,false,"","",216⟩,⟨ "Label",9,15,false,"","",240⟩,⟨ "For",9,16,false,"","",256⟩,⟨ "Start",47,17,false,"","",272⟩,⟨ "Act",3,20,false,"","",304⟩,⟨ "Item",3,21,false,"","",312⟩,⟨ "Day",3,22,false,"","",320⟩,⟨ "Event",9,23,false,"","",328⟩,⟨ "By",48,24,false,"","",344⟩]):=Tryz.underlying50
theorem U52:Tryz.prog.underlying 52=some (.struct #[⟨ "Act",3,0,false,"","",0⟩,⟨ "Item",3,1,false,"","",8⟩,⟨ "Day",3,2,false,"","",16⟩,⟨ "It",50,3,false,"","",24⟩]):=Tryz.underlying52
theorem U131:Tryz.prog.underlying 131=some (.slice 3):=Tryz.underlying131
theorem U210:Tryz.prog.underlying 210=some (.array 256 4):=Tryz.underlying210
theorem U224:Tryz.prog.underlying 224=some (.array 4 223):=Tryz.underlying224
theorem U246:Tryz.prog.underlying 246=some (.slice 5):=Tryz.underlying246
theorem U267:Tryz.prog.underlying 267=some (.pointer 5):=Tryz.underlying267
theorem Y25(w:World):(isAgg 25).run Tryz.prog w= .ok false w:=Tryz.isAgg25 w
theorem Y27(w:World):(isAgg 27).run Tryz.prog w= .ok true w:=Tryz.isAgg27 w
theorem Y31(w:World):(isAgg 31).run Tryz.prog w= .ok false w:=Tryz.isAgg31 w
theorem Y38(w:World):(isAgg 38).run Tryz.prog w= .ok false w:=Tryz.isAgg38 w
theorem Y45(w:World):(isAgg 45).run Tryz.prog w= .ok false w:=Tryz.isAgg45 w
theorem Y56(w:World):(isAgg 56).run Tryz.prog w= .ok true w:=Tryz.isAgg56 w
theorem Y210(w:World):(isAgg 210).run Tryz.prog w= .ok true w:=Tryz.isAgg210 w
theorem Y224(w:World):(isAgg 224).run Tryz.prog w= .ok true w:=Tryz.isAgg224 w
theorem Y244(w:World):(isAgg 244).run Tryz.prog w= .ok false w:=Tryz.isAgg244 w
theorem Y246(w:World):(isAgg 246).run Tryz.prog w= .ok false w:=Tryz.isAgg246 w
theorem Z3(w:World):(sizeOf 3).run Tryz.prog w= .ok 1 w:=Tryz.sizeOf3 w
theorem Z4(w:World):(sizeOf 4).run Tryz.prog w= .ok 1 w:=Tryz.sizeOf4 w
theorem Z9(w:World):(sizeOf 9).run Tryz.prog w= .ok 1 w:=Tryz.sizeOf9 w
theorem Z24(w:World):(sizeOf 24).run Tryz.prog w= .ok 1 w:=Tryz.sizeOf24 w
theorem Z25(w:World):(sizeOf 25).run Tryz.prog w= .ok 1 w:=Tryz.sizeOf25 w
theorem Z27(w:World):(sizeOf 27).run Tryz.prog w= .ok 8 w:=Tryz.sizeOf27 w
theorem Z31(w:World):(sizeOf 31).run Tryz.prog w= .ok 1 w:=Tryz.sizeOf31 w
theorem Z38(w:World):(sizeOf 38).run Tryz.prog w= .ok 1 w:=Tryz.sizeOf38 w
theorem Z45(w:World):(sizeOf 45).run Tryz.prog w= .ok 1 w:=Tryz.sizeOf45 w
theorem Z56(w:World):(sizeOf 56).run Tryz.prog w= .ok 18 w:=Tryz.sizeOf56 w
theorem Z70(w:World):(sizeOf 70).run Tryz.prog w= .ok 2 w:=Tryz.sizeOf70 w
theorem Z98(w:World):(sizeOf 98).run Tryz.prog w= .ok 4 w:=Tryz.sizeOf98 w
theorem Z210(w:World):(sizeOf 210).run Tryz.prog w= .ok 256 w:=Tryz.sizeOf210 w
theorem Z223(w:World):(sizeOf 223).run Tryz.prog w= .ok 1 w:=Tryz.sizeOf223 w
theorem Z224(w:World):(sizeOf 224).run Tryz.prog w= .ok 4 w:=Tryz.sizeOf224 w
theorem Z244(w:World):(sizeOf 244).run Tryz.prog w= .ok 1 w:=Tryz.sizeOf244 w
theorem Z246(w:World):(sizeOf 246).run Tryz.prog w= .ok 1 w:=Tryz.sizeOf246 w
abbrev iU3:=UC.mk Tryz.underlying3
abbrev iU4:=UC.mk Tryz.underlying4
abbrev iU5:=UC.mk Tryz.underlying5
abbrev iU9:=UC.mk Tryz.underlying9
abbrev iU24:=UC.mk Tryz.underlying24
abbrev iU25:=UC.mk Tryz.underlying25
abbrev iU27:=UC.mk Tryz.underlying27
abbrev iU28:=UC.mk Tryz.underlying28
abbrev iU31:=UC.mk Tryz.underlying31
abbrev iU34:=UC.mk Tryz.underlying34
abbrev iU44:=UC.mk Tryz.underlying44
abbrev iU45:=UC.mk Tryz.underlying45
abbrev iU47:=UC.mk Tryz.underlying47
abbrev iU48:=UC.mk Tryz.underlying48
abbrev iU50:=UC.mk Tryz.underlying50
abbrev iU52:=UC.mk Tryz.underlying52
abbrev iU56:=UC.mk Tryz.underlying56
abbrev iU66:=UC.mk Tryz.underlying66
abbrev iU70:=UC.mk Tryz.underlying70
abbrev iU76:=UC.mk Tryz.underlying76
abbrev iU81:=UC.mk Tryz.underlying81
abbrev iU98:=UC.mk Tryz.underlying98
abbrev iU100:=UC.mk Tryz.underlying100
abbrev iU104:=UC.mk Tryz.underlying104
abbrev iU121:=UC.mk Tryz.underlying121
abbrev iU123:=UC.mk Tryz.underlying123
abbrev iU131:=UC.mk Tryz.underlying131
abbrev iU169:=UC.mk Tryz.underlying169
abbrev iU184:=UC.mk Tryz.underlying184
abbrev iU188:=UC.mk Tryz.underlying188
abbrev iU216:=UC.mk Tryz.underlying216
abbrev iU219:=UC.mk Tryz.underlying219
abbrev iU224:=UC.mk Tryz.underlying224
abbrev iU246:=UC.mk Tryz.underlying246
abbrev iU260:=UC.mk Tryz.underlying260
abbrev iU263:=UC.mk Tryz.underlying263
abbrev iU276:=UC.mk Tryz.underlying276
abbrev iZ3:=ZC.mk Tryz.sizeOf3
abbrev iZ4:=ZC.mk Tryz.sizeOf4
abbrev iZ9:=ZC.mk Tryz.sizeOf9
abbrev iZ23:=ZC.mk Tryz.sizeOf23
abbrev iZ24:=ZC.mk Tryz.sizeOf24
abbrev iZ25:=ZC.mk Tryz.sizeOf25
abbrev iZ27:=ZC.mk Tryz.sizeOf27
abbrev iZ38:=ZC.mk Tryz.sizeOf38
abbrev iZ43:=ZC.mk Tryz.sizeOf43
abbrev iZ44:=ZC.mk Tryz.sizeOf44
abbrev iZ45:=ZC.mk Tryz.sizeOf45
abbrev iZ47:=ZC.mk Tryz.sizeOf47
abbrev iZ48:=ZC.mk Tryz.sizeOf48
abbrev iZ50:=ZC.mk Tryz.sizeOf50
abbrev iZ52:=ZC.mk Tryz.sizeOf52
abbrev iZ56:=ZC.mk Tryz.sizeOf56
abbrev iZ70:=ZC.mk Tryz.sizeOf70
abbrev iZ96:=ZC.mk Tryz.sizeOf96
abbrev iZ98:=ZC.mk Tryz.sizeOf98
abbrev iZ104:=ZC.mk Tryz.sizeOf104
abbrev iZ108:=ZC.mk Tryz.sizeOf108
abbrev iZ121:=ZC.mk Tryz.sizeOf121
abbrev iZ167:=ZC.mk Tryz.sizeOf167
abbrev iZ169:=ZC.mk Tryz.sizeOf169
abbrev iZ184:=ZC.mk Tryz.sizeOf184
abbrev iZ188:=ZC.mk Tryz.sizeOf188
abbrev iZ210:=ZC.mk Tryz.sizeOf210
abbrev iZ220:=ZC.mk Tryz.sizeOf220
abbrev iZ262:=ZC.mk Tryz.sizeOf262
abbrev ieq23:=EqC.mk rfl eg23 ⟨_,by decide,eq23⟩
abbrev ieq47:=EqC.mk rfl eg47 ⟨_,by decide,eq47⟩
abbrev ieq70:=EqC.mk rfl eg70 ⟨_,by decide,eq70⟩
abbrev ieq96:=EqC.mk rfl eg96 ⟨_,by decide,eq96⟩
abbrev ieq98:=EqC.mk rfl eg98 ⟨_,by decide,eq98⟩
abbrev ieq262:=EqC.mk rfl eg262 ⟨_,by decide,eq262⟩
attribute [instance] Ey M6 Ez M7 EA M8 G6 Um G7 Uo G8 Uq G9 Ur Ha BH vL Hd He Hf Us xL BI xM BJ ib xN Hg Ut Hl Uu FK FL FM Uv Uw Ux Uy Uz UA UB UD UE UF UG UH UI UJ Hm UK Ho UL UM UN RO RP RQ RS RV RX RY RZ R3 R4 R5 R6 zx zy uX R7 R8 R9 Sa Sb Sc Sd Sg Sj Sl Sn Sq Su Sv O5 O6 O7 O8 O9 Pb Pd Pe zA JS zB JU uY zC JV JW xR Pf xS Pg Ph Pj Pk LH LJ LM LP ty3 el3 ze3 ty4 ze4 ty5 el5 ty9 el9 ze9 ty23 el23 ze23 ty24 el24 ze24 ty25 ty27 el27 ze27 ty38 ze38 ty43 ty44 ty45 ty47 ty48 ty50 ze50 ty52 ze52 ty56 el56 ze56 ty61 el61 ze61 ty66 ze66 ty70 ze70 ty75 ze75 ty79 ze79 ty96 ze96 ty98 el98 ze98 ty104 ze104 ty108 ty121 ze121 ty131 ty167 ty169 el169 ze169 ty184 ze184 ze188 ty220 ty223 ze223 ty262 ze262 ze210 ze224 iU3 iU4 iU5 iU9 iU24 iU25 iU27 iU28 iU31 iU34 iU44 iU45 iU47 iU48 iU50 iU52 iU56 iU66 iU70 iU76 iU81 iU98 iU100 iU104 iU121 iU123 iU131 iU169 iU184 iU188 iU216 iU219 iU224 iU246 iU260 iU263 iU276 iZ3 iZ4 iZ9 iZ23 iZ24 iZ25 iZ27 iZ38 iZ43 iZ44 iZ45 iZ47 iZ48 iZ50 iZ52 iZ56 iZ70 iZ96 iZ98 iZ104 iZ108 iZ121 iZ167 iZ169 iZ184 iZ188 iZ210 iZ220 iZ262 ieq23 ieq47 ieq70 ieq96 ieq98 ieq262
abbrev iB23:=bM (t:=aB) (z:=aF) Tryz.underlying23
abbrev iB96:=bM (t:=jJ) (z:=mR) Tryz.underlying96
abbrev iB98:=bM (t:=aj) (z:=uJ) Tryz.underlying98
abbrev iB27:=bM (t:=ae) (z:=au) Tryz.underlying27
abbrev iB50:=bM (t:=aD) (z:=yA) Tryz.underlying50
abbrev iB56:=bM (t:=aL) (z:=zu) Tryz.underlying56
noncomputable abbrev iB121:=bM (t:=eO) (z:=nQ) Tryz.underlying121
abbrev iB184:=bM (t:=dx) (z:=Ad) Tryz.underlying184
abbrev iB188:=bM (t:=aP) (z:=wm) Tryz.underlying188
abbrev iB262:=bM (t:=j5) (z:=Ae) Tryz.underlying262
abbrev iB61:=bM (t:=j6) (z:=Af) Tryz.underlying61
noncomputable abbrev iB169:=bM (t:=jb) (z:=xq) Tryz.underlying169
abbrev Wo:Inhabited ai:=⟨aF⟩
abbrev VA:Inhabited af:=⟨uJ⟩
abbrev VB:Inhabited aa:=⟨au⟩
abbrev VC:Inhabited ah:=⟨yA⟩
abbrev LQ:Inhabited ak:=⟨wh⟩
abbrev UO:Inhabited az:=⟨zu⟩
abbrev ikt3:=KC.mk kt3
abbrev ikt23:=KC.mk kt23
abbrev ikt262:=KC.mk kt262
abbrev iV104:=ZvC.mk Tryz.zeroValue104
abbrev iV220:=ZvC.mk Tryz.zeroValue220
abbrev iMx:=MxC.mk Tryz.mixed
attribute [instance] iB23 iB96 iB98 iB27 iB50 iB56 iB121 iB184 iB188 iB262 iB61 iB169 Wo VA VB VC LQ UO ikt3 ikt23 ikt262 iV104 iV220 iMx
end Go.Proofs.YtapobcikfdbjiaaGreatDoor
