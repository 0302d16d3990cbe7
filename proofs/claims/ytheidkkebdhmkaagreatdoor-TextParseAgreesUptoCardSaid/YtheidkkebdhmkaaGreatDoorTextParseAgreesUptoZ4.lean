/-
  Part 4 of what TextParseAgreesUpto rests on.
-/
import Derived.Test.YtheidkkebdhmkaaGreatDoorTextParseAgreesUptoZ2
import Derived.Test.YtheidkkebdhmkaaGreatDoorTextParseAgreesUptoZ3
import Derived.Tactics
import Derived.Tactics2
import Derived.Defers
import Derived.Recover
import Derived.WalkSmall
import Derived.Laws.Pointers
import Derived.Shelf.Strings.Builder1
import Derived.Shelf.Strconv.Atoi
import Derived.Shelf.Strconv.Itoa0
import Derived.Shelf.Strconv.Itoa1
import Derived.Shelf.LaysM
import Derived.Shelf.Strconv.Itoa2
import Derived.Shelf.Strconv.Itoa3
import Derived.Shelf.Strconv.AtoiErrFast
import Derived.Shelf.Strconv.ParseIntEmpty
import Derived.Shelf.Strconv.AtoiFail
import Derived.Shelf.Strconv.Clone
import Derived.Shelf.Strconv.SyntaxError
import Derived.Shelf.LaysC
import Derived.Shelf.Strconv.ToError
import Derived.Shelf.Strconv.Lower
import Derived.Shelf.Strconv.ParseUint10
import Derived.Shelf.Strconv.ParseUint10Empty
import Derived.Shelf.Strconv.ParseUint10Any
import Derived.Shelf.Strconv.ParseInt10
import Derived.Shelf.Strconv.AtoiLong
import Derived.Shelf.Strconv.AtoiInnerAll
import Derived.Shelf.Strconv.RangeError
import Derived.Shelf.Strconv.ToErrorRange
import Derived.Shelf.Strconv.AtoiAll
import Derived.Shelf.Strconv.ErrVarAll
import Derived.Shelf.Strings.Search1
import Derived.Shelf.Strings.Search2
import Derived.Shelf.Strings.Search3
import Derived.Shelf.Strings.Cut
import Derived.Shelf.Strings.Count
import Derived.Shelf.Strings.Shaped
import Derived.Shelf.Strings.Prefix
import Derived.Shelf.Strings.Split
import Derived.Shelf.Strings.SplitShaped
import Derived.Shelf.Unicode.DecodeSlow
import Derived.Test.YtheidkkebdhmkaaGreatDoorProg
import Derived.Lib.ItoaMem
import Derived.Lib.Walk
import Derived.BigCall
import Derived.BigGuard
namespace Go.Proofs.YtheidkkebdhmkaaGreatDoor
open Go.RowKit
set_option linter.unusedVariables false
set_option linter.unusedSimpArgs false
set_option maxRecDepth 20000
set_option maxHeartbeats 4000000
open Go.Proofs.Tryz (prog)
section
attribute [local irreducible] Ans AnsO AnsG AnsN AnsI
open Go.Lib
structure RP where
  s:Scr
  hd:Int
  part:Int
  left:Int
  w:Int
  h:Int
  px:List Px
def iAt (l:List Int) (k:Nat):Int:=(l[k]?).getD 0
def s32 (ws:List Lb):List Int × Bool:=zZr ws (-2147483648) 2147483647
def u32 (ws:List Lb):List Int × Bool:=zZr ws 0 4294967295
def nz (ws:List Lb):List Int × Bool:=zZr ((ws.drop 1).take 2) 1 16777216
def zYf:Lb:=[98,105,116,115]
def zZH:Lb:=[99,97,110,118,97,115]
def zXa:Lb:=[116,105,108,101,115]
def zZt:Lb:=[111,114,100,101,114]
def zQ2:Lb:=[115,111,108,105,100]
def zQ3:Lb:=[105,109,97,103,101]
def zQD (p:RP) (ws:List Lb):RP × Bool:=
 if p.hd=1 then (if ws.length=2∧wAt ws 0=zYf then ({ p with s:={ p.s with bits:=(numR (wAt ws 1) 0 255).1 } },(numR (wAt ws 1) 0 255).2) else (p,false))
 else if p.hd=2 then (if (s32 (ws.drop 1)).2=true∧(s32 (ws.drop 1)).1.length=4∧wAt ws 0=zZH then ({ p with s:={ p.s with c:=⟨iAt (s32 (ws.drop 1)).1 0,iAt (s32 (ws.drop 1)).1 1,iAt (s32 (ws.drop 1)).1 2,iAt (s32 (ws.drop 1)).1 3⟩ } },true) else (p,false))
 else (if (u32 (ws.drop 1)).2=true∧(u32 (ws.drop 1)).1.length=2∧wAt ws 0=zXa then ({ p with s:={ p.s with tw:=iAt (u32 (ws.drop 1)).1 0,th:=iAt (u32 (ws.drop 1)).1 1 } },true) else (p,false))
def zQI (p:RP) (ws:List Lb):RP × Bool:=
 if 1 < p.part∨64≤p.s.ims.length∨ws.length < 3 then ({ p with part:=1 },false)
 else if (nz ws).2=false∨16777216 / iAt (nz ws).1 0 < iAt (nz ws).1 1 then ({ p with part:=1 },false)
 else if wAt ws 0=zQ2 then ({ p with part:=1,s:={ p.s with ims:=p.s.ims++[zQf (iAt (nz ws).1 0) (iAt (nz ws).1 1) (pixW (ws.drop 3)).1] } },(pixW (ws.drop 3)).2)
 else ({ p with part:=1,w:=iAt (nz ws).1 0,h:=iAt (nz ws).1 1,left:=iAt (nz ws).1 0*iAt (nz ws).1 1 },decide (ws.length=3))
def zQS (p:RP) (t:Lb):RP × Bool:=
 if 0 < p.left then
  (if p.left=1 then ({ p with left:=0,s:={ p.s with ims:=p.s.ims++[imOf p.w p.h (p.px++[(pixW (zQn t)).1])] },px:=[] },(pixW (zQn t)).2)
   else ({ p with left:=p.left - 1,px:=p.px++[(pixW (zQn t)).1] },(pixW (zQn t)).2))
 else if p.hd < 3 then zQD { p with hd:=p.hd+1 } (zQn t)
 else if wAt (zQn t) 0=zZt then ({ p with part:=1,s:={ p.s with ord:=(u32 ((zQn t).drop 1)).1 } },(u32 ((zQn t).drop 1)).2 && decide (0 < (u32 ((zQn t).drop 1)).1.length) && decide (p.part=0))
 else if wAt (zQn t) 0=zQ2∨wAt (zQn t) 0=zQ3 then zQI p (zQn t)
 else ({ p with part:=2,s:={ p.s with ops:=p.s.ops++[(opR (zQn t)).1] } },(opR (zQn t)).2 && decide (p.s.ops.length < 4096))
theorem R13_ImageOf_dat' (w h:Int) (l:List Px):Ans prog 48 [RV.d (DV.int .i64 w),RV.d (DV.int .i64 h),RV.d (DV.sl l.length (pxs l))] (RV.tup [imR (imOf w h l),RV.d (DV.bool (ofOk w h l.length))]):=by
 have:=zUl w h l.length (pxs l) (zKW l)
 rw [zQR] at this
 exact this.ans rfl rfl
theorem R18_Number_ans' (w:Lb) (lo hi:Int):Ans prog 118 [RV.d (DV.str (toS w)),RV.d (DV.int .i64 lo),RV.d (DV.int .i64 hi)] (RV.tup [RV.d (DV.int .i64 (numR w lo hi).1),RV.d (DV.bool (numR w lo hi).2)]):=by
 have h:=zXT w lo hi
 simpa only [zQL] using h
theorem zU2 {ws r:List Lb} (i n:Nat) (h:r=ws.drop i) (hn:n=r.length):List.take (n*1) (List.drop (i*1) (strs ws))=strs r:=by
 subst h hn
 unfold strs
 rw [Nat.mul_one,Nat.mul_one,← List.map_drop,List.take_of_length_le (by simp)]
def jKN:Gam where
 pure:=fun f xs=>
  if f=118 then gZ3 xs else
  if f=117 then gZ4 xs else
  if f=119 then gZ5 xs else
  if f=84 then (match xs with | [.d (.sl wn wxs)]=>let a:=(zZr (zQb wxs) 0 4294967295); some (RV.tup [RV.d (dS a.1.length (is a.1)),RV.d (dQ a.2)]) | _=>none) else
  if f=82 then (match xs with | [.d (.sl wn wxs)]=>let a:=(pixW (zQb wxs)); some (RV.tup [RV.agg [dK a.1.a,dK a.1.b,dK a.1.c,dK a.1.al,dK a.1.f],RV.d (dQ a.2)]) | _=>none) else
  if f=86 then (match xs with | [.d (.sl wn wxs)]=>let a:=(opR (zQb wxs)); some (RV.tup [RV.agg [dJ a.1.kind,dJ a.1.image,dJ a.1.x,dJ a.1.y,dJ a.1.mask,dJ a.1.mx,dJ a.1.my,dK a.1.opac,dJ a.1.oper,dJ a.1.mode,dQ a.1.iso,dQ a.1.kno],RV.d (dQ a.2)]) | _=>none) else
  if f=81 then (match xs with | [.d (.str s)]=>some (RV.d (dS (zQn (ofS s)).length (strs (zQn (ofS s))))) | _=>none) else
  if f=22 then (match xs with | [.d (.int _ w),.d (.int _ h),.agg [.int _ c0,.int _ c1,.int _ c2,.int _ ca,.int _ cf]]=>some (RV.agg [dJ (zQf w h ⟨c0,c1,c2,ca,cf⟩).w,dJ (zQf w h ⟨c0,c1,c2,ca,cf⟩).h,dQ (zQf w h ⟨c0,c1,c2,ca,cf⟩).so,dK (zQf w h ⟨c0,c1,c2,ca,cf⟩).c.a,dK (zQf w h ⟨c0,c1,c2,ca,cf⟩).c.b,dK (zQf w h ⟨c0,c1,c2,ca,cf⟩).c.c,dK (zQf w h ⟨c0,c1,c2,ca,cf⟩).c.al,dK (zQf w h ⟨c0,c1,c2,ca,cf⟩).c.f,dJ (zQf w h ⟨c0,c1,c2,ca,cf⟩).p0.w,dJ (zQf w h ⟨c0,c1,c2,ca,cf⟩).p0.h,dJ (zQf w h ⟨c0,c1,c2,ca,cf⟩).p0.s,dS (zQf w h ⟨c0,c1,c2,ca,cf⟩).p0.n (zQf w h ⟨c0,c1,c2,ca,cf⟩).p0.xs,dJ (zQf w h ⟨c0,c1,c2,ca,cf⟩).p1.w,dJ (zQf w h ⟨c0,c1,c2,ca,cf⟩).p1.h,dJ (zQf w h ⟨c0,c1,c2,ca,cf⟩).p1.s,dS (zQf w h ⟨c0,c1,c2,ca,cf⟩).p1.n (zQf w h ⟨c0,c1,c2,ca,cf⟩).p1.xs,dJ (zQf w h ⟨c0,c1,c2,ca,cf⟩).p2.w,dJ (zQf w h ⟨c0,c1,c2,ca,cf⟩).p2.h,dJ (zQf w h ⟨c0,c1,c2,ca,cf⟩).p2.s,dS (zQf w h ⟨c0,c1,c2,ca,cf⟩).p2.n (zQf w h ⟨c0,c1,c2,ca,cf⟩).p2.xs,dJ (zQf w h ⟨c0,c1,c2,ca,cf⟩).p3.w,dJ (zQf w h ⟨c0,c1,c2,ca,cf⟩).p3.h,dJ (zQf w h ⟨c0,c1,c2,ca,cf⟩).p3.s,dS (zQf w h ⟨c0,c1,c2,ca,cf⟩).p3.n (zQf w h ⟨c0,c1,c2,ca,cf⟩).p3.xs,dJ (zQf w h ⟨c0,c1,c2,ca,cf⟩).p4.w,dJ (zQf w h ⟨c0,c1,c2,ca,cf⟩).p4.h,dJ (zQf w h ⟨c0,c1,c2,ca,cf⟩).p4.s,dS (zQf w h ⟨c0,c1,c2,ca,cf⟩).p4.n (zQf w h ⟨c0,c1,c2,ca,cf⟩).p4.xs]) | _=>none) else
  if f=48 then (match xs with | [.d (.int _ w),.d (.int _ h),.d (.sl n xs)]=>let a:=(imOf w h (zQc xs)); some (RV.tup [RV.agg [dJ a.w,dJ a.h,dQ a.so,dK a.c.a,dK a.c.b,dK a.c.c,dK a.c.al,dK a.c.f,dJ a.p0.w,dJ a.p0.h,dJ a.p0.s,dS a.p0.n a.p0.xs,dJ a.p1.w,dJ a.p1.h,dJ a.p1.s,dS a.p1.n a.p1.xs,dJ a.p2.w,dJ a.p2.h,dJ a.p2.s,dS a.p2.n a.p2.xs,dJ a.p3.w,dJ a.p3.h,dJ a.p3.s,dS a.p3.n a.p3.xs,dJ a.p4.w,dJ a.p4.h,dJ a.p4.s,dS a.p4.n a.p4.xs],RV.d (dQ (ofOk w h n))]) | _=>none) else
  none
 modes:=fun f=>
  if f=83 then some ([false,true],1,3) else
  if f=85 then some ([false,true],1,3) else
  none
 proc:=fun f xs bs=>
  if f=83 then (match xs,bs with | [AV.one (Cl.ptr 0 0),AV.one (Cl.d (DV.sl wn wxs))],[Bx.cells [Cl.d (DV.int _ bits),Cl.d (DV.int _ cx0),Cl.d (DV.int _ cy0),Cl.d (DV.int _ cx1),Cl.d (DV.int _ cy1),Cl.d (DV.int _ tw),Cl.d (DV.int _ th),Cl.d (DV.sl on axs),Cl.ref 1 mn,Cl.ref 2 qn,Cl.d (DV.int _ hd),Cl.d (DV.int _ part),Cl.d (DV.int _ left),Cl.d (DV.int _ w),Cl.d (DV.int _ h),Cl.ref 3 ln],Bx.row _ _ mxs,Bx.row _ _ qxs,Bx.row _ _ lxs]=>some ⟨AV.one (Cl.d (dQ (zQD (⟨⟨bits,⟨cx0,cy0,cx1,cy1⟩,tw,th,ints axs,zQN mxs,zQG qxs⟩,hd,part,left,w,h,zQc lxs⟩:RP) (zQb wxs)).2)),[bC [cJ (zQD (⟨⟨bits,⟨cx0,cy0,cx1,cy1⟩,tw,th,ints axs,zQN mxs,zQG qxs⟩,hd,part,left,w,h,zQc lxs⟩:RP) (zQb wxs)).1.s.bits,cJ (zQD (⟨⟨bits,⟨cx0,cy0,cx1,cy1⟩,tw,th,ints axs,zQN mxs,zQG qxs⟩,hd,part,left,w,h,zQc lxs⟩:RP) (zQb wxs)).1.s.c.a,cJ (zQD (⟨⟨bits,⟨cx0,cy0,cx1,cy1⟩,tw,th,ints axs,zQN mxs,zQG qxs⟩,hd,part,left,w,h,zQc lxs⟩:RP) (zQb wxs)).1.s.c.b,cJ (zQD (⟨⟨bits,⟨cx0,cy0,cx1,cy1⟩,tw,th,ints axs,zQN mxs,zQG qxs⟩,hd,part,left,w,h,zQc lxs⟩:RP) (zQb wxs)).1.s.c.c,cJ (zQD (⟨⟨bits,⟨cx0,cy0,cx1,cy1⟩,tw,th,ints axs,zQN mxs,zQG qxs⟩,hd,part,left,w,h,zQc lxs⟩:RP) (zQb wxs)).1.s.c.d,cJ (zQD (⟨⟨bits,⟨cx0,cy0,cx1,cy1⟩,tw,th,ints axs,zQN mxs,zQG qxs⟩,hd,part,left,w,h,zQc lxs⟩:RP) (zQb wxs)).1.s.tw,cJ (zQD (⟨⟨bits,⟨cx0,cy0,cx1,cy1⟩,tw,th,ints axs,zQN mxs,zQG qxs⟩,hd,part,left,w,h,zQc lxs⟩:RP) (zQb wxs)).1.s.th,Cl.d (dS (zQD (⟨⟨bits,⟨cx0,cy0,cx1,cy1⟩,tw,th,ints axs,zQN mxs,zQG qxs⟩,hd,part,left,w,h,zQc lxs⟩:RP) (zQb wxs)).1.s.ord.length (is (zQD (⟨⟨bits,⟨cx0,cy0,cx1,cy1⟩,tw,th,ints axs,zQN mxs,zQG qxs⟩,hd,part,left,w,h,zQc lxs⟩:RP) (zQb wxs)).1.s.ord)),Cl.ref 1 (zQD (⟨⟨bits,⟨cx0,cy0,cx1,cy1⟩,tw,th,ints axs,zQN mxs,zQG qxs⟩,hd,part,left,w,h,zQc lxs⟩:RP) (zQb wxs)).1.s.ims.length,Cl.ref 2 (zQD (⟨⟨bits,⟨cx0,cy0,cx1,cy1⟩,tw,th,ints axs,zQN mxs,zQG qxs⟩,hd,part,left,w,h,zQc lxs⟩:RP) (zQb wxs)).1.s.ops.length,cJ (zQD (⟨⟨bits,⟨cx0,cy0,cx1,cy1⟩,tw,th,ints axs,zQN mxs,zQG qxs⟩,hd,part,left,w,h,zQc lxs⟩:RP) (zQb wxs)).1.hd,cJ (zQD (⟨⟨bits,⟨cx0,cy0,cx1,cy1⟩,tw,th,ints axs,zQN mxs,zQG qxs⟩,hd,part,left,w,h,zQc lxs⟩:RP) (zQb wxs)).1.part,cJ (zQD (⟨⟨bits,⟨cx0,cy0,cx1,cy1⟩,tw,th,ints axs,zQN mxs,zQG qxs⟩,hd,part,left,w,h,zQc lxs⟩:RP) (zQb wxs)).1.left,cJ (zQD (⟨⟨bits,⟨cx0,cy0,cx1,cy1⟩,tw,th,ints axs,zQN mxs,zQG qxs⟩,hd,part,left,w,h,zQc lxs⟩:RP) (zQb wxs)).1.w,cJ (zQD (⟨⟨bits,⟨cx0,cy0,cx1,cy1⟩,tw,th,ints axs,zQN mxs,zQG qxs⟩,hd,part,left,w,h,zQc lxs⟩:RP) (zQb wxs)).1.h,Cl.ref 3 (zQD (⟨⟨bits,⟨cx0,cy0,cx1,cy1⟩,tw,th,ints axs,zQN mxs,zQG qxs⟩,hd,part,left,w,h,zQc lxs⟩:RP) (zQb wxs)).1.px.length],Bx.row 43 28 (ims (zQD (⟨⟨bits,⟨cx0,cy0,cx1,cy1⟩,tw,th,ints axs,zQN mxs,zQG qxs⟩,hd,part,left,w,h,zQc lxs⟩:RP) (zQb wxs)).1.s.ims),Bx.row 51 12 (ops (zQD (⟨⟨bits,⟨cx0,cy0,cx1,cy1⟩,tw,th,ints axs,zQN mxs,zQG qxs⟩,hd,part,left,w,h,zQc lxs⟩:RP) (zQb wxs)).1.s.ops),Bx.row 37 5 (pxs (zQD (⟨⟨bits,⟨cx0,cy0,cx1,cy1⟩,tw,th,ints axs,zQN mxs,zQG qxs⟩,hd,part,left,w,h,zQc lxs⟩:RP) (zQb wxs)).1.px)],false⟩ | _,_=>none) else
  if f=85 then (match xs,bs with | [AV.one (Cl.ptr 0 0),AV.one (Cl.d (DV.sl wn wxs))],[Bx.cells [Cl.d (DV.int _ bits),Cl.d (DV.int _ cx0),Cl.d (DV.int _ cy0),Cl.d (DV.int _ cx1),Cl.d (DV.int _ cy1),Cl.d (DV.int _ tw),Cl.d (DV.int _ th),Cl.d (DV.sl on axs),Cl.ref 1 mn,Cl.ref 2 qn,Cl.d (DV.int _ hd),Cl.d (DV.int _ part),Cl.d (DV.int _ left),Cl.d (DV.int _ w),Cl.d (DV.int _ h),Cl.ref 3 ln],Bx.row _ _ mxs,Bx.row _ _ qxs,Bx.row _ _ lxs]=>some ⟨AV.one (Cl.d (dQ (zQI (⟨⟨bits,⟨cx0,cy0,cx1,cy1⟩,tw,th,ints axs,zQN mxs,zQG qxs⟩,hd,part,left,w,h,zQc lxs⟩:RP) (zQb wxs)).2)),[bC [cJ (zQI (⟨⟨bits,⟨cx0,cy0,cx1,cy1⟩,tw,th,ints axs,zQN mxs,zQG qxs⟩,hd,part,left,w,h,zQc lxs⟩:RP) (zQb wxs)).1.s.bits,cJ (zQI (⟨⟨bits,⟨cx0,cy0,cx1,cy1⟩,tw,th,ints axs,zQN mxs,zQG qxs⟩,hd,part,left,w,h,zQc lxs⟩:RP) (zQb wxs)).1.s.c.a,cJ (zQI (⟨⟨bits,⟨cx0,cy0,cx1,cy1⟩,tw,th,ints axs,zQN mxs,zQG qxs⟩,hd,part,left,w,h,zQc lxs⟩:RP) (zQb wxs)).1.s.c.b,cJ (zQI (⟨⟨bits,⟨cx0,cy0,cx1,cy1⟩,tw,th,ints axs,zQN mxs,zQG qxs⟩,hd,part,left,w,h,zQc lxs⟩:RP) (zQb wxs)).1.s.c.c,cJ (zQI (⟨⟨bits,⟨cx0,cy0,cx1,cy1⟩,tw,th,ints axs,zQN mxs,zQG qxs⟩,hd,part,left,w,h,zQc lxs⟩:RP) (zQb wxs)).1.s.c.d,cJ (zQI (⟨⟨bits,⟨cx0,cy0,cx1,cy1⟩,tw,th,ints axs,zQN mxs,zQG qxs⟩,hd,part,left,w,h,zQc lxs⟩:RP) (zQb wxs)).1.s.tw,cJ (zQI (⟨⟨bits,⟨cx0,cy0,cx1,cy1⟩,tw,th,ints axs,zQN mxs,zQG qxs⟩,hd,part,left,w,h,zQc lxs⟩:RP) (zQb wxs)).1.s.th,Cl.d (dS (zQI (⟨⟨bits,⟨cx0,cy0,cx1,cy1⟩,tw,th,ints axs,zQN mxs,zQG qxs⟩,hd,part,left,w,h,zQc lxs⟩:RP) (zQb wxs)).1.s.ord.length (is (zQI (⟨⟨bits,⟨cx0,cy0,cx1,cy1⟩,tw,th,ints axs,zQN mxs,zQG qxs⟩,hd,part,left,w,h,zQc lxs⟩:RP) (zQb wxs)).1.s.ord)),Cl.ref 1 (zQI (⟨⟨bits,⟨cx0,cy0,cx1,cy1⟩,tw,th,ints axs,zQN mxs,zQG qxs⟩,hd,part,left,w,h,zQc lxs⟩:RP) (zQb wxs)).1.s.ims.length,Cl.ref 2 (zQI (⟨⟨bits,⟨cx0,cy0,cx1,cy1⟩,tw,th,ints axs,zQN mxs,zQG qxs⟩,hd,part,left,w,h,zQc lxs⟩:RP) (zQb wxs)).1.s.ops.length,cJ (zQI (⟨⟨bits,⟨cx0,cy0,cx1,cy1⟩,tw,th,ints axs,zQN mxs,zQG qxs⟩,hd,part,left,w,h,zQc lxs⟩:RP) (zQb wxs)).1.hd,cJ (zQI (⟨⟨bits,⟨cx0,cy0,cx1,cy1⟩,tw,th,ints axs,zQN mxs,zQG qxs⟩,hd,part,left,w,h,zQc lxs⟩:RP) (zQb wxs)).1.part,cJ (zQI (⟨⟨bits,⟨cx0,cy0,cx1,cy1⟩,tw,th,ints axs,zQN mxs,zQG qxs⟩,hd,part,left,w,h,zQc lxs⟩:RP) (zQb wxs)).1.left,cJ (zQI (⟨⟨bits,⟨cx0,cy0,cx1,cy1⟩,tw,th,ints axs,zQN mxs,zQG qxs⟩,hd,part,left,w,h,zQc lxs⟩:RP) (zQb wxs)).1.w,cJ (zQI (⟨⟨bits,⟨cx0,cy0,cx1,cy1⟩,tw,th,ints axs,zQN mxs,zQG qxs⟩,hd,part,left,w,h,zQc lxs⟩:RP) (zQb wxs)).1.h,Cl.ref 3 (zQI (⟨⟨bits,⟨cx0,cy0,cx1,cy1⟩,tw,th,ints axs,zQN mxs,zQG qxs⟩,hd,part,left,w,h,zQc lxs⟩:RP) (zQb wxs)).1.px.length],Bx.row 43 28 (ims (zQI (⟨⟨bits,⟨cx0,cy0,cx1,cy1⟩,tw,th,ints axs,zQN mxs,zQG qxs⟩,hd,part,left,w,h,zQc lxs⟩:RP) (zQb wxs)).1.s.ims),Bx.row 51 12 (ops (zQI (⟨⟨bits,⟨cx0,cy0,cx1,cy1⟩,tw,th,ints axs,zQN mxs,zQG qxs⟩,hd,part,left,w,h,zQc lxs⟩:RP) (zQb wxs)).1.s.ops),Bx.row 37 5 (pxs (zQI (⟨⟨bits,⟨cx0,cy0,cx1,cy1⟩,tw,th,ints axs,zQN mxs,zQG qxs⟩,hd,part,left,w,h,zQc lxs⟩:RP) (zQb wxs)).1.px)],false⟩ | _,_=>none) else
  none
 iter:=fun f cs=>
  none
theorem zKB (p:RP) (ws:List Lb) (hl:ws.length≤68719476736) (h0:ws≠[]):AnsG prog 83 1 [aPz,AV.one (Cl.d (dS ws.length (strs ws)))] [bC [cJ (p.s.bits),cJ (p.s.c.a),cJ (p.s.c.b),cJ (p.s.c.c),cJ (p.s.c.d),cJ (p.s.tw),cJ (p.s.th),Cl.d (dS p.s.ord.length (is p.s.ord)),Cl.ref 1 p.s.ims.length,Cl.ref 2 p.s.ops.length,cJ (p.hd),cJ (p.part),cJ (p.left),cJ (p.w),cJ (p.h),Cl.ref 3 p.px.length],Bx.row 43 28 (ims p.s.ims),Bx.row 51 12 (ops p.s.ops),Bx.row 37 5 (pxs p.px)] ⟨AV.one (Cl.d (dQ ((zQD p (zQb (strs ws))).2))),[bC [cJ ((((zQD p (zQb (strs ws))).1).s.bits)),cJ ((((zQD p (zQb (strs ws))).1).s.c.a)),cJ ((((zQD p (zQb (strs ws))).1).s.c.b)),cJ ((((zQD p (zQb (strs ws))).1).s.c.c)),cJ ((((zQD p (zQb (strs ws))).1).s.c.d)),cJ ((((zQD p (zQb (strs ws))).1).s.tw)),cJ ((((zQD p (zQb (strs ws))).1).s.th)),Cl.d (dS (((zQD p (zQb (strs ws))).1).s.ord.length) (is ((zQD p (zQb (strs ws))).1).s.ord)),Cl.ref 1 (((zQD p (zQb (strs ws))).1).s.ims.length),Cl.ref 2 (((zQD p (zQb (strs ws))).1).s.ops.length),cJ ((((zQD p (zQb (strs ws))).1).hd)),cJ ((((zQD p (zQb (strs ws))).1).part)),cJ ((((zQD p (zQb (strs ws))).1).left)),cJ ((((zQD p (zQb (strs ws))).1).w)),cJ ((((zQD p (zQb (strs ws))).1).h)),Cl.ref 3 (((zQD p (zQb (strs ws))).1).px.length)],Bx.row 43 28 (ims ((zQD p (zQb (strs ws))).1).s.ims),Bx.row 51 12 (ops ((zQD p (zQb (strs ws))).1).s.ops),Bx.row 37 5 (pxs ((zQD p (zQb (strs ws))).1).px)],false⟩:=
 zQx (Γ:=jKN) Ann.leaf zQB Tryz.func83 rfl (Nat.le_of_ble_eq_true rfl) rfl fun hwf hbx=>by
  refine Eq.mpr (by kernel_rfl:_=(let z:=(sAt (strs ws) 1); let h:=(sAt (strs ws) 0); let e:=(ws.length:Int); let J:=(List.take ((e - 1).toNat*1) (List.drop ((1:Int).toNat*1) (strs ws))); let a:=(zQD p (zQb (strs ws))); let K:=(zQb J); let i:=(zZr K 0 4294967295); let f:=(is i.1); let O:=(dS a.1.s.ord.length (is a.1.s.ord)); let b:=(zZr K (-2147483648) 2147483647); let j:=(b.1.length:Int); let P:=(dJ a.1.s.bits); let Q:=(dJ a.1.s.c.a); let R:=(dJ a.1.s.c.b); let S:=(dJ a.1.s.c.c); let T:=(dJ a.1.s.c.d); let U:=(dJ a.1.s.tw); let V:=(dJ a.1.s.th); let W:=(dJ a.1.part); let X:=(dJ a.1.left); let Y:=(dJ a.1.hd); let Z:=(dJ a.1.w); let z0:=(dJ a.1.h); let c:=(Cl.d (dQ a.2)); let z1:=a.1.s.ims.length; let z2:=a.1.s.ops.length; let z3:=a.1.px.length; let z4:=(ims a.1.s.ims); let z5:=(ops a.1.s.ops); let z6:=(pxs a.1.px); let d:=[bC [Cl.d P,Cl.d Q,Cl.d R,Cl.d S,Cl.d T,Cl.d U,Cl.d V,Cl.d O,Cl.ref 1 z1,Cl.ref 2 z2,Cl.d Y,Cl.d W,Cl.d X,Cl.d Z,Cl.d z0,Cl.ref 3 z3],Bx.row 43 28 z4,Bx.row 51 12 z5,Bx.row 37 5 z6]; let k:=(numR (ofS z) (0:Int) (255:Int)); let l:=((i.1.length:Nat):Int); let A:=(0≤(0:Int)∧(0:Int) < e∧0 < (strs ws).length); let B:=(((strs ws)[0]?=some (DV.str h))∧True); let C:=(dJ p.s.bits=dJ a.1.s.bits); let D:=(dJ p.s.c.a=dJ a.1.s.c.a); let E:=(dJ p.s.c.b=dJ a.1.s.c.b); let F:=(dJ p.s.c.c=dJ a.1.s.c.c); let G:=(dJ p.s.c.d=dJ a.1.s.c.d); let H:=(dJ p.s.tw=dJ a.1.s.tw); let I:=(dJ p.s.th=dJ a.1.s.th); let m:=(dS p.s.ord.length (is p.s.ord)=dS a.1.s.ord.length (is a.1.s.ord)); let n:=(p.s.ims.length=a.1.s.ims.length); let o:=(p.s.ops.length=a.1.s.ops.length); let q:=(dJ p.hd=dJ a.1.hd); let r:=(dJ p.part=dJ a.1.part); let s:=(dJ p.left=dJ a.1.left); let t:=(dJ p.w=dJ a.1.w); let u:=(dJ p.h=dJ a.1.h); let v:=(p.px.length=a.1.px.length); let w:=(ims p.s.ims=ims a.1.s.ims); let x:=(ops p.s.ops=ops a.1.s.ops); let y:=(pxs p.px=pxs a.1.px); let g:=(((dQ false=dQ a.2)∧True)∧((C∧D∧E∧F∧G∧H∧I∧m∧n∧o∧q∧r∧s∧t∧u∧v∧True)∧w∧x∧y∧True)); let L:=(0≤(1:Int)∧(1:Int)≤e∧e≤e); let M:=[RV.d (dS (e - 1).toNat J)]; let N:=((dQ true=dQ a.2)∧True); tU7 (((p.hd==1)=true→tU4 (((e != 2)=false→True∧A∧B∧tU2 (((!(h.toList==(⟨#[98,105,116,115]⟩:ByteArray).toList))=true→True∧g∧zQl ⟨AV.one c,d,false⟩)∧((!(h.toList==(⟨#[98,105,116,115]⟩:ByteArray).toList))=false→True∧(0≤(1:Int)∧(1:Int) < e∧1 < (strs ws).length)∧(((strs ws)[1]?=some (DV.str z))∧True)∧(Ans prog 118 [RV.d (DV.str z),rJ 0,rJ 255] (RV.tup [rJ k.1,RV.d (dQ k.2)]))∧tU5 (tU8 ((((dQ k.2=dQ a.2)∧True)∧(((dJ k.1=dJ a.1.s.bits)∧D∧E∧F∧G∧H∧I∧m∧n∧o∧q∧r∧s∧t∧u∧v∧True)∧w∧x∧y∧True))∧zQl ⟨AV.one c,d,false⟩)))))∧((e != 2)=(!false)→tU2 (g∧zQl ⟨AV.one c,d,false⟩))))∧((p.hd==1)=false→tU2 (((p.hd==2)=true→True∧L∧(Ans prog 119 M (RV.tup [RV.d (dS b.1.length (is b.1)),RV.d (dQ b.2)]))∧tU8 (((!b.2)=false→tU5 (((j != 4)=false→True∧A∧B∧tU2 (((!(h.toList==(⟨#[99,97,110,118,97,115]⟩:ByteArray).toList))=true→True∧g∧zQl ⟨AV.one c,d,false⟩)∧((!(h.toList==(⟨#[99,97,110,118,97,115]⟩:ByteArray).toList))=false→tU2 ((0≤(0:Int)∧(0:Int) < j∧0 < (is b.1).length)∧(((is b.1)[0]?=some (dJ (nAt (is b.1) 0)))∧True)∧True∧(0≤(1:Int)∧(1:Int) < j∧1 < (is b.1).length)∧(((is b.1)[1]?=some (dJ (nAt (is b.1) 1)))∧True)∧True∧(0≤(2:Int)∧(2:Int) < j∧2 < (is b.1).length)∧(((is b.1)[2]?=some (dJ (nAt (is b.1) 2)))∧True)∧True∧(0≤(3:Int)∧(3:Int) < j∧3 < (is b.1).length)∧(((is b.1)[3]?=some (dJ (nAt (is b.1) 3)))∧True)∧tU5 ((true=true)∧True∧(N∧((C∧(dJ (nAt (is b.1) 0)=dJ a.1.s.c.a)∧(dJ (nAt (is b.1) 1)=dJ a.1.s.c.b)∧(dJ (nAt (is b.1) 2)=dJ a.1.s.c.c)∧(dJ (nAt (is b.1) 3)=dJ a.1.s.c.d)∧H∧I∧m∧n∧o∧q∧r∧s∧t∧u∧v∧True)∧w∧x∧y∧True))∧zQl ⟨AV.one c,d,false⟩)))))∧((j != 4)=(!false)→tU2 (g∧zQl ⟨AV.one c,d,false⟩))))∧((!b.2)=(!false)→tU4 (g∧zQl ⟨AV.one c,d,false⟩))))∧((p.hd==2)=false→True∧L∧(Ans prog 84 M (RV.tup [RV.d (dS i.1.length f),RV.d (dQ i.2)]))∧tU8 (((!i.2)=false→tU5 (((l != 2)=false→True∧A∧B∧tU2 (((!(h.toList==(⟨#[116,105,108,101,115]⟩:ByteArray).toList))=true→True∧g∧zQl ⟨AV.one c,d,false⟩)∧((!(h.toList==(⟨#[116,105,108,101,115]⟩:ByteArray).toList))=false→tU3 ((0≤(0:Int)∧(0:Int) < l∧0 < f.length)∧((f[0]?=some (dJ (nAt f 0)))∧True)∧True∧(0≤(1:Int)∧(1:Int) < l∧1 < f.length)∧((f[1]?=some (dJ (nAt f 1)))∧True)∧tU8 ((true=true)∧True∧(N∧((C∧D∧E∧F∧G∧(dJ (nAt f 0)=dJ a.1.s.tw)∧(dJ (nAt f 1)=dJ a.1.s.th)∧m∧n∧o∧q∧r∧s∧t∧u∧v∧True)∧w∧x∧y∧True))∧zQl ⟨AV.one c,d,false⟩)))))∧((l != 2)=(!false)→tU2 (g∧zQl ⟨AV.one c,d,false⟩))))∧((!i.2)=(!false)→tU4 (g∧zQl ⟨AV.one c,d,false⟩))))))))) ?_
  delta tU2 tU3 tU4 tU5 tU7 tU8 dJ dQ dS rJ bC
  simp only [sS]
  simp only [zQM,zQ8,zQU,zQR,zQv,zQL]
  clear hwf
  match ws,h0,hl with
  | k::r,_,hl=>
  have s0:sAt (strs (k::r)) 0=toS k:=rfl
  have q0:(strs (k::r))[0]?=some (DV.str (toS k)):=rfl
  have w0:wAt (k::r) 0=k:=rfl
  have dr:List.take (r.length*1) (List.drop (Int.toNat 1*1) (strs (k::r)))=strs r:=zU2 1 _ rfl rfl
  have drn:((((k::r).length:Nat):Int) - 1).toNat=r.length:=by simp
  have lb:(⟨#[98,105,116,115]⟩:ByteArray)=toS zYf:=rfl
  have lc:(⟨#[99,97,110,118,97,115]⟩:ByteArray)=toS zZH:=rfl
  have lt:(⟨#[116,105,108,101,115]⟩:ByteArray)=toS zXa:=rfl
  have hr:r.length≤68719476736:=by simp at hl; omega
  have aS:=zX1 r hr
  have aU:=zYs r hr
  have d1:(k::r).drop 1=r:=rfl
  have e32:zZr r (-2147483648) 2147483647=s32 r:=rfl
  have f32:zZr r 0 4294967295=u32 r:=rfl
  have hln:(k::r).length=r.length+1:=rfl
  simp only [s0,q0,dr,drn,zQv,lb,lc,lt,zXn,e32,f32,decide_eq_true_eq,decide_eq_false_iff_not] at aS aU ⊢
  refine ⟨fun h1=>⟨fun h2=>⟨⟨by omega,by simp,by simp [zQ5]⟩,trivial,fun h3=>?_,fun h3=>?_⟩,fun h2=>?_⟩,fun h1=>⟨fun h2=>⟨⟨by omega,by simp; omega,by omega⟩,aS,fun h3=>⟨fun h4=>⟨⟨by omega,by simp,by simp [zQ5]⟩,trivial,fun h5=>?_,fun h5=>?_⟩,fun h4=>?_⟩,fun h3=>?_⟩,fun h2=>⟨⟨by omega,by simp; omega,by omega⟩,aU,fun h3=>⟨fun h4=>⟨⟨by omega,by simp,by simp [zQ5]⟩,trivial,fun h5=>?_,fun h5=>?_⟩,fun h4=>?_⟩,fun h3=>?_⟩⟩⟩
  ·have h1:p.hd=1:=by simpa using h1
   have e:zQD p (k::r)=(p,false):=by unfold zQD; rw [if_pos h1,if_neg (fun h=>h3 h.2)]
   rw [e]; ((repeat' apply And.intro) <;> first | rfl | trivial)
  ·have h1:p.hd=1:=by simpa using h1
   have h2:r.length=1:=by simp at h2; omega
   match r,h2 with
   | [c],_=>
   have w1:wAt [k,c] 1=c:=rfl
   have s1:sAt (strs [k,c]) 1=toS c:=rfl
   have e:zQD p [k,c]=({ p with s:={ p.s with bits:=(numR c 0 255).1 } },(numR c 0 255).2):=by unfold zQD; rw [if_pos h1,if_pos ⟨rfl,h3⟩]; rfl
   rw [e,s1,zQL]
   refine ⟨⟨by omega,by simp,by simp [zQ5]⟩,rfl,R18_Number_ans' c 0 255,?_⟩
   ((repeat' apply And.intro) <;> first | rfl | trivial)
  ·have h1:p.hd=1:=by simpa using h1
   have h2:¬(k::r).length=2:=by simp at h2 ⊢; omega
   have e:zQD p (k::r)=(p,false):=by unfold zQD; rw [if_pos h1,if_neg (fun h=>h2 h.1)]
   rw [e]; ((repeat' apply And.intro) <;> first | rfl | trivial)
  ·have g1:¬p.hd=1:=by simpa using h1
   have g2:p.hd=2:=by simpa using h2
   have e:zQD p (k::r)=(p,false):=by unfold zQD; rw [if_neg g1,if_pos g2,if_neg (fun h=>h5 h.2.2)]
   rw [e]; ((repeat' apply And.intro) <;> first | rfl | trivial)
  ·have g1:¬p.hd=1:=by simpa using h1
   have g2:p.hd=2:=by simpa using h2
   have h4:(s32 r).1.length=4:=by simp at h4; omega
   have e:zQD p (k::r)=({ p with s:={ p.s with c:=⟨iAt (s32 r).1 0,iAt (s32 r).1 1,iAt (s32 r).1 2,iAt (s32 r).1 3⟩ } },true):=by unfold zQD; rw [if_neg g1,if_pos g2,if_pos ⟨h3,h4,h5⟩]; rfl
   rw [e]
   generalize (s32 r).1=l at h4 ⊢
   match l,h4 with
   | [a,b,c,d],_=>
   refine ⟨⟨by omega,by simp,by simp [is]⟩,rfl,⟨by omega,by simp,by simp [is]⟩,rfl,⟨by omega,by simp,by simp [is]⟩,rfl,⟨by omega,by simp,by simp [is]⟩,rfl,?_⟩
   ((repeat' apply And.intro) <;> first | rfl | trivial)
  ·have g1:¬p.hd=1:=by simpa using h1
   have g2:p.hd=2:=by simpa using h2
   have h4:¬(s32 r).1.length=4:=by simp at h4; omega
   have e:zQD p (k::r)=(p,false):=by unfold zQD; rw [if_neg g1,if_pos g2,if_neg (fun h=>h4 h.2.1)]
   rw [e]; ((repeat' apply And.intro) <;> first | rfl | trivial)
  ·have g1:¬p.hd=1:=by simpa using h1
   have g2:p.hd=2:=by simpa using h2
   have e:zQD p (k::r)=(p,false):=by unfold zQD; rw [if_neg g1,if_pos g2,if_neg (fun h=>absurd h.1 (by rw [d1,h3]; decide))]
   rw [e]; ((repeat' apply And.intro) <;> first | rfl | trivial)
  ·have g1:¬p.hd=1:=by simpa using h1
   have g2:¬p.hd=2:=by simpa using h2
   have e:zQD p (k::r)=(p,false):=by unfold zQD; rw [if_neg g1,if_neg g2,if_neg (fun h=>h5 h.2.2)]
   rw [e]; ((repeat' apply And.intro) <;> first | rfl | trivial)
  ·have g1:¬p.hd=1:=by simpa using h1
   have g2:¬p.hd=2:=by simpa using h2
   have h4:(u32 r).1.length=2:=by simp at h4; omega
   have e:zQD p (k::r)=({ p with s:={ p.s with tw:=iAt (u32 r).1 0,th:=iAt (u32 r).1 1 } },true):=by unfold zQD; rw [if_neg g1,if_neg g2,if_pos ⟨h3,h4,h5⟩]; rfl
   rw [e]
   generalize (u32 r).1=l at h4 ⊢
   match l,h4 with
   | [a,b],_=>
   refine ⟨⟨by omega,by simp,by simp [is]⟩,rfl,⟨by omega,by simp,by simp [is]⟩,rfl,?_⟩
   ((repeat' apply And.intro) <;> first | rfl | trivial)
  ·have g1:¬p.hd=1:=by simpa using h1
   have g2:¬p.hd=2:=by simpa using h2
   have h4:¬(u32 r).1.length=2:=by simp at h4; omega
   have e:zQD p (k::r)=(p,false):=by unfold zQD; rw [if_neg g1,if_neg g2,if_neg (fun h=>h4 h.2.1)]
   rw [e]; ((repeat' apply And.intro) <;> first | rfl | trivial)
  ·have g1:¬p.hd=1:=by simpa using h1
   have g2:¬p.hd=2:=by simpa using h2
   have e:zQD p (k::r)=(p,false):=by unfold zQD; rw [if_neg g1,if_neg g2,if_neg (fun h=>absurd h.1 (by rw [d1,h3]; decide))]
   rw [e]; ((repeat' apply And.intro) <;> first | rfl | trivial)
theorem zJ1 (p:RP) (ws:List Lb) (hl:ws.length≤68719476736) (hi:p.s.ims.length≤68719476736):AnsG prog 85 1 [aPz,AV.one (Cl.d (dS ws.length (strs ws)))] [bC [cJ (p.s.bits),cJ (p.s.c.a),cJ (p.s.c.b),cJ (p.s.c.c),cJ (p.s.c.d),cJ (p.s.tw),cJ (p.s.th),Cl.d (dS p.s.ord.length (is p.s.ord)),Cl.ref 1 p.s.ims.length,Cl.ref 2 p.s.ops.length,cJ (p.hd),cJ (p.part),cJ (p.left),cJ (p.w),cJ (p.h),Cl.ref 3 p.px.length],Bx.row 43 28 (ims p.s.ims),Bx.row 51 12 (ops p.s.ops),Bx.row 37 5 (pxs p.px)] ⟨AV.one (Cl.d (dQ ((zQI p (zQb (strs ws))).2))),[bC [cJ ((((zQI p (zQb (strs ws))).1).s.bits)),cJ ((((zQI p (zQb (strs ws))).1).s.c.a)),cJ ((((zQI p (zQb (strs ws))).1).s.c.b)),cJ ((((zQI p (zQb (strs ws))).1).s.c.c)),cJ ((((zQI p (zQb (strs ws))).1).s.c.d)),cJ ((((zQI p (zQb (strs ws))).1).s.tw)),cJ ((((zQI p (zQb (strs ws))).1).s.th)),Cl.d (dS (((zQI p (zQb (strs ws))).1).s.ord.length) (is ((zQI p (zQb (strs ws))).1).s.ord)),Cl.ref 1 (((zQI p (zQb (strs ws))).1).s.ims.length),Cl.ref 2 (((zQI p (zQb (strs ws))).1).s.ops.length),cJ ((((zQI p (zQb (strs ws))).1).hd)),cJ ((((zQI p (zQb (strs ws))).1).part)),cJ ((((zQI p (zQb (strs ws))).1).left)),cJ ((((zQI p (zQb (strs ws))).1).w)),cJ ((((zQI p (zQb (strs ws))).1).h)),Cl.ref 3 (((zQI p (zQb (strs ws))).1).px.length)],Bx.row 43 28 (ims ((zQI p (zQb (strs ws))).1).s.ims),Bx.row 51 12 (ops ((zQI p (zQb (strs ws))).1).s.ops),Bx.row 37 5 (pxs ((zQI p (zQb (strs ws))).1).px)],false⟩:=
 zQx (Γ:=jKN) Ann.leaf zQB Tryz.func85 rfl (Nat.le_of_ble_eq_true rfl) rfl fun hwf hbx=>by
  refine Eq.mpr (by kernel_rfl:_=(let o:=(sAt (strs ws) 0); let F:=(decide ((p.s.ims.length:Int)≥64)); let b:=(ws.length:Int); let G:=(List.take ((b - 3).toNat*1) (List.drop ((3:Int).toNat*1) (strs ws))); let a:=(zQI p (zQb (strs ws))); let c:=(pixW (zQb G)); let S:=(dS a.1.s.ord.length (is a.1.s.ord)); let T:=(dJ a.1.s.bits); let U:=(dJ a.1.s.c.a); let V:=(dJ a.1.s.c.b); let W:=(dJ a.1.s.c.c); let X:=(dJ a.1.s.c.d); let Y:=(dJ a.1.s.tw); let Z:=(dJ a.1.s.th); let z0:=(dJ a.1.part); let z1:=(dJ a.1.left); let z2:=(dJ a.1.hd); let z3:=(dJ a.1.w); let z4:=(dJ a.1.h); let e:=(Cl.d (dQ a.2)); let z5:=a.1.s.ims.length; let z6:=a.1.s.ops.length; let z7:=a.1.px.length; let z8:=(ims a.1.s.ims); let z9:=(ops a.1.s.ops); let y0:=(pxs a.1.px); let f:=[bC [Cl.d T,Cl.d U,Cl.d V,Cl.d W,Cl.d X,Cl.d Y,Cl.d Z,Cl.d S,Cl.ref 1 z5,Cl.ref 2 z6,Cl.d z2,Cl.d z0,Cl.d z1,Cl.d z3,Cl.d z4,Cl.ref 3 z7],Bx.row 43 28 z8,Bx.row 51 12 z9,Bx.row 37 5 y0]; let q:=(dJ p.s.bits=dJ a.1.s.bits); let r:=(dJ p.s.c.a=dJ a.1.s.c.a); let s:=(dJ p.s.c.b=dJ a.1.s.c.b); let t:=(dJ p.s.c.c=dJ a.1.s.c.c); let u:=(dJ p.s.c.d=dJ a.1.s.c.d); let v:=(dJ p.s.tw=dJ a.1.s.tw); let w:=(dJ p.s.th=dJ a.1.s.th); let x:=(dS p.s.ord.length (is p.s.ord)=dS a.1.s.ord.length (is a.1.s.ord)); let H:=(p.s.ims.length=a.1.s.ims.length); let y:=(p.s.ops.length=a.1.s.ops.length); let z:=(dJ p.hd=dJ a.1.hd); let A:=(dJ 1=dJ a.1.part); let I:=(dJ p.left=dJ a.1.left); let J:=(dJ p.w=dJ a.1.w); let K:=(dJ p.h=dJ a.1.h); let B:=(p.px.length=a.1.px.length); let L:=(ims p.s.ims=ims a.1.s.ims); let C:=(ops p.s.ops=ops a.1.s.ops); let D:=(pxs p.px=pxs a.1.px); let h:=(((dQ false=dQ a.2)∧True)∧((q∧r∧s∧t∧u∧v∧w∧x∧H∧y∧z∧A∧I∧J∧K∧B∧True)∧L∧C∧D∧True)); let M:=(List.take (((3:Int) - 1).toNat*1) (List.drop ((1:Int).toNat*1) (strs ws))); let g:=(zZr (zQb M) (1:Int) (16777216:Int)); let N:=((g.1.length:Nat):Int); let d:=(is g.1); let i:=(nAt d 0); let j:=(nAt d 1); let O:=(decide (j > (wK (Int.tdiv (16777216:Int) i)))); let E:=(zQf i j c.1); let k:=(0≤(1:Int)∧(1:Int) < N∧1 < d.length); let P:=(dJ j); let l:=((d[1]?=some P)∧True); let m:=(0≤(0:Int)∧(0:Int) < N∧0 < d.length); let Q:=(dJ i); let n:=((d[0]?=some Q)∧True); let R:=[dK c.1.a,dK c.1.b,dK c.1.c,dK c.1.al,dK c.1.f]; tU5 (tU8 (((decide (p.part > 1))=false→tU5 ((p.s.ims.length≤maxLen)∧tU3 ((F=false→tU4 (((decide (b < 3))=true→True∧h∧zQl ⟨AV.one e,f,false⟩)∧((decide (b < 3))=false→True∧(0≤(1:Int)∧(1:Int)≤3∧(3:Int)≤b)∧(Ans prog 117 [RV.d (dS ((3:Int) - 1).toNat M),rJ 1,rJ 16777216] (RV.tup [RV.d (dS g.1.length d),RV.d (dQ g.2)]))∧tU8 (((!g.2)=false→True∧k∧l∧True∧m∧n∧(nAt d 0≠0)∧tU2 ((true=true)∧((O=true→True∧h∧zQl ⟨AV.one e,f,false⟩)∧(O=false→True∧(0≤(0:Int)∧(0:Int) < b∧0 < (strs ws).length)∧(((strs ws)[0]?=some (DV.str o))∧True)∧True∧(((o.toList==(⟨#[115,111,108,105,100]⟩:ByteArray).toList)=true→True∧(0≤(3:Int)∧(3:Int)≤b∧b≤b)∧(Ans prog 82 [RV.d (dS (b - 3).toNat G)] (RV.tup [RV.agg R,RV.d (dQ c.2)]))∧tU5 (tU8 (m∧n∧True∧k∧l∧True∧(Ans prog 22 [RV.d Q,RV.d P,RV.agg R] (imR E))∧True∧(zZW 28 272 p.s.ims.length 1 (ims p.s.ims) (Im.ds E))∧tU4 ((true=true)∧tU2 ((((dQ c.2=dQ a.2)∧True)∧((q∧r∧s∧t∧u∧v∧w∧x∧(p.s.ims.length+1=a.1.s.ims.length)∧y∧z∧A∧I∧J∧K∧B∧True)∧((ims p.s.ims)++(Im.ds E)=ims a.1.s.ims)∧C∧D∧True))∧zQl ⟨AV.one e,f,false⟩)))))∧((o.toList==(⟨#[115,111,108,105,100]⟩:ByteArray).toList)=false→tU4 (m∧n∧True∧k∧l∧True∧m∧n∧True∧k∧l∧tU2 (tU8 ((true=true)∧tU4 ((((dQ (b==3)=dQ a.2)∧True)∧((q∧r∧s∧t∧u∧v∧w∧x∧H∧y∧z∧A∧(dJ (wK (i*j))=dJ a.1.left)∧(dJ i=dJ a.1.w)∧(dJ j=dJ a.1.h)∧B∧True)∧L∧C∧D∧True))∧zQl ⟨AV.one e,f,false⟩))))))))))∧((!g.2)=(!false)→True∧(true=true)∧True∧h∧zQl ⟨AV.one e,f,false⟩)))))∧(F=(!false)→tU2 (h∧zQl ⟨AV.one e,f,false⟩)))))∧((decide (p.part > 1))=(!false)→tU4 (h∧zQl ⟨AV.one e,f,false⟩)))))) ?_
  delta tU2 tU3 tU4 tU5 tU8 dJ dK dQ wK dS rJ bC
  simp only [sS]
  simp only [zQM,zQ8,zQU,zQR,zQv,zQL]
  clear hwf
  have bad:(1 < p.part∨64≤p.s.ims.length∨ws.length < 3)→zQI p ws=({ p with part:=1 },false):=fun h=>by unfold zQI; rw [if_pos h]
  refine ⟨fun h1=>⟨by unfold maxLen; omega,fun h2=>⟨fun h3=>?_,fun h3=>?_⟩,fun h2=>?_⟩,fun h1=>?_⟩
  ·rw [bad (.inr (.inr (by omega)))]; ((repeat' apply And.intro) <;> first | rfl | trivial)
  ·obtain ⟨k,a,b,r,rfl⟩:∃ k a b r,ws=k::a::b::r:=by
    match ws,h3 with
    | [],h3=>exact absurd h3 (by simp)
    | [_],h3=>exact absurd h3 (by simp)
    | [_,_],h3=>exact absurd h3 (by simp)
    | k::a::b::r,_=>exact ⟨_,_,_,_,rfl⟩
   have s0:sAt (strs (k::a::b::r)) 0=toS k:=rfl
   have q0:(strs (k::a::b::r))[0]?=some (DV.str (toS k)):=rfl
   have w0:wAt (k::a::b::r) 0=k:=rfl
   have d1:List.take ((3 - 1:Int).toNat*1) (List.drop (Int.toNat 1*1) (strs (k::a::b::r)))=strs [a,b]:=rfl
   have d3:List.take (r.length*1) (List.drop (Int.toNat 3*1) (strs (k::a::b::r)))=strs r:=zU2 3 _ rfl rfl
   have n3:((((k::a::b::r).length:Nat):Int) - 3).toNat=r.length:=by simp; omega
   have n2:(3 - 1:Int).toNat=[a,b].length:=rfl
   have lso:(⟨#[115,111,108,105,100]⟩:ByteArray)=toS zQ2:=rfl
   have aN:=zZP [a,b] 1 16777216 (by simp)
   have aP:=zJC r (by simp at hl; omega)
   have eN:nz (k::a::b::r)=zZr [a,b] 1 16777216:=rfl
   have g1:¬(1 < p.part∨64≤p.s.ims.length∨(k::a::b::r).length < 3):=by omega
   have go:zQI p (k::a::b::r)=(if (zZr [a,b] 1 16777216).2=false∨16777216 / iAt (zZr [a,b] 1 16777216).1 0 < iAt (zZr [a,b] 1 16777216).1 1 then ({ p with part:=1 },false) else if k=zQ2 then ({ p with part:=1,s:={ p.s with ims:=p.s.ims++[zQf (iAt (zZr [a,b] 1 16777216).1 0) (iAt (zZr [a,b] 1 16777216).1 1) (pixW r).1] } },(pixW r).2)
    else ({ p with part:=1,w:=iAt (zZr [a,b] 1 16777216).1 0,h:=iAt (zZr [a,b] 1 16777216).1 1,left:=iAt (zZr [a,b] 1 16777216).1 0*iAt (zZr [a,b] 1 16777216).1 1 },decide ((k::a::b::r).length=3))):=by unfold zQI; rw [if_neg g1]; rfl
   simp only [s0,q0,d1,d3,n3,zQv,lso,zXn,decide_eq_true_eq,decide_eq_false_iff_not] at aN aP ⊢
   by_cases hok:[a,b].all (okN 1 16777216)=true
   ·have hab:okN 1 16777216 a=true∧okN 1 16777216 b=true:=by simpa using hok
    have ha:=zJ8 hab.1
    have hb:=zJ8 hab.2
    have m2:[a,b].map numV=[numV a,numV b]:=rfl
    rw [zZn hok,m2] at go aN ⊢
    have i0:iAt [numV a,numV b] 0=numV a:=rfl
    have i1:iAt [numV a,numV b] 1=numV b:=rfl
    have j0:nAt (is [numV a,numV b]) 0=numV a:=rfl
    have j1:nAt (is [numV a,numV b]) 1=numV b:=rfl
    simp only [i0,i1,j0,j1,Bool.true_eq_false,false_or] at go ⊢
    generalize numV a=A at *
    generalize numV b=B at *
    have hq:Int.tdiv 16777216 A=16777216 / A:=Int.tdiv_eq_ediv_of_nonneg (by omega)
    have hq1:0≤16777216 / A:=Int.ediv_nonneg (by omega) (by omega)
    have hq2:16777216 / A≤16777216:=Int.ediv_le_self _ (by omega)
    have hw:IntKind.wrap .i64 (Int.tdiv 16777216 A)=16777216 / A:=by rw [hq,IntWalk.i64_in _ ⟨by omega,by omega⟩]
    rw [hw]
    refine ⟨⟨by omega,by simp <;> omega,by simp <;> omega⟩,aN,fun _=>⟨⟨by omega,by simp,by simp [is]⟩,rfl,⟨by omega,by simp,by simp [is]⟩,rfl,by omega,fun h4=>?_,fun h4=>⟨⟨by omega,by simp <;> omega,by simp [zQ5]⟩,trivial,fun h5=>⟨⟨by omega,by simp <;> omega,by simp⟩,aP,⟨by omega,by simp,by simp [is]⟩,rfl,⟨by omega,by simp,by simp [is]⟩,rfl,zHM A B (pixW r).1,⟨zZO _,Im.ds_len _,by unfold maxLen; omega,by omega⟩,?_⟩,fun h5=>⟨⟨by omega,by simp,by simp [is]⟩,rfl,⟨by omega,by simp,by simp [is]⟩,rfl,⟨by omega,by simp,by simp [is]⟩,rfl,⟨by omega,by simp,by simp [is]⟩,rfl,?_⟩⟩⟩,fun h=>absurd h (by decide)⟩
    ·rw [go,if_pos (by omega)]; ((repeat' apply And.intro) <;> first | rfl | trivial)
    ·rw [go,if_neg (by omega),if_pos h5]; ((repeat' apply And.intro) <;> first | rfl | trivial | (simp [ims]; done) | (simp [ops]; done) | (simp [pxs]; done))
    ·have hm:A*B≤16777216:=by
      have h6:B≤16777216 / A:=by omega
      have h7:=Int.mul_le_mul_of_nonneg_left h6 (by omega:0≤A)
      have h8:=Int.mul_ediv_self_le (x:=16777216) (k:=A) (by omega)
      omega
     have hm0:0≤A*B:=Int.mul_nonneg (by omega) (by omega)
     have hl3:((((k::a::b::r).length:Nat):Int)==3)=decide ((k::a::b::r).length=3):=by rw [Bool.eq_iff_iff]; simp only [beq_iff_eq,decide_eq_true_eq]; omega
     rw [go,if_neg (by omega),if_neg h5,IntWalk.i64_in (A*B) ⟨by omega,by omega⟩]; rw [hl3]; ((repeat' apply And.intro) <;> first | rfl | trivial)
   ·have hok:[a,b].all (okN 1 16777216)=false:=by simpa using hok
    rw [zZB hok] at go aN ⊢
    refine ⟨⟨by omega,by simp <;> omega,by simp <;> omega⟩,aN,fun h=>absurd h (by decide),fun _=>?_⟩
    rw [go,if_pos (.inl rfl)]; ((repeat' apply And.intro) <;> first | rfl | trivial)
  ·rw [bad (.inr (.inl (by omega)))]; ((repeat' apply And.intro) <;> first | rfl | trivial)
  ·rw [bad (.inl (by omega))]; ((repeat' apply And.intro) <;> first | rfl | trivial)
def rE (s:RP):RP:=⟨sE s.s,s.hd,s.part,s.left,s.w,s.h,zQc (pxs s.px)⟩
theorem zKA (p:RP) (w:Lb) (hw:w.length≤68719476700) (hi:p.s.ims.length≤68719476736) (hp:p.s.ops.length≤68719476736) (hx:p.px.length≤68719476736) (hf:p.left≤16777216) (hh:0≤p.hd):AnsG prog 43 1 [aPz,AV.one (Cl.d (DV.str (toS w)))] [bC [cJ (p.s.bits),cJ (p.s.c.a),cJ (p.s.c.b),cJ (p.s.c.c),cJ (p.s.c.d),cJ (p.s.tw),cJ (p.s.th),Cl.d (dS p.s.ord.length (is p.s.ord)),Cl.ref 1 p.s.ims.length,Cl.ref 2 p.s.ops.length,cJ (p.hd),cJ (p.part),cJ (p.left),cJ (p.w),cJ (p.h),Cl.ref 3 p.px.length],Bx.row 43 28 (ims p.s.ims),Bx.row 51 12 (ops p.s.ops),Bx.row 37 5 (pxs p.px)] ⟨AV.one (Cl.d (dQ ((zQS p (ofS (toS w))).2))),[bC [cJ ((((zQS p (ofS (toS w))).1).s.bits)),cJ ((((zQS p (ofS (toS w))).1).s.c.a)),cJ ((((zQS p (ofS (toS w))).1).s.c.b)),cJ ((((zQS p (ofS (toS w))).1).s.c.c)),cJ ((((zQS p (ofS (toS w))).1).s.c.d)),cJ ((((zQS p (ofS (toS w))).1).s.tw)),cJ ((((zQS p (ofS (toS w))).1).s.th)),Cl.d (dS (((zQS p (ofS (toS w))).1).s.ord.length) (is ((zQS p (ofS (toS w))).1).s.ord)),Cl.ref 1 (((zQS p (ofS (toS w))).1).s.ims.length),Cl.ref 2 (((zQS p (ofS (toS w))).1).s.ops.length),cJ ((((zQS p (ofS (toS w))).1).hd)),cJ ((((zQS p (ofS (toS w))).1).part)),cJ ((((zQS p (ofS (toS w))).1).left)),cJ ((((zQS p (ofS (toS w))).1).w)),cJ ((((zQS p (ofS (toS w))).1).h)),Cl.ref 3 (((zQS p (ofS (toS w))).1).px.length)],Bx.row 43 28 (ims ((zQS p (ofS (toS w))).1).s.ims),Bx.row 51 12 (ops ((zQS p (ofS (toS w))).1).s.ops),Bx.row 37 5 (pxs ((zQS p (ofS (toS w))).1).px)],false⟩:=
 zQx (Γ:=jKN) Ann.leaf zQB Tryz.func43 rfl (Nat.le_of_ble_eq_true rfl) rfl fun hwf hbx=>by
  refine Eq.mpr (by kernel_rfl:_=(let t:=(ops p.s.ops); let u:=(ims p.s.ims); let I:=(zQn (ofS (toS w))); let m:=(strs I); let d:=(zQS p (ofS (toS w))); let e:=(zQb m); let J:=(Oq.cells (opR e).1); let g:=(zQI (rE p) e); let S:=[bC [cJ g.1.s.bits,cJ g.1.s.c.a,cJ g.1.s.c.b,cJ g.1.s.c.c,cJ g.1.s.c.d,cJ g.1.s.tw,cJ g.1.s.th,Cl.d (dS g.1.s.ord.length (is g.1.s.ord)),Cl.ref 1 g.1.s.ims.length,Cl.ref 2 g.1.s.ops.length,cJ g.1.hd,cJ g.1.part,cJ g.1.left,cJ g.1.w,cJ g.1.h,Cl.ref 3 g.1.px.length],Bx.row 43 28 (ims g.1.s.ims),Bx.row 51 12 (ops g.1.s.ops),Bx.row 37 5 (pxs g.1.px)]; let y3:=(dJ d.1.s.bits); let y4:=(dJ d.1.s.c.a); let y5:=(dJ d.1.s.c.b); let y6:=(dJ d.1.s.c.c); let y7:=(dJ d.1.s.c.d); let y8:=(dJ d.1.s.tw); let y9:=(dJ d.1.s.th); let x0:=(dJ d.1.part); let x1:=(dJ d.1.left); let x2:=(dJ d.1.hd); let x3:=(dJ d.1.w); let x4:=(dJ d.1.h); let j:=(Cl.d (dQ d.2)); let x5:=d.1.s.ims.length; let x6:=d.1.s.ops.length; let x7:=d.1.px.length; let x8:=(ims d.1.s.ims); let x9:=(ops d.1.s.ops); let w0:=(pxs d.1.px); let n:=(sAt m 0); let o:=((I.length:Nat):Int); let T:=(List.take ((o - 1).toNat*1) (List.drop ((1:Int).toNat*1) m)); let l:=(zZr (zQb T) 0 4294967295); let U:=(decide ((l.1.length:Int) > 0)); let v:=(n.toList==(⟨#[115,111,108,105,100]⟩:ByteArray).toList); let q:=d.1.s.ord.length; let r:=(is d.1.s.ord); let w1:=(dS q r); let k:=[bC [Cl.d y3,Cl.d y4,Cl.d y5,Cl.d y6,Cl.d y7,Cl.d y8,Cl.d y9,Cl.d w1,Cl.ref 1 x5,Cl.ref 2 x6,Cl.d x2,Cl.d x0,Cl.d x1,Cl.d x3,Cl.d x4,Cl.ref 3 x7],Bx.row 43 28 x8,Bx.row 51 12 x9,Bx.row 37 5 w0]; let K:=(dS I.length m); let V:=[RV.d K]; let x:=[dK (pixW e).1.a,dK (pixW e).1.b,dK (pixW e).1.c,dK (pixW e).1.al,dK (pixW e).1.f]; let W:=(wK (p.left - 1)); let X:=(W==0); let L:=((pxs p.px)++x); let Y:=(Im.ds (imOf p.w p.h (zQc L))); let Z:=((dQ (pixW e).2=dQ d.2)∧True); let y:=(dJ p.s.bits=dJ d.1.s.bits); let z:=(dJ p.s.c.a=dJ d.1.s.c.a); let A:=(dJ p.s.c.b=dJ d.1.s.c.b); let B:=(dJ p.s.c.c=dJ d.1.s.c.c); let C:=(dJ p.s.c.d=dJ d.1.s.c.d); let D:=(dJ p.s.tw=dJ d.1.s.tw); let E:=(dJ p.s.th=dJ d.1.s.th); let M:=(dS p.s.ord.length (is p.s.ord)=dS q r); let N:=(p.s.ops.length=d.1.s.ops.length); let F:=(dJ p.hd=dJ d.1.hd); let z0:=(dJ p.part=dJ d.1.part); let z1:=(dJ W=dJ d.1.left); let G:=(dJ p.w=dJ d.1.w); let H:=(dJ p.h=dJ d.1.h); let O:=(ops p.s.ops=ops d.1.s.ops); let P:=(p.s.ims.length=d.1.s.ims.length); let Q:=(ims p.s.ims=ims d.1.s.ims); let R:=[aPz,AV.one (Cl.d K)]; let z2:=(dS p.s.ord.length (is p.s.ord)); let z3:=[bC [cJ p.s.bits,cJ p.s.c.a,cJ p.s.c.b,cJ p.s.c.c,cJ p.s.c.d,cJ p.s.tw,cJ p.s.th,Cl.d z2,Cl.ref 1 p.s.ims.length,Cl.ref 2 p.s.ops.length,cJ p.hd,cJ p.part,cJ p.left,cJ p.w,cJ p.h,Cl.ref 3 p.px.length],Bx.row 43 28 u,Bx.row 51 12 t,Bx.row 37 5 (pxs p.px)]; let i:=(wK (p.hd+1)); let z4:=(dJ p.left=dJ d.1.left); let z5:=(p.px.length=d.1.px.length); let z6:=(pxs p.px=pxs d.1.px); let z7:=((y∧z∧A∧B∧C∧D∧E∧(dS l.1.length (is l.1)=dS q r)∧P∧N∧F∧(dJ 1=dJ d.1.part)∧z4∧G∧H∧z5∧True)∧Q∧O∧z6∧True); let z8:=((dQ false=dQ d.2)∧True); let z9:=(z8∧z7); let y0:=(((dQ g.2=dQ d.2)∧True)∧(((dJ g.1.s.bits=dJ d.1.s.bits)∧(dJ g.1.s.c.a=dJ d.1.s.c.a)∧(dJ g.1.s.c.b=dJ d.1.s.c.b)∧(dJ g.1.s.c.c=dJ d.1.s.c.c)∧(dJ g.1.s.c.d=dJ d.1.s.c.d)∧(dJ g.1.s.tw=dJ d.1.s.tw)∧(dJ g.1.s.th=dJ d.1.s.th)∧(dS g.1.s.ord.length (is g.1.s.ord)=dS q r)∧(g.1.s.ims.length=d.1.s.ims.length)∧(g.1.s.ops.length=d.1.s.ops.length)∧(dJ g.1.hd=dJ d.1.hd)∧(dJ g.1.part=dJ d.1.part)∧(dJ g.1.left=dJ d.1.left)∧(dJ g.1.w=dJ d.1.w)∧(dJ g.1.h=dJ d.1.h)∧(g.1.px.length=d.1.px.length)∧True)∧(ims g.1.s.ims=ims d.1.s.ims)∧(ops g.1.s.ops=ops d.1.s.ops)∧(pxs g.1.px=pxs d.1.px)∧True)); let w2:=(Ans prog 86 V (RV.tup [RV.agg J,RV.d (dQ (opR e).2)])); let y1:=((y∧z∧A∧B∧C∧D∧E∧M∧P∧(p.s.ops.length+1=d.1.s.ops.length)∧F∧(dJ 2=dJ d.1.part)∧z4∧G∧H∧z5∧True)∧Q∧(t++J=ops d.1.s.ops)∧z6∧True); let w3:=(((opR e).2=true→tU5 ((p.s.ops.length+1≤maxLen)∧tU3 ((((dQ (decide (((p.s.ops.length+1:Nat):Int)≤4096))=dQ d.2)∧True)∧y1)∧zQl ⟨AV.one j,k,false⟩)))∧((opR e).2=(!true)→tU2 ((z8∧y1)∧zQl ⟨AV.one j,k,false⟩))); let y2:=(w2∧tU6 (tU8 ((zZW 12 88 p.s.ops.length 1 t J)∧tU4 ((true=true)∧tU2 w3)))); tU2 ((Ans prog 81 [RV.d (DV.str (toS w))] (RV.d K))∧tU6 (((decide (p.left > 0))=true→True∧(Ans prog 82 V (RV.tup [RV.agg x,RV.d (dQ (pixW e).2)]))∧tU5 (tU8 ((zZW 5 10 p.px.length 1 (pxs p.px) x)∧tU3 ((true=true)∧tU5 (tU8 ((X=true→tU4 (tU8 ((Ans prog 48 [rJ p.w,rJ p.h,RV.d (dS (p.px.length+1) L)] (RV.tup [(imR (imOf p.w p.h (zQc L))),RV.d (dQ (ofOk p.w p.h (p.px.length+1)))]))∧tU6 ((true=true)∧tU8 ((zZW 28 272 p.s.ims.length 1 u Y)∧tU4 ((true=true)∧tU6 ((Z∧((y∧z∧A∧B∧C∧D∧E∧M∧(p.s.ims.length+1=d.1.s.ims.length)∧N∧F∧z0∧z1∧G∧H∧(0=d.1.px.length)∧True)∧(u++Y=ims d.1.s.ims)∧O∧([]=pxs d.1.px)∧True))∧zQl ⟨AV.one j,k,false⟩)))))))∧(X=false→tU2 ((Z∧((y∧z∧A∧B∧C∧D∧E∧M∧P∧N∧F∧z0∧z1∧G∧H∧(p.px.length+1=d.1.px.length)∧True)∧Q∧O∧((pxs p.px)++x=pxs d.1.px)∧True))∧zQl ⟨AV.one j,k,false⟩))))))))∧((decide (p.left > 0))=false→tU5 (((decide (p.hd < 3))=true→tU2 (tU8 ((AnsG prog 83 1 R [bC [cJ p.s.bits,cJ p.s.c.a,cJ p.s.c.b,cJ p.s.c.c,cJ p.s.c.d,cJ p.s.tw,cJ p.s.th,Cl.d z2,Cl.ref 1 p.s.ims.length,Cl.ref 2 p.s.ops.length,cJ i,cJ p.part,cJ p.left,cJ p.w,cJ p.h,Cl.ref 3 p.px.length],Bx.row 43 28 u,Bx.row 51 12 t,Bx.row 37 5 (pxs p.px)] ⟨AV.one (Cl.d (dQ (zQD (⟨(sE p.s),i,p.part,p.left,p.w,p.h,zQc (pxs p.px)⟩:RP) e).2)),[bC [cJ (zQD (⟨(sE p.s),i,p.part,p.left,p.w,p.h,zQc (pxs p.px)⟩:RP) e).1.s.bits,cJ (zQD (⟨(sE p.s),i,p.part,p.left,p.w,p.h,zQc (pxs p.px)⟩:RP) e).1.s.c.a,cJ (zQD (⟨(sE p.s),i,p.part,p.left,p.w,p.h,zQc (pxs p.px)⟩:RP) e).1.s.c.b,cJ (zQD (⟨(sE p.s),i,p.part,p.left,p.w,p.h,zQc (pxs p.px)⟩:RP) e).1.s.c.c,cJ (zQD (⟨(sE p.s),i,p.part,p.left,p.w,p.h,zQc (pxs p.px)⟩:RP) e).1.s.c.d,cJ (zQD (⟨(sE p.s),i,p.part,p.left,p.w,p.h,zQc (pxs p.px)⟩:RP) e).1.s.tw,cJ (zQD (⟨(sE p.s),i,p.part,p.left,p.w,p.h,zQc (pxs p.px)⟩:RP) e).1.s.th,Cl.d (dS (zQD (⟨(sE p.s),i,p.part,p.left,p.w,p.h,zQc (pxs p.px)⟩:RP) e).1.s.ord.length (is (zQD (⟨(sE p.s),i,p.part,p.left,p.w,p.h,zQc (pxs p.px)⟩:RP) e).1.s.ord)),Cl.ref 1 (zQD (⟨(sE p.s),i,p.part,p.left,p.w,p.h,zQc (pxs p.px)⟩:RP) e).1.s.ims.length,Cl.ref 2 (zQD (⟨(sE p.s),i,p.part,p.left,p.w,p.h,zQc (pxs p.px)⟩:RP) e).1.s.ops.length,cJ (zQD (⟨(sE p.s),i,p.part,p.left,p.w,p.h,zQc (pxs p.px)⟩:RP) e).1.hd,cJ (zQD (⟨(sE p.s),i,p.part,p.left,p.w,p.h,zQc (pxs p.px)⟩:RP) e).1.part,cJ (zQD (⟨(sE p.s),i,p.part,p.left,p.w,p.h,zQc (pxs p.px)⟩:RP) e).1.left,cJ (zQD (⟨(sE p.s),i,p.part,p.left,p.w,p.h,zQc (pxs p.px)⟩:RP) e).1.w,cJ (zQD (⟨(sE p.s),i,p.part,p.left,p.w,p.h,zQc (pxs p.px)⟩:RP) e).1.h,Cl.ref 3 (zQD (⟨(sE p.s),i,p.part,p.left,p.w,p.h,zQc (pxs p.px)⟩:RP) e).1.px.length],Bx.row 43 28 (ims (zQD (⟨(sE p.s),i,p.part,p.left,p.w,p.h,zQc (pxs p.px)⟩:RP) e).1.s.ims),Bx.row 51 12 (ops (zQD (⟨(sE p.s),i,p.part,p.left,p.w,p.h,zQc (pxs p.px)⟩:RP) e).1.s.ops),Bx.row 37 5 (pxs (zQD (⟨(sE p.s),i,p.part,p.left,p.w,p.h,zQc (pxs p.px)⟩:RP) e).1.px)],false⟩)∧True∧(((dQ (zQD (⟨(sE p.s),i,p.part,p.left,p.w,p.h,zQc (pxs p.px)⟩:RP) e).2=dQ d.2)∧True)∧(((dJ (zQD (⟨(sE p.s),i,p.part,p.left,p.w,p.h,zQc (pxs p.px)⟩:RP) e).1.s.bits=dJ d.1.s.bits)∧(dJ (zQD (⟨(sE p.s),i,p.part,p.left,p.w,p.h,zQc (pxs p.px)⟩:RP) e).1.s.c.a=dJ d.1.s.c.a)∧(dJ (zQD (⟨(sE p.s),i,p.part,p.left,p.w,p.h,zQc (pxs p.px)⟩:RP) e).1.s.c.b=dJ d.1.s.c.b)∧(dJ (zQD (⟨(sE p.s),i,p.part,p.left,p.w,p.h,zQc (pxs p.px)⟩:RP) e).1.s.c.c=dJ d.1.s.c.c)∧(dJ (zQD (⟨(sE p.s),i,p.part,p.left,p.w,p.h,zQc (pxs p.px)⟩:RP) e).1.s.c.d=dJ d.1.s.c.d)∧(dJ (zQD (⟨(sE p.s),i,p.part,p.left,p.w,p.h,zQc (pxs p.px)⟩:RP) e).1.s.tw=dJ d.1.s.tw)∧(dJ (zQD (⟨(sE p.s),i,p.part,p.left,p.w,p.h,zQc (pxs p.px)⟩:RP) e).1.s.th=dJ d.1.s.th)∧(dS (zQD (⟨(sE p.s),i,p.part,p.left,p.w,p.h,zQc (pxs p.px)⟩:RP) e).1.s.ord.length (is (zQD (⟨(sE p.s),i,p.part,p.left,p.w,p.h,zQc (pxs p.px)⟩:RP) e).1.s.ord)=dS q r)∧((zQD (⟨(sE p.s),i,p.part,p.left,p.w,p.h,zQc (pxs p.px)⟩:RP) e).1.s.ims.length=d.1.s.ims.length)∧((zQD (⟨(sE p.s),i,p.part,p.left,p.w,p.h,zQc (pxs p.px)⟩:RP) e).1.s.ops.length=d.1.s.ops.length)∧(dJ (zQD (⟨(sE p.s),i,p.part,p.left,p.w,p.h,zQc (pxs p.px)⟩:RP) e).1.hd=dJ d.1.hd)∧(dJ (zQD (⟨(sE p.s),i,p.part,p.left,p.w,p.h,zQc (pxs p.px)⟩:RP) e).1.part=dJ d.1.part)∧(dJ (zQD (⟨(sE p.s),i,p.part,p.left,p.w,p.h,zQc (pxs p.px)⟩:RP) e).1.left=dJ d.1.left)∧(dJ (zQD (⟨(sE p.s),i,p.part,p.left,p.w,p.h,zQc (pxs p.px)⟩:RP) e).1.w=dJ d.1.w)∧(dJ (zQD (⟨(sE p.s),i,p.part,p.left,p.w,p.h,zQc (pxs p.px)⟩:RP) e).1.h=dJ d.1.h)∧((zQD (⟨(sE p.s),i,p.part,p.left,p.w,p.h,zQc (pxs p.px)⟩:RP) e).1.px.length=d.1.px.length)∧True)∧(ims (zQD (⟨(sE p.s),i,p.part,p.left,p.w,p.h,zQc (pxs p.px)⟩:RP) e).1.s.ims=ims d.1.s.ims)∧(ops (zQD (⟨(sE p.s),i,p.part,p.left,p.w,p.h,zQc (pxs p.px)⟩:RP) e).1.s.ops=ops d.1.s.ops)∧(pxs (zQD (⟨(sE p.s),i,p.part,p.left,p.w,p.h,zQc (pxs p.px)⟩:RP) e).1.px=pxs d.1.px)∧True))∧zQl ⟨AV.one j,k,false⟩)))∧((decide (p.hd < 3))=false→True∧(0≤(0:Int)∧(0:Int) < o∧0 < m.length)∧((m[0]?=some (DV.str n))∧True)∧tU2 (((n.toList==(⟨#[111,114,100,101,114]⟩:ByteArray).toList)=true→True∧(0≤(1:Int)∧(1:Int)≤o∧o≤o)∧(Ans prog 84 [RV.d (dS (o - 1).toNat T)] (RV.tup [RV.d (dS l.1.length (is l.1)),RV.d (dQ l.2)]))∧tU6 (tU8 (tU8 ((l.2=true→tU5 ((U=true→tU4 ((((dQ (p.part==0)=dQ d.2)∧True)∧z7)∧zQl ⟨AV.one j,k,false⟩))∧(U=(!true)→tU2 (z9∧zQl ⟨AV.one j,k,false⟩))))∧(l.2=(!true)→tU4 (z9∧zQl ⟨AV.one j,k,false⟩))))))∧((n.toList==(⟨#[111,114,100,101,114]⟩:ByteArray).toList)=false→tU2 ((v=true→((v=true→tU2 ((AnsG prog 85 1 R z3 ⟨AV.one (Cl.d (dQ g.2)),S,false⟩)∧True∧y0∧zQl ⟨AV.one j,k,false⟩))∧(v=false→tU5 y2)))∧(v=false→tU2 (((n.toList==(⟨#[105,109,97,103,101]⟩:ByteArray).toList)=true→tU2 ((AnsG prog 85 1 R z3 ⟨AV.one (Cl.d (dQ g.2)),S,false⟩)∧True∧y0∧zQl ⟨AV.one j,k,false⟩))∧((n.toList==(⟨#[105,109,97,103,101]⟩:ByteArray).toList)=false→tU5 y2))))))))))))) ?_
  delta sE rE tU2 tU3 tU4 tU5 tU6 tU8 dJ dK dQ cJ wK dS rJ aPz bC
  simp only [sS]
  simp only [zQM,zQ8,zQU,zQR,zQv,zQL]
  clear hwf
  have hne:=zYA w
  have hsl:=zJF w
  have aW:=zGG w (by omega)
  simp only [zQL] at aW
  have lso:(⟨#[115,111,108,105,100]⟩:ByteArray)=toS zQ2:=rfl
  have lor:(⟨#[111,114,100,101,114]⟩:ByteArray)=toS zZt:=rfl
  have lim:(⟨#[105,109,97,103,101]⟩:ByteArray)=toS zQ3:=rfl
  have aP:=zJC (zQn w) (by omega)
  have pe:∀ q:Px,pxs p.px++[DV.int .u16 q.a,DV.int .u16 q.b,DV.int .u16 q.c,DV.int .u16 q.al,DV.int .u16 q.f]=pxs (p.px++[q]):=fun q=>by simp [pxs,Px.ds]
  have aI:=R13_ImageOf_dat' p.w p.h (p.px++[(pixW (zQn w)).1])
  have pl:(p.px++[(pixW (zQn w)).1]).length=p.px.length+1:=by simp
  have hl1:0 < p.left→IntKind.wrap .i64 (p.left - 1)=p.left - 1:=fun h=>IntWalk.i64_in _ ⟨by omega,by omega⟩
  simp only [zQv,pe,zQR,lso,lor,lim,zXn,decide_eq_true_eq,decide_eq_false_iff_not] at aP ⊢
  refine ⟨aW,fun h1=>⟨aP,⟨zZU _,rfl,by unfold maxLen; omega,by omega⟩,fun h2=>⟨?_,⟨zZO _,Im.ds_len _,by unfold maxLen; omega,by omega⟩,?_⟩,fun h2=>?_⟩,fun h1=>⟨fun h2=>⟨?_,?_⟩,fun h2=>?_⟩⟩
  ·rw [pl] at aI; exact aI
  ·rw [hl1 h1] at h2 ⊢
   have h2:p.left=1:=by simp at h2; omega
   have e:zQS p w=({ p with left:=0,s:={ p.s with ims:=p.s.ims++[imOf p.w p.h (p.px++[(pixW (zQn w)).1])] },px:=[] },(pixW (zQn w)).2):=by unfold zQS; rw [if_pos h1,if_pos h2]
   rw [e,h2]; ((repeat' apply And.intro) <;> first | rfl | trivial | (simp [ims]; done) | (simp [ops]; done) | (simp [pxs]; done))
  ·rw [hl1 h1] at h2 ⊢
   have h2:¬ p.left=1:=by simp at h2; omega
   have e:zQS p w=({ p with left:=p.left - 1,px:=p.px++[(pixW (zQn w)).1] },(pixW (zQn w)).2):=by unfold zQS; rw [if_pos h1,if_neg h2]
   rw [e]; ((repeat' apply And.intro) <;> first | rfl | trivial | (simp [ims]; done) | (simp [ops]; done) | (simp [pxs]; done))
  ·have w1:IntKind.wrap .i64 (p.hd+1)=p.hd+1:=IntWalk.i64_in _ ⟨by omega,by omega⟩
   have aH:=zKB { p with hd:=p.hd+1 } (zQn w) (by omega) hne
   simp only [zQM,zQ8,zQU,zQR,zQv] at aH
   rw [w1]
   exact aH
  ·have w1:IntKind.wrap .i64 (p.hd+1)=p.hd+1:=IntWalk.i64_in _ ⟨by omega,by omega⟩
   have e:zQS p w=zQD { p with hd:=p.hd+1 } (zQn w):=by unfold zQS; rw [if_neg h1,if_pos h2]
   rw [e,w1]; ((repeat' apply And.intro) <;> first | rfl | trivial | (simp [ims]; done) | (simp [ops]; done) | (simp [pxs]; done))
  ·have go:zQS p w=(if wAt (zQn w) 0=zZt then ({ p with part:=1,s:={ p.s with ord:=(u32 ((zQn w).drop 1)).1 } },(u32 ((zQn w).drop 1)).2 && decide (0 < (u32 ((zQn w).drop 1)).1.length) && decide (p.part=0))
    else if wAt (zQn w) 0=zQ2∨wAt (zQn w) 0=zQ3 then zQI p (zQn w)
    else ({ p with part:=2,s:={ p.s with ops:=p.s.ops++[(opR (zQn w)).1] } },(opR (zQn w)).2 && decide (p.s.ops.length < 4096))):=by unfold zQS; rw [if_neg h1,if_neg h2]
   clear aP aI pe pl hl1 aW
   generalize zQn w=ws at *
   match ws,hne with
   | k::r,_=>
   have s0:sAt (strs (k::r)) 0=toS k:=rfl
   have q0:(strs (k::r))[0]?=some (DV.str (toS k)):=rfl
   have w0:wAt (k::r) 0=k:=rfl
   have dr:List.take (r.length*1) (List.drop (Int.toNat 1*1) (strs (k::r)))=strs r:=zU2 1 _ rfl rfl
   have drn:((((k::r).length:Nat):Int) - 1).toNat=r.length:=by simp
   have d1:(k::r).drop 1=r:=rfl
   have aU:=zYs r (by simp at hsl; omega)
   have f32:zZr r 0 4294967295=u32 r:=rfl
   rw [w0,d1] at go
   simp only [s0,q0,dr,drn,zQv,f32,zXn,decide_eq_true_eq,decide_eq_false_iff_not] at aU ⊢
   have aM:=zJ1 p (k::r) (by simp at hsl ⊢; omega) (by omega)
   have aO:=zHL (k::r) (by simp at hsl ⊢; omega)
   simp only [zQM,zQ8,zQU,zQR,zQv] at aM aO
   have oe:ops p.s.ops++(opR (k::r)).1.cells=ops (p.s.ops++[(opR (k::r)).1]):=by simp [ops]
   refine ⟨⟨by omega,by simp <;> omega,by simp [zQ5]⟩,trivial,fun h3=>⟨⟨by omega,by simp <;> omega,by omega⟩,aU,fun h4=>⟨fun h5=>?_,fun h5=>?_⟩,fun h4=>?_⟩,fun h3=>⟨fun h4=>⟨fun h5=>⟨aM,?_⟩,fun h5=>absurd h4 h5⟩,fun h4=>⟨fun h5=>⟨aM,?_⟩,fun h5=>⟨aO,⟨zZp _,rfl,by unfold maxLen; omega,by omega⟩,fun h6=>⟨by unfold maxLen; omega,?_⟩,fun h6=>?_⟩⟩⟩⟩
   ·have b1:(p.part==0)=((u32 r).2 && decide (0 < (u32 r).1.length) && decide (p.part=0)):=by rw [h4,decide_eq_true (by omega:0 < (u32 r).1.length),Bool.true_and,Bool.true_and,Bool.eq_iff_iff]; simp only [beq_iff_eq,decide_eq_true_eq]
    rw [go,if_pos h3,b1]; ((repeat' apply And.intro) <;> first | rfl | trivial)
   ·have b1:false=((u32 r).2 && decide (0 < (u32 r).1.length) && decide (p.part=0)):=by rw [decide_eq_false (by omega:¬0 < (u32 r).1.length)]; simp
    rw [go,if_pos h3]; rw [← b1]; ((repeat' apply And.intro) <;> first | rfl | trivial)
   ·have b1:false=((u32 r).2 && decide (0 < (u32 r).1.length) && decide (p.part=0)):=by rw [h4]; rfl
    rw [go,if_pos h3]; rw [← b1]; ((repeat' apply And.intro) <;> first | rfl | trivial)
   ·rw [go,if_neg h3,if_pos (.inl h4)]; ((repeat' apply And.intro) <;> first | rfl | trivial)
   ·rw [go,if_neg h3,if_pos (.inr h5)]; ((repeat' apply And.intro) <;> first | rfl | trivial)
   ·rw [go,if_neg h3,if_neg (fun h=>h.elim h4 h5),oe]
    have b1:decide ((((p.s.ops.length+1:Nat):Int))≤4096)=((opR (k::r)).2 && decide (p.s.ops.length < 4096)):=by rw [h6,Bool.true_and,Bool.eq_iff_iff]; simp only [decide_eq_true_eq]; omega
    rw [b1]; generalize ((opR (k::r)).2 && decide (p.s.ops.length < 4096))=bb; clear b1 go; (repeat' apply And.intro) <;> first | trivial | (simp only [List.length_append,List.length_cons,List.length_nil]; done) | rfl
   ·rw [go,if_neg h3,if_neg (fun h=>h.elim h4 h5),oe]
    have b1:false=((opR (k::r)).2 && decide (p.s.ops.length < 4096)):=by rw [h6,Bool.false_and]
    rw [← b1]; ((repeat' apply And.intro) <;> first | rfl | trivial | (simp [ims]; done) | (simp [ops]; done) | (simp [pxs]; done))
def zScr:Scr:=⟨0,⟨0,0,0,0⟩,0,0,[],[],[]⟩
def zRP:RP:=⟨zScr,0,0,0,0,0,[]⟩
def rGo (p:RP) (n:Int) (acc:Lb):Lb→Scr × Int × Int
 | []=>if acc≠[]∨p.hd < 3∨0 < p.left then (zScr,n+1,19) else if zZR p.s=true then (p.s,0,0) else (zScr,0,19)
 | c::r=>if c=10 then (if (zQS p acc).2=true then rGo (zQS p acc).1 (n+1) [] r else (zScr,n+1,19)) else rGo p n (acc++[c]) r
def zZo (t:Lb):Scr × Int × Int:=rGo zRP 0 [] t
structure RP.ok (p:RP) (k:Nat):Prop where
  im:p.s.ims.length≤k
  op:p.s.ops.length≤k
  px:p.px.length≤k
  l0:0≤p.left
  l1:p.left≤16777216
  h0:0≤p.hd
theorem jVB {ws:List Lb} (h:(nz ws).2=true):∀ n∈(nz ws).1,1≤n∧n≤16777216:=by
 intro n hn
 unfold nz at h hn
 by_cases ha:((ws.drop 1).take 2).all (okN 1 16777216)=true
 ·rw [zZn ha] at hn
  obtain ⟨w,hw,rfl⟩:=List.mem_map.1 hn
  exact zJ8 (List.all_eq_true.1 ha w hw)
 ·rw [zZB (by simpa using ha)] at h
  exact absurd h (by decide)
theorem jYO {p:RP} {k:Nat} (h:p.ok k) (ws:List Lb):(zQD p ws).1.ok k:=by
 obtain ⟨a,b,c,d,e,f⟩:=h
 unfold zQD
 (repeat' split) <;> exact ⟨a,b,c,d,e,f⟩
theorem jXz {p:RP} {k:Nat} (h:p.ok k) (ws:List Lb):(zQI p ws).1.ok (k+1):=by
 obtain ⟨a,b,c,d,e,f⟩:=h
 unfold zQI
 split
 ·exact ⟨by show p.s.ims.length≤k+1; omega,by show p.s.ops.length≤k+1; omega,by show p.px.length≤k+1; omega,d,e,f⟩
 ·rename_i g1
  split
  ·exact ⟨by show p.s.ims.length≤k+1; omega,by show p.s.ops.length≤k+1; omega,by show p.px.length≤k+1; omega,d,e,f⟩
  ·rename_i g2
   split
   ·exact ⟨by simp; omega,by show p.s.ops.length≤k+1; omega,by show p.px.length≤k+1; omega,d,e,f⟩
   ·have g3:(nz ws).2=true:=by
     cases e:(nz ws).2 with
     | true=>rfl
     | false=>exact absurd (.inl e) g2
    have hin:=jVB g3
    have hlen:(nz ws).1.length=2:=by
     have:((ws.drop 1).take 2).length=2:=by rw [List.length_take,List.length_drop]; omega
     unfold nz at g3 ⊢
     by_cases ha:((ws.drop 1).take 2).all (okN 1 16777216)=true
     ·rw [zZn ha,List.length_map,this]
     ·rw [zZB (by simpa using ha)] at g3; exact absurd g3 (by decide)
    have g4:¬ 16777216 / iAt (nz ws).1 0 < iAt (nz ws).1 1:=fun h=>g2 (.inr h)
    generalize (nz ws).1=l at *
    match l,hlen with
    | [A,B],_=>
    have hA:=hin A (by simp)
    have hB:=hin B (by simp)
    have i0:iAt [A,B] 0=A:=rfl
    have i1:iAt [A,B] 1=B:=rfl
    rw [i0,i1] at g4 ⊢
    have hm:A*B≤16777216:=by
     have h7:=Int.mul_le_mul_of_nonneg_left (by omega:B≤16777216 / A) (by omega:0≤A)
     have h8:=Int.mul_ediv_self_le (x:=16777216) (k:=A) (by omega)
     omega
    exact ⟨by show p.s.ims.length≤k+1; omega,by show p.s.ops.length≤k+1; omega,by show p.px.length≤k+1; omega,Int.mul_nonneg (by omega) (by omega),hm,f⟩
theorem RP.ok.mono {p:RP} {k:Nat} (h:p.ok k):p.ok (k+1):=by
 obtain ⟨a,b,c,d,e,f⟩:=h
 exact ⟨by omega,by omega,by omega,d,e,f⟩
theorem jYN {p:RP} {k:Nat} (h:p.ok k) (w:Lb):(zQS p w).1.ok (k+1):=by
 have ⟨a,b,c,d,e,f⟩:=h
 unfold zQS
 split
 ·split
  ·exact ⟨by simp; omega,by show p.s.ops.length≤k+1; omega,by simp,by simp,by simp,f⟩
  ·exact ⟨by show p.s.ims.length≤k+1; omega,by show p.s.ops.length≤k+1; omega,by simp; omega,by simp; omega,by simp; omega,f⟩
 ·split
  ·exact (jYO (p:={ p with hd:=p.hd+1 }) ⟨a,b,c,d,e,by show 0≤p.hd+1; omega⟩ _).mono
  ·split
   ·exact ⟨by show p.s.ims.length≤k+1; omega,by show p.s.ops.length≤k+1; omega,by show p.px.length≤k+1; omega,d,e,f⟩
   ·split
    ·exact jXz h _
    ·exact ⟨by show p.s.ims.length≤k+1; omega,by simp; omega,by show p.px.length≤k+1; omega,d,e,f⟩
structure Rz where
  i:Nat
  fr:Nat
  n:Nat
  p:RP
def Rz.acc (z:Rz) (t:Lb):Lb:=(t.drop z.fr).take (z.i - z.fr)
def rI (t:Lb) (z:Rz):Prop:=z.fr≤z.i∧z.i≤t.length∧z.n≤z.i∧z.p.ok z.n∧rGo z.p z.n (z.acc t) (t.drop z.i)=zZo t
theorem Scr.eta_ (s:Scr):(⟨s.bits,s.c,s.tw,s.th,s.ord,s.ims,s.ops⟩:Scr)=s:=rfl
theorem RP.eta_ (p:RP):(⟨p.s,p.hd,p.part,p.left,p.w,p.h,p.px⟩:RP)=p:=rfl
theorem Rz.step {t:Lb} {z:Rz} (h:z.i < t.length):t.drop z.i=(t[z.i]?).getD 0::t.drop (z.i+1):=by
 rw [List.drop_eq_getElem_cons h,List.getElem?_eq_getElem h]; rfl
theorem Rz.acc_step {t:Lb} {z:Rz} (h:z.i < t.length) (hf:z.fr≤z.i):({ z with i:=z.i+1 }:Rz).acc t=z.acc t++[(t[z.i]?).getD 0]:=by
 unfold Rz.acc
 have e:z.i+1 - z.fr=(z.i - z.fr)+1:=by omega
 show (t.drop z.fr).take (z.i+1 - z.fr)=_
 rw [e,List.take_add_one,List.getElem?_drop,show z.fr+(z.i - z.fr)=z.i by omega,List.getElem?_eq_getElem h]
 rfl
theorem jKk {t:Lb} {z:Rz} (h:rI t z) (hlt:z.i < t.length) (hc:(t[z.i]?).getD 0≠10):rI t { z with i:=z.i+1 }:=by
 obtain ⟨h1,h2,h3,h4,h5⟩:=h
 refine ⟨by show z.fr≤z.i+1; omega,by show z.i+1≤t.length; omega,by show z.n≤z.i+1; omega,h4,?_⟩
 rw [Rz.acc_step hlt h1,← h5,Rz.step hlt]
 conv=>rhs; rw [rGo,if_neg hc]
theorem jKl {t:Lb} {z:Rz} (h:rI t z) (hlt:z.i < t.length) (hc:(t[z.i]?).getD 0=10) (hg:(zQS z.p (z.acc t)).2=true):rI t ⟨z.i+1,z.i+1,z.n+1,(zQS z.p (z.acc t)).1⟩:=by
 obtain ⟨h1,h2,h3,h4,h5⟩:=h
 refine ⟨Nat.le_refl _,by show z.i+1≤t.length; omega,by show z.n+1≤z.i+1; omega,jYN h4 _,?_⟩
 rw [← h5,Rz.step hlt]
 conv=>rhs; rw [rGo,if_pos hc,if_pos hg]
 have e:(⟨z.i+1,z.i+1,z.n+1,(zQS z.p (z.acc t)).1⟩:Rz).acc t=[]:=by unfold Rz.acc; simp
 rw [e]
 rfl
theorem jK9 {t:Lb} {z:Rz} (h:rI t z) (hlt:z.i < t.length) (hc:(t[z.i]?).getD 0=10) (hg:(zQS z.p (z.acc t)).2=false):zZo t=(zScr,(z.n:Int)+1,19):=by
 obtain ⟨h1,h2,h3,h4,h5⟩:=h
 rw [← h5,Rz.step hlt,rGo,if_pos hc,if_neg (by rw [hg]; decide)]
theorem zHb {t:Lb} {z:Rz} (h:rI t z) (hge:¬z.i < t.length):zZo t=if z.fr < t.length∨z.p.hd < 3∨0 < z.p.left then (zScr,(z.n:Int)+1,19) else if zZR z.p.s=true then (z.p.s,0,0) else (zScr,0,19):=by
 obtain ⟨h1,h2,h3,h4,h5⟩:=h
 rw [← h5,List.drop_eq_nil_of_le (by omega),rGo]
 have e:z.acc t≠[]↔z.fr < t.length:=by
  unfold Rz.acc
  rw [List.take_of_length_le (by rw [List.length_drop]; omega)]
  simp
 by_cases c:z.fr < t.length∨z.p.hd < 3∨0 < z.p.left
 ·rw [if_pos c,if_pos (c.imp_left e.2)]
 ·rw [if_neg c,if_neg (fun h=>c (h.imp_left e.1))]
def gZ19 (xs:List RV):Option RV:=match xs with | [.agg [.int _ bits,.int _ cx0,.int _ cy0,.int _ cx1,.int _ cy1,.int _ tw,.int _ th,.sl on oxs,.sl mn mxs,.sl pn pxs]]=>some (RV.d (dQ (zZR (⟨bits,⟨cx0,cy0,cx1,cy1⟩,tw,th,ints oxs,zQN mxs,zQG pxs⟩:Scr)))) | _=>none
def jVD:Gam where
 pure:=fun f xs=>
  if f=44 then gZ19 xs else
  none
 modes:=fun f=>
  if f=43 then some ([false,true],1,3) else
  none
 proc:=fun f xs bs=>
  if f=43 then (match xs,bs with | [AV.one (Cl.ptr 0 0),AV.one (Cl.d (DV.str t))],[Bx.cells [Cl.d (DV.int _ bits),Cl.d (DV.int _ cx0),Cl.d (DV.int _ cy0),Cl.d (DV.int _ cx1),Cl.d (DV.int _ cy1),Cl.d (DV.int _ tw),Cl.d (DV.int _ th),Cl.d (DV.sl on axs),Cl.ref 1 mn,Cl.ref 2 qn,Cl.d (DV.int _ hd),Cl.d (DV.int _ part),Cl.d (DV.int _ left),Cl.d (DV.int _ w),Cl.d (DV.int _ h),Cl.ref 3 ln],Bx.row _ _ mxs,Bx.row _ _ qxs,Bx.row _ _ lxs]=>some ⟨AV.one (Cl.d (dQ (zQS (⟨⟨bits,⟨cx0,cy0,cx1,cy1⟩,tw,th,ints axs,zQN mxs,zQG qxs⟩,hd,part,left,w,h,zQc lxs⟩:RP) (ofS t)).2)),[bC [cJ (zQS (⟨⟨bits,⟨cx0,cy0,cx1,cy1⟩,tw,th,ints axs,zQN mxs,zQG qxs⟩,hd,part,left,w,h,zQc lxs⟩:RP) (ofS t)).1.s.bits,cJ (zQS (⟨⟨bits,⟨cx0,cy0,cx1,cy1⟩,tw,th,ints axs,zQN mxs,zQG qxs⟩,hd,part,left,w,h,zQc lxs⟩:RP) (ofS t)).1.s.c.a,cJ (zQS (⟨⟨bits,⟨cx0,cy0,cx1,cy1⟩,tw,th,ints axs,zQN mxs,zQG qxs⟩,hd,part,left,w,h,zQc lxs⟩:RP) (ofS t)).1.s.c.b,cJ (zQS (⟨⟨bits,⟨cx0,cy0,cx1,cy1⟩,tw,th,ints axs,zQN mxs,zQG qxs⟩,hd,part,left,w,h,zQc lxs⟩:RP) (ofS t)).1.s.c.c,cJ (zQS (⟨⟨bits,⟨cx0,cy0,cx1,cy1⟩,tw,th,ints axs,zQN mxs,zQG qxs⟩,hd,part,left,w,h,zQc lxs⟩:RP) (ofS t)).1.s.c.d,cJ (zQS (⟨⟨bits,⟨cx0,cy0,cx1,cy1⟩,tw,th,ints axs,zQN mxs,zQG qxs⟩,hd,part,left,w,h,zQc lxs⟩:RP) (ofS t)).1.s.tw,cJ (zQS (⟨⟨bits,⟨cx0,cy0,cx1,cy1⟩,tw,th,ints axs,zQN mxs,zQG qxs⟩,hd,part,left,w,h,zQc lxs⟩:RP) (ofS t)).1.s.th,Cl.d (dS (zQS (⟨⟨bits,⟨cx0,cy0,cx1,cy1⟩,tw,th,ints axs,zQN mxs,zQG qxs⟩,hd,part,left,w,h,zQc lxs⟩:RP) (ofS t)).1.s.ord.length (is (zQS (⟨⟨bits,⟨cx0,cy0,cx1,cy1⟩,tw,th,ints axs,zQN mxs,zQG qxs⟩,hd,part,left,w,h,zQc lxs⟩:RP) (ofS t)).1.s.ord)),Cl.ref 1 (zQS (⟨⟨bits,⟨cx0,cy0,cx1,cy1⟩,tw,th,ints axs,zQN mxs,zQG qxs⟩,hd,part,left,w,h,zQc lxs⟩:RP) (ofS t)).1.s.ims.length,Cl.ref 2 (zQS (⟨⟨bits,⟨cx0,cy0,cx1,cy1⟩,tw,th,ints axs,zQN mxs,zQG qxs⟩,hd,part,left,w,h,zQc lxs⟩:RP) (ofS t)).1.s.ops.length,cJ (zQS (⟨⟨bits,⟨cx0,cy0,cx1,cy1⟩,tw,th,ints axs,zQN mxs,zQG qxs⟩,hd,part,left,w,h,zQc lxs⟩:RP) (ofS t)).1.hd,cJ (zQS (⟨⟨bits,⟨cx0,cy0,cx1,cy1⟩,tw,th,ints axs,zQN mxs,zQG qxs⟩,hd,part,left,w,h,zQc lxs⟩:RP) (ofS t)).1.part,cJ (zQS (⟨⟨bits,⟨cx0,cy0,cx1,cy1⟩,tw,th,ints axs,zQN mxs,zQG qxs⟩,hd,part,left,w,h,zQc lxs⟩:RP) (ofS t)).1.left,cJ (zQS (⟨⟨bits,⟨cx0,cy0,cx1,cy1⟩,tw,th,ints axs,zQN mxs,zQG qxs⟩,hd,part,left,w,h,zQc lxs⟩:RP) (ofS t)).1.w,cJ (zQS (⟨⟨bits,⟨cx0,cy0,cx1,cy1⟩,tw,th,ints axs,zQN mxs,zQG qxs⟩,hd,part,left,w,h,zQc lxs⟩:RP) (ofS t)).1.h,Cl.ref 3 (zQS (⟨⟨bits,⟨cx0,cy0,cx1,cy1⟩,tw,th,ints axs,zQN mxs,zQG qxs⟩,hd,part,left,w,h,zQc lxs⟩:RP) (ofS t)).1.px.length],Bx.row 43 28 (ims (zQS (⟨⟨bits,⟨cx0,cy0,cx1,cy1⟩,tw,th,ints axs,zQN mxs,zQG qxs⟩,hd,part,left,w,h,zQc lxs⟩:RP) (ofS t)).1.s.ims),Bx.row 51 12 (ops (zQS (⟨⟨bits,⟨cx0,cy0,cx1,cy1⟩,tw,th,ints axs,zQN mxs,zQG qxs⟩,hd,part,left,w,h,zQc lxs⟩:RP) (ofS t)).1.s.ops),Bx.row 37 5 (pxs (zQS (⟨⟨bits,⟨cx0,cy0,cx1,cy1⟩,tw,th,ints axs,zQN mxs,zQG qxs⟩,hd,part,left,w,h,zQc lxs⟩:RP) (ofS t)).1.px)],false⟩ | _,_=>none) else
  none
 iter:=fun f cs=>
  none
theorem zGH (w:Lb) (hw:w.length≤68719476700):Ans prog 17 [RV.d (DV.str (toS w))] (RV.tup [RV.agg [dJ ((zZo (ofS (toS w))).1.bits),dJ ((zZo (ofS (toS w))).1.c.a),dJ ((zZo (ofS (toS w))).1.c.b),dJ ((zZo (ofS (toS w))).1.c.c),dJ ((zZo (ofS (toS w))).1.c.d),dJ ((zZo (ofS (toS w))).1.tw),dJ ((zZo (ofS (toS w))).1.th),dS ((zZo (ofS (toS w))).1.ord.length) (is (zZo (ofS (toS w))).1.ord),dS ((zZo (ofS (toS w))).1.ims.length) (ims (zZo (ofS (toS w))).1.ims),dS ((zZo (ofS (toS w))).1.ops.length) (ops (zZo (ofS (toS w))).1.ops)],rJ (((zZo (ofS (toS w))).2.1)),rJ (((zZo (ofS (toS w))).2.2))]):=
 zQm (Γ:=jVD) (Ann.seq Ann.leaf (Ann.seq Ann.leaf (Ann.seq Ann.leaf (Ann.seq (Ann.seq Ann.leaf (Ann.loop ⟨Rz,fun z:Rz=>rI w z,fun z:Rz=>⟨[(0,AV.one (Cl.d (DV.str (toS w)))),(2,AV.one (Cl.ptr 2 0)),(5,AV.one (Cl.ptr 10 0)),(6,aJ (z.fr:Int)),(7,aJ (z.n:Int)),(8,aJ (z.i:Int))],[(2,bC [cJ 0,cJ 0,cJ 0,cJ 0,cJ 0,cJ 0,cJ 0,Cl.nil,Cl.nil,Cl.nil]),(10,bC [cJ z.p.s.bits,cJ z.p.s.c.a,cJ z.p.s.c.b,cJ z.p.s.c.c,cJ z.p.s.c.d,cJ z.p.s.tw,cJ z.p.s.th,Cl.d (dS z.p.s.ord.length (is z.p.s.ord)),Cl.ref 9001 z.p.s.ims.length,Cl.ref 9002 z.p.s.ops.length,cJ z.p.hd,cJ z.p.part,cJ z.p.left,cJ z.p.w,cJ z.p.h,Cl.ref 9003 z.p.px.length]),(9001,Bx.row 43 28 (ims z.p.s.ims)),(9002,Bx.row 51 12 (ops z.p.s.ops)),(9003,Bx.row 37 5 (pxs z.p.px))]⟩,fun z:Rz=>w.length - z.i⟩ fun z=>Ann.leaf)) Ann.leaf)))) zQB Tryz.func17 rfl (Nat.le_of_ble_eq_true rfl) fun hwf=>by
  refine Eq.mpr (by kernel_rfl:_=(let d:=(((toS w).size:Nat):Int); let b:=(zZo (ofS (toS w))); let f:=(DV.str (toS w)=DV.str (toS w)); let c:=(dJ 0=dJ 0); let g:=(c∧c∧c∧c∧c∧c∧c∧tU3 True); let j:=fun (z:Rz)=>fun (z':Rz)=>(w.length - z'.i < w.length - z.i); let k:=fun (z:Rz)=>fun (z':Rz)=>(dJ (wK ((z.i:Int)+1))=dJ (z'.i:Int)); let l:=[dJ 0,dJ 0,dJ 0,dJ 0,dJ 0,dJ 0,dJ 0,dS 0 ([]),dS 0 ([]),dS 0 ([])]; let r:=fun (z:Rz)=>[RV.agg l,rJ (wK ((z.n:Int)+1)),rJ 19]; let h:=[RV.agg [dJ b.1.bits,dJ b.1.c.a,dJ b.1.c.b,dJ b.1.c.c,dJ b.1.c.d,dJ b.1.tw,dJ b.1.th,dS b.1.ord.length (is b.1.ord),dS b.1.ims.length (ims b.1.ims),dS b.1.ops.length (ops b.1.ops)],rJ b.2.1,rJ b.2.2]; let m:=fun (z:Rz)=>[dJ z.p.s.bits,dJ z.p.s.c.a,dJ z.p.s.c.b,dJ z.p.s.c.c,dJ z.p.s.c.d,dJ z.p.s.tw,dJ z.p.s.th,dS z.p.s.ord.length (is z.p.s.ord),dS z.p.s.ims.length (ims z.p.s.ims),dS z.p.s.ops.length (ops z.p.s.ops)]; True∧tU8 ((∃ z:Rz,(rI w z)∧((f∧(0=0)∧(0=0)∧(dJ 0=dJ (z.fr:Int))∧(dJ 0=dJ (z.n:Int))∧(dJ 0=dJ (z.i:Int))∧True)∧(g∧((dJ 0=dJ z.p.s.bits)∧(dJ 0=dJ z.p.s.c.a)∧(dJ 0=dJ z.p.s.c.b)∧(dJ 0=dJ z.p.s.c.c)∧(dJ 0=dJ z.p.s.c.d)∧(dJ 0=dJ z.p.s.tw)∧(dJ 0=dJ z.p.s.th)∧(dS 0 []=dS z.p.s.ord.length (is z.p.s.ord))∧(0=z.p.s.ims.length)∧(0=z.p.s.ops.length)∧(dJ 0=dJ z.p.hd)∧(dJ 0=dJ z.p.part)∧(dJ 0=dJ z.p.left)∧(dJ 0=dJ z.p.w)∧(dJ 0=dJ z.p.h)∧(0=z.p.px.length)∧True)∧([]=ims z.p.s.ims)∧([]=ops z.p.s.ops)∧([]=pxs z.p.px)∧True)))∧∀ z:Rz,let i:=((sE z.p.s):Scr); let n:=(decide ((z.i:Int) < d)); let o:=(decide ((z.fr:Int) < d)); let p:=(ByteArray.extract (toS w) (z.fr:Int).toNat (z.i:Int).toNat); let q:=(((((toS w).data.toList[(z.i:Int).toNat]?.getD 0).toNat:Nat):Int) != 10); let e:=(RV.tup (r z)=RV.tup h); let a:=(zQS (rE z.p) (ofS p)); (rI w z)→tU4 ((n=true→tU2 ((0≤(z.i:Int)∧(z.i:Int) < d)∧True∧((q=true→tU3 (∃ z':Rz,(rI w z')∧(j z z')∧((f∧(0=0)∧(0=0)∧(dJ (z.fr:Int)=dJ (z'.fr:Int))∧(dJ (z.n:Int)=dJ (z'.n:Int))∧(k z z')∧True)∧(g∧((dJ z.p.s.bits=dJ z'.p.s.bits)∧(dJ z.p.s.c.a=dJ z'.p.s.c.a)∧(dJ z.p.s.c.b=dJ z'.p.s.c.b)∧(dJ z.p.s.c.c=dJ z'.p.s.c.c)∧(dJ z.p.s.c.d=dJ z'.p.s.c.d)∧(dJ z.p.s.tw=dJ z'.p.s.tw)∧(dJ z.p.s.th=dJ z'.p.s.th)∧(dS z.p.s.ord.length (is z.p.s.ord)=dS z'.p.s.ord.length (is z'.p.s.ord))∧(z.p.s.ims.length=z'.p.s.ims.length)∧(z.p.s.ops.length=z'.p.s.ops.length)∧(dJ z.p.hd=dJ z'.p.hd)∧(dJ z.p.part=dJ z'.p.part)∧(dJ z.p.left=dJ z'.p.left)∧(dJ z.p.w=dJ z'.p.w)∧(dJ z.p.h=dJ z'.p.h)∧(z.p.px.length=z'.p.px.length)∧True)∧(ims z.p.s.ims=ims z'.p.s.ims)∧(ops z.p.s.ops=ops z'.p.s.ops)∧(pxs z.p.px=pxs z'.p.px)∧True))))∧(q=false→tU7 ((0≤(z.fr:Int)∧(z.fr:Int)≤(z.i:Int)∧(z.i:Int)≤d)∧(AnsG prog 43 1 [aPz,AV.one (Cl.d (DV.str p))] [bC [cJ z.p.s.bits,cJ z.p.s.c.a,cJ z.p.s.c.b,cJ z.p.s.c.c,cJ z.p.s.c.d,cJ z.p.s.tw,cJ z.p.s.th,Cl.d (dS z.p.s.ord.length (is z.p.s.ord)),Cl.ref 1 z.p.s.ims.length,Cl.ref 2 z.p.s.ops.length,cJ z.p.hd,cJ z.p.part,cJ z.p.left,cJ z.p.w,cJ z.p.h,Cl.ref 3 z.p.px.length],Bx.row 43 28 (ims z.p.s.ims),Bx.row 51 12 (ops z.p.s.ops),Bx.row 37 5 (pxs z.p.px)] ⟨AV.one (Cl.d (dQ a.2)),[bC [cJ a.1.s.bits,cJ a.1.s.c.a,cJ a.1.s.c.b,cJ a.1.s.c.c,cJ a.1.s.c.d,cJ a.1.s.tw,cJ a.1.s.th,Cl.d (dS a.1.s.ord.length (is a.1.s.ord)),Cl.ref 1 a.1.s.ims.length,Cl.ref 2 a.1.s.ops.length,cJ a.1.hd,cJ a.1.part,cJ a.1.left,cJ a.1.w,cJ a.1.h,Cl.ref 3 a.1.px.length],Bx.row 43 28 (ims a.1.s.ims),Bx.row 51 12 (ops a.1.s.ops),Bx.row 37 5 (pxs a.1.px)],false⟩)∧True∧(((!a.2)=true→tU5 e)∧((!a.2)=false→tU6 (∃ z':Rz,(rI w z')∧(j z z')∧((f∧(0=0)∧(0=0)∧(dJ (wK ((z.i:Int)+1))=dJ (z'.fr:Int))∧(dJ (wK ((z.n:Int)+1))=dJ (z'.n:Int))∧(k z z')∧True)∧(g∧((dJ a.1.s.bits=dJ z'.p.s.bits)∧(dJ a.1.s.c.a=dJ z'.p.s.c.a)∧(dJ a.1.s.c.b=dJ z'.p.s.c.b)∧(dJ a.1.s.c.c=dJ z'.p.s.c.c)∧(dJ a.1.s.c.d=dJ z'.p.s.c.d)∧(dJ a.1.s.tw=dJ z'.p.s.tw)∧(dJ a.1.s.th=dJ z'.p.s.th)∧(dS a.1.s.ord.length (is a.1.s.ord)=dS z'.p.s.ord.length (is z'.p.s.ord))∧(a.1.s.ims.length=z'.p.s.ims.length)∧(a.1.s.ops.length=z'.p.s.ops.length)∧(dJ a.1.hd=dJ z'.p.hd)∧(dJ a.1.part=dJ z'.p.part)∧(dJ a.1.left=dJ z'.p.left)∧(dJ a.1.w=dJ z'.p.w)∧(dJ a.1.h=dJ z'.p.h)∧(a.1.px.length=z'.p.px.length)∧True)∧(ims a.1.s.ims=ims z'.p.s.ims)∧(ops a.1.s.ops=ops z'.p.s.ops)∧(pxs a.1.px=pxs z'.p.px)∧True))))))))))∧(n=false→tU5 ((o=false→tU7 (((decide (z.p.hd < 3))=false→tU6 (((decide (z.p.left > 0))=true→tU6 e)∧((decide (z.p.left > 0))=false→tU4 ((Ans prog 44 [RV.agg (m z)] (RV.d (dQ (zZR i))))∧True∧(((!(zZR i))=true→tU4 (RV.tup [RV.agg l,rJ 0,rJ 19]=RV.tup h))∧((!(zZR i))=false→tU7 (RV.tup [RV.agg (m z),rJ 0,rJ 0]=RV.tup h)))))))∧((decide (z.p.hd < 3))=(!false)→tU7 e)))∧(o=(!false)→True∧tU8 e))))))) ?_
  delta sE rE tU2 tU3 tU4 tU5 tU6 tU7 tU8 dJ dQ cJ wK dS rJ aPz bC
  simp only [sS]
  simp only [zQM,zQ8,zQU,zQR,zQv,zQL]
  have hM:∀ k:Nat,k≤1099511627776→k≤maxLen:=fun k h=>by unfold maxLen; omega
  clear hwf
  simp only [Scr.eta_,RP.eta_,zQY,zYq]
  refine ⟨⟨⟨0,0,0,zRP⟩,⟨Nat.le_refl _,Nat.zero_le _,Nat.le_refl _,⟨Nat.le_refl _,Nat.le_refl _,Nat.le_refl _,by decide,by decide,by decide⟩,rfl⟩,⟨rfl,rfl,rfl⟩,(by (repeat' apply And.intro) <;> first | rfl | trivial)⟩,fun z hz=>?_⟩
  have hz':=hz
  obtain ⟨h1,h2,h3,h4,h5⟩:=hz'
  obtain ⟨k1,k2,k3,k4,k5,k6⟩:=h4
  have hx:(toS w).extract z.fr z.i=toS (z.acc w):=zGx w z.fr z.i
  have hal:(z.acc w).length≤w.length:=by unfold Rz.acc; rw [List.length_take,List.length_drop]; omega
  have aL:=zKA z.p (z.acc w) (by omega) (by omega) (by omega) (by omega) k5 k6
  have aE:=zVq z.p.s
  have wi:IntKind.wrap .i64 ((z.i:Int)+1)=((z.i+1:Nat):Int):=by rw [IntWalk.i64_in _ ⟨by omega,by omega⟩]; omega
  have wn:IntKind.wrap .i64 ((z.n:Int)+1)=((z.n+1:Nat):Int):=by rw [IntWalk.i64_in _ ⟨by omega,by omega⟩]; omega
  have wn':((z.n+1:Nat):Int)=(z.n:Int)+1:=by omega
  simp only [zQM,zQ8,zQU,zQR,zQL,Scr.eta_,RP.eta_] at aL aE
  rw [hx,wi,wn]
  simp only [zQL]
  have hc:∀ c:UInt8,(((c.toNat:Int) != 10)=true→c≠10)∧(((c.toNat:Int) != 10)=false→c=10):=fun c=>⟨fun h e=>by subst e; exact absurd h (by decide),fun h=>by
   have h:c.toNat=10:=by simp at h; omega
   exact UInt8.toNat_inj.1 h⟩
  refine ⟨fun g1=>⟨⟨by omega,g1⟩,fun g2=>?_,fun g2=>⟨⟨by omega,by omega,by omega⟩,aL,fun g3=>?_,fun g3=>?_⟩⟩,fun g1=>⟨fun g2=>⟨fun g3=>⟨fun g4=>?_,fun g4=>⟨aE,fun g5=>?_,fun g5=>?_⟩⟩,fun g3=>?_⟩,fun g2=>?_⟩⟩
  ·exact ⟨_,jKk hz (by omega) ((hc _).1 g2),by show w.length - (z.i+1) < _; omega,⟨rfl,rfl,rfl⟩,(by (repeat' apply And.intro) <;> first | rfl | trivial)⟩
  ·rw [jK9 hz (by omega) ((hc _).2 g2) g3,wn']; exact (by (repeat' apply And.intro) <;> first | rfl | trivial)
  ·exact ⟨_,jKl hz (by omega) ((hc _).2 g2) g3,by show w.length - (z.i+1) < _; omega,⟨rfl,rfl,rfl⟩,(by (repeat' apply And.intro) <;> first | rfl | trivial)⟩
  ·rw [zHb hz (by omega),if_pos (.inr (.inr g4)),wn']; exact (by (repeat' apply And.intro) <;> first | rfl | trivial)
  ·rw [zHb hz (by omega),if_neg (by omega),if_neg (by rw [g5]; decide)]; exact (by (repeat' apply And.intro) <;> first | rfl | trivial)
  ·rw [zHb hz (by omega),if_neg (by omega),if_pos g5]; exact (by (repeat' apply And.intro) <;> first | rfl | trivial)
  ·rw [zHb hz (by omega),if_pos (.inr (.inl g3)),wn']; exact (by (repeat' apply And.intro) <;> first | rfl | trivial)
  ·rw [zHb hz (by omega),if_pos (.inl (by omega)),wn']; exact (by (repeat' apply And.intro) <;> first | rfl | trivial)
end
section
attribute [local irreducible] Ans AnsO AnsG AnsN AnsI
theorem sizeIm_le' {m:Im} (h:m.formed=true):m.w*m.h≤16777216:=by
 have h1:zQZ m.w m.h=true:=by unfold Im.formed at h; exact (Bool.and_eq_true_iff.1 h).1
 simp only [zQZ,Bool.and_eq_true,decide_eq_true_eq] at h1
 omega
structure Enc (s:Scr):Prop where
  fm:s.ims.all Im.formed=true
  sz:zXr s s.ims≤67108864
  bits:0≤s.bits∧s.bits≤255
  il:s.ims.length≤64
  ol:s.ops.length≤4096
end
section
attribute [local irreducible] Ans AnsO AnsG AnsN AnsI
open Go.Lib
def prtO (o:Oq):Bool:=
 if o.kind=1 then !o.iso && !o.kno && decide (1≤o.oper∧o.oper < 13) && decide (1≤o.mode∧o.mode < 13)
 else if o.kind=2 then decide (o.image=0) && decide (o.x=0) && decide (o.y=0) && decide (1≤o.oper∧o.oper < 13) && decide (1≤o.mode∧o.mode < 13)
 else if o.kind=3 then decide (o=popO) else false
def zVi (s:Scr):Bool:=zZR s && s.ops.all prtO
def smpP (p:Px):List Int:=[p.a,p.b,p.c,p.al,p.f]
def bitN (b:Bool):Int:=if b then 1 else 0
def zJ7 (o:Oq):Lb:=[32]++ofS (zQo o.oper)++[32]++ofS (zQg o.mode)
def opTx (o:Oq):Lb:=
 if o.kind=1 then zZa zZ0 [o.image,o.x,o.y,o.mask,o.mx,o.my,o.opac]++zJ7 o
 else if o.kind=2 then zZa zZ1 [o.mask,o.mx,o.my,o.opac]++zZa (zJ7 o) [bitN o.iso,bitN o.kno]
 else sPop
def pxTx (p:Px):Lb:=zZa [] (smpP p)++[10]
def imTx (m:Im):Lb:=if m.so then zZa (zZa zQ2 [m.w,m.h]) (smpP m.c)++[10] else zZa zQ3 [m.w,m.h]++[10]++m.pixels.flatMap pxTx
def hdTx (s:Scr):Lb:=zZa zYf [s.bits]++[10]++zZa zZH [s.c.a,s.c.b,s.c.c,s.c.d]++[10]++zZa zXa [s.tw,s.th]++[10]
def orTx (s:Scr):Lb:=if 0 < s.ord.length then zZa zZt s.ord++[10] else []
def opLn (o:Oq):Lb:=opTx o++[10]
def fmtT (s:Scr):Lb:=hdTx s++orTx s++s.ims.flatMap imTx++s.ops.flatMap opLn
theorem jXT {w:Lb} {l:List Int} (h:∀ n∈l,-9223372036854775808≤n∧n≤9223372036854775807):(zZa w l).length≤w.length+22*l.length:=by
 induction l generalizing w with
 | nil=>simp [zZa]
 | cons n l ih=>
  have h1:=zGr n (h n (by simp))
  have h2:=ih (w:=(if w=[] then [] else w++[32])++itoa n) fun m hm=>h m (by simp [hm])
  have h3:zZa w (n::l)=zZa ((if w=[] then [] else w++[32])++itoa n) l:=rfl
  have h4:((if w=[] then [] else w++[32])++itoa n).length≤w.length+1+(itoa n).length:=by
   rw [List.length_append]
   split <;> simp
  rw [h3,List.length_cons]
  omega
theorem jZL (op:Int):(ofS (zQo op)).length≤20:=by
 by_cases h:1≤op∧op < 13
 ·rcases zYl h with rfl | rfl | rfl | rfl | rfl | rfl | rfl | rfl | rfl | rfl | rfl | rfl <;> decide +kernel
 ·simp [zQo,h,ofS]
theorem zHi (op:Int):(ofS (zQg op)).length≤20:=by
 by_cases h:1≤op∧op < 13
 ·rcases zYl h with rfl | rfl | rfl | rfl | rfl | rfl | rfl | rfl | rfl | rfl | rfl | rfl <;> decide +kernel
 ·simp [zQg,h,ofS]
theorem jYs (b:Bool):0≤bitN b∧bitN b≤1:=by cases b <;> simp [bitN]
def fmtR (s:Scr):Lb × Int:=if zVi s=true then (fmtT s,0) else ([],19)
end
section
attribute [local irreducible] Ans AnsO AnsG AnsN AnsI
end
theorem jXP (v:Int):zUg v=true ↔ -1048576≤v∧v≤1048576:=by simp [zUg]
theorem Im.list_so {m:Im} (hs:m.so=true) (n:Nat):m.list n=List.replicate n m.c:=by
 unfold Im.list
 refine List.ext_getElem (by simp) fun i h1 h2=>?_
 simp [Im.nth,Im.px,hs]
theorem Im.count_pos {m:Im} (hf:m.formed=true):0 < m.w.toNat*m.h.toNat:=by
 obtain ⟨f1,f2,f3,f4,f5⟩:=zZ7 (Im.formed_of hf).1
 exact Nat.mul_pos (by omega) (by omega)
theorem Im.pixels_so {m:Im} (hf:m.formed=true) (hs:m.so=true):m.pixels=List.replicate (m.w.toNat*m.h.toNat) m.c:=by
 rw [Im.pixels_of hf,Im.list_so hs]
theorem Im.valid_iff {m:Im} (hf:m.formed=true) (most:Int):m.valid most=0↔∀ p∈m.pixels,p.ok most=true:=by
 obtain ⟨h1,h2⟩:=Im.formed_of hf
 unfold Im.valid
 rw [if_neg (by simp [h1]),if_neg (by simp [h2])]
 cases hs:m.so with
 | true=>
  rw [if_pos rfl,Im.pixels_so hf hs]
  have:=Im.count_pos hf
  constructor
  ·intro h p hp
   obtain ⟨_,rfl⟩:=List.mem_replicate.1 hp
   split at h
   ·assumption
   ·cases h
  ·intro h
   rw [if_pos (h m.c (List.mem_replicate.2 ⟨by omega,rfl⟩))]
 | false=>
  rw [if_neg (by simp),Im.pixels_of hf]
  unfold Im.okTo Im.count Im.list
  constructor
  ·intro h p hp
   split at h
   ·rename_i ha
    obtain ⟨k,hk,rfl⟩:=List.mem_map.1 hp
    exact List.all_eq_true.1 ha k hk
   ·cases h
  ·intro h
   rw [if_pos (List.all_eq_true.2 fun k hk=>h _ (List.mem_map.2 ⟨k,hk,rfl⟩))]
theorem zXM (n:Int) {most:Int} (h0:0≤most) (h1:most≤65535):0≤zXk n most∧zXk n most≤most:=by
 unfold zXk
 rw [IntWalk.i64_in most ⟨by omega,by omega⟩]
 have a2:=@zZ3 (IntKind.wrap .i64 (Int.tdiv n 8)) 2 (by omega) (by omega)
 have a4:=@zZ3 (IntKind.wrap .i64 (Int.tdiv n 8)) 4 (by omega) (by omega)
 split
 ·omega
 ·split
  ·omega
  ·split
   ·rw [IntWalk.i64_in (most+_) ⟨by omega,by omega⟩]
    have e:Int.tdiv (most+modS (IntKind.wrap .i64 (Int.tdiv n 8)) 2) 2=(most+modS (IntKind.wrap .i64 (Int.tdiv n 8)) 2) / 2:=Int.tdiv_eq_ediv_of_nonneg (by omega)
    rw [e,IntWalk.i64_in _ ⟨by omega,by omega⟩,IntWalk.u16_in _ ⟨by omega,by omega⟩]
    omega
   ·split
    ·rw [IntWalk.u16_in _ ⟨by omega,by omega⟩]
     omega
    ·rw [IntWalk.i64_in (most+1) ⟨by omega,by omega⟩]
     have a:=@zZ3 (IntKind.wrap .i64 (Int.tdiv n 8)) (most+1) (by omega) (by omega)
     rw [IntWalk.u16_in _ ⟨by omega,by omega⟩]
     omega
theorem jX7 (n0 n1 n2 n3 n4:Int) {most:Int} (h0:0≤most) (h1:most≤65535):(zWQ n0 n1 n2 n3 n4 most).ok most=true∧0≤(zWQ n0 n1 n2 n3 n4 most).a∧0≤(zWQ n0 n1 n2 n3 n4 most).b∧0≤(zWQ n0 n1 n2 n3 n4 most).c∧0≤(zWQ n0 n1 n2 n3 n4 most).al:=by
 have hf:=zXM n4 h0 h1
 have key:∀ a f:Int,0≤a→a≤f→f≤most→Px.ok ⟨zXk n0 a,zXk n1 a,zXk n2 a,a,f⟩ most=true∧0≤zXk n0 a∧0≤zXk n1 a∧0≤zXk n2 a∧0≤a:=fun a f k0 k1 k2=>by
  have q0:=zXM n0 k0 (by omega)
  have q1:=zXM n1 k0 (by omega)
  have q2:=zXM n2 k0 (by omega)
  simp [Px.ok]
  omega
 unfold zWQ
 simp only
 split
 ·have ha:=zXM (IntKind.wrap .i64 (Int.tdiv n3 3)) hf.1 (by omega)
  exact key _ _ ha.1 ha.2 hf.2
 ·exact key _ _ hf.1 (Int.le_refl _) hf.2
def Px.fine (p:Px) (most:Int):Prop:=p.ok most=true∧0≤p.a∧0≤p.b∧0≤p.c∧0≤p.al
theorem jZd (mood:Int) (L:Nat) (xs:List DV) {most:Int} (h0:0≤most) (h1:most≤65535) (k:Nat):(gPx mood L xs most k).fine most:=by
 have hz:Px.zero.fine most:=⟨by simp [Px.ok,Px.zero,h0],by decide,by decide,by decide,by decide⟩
 have hp:∀ k,(gPx1 L xs most k).fine most:=fun k=>jX7 _ _ _ _ _ h0 h1
 unfold gPx
 split
 ·exact hz
 ·split
  ·obtain ⟨a,b⟩:=hp k
   refine ⟨?_,b.1,b.2.1,b.2.2.1,h0⟩
   simp [Px.ok] at a ⊢
   omega
  ·split
   ·exact hp 0
   ·exact hp k
theorem zWR (pw ph so mood:Int) (L:Nat) (xs:List DV) (x0 y0 x1 y1:Int) {most:Int} (h0:0≤most) (h1:most≤65535) (hc:1≤x1 - x0∧x1 - x0≤100∧1≤y1 - y0∧y1 - y0≤100):∀ p∈(zK3 pw ph so mood L xs x0 y0 x1 y1 most).pixels,p.fine most:=by
 have hf:=(zVD pw ph so mood L xs x0 y0 x1 y1 most hc).1
 intro p hp
 rw [zHv pw ph so mood L xs x0 y0 x1 y1 most _ _ rfl rfl] at hf hp
 split at hf
 ·rename_i hs
  rw [if_pos hs,Im.pixels_so hf rfl] at hp
  obtain ⟨_,rfl⟩:=List.mem_replicate.1 hp
  exact jZd _ _ _ h0 h1 _
 ·rename_i hs
  rw [if_neg hs] at hp
  cases hk:ofOk (zJZ pw 5 x0 x1 pw) (zJZ ph 4 y0 y1 pw) (zKr mood L xs most (IntKind.wrap .i64 (zJZ pw 5 x0 x1 pw*zJZ ph 4 y0 y1 pw)).toNat).length with
  | true=>
   rw [(jQo hk).2] at hp
   unfold zKr at hp
   obtain ⟨k,_,rfl⟩:=List.mem_map.1 hp
   exact jZd _ _ _ h0 h1 _
  | false=>
   rw [zWK hk] at hf
   exact absurd hf (by decide)
def okO (bits:Int) (mn:Nat):List Oq→List Oq→Option (List Oq)
 | [],st=>some st
 | o::r,st=>if errO bits mn o st=0 then okO bits mn r (zHS o st) else none
theorem zWw {bits:Int} {mn:Nat}:∀ (l m:List Oq) (st:List Oq),okO bits mn (l++m) st=(okO bits mn l st).bind (okO bits mn m)
 | [],m,st=>rfl
 | o::l,m,st=>by
  simp only [List.cons_append,okO]
  split
  ·exact zWw l m _
  ·rfl
theorem jZm {bits:Int} {mn:Nat} {st:List Oq} (h:st≠[]):errO bits mn popO st=0:=by
 have h1:popO.kind=3:=rfl
 have h2:popO.fields=true:=by decide
 unfold errO
 rw [if_neg (by rw [h1]; simp),if_neg (by rw [h2]; simp),if_pos h1,if_neg h]
theorem jQX {bits:Int} {mn:Nat}:∀ (n:Nat) (st:List Oq),n≤st.length→okO bits mn (List.replicate n popO) st=some (st.take (st.length - n))
 | 0,st,_=>by simp [okO]
 | n+1,st,h=>by
  have hne:st≠[]:=by intro e; subst e; simp at h
  have h1:popO.kind=3:=rfl
  rw [List.replicate_succ,okO,if_pos (jZm hne)]
  have e:zHS popO st=st.dropLast:=by unfold zHS; rw [if_neg (by rw [h1]; decide),if_pos h1]
  rw [e,jQX n _ (by simp; omega),List.dropLast_eq_take,List.take_take]
  congr 2
  simp; omega
theorem jQe {bits:Int} {mn:Nat} {o:Oq} {st:List Oq} (h:errO bits mn o st=0):okO bits mn [o] st=some (zHS o st):=by
 simp only [okO]; rw [if_pos h]
theorem zK2 {n c:Int} (h : -100≤c∧c≤100) : -200≤gOff n c∧gOff n c≤200:=by
 have b:=@zZ3 (IntKind.wrap .i64 (Int.tdiv n 3)) 9 (by omega) (by omega)
 unfold gOff
 split <;> omega
theorem jVr {bits:Int} {mn:Nat} {r:Rw} {push:Bool} {c:Rc} {most:Int} {st:List Oq} (hm:1≤mn∧mn≤64) (hc:(-100≤c.a∧c.a≤100) ∧ -100≤c.b∧c.b≤100) (hb:jKB bits=most) (h0:0≤most∧most≤65535) (hl:st.length < 64) :
  errO bits mn (gOp r push mn c (ctxB st) most) st=0:=by
 have b1:=@zZ3 r.im mn (by omega) (by omega)
 have b2:=@zZ3 (IntKind.wrap .i64 (Int.tdiv r.ma 4)) mn (by omega) (by omega)
 have b3:=@zZ3 (IntKind.wrap .i64 (Int.tdiv r.ope 2)) 12 (by omega) (by omega)
 have b4:=@zZ3 (IntKind.wrap .i64 (Int.tdiv r.mo 2)) 12 (by omega) (by omega)
 have o1:=@zK2 r.x c.a hc.1
 have o2:=@zK2 r.y c.b hc.2
 have o3:=@zK2 r.mx c.a hc.1
 have o4:=@zK2 r.my c.b hc.2
 have s1:=zXM (IntKind.wrap .i64 (Int.tdiv r.op 2)) h0.1 h0.2
 unfold errO
 rw [hb]
 rw [if_neg (by simp [gOp]; cases push <;> simp)]
 rw [if_neg (by
  cases push <;> simp only [gOp,Oq.fields] <;> by_cases q:modS r.ma 4=0 <;> simp [q] <;> omega)]
 rw [if_neg (by cases push <;> simp [gOp])]
 rw [if_neg (by
  cases push <;> simp only [gOp] <;> by_cases q:modS r.ma 4=0 <;> simp [q] <;> omega)]
 rw [if_neg (by
  simp only [Decidable.not_not,jXP,gOp]
  refine ⟨?_,?_,?_,?_⟩ <;> split <;> omega)]
 rw [if_neg (by simp only [gOp]; split <;> omega)]
 rw [if_neg (by simp only [gOp]; split <;> omega)]
 rw [if_neg (by simp only [gOp]; split <;> omega)]
 rw [if_neg (by
  simp only [gOp]
  intro ⟨h1,h2⟩
  rw [h2] at h1
  simp at h1)]
 rw [if_neg (by omega)]
theorem Scn.bits_max (s:Scn):jKB s.bits=s.most∧jJ0 s.bits=true:=by
 have:=s.most_in
 unfold Scn.bits
 rcases this with h | h <;> rw [h] <;> decide
theorem Scn.run_okO (s:Scn) (k:Nat) (hk:k≤9):okO s.bits s.ims.length (s.run k).1 []=some (s.run k).2:=by
 induction k with
 | zero=>rfl
 | succ k ih=>
  have ih:=ih (by omega)
  have hl:=s.run_len k
  have F:=s.c_facts
  have li:=s.ims_len
  have hm:0≤s.most∧s.most≤65535:=by rcases s.most_in with h | h <;> rw [h] <;> omega
  by_cases h:modS (rwAt s.rxs (k*11)).k 8=0∧0 < (s.run k).2.length
  ·rw [Scn.run_pop h,zWw,ih]
   have hne:(s.run k).2≠[]:=by intro e; rw [e] at h; simp at h
   show okO _ _ [popO] _=_
   rw [jQe (jZm hne)]
   rfl
  ·obtain ⟨r1,r2⟩:=Scn.run_op h rfl
   have he:=@jVr s.bits s.ims.length (rwAt s.rxs (k*11)) (decide (modS (rwAt s.rxs (k*11)).k 8 < 3)) s.c s.most (s.run k).2 (by omega) (by omega) s.bits_max.1 hm (by omega)
   have hkd:(gOp (rwAt s.rxs (k*11)) (decide (modS (rwAt s.rxs (k*11)).k 8 < 3)) s.ims.length s.c (ctxB (s.run k).2) s.most).kind=if modS (rwAt s.rxs (k*11)).k 8 < 3 then 2 else 1:=by simp [gOp]
   generalize gOp (rwAt s.rxs (k*11)) (decide (modS (rwAt s.rxs (k*11)).k 8 < 3)) s.ims.length s.c (ctxB (s.run k).2) s.most=o at *
   by_cases h2:o.kind=2
   ·rw [r1 h2,zWw,ih]
    show okO _ _ [o] _=_
    rw [jQe he]
    unfold zHS
    rw [if_pos h2]
   ·have h3:o.kind≠3:=by rw [hkd]; split <;> decide
    rw [r2 h2,zWw,ih]
    show okO _ _ [o] _=_
    rw [jQe he]
    unfold zHS
    rw [if_neg h2,if_neg h3]
theorem Scn.ops_ok (s:Scn):okO s.bits s.ims.length s.ops []=some []:=by
 unfold Scn.ops
 rw [zWw,s.run_okO _ (by omega)]
 show okO _ _ _ _=_
 rw [jQX _ _ (Nat.le_refl _),Nat.sub_self]
 rfl
theorem Scn.ops_len (s:Scn):s.ops.length≤18:=by
 have:=s.run_len (min s.rn 9)
 unfold Scn.ops
 simp; omega
theorem Scn.ord_len (s:Scn):s.ord.length≤64:=by
 have ht:=s.tiles_in
 unfold Scn.ord jXE
 split
 ·simp
 ·have:=(zU0 (ints s.oxs) (n:=s.tiles.toNat) (by omega) s.tiles.toNat (Nat.le_refl _)).2
  omega
theorem Scn.fine (s:Scn):∀ m∈s.ims,m.formed=true∧(m.w≤100∧m.h≤100)∧m.valid s.most=0∧∀ more,(zXi m more).valid s.most=0:=by
 have CF:=s.c_facts
 have hq:1≤s.c.c - s.c.a∧s.c.c - s.c.a≤100∧1≤s.c.d - s.c.b∧s.c.d - s.c.b≤100:=by have:=s.facts; omega
 have hm:0≤s.most∧s.most≤65535:=by rcases s.most_in with h | h <;> rw [h] <;> omega
 have key:∀ m:Im,m.formed=true→m.w≤100∧m.h≤100→(∀ p∈m.pixels,p.fine s.most)→m.formed=true∧(m.w≤100∧m.h≤100)∧m.valid s.most=0∧∀ more,(zXi m more).valid s.most=0:=fun m h1 h2 h3=>by
  refine ⟨h1,h2,(Im.valid_iff h1 _).2 fun p hp=>(h3 p hp).1,fun more=>(Im.valid_iff (zJx h1 h2 more) _).2 fun p hp=>?_⟩
  rw [zWP h1 h2 more] at hp
  exact (h3 p hp).1
 intro m hmem
 unfold Scn.ims at hmem
 split at hmem
 ·rw [List.mem_singleton] at hmem
  subst hmem
  have F:=s.facts
  have hf:zQZ s.gw s.gh=true:=by
   have:=Int.mul_le_mul F.2.2.1.2 F.2.2.2.1.2 (by omega) (by omega)
   simp [zQZ]; omega
  refine key _ (zZ9 _ hf) ⟨by show s.gw≤100; omega,by show s.gh≤100; omega⟩ fun p hp=>?_
  change p∈(zQf s.gw s.gh ⟨s.most,0,0,s.most,s.most⟩).pixels at hp
  rw [Im.pixels_of (zZ9 _ hf),Im.list,List.mem_map] at hp
  obtain ⟨k,_,rfl⟩:=hp
  have e:(zQf s.gw s.gh ⟨s.most,0,0,s.most,s.most⟩).nth k=⟨s.most,0,0,s.most,s.most⟩:=by simp [Im.nth,Im.px,zQf]
  change ((zQf s.gw s.gh ⟨s.most,0,0,s.most,s.most⟩).nth k).fine s.most
  rw [e]
  exact ⟨by simp [Px.ok]; omega,by simp only; omega,by simp only; omega,by simp only; omega,by simp only; omega⟩
 ·simp only [Scn.pics,List.mem_map] at hmem
  obtain ⟨k,_,rfl⟩:=hmem
  obtain ⟨gf,g1,g2,g3,g4⟩:=zVD (nAt s.pxs (k*5)) (nAt s.pxs (k*5+1)) (nAt s.pxs (k*5+2)) (nAt s.pxs (k*5+3)) (lAt s.pxs (k*5+4)) (cAt s.pxs (k*5+4)) s.c.a s.c.b s.c.c s.c.d s.most hq
  exact key _ gf ⟨g2,g4⟩ fun p hp=>zWR _ _ _ _ _ _ _ _ _ _ hm.1 hm.2 hq p hp
theorem zYp {lo hi:Int} {l:List Int}:fitL lo hi l=true↔∀ v∈l,lo≤v∧v≤hi:=by
 unfold fitL
 rw [List.all_eq_true]
 simp
theorem jKv {o:Oq} (h1:0≤o.kind∧o.kind≤255) (h2:0≤o.image∧o.image≤255) (h3:0≤o.mask∧o.mask≤255) (h4:0≤o.oper∧o.oper≤255) (h5:0≤o.mode∧o.mode≤255)
  (h6 : -2147483648≤o.x∧o.x≤2147483647) (h7 : -2147483648≤o.y∧o.y≤2147483647) (h8 : -2147483648≤o.mx∧o.mx≤2147483647) (h9 : -2147483648≤o.my∧o.my≤2147483647):opOk o=true:=by
 unfold opOk
 rw [Bool.and_eq_true,zYp,zYp]
 refine ⟨fun v hv=>?_,fun v hv=>?_⟩ <;> simp only [List.mem_cons,List.not_mem_nil,or_false] at hv
 ·rcases hv with rfl | rfl | rfl | rfl | rfl <;> assumption
 ·rcases hv with rfl | rfl | rfl | rfl <;> assumption
theorem zGn {v:Int} (h:zUg v=true) : -2147483648≤v∧v≤2147483647:=by
 unfold zUg at h
 have:=of_decide_eq_true h
 omega
theorem jYg {bits:Int} {mn:Nat} {o:Oq} {st:List Oq} (h:errO bits mn o st=0) (hm:mn≤64):opOk o=true:=by
 unfold errO at h
 split at h
 ·cases h
 rename_i k1
 split at h
 ·cases h
 rename_i k2
 split at h
 ·rename_i k3
  have:o=popO:=by
   unfold Oq.fields at k2
   rw [if_pos k3] at k2
   simpa using k2
  subst this
  decide
 rename_i k3
 split at h
 ·cases h
 rename_i k4
 split at h
 ·cases h
 rename_i k5
 split at h
 ·cases h
 split at h
 ·cases h
 rename_i k7
 split at h
 ·cases h
 rename_i k8
 have k5:=Classical.not_not.1 k5
 have k7:=Classical.not_not.1 k7
 have k8:=Classical.not_not.1 k8
 have k1:=Classical.not_not.1 k1
 have hi:0≤o.image∧o.image≤255:=by
  rcases k1 with k1 | k1 | k1
  ·omega
  ·unfold Oq.fields at k2
   rw [if_neg k3] at k2
   have:o.image=0:=by
    by_cases hz:o.image=0
    ·exact hz
    ·exact absurd (by simp [k1,hz]) k2
   omega
  ·exact absurd k1 k3
 exact jKv (by omega) hi (by omega) (by omega) (by omega) (zGn k5.1) (zGn k5.2.1) (zGn k5.2.2.1) (zGn k5.2.2.2)
theorem jQf {bits:Int} {mn:Nat}:∀ {l st st':List Oq},okO bits mn l st=some st'→∀ o∈l,∃ s',errO bits mn o s'=0
 | a::l,st,st',h,o,ho=>by
  simp only [okO] at h
  split at h
  ·rcases List.mem_cons.1 ho with rfl | ho
   ·exact ⟨st,by assumption⟩
   ·exact jQf h o ho
  ·cases h
theorem Scn.ops_fit (s:Scn):s.ops.all opOk=true:=by
 rw [List.all_eq_true]
 intro o ho
 obtain ⟨st,h⟩:=jQf s.ops_ok o ho
 exact jYg h (by have:=s.ims_len; omega)
theorem Scn.ord_fit (s:Scn):∀ v∈s.ord,0≤v∧v≤4294967295:=by
 intro v hv
 have ht:=s.tiles_in
 by_cases hl:(ints s.oxs).length=0
 ·have:s.ord=[]:=by unfold Scn.ord jXE; rw [if_pos (.inl hl)]
  rw [this] at hv; cases hv
 ·have:=((jZJ hl (by omega:s.tiles≤64)).mem_iff).1 hv
  simp only [upto,List.mem_map,List.mem_range] at this
  obtain ⟨i,hi,rfl⟩:=this
  show 0≤(i:Int)∧(i:Int)≤4294967295
  omega
theorem Scn.bits_fit (s:Scn):s.bits=8∨s.bits=16:=by
 have:=s.bits_of
 by_cases h:gMax s.b > 255
 ·exact .inr (this.1 h).symm
 ·exact .inl (this.2 h).symm
theorem zKJ:∀ {l:List Im},(∀ m∈l,m.formed=true∧m.w≤100∧m.h≤100)→zQ1 l≤100009*(l.length:Int)
 | [],_=>by simp [zQ1]
 | m::l,h=>by
  have h1:=h m (by simp)
  have h2:=zKJ (l:=l) fun m hm=>h m (by simp [hm])
  have h3:=jZe h1.1
  have h4:m.w*m.h≤10000:=by
   have:=Int.mul_le_mul_of_nonneg_left h1.2.2 (by omega:0≤m.w)
   omega
  have h5:zXp m≤100009:=by unfold zXp; split <;> omega
  simp only [zQ1,List.length_cons]
  omega
theorem Scn.enc (s:Scn) {ms:List Im} {os:List Oq} (h1:ms.length≤64) (h2:∀ m∈ms,m.formed=true∧m.w≤100∧m.h≤100) (h3:os.length≤100) (h4:os.all opOk=true):zZR ⟨s.bits,s.c,s.gtw,s.gth,s.ord,ms,os⟩=true:=by
 obtain ⟨f1,f2,f3,f4,f5,f6⟩:=s.facts
 have CF:=s.c_facts
 have hb:=s.bits_fit
 have ho:=s.ord_len
 have hz:=zKJ h2
 have g1:fitL 0 255 [s.bits]=true:=zYp.2 fun v hv=>by
  simp only [List.mem_cons,List.not_mem_nil,or_false] at hv
  subst hv
  omega
 have g2:fitL (-2147483648) 2147483647 [s.c.a,s.c.b,s.c.c,s.c.d]=true:=zYp.2 fun v hv=>by
  simp only [List.mem_cons,List.not_mem_nil,or_false] at hv
  rcases hv with rfl | rfl | rfl | rfl <;> omega
 have g3:fitL 0 4294967295 [s.gtw,s.gth]=true:=zYp.2 fun v hv=>by
  simp only [List.mem_cons,List.not_mem_nil,or_false] at hv
  rcases hv with rfl | rfl <;> omega
 have g4:fitL 0 4294967295 s.ord=true:=zYp.2 s.ord_fit
 have g5:ms.all Im.formed=true:=List.all_eq_true.2 fun m hm=>(h2 m hm).1
 simp only [zZR,zX7,g1,g2,g3,g4,g5,h4,zXr,Bool.and_true,Bool.true_and,Bool.and_eq_true,decide_eq_true_eq]
 exact ⟨⟨h1,by omega⟩,decide_eq_true (by omega)⟩
theorem formed_of {m:Im} {most:Int} (h:m.valid most=0):m.formed=true:=by
 unfold Im.valid at h
 split at h
 ·cases h
 split at h
 ·cases h
 rename_i a b
 unfold Im.formed
 simp only [Bool.not_eq_false] at a b
 rw [a,b]; rfl
section
attribute [local irreducible] Ans AnsO AnsG AnsN AnsI
theorem jVb (o p:Oq):(o.kind==p.kind && (o.image==p.image && (o.x==p.x && (o.y==p.y && (o.mask==p.mask && (o.mx==p.mx && (o.my==p.my && (o.opac==p.opac && (o.oper==p.oper && (o.mode==p.mode && (o.iso==p.iso && (o.kno==p.kno && true))))))))))))=decide (o=p):=by
 obtain ⟨_,_,_,_,_,_,_,_,_,_,_,_⟩:=o
 obtain ⟨_,_,_,_,_,_,_,_,_,_,_,_⟩:=p
 rw [Bool.eq_iff_iff]
 simp only [Oq.mk.injEq,Bool.and_eq_true,beq_iff_eq,decide_eq_true_eq,and_true]
def eqI (m r:Im):Bool:=(m.so==r.so) && m.equal r
def imN (l:List Im) (i:Nat):Im:=l[i]?.getD (zQf 0 0 .zero)
theorem zHs {l:List Im} {i:Nat} (h:i < l.length):imN l i=l[i]:=by simp [imN,List.getElem?_eq_getElem h]
def eqTo (a b:List Im) (k:Nat):Bool:=(List.range k).all fun i=>eqI (imN a i) (imN b i)
def zUi (a b:List Im):Bool:=decide (a.length=b.length) && eqTo a b a.length
def eqS (s t:Scr):Bool:=decide (s.bits=t.bits) && decide (s.c=t.c) && decide (s.tw=t.tw) && decide (s.th=t.th) && decide (s.ord=t.ord) && zUi s.ims t.ims && decide (s.ops=t.ops)
theorem jKT (s t:Scr):eqS s t=((s.bits==t.bits) && (s.c.a==t.c.a && (s.c.b==t.c.b && (s.c.c==t.c.c && (s.c.d==t.c.d && true)))) && (s.tw==t.tw) && (s.th==t.th) && decide (s.ord=t.ord) && zUi s.ims t.ims && decide (s.ops=t.ops)):=by
 have h:decide (s.c=t.c)=(s.c.a==t.c.a && (s.c.b==t.c.b && (s.c.c==t.c.c && (s.c.d==t.c.d && true)))):=by
  obtain ⟨_,⟨_,_,_,_⟩,_,_,_,_,_⟩:=s
  obtain ⟨_,⟨_,_,_,_⟩,_,_,_,_,_⟩:=t
  rw [Bool.eq_iff_iff]
  simp only [Rc.mk.injEq,Bool.and_eq_true,beq_iff_eq,decide_eq_true_eq,and_true]
 unfold eqS
 rw [h]
 rfl
theorem jKa {α:Type} {a b:List α} {k:Nat} (h:k < a.length) (h2:k < b.length) (e:a.take k=b.take k) (ek:a[k]=b[k]):a.take (k+1)=b.take (k+1):=by
 rw [List.take_succ_eq_append_getElem h,List.take_succ_eq_append_getElem h2,e,ek]
theorem jVy {α:Type} {a b:List α} {k:Nat} (h:k < a.length) (h2:k < b.length) (hn:a[k]≠b[k]):a≠b:=by
 intro e; subst e; exact hn rfl
theorem jK2 {α:Type} {a b:List α} (he:a.length=b.length) (e:a.take a.length=b.take a.length):a=b:=by
 rw [List.take_length,he,List.take_length] at e
 exact e
theorem jYh {a b:List Im} {k:Nat} (h:k < a.length) (h2:k < b.length) (e:eqTo a b k=true) (ek:eqI a[k] b[k]=true):eqTo a b (k+1)=true:=by
 unfold eqTo at e ⊢
 rw [List.range_succ,List.all_append,e]
 simp [zHs h,zHs h2,ek]
theorem jJo {a b:List Im} {k:Nat} (h:k < a.length) (h2:k < b.length) (ek:eqI a[k] b[k]=false):eqTo a b a.length=false:=by
 unfold eqTo
 rw [List.all_eq_false]
 exact ⟨k,List.mem_range.2 h,by rw [zHs h,zHs h2,ek]; simp⟩
def jVn:Gam where
 pure:=fun f xs=>
  if f=40 then gZ8 xs else
  if f=41 then (match xs with | [.d (.sl n xs),.d (.sl m ys)]=>some (RV.d (dQ (decide (zQG xs=zQG ys)))) | _=>none) else
  if f=42 then gZ16 xs else
  none
 modes:=fun f=>
  none
 proc:=fun f xs bs=>
  none
 iter:=fun f cs=>
  none
theorem zW8 (a b:List Oq):Ans prog 41 [RV.d (dS a.length (ops a)),RV.d (dS b.length (ops b))] (RV.d (dQ (decide (zQG (ops a)=zQG (ops b))))):=
 zQm (Γ:=jVn) (Ann.seq Ann.leaf (Ann.seq Ann.leaf (Ann.seq (Ann.seq Ann.leaf (Ann.loop ⟨Nat,fun k=>k≤a.length∧a.take k=b.take k,fun k=>⟨[(0,AV.one (Cl.d (dS a.length (ops a)))),(1,AV.one (Cl.d (dS b.length (ops b)))),(5,aJ (k:Int))],[]⟩,fun k=>a.length - k⟩ fun k=>Ann.leaf)) Ann.leaf))) zQB Tryz.func41 rfl (Nat.le_of_ble_eq_true rfl) fun hwf=>by
  refine Eq.mpr (by kernel_rfl:_=(let c:=(a.length:Int); let e:=(dQ (decide (zQG (ops a)=zQG (ops b)))); let f:=fun (k:Nat)=>(k≤a.length∧a.take k=b.take k); let g:=(dS a.length (ops a)=dS a.length (ops a)); let h:=(dS b.length (ops b)=dS b.length (ops b)); tU6 (((c != (b.length:Int))=true→True∧RV.d (dQ false)=RV.d e)∧((c != (b.length:Int))=false→True∧((∃ k:Nat,(f k)∧((g∧h∧(dJ 0=dJ (k:Int))∧True)∧True))∧∀ k:Nat,let i:=(decide ((k:Int) < c)); let d:=((k:Int).toNat*12); let j:=((k:Int).toNat*12+1+1+1+1); let l:=((k:Int).toNat*12+1+1+1); let m:=((k:Int).toNat*12+1+1); let n:=((k:Int).toNat*12+1); let o:=((k:Int).toNat*12+1+1+1+1+1+1+1+1+1+1+1); let p:=((k:Int).toNat*12+1+1+1+1+1+1+1+1+1+1); let q:=((k:Int).toNat*12+1+1+1+1+1+1+1+1+1); let r:=((k:Int).toNat*12+1+1+1+1+1+1+1+1); let s:=((k:Int).toNat*12+1+1+1+1+1+1+1); let t:=((k:Int).toNat*12+1+1+1+1+1+1); let u:=((k:Int).toNat*12+1+1+1+1+1); let v:=(!(((nAt (ops a) d)==(nAt (ops b) d)) && (((nAt (ops a) n)==(nAt (ops b) n)) && (((nAt (ops a) m)==(nAt (ops b) m)) && (((nAt (ops a) l)==(nAt (ops b) l)) && (((nAt (ops a) j)==(nAt (ops b) j)) && (((nAt (ops a) u)==(nAt (ops b) u)) && (((nAt (ops a) t)==(nAt (ops b) t)) && (((nAt (ops a) s)==(nAt (ops b) s)) && (((nAt (ops a) r)==(nAt (ops b) r)) && (((nAt (ops a) q)==(nAt (ops b) q)) && (((bAt (ops a) p)==(bAt (ops b) p)) && (((bAt (ops a) o)==(bAt (ops b) o)) && true))))))))))))); (f k)→tU4 ((i=true→tU2 ((0≤(k:Int)∧(k:Int) < c∧(k:Int).toNat*12 < (ops a).length)∧(oqQr (ops a) d)∧tU2 ((0≤(k:Int)∧(k:Int) < (b.length:Int)∧(k:Int).toNat*12 < (ops b).length)∧(oqQr (ops b) d)∧True∧(true=true)∧((v=true→True∧RV.d (dQ false)=RV.d e)∧(v=false→tU3 (∃ k':Nat,(k'≤a.length∧a.take k'=b.take k')∧(a.length - k' < a.length - k)∧((g∧h∧(dJ (wK ((k:Int)+1))=dJ (k':Int))∧True)∧True)))))))∧(i=false→True∧RV.d (dQ true)=RV.d e))))))) ?_
  delta tU2 tU3 tU4 tU6 dJ dQ wK dS
  simp only [sS,oqQr]
  have hil:a.length≤9223372036854775807∧b.length≤9223372036854775807:=by
   simp only [RV.wfs,RV.wf,DV.wf,maxLen] at hwf
   omega
  clear hwf
  simp only [zQU]
  refine ⟨fun h=>?_,fun h=>⟨⟨0,⟨Nat.zero_le _,by simp⟩,rfl⟩,fun k hk=>⟨fun hlt=>?_,fun hge=>?_⟩⟩⟩
  ·have h:a.length≠b.length:=by simp at h; omega
   exact (decide_eq_false (fun e=>h (congrArg List.length e))).symm
  ·obtain ⟨k1,k2⟩:=hk
   have hl:a.length=b.length:=by simp at h; omega
   have ha:k < a.length:=by omega
   have hb:k < b.length:=by omega
   have q1:=zVy ha
   have q2:=zVz ha
   have r1:=zVy hb
   have r2:=zVz hb
   have w1:IntKind.wrap .i64 ((k:Int)+1)=((k+1:Nat):Int):=by rw [IntWalk.i64_in _ ⟨by omega,by omega⟩]; omega
   simp only [q2,r2,w1]
   simp only [jVb]
   refine ⟨⟨by omega,by omega,by rw [zZp]; omega⟩,q1,⟨by omega,by omega,by rw [zZp]; omega⟩,r1,fun e=>?_,fun e=>⟨k+1,⟨by omega,jKa ha hb k2 (by simpa using e)⟩,by omega,rfl⟩⟩
   exact (decide_eq_false (jVy ha hb (by simpa using e))).symm
  ·obtain ⟨k1,k2⟩:=hk
   have hl:a.length=b.length:=by simp at h; omega
   have:k=a.length:=by omega
   subst this
   exact (decide_eq_true (jK2 hl k2)).symm
theorem zGI (s t:Scr) (hM:∀ m∈s.ims,m.isU) (hN:∀ m∈t.ims,m.isU):Ans prog 16 [RV.agg [dJ s.bits,dJ s.c.a,dJ s.c.b,dJ s.c.c,dJ s.c.d,dJ s.tw,dJ s.th,dS s.ord.length (is s.ord),dS s.ims.length (ims s.ims),dS s.ops.length (ops s.ops)],RV.agg [dJ t.bits,dJ t.c.a,dJ t.c.b,dJ t.c.c,dJ t.c.d,dJ t.tw,dJ t.th,dS t.ord.length (is t.ord),dS t.ims.length (ims t.ims),dS t.ops.length (ops t.ops)]] (RV.d (dQ (eqS s (⟨t.bits,⟨t.c.a,t.c.b,t.c.c,t.c.d⟩,t.tw,t.th,ints (is t.ord),zQN (ims t.ims),zQG (ops t.ops)⟩:Scr)))):=
 zQm (Γ:=jVn) (Ann.seq Ann.leaf (Ann.seq Ann.leaf (Ann.seq (Ann.seq Ann.leaf (Ann.loop ⟨Nat,fun k=>k≤s.ims.length∧eqTo s.ims t.ims k=true,fun k=>⟨[(2,AV.one (Cl.ptr 2 0)),(3,AV.one (Cl.ptr 3 0)),(5,aJ (k:Int))],[(2,bC [cJ s.bits,cJ s.c.a,cJ s.c.b,cJ s.c.c,cJ s.c.d,cJ s.tw,cJ s.th,Cl.d (dS s.ord.length (is s.ord)),Cl.d (dS s.ims.length (ims s.ims)),Cl.d (dS s.ops.length (ops s.ops))]),(3,bC [cJ t.bits,cJ t.c.a,cJ t.c.b,cJ t.c.c,cJ t.c.d,cJ t.tw,cJ t.th,Cl.d (dS t.ord.length (is t.ord)),Cl.d (dS t.ims.length (ims t.ims)),Cl.d (dS t.ops.length (ops t.ops))])]⟩,fun k=>s.ims.length - k⟩ fun k=>Ann.leaf)) Ann.leaf))) zQB Tryz.func16 rfl (Nat.le_of_ble_eq_true rfl) fun hwf=>by
  refine Eq.mpr (by kernel_rfl:_=(let f:=(t.ims.length:Int); let g:=(ints (is s.ord)=ints (is t.ord)); let h:=(zQG (ops s.ops)=zQG (ops t.ops)); let j:=(!((s.c.a==t.c.a) && ((s.c.b==t.c.b) && ((s.c.c==t.c.c) && ((s.c.d==t.c.d) && true))))); let c:=(s.ims.length:Int); let d:=(dQ (eqS s ((sE t):Scr))); let a:=(RV.d (dQ false)=RV.d d); let l:=fun (k:Nat)=>(k≤s.ims.length∧eqTo s.ims t.ims k=true); let m:=[dJ s.bits,dJ s.c.a,dJ s.c.b,dJ s.c.c,dJ s.c.d,dJ s.tw,dJ s.th,dS s.ord.length (is s.ord),dS s.ims.length (ims s.ims),dS s.ops.length (ops s.ops)]; let n:=[dJ t.bits,dJ t.c.a,dJ t.c.b,dJ t.c.c,dJ t.c.d,dJ t.tw,dJ t.th,dS t.ord.length (is t.ord),dS t.ims.length (ims t.ims),dS t.ops.length (ops t.ops)]; let o:=((m=m)∧(n=n)∧True); let p:=fun (k:Nat)=>(0≤(k:Int)∧(k:Int) < c∧(k:Int).toNat*28 < (ims s.ims).length); let q:=fun (k:Nat)=>(0≤(k:Int)∧(k:Int) < f∧(k:Int).toNat*28 < (ims t.ims).length); True∧tU8 (((s.bits != t.bits)=false→tU7 ((j=false→tU7 (((s.tw != t.tw)=false→tU7 (((s.th != t.th)=false→tU4 ((Ans prog 40 [RV.d (dS s.ord.length (is s.ord)),RV.d (dS t.ord.length (is t.ord))] (RV.d (dQ (decide g))))∧tU3 (((!(decide g))=false→True∧tU8 (((c != f)=false→tU4 ((Ans prog 41 [RV.d (dS s.ops.length (ops s.ops)),RV.d (dS t.ops.length (ops t.ops))] (RV.d (dQ (decide h))))∧tU2 (((!(decide h))=true→True∧RV.d (dQ false)=RV.d d)∧((!(decide h))=false→True∧((∃ k:Nat,(l k)∧(((0=0)∧(0=0)∧(dJ 0=dJ (k:Int))∧True)∧o))∧∀ k:Nat,let e:=((k:Int).toNat*28+2); let r:=(!((bAt (ims s.ims) e)==(bAt (ims t.ims) e))); let b:=((k:Int).toNat*28); let i:=(Im.equal (imQ (ims s.ims) b) (imQ (ims t.ims) b)); (l k)→tU5 (((decide ((k:Int) < c))=true→tU3 ((p k)∧True∧(((ims s.ims)[(k:Int).toNat*28+2]?=some (dQ (bAt (ims s.ims) e)))∧True)∧tU3 ((q k)∧True∧(((ims t.ims)[(k:Int).toNat*28+2]?=some (dQ (bAt (ims t.ims) e)))∧True)∧tU2 ((r=false→tU3 ((p k)∧(imQr (ims s.ims) b)∧tU3 ((q k)∧(imQr (ims t.ims) b)∧(Ans prog 42 [imR (imQ (ims s.ims) b),imR (imQ (ims t.ims) b)] (RV.d (dQ i)))∧tU2 ((true=true)∧(((!i)=true→True∧RV.d (dQ false)=RV.d d)∧((!i)=false→tU3 (∃ k':Nat,(k'≤s.ims.length∧eqTo s.ims t.ims k'=true)∧(s.ims.length - k' < s.ims.length - k)∧(((0=0)∧(0=0)∧(dJ (wK ((k:Int)+1))=dJ (k':Int))∧True)∧o))))))))∧(r=(!false)→True∧(true=true)∧True∧RV.d (dQ false)=RV.d d)))))∧((decide ((k:Int) < c))=false→True∧RV.d (dQ true)=RV.d d)))))))∧((c != f)=(!false)→tU2 a)))∧((!(decide g))=(!false)→tU4 a))))∧((s.th != t.th)=(!false)→tU6 a)))∧((s.tw != t.tw)=(!false)→tU8 a)))∧(j=(!false)→tU2 (tU8 a))))∧((s.bits != t.bits)=(!false)→tU4 (tU8 a))))) ?_
  delta sE tU2 tU3 tU4 tU5 tU6 tU7 tU8 dJ dQ wK dS
  simp only [sS,imQ,imQr]
  have a1:=zVR s.ord.length (is s.ord) t.ord.length (is t.ord) (jJU rfl) (jJU rfl)
  have a3:=zW8 s.ops t.ops
  have hil:s.ims.length≤9223372036854775807:=by
   simp only [RV.wfs,RV.wf,DV.wf,DV.wfs,maxLen] at hwf
   omega
  have eS:(⟨t.bits,t.c,t.tw,t.th,t.ord,t.ims,t.ops⟩:Scr)=t:=rfl
  clear hwf
  simp only [zQM,zQ8,zQU,eS] at a1 a3 ⊢
  have E:=jKT s t
  refine ⟨fun h1=>⟨fun h2=>⟨fun h3=>⟨fun h4=>⟨a1,fun h5=>⟨fun h6=>⟨a3,fun h7=>?_,fun h7=>⟨⟨0,⟨Nat.zero_le _,by simp [eqTo]⟩,rfl⟩,fun k hk=>⟨fun hlt=>?_,fun hge=>?_⟩⟩⟩,fun h6=>?_⟩,fun h5=>?_⟩,fun h4=>?_⟩,fun h3=>?_⟩,fun h2=>?_⟩,fun h1=>?_⟩
  ·rw [E,decide_eq_false h7]; simp
  ·obtain ⟨k1,k2⟩:=hk
   have hl:s.ims.length=t.ims.length:=by simp at h6; omega
   have ha:k < s.ims.length:=by omega
   have hb:k < t.ims.length:=by omega
   have q1:=zWG ha
   have q2:=zWH ha
   have r1:=zWG hb
   have r2:=zWH hb
   have q3:bAt (ims s.ims) (k*28+2)=s.ims[k].so:=q2.2.2.1
   have r3:bAt (ims t.ims) (k*28+2)=t.ims[k].so:=r2.2.2.1
   have q4:(ims s.ims)[k*28+2]?=some (DV.bool s.ims[k].so):=q1.2.2.1
   have r4:(ims t.ims)[k*28+2]?=some (DV.bool t.ims[k].so):=r1.2.2.1
   have w1:IntKind.wrap .i64 ((k:Int)+1)=((k+1:Nat):Int):=by rw [IntWalk.i64_in _ ⟨by omega,by omega⟩]; omega
   have e1:=zK7 s.ims[k] t.ims[k] (hM _ (List.getElem_mem ha)) (hN _ (List.getElem_mem hb))
   have bad:eqI s.ims[k] t.ims[k]=false→false=eqS s t:=fun h=>by
    have:zUi s.ims t.ims=false:=by unfold zUi; rw [jJo ha hb h,Bool.and_false]
    rw [E,this]; simp
   simp only [q2,r2,q3,r3,w1]
   have B1:(0:Int)≤(k:Int)∧(k:Int) < (s.ims.length:Int)∧k*28 < (ims s.ims).length:=⟨by omega,by omega,by rw [zZO]; omega⟩
   have B2:(0:Int)≤(k:Int)∧(k:Int) < (t.ims.length:Int)∧k*28 < (ims t.ims).length:=⟨by omega,by omega,by rw [zZO]; omega⟩
   refine ⟨B1,q4,B2,r4,fun h8=>⟨B1,q1,B2,r1,e1,fun h9=>bad ?_,fun h9=>⟨k+1,⟨by omega,jYh ha hb k2 ?_⟩,by omega,rfl⟩⟩,fun h8=>bad ?_⟩
   ·have h9:s.ims[k].equal t.ims[k]=false:=h9
    unfold eqI; rw [h9,Bool.and_false]
   ·have h9:s.ims[k].equal t.ims[k]=true:=h9
    unfold eqI; rw [h9,h8]; rfl
   ·unfold eqI; rw [h8,Bool.false_and]
  ·obtain ⟨k1,k2⟩:=hk
   have hl:s.ims.length=t.ims.length:=by simp at h6; omega
   have:k=s.ims.length:=by omega
   subst this
   have h8:zUi s.ims t.ims=true:=by unfold zUi; rw [k2,decide_eq_true hl]; rfl
   have h1:(s.bits==t.bits)=true:=by simpa using h1
   have h3:(s.tw==t.tw)=true:=by simpa using h3
   have h4:(s.th==t.th)=true:=by simpa using h4
   rw [E,h1,h2,h3,h4,h8,decide_eq_true h5,decide_eq_true h7]; rfl
  ·have hl:s.ims.length≠t.ims.length:=by simp at h6; omega
   have:zUi s.ims t.ims=false:=by unfold zUi; rw [decide_eq_false hl]; rfl
   rw [E,this]; simp
  ·rw [E,decide_eq_false h5]; simp
  ·have h4:(s.th==t.th)=false:=by simpa using h4
   rw [E,h4]; simp
  ·have h3:(s.tw==t.tw)=false:=by simpa using h3
   rw [E,h3]; simp
  ·rw [E,h2]; simp
  ·have h1:(s.bits==t.bits)=false:=by simpa using h1
   rw [E,h1]; simp
end
section
variable {α:Type} {f:α→List DV} {m:Nat}
end
def pxIn (p:Px):Prop:=(0≤p.a∧p.a≤65535)∧(0≤p.b∧p.b≤65535)∧(0≤p.c∧p.c≤65535)∧(0≤p.al∧p.al≤65535)∧(0≤p.f∧p.f≤65535)
def imIn (m:Im):Prop:=m.formed=true∧pxIn m.c∧∀ p∈m.pixels,pxIn p
def Im.nrm (m:Im):Im:=if m.so then zQf m.w m.h m.c else imOf m.w m.h m.pixels
def Scr.norm (s:Scr):Scr:=⟨s.bits,s.c,s.tw,s.th,s.ord,s.ims.map Im.nrm,s.ops⟩
theorem jKn {p:Px} {most:Int} (h:p.fine most) (hm:most≤65535):pxIn p:=by
 obtain ⟨h1,h2,h3,h4,h5⟩:=h
 simp [Px.ok] at h1
 exact ⟨by omega,by omega,by omega,by omega,by omega⟩
theorem jX0 {m:Im} (hf:m.formed=true) (hp:∀ p∈m.pixels,pxIn p):imIn m:=by
 refine ⟨hf,?_,hp⟩
 by_cases hs:m.so=true
 ·have:=Im.count_pos hf
  refine hp _ ?_
  rw [Im.pixels_so hf hs]
  exact List.mem_replicate.2 ⟨by omega,rfl⟩
 ·rw [(Im.inner_planes (Im.formed_of hf).2 (by simpa using hs)).1]
  exact ⟨⟨by decide,by decide⟩,⟨by decide,by decide⟩,⟨by decide,by decide⟩,⟨by decide,by decide⟩,⟨by decide,by decide⟩⟩
theorem Scn.ims_in (s:Scn):∀ m∈s.ims,imIn m:=by
 have hq:1≤s.c.c - s.c.a∧s.c.c - s.c.a≤100∧1≤s.c.d - s.c.b∧s.c.d - s.c.b≤100:=by have:=s.facts; have CF:=s.c_facts; omega
 have hm:0≤s.most∧s.most≤65535:=by rcases s.most_in with h | h <;> rw [h] <;> omega
 intro m hmem
 refine jX0 (s.fine m hmem).1 fun p hp=>jKn (most:=s.most) ?_ hm.2
 unfold Scn.ims at hmem
 split at hmem
 ·rw [List.mem_singleton] at hmem
  subst hmem
  have F:=s.facts
  have hf:zQZ s.gw s.gh=true:=by
   have:=Int.mul_le_mul F.2.2.1.2 F.2.2.2.1.2 (by omega) (by omega)
   simp [zQZ]; omega
  change p∈(zQf s.gw s.gh ⟨s.most,0,0,s.most,s.most⟩).pixels at hp
  rw [Im.pixels_of (zZ9 _ hf),Im.list,List.mem_map] at hp
  obtain ⟨k,_,rfl⟩:=hp
  have e:(zQf s.gw s.gh ⟨s.most,0,0,s.most,s.most⟩).nth k=⟨s.most,0,0,s.most,s.most⟩:=by simp [Im.nth,Im.px,zQf]
  change ((zQf s.gw s.gh ⟨s.most,0,0,s.most,s.most⟩).nth k).fine s.most
  rw [e]
  exact ⟨by simp [Px.ok]; omega,by simp only; omega,by simp only; omega,by simp only; omega,by simp only; omega⟩
 ·simp only [Scn.pics,List.mem_map] at hmem
  obtain ⟨k,_,rfl⟩:=hmem
  exact zWR _ _ _ _ _ _ _ _ _ _ hm.1 hm.2 hq p hp
theorem jJl (r:Rw) (push:Bool) (n:Int) (c:Rc) (free:Bool) {most:Int} (h0:0≤most) (h1:most≤65535):0≤(gOp r push n c free most).opac∧(gOp r push n c free most).opac≤65535:=by
 unfold gOp
 simp only
 split
 ·have:=zXM (IntKind.wrap .i64 (Int.tdiv r.op 2)) h0 h1
  omega
 ·omega
theorem Scn.run_opac (s:Scn):∀ k,∀ o∈(s.run k).1,0≤o.opac∧o.opac≤65535
 | 0,o,ho=>by cases ho
 | k+1,o,ho=>by
  have hm:0≤s.most∧s.most≤65535:=by rcases s.most_in with h | h <;> rw [h] <;> omega
  have ih:=s.run_opac k
  have ho:o∈(s.step (rwAt s.rxs (k*11)) (s.run k)).1:=ho
  unfold Scn.step at ho
  split at ho
  ·rcases List.mem_append.1 ho with h | h
   ·exact ih o h
   ·rw [List.mem_singleton] at h
    subst h
    exact ⟨by decide,by decide⟩
  ·rcases List.mem_append.1 ho with h | h
   ·exact ih o h
   ·rw [List.mem_singleton] at h
    subst h
    exact jJl _ _ _ _ _ hm.1 hm.2
theorem Scn.ops_opac (s:Scn):∀ o∈s.ops,0≤o.opac∧o.opac≤65535:=fun o ho=>by
 rcases List.mem_append.1 (show o∈(s.run (min s.rn 9)).1++List.replicate (s.run (min s.rn 9)).2.length popO from ho) with h | h
 ·exact s.run_opac _ o h
 ·rw [List.eq_of_mem_replicate h]
  exact ⟨by decide,by decide⟩
def Scn.scr (s:Scn):Scr:=⟨s.bits,s.c,s.gtw,s.gth,s.ord,s.ims,s.ops⟩
theorem jJq {m:Im} (h:m.formed=true):eqI m m=true:=by
 unfold eqI Im.equal
 simp [h]
theorem jJp {s:Scr} (h:∀ m∈s.ims,m.formed=true):eqS s s=true:=by
 have h1:zUi s.ims s.ims=true:=by
  unfold zUi eqTo
  rw [decide_eq_true rfl,Bool.true_and,List.all_eq_true]
  intro i hi
  have hi:=List.mem_range.1 hi
  rw [zHs hi]
  exact jJq (h _ (List.getElem_mem hi))
 unfold eqS
 rw [h1]
 simp
section
attribute [local irreducible] Ans AnsO AnsG AnsN AnsI
open Go.Lib
def fmtA (s:Scr) (k:Nat):Lb:=hdTx s++orTx s++(s.ims.take k).flatMap imTx
def fmtC (s:Scr) (j:Nat):Lb:=fmtA s s.ims.length++(s.ops.take j).flatMap opLn
theorem jZf (s:Scr):fmtC s s.ops.length=fmtT s:=by
 unfold fmtC fmtA fmtT
 rw [List.take_length,List.take_length]
theorem jYa {s:Scr} {k:Nat} (h:k < s.ims.length):fmtA s (k+1)=fmtA s k++imTx s.ims[k]:=by
 unfold fmtA
 rw [List.take_succ_eq_append_getElem h,List.flatMap_append]
 simp only [List.append_assoc,List.flatMap_cons,List.flatMap_nil,List.append_nil]
theorem jX9 {s:Scr} {j:Nat} (h:j < s.ops.length):fmtC s (j+1)=fmtC s j++opLn s.ops[j]:=by
 unfold fmtC
 rw [List.take_succ_eq_append_getElem h,List.flatMap_append]
 simp only [List.append_assoc,List.flatMap_cons,List.flatMap_nil,List.append_nil]
theorem jQv {α:Type} {f:α→Lb} {B:Nat} {l:List α} (h:∀ a∈l,(f a).length≤B):(l.flatMap f).length≤l.length*B:=by
 induction l with
 | nil=>simp
 | cons a l ih=>
  have h1:=h a (by simp)
  have h2:=ih fun b hb=>h b (by simp [hb])
  rw [List.flatMap_cons,List.length_append,List.length_cons,Nat.add_mul]
  omega
theorem zYh {w:Lb} {l:List Int} {n:Nat} (h:∀ x∈l,-9223372036854775808≤x∧x≤9223372036854775807) (hn:l.length=n):(zZa w l).length≤w.length+22*n:=by
 rw [← hn]; exact jXT h
theorem jYP {p:Px} (h:pxIn p):(pxTx p).length≤111:=by
 obtain ⟨h1,h2,h3,h4,h5⟩:=h
 have:(zZa [] (smpP p)).length≤([]:Lb).length+22*5:=zYh (fun x hx=>by
  simp only [smpP,List.mem_cons,List.not_mem_nil,or_false] at hx
  omega) rfl
 unfold pxTx
 rw [List.length_append]
 simp only [List.length_nil,List.length_cons] at this ⊢
 omega
theorem jYX {o:Oq} (h:opOk o=true) (hc:0≤o.opac∧o.opac≤65535):(opTx o).length≤300:=by
 unfold opOk at h
 simp [fitL] at h
 have l1:=jZL o.oper
 have l2:=zHi o.mode
 have b1:=jYs o.iso
 have b2:=jYs o.kno
 have lt:(zJ7 o).length≤42:=by
  unfold zJ7
  simp only [List.length_append,List.length_cons,List.length_nil]; omega
 have lD:(zZa zZ0 [o.image,o.x,o.y,o.mask,o.mx,o.my,o.opac]).length≤4+22*7:=zYh (fun n hn=>by
  simp only [List.mem_cons,List.not_mem_nil,or_false] at hn
  omega) rfl
 have lP:(zZa zZ1 [o.mask,o.mx,o.my,o.opac]).length≤4+22*4:=zYh (fun n hn=>by
  simp only [List.mem_cons,List.not_mem_nil,or_false] at hn
  omega) rfl
 have lT:(zZa (zJ7 o) [bitN o.iso,bitN o.kno]).length≤(zJ7 o).length+22*2:=zYh (fun n hn=>by
  simp only [List.mem_cons,List.not_mem_nil,or_false] at hn
  omega) rfl
 unfold opTx
 split
 ·rw [List.length_append]; omega
 ·split
  ·rw [List.length_append]; omega
  ·decide
structure Prt (s:Scr):Prop where
  bits:0≤s.bits∧s.bits≤255
  c:(-2147483648≤s.c.a∧s.c.a≤2147483647)∧(-2147483648≤s.c.b∧s.c.b≤2147483647)∧(-2147483648≤s.c.c∧s.c.c≤2147483647)∧(-2147483648≤s.c.d∧s.c.d≤2147483647)
  t:(0≤s.tw∧s.tw≤4294967295)∧(0≤s.th∧s.th≤4294967295)
  o:∀ x∈s.ord,0≤x∧x≤4294967295
  ol:s.ord.length≤16777216
  il:s.ims.length≤64
  pl:s.ops.length≤4096
  fm:∀ m∈s.ims,m.formed=true
  op:∀ o∈s.ops,opOk o=true∧prtO o=true
theorem jJJ {s:Scr} (h:zVi s=true):Prt s:=by
 unfold zVi at h
 simp only [zZR,zX7,Bool.and_eq_true,decide_eq_true_eq] at h
 obtain ⟨⟨⟨⟨⟨⟨⟨⟨⟨h1,h2⟩,h3⟩,h4⟩,h5⟩,h6⟩,h7⟩,h8⟩,h9⟩,h10⟩:=h
 have z:=zXJ h7
 simp [fitL] at h1 h2 h3
 simp only [fitL,List.all_eq_true,decide_eq_true_eq] at h4
 simp only [List.all_eq_true] at h7 h8 h10
 unfold zXr at h9
 exact ⟨h1,h2,h3,h4,by omega,h5,h6,h7,fun o ho=>⟨h8 o ho,h10 o ho⟩⟩
theorem Im.wh {m:Im} (h:m.formed=true):(1≤m.w∧m.w≤16777216)∧(1≤m.h∧m.h≤16777216):=by
 have h1:=(Im.formed_of h).1
 have h2:=sizeIm_le' h
 simp [zQZ] at h1
 have h3:=Int.mul_le_mul_of_nonneg_left (by omega:1≤m.h) (by omega:0≤m.w)
 have h4:=Int.mul_le_mul_of_nonneg_right (by omega:1≤m.w) (by omega:0≤m.h)
 omega
theorem jJe {m:Im} (h:imIn m):(imTx m).length≤1862271376:=by
 have hw:=Im.wh h.1
 have hpx:=Im.pixels_len h.1
 have hle:=sizeIm_le' h.1
 have l1:(zZa zQ2 [m.w,m.h]).length≤5+22*2:=zYh (fun n hn=>by
  simp only [List.mem_cons,List.not_mem_nil,or_false] at hn
  omega) rfl
 have l3:(zZa zQ3 [m.w,m.h]).length≤5+22*2:=zYh (fun n hn=>by
  simp only [List.mem_cons,List.not_mem_nil,or_false] at hn
  omega) rfl
 have hc:=h.2.1
 obtain ⟨c1,c2,c3,c4,c5⟩:=hc
 have l2:(zZa (zZa zQ2 [m.w,m.h]) (smpP m.c)).length≤(zZa zQ2 [m.w,m.h]).length+22*5:=zYh (fun x hx=>by
  simp only [smpP,List.mem_cons,List.not_mem_nil,or_false] at hx
  omega) rfl
 have l4:=jQv (f:=pxTx) (B:=111) (l:=m.pixels) fun p hp=>jYP (h.2.2 p hp)
 unfold imTx
 split
 ·simp only [List.length_append,List.length_cons,List.length_nil]; omega
 ·simp only [List.length_append,List.length_cons,List.length_nil]; omega
theorem jZa {s:Scr} (P:Prt s):(zZa zYf [s.bits]).length≤4+22*1∧(zZa zZH [s.c.a,s.c.b,s.c.c,s.c.d]).length≤6+22*4∧(zZa zXa [s.tw,s.th]).length≤5+22*2∧(zZa zZt s.ord).length≤5+22*s.ord.length:=by
 obtain ⟨p1,p2,p3,p4,p5,p6,p7,p8,p9⟩:=P
 refine ⟨zYh (fun n hn=>?_) rfl,zYh (fun n hn=>?_) rfl,zYh (fun n hn=>?_) rfl,zYh (fun n hn=>?_) rfl⟩
 ·simp only [List.mem_cons,List.not_mem_nil,or_false] at hn; omega
 ·simp only [List.mem_cons,List.not_mem_nil,or_false] at hn; omega
 ·simp only [List.mem_cons,List.not_mem_nil,or_false] at hn; omega
 ·have:=p4 n hn; omega
theorem jZg {s:Scr} (P:Prt s) (hI:∀ m∈s.ims,imIn m) (k:Nat):(fmtA s k).length≤130000000000:=by
 have h:=jZa P
 obtain ⟨p1,p2,p3,p4,p5,p6,p7,p8,p9⟩:=P
 have h1:=jQv (f:=imTx) (B:=1862271376) (l:=s.ims.take k) fun m hm=>jJe (hI m (List.mem_of_mem_take hm))
 have h2:(s.ims.take k).length≤64:=by rw [List.length_take]; omega
 have h3:(orTx s).length≤5+22*s.ord.length+1:=by
  unfold orTx
  split
  ·simp only [List.length_append,List.length_cons,List.length_nil]; omega
  ·simp
 unfold fmtA hdTx
 simp only [List.length_append,List.length_cons,List.length_nil]
 omega
theorem jJm {s:Scr} (P:Prt s) (hI:∀ m∈s.ims,imIn m) (hq:∀ o∈s.ops,0≤o.opac∧o.opac≤65535) (j:Nat):(fmtC s j).length≤140000000000:=by
 have h:=jZg P hI s.ims.length
 obtain ⟨p1,p2,p3,p4,p5,p6,p7,p8,p9⟩:=P
 have h1:=jQv (f:=opLn) (B:=301) (l:=s.ops.take j) fun o ho=>by
  have hm:=List.mem_of_mem_take ho
  have:=jYX (p9 o hm).1 (hq o hm)
  unfold opLn
  simp only [List.length_append,List.length_cons,List.length_nil]
  omega
 have h2:(s.ops.take j).length≤4096:=by rw [List.length_take]; omega
 unfold fmtC
 rw [List.length_append]
 omega
def jJV:Gam where
 pure:=fun f xs=>
  if f=96 then gZ1 xs else
  none
 modes:=fun f=>
  none
 proc:=fun f xs bs=>
  none
 iter:=fun f cs=>
  none
theorem zKR (w:Lb):Ans prog 157 [RV.d (DV.str (toS w))] (RV.tup [rJ (((nmR zQo (ofS (toS w))).1)),RV.d (dQ ((nmR zQo (ofS (toS w))).2))]):=
 zQm (Γ:=jJV) (Ann.seq Ann.leaf (Ann.seq (Ann.seq Ann.leaf (Ann.loop ⟨Nat,fun k=>k≤13∧∀ j:Nat,1≤j→j < k→ofS (zQo (j:Int))≠w,fun k=>⟨[(0,AV.one (Cl.d (DV.str (toS w)))),(6,AV.agg [Cl.d (DV.str (sAt zQa 0)),cJ (nAt zQa 1),cJ (nAt zQa 2),cJ (nAt zQa 3),Cl.d (DV.str (sAt zQa 4)),cJ (nAt zQa 5),cJ (nAt zQa 6),cJ (nAt zQa 7),Cl.d (DV.str (sAt zQa 8)),cJ (nAt zQa 9),cJ (nAt zQa 10),cJ (nAt zQa 11),Cl.d (DV.str (sAt zQa 12)),cJ (nAt zQa 13),cJ (nAt zQa 14),cJ (nAt zQa 15),Cl.d (DV.str (sAt zQa 16)),cJ (nAt zQa 17),cJ (nAt zQa 18),cJ (nAt zQa 19),Cl.d (DV.str (sAt zQa 20)),cJ (nAt zQa 21),cJ (nAt zQa 22),cJ (nAt zQa 23),Cl.d (DV.str (sAt zQa 24)),cJ (nAt zQa 25),cJ (nAt zQa 26),cJ (nAt zQa 27),Cl.d (DV.str (sAt zQa 28)),cJ (nAt zQa 29),cJ (nAt zQa 30),cJ (nAt zQa 31),Cl.d (DV.str (sAt zQa 32)),cJ (nAt zQa 33),cJ (nAt zQa 34),cJ (nAt zQa 35),Cl.d (DV.str (sAt zQa 36)),cJ (nAt zQa 37),cJ (nAt zQa 38),cJ (nAt zQa 39),Cl.d (DV.str (sAt zQa 40)),cJ (nAt zQa 41),cJ (nAt zQa 42),cJ (nAt zQa 43),Cl.d (DV.str (sAt zQa 44)),cJ (nAt zQa 45),cJ (nAt zQa 46),cJ (nAt zQa 47),Cl.d (DV.str (sAt zQa 48)),cJ (nAt zQa 49),cJ (nAt zQa 50),cJ (nAt zQa 51)]),(7,aJ (k:Int))],[]⟩,fun k=>13 - k⟩ fun k=>Ann.leaf)) Ann.leaf)) zQB Tryz.func157 rfl (Nat.le_of_ble_eq_true rfl) fun hwf=>by
  refine Eq.mpr (by kernel_rfl:_=(let b:=(DV.str (toS w)=DV.str (toS w)); let a:=[DV.str (sAt zQa 0),dJ (nAt zQa 1),dJ (nAt zQa 2),dJ (nAt zQa 3),DV.str (sAt zQa 4),dJ (nAt zQa 5),dJ (nAt zQa 6),dJ (nAt zQa 7),DV.str (sAt zQa 8),dJ (nAt zQa 9),dJ (nAt zQa 10),dJ (nAt zQa 11),DV.str (sAt zQa 12),dJ (nAt zQa 13),dJ (nAt zQa 14),dJ (nAt zQa 15),DV.str (sAt zQa 16),dJ (nAt zQa 17),dJ (nAt zQa 18),dJ (nAt zQa 19),DV.str (sAt zQa 20),dJ (nAt zQa 21),dJ (nAt zQa 22),dJ (nAt zQa 23),DV.str (sAt zQa 24),dJ (nAt zQa 25),dJ (nAt zQa 26),dJ (nAt zQa 27),DV.str (sAt zQa 28),dJ (nAt zQa 29),dJ (nAt zQa 30),dJ (nAt zQa 31),DV.str (sAt zQa 32),dJ (nAt zQa 33),dJ (nAt zQa 34),dJ (nAt zQa 35),DV.str (sAt zQa 36),dJ (nAt zQa 37),dJ (nAt zQa 38),dJ (nAt zQa 39),DV.str (sAt zQa 40),dJ (nAt zQa 41),dJ (nAt zQa 42),dJ (nAt zQa 43),DV.str (sAt zQa 44),dJ (nAt zQa 45),dJ (nAt zQa 46),dJ (nAt zQa 47),DV.str (sAt zQa 48),dJ (nAt zQa 49),dJ (nAt zQa 50),dJ (nAt zQa 51)]; let c:=(a=a); let d:=[rJ (nmR zQo (ofS (toS w))).1,RV.d (dQ (nmR zQo (ofS (toS w))).2)]; let e:=fun (k:Nat)=>fun (k':Nat)=>((b∧c∧(dJ (wK ((k:Int)+1))=dJ (k':Int))∧True)∧True); tU2 (((zQa[0]?=some (DV.str (sAt zQa 0)))∧(zQa[1]?=some (dJ (nAt zQa 1)))∧(zQa[2]?=some (dJ (nAt zQa 2)))∧(zQa[3]?=some (dJ (nAt zQa 3)))∧(zQa[4]?=some (DV.str (sAt zQa 4)))∧(zQa[5]?=some (dJ (nAt zQa 5)))∧(zQa[6]?=some (dJ (nAt zQa 6)))∧(zQa[7]?=some (dJ (nAt zQa 7)))∧(zQa[8]?=some (DV.str (sAt zQa 8)))∧(zQa[9]?=some (dJ (nAt zQa 9)))∧(zQa[10]?=some (dJ (nAt zQa 10)))∧(zQa[11]?=some (dJ (nAt zQa 11)))∧(zQa[12]?=some (DV.str (sAt zQa 12)))∧(zQa[13]?=some (dJ (nAt zQa 13)))∧(zQa[14]?=some (dJ (nAt zQa 14)))∧(zQa[15]?=some (dJ (nAt zQa 15)))∧(zQa[16]?=some (DV.str (sAt zQa 16)))∧(zQa[17]?=some (dJ (nAt zQa 17)))∧(zQa[18]?=some (dJ (nAt zQa 18)))∧(zQa[19]?=some (dJ (nAt zQa 19)))∧(zQa[20]?=some (DV.str (sAt zQa 20)))∧(zQa[21]?=some (dJ (nAt zQa 21)))∧(zQa[22]?=some (dJ (nAt zQa 22)))∧(zQa[23]?=some (dJ (nAt zQa 23)))∧(zQa[24]?=some (DV.str (sAt zQa 24)))∧(zQa[25]?=some (dJ (nAt zQa 25)))∧(zQa[26]?=some (dJ (nAt zQa 26)))∧(zQa[27]?=some (dJ (nAt zQa 27)))∧(zQa[28]?=some (DV.str (sAt zQa 28)))∧(zQa[29]?=some (dJ (nAt zQa 29)))∧(zQa[30]?=some (dJ (nAt zQa 30)))∧(zQa[31]?=some (dJ (nAt zQa 31)))∧(zQa[32]?=some (DV.str (sAt zQa 32)))∧(zQa[33]?=some (dJ (nAt zQa 33)))∧(zQa[34]?=some (dJ (nAt zQa 34)))∧(zQa[35]?=some (dJ (nAt zQa 35)))∧(zQa[36]?=some (DV.str (sAt zQa 36)))∧(zQa[37]?=some (dJ (nAt zQa 37)))∧(zQa[38]?=some (dJ (nAt zQa 38)))∧(zQa[39]?=some (dJ (nAt zQa 39)))∧(zQa[40]?=some (DV.str (sAt zQa 40)))∧(zQa[41]?=some (dJ (nAt zQa 41)))∧(zQa[42]?=some (dJ (nAt zQa 42)))∧(zQa[43]?=some (dJ (nAt zQa 43)))∧(zQa[44]?=some (DV.str (sAt zQa 44)))∧(zQa[45]?=some (dJ (nAt zQa 45)))∧(zQa[46]?=some (dJ (nAt zQa 46)))∧(zQa[47]?=some (dJ (nAt zQa 47)))∧(zQa[48]?=some (DV.str (sAt zQa 48)))∧(zQa[49]?=some (dJ (nAt zQa 49)))∧(zQa[50]?=some (dJ (nAt zQa 50)))∧(zQa[51]?=some (dJ (nAt zQa 51)))∧True)∧True∧((∃ k:Nat,(k≤13∧∀ j:Nat,1≤j→j < k→ofS (zQo (j:Int))≠w)∧((b∧c∧(dJ 0=dJ (k:Int))∧True)∧True))∧∀ k:Nat,let f:=(sAt a ((k:Int).toNat*4)); let g:=(f.toList==(toS w).toList); (k≤13∧∀ j:Nat,1≤j→j < k→ofS (zQo (j:Int))≠w)→True∧(((decide ((k:Int) < 13))=true→True∧(0≤(k:Int)∧(k:Int) < ((13:Nat):Int)∧(a[(k:Int).toNat*4]?=some (DV.str f))∧(a[(k:Int).toNat*4+1]?=some (dJ (nAt a ((k:Int).toNat*4+1))))∧(a[(k:Int).toNat*4+1+1]?=some (dJ (nAt a ((k:Int).toNat*4+1+1))))∧(a[(k:Int).toNat*4+1+1+1]?=some (dJ (nAt a ((k:Int).toNat*4+1+1+1))))∧True)∧tU8 ((g=true→tU3 (((decide ((k:Int) > 0))=true→tU3 (RV.tup [rJ (k:Int),RV.d (dQ true)]=RV.tup d))∧((decide ((k:Int) > 0))=false→tU2 (∃ k':Nat,(k'≤13∧∀ j:Nat,1≤j→j < k'→ofS (zQo (j:Int))≠w)∧(13 - k' < 13 - k)∧(e k k')))))∧(g=(!true)→tU3 (∃ k':Nat,(k'≤13∧∀ j:Nat,1≤j→j < k'→ofS (zQo (j:Int))≠w)∧(13 - k' < 13 - k)∧(e k k')))))∧((decide ((k:Int) < 13))=false→tU2 (RV.tup [rJ 0,RV.d (dQ false)]=RV.tup d))))))) ?_
  delta tU2 tU3 tU8 dJ dQ wK rJ
  simp only [sS]
  simp only [zQL]
  clear hwf
  have hg:[DV.str (sAt zQa 0),DV.int .i64 (nAt zQa 1),DV.int .i64 (nAt zQa 2),DV.int .i64 (nAt zQa 3),DV.str (sAt zQa 4),DV.int .i64 (nAt zQa 5),DV.int .i64 (nAt zQa 6),DV.int .i64 (nAt zQa 7),DV.str (sAt zQa 8),DV.int .i64 (nAt zQa 9),DV.int .i64 (nAt zQa 10),DV.int .i64 (nAt zQa 11),DV.str (sAt zQa 12),DV.int .i64 (nAt zQa 13),DV.int .i64 (nAt zQa 14),DV.int .i64 (nAt zQa 15),DV.str (sAt zQa 16),DV.int .i64 (nAt zQa 17),DV.int .i64 (nAt zQa 18),DV.int .i64 (nAt zQa 19),DV.str (sAt zQa 20),DV.int .i64 (nAt zQa 21),DV.int .i64 (nAt zQa 22),DV.int .i64 (nAt zQa 23),DV.str (sAt zQa 24),DV.int .i64 (nAt zQa 25),DV.int .i64 (nAt zQa 26),DV.int .i64 (nAt zQa 27),DV.str (sAt zQa 28),DV.int .i64 (nAt zQa 29),DV.int .i64 (nAt zQa 30),DV.int .i64 (nAt zQa 31),DV.str (sAt zQa 32),DV.int .i64 (nAt zQa 33),DV.int .i64 (nAt zQa 34),DV.int .i64 (nAt zQa 35),DV.str (sAt zQa 36),DV.int .i64 (nAt zQa 37),DV.int .i64 (nAt zQa 38),DV.int .i64 (nAt zQa 39),DV.str (sAt zQa 40),DV.int .i64 (nAt zQa 41),DV.int .i64 (nAt zQa 42),DV.int .i64 (nAt zQa 43),DV.str (sAt zQa 44),DV.int .i64 (nAt zQa 45),DV.int .i64 (nAt zQa 46),DV.int .i64 (nAt zQa 47),DV.str (sAt zQa 48),DV.int .i64 (nAt zQa 49),DV.int .i64 (nAt zQa 50),DV.int .i64 (nAt zQa 51)]=zQa:=rfl
  rw [hg]
  refine ⟨by (repeat' apply And.intro) <;> rfl,⟨0,⟨Nat.zero_le _,fun j h1 h2=>absurd h2 (Nat.not_lt_zero j)⟩,rfl⟩,fun k hk=>⟨fun hlt=>?_,fun hge=>?_⟩⟩
  ·have hk13:k < 13:=by omega
   have w1:IntKind.wrap .i64 ((k:Int)+1)=((k+1:Nat):Int):=by rw [IntWalk.i64_in _ ⟨by omega,by omega⟩]; omega
   have hrd:zQa[k*4]?=some (DV.str (sAt zQa (k*4)))∧zQa[k*4+1]?=some (DV.int .i64 (nAt zQa (k*4+1)))∧zQa[k*4+1+1]?=some (DV.int .i64 (nAt zQa (k*4+1+1)))∧zQa[k*4+1+1+1]?=some (DV.int .i64 (nAt zQa (k*4+1+1+1))):=by
    have:k=0∨k=1∨k=2∨k=3∨k=4∨k=5∨k=6∨k=7∨k=8∨k=9∨k=10∨k=11∨k=12:=by omega
    rcases this with rfl | rfl | rfl | rfl | rfl | rfl | rfl | rfl | rfl | rfl | rfl | rfl | rfl <;> exact ⟨rfl,rfl,rfl,rfl⟩
   have hnm:1≤k→sAt zQa (k*4)=zQo (k:Int):=fun h=>by unfold zQo; rw [if_pos ⟨by omega,by omega⟩,Int.toNat_natCast]; skip
   have next:(1≤k→ofS (zQo (k:Int))≠w)→∃ k',(k'≤13∧∀ j:Nat,1≤j→j < k'→ofS (zQo (j:Int))≠w)∧13 - k' < 13 - k∧IntKind.wrap .i64 ((k:Int)+1)=(k':Int):=fun h=>⟨k+1,⟨by omega,fun j h1 h2=>by
    rcases Nat.lt_or_ge j k with h3 | h3
    ·exact hk.2 j h1 h3
    ·have:j=k:=by omega
     subst this; exact h h1⟩,by omega,w1⟩
   have hit:1≤k→ofS (zQo (k:Int))=w→nmR zQo w=((k:Int),true):=fun h1 h2=>by
    obtain ⟨m,rfl⟩:∃ m,k=m+1:=⟨k - 1,by omega⟩
    have e:=zVX (f:=zQo) (w:=w) (k:=m) (by omega) (by simpa using h2) (fun j hj=>by simpa using hk.2 (j+1) (by omega) (by omega))
    rw [e]; simp
   simp only [zGB,decide_eq_true_eq,decide_eq_false_iff_not]
   refine ⟨⟨by omega,by omega,hrd⟩,fun h=>⟨fun h2=>?_,fun h2=>next fun h1=>absurd (by omega) h2⟩,fun h=>next fun h1=>by rw [← hnm h1]; exact h⟩
   rw [hnm (by omega)] at h
   rw [hit (by omega) h]
   exact ⟨rfl,rfl⟩
  ·rw [zVY (f:=zQo) fun j hj=>by simpa using hk.2 (j+1) (by omega) (by omega)]
   exact ⟨rfl,rfl⟩
theorem zW1 (w:Lb):Ans prog 158 [RV.d (DV.str (toS w))] (RV.tup [rJ (((nmR zQg (ofS (toS w))).1)),RV.d (dQ ((nmR zQg (ofS (toS w))).2))]):=
 zQm (Γ:=jJV) (Ann.seq Ann.leaf (Ann.seq (Ann.seq Ann.leaf (Ann.loop ⟨Nat,fun k=>k≤13∧∀ j:Nat,1≤j→j < k→ofS (zQg (j:Int))≠w,fun k=>⟨[(0,AV.one (Cl.d (DV.str (toS w)))),(6,AV.agg [Cl.d (DV.str (sAt zQk 0)),Cl.d (DV.str (sAt zQk 1)),Cl.d (DV.str (sAt zQk 2)),Cl.d (DV.str (sAt zQk 3)),Cl.d (DV.str (sAt zQk 4)),Cl.d (DV.str (sAt zQk 5)),Cl.d (DV.str (sAt zQk 6)),Cl.d (DV.str (sAt zQk 7)),Cl.d (DV.str (sAt zQk 8)),Cl.d (DV.str (sAt zQk 9)),Cl.d (DV.str (sAt zQk 10)),Cl.d (DV.str (sAt zQk 11)),Cl.d (DV.str (sAt zQk 12))]),(7,aJ (k:Int))],[]⟩,fun k=>13 - k⟩ fun k=>Ann.leaf)) Ann.leaf)) zQB Tryz.func158 rfl (Nat.le_of_ble_eq_true rfl) fun hwf=>by
  refine Eq.mpr (by kernel_rfl:_=(let c:=(nmR zQg (ofS (toS w))); let d:=(DV.str (toS w)=DV.str (toS w)); let a:=[DV.str (sAt zQk 0),DV.str (sAt zQk 1),DV.str (sAt zQk 2),DV.str (sAt zQk 3),DV.str (sAt zQk 4),DV.str (sAt zQk 5),DV.str (sAt zQk 6),DV.str (sAt zQk 7),DV.str (sAt zQk 8),DV.str (sAt zQk 9),DV.str (sAt zQk 10),DV.str (sAt zQk 11),DV.str (sAt zQk 12)]; let e:=(a=a); let f:=[rJ c.1,RV.d (dQ c.2)]; let g:=fun (k:Nat)=>fun (k':Nat)=>((d∧e∧(dJ (wK ((k:Int)+1))=dJ (k':Int))∧True)∧True); tU2 (((zQk[0]?=some (DV.str (sAt zQk 0)))∧(zQk[1]?=some (DV.str (sAt zQk 1)))∧(zQk[2]?=some (DV.str (sAt zQk 2)))∧(zQk[3]?=some (DV.str (sAt zQk 3)))∧(zQk[4]?=some (DV.str (sAt zQk 4)))∧(zQk[5]?=some (DV.str (sAt zQk 5)))∧(zQk[6]?=some (DV.str (sAt zQk 6)))∧(zQk[7]?=some (DV.str (sAt zQk 7)))∧(zQk[8]?=some (DV.str (sAt zQk 8)))∧(zQk[9]?=some (DV.str (sAt zQk 9)))∧(zQk[10]?=some (DV.str (sAt zQk 10)))∧(zQk[11]?=some (DV.str (sAt zQk 11)))∧(zQk[12]?=some (DV.str (sAt zQk 12)))∧True)∧True∧((∃ k:Nat,(k≤13∧∀ j:Nat,1≤j→j < k→ofS (zQg (j:Int))≠w)∧((d∧e∧(dJ 0=dJ (k:Int))∧True)∧True))∧∀ k:Nat,let h:=(sAt a ((k:Int).toNat*1)); let i:=(h.toList==(toS w).toList); let b:=(decide (1≤(k:Int)∧(k:Int) < 13)); (k≤13∧∀ j:Nat,1≤j→j < k→ofS (zQg (j:Int))≠w)→True∧(((decide ((k:Int) < 13))=true→True∧(0≤(k:Int)∧(k:Int) < ((13:Nat):Int)∧(a[(k:Int).toNat*1]?=some (DV.str h))∧True)∧tU6 ((i=true→True∧(Ans prog 96 [rJ (k:Int)] (RV.d (dQ b)))∧True∧((b=true→tU3 (RV.tup [rJ (k:Int),RV.d (dQ true)]=RV.tup f))∧(b=false→tU2 (∃ k':Nat,(k'≤13∧∀ j:Nat,1≤j→j < k'→ofS (zQg (j:Int))≠w)∧(13 - k' < 13 - k)∧(g k k')))))∧(i=(!true)→tU3 (∃ k':Nat,(k'≤13∧∀ j:Nat,1≤j→j < k'→ofS (zQg (j:Int))≠w)∧(13 - k' < 13 - k)∧(g k k')))))∧((decide ((k:Int) < 13))=false→tU2 (RV.tup [rJ 0,RV.d (dQ false)]=RV.tup f))))))) ?_
  delta tU2 tU3 tU6 dJ dQ wK rJ
  simp only [sS]
  simp only [zQL]
  clear hwf
  have hg:[DV.str (sAt zQk 0),DV.str (sAt zQk 1),DV.str (sAt zQk 2),DV.str (sAt zQk 3),DV.str (sAt zQk 4),DV.str (sAt zQk 5),DV.str (sAt zQk 6),DV.str (sAt zQk 7),DV.str (sAt zQk 8),DV.str (sAt zQk 9),DV.str (sAt zQk 10),DV.str (sAt zQk 11),DV.str (sAt zQk 12)]=zQk:=rfl
  rw [hg]
  refine ⟨by (repeat' apply And.intro) <;> rfl,⟨0,⟨Nat.zero_le _,fun j h1 h2=>absurd h2 (Nat.not_lt_zero j)⟩,rfl⟩,fun k hk=>⟨fun hlt=>?_,fun hge=>?_⟩⟩
  ·have hk13:k < 13:=by omega
   have w1:IntKind.wrap .i64 ((k:Int)+1)=((k+1:Nat):Int):=by rw [IntWalk.i64_in _ ⟨by omega,by omega⟩]; omega
   have hrd:zQk[k*1]?=some (DV.str (sAt zQk (k*1))):=by
    have:k=0∨k=1∨k=2∨k=3∨k=4∨k=5∨k=6∨k=7∨k=8∨k=9∨k=10∨k=11∨k=12:=by omega
    rcases this with rfl | rfl | rfl | rfl | rfl | rfl | rfl | rfl | rfl | rfl | rfl | rfl | rfl <;> rfl
   have hnm:1≤k→sAt zQk (k*1)=zQg (k:Int):=fun h=>by unfold zQg; rw [if_pos ⟨by omega,by omega⟩,Int.toNat_natCast]; rw [Nat.mul_one]
   have next:(1≤k→ofS (zQg (k:Int))≠w)→∃ k',(k'≤13∧∀ j:Nat,1≤j→j < k'→ofS (zQg (j:Int))≠w)∧13 - k' < 13 - k∧IntKind.wrap .i64 ((k:Int)+1)=(k':Int):=fun h=>⟨k+1,⟨by omega,fun j h1 h2=>by
    rcases Nat.lt_or_ge j k with h3 | h3
    ·exact hk.2 j h1 h3
    ·have:j=k:=by omega
     subst this; exact h h1⟩,by omega,w1⟩
   have hit:1≤k→ofS (zQg (k:Int))=w→nmR zQg w=((k:Int),true):=fun h1 h2=>by
    obtain ⟨m,rfl⟩:∃ m,k=m+1:=⟨k - 1,by omega⟩
    have e:=zVX (f:=zQg) (w:=w) (k:=m) (by omega) (by simpa using h2) (fun j hj=>by simpa using hk.2 (j+1) (by omega) (by omega))
    rw [e]; simp
   simp only [zGB,decide_eq_true_eq,decide_eq_false_iff_not]
   have aV:=zXD (k:Int)
   refine ⟨⟨by omega,by omega,hrd⟩,fun h=>⟨aV,fun h2=>?_,fun h2=>next fun h1=>absurd ⟨by omega,by omega⟩ h2⟩,fun h=>next fun h1=>by rw [← hnm h1]; exact h⟩
   rw [hnm (by omega)] at h
   rw [hit (by omega) h]
   exact ⟨rfl,rfl⟩
  ·rw [zVY (f:=zQg) fun j hj=>by simpa using hk.2 (j+1) (by omega) (by omega)]
   exact ⟨rfl,rfl⟩
end
end Go.Proofs.YtheidkkebdhmkaaGreatDoor
namespace Go.Proofs
open Go.Shelf
def Tryz.lays169_ren:Go.Shelf.Ren:=⟨fun | 169=>29 | n=>n,fun | 70=>79 | 9=>9 | 0=>0 | 72=>82 | 37=>80 | 127=>122 | 3=>3 | 5=>5 | n=>n,fun | n=>n⟩
theorem Tryz.lays169:Go.Proofs.Lays.n169 Tryz.prog Tryz.lays169_ren:=by
 repeat' first | kernel_rfl | (intro; kernel_rfl) | constructor
theorem Tryz.Builder_Extra_169:Builder.Extra Tryz.prog Tryz.lays169_ren:={
 sizeBuilder:=by kernel_rfl
 liesBuilder:=by kernel_rfl
 t5:=Tryz.underlying5
 a5:=Tryz.isAgg5
 z5:=Tryz.sizeOf5
 v5:=Tryz.zeroValue5
 infoByte:=by kernel_rfl
 cellsByte:=by kernel_rfl
 sizeByte:=by kernel_rfl
 neB5:=by decide }
open Go.RowKit in
theorem Tryz.Builder_String (B b:Nat) (l:List UInt8) (w:World) (h:Lib.IsBuilder 82 5 B b (Lib.byteCells l) w) (h0:l≠[]) :
    Calls Tryz.prog 29 #[.pointer (some ⟨b,0,none⟩)] w fun e w'=>e=.returned (.string ⟨l.toArray⟩)∧Below B w w':=Any.Builder_String Tryz.lays169 Tryz.Builder_Extra_169 B b l w h h0
open Go.RowKit in
theorem Tryz.Builder_String_empty (B b:Nat) (w:World) (h:Lib.IsBuilder 82 5 B b [] w) (hBw:B≤w.heap.size) :
    Calls Tryz.prog 29 #[.pointer (some ⟨b,0,none⟩)] w fun e w'=>e=.returned (.string ⟨#[]⟩)∧Below B w w':=Any.Builder_String_empty Tryz.lays169 Tryz.Builder_Extra_169 B b w h hBw
open Go.RowKit in
theorem Tryz.Builder_String_any (B b:Nat) (l:List UInt8) (w:World) (h:Lib.IsBuilder 82 5 B b (Lib.byteCells l) w) (hBw:B≤w.heap.size) :
    Calls Tryz.prog 29 #[.pointer (some ⟨b,0,none⟩)] w fun e w'=>e=.returned (.string ⟨l.toArray⟩)∧Below B w w':=Any.Builder_String_any Tryz.lays169 Tryz.Builder_Extra_169 B b l w h hBw
def Tryz.lays244_ren:Go.Shelf.Ren:=⟨fun | 244=>153 | 247=>166 | 287=>178 | 321=>183 | 322=>184 | n=>n,fun | 9=>9 | 3=>3 | 75=>117 | 4=>4 | 5=>5 | 167=>202 | 37=>80 | 0=>0 | 85=>203 | 2=>2 | 53=>155 | 175=>212 | 46=>173 | 21=>21 | 80=>88 | n=>n,fun | n=>n⟩
theorem Tryz.lays244:Go.Proofs.Lays.n244 Tryz.prog Tryz.lays244_ren:=by
 repeat' first | kernel_rfl | (intro; kernel_rfl) | constructor
open Go.RowKit in
theorem Tryz.internal_strconv_Atoi (s:ByteArray) (n:Int) (hl:s.size≤18) (h:Lib.atoi s.data.toList=some n) (w:World) :
    Calls Tryz.prog 153 #[.string s] w fun e w'=>e=.returned (.tuple #[.int .i64 n,.nilIface])∧∃ t,w'=Lib.bytesWorld w 5 t:=Any.internal_strconv_Atoi Tryz.lays244 s n hl h w
def Tryz.lays172_ren:Go.Shelf.Ren:=⟨fun | 172=>138 | 244=>153 | 245=>154 | 247=>166 | 279=>167 | 280=>168 | 281=>169 | 282=>170 | 287=>178 | 316=>179 | 171=>97 | 205=>180 | 321=>183 | 322=>184 | 243=>123 | 246=>145 | 283=>159 | 284=>160 | 285=>161 | 286=>162 | 129=>173 | 317=>172 | 318=>174 | 319=>175 | 320=>176 | 337=>181 | 338=>182 | n=>n,fun | 9=>9 | 3=>3 | 75=>117 | 76=>119 | 4=>4 | 5=>5 | 167=>202 | 37=>80 | 0=>0 | 85=>203 | 2=>2 | 168=>205 | 53=>155 | 175=>212 | 46=>173 | 210=>216 | 127=>122 | 145=>226 | 143=>224 | 21=>21 | 171=>194 | 173=>197 | 212=>209 | 51=>188 | 20=>20 | 213=>210 | 232=>227 | 233=>228 | 80=>88 | n=>n,fun | 15=>4 | 16=>5 | 17=>3 | 18=>8 | 19=>9 | n=>n⟩
theorem Tryz.lays172:Go.Proofs.Lays.n172 Tryz.prog Tryz.lays172_ren:=by
 repeat' first | kernel_rfl | (intro; kernel_rfl) | constructor
open Go.RowKit in
theorem Tryz.strconv_Atoi (s:ByteArray) (n:Int) (hl:s.size≤18) (h:Lib.atoi s.data.toList=some n) (w:World) :
    Calls Tryz.prog 138 #[.string s] w fun e w'=>e=.returned (.tuple #[.int .i64 n,.nilIface])∧∃ t,w'=Lib.bytesWorld w 5 t:=Any.strconv_Atoi Tryz.lays172 s n hl h w
def Tryz.lays129_ren:Go.Shelf.Ren:=⟨fun | 129=>173 | n=>n,fun | 53=>155 | 3=>3 | 4=>4 | 46=>173 | 5=>5 | 9=>9 | n=>n,fun | n=>n⟩
theorem Tryz.lays129:Go.Proofs.Lays.n129 Tryz.prog Tryz.lays129_ren:=by
 repeat' first | kernel_rfl | (intro; kernel_rfl) | constructor
theorem Tryz.bits_Len64 (x:Int) (w:World) (h0:0≤x) (h1:x≤18446744073709551615) :
  Calls Tryz.prog 173 #[.int .u64 x] w fun e w'=>e=.returned (.int .i64 (Lib.bitLen x.toNat))∧w'=w:=Any.bits_Len64 Tryz.lays129 x w h0 h1
def Tryz.lays317_ren:Go.Shelf.Ren:=⟨fun | 317=>172 | n=>n,fun | 3=>3 | 46=>173 | n=>n,fun | n=>n⟩
theorem Tryz.lays317:Go.Proofs.Lays.n317 Tryz.prog Tryz.lays317_ren:=by
 repeat' first | kernel_rfl | (intro; kernel_rfl) | constructor
open Go.Lib in
theorem Tryz.internal_strconv_log10Pow2 (x:Nat) (h:x≤64) (w:World) :
    Calls Tryz.prog 172 #[.int .i64 x] w fun e w'=>e=.returned (.int .i64 (Lib.l10 x))∧w'=w:=Any.internal_strconv_log10Pow2 Tryz.lays317 x h w
def Tryz.lays318_ren:Go.Shelf.Ren:=⟨fun | 318=>174 | n=>n,fun | 3=>3 | 4=>4 | n=>n,fun | n=>n⟩
theorem Tryz.lays318:Go.Proofs.Lays.n318 Tryz.prog Tryz.lays318_ren:=by
 repeat' first | kernel_rfl | (intro; kernel_rfl) | constructor
open Go.Lib in
theorem Tryz.internal_strconv_bool2_int (b:Bool) (w:World) :
    Calls Tryz.prog 174 #[.bool b] w fun e w'=>e=.returned (.int .i64 (if b then 1 else 0))∧w'=w:=Any.internal_strconv_bool2_int Tryz.lays318 b w
def Tryz.lays283_ren:Go.Shelf.Ren:=⟨fun | 283=>159 | n=>n,fun | 3=>3 | 9=>9 | 4=>4 | n=>n,fun | n=>n⟩
theorem Tryz.lays283:Go.Proofs.Lays.n283 Tryz.prog Tryz.lays283_ren:=by
 repeat' first | kernel_rfl | (intro; kernel_rfl) | constructor
open Go.Lib in
theorem Tryz.internal_strconv_small (i:Nat) (h:i < 100) (w:World) :
    Calls Tryz.prog 159 #[.int .i64 i] w fun e w'=>e=.returned (.string ⟨(Lib.decDigits i).toArray⟩)∧w'=w:=Any.internal_strconv_small Tryz.lays283 i h w
def Tryz.laysM284_ren:Go.Shelf.Ren:=⟨fun | 284=>160 | 129=>173 | 317=>172 | 318=>174 | n=>n,fun | 53=>155 | 3=>3 | 212=>209 | 0=>0 | 4=>4 | 46=>173 | 5=>5 | 9=>9 | n=>n,fun | 17=>3 | n=>n⟩
theorem Tryz.laysM284:Go.Proofs.LaysM.n284 Tryz.prog Tryz.laysM284_ren:=by
 repeat' first | kernel_rfl | (intro; kernel_rfl) | constructor
open Go.Lib in
theorem Tryz.internal_strconv_numDigits (u:Nat) (h1:1≤u) (h2:u < 18446744073709551616) (w:World) (htab:Lib.TabIs Tryz.prog w "internal/strconv.uint64pow10" .u64 Lib.pow10Tab) :
    Calls Tryz.prog 160 #[.int .u64 u] w fun e w'=>e=.returned (.int .i64 (Lib.nDigits u))∧w'=w:=Any.internal_strconv_numDigits Tryz.laysM284 u h1 h2 w htab
def Tryz.lays285_ren:Go.Shelf.Ren:=⟨fun | 285=>161 | n=>n,fun | 37=>80 | 53=>155 | 3=>3 | 4=>4 | 51=>188 | 9=>9 | 5=>5 | 0=>0 | n=>n,fun | n=>n⟩
theorem Tryz.lays285:Go.Proofs.Lays.n285 Tryz.prog Tryz.lays285_ren:=by
 repeat' first | kernel_rfl | (intro; kernel_rfl) | constructor
open Go.RowKit Go.Sort Go.Lib in
theorem Tryz.internal_strconv_formatBase10 (blk off cap u:Nat) (d:Array UInt8) (w:World) (hH:Holds (fun (b:UInt8)=>Value.int .u8 (b.toNat:Int)) w blk off d) (hu:u < 10 ^ d.size) (hu64:u < 18446744073709551616) (hsz:d.size < 4611686018427387904) :
    Calls Tryz.prog 161 #[.slice (some ⟨blk,off,none⟩) d.size cap,.int .u64 u] w fun e w'=>
      e=.returned (.tuple #[])∧∃ (n v':Nat) (dk:Array UInt8),w'=(putRow (fun (b:UInt8)=>Value.int .u8 (b.toNat:Int)) w blk off dk).drewN n∧FmtInv d.size u 0 v' dk:=Any.internal_strconv_formatBase10 Tryz.lays285 blk off cap u d w hH hu hu64 hsz
def Tryz.laysM246_ren:Go.Shelf.Ren:=⟨fun | 246=>145 | 283=>159 | 284=>160 | 285=>161 | 286=>162 | 129=>173 | 317=>172 | 318=>174 | 319=>175 | 320=>176 | 337=>181 | 338=>182 | n=>n,fun | 2=>2 | 3=>3 | 9=>9 | 4=>4 | 171=>194 | 0=>0 | 53=>155 | 37=>80 | 5=>5 | 173=>197 | 212=>209 | 51=>188 | 20=>20 | 213=>210 | 46=>173 | 232=>227 | 233=>228 | n=>n,fun | 17=>3 | 18=>8 | 19=>9 | n=>n⟩
theorem Tryz.laysM246:Go.Proofs.LaysM.n246 Tryz.prog Tryz.laysM246_ren:=by
 repeat' first | kernel_rfl | (intro; kernel_rfl) | constructor
open Go.RowKit Go.Sort Go.Lib in
theorem Tryz.internal_strconv_FormatInt_10 (n:Int) (h0 : -9223372036854775808≤n) (h1:n≤9223372036854775807) (w:World) (htab:Lib.TabIs Tryz.prog w "internal/strconv.uint64pow10" .u64 Lib.pow10Tab) :
    Calls Tryz.prog 145 #[.int .i64 n,.int .i64 10] w fun e w'=>e=.returned (.string ⟨(Lib.itoa n).toArray⟩)∧∃ k os,w'=grow (w.drewN k) os:=Any.internal_strconv_FormatInt_10 Tryz.laysM246 n h0 h1 w htab
def Tryz.lays246_ren:Go.Shelf.Ren:=⟨fun | 246=>145 | 283=>159 | 284=>160 | 285=>161 | 286=>162 | 129=>173 | 317=>172 | 318=>174 | 319=>175 | 320=>176 | 337=>181 | 338=>182 | n=>n,fun | 2=>2 | 3=>3 | 9=>9 | 4=>4 | 171=>194 | 0=>0 | 53=>155 | 37=>80 | 5=>5 | 173=>197 | 212=>209 | 51=>188 | 20=>20 | 213=>210 | 46=>173 | 232=>227 | 233=>228 | n=>n,fun | 17=>3 | 18=>8 | 19=>9 | n=>n⟩
theorem Tryz.lays246:Go.Proofs.Lays.n246 Tryz.prog Tryz.lays246_ren:=by
 repeat' first | kernel_rfl | (intro; kernel_rfl) | constructor
open Go.RowKit Go.Sort Go.Lib in
theorem Tryz.internal_strconv_FormatInt_10_small (i:Nat) (hi:i < 100) (w:World) :
    Calls Tryz.prog 145 #[.int .i64 i,.int .i64 10] w fun e w'=>e=.returned (.string ⟨(Lib.decDigits i).toArray⟩)∧w'=w:=Any.internal_strconv_FormatInt_10_small Tryz.lays246 i hi w
def Tryz.laysM243_ren:Go.Shelf.Ren:=⟨fun | 243=>123 | 246=>145 | 283=>159 | 284=>160 | 285=>161 | 286=>162 | 129=>173 | 317=>172 | 318=>174 | 319=>175 | 320=>176 | 337=>181 | 338=>182 | n=>n,fun | 3=>3 | 9=>9 | 2=>2 | 4=>4 | 171=>194 | 0=>0 | 53=>155 | 37=>80 | 5=>5 | 173=>197 | 212=>209 | 51=>188 | 20=>20 | 213=>210 | 46=>173 | 232=>227 | 233=>228 | n=>n,fun | 17=>3 | 18=>8 | 19=>9 | n=>n⟩
theorem Tryz.laysM243:Go.Proofs.LaysM.n243 Tryz.prog Tryz.laysM243_ren:=by
 repeat' first | kernel_rfl | (intro; kernel_rfl) | constructor
open Go.RowKit Go.Sort Go.Lib in
theorem Tryz.internal_strconv_Itoa (n:Int) (h0 : -9223372036854775808≤n) (h1:n≤9223372036854775807) (w:World) (htab:Lib.TabIs Tryz.prog w "internal/strconv.uint64pow10" .u64 Lib.pow10Tab) :
    Calls Tryz.prog 123 #[.int .i64 n] w fun e w'=>e=.returned (.string ⟨(Lib.itoa n).toArray⟩)∧∃ k os,w'=grow (w.drewN k) os:=Any.internal_strconv_Itoa Tryz.laysM243 n h0 h1 w htab
def Tryz.lays243_ren:Go.Shelf.Ren:=⟨fun | 243=>123 | 246=>145 | 283=>159 | 284=>160 | 285=>161 | 286=>162 | 129=>173 | 317=>172 | 318=>174 | 319=>175 | 320=>176 | 337=>181 | 338=>182 | n=>n,fun | 3=>3 | 9=>9 | 2=>2 | 4=>4 | 171=>194 | 0=>0 | 53=>155 | 37=>80 | 5=>5 | 173=>197 | 212=>209 | 51=>188 | 20=>20 | 213=>210 | 46=>173 | 232=>227 | 233=>228 | n=>n,fun | 17=>3 | 18=>8 | 19=>9 | n=>n⟩
theorem Tryz.lays243:Go.Proofs.Lays.n243 Tryz.prog Tryz.lays243_ren:=by
 repeat' first | kernel_rfl | (intro; kernel_rfl) | constructor
open Go.RowKit Go.Sort Go.Lib in
theorem Tryz.internal_strconv_Itoa_small (i:Nat) (hi:i < 100) (w:World) :
    Calls Tryz.prog 123 #[.int .i64 i] w fun e w'=>e=.returned (.string ⟨(Lib.decDigits i).toArray⟩)∧w'=w:=Any.internal_strconv_Itoa_small Tryz.lays243 i hi w
def Tryz.laysM171_ren:Go.Shelf.Ren:=⟨fun | 171=>97 | 243=>123 | 246=>145 | 283=>159 | 284=>160 | 285=>161 | 286=>162 | 129=>173 | 317=>172 | 318=>174 | 319=>175 | 320=>176 | 337=>181 | 338=>182 | n=>n,fun | 3=>3 | 9=>9 | 2=>2 | 4=>4 | 171=>194 | 0=>0 | 53=>155 | 37=>80 | 5=>5 | 173=>197 | 212=>209 | 51=>188 | 20=>20 | 213=>210 | 46=>173 | 232=>227 | 233=>228 | n=>n,fun | 17=>3 | 18=>8 | 19=>9 | n=>n⟩
theorem Tryz.laysM171:Go.Proofs.LaysM.n171 Tryz.prog Tryz.laysM171_ren:=by
 repeat' first | kernel_rfl | (intro; kernel_rfl) | constructor
open Go.RowKit Go.Sort Go.Lib in
theorem Tryz.strconv_Itoa (n:Int) (h0 : -9223372036854775808≤n) (h1:n≤9223372036854775807) (w:World) (htab:Lib.TabIs Tryz.prog w "internal/strconv.uint64pow10" .u64 Lib.pow10Tab) :
    Calls Tryz.prog 97 #[.int .i64 n] w fun e w'=>e=.returned (.string ⟨(Lib.itoa n).toArray⟩)∧∃ k os,w'=grow (w.drewN k) os:=Any.strconv_Itoa Tryz.laysM171 n h0 h1 w htab
def Tryz.lays171_ren:Go.Shelf.Ren:=⟨fun | 171=>97 | 243=>123 | 246=>145 | 283=>159 | 284=>160 | 285=>161 | 286=>162 | 129=>173 | 317=>172 | 318=>174 | 319=>175 | 320=>176 | 337=>181 | 338=>182 | n=>n,fun | 3=>3 | 9=>9 | 2=>2 | 4=>4 | 171=>194 | 0=>0 | 53=>155 | 37=>80 | 5=>5 | 173=>197 | 212=>209 | 51=>188 | 20=>20 | 213=>210 | 46=>173 | 232=>227 | 233=>228 | n=>n,fun | 17=>3 | 18=>8 | 19=>9 | n=>n⟩
theorem Tryz.lays171:Go.Proofs.Lays.n171 Tryz.prog Tryz.lays171_ren:=by
 repeat' first | kernel_rfl | (intro; kernel_rfl) | constructor
open Go.RowKit Go.Sort Go.Lib in
theorem Tryz.strconv_Itoa_small (i:Nat) (hi:i < 100) (w:World) :
    Calls Tryz.prog 97 #[.int .i64 i] w fun e w'=>e=.returned (.string ⟨(Lib.decDigits i).toArray⟩)∧w'=w:=Any.strconv_Itoa_small Tryz.lays171 i hi w
open Go.RowKit in
theorem Tryz.internal_strconv_Atoi_err (s:ByteArray) (hl0:1≤s.size) (hl:s.size≤18) (h:Lib.atoi s.data.toList=none) (w:World) :
    Calls Tryz.prog 153 #[.string s] w fun e w'=>e=.returned (.tuple #[.int .i64 0,(.iface 202 (.int .i64 2))])∧(w'=w∨∃ t,w'=Lib.bytesWorld w 5 t):=Any.internal_strconv_Atoi_err Tryz.lays244 s hl0 hl h w
def Tryz.lays247_ren:Go.Shelf.Ren:=⟨fun | 247=>166 | 287=>178 | 321=>183 | 322=>184 | n=>n,fun | 9=>9 | 3=>3 | 2=>2 | 75=>117 | 4=>4 | 167=>202 | 5=>5 | 53=>155 | 175=>212 | 46=>173 | 37=>80 | 0=>0 | 21=>21 | 80=>88 | n=>n,fun | n=>n⟩
theorem Tryz.lays247:Go.Proofs.Lays.n247 Tryz.prog Tryz.lays247_ren:=by
 repeat' first | kernel_rfl | (intro; kernel_rfl) | constructor
open Go.RowKit in
theorem Tryz.internal_strconv_ParseInt_empty (base bits:Int) (w:World) :
    Calls Tryz.prog 166 #[.string ⟨#[]⟩,.int .i64 base,.int .i64 bits] w fun e w'=>e=.returned (.tuple #[.int .i64 0,(.iface 202 (.int .i64 2))])∧w'=w:=Any.internal_strconv_ParseInt_empty Tryz.lays247 base bits w
open Go.RowKit in
theorem Tryz.internal_strconv_Atoi_empty (w:World) :
    Calls Tryz.prog 153 #[.string ⟨#[]⟩] w fun e w'=>e=.returned (.tuple #[.int .i64 0,(.iface 202 (.int .i64 2))])∧w'=w:=Any.internal_strconv_Atoi_empty Tryz.lays244 w
open Go.RowKit in
theorem Tryz.internal_strconv_Atoi_fail (s:ByteArray) (hl:s.size≤18) (h:Lib.atoi s.data.toList=none) (w:World) :
    Calls Tryz.prog 153 #[.string s] w fun e w'=>e=.returned (.tuple #[.int .i64 0,(.iface 202 (.int .i64 2))])∧(w'=w∨∃ t,w'=Lib.bytesWorld w 5 t):=Any.internal_strconv_Atoi_fail Tryz.lays244 s hl h w
def Tryz.laysM316_ren:Go.Shelf.Ren:=⟨fun | 316=>179 | n=>n,fun | 9=>9 | 3=>3 | 4=>4 | 37=>80 | 0=>0 | 127=>122 | 5=>5 | n=>n,fun | n=>n⟩
theorem Tryz.laysM316:Go.Proofs.LaysM.n316 Tryz.prog Tryz.laysM316_ren:=by
 repeat' first | kernel_rfl | (intro; kernel_rfl) | constructor
open Go.RowKit in
theorem Tryz.stringslite_Clone (s:ByteArray) (w:World) (hlim:s.size≤281474976710656) :
    Calls Tryz.prog 179 #[.string s] w fun e w'=>e=.returned (.string s)∧Below w.heap.size w w':=Any.stringslite_Clone Tryz.laysM316 s w hlim
def Tryz.laysM279_ren:Go.Shelf.Ren:=⟨fun | 279=>167 | 316=>179 | n=>n,fun | 9=>9 | 168=>205 | 75=>117 | 210=>216 | 3=>3 | 4=>4 | 37=>80 | 0=>0 | 127=>122 | 80=>88 | 5=>5 | n=>n,fun | 15=>4 | n=>n⟩
theorem Tryz.laysM279:Go.Proofs.LaysM.n279 Tryz.prog Tryz.laysM279_ren:=by
 repeat' first | kernel_rfl | (intro; kernel_rfl) | constructor
open Go.RowKit in
theorem Tryz.strconv_syntaxError (fn s:ByteArray) (ev:Value) (w:World) (hlim:s.size≤281474976710656) (hv:w.cell? ⟨4,0,none⟩=some ev) (hev:ev=.nilIface∨∃ te pe,ev=.iface te pe) :
    Calls Tryz.prog 167 #[.string fn,.string s] w fun e w'=>∃ N,e=.returned (.pointer (some ⟨N,0,none⟩))∧w.heap.size≤N∧w'.heap[N]?=some (.cells #[.string fn,.string s,ev] 216 (0,0))∧Below w.heap.size w w':=Any.strconv_syntaxError Tryz.laysM279 fn s ev w hlim hv hev
def Tryz.laysC245_ren:Go.Shelf.Ren:=⟨fun | 245=>154 | 279=>167 | 280=>168 | 281=>169 | 282=>170 | 316=>179 | 171=>97 | 205=>180 | 243=>123 | 246=>145 | 283=>159 | 284=>160 | 285=>161 | 286=>162 | 129=>173 | 317=>172 | 318=>174 | 319=>175 | 320=>176 | 337=>181 | 338=>182 | n=>n,fun | 9=>9 | 3=>3 | 75=>117 | 167=>202 | 4=>4 | 168=>205 | 210=>216 | 37=>80 | 0=>0 | 127=>122 | 145=>226 | 143=>224 | 2=>2 | 171=>194 | 53=>155 | 5=>5 | 173=>197 | 212=>209 | 51=>188 | 20=>20 | 213=>210 | 46=>173 | 232=>227 | 233=>228 | 80=>88 | n=>n,fun | 15=>4 | 16=>5 | 17=>3 | 18=>8 | 19=>9 | n=>n⟩
theorem Tryz.laysC245:Go.Proofs.LaysC.n245 Tryz.prog Tryz.laysC245_ren:=by
 repeat' first | kernel_rfl | (intro; kernel_rfl) | constructor
open Go.RowKit in
theorem Tryz.strconv_toError_syntax (fn s:ByteArray) (base bits:Int) (ev:Value) (w:World) (hlim:s.size≤281474976710656) (hv:w.cell? ⟨4,0,none⟩=some ev) (hev:ev=.nilIface∨∃ te pe,ev=.iface te pe) :
    Calls Tryz.prog 154 #[.string fn,.string s,.int .i64 base,.int .i64 bits,.iface 202 (.int .i64 2)] w fun e w'=>∃ N,e=.returned (.iface 205 (.pointer (some ⟨N,0,none⟩)))∧w.heap.size≤N∧w'.heap[N]?=some (.cells #[.string fn,.string s,ev] 216 (0,0))∧Below w.heap.size w w':=Any.strconv_toError_syntax Tryz.laysC245 fn s base bits ev w hlim hv hev
def Tryz.lays321_ren:Go.Shelf.Ren:=⟨fun | 321=>183 | n=>n,fun | 5=>5 | n=>n,fun | n=>n⟩
theorem Tryz.lays321:Go.Proofs.Lays.n321 Tryz.prog Tryz.lays321_ren:=by
 repeat' first | kernel_rfl | (intro; kernel_rfl) | constructor
open Go.RowKit in
theorem Tryz.internal_strconv_lower (c:Int) (w:World) :
    Calls Tryz.prog 183 #[.int .u8 c] w fun e w'=>e=.returned (.int .u8 (bits .or .u8 c 32))∧w'=w:=Any.internal_strconv_lower Tryz.lays321 c w
def Tryz.lays287_ren:Go.Shelf.Ren:=⟨fun | 287=>178 | 321=>183 | 322=>184 | n=>n,fun | 9=>9 | 3=>3 | 53=>155 | 75=>117 | 4=>4 | 167=>202 | 5=>5 | 46=>173 | 37=>80 | 0=>0 | 21=>21 | 80=>88 | n=>n,fun | n=>n⟩
theorem Tryz.lays287:Go.Proofs.Lays.n287 Tryz.prog Tryz.lays287_ren:=by
 repeat' first | kernel_rfl | (intro; kernel_rfl) | constructor
open Go.RowKit in
theorem Tryz.internal_strconv_ParseUint_10 (t:ByteArray) (hne:t.size≠0) (hmax:t.size≤9223372036854775806) (w:World) :
    Calls Tryz.prog 178 #[.string t,.int .i64 10,.int .i64 0] w fun e w'=>e=.returned (Lib.uintTuple 202 (Lib.parseUint10 0 t.data.toList))∧w'=Lib.bytesWorld w 5 t:=Any.internal_strconv_ParseUint_10 Tryz.lays287 t hne hmax w
open Go.RowKit in
theorem Tryz.internal_strconv_ParseUint_10_any (t:ByteArray) (hmax:t.size≤9223372036854775806) (w:World) :
    Calls Tryz.prog 178 #[.string t,.int .i64 10,.int .i64 0] w fun e w'=>e=.returned (Lib.uintTuple 202 (Lib.parseMag t.data.toList))∧(w'=w∨w'=Lib.bytesWorld w 5 t):=Any.internal_strconv_ParseUint_10_any Tryz.lays287 t hmax w
def Tryz.laysC247_ren:Go.Shelf.Ren:=⟨fun | 247=>166 | 287=>178 | 321=>183 | 322=>184 | n=>n,fun | 9=>9 | 3=>3 | 2=>2 | 75=>117 | 4=>4 | 167=>202 | 5=>5 | 53=>155 | 175=>212 | 46=>173 | 37=>80 | 0=>0 | 21=>21 | 80=>88 | n=>n,fun | n=>n⟩
theorem Tryz.laysC247:Go.Proofs.LaysC.n247 Tryz.prog Tryz.laysC247_ren:=by
 repeat' first | kernel_rfl | (intro; kernel_rfl) | constructor
open Go.RowKit in
theorem Tryz.internal_strconv_ParseInt_10 (s:ByteArray) (hne:s.size≠0) (hmax:s.size≤9223372036854775806) (w:World) :
    Calls Tryz.prog 166 #[.string s,.int .i64 10,.int .i64 0] w fun e w'=>e=.returned (Lib.intTuple 202 (Lib.atoiSat s.data.toList) (Lib.atoiAll s.data.toList))∧(w'=w∨∃ t,w'=Lib.bytesWorld w 5 t):=Any.internal_strconv_ParseInt_10 Tryz.laysC247 s hne hmax w
def Tryz.laysC244_ren:Go.Shelf.Ren:=⟨fun | 244=>153 | 247=>166 | 287=>178 | 321=>183 | 322=>184 | n=>n,fun | 9=>9 | 3=>3 | 75=>117 | 4=>4 | 5=>5 | 167=>202 | 37=>80 | 0=>0 | 85=>203 | 2=>2 | 53=>155 | 175=>212 | 46=>173 | 21=>21 | 80=>88 | n=>n,fun | n=>n⟩
theorem Tryz.laysC244:Go.Proofs.LaysC.n244 Tryz.prog Tryz.laysC244_ren:=by
 repeat' first | kernel_rfl | (intro; kernel_rfl) | constructor
open Go.RowKit in
theorem Tryz.internal_strconv_Atoi_long (s:ByteArray) (h19:19≤s.size) (hmax:s.size≤9223372036854775806) (w:World) :
    Calls Tryz.prog 153 #[.string s] w fun e w'=>e=.returned (Lib.intTuple 202 (Lib.atoiSat s.data.toList) (Lib.atoiAll s.data.toList))∧(w'=w∨∃ t,w'=Lib.bytesWorld w 5 t):=Any.internal_strconv_Atoi_long Tryz.laysC244 s h19 hmax w
open Go.RowKit in
theorem Tryz.internal_strconv_Atoi_all (s:ByteArray) (hmax:s.size≤9223372036854775806) (w:World) :
    Calls Tryz.prog 153 #[.string s] w fun e w'=>e=.returned (Lib.intTuple 202 (Lib.atoiSat s.data.toList) (Lib.atoiAll s.data.toList))∧(w'=w∨∃ t,w'=Lib.bytesWorld w 5 t):=Any.internal_strconv_Atoi_all Tryz.laysC244 s hmax w
def Tryz.laysM280_ren:Go.Shelf.Ren:=⟨fun | 280=>168 | 316=>179 | n=>n,fun | 9=>9 | 168=>205 | 75=>117 | 210=>216 | 3=>3 | 4=>4 | 37=>80 | 0=>0 | 127=>122 | 80=>88 | 5=>5 | n=>n,fun | 16=>5 | n=>n⟩
theorem Tryz.laysM280:Go.Proofs.LaysM.n280 Tryz.prog Tryz.laysM280_ren:=by
 repeat' first | kernel_rfl | (intro; kernel_rfl) | constructor
open Go.RowKit in
theorem Tryz.strconv_rangeError (fn s:ByteArray) (ev:Value) (w:World) (hlim:s.size≤281474976710656) (hv:w.cell? ⟨5,0,none⟩=some ev) (hev:ev=.nilIface∨∃ te pe,ev=.iface te pe) :
    Calls Tryz.prog 168 #[.string fn,.string s] w fun e w'=>∃ N,e=.returned (.pointer (some ⟨N,0,none⟩))∧w.heap.size≤N∧w'.heap[N]?=some (.cells #[.string fn,.string s,ev] 216 (0,0))∧Below w.heap.size w w':=Any.strconv_rangeError Tryz.laysM280 fn s ev w hlim hv hev
open Go.RowKit in
theorem Tryz.strconv_toError_range (fn s:ByteArray) (base bits:Int) (ev:Value) (w:World) (hlim:s.size≤281474976710656) (hv:w.cell? ⟨5,0,none⟩=some ev) (hev:ev=.nilIface∨∃ te pe,ev=.iface te pe) :
    Calls Tryz.prog 154 #[.string fn,.string s,.int .i64 base,.int .i64 bits,.iface 202 (.int .i64 1)] w fun e w'=>∃ N,e=.returned (.iface 205 (.pointer (some ⟨N,0,none⟩)))∧w.heap.size≤N∧w'.heap[N]?=some (.cells #[.string fn,.string s,ev] 216 (0,0))∧Below w.heap.size w w':=Any.strconv_toError_range Tryz.laysC245 fn s base bits ev w hlim hv hev
def Tryz.laysC172_ren:Go.Shelf.Ren:=⟨fun | 172=>138 | 244=>153 | 245=>154 | 247=>166 | 279=>167 | 280=>168 | 281=>169 | 282=>170 | 287=>178 | 316=>179 | 171=>97 | 205=>180 | 321=>183 | 322=>184 | 243=>123 | 246=>145 | 283=>159 | 284=>160 | 285=>161 | 286=>162 | 129=>173 | 317=>172 | 318=>174 | 319=>175 | 320=>176 | 337=>181 | 338=>182 | n=>n,fun | 9=>9 | 3=>3 | 75=>117 | 76=>119 | 4=>4 | 5=>5 | 167=>202 | 37=>80 | 0=>0 | 85=>203 | 2=>2 | 168=>205 | 53=>155 | 175=>212 | 46=>173 | 210=>216 | 127=>122 | 145=>226 | 143=>224 | 21=>21 | 171=>194 | 173=>197 | 212=>209 | 51=>188 | 20=>20 | 213=>210 | 232=>227 | 233=>228 | 80=>88 | n=>n,fun | 15=>4 | 16=>5 | 17=>3 | 18=>8 | 19=>9 | n=>n⟩
theorem Tryz.laysC172:Go.Proofs.LaysC.n172 Tryz.prog Tryz.laysC172_ren:=by
 repeat' first | kernel_rfl | (intro; kernel_rfl) | constructor
open Go.RowKit in
theorem Tryz.strconv_Atoi_ok (s:ByteArray) (hmax:s.size≤9223372036854775806) (v:Int) (h:Lib.atoiAll s.data.toList=.ok v) (w:World) :
    Calls Tryz.prog 138 #[.string s] w fun e w'=>e=.returned (.tuple #[.int .i64 v,.nilIface])∧(w'=w∨∃ t,w'=Lib.bytesWorld w 5 t):=Any.strconv_Atoi_ok Tryz.laysC172 s hmax v h w
open Go.RowKit in
theorem Tryz.strconv_Atoi_range (s:ByteArray) (hlim:s.size≤281474976710656) (h:Lib.atoiAll s.data.toList=.range) (ev:Value) (w:World) (hv:w.cell? ⟨5,0,none⟩=some ev) (hev:ev=.nilIface∨∃ te pe,ev=.iface te pe) :
    Calls Tryz.prog 138 #[.string s] w fun e w'=>∃ N,e=.returned (.tuple #[.int .i64 (Lib.atoiSat s.data.toList),.iface 205 (.pointer (some ⟨N,0,none⟩))])∧w.heap.size≤N∧w'.heap[N]?=some (.cells #[.string ⟨#[65,116,111,105]⟩,.string s,ev] 216 (0,0))∧Below w.heap.size w w':=Any.strconv_Atoi_range Tryz.laysC172 s hlim h ev w hv hev
open Go.RowKit in
theorem Tryz.strconv_Atoi_range_var (s:ByteArray) (hlim:s.size≤281474976710656) (h:Lib.atoiAll s.data.toList=.range) (tp:TypeId) (p:Value) (w:World) (hvar:w.var? Tryz.prog "strconv.ErrRange" = some #[.iface tp p]) :
    Calls Tryz.prog 138 #[.string s] w fun e w'=>∃ N,e=.returned (.tuple #[.int .i64 (Lib.atoiSat s.data.toList),.iface 205 (.pointer (some ⟨N,0,none⟩))])∧w.heap.size≤N∧w'.heap[N]?=some (.cells #[.string ⟨#[65,116,111,105]⟩,.string s,.iface tp p] 216 (0,0))∧Below w.heap.size w w':=Any.strconv_Atoi_range_var Tryz.laysC172 s hlim h tp p w hvar
def Tryz.lays217_ren:Go.Shelf.Ren:=⟨fun | 217=>130 | 266=>148 | n=>n,fun | 9=>9 | 5=>5 | 3=>3 | n=>n,fun | n=>n⟩
theorem Tryz.lays217:Go.Proofs.Lays.n217 Tryz.prog Tryz.lays217_ren:=by
 repeat' first | kernel_rfl | (intro; kernel_rfl) | constructor
open Go.RowKit Go.Lib in
theorem Tryz.stringslite_IndexByte (s:ByteArray) (c:Int) (w:World) :
    Calls Tryz.prog 130 #[.string s,.int .u8 c] w fun e w'=>e=.returned (.int .i64 (Lib.indexByte s.data.toList c.toNat.toUInt8))∧w'=w:=Any.stringslite_IndexByte Tryz.lays217 s c w
def Tryz.lays224_ren:Go.Shelf.Ren:=⟨fun | 224=>132 | n=>n,fun | 3=>3 | n=>n,fun | n=>n⟩
theorem Tryz.lays224:Go.Proofs.Lays.n224 Tryz.prog Tryz.lays224_ren:=by
 repeat' first | kernel_rfl | (intro; kernel_rfl) | constructor
open Go.RowKit Go.Lib in
theorem Tryz.bytealg_Cutover (n:Int) (h0:0≤n) (h1:n < 4611686018427387904) (w:World) :
    Calls Tryz.prog 132 #[.int .i64 n] w fun e w'=>e=.returned (.int .i64 ((n+16) / 8))∧w'=w:=Any.bytealg_Cutover Tryz.lays224 n h0 h1 w
def Tryz.lays314_ren:Go.Shelf.Ren:=⟨fun | 314=>149 | n=>n,fun | 9=>9 | 51=>188 | 3=>3 | 4=>4 | 5=>5 | 46=>173 | n=>n,fun | n=>n⟩
theorem Tryz.lays314:Go.Proofs.Lays.n314 Tryz.prog Tryz.lays314_ren:=by
 repeat' first | kernel_rfl | (intro; kernel_rfl) | constructor
open Go.RowKit Go.Lib in
theorem Tryz.bytealg_hashStr (sep:ByteArray) (hs:sep.size < 4294967281) (w:World) :
    Calls Tryz.prog 149 #[.string sep] w fun e w'=>e=.returned (.tuple #[.int .u32 (RK.H sep.data.toList % 4294967296),.int .u32 (16777619 ^ sep.size % 4294967296)])∧w'=w:=Any.bytealg_hashStr Tryz.lays314 sep hs w
def Tryz.lays267_ren:Go.Shelf.Ren:=⟨fun | 267=>133 | 314=>149 | n=>n,fun | 9=>9 | 3=>3 | 146=>189 | 51=>188 | 4=>4 | 5=>5 | 46=>173 | n=>n,fun | n=>n⟩
theorem Tryz.lays267:Go.Proofs.Lays.n267 Tryz.prog Tryz.lays267_ren:=by
 repeat' first | kernel_rfl | (intro; kernel_rfl) | constructor
open Go.RowKit Go.Lib in
theorem Tryz.bytealg_IndexRabinKarp (s sep:ByteArray) (h1:1≤sep.size) (h2:sep.size≤s.size) (hs:s.size < 4294967281) (w:World) :
    Calls Tryz.prog 133 #[.string s,.string sep] w fun e w'=>e=.returned (.int .i64 (Lib.index s.data.toList sep.data.toList))∧w'=w:=Any.bytealg_IndexRabinKarp Tryz.lays267 s sep h1 h2 hs w
def Tryz.lays219_ren:Go.Shelf.Ren:=⟨fun | 219=>103 | 217=>130 | 225=>131 | 224=>132 | 267=>133 | 266=>148 | 314=>149 | n=>n,fun | 9=>9 | 3=>3 | 4=>4 | 5=>5 | 46=>173 | 146=>189 | 51=>188 | n=>n,fun | 1=>2 | n=>n⟩
theorem Tryz.lays219:Go.Proofs.Lays.n219 Tryz.prog Tryz.lays219_ren:=by
 repeat' first | kernel_rfl | (intro; kernel_rfl) | constructor
open Go.RowKit Go.Lib in
theorem Tryz.stringslite_Index_one (s:ByteArray) (c:UInt8) (w:World) :
    Calls Tryz.prog 103 #[.string s,.string ⟨#[c]⟩] w fun e w'=>e=.returned (.int .i64 (Lib.indexByte s.data.toList c))∧w'=w:=Any.stringslite_Index_one Tryz.lays219 s c w
open Go.RowKit Go.Lib in
theorem Tryz.stringslite_Index (s sub:ByteArray) (m:Int) (w:World) (hs:s.size < 4294967281) (hm:w.cell? ⟨2,0,none⟩=some (.int .i64 m)) :
    Calls Tryz.prog 103 #[.string s,.string sub] w fun e w'=>e=.returned (.int .i64 (Lib.index s.data.toList sub.data.toList))∧w'=w:=Any.stringslite_Index Tryz.lays219 s sub m w hs hm
def Tryz.lays143_ren:Go.Shelf.Ren:=⟨fun | 143=>152 | 219=>103 | 217=>130 | 225=>131 | 224=>132 | 267=>133 | 266=>148 | 314=>149 | n=>n,fun | 9=>9 | 3=>3 | 4=>4 | 5=>5 | 46=>173 | 146=>189 | 51=>188 | n=>n,fun | 1=>2 | n=>n⟩
theorem Tryz.lays143:Go.Proofs.Lays.n143 Tryz.prog Tryz.lays143_ren:=by
 repeat' first | kernel_rfl | (intro; kernel_rfl) | constructor
open Go.RowKit Go.Lib in
theorem Tryz.strings_Index_one (s:ByteArray) (c:UInt8) (w:World) :
    Calls Tryz.prog 152 #[.string s,.string ⟨#[c]⟩] w fun e w'=>e=.returned (.int .i64 (Lib.indexByte s.data.toList c))∧w'=w:=Any.strings_Index_one Tryz.lays143 s c w
open Go.RowKit Go.Lib in
theorem Tryz.strings_Index (s sub:ByteArray) (m:Int) (w:World) (hs:s.size < 4294967281) (hm:w.cell? ⟨2,0,none⟩=some (.int .i64 m)) :
    Calls Tryz.prog 152 #[.string s,.string sub] w fun e w'=>e=.returned (.int .i64 (Lib.index s.data.toList sub.data.toList))∧w'=w:=Any.strings_Index Tryz.lays143 s sub m w hs hm
def Tryz.lays220_ren:Go.Shelf.Ren:=⟨fun | 220=>71 | 219=>103 | 217=>130 | 225=>131 | 224=>132 | 267=>133 | 266=>148 | 314=>149 | n=>n,fun | 9=>9 | 4=>4 | 3=>3 | 5=>5 | 46=>173 | 146=>189 | 51=>188 | n=>n,fun | 1=>2 | n=>n⟩
theorem Tryz.lays220:Go.Proofs.Lays.n220 Tryz.prog Tryz.lays220_ren:=by
 repeat' first | kernel_rfl | (intro; kernel_rfl) | constructor
open Go.RowKit Go.Lib in
theorem Tryz.stringslite_Cut (s sep:ByteArray) (m:Int) (w:World) (hs:s.size < 4294967281) (hm:w.cell? ⟨2,0,none⟩=some (.int .i64 m)) :
    Calls Tryz.prog 71 #[.string s,.string sep] w fun e w'=>e=.returned (.tuple #[.string ⟨(Lib.cut s.data.toList sep.data.toList).1.toArray⟩,.string ⟨(Lib.cut s.data.toList sep.data.toList).2.1.toArray⟩,.bool (Lib.cut s.data.toList sep.data.toList).2.2])∧∃ n,w'=w.drewN n:=Any.stringslite_Cut Tryz.lays220 s sep m w hs hm
def Tryz.lays145_ren:Go.Shelf.Ren:=⟨fun | 145=>35 | 220=>71 | 219=>103 | 217=>130 | 225=>131 | 224=>132 | 267=>133 | 266=>148 | 314=>149 | n=>n,fun | 9=>9 | 4=>4 | 59=>97 | 3=>3 | 5=>5 | 46=>173 | 146=>189 | 51=>188 | n=>n,fun | 1=>2 | n=>n⟩
theorem Tryz.lays145:Go.Proofs.Lays.n145 Tryz.prog Tryz.lays145_ren:=by
 repeat' first | kernel_rfl | (intro; kernel_rfl) | constructor
open Go.RowKit Go.Lib in
theorem Tryz.strings_Cut (s sep:ByteArray) (m:Int) (w:World) (hs:s.size < 4294967281) (hm:w.cell? ⟨2,0,none⟩=some (.int .i64 m)) :
    Calls Tryz.prog 35 #[.string s,.string sep] w fun e w'=>e=.returned (.tuple #[.string ⟨(Lib.cut s.data.toList sep.data.toList).1.toArray⟩,.string ⟨(Lib.cut s.data.toList sep.data.toList).2.1.toArray⟩,.bool (Lib.cut s.data.toList sep.data.toList).2.2])∧∃ n,w'=w.drewN n:=Any.strings_Cut Tryz.lays145 s sep m w hs hm
def Tryz.lays138_ren:Go.Shelf.Ren:=⟨fun | 138=>151 | 195=>163 | 218=>165 | 143=>152 | 219=>103 | 217=>130 | 225=>131 | 224=>132 | 267=>133 | 266=>148 | 314=>149 | n=>n,fun | 9=>9 | 3=>3 | 4=>4 | 5=>5 | 0=>0 | 46=>173 | 146=>189 | 51=>188 | n=>n,fun | 1=>2 | n=>n⟩
theorem Tryz.lays138:Go.Proofs.Lays.n138 Tryz.prog Tryz.lays138_ren:=by
 repeat' first | kernel_rfl | (intro; kernel_rfl) | constructor
open Go.RowKit Go.Lib in
theorem Tryz.strings_Count_one (s:ByteArray) (c:UInt8) (w:World) :
    Calls Tryz.prog 151 #[.string s,.string ⟨#[c]⟩] w fun e w'=>e=.returned (.int .i64 (Lib.countByte s.data.toList c))∧w'=w:=Any.strings_Count_one Tryz.lays138 s c w
open Go.RowKit Go.Lib in
theorem Tryz.strings_Count (s sub:ByteArray) (m:Int) (w:World) (hs:s.size < 4294967281) (hm:w.cell? ⟨2,0,none⟩=some (.int .i64 m)) (h2:2≤sub.size) :
    Calls Tryz.prog 151 #[.string s,.string sub] w fun e w'=>e=.returned (.int .i64 (Lib.countB s sub))∧w'=w:=Any.strings_Count Tryz.lays138 s sub m w hs hm h2
def Tryz.laysM219_ren:Go.Shelf.Ren:=⟨fun | 219=>103 | 217=>130 | 225=>131 | 224=>132 | 267=>133 | 266=>148 | 314=>149 | n=>n,fun | 9=>9 | 3=>3 | 4=>4 | 5=>5 | 46=>173 | 146=>189 | 51=>188 | n=>n,fun | 1=>2 | n=>n⟩
theorem Tryz.laysM219:Go.Proofs.LaysM.n219 Tryz.prog Tryz.laysM219_ren:=by
 repeat' first | kernel_rfl | (intro; kernel_rfl) | constructor
 exact fun w h=>Go.Proofs.cell_of_shapedOpen_int (zero:=#[.int .i64 0]) (t:=3) h (of_decide_eq_true (by kernel_rfl)) (by kernel_rfl) rfl (by kernel_rfl) (by kernel_rfl) Tryz.underlying3
open Go.RowKit Go.Lib in
theorem Tryz.stringslite_Index_shaped (s sub:ByteArray) (w:World) (h:w.ShapedOpen Tryz.prog) (hs:s.size < 4294967281) :
    Calls Tryz.prog 103 #[.string s,.string sub] w fun e w'=>e=.returned (.int .i64 (Lib.index s.data.toList sub.data.toList))∧w'=w:=Any.stringslite_Index_shaped Tryz.laysM219 s sub w h hs
def Tryz.laysM143_ren:Go.Shelf.Ren:=⟨fun | 143=>152 | 219=>103 | 217=>130 | 225=>131 | 224=>132 | 267=>133 | 266=>148 | 314=>149 | n=>n,fun | 9=>9 | 3=>3 | 4=>4 | 5=>5 | 46=>173 | 146=>189 | 51=>188 | n=>n,fun | 1=>2 | n=>n⟩
theorem Tryz.laysM143:Go.Proofs.LaysM.n143 Tryz.prog Tryz.laysM143_ren:=by
 repeat' first | kernel_rfl | (intro; kernel_rfl) | constructor
 exact fun w h=>Go.Proofs.cell_of_shapedOpen_int (zero:=#[.int .i64 0]) (t:=3) h (of_decide_eq_true (by kernel_rfl)) (by kernel_rfl) rfl (by kernel_rfl) (by kernel_rfl) Tryz.underlying3
open Go.RowKit Go.Lib in
theorem Tryz.strings_Index_shaped (s sub:ByteArray) (w:World) (h:w.ShapedOpen Tryz.prog) (hs:s.size < 4294967281) :
    Calls Tryz.prog 152 #[.string s,.string sub] w fun e w'=>e=.returned (.int .i64 (Lib.index s.data.toList sub.data.toList))∧w'=w:=Any.strings_Index_shaped Tryz.laysM143 s sub w h hs
def Tryz.laysM220_ren:Go.Shelf.Ren:=⟨fun | 220=>71 | 219=>103 | 217=>130 | 225=>131 | 224=>132 | 267=>133 | 266=>148 | 314=>149 | n=>n,fun | 9=>9 | 4=>4 | 3=>3 | 5=>5 | 46=>173 | 146=>189 | 51=>188 | n=>n,fun | 1=>2 | n=>n⟩
theorem Tryz.laysM220:Go.Proofs.LaysM.n220 Tryz.prog Tryz.laysM220_ren:=by
 repeat' first | kernel_rfl | (intro; kernel_rfl) | constructor
 exact fun w h=>Go.Proofs.cell_of_shapedOpen_int (zero:=#[.int .i64 0]) (t:=3) h (of_decide_eq_true (by kernel_rfl)) (by kernel_rfl) rfl (by kernel_rfl) (by kernel_rfl) Tryz.underlying3
open Go.RowKit Go.Lib in
theorem Tryz.stringslite_Cut_shaped (s sep:ByteArray) (w:World) (h:w.ShapedOpen Tryz.prog) (hs:s.size < 4294967281) :
    Calls Tryz.prog 71 #[.string s,.string sep] w fun e w'=>e=.returned (.tuple #[.string ⟨(Lib.cut s.data.toList sep.data.toList).1.toArray⟩,.string ⟨(Lib.cut s.data.toList sep.data.toList).2.1.toArray⟩,.bool (Lib.cut s.data.toList sep.data.toList).2.2])∧∃ n,w'=w.drewN n:=Any.stringslite_Cut_shaped Tryz.laysM220 s sep w h hs
def Tryz.laysM145_ren:Go.Shelf.Ren:=⟨fun | 145=>35 | 220=>71 | 219=>103 | 217=>130 | 225=>131 | 224=>132 | 267=>133 | 266=>148 | 314=>149 | n=>n,fun | 9=>9 | 4=>4 | 59=>97 | 3=>3 | 5=>5 | 46=>173 | 146=>189 | 51=>188 | n=>n,fun | 1=>2 | n=>n⟩
theorem Tryz.laysM145:Go.Proofs.LaysM.n145 Tryz.prog Tryz.laysM145_ren:=by
 repeat' first | kernel_rfl | (intro; kernel_rfl) | constructor
 exact fun w h=>Go.Proofs.cell_of_shapedOpen_int (zero:=#[.int .i64 0]) (t:=3) h (of_decide_eq_true (by kernel_rfl)) (by kernel_rfl) rfl (by kernel_rfl) (by kernel_rfl) Tryz.underlying3
open Go.RowKit Go.Lib in
theorem Tryz.strings_Cut_shaped (s sep:ByteArray) (w:World) (h:w.ShapedOpen Tryz.prog) (hs:s.size < 4294967281) :
    Calls Tryz.prog 35 #[.string s,.string sep] w fun e w'=>e=.returned (.tuple #[.string ⟨(Lib.cut s.data.toList sep.data.toList).1.toArray⟩,.string ⟨(Lib.cut s.data.toList sep.data.toList).2.1.toArray⟩,.bool (Lib.cut s.data.toList sep.data.toList).2.2])∧∃ n,w'=w.drewN n:=Any.strings_Cut_shaped Tryz.laysM145 s sep w h hs
def Tryz.laysM138_ren:Go.Shelf.Ren:=⟨fun | 138=>151 | 195=>163 | 218=>165 | 143=>152 | 219=>103 | 217=>130 | 225=>131 | 224=>132 | 267=>133 | 266=>148 | 314=>149 | n=>n,fun | 9=>9 | 3=>3 | 4=>4 | 5=>5 | 0=>0 | 46=>173 | 146=>189 | 51=>188 | n=>n,fun | 1=>2 | n=>n⟩
theorem Tryz.laysM138:Go.Proofs.LaysM.n138 Tryz.prog Tryz.laysM138_ren:=by
 repeat' first | kernel_rfl | (intro; kernel_rfl) | constructor
 exact fun w h=>Go.Proofs.cell_of_shapedOpen_int (zero:=#[.int .i64 0]) (t:=3) h (of_decide_eq_true (by kernel_rfl)) (by kernel_rfl) rfl (by kernel_rfl) (by kernel_rfl) Tryz.underlying3
open Go.RowKit Go.Lib in
theorem Tryz.strings_Count_shaped (s sub:ByteArray) (w:World) (h:w.ShapedOpen Tryz.prog) (hs:s.size < 4294967281) (h2:2≤sub.size) :
    Calls Tryz.prog 151 #[.string s,.string sub] w fun e w'=>e=.returned (.int .i64 (Lib.countB s sub))∧w'=w:=Any.strings_Count_shaped Tryz.laysM138 s sub w h hs h2
def Tryz.lays206_ren:Go.Shelf.Ren:=⟨fun | 206=>171 | n=>n,fun | 9=>9 | 4=>4 | 3=>3 | n=>n,fun | n=>n⟩
theorem Tryz.lays206:Go.Proofs.Lays.n206 Tryz.prog Tryz.lays206_ren:=by
 repeat' first | kernel_rfl | (intro; kernel_rfl) | constructor
open Go.RowKit Go.Lib in
theorem Tryz.stringslite_HasPrefix (s p:ByteArray) (w:World) :
    Calls Tryz.prog 171 #[.string s,.string p] w fun e w'=>e=.returned (.bool (Lib.hasPrefix s.data.toList p.data.toList))∧w'=w:=Any.stringslite_HasPrefix Tryz.lays206 s p w
def Tryz.lays208_ren:Go.Shelf.Ren:=⟨fun | 208=>155 | 206=>171 | n=>n,fun | 9=>9 | 4=>4 | 3=>3 | n=>n,fun | n=>n⟩
theorem Tryz.lays208:Go.Proofs.Lays.n208 Tryz.prog Tryz.lays208_ren:=by
 repeat' first | kernel_rfl | (intro; kernel_rfl) | constructor
open Go.RowKit Go.Lib in
theorem Tryz.stringslite_TrimPrefix (s p:ByteArray) (w:World) :
    Calls Tryz.prog 155 #[.string s,.string p] w fun e w'=>e=.returned (.string ⟨(Lib.trimPrefix s.data.toList p.data.toList).toArray⟩)∧w'=w:=Any.stringslite_TrimPrefix Tryz.lays208 s p w
def Tryz.lays101_ren:Go.Shelf.Ren:=⟨fun | 101=>139 | 208=>155 | 206=>171 | n=>n,fun | 9=>9 | 4=>4 | 3=>3 | n=>n,fun | n=>n⟩
theorem Tryz.lays101:Go.Proofs.Lays.n101 Tryz.prog Tryz.lays101_ren:=by
 repeat' first | kernel_rfl | (intro; kernel_rfl) | constructor
open Go.RowKit Go.Lib in
theorem Tryz.strings_TrimPrefix (s p:ByteArray) (w:World) :
    Calls Tryz.prog 139 #[.string s,.string p] w fun e w'=>e=.returned (.string ⟨(Lib.trimPrefix s.data.toList p.data.toList).toArray⟩)∧w'=w:=Any.strings_TrimPrefix Tryz.lays101 s p w
open Go.RowKit Go.Lib in
theorem Tryz.strings_Count_any (s sep:ByteArray) (m:Int) (w:World) (hs:s.size < 4294967281) (hm:w.cell? ⟨2,0,none⟩=some (.int .i64 m)) (h1:1≤sep.size) :
    Calls Tryz.prog 151 #[.string s,.string sep] w fun e w'=>e=.returned (.int .i64 (Lib.countB s sep))∧w'=w:=Any.strings_Count_any Tryz.lays138 s sep m w hs hm h1
def Tryz.lays221_ren:Go.Shelf.Ren:=⟨fun | 221=>134 | 268=>150 | 138=>151 | 143=>152 | 195=>163 | 197=>164 | 218=>165 | 219=>103 | 260=>177 | 217=>130 | 225=>131 | 224=>132 | 267=>133 | 266=>148 | 314=>149 | n=>n,fun | 9=>9 | 3=>3 | 31=>59 | 4=>4 | 0=>0 | 105=>200 | 21=>21 | 5=>5 | 46=>173 | 119=>219 | 139=>222 | 138=>221 | 146=>189 | 51=>188 | n=>n,fun | 1=>2 | 3=>6 | 4=>7 | n=>n⟩
theorem Tryz.lays221:Go.Proofs.Lays.n221 Tryz.prog Tryz.lays221_ren:=by
 repeat' first | kernel_rfl | (intro; kernel_rfl) | constructor
open Go.RowKit Go.Lib in
theorem Tryz.strings_genSplit (s sep:ByteArray) (sv:Nat) (n:Int) (N:Nat) (m:Int) (w:World) (hs:s.size < 4294967281) (hm:w.cell? ⟨2,0,none⟩=some (.int .i64 m)) (h1:1≤sep.size) (hsv:sv≤sep.size) (hn0:n≠0) (hn63:n≤9223372036854775807) (hN:(N:Int)=min (if n < 0 then (Lib.countB s sep:Int)+1 else n) ((s.size:Int)+1)) :
    Calls Tryz.prog 134 #[.string s,.string sep,.int .i64 sv,.int .i64 n] w fun e w'=>
      e=.returned (.slice (some ⟨w.heap.size,0,none⟩) (Lib.splitB sep sv (N - 1) s).length N)∧w'=w.alloc (.cells (Lib.cellsOf (Lib.splitB sep sv (N - 1) s) N) 9):=Any.strings_genSplit Tryz.lays221 (by kernel_rfl) s sep sv n N m w hs hm h1 hsv hn0 hn63 hN
def Tryz.lays146_ren:Go.Shelf.Ren:=⟨fun | 146=>104 | 221=>134 | 268=>150 | 138=>151 | 143=>152 | 195=>163 | 197=>164 | 218=>165 | 219=>103 | 260=>177 | 217=>130 | 225=>131 | 224=>132 | 267=>133 | 266=>148 | 314=>149 | n=>n,fun | 9=>9 | 31=>59 | 3=>3 | 4=>4 | 0=>0 | 105=>200 | 21=>21 | 5=>5 | 46=>173 | 119=>219 | 139=>222 | 138=>221 | 146=>189 | 51=>188 | n=>n,fun | 1=>2 | 3=>6 | 4=>7 | n=>n⟩
theorem Tryz.lays146:Go.Proofs.Lays.n146 Tryz.prog Tryz.lays146_ren:=by
 repeat' first | kernel_rfl | (intro; kernel_rfl) | constructor
open Go.RowKit Go.Lib in
theorem Tryz.strings_Split (s sep:ByteArray) (m:Int) (w:World) (hs:s.size < 4294967281) (hm:w.cell? ⟨2,0,none⟩=some (.int .i64 m)) (h1:1≤sep.size) :
    Calls Tryz.prog 104 #[.string s,.string sep] w fun e w'=>
      e=.returned (.slice (some ⟨w.heap.size,0,none⟩) (Lib.countB s sep+1) (Lib.countB s sep+1))∧w'=w.alloc (.cells ((Lib.splitB sep 0 (Lib.countB s sep) s).map Value.string).toArray 9):=Any.strings_Split Tryz.lays146 (by kernel_rfl) s sep m w hs hm h1
def Tryz.laysM146_ren:Go.Shelf.Ren:=⟨fun | 146=>104 | 221=>134 | 268=>150 | 138=>151 | 143=>152 | 195=>163 | 197=>164 | 218=>165 | 219=>103 | 260=>177 | 217=>130 | 225=>131 | 224=>132 | 267=>133 | 266=>148 | 314=>149 | n=>n,fun | 9=>9 | 31=>59 | 3=>3 | 4=>4 | 0=>0 | 105=>200 | 21=>21 | 5=>5 | 46=>173 | 119=>219 | 139=>222 | 138=>221 | 146=>189 | 51=>188 | n=>n,fun | 1=>2 | 3=>6 | 4=>7 | n=>n⟩
theorem Tryz.laysM146:Go.Proofs.LaysM.n146 Tryz.prog Tryz.laysM146_ren:=by
 repeat' first | kernel_rfl | (intro; kernel_rfl) | constructor
 exact fun w h=>Go.Proofs.cell_of_shapedOpen_int (zero:=#[.int .i64 0]) (t:=3) h (of_decide_eq_true (by kernel_rfl)) (by kernel_rfl) rfl (by kernel_rfl) (by kernel_rfl) Tryz.underlying3
open Go.RowKit Go.Lib in
theorem Tryz.strings_Split_shaped (s sep:ByteArray) (w:World) (h:w.ShapedOpen Tryz.prog) (hs:s.size < 4294967281) (h1:1≤sep.size) :
    Calls Tryz.prog 104 #[.string s,.string sep] w fun e w'=>
      e=.returned (.slice (some ⟨w.heap.size,0,none⟩) (Lib.countB s sep+1) (Lib.countB s sep+1))∧w'=w.alloc (.cells ((Lib.splitB sep 0 (Lib.countB s sep) s).map Value.string).toArray 9):=Any.strings_Split_shaped Tryz.laysM146 s sep w h hs h1
def Tryz.lays260_ren:Go.Shelf.Ren:=⟨fun | 260=>177 | n=>n,fun | 9=>9 | 21=>21 | 3=>3 | 4=>4 | 5=>5 | 119=>219 | 0=>0 | 46=>173 | 139=>222 | 138=>221 | n=>n,fun | 3=>6 | 4=>7 | n=>n⟩
theorem Tryz.lays260:Go.Proofs.Lays.n260 Tryz.prog Tryz.lays260_ren:=by
 repeat' first | kernel_rfl | (intro; kernel_rfl) | constructor
open Go.RowKit Go.Lib in
theorem Tryz.utf8_decodeRuneInStringSlow (s:ByteArray) (w:World) (hT:Lib.Utf8Tabs 6 7 w) :
    Calls Tryz.prog 177 #[.string s] w fun e w'=>e=.returned (.tuple #[.int .i32 (Lib.decodeGo s).1,.int .i64 (Lib.decodeGo s).2])∧Below w.heap.size w w':=Any.utf8_decodeRuneInStringSlow Tryz.lays260 s w hT
end Go.Proofs
namespace Go.Proofs.YtheidkkebdhmkaaGreatDoor
open Go.RowKit
set_option linter.unusedVariables false
set_option linter.unusedSimpArgs false
set_option maxRecDepth 20000
open Go.Proofs.Tryz (prog)
section
open Go.Lib
open Go.Sort
set_option maxHeartbeats 2000000 in
set_option maxRecDepth 100000 in
theorem jQx (u:Nat) (h1:1≤u) (h2:u < 18446744073709551616) (w:World) (hc:∀ i:Nat,i < 20→w.cell? ⟨3,i,none⟩=some (.int .u64 ((10 ^ i:Nat):Int))) :
  Calls prog 160 #[.int .u64 u] w fun e w'=>e=.returned (.int .i64 (nDigits u))∧w'=w:=by
 obtain ⟨hs,h19⟩:=numDigits_eq u h1 h2
 have hL:Lib.bitLen u≤64:=Lib.bitLen_le u 64 (Nat.le_refl _) h2
 have hto:((u:Int)).toNat=u:=by omega
 obtain ⟨q,hq⟩:∃ q,l10 (Lib.bitLen u)=q:=⟨_,rfl⟩
 rw [hq] at hs h19
 have hcell:=hc q (by omega)
 obtain ⟨T,hT⟩:∃ T,10 ^ q=T:=⟨_,rfl⟩
 rw [hT] at hs hcell
 have H:=hid hs
 have HQ:=hid hq
 clear hs hc hq hT
 go_enter Tryz.func160,Tryz.ntmps160
 go_wp2_with (first
  |(go_at_call 173; refine (Tryz.bits_Len64 _ _ (by omega) (by omega)).mono ?_; rintro e w' ⟨rfl,rfl⟩; rw [hto])
  |(go_at_call 172; refine (Tryz.internal_strconv_log10Pow2 _ hL _).mono ?_; rintro e w' ⟨rfl,rfl⟩; rw [HQ.out])
  |(go_at_call 174; refine (Tryz.internal_strconv_bool2_int _ _).mono ?_; rintro e w' ⟨rfl,rfl⟩))
 all_goals go_ret
 all_goals
  refine ⟨?_,rfl⟩
  have e:=H.out
  congr 2
  split at e <;> simp_all <;> omega
theorem jZ2 (w:World) (q:Nat) (os:Array Obj):RowKit.Below w.heap.size w (grow (w.drewN q) os):=
 ⟨rfl,rfl,rfl,by show _≤(w.heap++os).size; rw [Array.size_append]; omega,fun k hk=>Array.getElem?_append_left hk⟩
abbrev u8v:UInt8→Value:=fun b=>Value.int .u8 (b.toNat:Int)
abbrev AT:TypeId:=194
theorem jYe (u:Nat) (hu:u < 18446744073709551616) (hn:nDigits u≤20) (w:World) :
  Calls prog 161 #[.slice (some ⟨w.heap.size,1,none⟩) (nDigits u) 23,.int .u64 u] (w.alloc (.cells zeros24 AT)) fun e w'=>
   e=.returned (.tuple #[])∧(∀ j (hj:j < (decDigits u).length),w'.cell? ⟨w.heap.size,1+j,none⟩=some (u8v (decDigits u)[j]))∧w'.cell? ⟨w.heap.size,0,none⟩=some (.int .u8 0)∧w'.frozen? ⟨w.heap.size,0,none⟩=false∧Below w.heap.size w w':=by
 have hH:=holds_zero w AT (nDigits u) (by omega)
 have h:=Tryz.internal_strconv_formatBase10 w.heap.size 1 23 u (Array.replicate (nDigits u) 0) (w.alloc (.cells zeros24 AT)) hH (by rw [Array.size_replicate]; exact lt_pow_nDigits u) hu (by rw [Array.size_replicate]; omega)
 rw [Array.size_replicate] at h
 refine h.mono ?_
 rintro e w' ⟨rfl,k,v',dk,rfl,hF⟩
 have hsz:dk.size=nDigits u:=hF.size
 refine ⟨rfl,fun j hj=>?_,?_,?_,?_⟩
 ·have hj':j < nDigits u:=by rwa [decDigits_length] at hj
  rw [row_is_numeral hF j hj,World.cell?_drewN]
  exact cell?_putRow u8v _ w.heap.size 1 _ dk hH (by rw [hsz,Array.size_replicate]) j (by omega)
 ·rw [World.cell?_drewN,cell?_putRow_other _ _ _ _ _ _ (Or.inr (Or.inl (Nat.zero_lt_one))),World.cell?_alloc_new]
  exact zeros24_at 0 (by omega)
 ·rw [World.frozen?_drewN,frozen?_putRow]
  exact World.frozen?_alloc_new _ _ _ _
 ·obtain ⟨os,eo⟩:=fin_pos w (.cells zeros24 AT) dk k
  rw [eo]
  exact jZ2 w k os
theorem jQD (W:World) (g off cap:Nat) (l:List UInt8) (hc:∀ j (hj:j < l.length),W.cell? ⟨g,off+j,none⟩=some (u8v l[j])) :
  (convert 80 9 (.slice (some ⟨g,off,none⟩) l.length cap)).run prog W=.ok (.string ⟨l.toArray⟩) W:=
 run_convert_bytes_back (P:=prog) W 80 9 5 ⟨g,off,none⟩ cap l Tryz.underlying80 Tryz.underlying5 Tryz.underlying9 fun j hj=>by rw [add_plain]; exact hc j hj
set_option maxHeartbeats 6400000 in
set_option maxRecDepth 100000 in
theorem jQu (n:Int) (h0 : -9223372036854775808≤n) (h1:n≤9223372036854775807) (w:World)
  (hc:∀ i:Nat,i < 20→w.cell? ⟨3,i,none⟩=some (.int .u64 ((10 ^ i:Nat):Int))) (hg:3 < w.heap.size) :
  Calls prog 145 #[.int .i64 n,.int .i64 10] w fun e w'=>e=.returned (.string ⟨(itoa n).toArray⟩)∧Below w.heap.size w w':=by
 by_cases hs:0≤n∧n < 100
 ·obtain ⟨i,rfl⟩:∃ i:Nat,n=i:=⟨n.toNat,by omega⟩
  have hi:i < 100:=by omega
  clear hc
  go_enter Tryz.func145,Tryz.ntmps145
  go_wp2_with (go_at_call 159; refine (Tryz.internal_strconv_small i hi _).mono ?_; rintro e w' ⟨rfl,rfl⟩)
  go_ret
  refine ⟨?_,Below.refl _ _⟩
  rw [itoa_nonneg]
  rfl
 ·obtain ⟨u,hu⟩:∃ u:Nat,u=n.natAbs:=⟨_,rfl⟩
  have hu1:1≤u:=by omega
  have hu64:u < 18446744073709551616:=by omega
  have hnd20:nDigits u≤20:=by have:=numDigits_eq u hu1 hu64; split at this <;> omega
  have hc':∀ i:Nat,i < 20→(w.alloc (.cells zeros24 AT)).cell? ⟨3,i,none⟩=some (.int .u64 ((10 ^ i:Nat):Int)):=fun i hi=>by
   rw [World.cell?_of_block (a:=⟨3,i,none⟩) (Below.heap_alloc w _ _ hg)]
   exact hc i hi
  have hdig:=jQx u hu1 hu64 (w.alloc (.cells zeros24 AT)) hc'
  have hfill:=jYe u hu64 hnd20 w
  have hal:prog.arrayLen AT=24:=by simp [Program.arrayLen,Tryz.underlying194]
  have hsl1:∀ W,(Instr.sliceAt AT (.pointer (some ⟨w.heap.size,0,none⟩)) (some (.int .i64 1)) (some (.int .i64 (1+(nDigits u:Int)))) none).run prog W=.ok (.slice (some ⟨w.heap.size,1,none⟩) (nDigits u) 23) W:=fun W=>by
   rw [run_sliceAt_array_lh W AT ⟨w.heap.size,0,none⟩ (by simp [Program.arrayLen,Program.elem,Tryz.underlying194]) .i64 .i64 1 (1+(nDigits u:Int)) (by omega) (by omega) (by rw [hal]; omega)]
   go_simp
   omega
  have hsl2:∀ W,(Instr.sliceAt AT (.pointer (some ⟨w.heap.size,0,none⟩)) none (some (.int .i64 (1+(nDigits u:Int)))) none).run prog W=.ok (.slice (some ⟨w.heap.size,0,none⟩) (1+nDigits u) 24) W:=fun W=>by
   rw [run_sliceAt_array_h W AT ⟨w.heap.size,0,none⟩ (by simp [Program.arrayLen,Program.elem,Tryz.underlying194]) .i64 (1+(nDigits u:Int)) (by omega) (by rw [hal]; omega)]
   go_simp
   omega
  clear hc hc' hal
  by_cases hneg:n < 0
  ·obtain rfl:n = -(u:Int):=by omega
   clear hu
   have hwr:IntKind.u64.wrap (-IntKind.u64.wrap (-(u:Int)))=(u:Int):=by rw [IntKind.wrap_u64,IntKind.wrap_u64]; omega
   go_enter Tryz.func145,Tryz.ntmps145
   go_wp2_with (go_at_call 160; refine hdig.mono ?_; rintro e w' ⟨rfl,rfl⟩)
   go_at_call 161
   refine hfill.mono ?_
   rintro e W ⟨rfl,hrow,hz,hf,hb⟩
   have hcv:=jQD (W.setCell ⟨w.heap.size,0,none⟩ (.int .u8 45)) w.heap.size 0 24 (45::decDigits u) fun j hj=>by
    cases j with
    | zero=>exact World.cell?_setCell_same _ _ _ hz
    | succ i=>
     have hi:i < (decDigits u).length:=by simpa using hj
     rw [World.cell?_setCell_other _ _ _ _ (by simp),List.getElem_cons_succ,← hrow i hi]
     congr 2
     omega
   rw [List.length_cons,decDigits_length,Nat.add_comm] at hcv
   clear hrow
   go_wp2
   go_ret
   refine ⟨?_,hb.setCell (Nat.le_refl _) _⟩
   rw [itoa_neg u hu1]
   rfl
  ·obtain rfl:n=(u:Int):=by omega
   clear hu
   go_enter Tryz.func145,Tryz.ntmps145
   go_wp2_with (go_at_call 160; refine hdig.mono ?_; rintro e w' ⟨rfl,rfl⟩)
   go_at_call 161
   refine hfill.mono ?_
   rintro e W ⟨rfl,hrow,hz,hf,hb⟩
   have hcv:=jQD W w.heap.size 1 23 (decDigits u) hrow
   rw [decDigits_length] at hcv
   clear hrow
   go_wp2
   go_ret
   refine ⟨?_,hb⟩
   rw [itoa_nonneg]
   rfl
set_option maxRecDepth 100000 in
theorem zHq (n:Int) (h0 : -9223372036854775808≤n) (h1:n≤9223372036854775807) (w:World)
  (hc:∀ i:Nat,i < 20→w.cell? ⟨3,i,none⟩=some (.int .u64 ((10 ^ i:Nat):Int))) (hg:3 < w.heap.size) :
  Calls prog 97 #[.int .i64 n] w fun e w'=>e=.returned (.string ⟨(itoa n).toArray⟩)∧Below w.heap.size w w':=by
 have hf:=jQu n h0 h1 w hc hg
 clear hc hg
 have hi:Calls prog 123 #[.int .i64 n] w fun e w'=>e=.returned (.string ⟨(itoa n).toArray⟩)∧Below w.heap.size w w':=by
  go_enter Tryz.func123,Tryz.ntmps123
  go_wp2_with (go_at_call 145; refine hf.mono ?_; rintro e w' ⟨rfl,hb⟩)
  go_ret
  exact ⟨rfl,hb⟩
 clear hf
 go_enter Tryz.func97,Tryz.ntmps97
 go_wp2_with (go_at_call 123; refine hi.mono ?_; rintro e w' ⟨rfl,hb⟩)
 go_ret
 exact ⟨rfl,hb⟩
theorem jZb {w:World} {V:Nat→Prop} (h:zXF w V):(∀ i:Nat,i < 20→w.cell? ⟨3,i,none⟩=some (.int .u64 ((10 ^ i:Nat):Int)))∧3 < w.heap.size:=by
 obtain ⟨_,hc⟩:=h.1 (3,zXh) (by simp [zJw]) (by simp [zXh])
 have key:∀ i:Nat,i < 20→w.cell? ⟨3,i,none⟩=some (.int .u64 ((10 ^ i:Nat):Int)):=fun i hi=>by
  have hd:zXh[i]?=some (DV.int .u64 ((10 ^ i:Nat):Int)):=by
   have:i=0∨i=1∨i=2∨i=3∨i=4∨i=5∨i=6∨i=7∨i=8∨i=9∨i=10∨i=11∨i=12∨i=13∨i=14∨i=15∨i=16∨i=17∨i=18∨i=19:=by omega
   rcases this with rfl | rfl | rfl | rfl | rfl | rfl | rfl | rfl | rfl | rfl | rfl | rfl | rfl | rfl | rfl | rfl | rfl | rfl | rfl | rfl <;> rfl
  obtain ⟨u,hu,hr⟩:=hc.at_ i _ hd
  simp only [RepD] at hr
  rw [Nat.zero_add] at hu
  rw [hu,hr.1]
 refine ⟨key,?_⟩
 have:=key 0 (by omega)
 simp only [World.cell?] at this
 split at this
 ·rename_i h0
  exact (Array.getElem?_eq_some_iff.1 h0).1
 ·cases this
theorem jJB (n:Int):Ans prog 97 [rJ (n)] (RV.d (DV.str (toS (itoa n)))):=by
 intro w S vs hG hR
 obtain ⟨vs⟩:=vs
 match vs,hR with
 | [v],hR=>
  simp only [RepRs,RepR,RepD,and_true] at hR
  obtain ⟨rfl,hi⟩:=hR
  have hi:=(zXB _ _).1 hi
  simp only [IntKind.min,IntKind.max,IntKind.signed,IntKind.bits] at hi
  have hb : -9223372036854775808≤n∧n≤9223372036854775807:=by simpa using hi
  obtain ⟨hc,hg⟩:=jZb hG
  refine (zHq n hb.1 hb.2 w hc hg).mono fun e w' h=>?_
  obtain ⟨rfl,h⟩:=h
  refine ⟨_,rfl,?_,h⟩
  simp only [RepR,RepD]
  refine ⟨rfl,?_⟩
  have:=zGr n hb
  rw [zQY]
  unfold maxLen
  omega
theorem idx1 (c:UInt8):∀ l:Lb,(index l [c] = -1∧c ∉ l)∨∃ a b,l=a++c::b∧c ∉ a∧index l [c]=(a.length:Int)
 | []=>.inl ⟨rfl,by simp⟩
 | x::l=>by
  unfold index
  by_cases h:c=x
  ·subst h
   exact .inr ⟨[],l,rfl,by simp,by simp [List.isPrefixOf]⟩
  ·have hp:[c].isPrefixOf (x::l)=false:=by simp [List.isPrefixOf,h]
   rw [hp]
   rcases idx1 c l with ⟨h1,h2⟩ | ⟨a,b,rfl,h2,h3⟩
   ·exact .inl ⟨by simp [h1],by simp [h,h2]⟩
   ·refine .inr ⟨x::a,b,rfl,by simp [h,h2],?_⟩
    rw [h3]
    have:((a.length:Int) == -1)=false:=by rw [beq_eq_false_iff_ne]; omega
    simp [this]
theorem zGQ {l:Lb} (h:(32:UInt8) ∉ l):zQn l=[l]:=by
 induction l with
 | nil=>rfl
 | cons c l ih=>
  simp only [List.mem_cons,not_or] at h
  rw [zQn,if_neg (fun e=>h.1 e.symm),ih h.2]
  rfl
theorem zGR {a b:Lb} (h:(32:UInt8) ∉ a):zQn (a++32::b)=a::zQn b:=by
 induction a with
 | nil=>simp [zQn]
 | cons c a ih=>
  simp only [List.mem_cons,not_or] at h
  rw [List.cons_append,zQn,if_neg (fun e=>h.1 e.symm),ih h.2]
  rfl
theorem zVa:∀ (n:Nat) (l:Lb),l.length≤n→∀ w∈zQn l,w.length≤l.length:=by
 intro n
 induction n with
 | zero=>
  intro l hl w hw
  have:l=[]:=by simpa using hl
  subst this
  simp [zQn] at hw
  simp [hw]
 | succ n ih=>
  intro l hl w hw
  rcases idx1 32 l with ⟨_,h⟩ | ⟨a,b,rfl,h,_⟩
  ·rw [zGQ h] at hw; simp at hw; simp [hw]
  ·rw [zGR h] at hw
   rcases List.mem_cons.1 hw with rfl | hw
   ·simp
   ·have:=ih b (by simp at hl; omega) w hw
    simp; omega
theorem jYC:∀ (n:Nat) (s:ByteArray),s.size≤n→(splitB ⟨#[32]⟩ 0 (countB s ⟨#[32]⟩) s).map (·.data.toList)=zQn s.data.toList:=by
 intro n
 induction n with
 | zero=>
  intro s hs
  have hl:s.data.toList=[]:=by
   have:=size_eq s
   cases h:s.data.toList with
   | nil=>rfl
   | cons a b=>rw [h] at this; simp at this; omega
  rcases idx1 32 s.data.toList with ⟨h1,h2⟩ | ⟨a,b,h,_⟩
  ·rw [splitB_miss _ _ _ _ h1,hl]; simp [hl,zQn]
  ·rw [hl] at h; simp at h
 | succ n ih=>
  intro s hs
  rcases idx1 32 s.data.toList with ⟨h1,h2⟩ | ⟨a,b,h,h2,h3⟩
  ·rw [splitB_miss _ _ _ _ h1,zGQ h2]; rfl
  ·have h3':indexB s ⟨#[32]⟩=(a.length:Int):=h3
   have hx:(s.extract (a.length+1) s.size).data.toList=b:=by
    rw [show s=toS (a++32::b) from by rw [← h]; exact (zKg s).symm,zQY,zGx,zYq]
    simp
    exact List.take_of_length_le (by omega)
   have h0:(s.extract 0 (a.length+0)).data.toList=a:=by
    rw [extract_from_zero,h]; simp
   have hsz:(s.extract (a.length+1) s.size).size≤n:=by
    rw [size_eq,hx]
    have:=size_eq s
    rw [h] at this
    simp at this; omega
   have hc:countB s ⟨#[32]⟩=countB (s.extract (a.length+1) s.size) ⟨#[32]⟩+1:=by
    rw [countB_hit s ⟨#[32]⟩ a.length (by decide) h3',Nat.add_comm]
    rfl
   rw [hc,splitB_hit _ _ _ _ _ h3',List.map_cons,h0,h,zGR h2]
   congr 1
   have:=ih _ hsz
   rw [hx] at this
   exact this
theorem jZc {w:World} {V:Nat→Prop} (h:zXF w V):∃ m,w.cell? ⟨2,0,none⟩=some (.int .i64 m):=(h.2.2 2 (by simp [zJQ])).2
theorem zHK (l:Lb) (hl:l.length < 4294967281):Ans prog 104 [RV.d (DV.str (toS l)),RV.d (DV.str (⟨#[32]⟩:ByteArray))] (RV.d (dS (zQn l).length (strs (zQn l)))):=by
 intro w S vs hG hR
 obtain ⟨vs⟩:=vs
 match vs,hR with
 | [v,v2],hR=>
  simp only [RepRs,RepR,RepD,and_true] at hR
  obtain ⟨⟨rfl,hsz⟩,rfl,_⟩:=hR
  obtain ⟨m,hm⟩:=jZc hG
  refine (Tryz.strings_Split (toS l) ⟨#[32]⟩ m w (by rw [zQY]; exact hl) hm (by decide)).mono fun e w' h=>?_
  obtain ⟨rfl,rfl⟩:=h
  have hs:=jYC (toS l).size (toS l) (Nat.le_refl _)
  rw [zYq] at hs
  generalize hX:splitB ⟨#[32]⟩ 0 (countB (toS l) ⟨#[32]⟩) (toS l)=X at hs
  have hn:countB (toS l) ⟨#[32]⟩+1=(zQn l).length:=by rw [← hs,← hX,List.length_map,splitB_all _ (by decide) _ _ _ rfl]
  have hXs:X.map Value.string=(zQn l).map fun w=>Value.string (toS w):=by
   rw [← hs,List.map_map]
   refine List.map_congr_left fun x _=>?_
   show Value.string x=Value.string (toS x.data.toList)
   rw [show toS x.data.toList=x from zKg x]
  refine ⟨_,rfl,?_,Below.alloc (Below.refl _ _) (Nat.le_refl _) _⟩
  simp only [RepR,RepD]
  rw [hn]
  have hlen:=zJF l
  refine ⟨_,_,rfl,Nat.le_refl _,by unfold maxLen; omega,fun _=>⟨_,_,rfl,.inr (Nat.le_refl _),RepCells.of_at fun i d hi=>?_⟩⟩
  rw [Nat.zero_add]
  have hi':i < (zQn l).length:=by have:=(List.getElem?_eq_some_iff.1 hi).1; rwa [zQ5] at this
  rw [(zV6 hi').1] at hi
  cases hi
  refine ⟨.string (toS (zQn l)[i]),?_,?_⟩
  ·rw [hXs,World.cell?_alloc_new]
   simp [hi']
  ·simp only [RepD]
   refine ⟨trivial,?_⟩
   have:=zVa _ l (Nat.le_refl _) _ (List.getElem_mem hi')
   rw [zQY]
   unfold maxLen
   omega
def cutL (l:Lb):Lb × Lb × Bool:=Lib.cut l [10]
theorem jYl {l:Lb} (h:(10:UInt8) ∉ l):cutL l=(l,[],false):=by
 unfold cutL Lib.cut
 rcases idx1 10 l with ⟨h1,_⟩ | ⟨a,b,rfl,_⟩
 ·rw [if_neg (by omega)]
 ·exact absurd (by simp) h
theorem jYm {a b:Lb} (h:(10:UInt8) ∉ a):cutL (a++10::b)=(a,b,true):=by
 unfold cutL Lib.cut
 rcases idx1 10 (a++10::b) with ⟨_,h2⟩ | ⟨a',b',h1,h2,h3⟩
 ·exact absurd (by simp) h2
 ·have hu:a=a'∧b=b':=by
   clear h3
   induction a generalizing a' with
   | nil=>
    cases a' with
    | nil=>simpa using h1
    | cons x a'=>simp at h1; exact absurd h1.1 (by simp at h2; exact h2.1)
   | cons y a ih=>
    cases a' with
    | nil=>simp at h1; exact absurd h1.1.symm (by simp at h; exact h.1)
    | cons x a'=>
     simp only [List.cons_append,List.cons.injEq] at h1
     simp only [List.mem_cons,not_or] at h h2
     obtain ⟨h4,h5⟩:=ih h.2 a' h1.2 h2.2
     exact ⟨by rw [h1.1,h4],h5⟩
  obtain ⟨rfl,rfl⟩:=hu
  rw [h3,if_pos (by omega),Int.toNat_natCast]
  simp
theorem jZp (l:Lb):(cutL l).1.length≤l.length∧(cutL l).2.1.length≤l.length:=by
 rcases idx1 10 l with ⟨_,h⟩ | ⟨a,b,rfl,h,_⟩
 ·rw [jYl h]; simp
 ·rw [jYm h]; simp; omega
theorem jK0 (l:Lb) (hl:l.length < 4294967281):Ans prog 35 [RV.d (DV.str (toS l)),RV.d (DV.str (⟨#[10]⟩:ByteArray))] (RV.tup [RV.d (DV.str (toS (cutL l).1)),RV.d (DV.str (toS (cutL l).2.1)),RV.d (dQ (cutL l).2.2)]):=by
 intro w S vs hG hR
 obtain ⟨vs⟩:=vs
 match vs,hR with
 | [v,v2],hR=>
  simp only [RepRs,RepR,RepD,and_true] at hR
  obtain ⟨⟨rfl,hsz⟩,rfl,_⟩:=hR
  obtain ⟨m,hm⟩:=jZc hG
  refine (Tryz.strings_Cut (toS l) ⟨#[10]⟩ m w (by rw [zQY]; exact hl) hm).mono fun e w' h=>?_
  obtain ⟨rfl,n,rfl⟩:=h
  refine ⟨_,rfl,?_,⟨rfl,rfl,rfl,Nat.le_refl _,fun _ _=>rfl⟩⟩
  obtain ⟨h1,h2⟩:=jZp l
  simp only [RepR]
  refine ⟨_,rfl,?_⟩
  simp only [RepRs,RepR,RepD,and_true]
  refine ⟨⟨rfl,?_⟩,⟨rfl,?_⟩,rfl⟩
  ·rw [zQY]; unfold maxLen; omega
  ·rw [zQY]; unfold maxLen; omega
def zKw (w:Lb):Int:=match atoiAll w with
 | .ok v=>v
 | .range=>atoiSat w
 | _=>0
def numP (w:Lb):Int × Bool:=(zKw w,zXZ w)
theorem jXa (l:Lb):trimPrefix l [45]=unsg l:=by
 cases l with
 | nil=>rfl
 | cons c l=>
  unfold trimPrefix hasPrefix unsg
  by_cases h:c=45
  ·subst h; simp [List.isPrefixOf]
  ·simp [List.isPrefixOf,h]
   intro e; exact absurd e.symm h
theorem jJj {w:World} {V:Nat→Prop} (h:zXF w V):(∃ t v,w.cell? ⟨4,0,none⟩=some (.iface t v))∧∃ t v,w.cell? ⟨5,0,none⟩=some (.iface t v):=
 ⟨(h.2.1 4 (by simp [zYU])).2,(h.2.1 5 (by simp [zYU])).2⟩
theorem jXe {w w':World} (hb:RowKit.Below w.heap.size w w') {g:Nat} (hg:g < w.heap.size) (hc:∀ i:Nat,i < 20→w.cell? ⟨g,i,none⟩=some (.int .u64 ((10 ^ i:Nat):Int))) :
  (∀ i:Nat,i < 20→w'.cell? ⟨g,i,none⟩=some (.int .u64 ((10 ^ i:Nat):Int)))∧g < w'.heap.size:=
 ⟨fun i hi=>by rw [RowKit.Below.cell hb (p:=⟨g,i,none⟩) hg]; exact hc i hi,Nat.lt_of_lt_of_le hg hb.size⟩
theorem zJj (l:Lb) (hl:l.length≤281474976710656):Ans prog 112 [RV.d (DV.str (toS l))] (RV.tup [rJ ((numP l).1),RV.d (dQ (numP l).2)]):=by
 intro w S vs hG hR
 obtain ⟨vs⟩:=vs
 match vs,hR with
 | [v],hR=>
  simp only [RepRs,RepR,RepD,and_true] at hR
  obtain ⟨rfl,hsz⟩:=hR
  have hsz':(toS l).size≤281474976710656:=by rw [zQY]; exact hl
  obtain ⟨hten,hg⟩:=jZb hG
  obtain ⟨⟨t1,v1,hE1⟩,t2,v2,hE2⟩:=jJj hG
  suffices h:Calls prog 112 #[.string (toS l)] w fun e w'=>e=.returned (.tuple #[.int .i64 (zKw l),.bool (zXZ l)])∧RowKit.Below w.heap.size w w' by
   refine h.mono fun e w' h=>?_
   obtain ⟨rfl,hb⟩:=h
   refine ⟨_,rfl,?_,hb⟩
   simp only [RepR]
   refine ⟨_,rfl,?_⟩
   simp only [RepRs,RepR,RepD,and_true]
   refine ⟨⟨rfl,(zXB _ _).2 ?_⟩,rfl⟩
   have : -9223372036854775808≤zKw l∧zKw l≤9223372036854775807:=by
    unfold zKw
    split
    ·rename_i h; exact atoiAll_bounds h
    ·exact atoiSat_bounds l
    ·omega
   simpa [numP,IntKind.min,IntKind.max,IntKind.signed,IntKind.bits] using this
  cases hA:atoiAll l with
  | ok v=>
   have hV:zKw l=v:=by unfold zKw; rw [hA]
   rw [hV]
   have hok:Calls prog 138 #[.string (toS l)] w fun e w'=>e=.returned (.tuple #[.int .i64 v,.nilIface])∧RowKit.Below w.heap.size w w':=
    (Tryz.strconv_Atoi_ok (toS l) (by omega) v hA w).mono fun e w' h=>⟨h.1,by
     rcases h.2 with rfl | ⟨t,rfl⟩
     ·exact Below.refl _ _
     ·exact bytesWorld_below w _ t⟩
   have htr:∀ w,Calls prog 139 #[.string (toS l),.string ⟨#[45]⟩] w fun e w'=>e=.returned (.string (toS (unsg l)))∧w'=w:=fun w=>by
    have:=Tryz.strings_TrimPrefix (toS l) ⟨#[45]⟩ w
    rw [zYq,show (⟨#[45]⟩:ByteArray).data.toList=[45] from rfl,jXa] at this
    exact this
   have hvb:=atoiAll_bounds hA
   have hcan:zXZ l=(decide ((unsg l).length≤10) && decide (itoa v=l)):=by
    rw [Bool.eq_iff_iff]
    simp only [Bool.and_eq_true,decide_eq_true_eq]
    constructor
    ·intro hc
     have h1:=zYI hc
     rw [hA] at h1
     injection h1 with h1
     subst h1
     exact ⟨(zJT.1 hc).2.1,zUV hc⟩
    ·intro ⟨h1,h2⟩
     rw [← h2] at h1
     rw [← h2]
     exact (zUL h1).1
   rw [hcan]
   have hit:∀ w',RowKit.Below w.heap.size w w'→Calls prog 97 #[.int .i64 v] w' fun e W=>e=.returned (.string (toS (itoa v)))∧RowKit.Below w.heap.size w W:=fun w' hb=>by
    obtain ⟨hc,hg'⟩:=jXe hb hg hten
    exact (zHq v hvb.1 hvb.2 w' hc hg').mono fun e W h=>⟨h.1,hb.trans (h.2.mono hb.size)⟩
   have hlen:(toS (unsg l)).size=(unsg l).length:=zQY _
   have hbig:(unsg l).length≤9223372036854775807:=by
    have:(unsg l).length≤l.length:=by unfold unsg; split <;> (try split) <;> simp
    omega
   generalize unsg l=U at *
   clear hV hcan hG hE1 hE2 hten
   have hl8:Aside (l.length≤281474976710656):=hl
   clear hl hsz hsz'
   go_enter Tryz.func112,Tryz.ntmps112
   go_wp2_with (first
    |(go_at_call 138; refine hok.mono ?_; rintro e w1 ⟨rfl,hb⟩)
    |(go_at_call 139; refine (htr _).mono ?_; rintro e w' ⟨rfl,rfl⟩)
    |(go_at_call 97; refine (hit _ (by assumption)).mono ?_; rintro e w2 ⟨rfl,hb2⟩))
   ·go_ret2
    refine ⟨?_,by assumption⟩
    rw [zXn,show decide (U.length≤10)=true from decide_eq_true (by omega),Bool.true_and]
    rfl
   ·go_ret2
    refine ⟨?_,by assumption⟩
    rw [show decide (U.length≤10)=false from decide_eq_false (by omega),Bool.false_and]
    rfl
  | range=>
   have hV:zKw l=atoiSat l:=by unfold zKw; rw [hA]
   have hcan:zXZ l=false:=by
    cases hc:zXZ l with
    | false=>rfl
    | true=>have:=zYI hc; rw [hA] at this; cases this
   rw [hV,hcan]
   have hok:Calls prog 138 #[.string (toS l)] w fun e w'=>∃ N,e=.returned (.tuple #[.int .i64 (atoiSat l),.iface 205 (.pointer (some ⟨N,0,none⟩))])∧RowKit.Below w.heap.size w w':=
    (Tryz.strconv_Atoi_range (toS l) hsz' hA _ w hE2 (.inr ⟨_,_,rfl⟩)).mono fun e w' h=>by
     obtain ⟨N,h1,_,_,h2⟩:=h
     exact ⟨N,h1,h2⟩
   clear hV hcan hG hE1 hE2 hten hsz hsz' hl
   generalize atoiSat l=v at *
   go_enter Tryz.func112,Tryz.ntmps112
   go_wp2_with (go_at_call 138; refine hok.mono ?_; rintro e w1 ⟨N,rfl,hb⟩)
   go_ret2
   exact ⟨rfl,hb⟩
  | _=>
   have hV:zKw l=0:=by unfold zKw; rw [hA]
   have hcan:zXZ l=false:=by
    cases hc:zXZ l with
    | false=>rfl
    | true=>have:=zYI hc; rw [hA] at this; cases this
   rw [hV,hcan]
   have hok:Calls prog 138 #[.string (toS l)] w fun e w'=>∃ N,e=.returned (.tuple #[.int .i64 0,.iface 205 (.pointer (some ⟨N,0,none⟩))])∧RowKit.Below w.heap.size w w':=
    (Any.strconv_Atoi_syntax Tryz.laysC172 (toS l) hsz' hA _ w hE1 (.inr ⟨_,_,rfl⟩)).mono fun e w' h=>by
     obtain ⟨N,h1,_,_,h2⟩:=h
     exact ⟨N,h1,h2⟩
   clear hV hcan hG hE1 hE2 hten hsz hsz' hl
   go_enter Tryz.func112,Tryz.ntmps112
   go_wp2_with (go_at_call 138; refine hok.mono ?_; rintro e w1 ⟨N,rfl,hb⟩)
   go_ret2
   exact ⟨rfl,hb⟩
end
section
attribute [local irreducible] Ans AnsO AnsG AnsN AnsI
open Go.Lib
structure LQ where
  ws:List Lb
  bad:Bool
def reQ (q:LQ):LQ:=⟨zQb (strs q.ws),q.bad⟩
theorem zZQ (q:LQ):reQ q=q:=by unfold reQ; rw [zQv]
def zZk (ws:List Lb):Lb:=ws.headD []
def zZK (q:LQ):LQ:=⟨q.ws.drop 1,q.bad⟩
def zZI (q:LQ):LQ:=⟨q.ws.drop 1,q.bad || q.ws.isEmpty⟩
def numQ (q:LQ) (lo hi:Int):Int × LQ:=if okN lo hi (zZk q.ws)=true then (numV (zZk q.ws),zZI q) else (0,⟨q.ws.drop 1,true⟩)
theorem jKy {q:LQ} {lo hi:Int} (h:lo≤0∧0≤hi):lo≤(numQ q lo hi).1∧(numQ q lo hi).1≤hi:=by
 unfold numQ
 split
 ·rename_i e
  exact zJ8 e
 ·exact h
def namQ (f:Int→ByteArray) (q:LQ):Int × LQ:=((nmR f (zZk q.ws)).1,⟨q.ws.drop 1,(zZI q).bad || !(nmR f (zZk q.ws)).2⟩)
def okQ (q:LQ):Prop:=∀ w∈q.ws,w.length≤281474976710656
theorem jY5 {q:LQ} (h:okQ q):(zZk q.ws).length≤281474976710656:=by
 unfold zZk
 cases hq:q.ws with
 | nil=>simp
 | cons w r=>exact h w (by rw [hq]; exact List.mem_cons_self ..)
theorem zGl {q:LQ} (h:okQ q) (b:Bool):okQ ⟨q.ws.drop 1,b⟩:=fun w hw=>h w (List.mem_of_mem_drop hw)
theorem jQW {q:LQ} (h:okQ q):okQ (zZI q):=zGl h _
theorem zQd {q:LQ} (h:okQ q) {lo hi:Int}:okQ (numQ q lo hi).2:=by
 unfold numQ
 split
 ·exact jQW h
 ·exact zGl h _
theorem zQe {q:LQ} (h:okQ q) {f:Int→ByteArray}:okQ (namQ f q).2:=zGl h _
def gZ20 (xs:List RV):Option RV:=match xs with | [.d (.str s)]=>some (RV.tup [rJ (numP (ofS s)).1,RV.d (dQ (numP (ofS s)).2)]) | _=>none
def gZ21 (xs:List AV) (bs:List Bx):Option Ret:=match xs,bs with | [AV.one (Cl.ptr 0 0)],[Bx.cells [Cl.clo 105 [Cap.ptr 1 0],Cl.d (DV.bool bad)],Bx.cells [Cl.d (DV.sl wn wxs)]]=>some ⟨AV.one (Cl.d (DV.str (toS (zZk (⟨zQb wxs,bad⟩:LQ).ws)))),[bC [Cl.clo 105 [Cap.ptr 1 0],Cl.d (dQ (zZI (⟨zQb wxs,bad⟩:LQ)).bad)],bC [Cl.d (dS (zZI (⟨zQb wxs,bad⟩:LQ)).ws.length (strs (zZI (⟨zQb wxs,bad⟩:LQ)).ws))]],false⟩ | _,_=>none
def gZ22 (xs:List AV) (bs:List Bx):Option Ret:=match xs,bs with | [AV.one (Cl.ptr 0 0),AV.one (Cl.d (DV.int _ lo)),AV.one (Cl.d (DV.int _ hi))],[Bx.cells [Cl.clo 105 [Cap.ptr 1 0],Cl.d (DV.bool bad)],Bx.cells [Cl.d (DV.sl wn wxs)]]=>let a:=(numQ (⟨zQb wxs,bad⟩:LQ) lo hi); some ⟨AV.one (Cl.d (DV.int .i64 a.1)),[Bx.cells [Cl.clo 105 [Cap.ptr 1 0],Cl.d (DV.bool a.2.bad)],Bx.cells [Cl.d (DV.sl a.2.ws.length (strs a.2.ws))]],false⟩ | _,_=>none
def gZ23 (xs:List AV) (bs:List Bx):Option Ret:=match xs,bs with | [AV.one (Cl.ptr 0 0)],[Bx.cells [Cl.clo 105 [Cap.ptr 1 0],Cl.d (DV.bool bad)],Bx.cells [Cl.d (DV.sl wn wxs)]]=>let a:=(numQ (⟨zQb wxs,bad⟩:LQ) 0 255); some ⟨AV.one (Cl.d (DV.int .i64 a.1)),[Bx.cells [Cl.clo 105 [Cap.ptr 1 0],Cl.d (DV.bool a.2.bad)],Bx.cells [Cl.d (DV.sl a.2.ws.length (strs a.2.ws))]],false⟩ | _,_=>none
def gZ24 (xs:List AV) (bs:List Bx):Option Ret:=match xs,bs with | [AV.one (Cl.ptr 0 0)],[Bx.cells [Cl.clo 105 [Cap.ptr 1 0],Cl.d (DV.bool bad)],Bx.cells [Cl.d (DV.sl wn wxs)]]=>let a:=(numQ (⟨zQb wxs,bad⟩:LQ) (-2147483648) 2147483647); some ⟨AV.one (Cl.d (DV.int .i64 a.1)),[Bx.cells [Cl.clo 105 [Cap.ptr 1 0],Cl.d (DV.bool a.2.bad)],Bx.cells [Cl.d (DV.sl a.2.ws.length (strs a.2.ws))]],false⟩ | _,_=>none
def gZ25 (xs:List AV) (bs:List Bx):Option Ret:=match xs,bs with | [AV.one (Cl.ptr 0 0)],[Bx.cells [Cl.clo 105 [Cap.ptr 1 0],Cl.d (DV.bool bad)],Bx.cells [Cl.d (DV.sl wn wxs)]]=>let a:=(numQ (⟨zQb wxs,bad⟩:LQ) 0 4294967295); some ⟨AV.one (Cl.d (DV.int .i64 a.1)),[Bx.cells [Cl.clo 105 [Cap.ptr 1 0],Cl.d (DV.bool a.2.bad)],Bx.cells [Cl.d (DV.sl a.2.ws.length (strs a.2.ws))]],false⟩ | _,_=>none
def gZ26 (xs:List AV) (bs:List Bx):Option Ret:=match xs,bs with | [AV.one (Cl.ptr 0 0)],[Bx.cells [Cl.clo 105 [Cap.ptr 1 0],Cl.d (DV.bool bad)],Bx.cells [Cl.d (DV.sl wn wxs)]]=>let a:=(numQ (⟨zQb wxs,bad⟩:LQ) 0 65535); some ⟨AV.one (Cl.d (DV.int .u16 a.1)),[Bx.cells [Cl.clo 105 [Cap.ptr 1 0],Cl.d (DV.bool a.2.bad)],Bx.cells [Cl.d (DV.sl a.2.ws.length (strs a.2.ws))]],false⟩ | _,_=>none
def gZ27 (xs:List AV) (bs:List Bx):Option Ret:=match xs,bs with | [AV.one (Cl.ptr 0 0)],[Bx.cells [Cl.clo 105 [Cap.ptr 1 0],Cl.d (DV.bool bad)],Bx.cells [Cl.d (DV.sl wn wxs)]]=>let a:=(numQ (⟨zQb wxs,bad⟩:LQ) 0 1); some ⟨AV.one (Cl.d (DV.bool (decide (a.1=1)))),[Bx.cells [Cl.clo 105 [Cap.ptr 1 0],Cl.d (DV.bool a.2.bad)],Bx.cells [Cl.d (DV.sl a.2.ws.length (strs a.2.ws))]],false⟩ | _,_=>none
def gZ28 (xs:List AV) (bs:List Bx):Option Ret:=match xs,bs with | [AV.one (Cl.ptr 0 0)],[Bx.cells [Cl.clo 105 [Cap.ptr 1 0],Cl.d (DV.bool bad)],Bx.cells [Cl.d (DV.sl wn wxs)]]=>let a:=(namQ zQo (⟨zQb wxs,bad⟩:LQ)); some ⟨AV.one (Cl.d (DV.int .i64 a.1)),[Bx.cells [Cl.clo 105 [Cap.ptr 1 0],Cl.d (DV.bool a.2.bad)],Bx.cells [Cl.d (DV.sl a.2.ws.length (strs a.2.ws))]],false⟩ | _,_=>none
def gZ29 (xs:List AV) (bs:List Bx):Option Ret:=match xs,bs with | [AV.one (Cl.ptr 0 0)],[Bx.cells [Cl.clo 105 [Cap.ptr 1 0],Cl.d (DV.bool bad)],Bx.cells [Cl.d (DV.sl wn wxs)]]=>let a:=(namQ zQg (⟨zQb wxs,bad⟩:LQ)); some ⟨AV.one (Cl.d (DV.int .i64 a.1)),[Bx.cells [Cl.clo 105 [Cap.ptr 1 0],Cl.d (DV.bool a.2.bad)],Bx.cells [Cl.d (DV.sl a.2.ws.length (strs a.2.ws))]],false⟩ | _,_=>none
def gZ30 (xs:List AV) (bs:List Bx):Option Ret:=match xs,bs with | [AV.one (Cl.ptr 0 0)],[Bx.cells [Cl.clo 105 [Cap.ptr 1 0],Cl.d (DV.bool bad)],Bx.cells [Cl.d (DV.sl wn wxs)]]=>let a:=(⟨zQb wxs,bad⟩:LQ); some ⟨AV.one (Cl.d (DV.bool (a.ws.isEmpty && !a.bad))),[Bx.cells [Cl.clo 105 [Cap.ptr 1 0],Cl.d (DV.bool (zZK a).bad)],Bx.cells [Cl.d (DV.sl (zZK a).ws.length (strs (zZK a).ws))]],false⟩ | _,_=>none
def zK0:Gam where
 pure:=fun f xs=>
  if f=112 then gZ20 xs else
  if f=157 then gZ6 xs else
  if f=158 then gZ7 xs else
  none
 modes:=fun f=>
  if f=105 then some ([false],1,0) else
  if f=74 then some ([false],2,0) else
  if f=136 then some ([false],2,0) else
  if f=137 then some ([false,true,true],2,0) else
  if f=109 then some ([false],2,0) else
  if f=110 then some ([false],2,0) else
  if f=111 then some ([false],2,0) else
  if f=135 then some ([false],2,0) else
  if f=142 then some ([false],2,0) else
  if f=140 then some ([false],2,0) else
  if f=141 then some ([false],2,0) else
  if f=156 then some ([false,true],2,0) else
  if f=107 then some ([false],2,0) else
  none
 proc:=fun f xs bs=>
  if f=105 then (match xs,bs with | [AV.one (Cl.ptr 0 0)],[Bx.cells [Cl.d (DV.sl wn wxs)]]=>some ⟨AV.tup [AV.one (Cl.d (DV.str (toS (zZk (zQb wxs))))),AV.one (Cl.d (dQ (!(zQb wxs).isEmpty)))],[bC [Cl.d (dS ((zQb wxs).drop 1).length (strs ((zQb wxs).drop 1)))]],false⟩ | _,_=>none) else
  if f=74 then gZ21 xs bs else
  if f=136 then (match xs,bs with | [AV.one (Cl.ptr 0 0)],[Bx.cells [Cl.clo 105 [Cap.ptr 1 0],Cl.d (DV.bool bad)],Bx.cells [Cl.d (DV.sl wn wxs)]]=>some ⟨AV.one (Cl.d (dQ (!(⟨zQb wxs,bad⟩:LQ).ws.isEmpty))),[bC [Cl.clo 105 [Cap.ptr 1 0],Cl.d (dQ (zZK (⟨zQb wxs,bad⟩:LQ)).bad)],bC [Cl.d (dS (zZK (⟨zQb wxs,bad⟩:LQ)).ws.length (strs (zZK (⟨zQb wxs,bad⟩:LQ)).ws))]],false⟩ | _,_=>none) else
  if f=137 then gZ22 xs bs else
  if f=109 then gZ23 xs bs else
  if f=110 then gZ24 xs bs else
  if f=111 then gZ25 xs bs else
  if f=135 then gZ26 xs bs else
  if f=142 then gZ27 xs bs else
  if f=140 then gZ28 xs bs else
  if f=141 then gZ29 xs bs else
  if f=156 then (match xs,bs with | [AV.one (Cl.ptr 0 0),AV.one (Cl.d (DV.fn 157))],[Bx.cells [Cl.clo 105 [Cap.ptr 1 0],Cl.d (DV.bool bad)],Bx.cells [Cl.d (DV.sl wn wxs)]]=>let a:=(namQ zQo (⟨zQb wxs,bad⟩:LQ)); some ⟨AV.one (Cl.d (DV.int .i64 a.1)),[Bx.cells [Cl.clo 105 [Cap.ptr 1 0],Cl.d (DV.bool a.2.bad)],Bx.cells [Cl.d (DV.sl a.2.ws.length (strs a.2.ws))]],false⟩ | [AV.one (Cl.ptr 0 0),AV.one (Cl.d (DV.fn 158))],[Bx.cells [Cl.clo 105 [Cap.ptr 1 0],Cl.d (DV.bool bad)],Bx.cells [Cl.d (DV.sl wn wxs)]]=>let a:=(namQ zQg (⟨zQb wxs,bad⟩:LQ)); some ⟨AV.one (Cl.d (DV.int .i64 a.1)),[Bx.cells [Cl.clo 105 [Cap.ptr 1 0],Cl.d (DV.bool a.2.bad)],Bx.cells [Cl.d (DV.sl a.2.ws.length (strs a.2.ws))]],false⟩ | _,_=>none) else
  if f=107 then gZ30 xs bs else
  none
 iter:=fun f cs=>
  none
theorem zJi (ws:List Lb):AnsG prog 105 1 [aPz] [bC [Cl.d (dS ws.length (strs ws))]] ⟨AV.tup [AV.one (Cl.d (DV.str (toS (zZk (zQb (strs ws)))))),AV.one (Cl.d (dQ (!(zQb (strs ws)).isEmpty)))],[bC [Cl.d (dS (((zQb (strs ws)).drop 1).length) (strs ((zQb (strs ws)).drop 1)))]],false⟩:=
 zQx (Γ:=zK0) Ann.leaf zQB Tryz.func105 rfl (Nat.le_of_ble_eq_true rfl) rfl fun hwf hbx=>by
  refine Eq.mpr (by kernel_rfl:_=(let c:=(!(zQb (strs ws)).isEmpty); let a:=(ws.length:Int); let b:=((zQb (strs ws)).drop 1); let e:=[bC [Cl.d (dS b.length (strs b))]]; let d:=(toS (zZk (zQb (strs ws)))); let f:=[AV.one (Cl.d (DV.str d)),AV.one (Cl.d (dQ c))]; let g:=[dS b.length (strs b)]; tU5 (((a==0)=true→tU2 (((((DV.str (⟨#[]⟩:ByteArray)=DV.str d)∧(dQ false=dQ c)∧True)∧True)∧(([dS ws.length (strs ws)]=g)∧True))∧zQl ⟨AV.tup f,e,false⟩))∧((a==0)=false→True∧(0≤(0:Int)∧(0:Int) < a∧0 < (strs ws).length)∧(((strs ws)[0]?=some (DV.str (sAt (strs ws) 0)))∧True)∧tU2 ((0≤(1:Int)∧(1:Int)≤a∧a≤a)∧tU4 (((((DV.str (sAt (strs ws) 0)=DV.str d)∧(dQ true=dQ c)∧True)∧True)∧(([dS (a - 1).toNat (List.take ((a - 1).toNat*1) (List.drop ((1:Int).toNat*1) (strs ws)))]=g)∧True))∧zQl ⟨AV.tup f,e,false⟩)))))) ?_
  delta tU2 tU4 tU5 dQ dS bC
  simp only [sS]
  simp only [zZQ,zQv,zQL]
  cases ws with
  | nil=>
   refine ⟨fun _=>(by (repeat' apply And.intro) <;> first | rfl | trivial),fun h=>absurd h (by decide)⟩
  | cons w r=>
   have s0:sAt (strs (w::r)) 0=toS w:=rfl
   have q0:(strs (w::r))[0]?=some (DV.str (toS w)):=rfl
   have dr:List.take (r.length*1) (List.drop (Int.toNat 1*1) (strs (w::r)))=strs r:=zU2 1 _ rfl rfl
   have drn:((((w::r).length:Nat):Int) - 1).toNat=r.length:=by simp
   simp only [s0,q0,drn,dr]
   refine ⟨fun h=>absurd h (by simp; omega),fun _=>⟨⟨by omega,by simp <;> omega,by simp [zQ5]⟩,trivial,⟨by omega,by simp <;> omega,by omega⟩,(by (repeat' apply And.intro) <;> first | rfl | trivial)⟩⟩
theorem zZY (q:LQ):AnsG prog 74 2 [aPz] [bC [Cl.clo 105 [Cap.ptr 1 0],Cl.d (dQ q.bad)],bC [Cl.d (dS q.ws.length (strs q.ws))]] ⟨AV.one (Cl.d (DV.str (toS (zZk (q).ws)))),[bC [Cl.clo 105 [Cap.ptr 1 0],Cl.d (dQ ((zZI q).bad))],bC [Cl.d (dS ((zZI q).ws.length) (strs (zZI q).ws))]],false⟩:=
 zQx (Γ:=zK0) Ann.leaf zQB Tryz.func74 rfl (Nat.le_of_ble_eq_true rfl) rfl fun hwf hbx=>by
  refine Eq.mpr (by kernel_rfl:_=(let c:=(toS (zZk q.ws)); let a:=(zQb (strs q.ws)); let b:=(a.drop 1); let d:=[bC [Cl.clo 105 [Cap.ptr 1 0],Cl.d (dQ (zZI q).bad)],bC [Cl.d (dS (zZI q).ws.length (strs (zZI q).ws))]]; let e:=((DV.str (toS (zZk a))=DV.str c)∧True); let f:=([dS b.length (strs b)]=[dS (zZI q).ws.length (strs (zZI q).ws)]); tU5 ((AnsG prog 105 1 [aPz] [bC [Cl.d (dS q.ws.length (strs q.ws))]] ⟨AV.tup [AV.one (Cl.d (DV.str (toS (zZk a)))),AV.one (Cl.d (dQ (!a.isEmpty)))],[bC [Cl.d (dS b.length (strs b))]],false⟩)∧tU3 (tU8 ((q.bad=false→tU8 ((e∧((((0=0)∧True)∧(dQ (!(!a.isEmpty))=dQ (zZI q).bad)∧True)∧f∧True))∧zQl ⟨AV.one (Cl.d (DV.str c)),d,false⟩))∧(q.bad=(!false)→tU6 ((e∧((((0=0)∧True)∧(dQ true=dQ (zZI q).bad)∧True)∧f∧True))∧zQl ⟨AV.one (Cl.d (DV.str c)),d,false⟩))))))) ?_
  delta tU3 tU5 tU6 tU8 dQ dS aPz bC
  simp only [sS]
  simp only [zZQ,zQv,zQL]
  have aO:=zJi q.ws
  simp only [zQv] at aO
  refine ⟨aO,fun h=>?_,fun h=>?_⟩
  ·have e:(!!q.ws.isEmpty)=(zZI q).bad:=by unfold zZI; rw [h]; simp
   rw [e]; exact (by (repeat' apply And.intro) <;> first | rfl | trivial)
  ·have e:true=(zZI q).bad:=by unfold zZI; rw [h]; rfl
   rw [e]; exact (by (repeat' apply And.intro) <;> first | rfl | trivial)
theorem zKH (q:LQ):AnsG prog 136 2 [aPz] [bC [Cl.clo 105 [Cap.ptr 1 0],Cl.d (dQ q.bad)],bC [Cl.d (dS q.ws.length (strs q.ws))]] ⟨AV.one (Cl.d (dQ (!((q).ws).isEmpty))),[bC [Cl.clo 105 [Cap.ptr 1 0],Cl.d (dQ ((zZK q).bad))],bC [Cl.d (dS ((zZK q).ws.length) (strs (zZK q).ws))]],false⟩:=
 zQx (Γ:=zK0) Ann.leaf zQB Tryz.func136 rfl (Nat.le_of_ble_eq_true rfl) rfl fun hwf hbx=>by
  refine Eq.mpr (by kernel_rfl:_=(let b:=(!(zQb (strs q.ws)).isEmpty); let a:=((zQb (strs q.ws)).drop 1); tU5 ((AnsG prog 105 1 [aPz] [bC [Cl.d (dS q.ws.length (strs q.ws))]] ⟨AV.tup [AV.one (Cl.d (DV.str (toS (zZk (zQb (strs q.ws)))))),AV.one (Cl.d (dQ b))],[bC [Cl.d (dS a.length (strs a))]],false⟩)∧tU7 ((((dQ b=dQ (!q.ws.isEmpty))∧True)∧((((0=0)∧True)∧(dQ q.bad=dQ (zZK q).bad)∧True)∧([dS a.length (strs a)]=[dS (zZK q).ws.length (strs (zZK q).ws)])∧True))∧zQl ⟨AV.one (Cl.d (dQ (!q.ws.isEmpty))),[bC [Cl.clo 105 [Cap.ptr 1 0],Cl.d (dQ (zZK q).bad)],bC [Cl.d (dS (zZK q).ws.length (strs (zZK q).ws))]],false⟩)))) ?_
  delta tU5 tU7 dQ dS aPz bC
  simp only [sS]
  simp only [zZQ,zQv,zQL]
  have aO:=zJi q.ws
  simp only [zQv] at aO
  exact ⟨aO,(by (repeat' apply And.intro) <;> first | rfl | trivial)⟩
theorem zQ0 (q:LQ) (lo hi:Int) (hq:okQ q):AnsG prog 137 2 [aPz,aJ ((lo)),aJ ((hi))] [bC [Cl.clo 105 [Cap.ptr 1 0],Cl.d (dQ q.bad)],bC [Cl.d (dS q.ws.length (strs q.ws))]] ⟨aJ ((((numQ q lo hi).1))),[bC [Cl.clo 105 [Cap.ptr 1 0],Cl.d (dQ (((numQ q lo hi).2).bad))],bC [Cl.d (dS (((numQ q lo hi).2).ws.length) (strs ((numQ q lo hi).2).ws))]],false⟩:=
 zQx (Γ:=zK0) Ann.leaf zQB Tryz.func137 rfl (Nat.le_of_ble_eq_true rfl) rfl fun hwf hbx=>by
  refine Eq.mpr (by kernel_rfl:_=(let c:=(zZI (reQ q)); let a:=(numQ q lo hi); let d:=(cJ a.1); let i:=[Cl.clo 105 [Cap.ptr 1 0],Cl.d (dQ a.2.bad)]; let b:=(numP (ofS (toS (zZk (reQ q).ws)))); let j:=(dS a.2.ws.length (strs a.2.ws)); let e:=[Bx.cells i,bC [Cl.d j]]; let g:=(DV.str (toS (zZk (reQ q).ws))); let h:=([dS c.ws.length (strs c.ws)]=[dS a.2.ws.length (strs a.2.ws)]); let f:=(((dJ 0=dJ a.1)∧True)∧((((0=0)∧True)∧(dQ true=dQ a.2.bad)∧True)∧h∧True)); tU2 ((AnsG prog 74 2 [aPz] [bC [Cl.clo 105 [Cap.ptr 1 0],Cl.d (dQ q.bad)],bC [Cl.d (dS q.ws.length (strs q.ws))]] ⟨AV.one (Cl.d g),[bC [Cl.clo 105 [Cap.ptr 1 0],Cl.d (dQ c.bad)],bC [Cl.d (dS c.ws.length (strs c.ws))]],false⟩)∧(Ans prog 112 [RV.d g] (RV.tup [rJ b.1,RV.d (dQ b.2)]))∧tU8 (((!b.2)=false→tU5 (((decide (b.1 < lo))=false→tU4 (((decide (b.1 > hi))=true→tU5 (f∧zQl ⟨AV.one d,e,false⟩))∧((decide (b.1 > hi))=false→tU2 ((((dJ b.1=dJ a.1)∧True)∧((((0=0)∧True)∧(dQ c.bad=dQ a.2.bad)∧True)∧h∧True))∧zQl ⟨AV.one d,e,false⟩))))∧((decide (b.1 < lo))=(!false)→tU6 (f∧zQl ⟨AV.one d,e,false⟩))))∧((!b.2)=(!false)→tU8 (f∧zQl ⟨AV.one d,e,false⟩)))))) ?_
  delta tU2 tU4 tU5 tU6 tU8 dJ dQ cJ dS rJ aPz bC
  simp only [sS]
  simp only [zZQ,zQv,zQL]
  have aN:=zZY q
  have v:(numP (zZk q.ws)).2=true→(numP (zZk q.ws)).1=numV (zZk q.ws):=fun h=>by
   show zKw (zZk q.ws)=_
   unfold zKw
   rw [zYI h]
  have yes:(numP (zZk q.ws)).2=true→¬ (numP (zZk q.ws)).1 < lo→¬ (numP (zZk q.ws)).1 > hi→numQ q lo hi=(numV (zZk q.ws),zZI q):=fun h h1 h2=>by
   rw [v h] at h1 h2
   have e:okN lo hi (zZk q.ws)=true:=by unfold okN; rw [show zXZ (zZk q.ws)=true from h]; simp; omega
   unfold numQ; rw [if_pos e]
  have no:¬ ((numP (zZk q.ws)).2=true∧¬ (numP (zZk q.ws)).1 < lo∧¬ (numP (zZk q.ws)).1 > hi)→numQ q lo hi=(0,⟨q.ws.drop 1,true⟩):=fun h=>by
   unfold numQ
   rw [if_neg]
   intro e
   unfold okN at e
   simp only [Bool.and_eq_true,decide_eq_true_eq] at e
   have hc:(numP (zZk q.ws)).2=true:=e.1.1
   exact h ⟨hc,by rw [v hc]; omega,by rw [v hc]; omega⟩
  refine ⟨aN,zJj (zZk q.ws) (jY5 hq),fun h=>⟨fun h1=>⟨fun h2=>?_,fun h2=>?_⟩,fun h1=>?_⟩,fun h=>?_⟩
  ·rw [no (fun g=>g.2.2 h2)]; exact (by (repeat' apply And.intro) <;> first | rfl | trivial)
  ·rw [yes h h1 h2,v h]; exact (by (repeat' apply And.intro) <;> first | rfl | trivial)
  ·rw [no (fun g=>g.2.1 h1)]; exact (by (repeat' apply And.intro) <;> first | rfl | trivial)
  ·rw [no (fun g=>by rw [h] at g; exact absurd g.1 (by decide))]; exact (by (repeat' apply And.intro) <;> first | rfl | trivial)
theorem zYK (q:LQ):AnsG prog 156 2 [aPz,AV.one (Cl.d (DV.fn 157))] [bC [Cl.clo 105 [Cap.ptr 1 0],Cl.d (dQ q.bad)],bC [Cl.d (dS q.ws.length (strs q.ws))]] ⟨aJ ((((namQ zQo q).1))),[bC [Cl.clo 105 [Cap.ptr 1 0],Cl.d (dQ (((namQ zQo q).2).bad))],bC [Cl.d (dS (((namQ zQo q).2).ws.length) (strs ((namQ zQo q).2).ws))]],false⟩:=
 zQx (Γ:=zK0) Ann.leaf zQB Tryz.func156 rfl (Nat.le_of_ble_eq_true rfl) rfl fun hwf hbx=>by
  refine Eq.mpr (by kernel_rfl:_=(let b:=(zZI (reQ q)); let a:=(namQ zQo q); let d:=[bC [Cl.clo 105 [Cap.ptr 1 0],Cl.d (dQ a.2.bad)],bC [Cl.d (dS a.2.ws.length (strs a.2.ws))]]; let c:=(nmR zQo (ofS (toS (zZk (reQ q).ws)))); let e:=(DV.str (toS (zZk (reQ q).ws))); let f:=((dJ c.1=dJ a.1)∧True); let g:=([dS b.ws.length (strs b.ws)]=[dS a.2.ws.length (strs a.2.ws)]); tU3 ((AnsG prog 74 2 [aPz] [bC [Cl.clo 105 [Cap.ptr 1 0],Cl.d (dQ q.bad)],bC [Cl.d (dS q.ws.length (strs q.ws))]] ⟨AV.one (Cl.d e),[bC [Cl.clo 105 [Cap.ptr 1 0],Cl.d (dQ b.bad)],bC [Cl.d (dS b.ws.length (strs b.ws))]],false⟩)∧(Ans prog 157 [RV.d e] (RV.tup [rJ c.1,RV.d (dQ c.2)]))∧tU3 (tU8 ((b.bad=false→tU8 ((f∧((((0=0)∧True)∧(dQ (!c.2)=dQ a.2.bad)∧True)∧g∧True))∧zQl ⟨aJ a.1,d,false⟩))∧(b.bad=(!false)→tU6 ((f∧((((0=0)∧True)∧(dQ true=dQ a.2.bad)∧True)∧g∧True))∧zQl ⟨aJ a.1,d,false⟩))))))) ?_
  delta tU3 tU6 tU8 dJ dQ dS rJ aJ aPz bC
  simp only [sS]
  simp only [zZQ,zQv,zQL]
  refine ⟨zZY q,zKR (zZk q.ws),fun h=>?_,fun h=>?_⟩
  ·have h:(zZI q).bad=false:=h
   have e:(!(nmR zQo (zZk q.ws)).2)=(namQ zQo q).2.bad:=by unfold namQ; rw [h]; rfl
   rw [e]; exact (by (repeat' apply And.intro) <;> first | rfl | trivial)
  ·have h:(zZI q).bad=true:=h
   have e:true=(namQ zQo q).2.bad:=by unfold namQ; rw [h]; rfl
   rw [e]; exact (by (repeat' apply And.intro) <;> first | rfl | trivial)
theorem zKh (q:LQ):AnsG prog 156 2 [aPz,AV.one (Cl.d (DV.fn 158))] [bC [Cl.clo 105 [Cap.ptr 1 0],Cl.d (dQ q.bad)],bC [Cl.d (dS q.ws.length (strs q.ws))]] ⟨aJ ((((namQ zQg q).1))),[bC [Cl.clo 105 [Cap.ptr 1 0],Cl.d (dQ (((namQ zQg q).2).bad))],bC [Cl.d (dS (((namQ zQg q).2).ws.length) (strs ((namQ zQg q).2).ws))]],false⟩:=
 zQx (Γ:=zK0) Ann.leaf zQB Tryz.func156 rfl (Nat.le_of_ble_eq_true rfl) rfl fun hwf hbx=>by
  refine Eq.mpr (by kernel_rfl:_=(let b:=(zZI (reQ q)); let a:=(namQ zQg q); let d:=[bC [Cl.clo 105 [Cap.ptr 1 0],Cl.d (dQ a.2.bad)],bC [Cl.d (dS a.2.ws.length (strs a.2.ws))]]; let c:=(nmR zQg (ofS (toS (zZk (reQ q).ws)))); let e:=(DV.str (toS (zZk (reQ q).ws))); let f:=((dJ c.1=dJ a.1)∧True); let g:=([dS b.ws.length (strs b.ws)]=[dS a.2.ws.length (strs a.2.ws)]); tU3 ((AnsG prog 74 2 [aPz] [bC [Cl.clo 105 [Cap.ptr 1 0],Cl.d (dQ q.bad)],bC [Cl.d (dS q.ws.length (strs q.ws))]] ⟨AV.one (Cl.d e),[bC [Cl.clo 105 [Cap.ptr 1 0],Cl.d (dQ b.bad)],bC [Cl.d (dS b.ws.length (strs b.ws))]],false⟩)∧(Ans prog 158 [RV.d e] (RV.tup [rJ c.1,RV.d (dQ c.2)]))∧tU3 (tU8 ((b.bad=false→tU8 ((f∧((((0=0)∧True)∧(dQ (!c.2)=dQ a.2.bad)∧True)∧g∧True))∧zQl ⟨aJ a.1,d,false⟩))∧(b.bad=(!false)→tU6 ((f∧((((0=0)∧True)∧(dQ true=dQ a.2.bad)∧True)∧g∧True))∧zQl ⟨aJ a.1,d,false⟩))))))) ?_
  delta tU3 tU6 tU8 dJ dQ dS rJ aJ aPz bC
  simp only [sS]
  simp only [zZQ,zQv,zQL]
  refine ⟨zZY q,zW1 (zZk q.ws),fun h=>?_,fun h=>?_⟩
  ·have h:(zZI q).bad=false:=h
   have e:(!(nmR zQg (zZk q.ws)).2)=(namQ zQg q).2.bad:=by unfold namQ; rw [h]; rfl
   rw [e]; exact (by (repeat' apply And.intro) <;> first | rfl | trivial)
  ·have h:(zZI q).bad=true:=h
   have e:true=(namQ zQg q).2.bad:=by unfold namQ; rw [h]; rfl
   rw [e]; exact (by (repeat' apply And.intro) <;> first | rfl | trivial)
theorem zQs (q:LQ) (hq:okQ q):AnsG prog 109 2 [aPz] [bC [Cl.clo 105 [Cap.ptr 1 0],Cl.d (dQ q.bad)],bC [Cl.d (dS q.ws.length (strs q.ws))]] ⟨aJ ((((numQ q 0 255).1))),[bC [Cl.clo 105 [Cap.ptr 1 0],Cl.d (dQ (((numQ q 0 255).2).bad))],bC [Cl.d (dS (((numQ q 0 255).2).ws.length) (strs ((numQ q 0 255).2).ws))]],false⟩:=
 zQx (Γ:=zK0) Ann.leaf zQB Tryz.func109 rfl (Nat.le_of_ble_eq_true rfl) rfl fun hwf hbx=>by
  refine Eq.mpr (by kernel_rfl:_=(let a:=(numQ q 0 255); let b:=(numQ (reQ q) (0:Int) (255:Int)); tU2 ((AnsG prog 137 2 [aPz,aJ 0,aJ 255] [bC [Cl.clo 105 [Cap.ptr 1 0],Cl.d (dQ q.bad)],bC [Cl.d (dS q.ws.length (strs q.ws))]] ⟨aJ b.1,[bC [Cl.clo 105 [Cap.ptr 1 0],Cl.d (dQ b.2.bad)],bC [Cl.d (dS b.2.ws.length (strs b.2.ws))]],false⟩)∧True∧(((dJ b.1=dJ a.1)∧True)∧((((0=0)∧True)∧(dQ b.2.bad=dQ a.2.bad)∧True)∧([dS b.2.ws.length (strs b.2.ws)]=[dS a.2.ws.length (strs a.2.ws)])∧True))∧zQl ⟨aJ a.1,[bC [Cl.clo 105 [Cap.ptr 1 0],Cl.d (dQ a.2.bad)],bC [Cl.d (dS a.2.ws.length (strs a.2.ws))]],false⟩))) ?_
  delta tU2 dJ dQ dS aJ aPz bC
  simp only [sS]
  simp only [zZQ,zQv,zQL]
  have aN:=zQ0 q 0 255 hq
  exact ⟨aN,(by (repeat' apply And.intro) <;> first | rfl | trivial)⟩
theorem zQr (q:LQ) (hq:okQ q):AnsG prog 110 2 [aPz] [bC [Cl.clo 105 [Cap.ptr 1 0],Cl.d (dQ q.bad)],bC [Cl.d (dS q.ws.length (strs q.ws))]] ⟨aJ ((((numQ q (-2147483648) 2147483647).1))),[bC [Cl.clo 105 [Cap.ptr 1 0],Cl.d (dQ (((numQ q (-2147483648) 2147483647).2).bad))],bC [Cl.d (dS (((numQ q (-2147483648) 2147483647).2).ws.length) (strs ((numQ q (-2147483648) 2147483647).2).ws))]],false⟩:=
 zQx (Γ:=zK0) Ann.leaf zQB Tryz.func110 rfl (Nat.le_of_ble_eq_true rfl) rfl fun hwf hbx=>by
  refine Eq.mpr (by kernel_rfl:_=(let c:=(numQ q (-2147483648) 2147483647); let a:=(numQ (reQ q) (-2147483648:Int) (2147483647:Int)); let b:=c.2; tU2 ((AnsG prog 137 2 [aPz,aJ (-2147483648:Int),aJ 2147483647] [bC [Cl.clo 105 [Cap.ptr 1 0],Cl.d (dQ q.bad)],bC [Cl.d (dS q.ws.length (strs q.ws))]] ⟨aJ a.1,[bC [Cl.clo 105 [Cap.ptr 1 0],Cl.d (dQ a.2.bad)],bC [Cl.d (dS a.2.ws.length (strs a.2.ws))]],false⟩)∧True∧(((dJ a.1=dJ c.1)∧True)∧((((0=0)∧True)∧(dQ a.2.bad=dQ b.bad)∧True)∧([dS a.2.ws.length (strs a.2.ws)]=[dS b.ws.length (strs b.ws)])∧True))∧zQl ⟨aJ c.1,[bC [Cl.clo 105 [Cap.ptr 1 0],Cl.d (dQ b.bad)],bC [Cl.d (dS b.ws.length (strs b.ws))]],false⟩))) ?_
  delta tU2 dJ dQ dS aJ aPz bC
  simp only [sS]
  simp only [zZQ,zQv,zQL]
  have aN:=zQ0 q (-2147483648) 2147483647 hq
  exact ⟨aN,(by (repeat' apply And.intro) <;> first | rfl | trivial)⟩
theorem zQp (q:LQ) (hq:okQ q):AnsG prog 111 2 [aPz] [bC [Cl.clo 105 [Cap.ptr 1 0],Cl.d (dQ q.bad)],bC [Cl.d (dS q.ws.length (strs q.ws))]] ⟨aJ ((((numQ q 0 4294967295).1))),[bC [Cl.clo 105 [Cap.ptr 1 0],Cl.d (dQ (((numQ q 0 4294967295).2).bad))],bC [Cl.d (dS (((numQ q 0 4294967295).2).ws.length) (strs ((numQ q 0 4294967295).2).ws))]],false⟩:=
 zQx (Γ:=zK0) Ann.leaf zQB Tryz.func111 rfl (Nat.le_of_ble_eq_true rfl) rfl fun hwf hbx=>by
  refine Eq.mpr (by kernel_rfl:_=(let a:=(numQ q 0 4294967295); let b:=(numQ (reQ q) (0:Int) (4294967295:Int)); tU2 ((AnsG prog 137 2 [aPz,aJ 0,aJ 4294967295] [bC [Cl.clo 105 [Cap.ptr 1 0],Cl.d (dQ q.bad)],bC [Cl.d (dS q.ws.length (strs q.ws))]] ⟨aJ b.1,[bC [Cl.clo 105 [Cap.ptr 1 0],Cl.d (dQ b.2.bad)],bC [Cl.d (dS b.2.ws.length (strs b.2.ws))]],false⟩)∧True∧(((dJ b.1=dJ a.1)∧True)∧((((0=0)∧True)∧(dQ b.2.bad=dQ a.2.bad)∧True)∧([dS b.2.ws.length (strs b.2.ws)]=[dS a.2.ws.length (strs a.2.ws)])∧True))∧zQl ⟨aJ a.1,[bC [Cl.clo 105 [Cap.ptr 1 0],Cl.d (dQ a.2.bad)],bC [Cl.d (dS a.2.ws.length (strs a.2.ws))]],false⟩))) ?_
  delta tU2 dJ dQ dS aJ aPz bC
  simp only [sS]
  simp only [zZQ,zQv,zQL]
  have aN:=zQ0 q 0 4294967295 hq
  exact ⟨aN,(by (repeat' apply And.intro) <;> first | rfl | trivial)⟩
theorem zZ6 (q:LQ) (hq:okQ q):AnsG prog 135 2 [aPz] [bC [Cl.clo 105 [Cap.ptr 1 0],Cl.d (dQ q.bad)],bC [Cl.d (dS q.ws.length (strs q.ws))]] ⟨AV.one (cK (((numQ q 0 65535).1))),[bC [Cl.clo 105 [Cap.ptr 1 0],Cl.d (dQ (((numQ q 0 65535).2).bad))],bC [Cl.d (dS (((numQ q 0 65535).2).ws.length) (strs ((numQ q 0 65535).2).ws))]],false⟩:=
 zQx (Γ:=zK0) Ann.leaf zQB Tryz.func135 rfl (Nat.le_of_ble_eq_true rfl) rfl fun hwf hbx=>by
  refine Eq.mpr (by kernel_rfl:_=(let a:=(numQ q 0 65535); let b:=(numQ (reQ q) (0:Int) (65535:Int)); tU2 ((AnsG prog 137 2 [aPz,aJ 0,aJ 65535] [bC [Cl.clo 105 [Cap.ptr 1 0],Cl.d (dQ q.bad)],bC [Cl.d (dS q.ws.length (strs q.ws))]] ⟨aJ b.1,[bC [Cl.clo 105 [Cap.ptr 1 0],Cl.d (dQ b.2.bad)],bC [Cl.d (dS b.2.ws.length (strs b.2.ws))]],false⟩)∧tU2 ((((dK (IntKind.wrap .u16 b.1)=dK a.1)∧True)∧((((0=0)∧True)∧(dQ b.2.bad=dQ a.2.bad)∧True)∧([dS b.2.ws.length (strs b.2.ws)]=[dS a.2.ws.length (strs a.2.ws)])∧True))∧zQl ⟨AV.one (cK a.1),[bC [Cl.clo 105 [Cap.ptr 1 0],Cl.d (dQ a.2.bad)],bC [Cl.d (dS a.2.ws.length (strs a.2.ws))]],false⟩)))) ?_
  delta tU2 dK dQ cK dS aJ aPz bC
  simp only [sS]
  simp only [zZQ,zQv,zQL]
  have aN:=zQ0 q 0 65535 hq
  have hr:0≤(numQ q 0 65535).1∧(numQ q 0 65535).1≤65535:=jKy (by decide)
  have w:IntKind.wrap .u16 (numQ q 0 65535).1=(numQ q 0 65535).1:=by simp [IntKind.wrap,IntKind.bits,IntKind.signed]; omega
  have w':IntKind.wrap .u16 (numQ { ws:=q.ws,bad:=q.bad } 0 65535).1=(numQ q 0 65535).1:=w
  rw [w']
  exact ⟨aN,(by (repeat' apply And.intro) <;> first | rfl | trivial)⟩
theorem zXj (q:LQ) (hq:okQ q):AnsG prog 142 2 [aPz] [bC [Cl.clo 105 [Cap.ptr 1 0],Cl.d (dQ q.bad)],bC [Cl.d (dS q.ws.length (strs q.ws))]] ⟨AV.one (Cl.d (dQ (decide ((numQ q 0 1).1=1)))),[bC [Cl.clo 105 [Cap.ptr 1 0],Cl.d (dQ (((numQ q 0 1).2).bad))],bC [Cl.d (dS (((numQ q 0 1).2).ws.length) (strs ((numQ q 0 1).2).ws))]],false⟩:=
 zQx (Γ:=zK0) Ann.leaf zQB Tryz.func142 rfl (Nat.le_of_ble_eq_true rfl) rfl fun hwf hbx=>by
  refine Eq.mpr (by kernel_rfl:_=(let a:=(numQ q 0 1); let b:=(numQ (reQ q) (0:Int) (1:Int)); tU2 ((AnsG prog 137 2 [aPz,aJ 0,aJ 1] [bC [Cl.clo 105 [Cap.ptr 1 0],Cl.d (dQ q.bad)],bC [Cl.d (dS q.ws.length (strs q.ws))]] ⟨aJ b.1,[bC [Cl.clo 105 [Cap.ptr 1 0],Cl.d (dQ b.2.bad)],bC [Cl.d (dS b.2.ws.length (strs b.2.ws))]],false⟩)∧tU2 ((((dQ (b.1==1)=dQ (decide (a.1=1)))∧True)∧((((0=0)∧True)∧(dQ b.2.bad=dQ a.2.bad)∧True)∧([dS b.2.ws.length (strs b.2.ws)]=[dS a.2.ws.length (strs a.2.ws)])∧True))∧zQl ⟨AV.one (Cl.d (dQ (decide (a.1=1)))),[bC [Cl.clo 105 [Cap.ptr 1 0],Cl.d (dQ a.2.bad)],bC [Cl.d (dS a.2.ws.length (strs a.2.ws))]],false⟩)))) ?_
  delta tU2 dQ dS aJ aPz bC
  simp only [sS]
  simp only [zZQ,zQv,zQL]
  have aN:=zQ0 q 0 1 hq
  have e:((numQ { ws:=q.ws,bad:=q.bad } 0 1).1==1)=decide ((numQ q 0 1).1=1):=by rw [Bool.eq_iff_iff]; simp
  rw [e]
  exact ⟨aN,(by (repeat' apply And.intro) <;> first | rfl | trivial)⟩
theorem zZV (q:LQ):AnsG prog 140 2 [aPz] [bC [Cl.clo 105 [Cap.ptr 1 0],Cl.d (dQ q.bad)],bC [Cl.d (dS q.ws.length (strs q.ws))]] ⟨aJ ((((namQ zQo q).1))),[bC [Cl.clo 105 [Cap.ptr 1 0],Cl.d (dQ (((namQ zQo q).2).bad))],bC [Cl.d (dS (((namQ zQo q).2).ws.length) (strs ((namQ zQo q).2).ws))]],false⟩:=
 zQx (Γ:=zK0) Ann.leaf zQB Tryz.func140 rfl (Nat.le_of_ble_eq_true rfl) rfl fun hwf hbx=>by
  refine Eq.mpr (by kernel_rfl:_=(let a:=(namQ zQo q); let b:=(namQ zQo (reQ q)); tU2 ((AnsG prog 156 2 [aPz,AV.one (Cl.d (DV.fn 157))] [bC [Cl.clo 105 [Cap.ptr 1 0],Cl.d (dQ q.bad)],bC [Cl.d (dS q.ws.length (strs q.ws))]] ⟨aJ b.1,[bC [Cl.clo 105 [Cap.ptr 1 0],Cl.d (dQ b.2.bad)],bC [Cl.d (dS b.2.ws.length (strs b.2.ws))]],false⟩)∧True∧(((dJ b.1=dJ a.1)∧True)∧((((0=0)∧True)∧(dQ b.2.bad=dQ a.2.bad)∧True)∧([dS b.2.ws.length (strs b.2.ws)]=[dS a.2.ws.length (strs a.2.ws)])∧True))∧zQl ⟨aJ a.1,[bC [Cl.clo 105 [Cap.ptr 1 0],Cl.d (dQ a.2.bad)],bC [Cl.d (dS a.2.ws.length (strs a.2.ws))]],false⟩))) ?_
  delta tU2 dJ dQ dS aJ aPz bC
  simp only [sS]
  simp only [zZQ,zQv,zQL]
  exact ⟨zYK q,(by (repeat' apply And.intro) <;> first | rfl | trivial)⟩
theorem zXt (q:LQ):AnsG prog 141 2 [aPz] [bC [Cl.clo 105 [Cap.ptr 1 0],Cl.d (dQ q.bad)],bC [Cl.d (dS q.ws.length (strs q.ws))]] ⟨aJ ((((namQ zQg q).1))),[bC [Cl.clo 105 [Cap.ptr 1 0],Cl.d (dQ (((namQ zQg q).2).bad))],bC [Cl.d (dS (((namQ zQg q).2).ws.length) (strs ((namQ zQg q).2).ws))]],false⟩:=
 zQx (Γ:=zK0) Ann.leaf zQB Tryz.func141 rfl (Nat.le_of_ble_eq_true rfl) rfl fun hwf hbx=>by
  refine Eq.mpr (by kernel_rfl:_=(let a:=(namQ zQg q); let b:=(namQ zQg (reQ q)); tU2 ((AnsG prog 156 2 [aPz,AV.one (Cl.d (DV.fn 158))] [bC [Cl.clo 105 [Cap.ptr 1 0],Cl.d (dQ q.bad)],bC [Cl.d (dS q.ws.length (strs q.ws))]] ⟨aJ b.1,[bC [Cl.clo 105 [Cap.ptr 1 0],Cl.d (dQ b.2.bad)],bC [Cl.d (dS b.2.ws.length (strs b.2.ws))]],false⟩)∧True∧(((dJ b.1=dJ a.1)∧True)∧((((0=0)∧True)∧(dQ b.2.bad=dQ a.2.bad)∧True)∧([dS b.2.ws.length (strs b.2.ws)]=[dS a.2.ws.length (strs a.2.ws)])∧True))∧zQl ⟨aJ a.1,[bC [Cl.clo 105 [Cap.ptr 1 0],Cl.d (dQ a.2.bad)],bC [Cl.d (dS a.2.ws.length (strs a.2.ws))]],false⟩))) ?_
  delta tU2 dJ dQ dS aJ aPz bC
  simp only [sS]
  simp only [zZQ,zQv,zQL]
  exact ⟨zKh q,(by (repeat' apply And.intro) <;> first | rfl | trivial)⟩
theorem zQq (q:LQ):AnsG prog 107 2 [aPz] [bC [Cl.clo 105 [Cap.ptr 1 0],Cl.d (dQ q.bad)],bC [Cl.d (dS q.ws.length (strs q.ws))]] ⟨AV.one (Cl.d (dQ (((q).ws).isEmpty && !(q).bad))),[bC [Cl.clo 105 [Cap.ptr 1 0],Cl.d (dQ ((zZK q).bad))],bC [Cl.d (dS ((zZK q).ws.length) (strs (zZK q).ws))]],false⟩:=
 zQx (Γ:=zK0) Ann.leaf zQB Tryz.func107 rfl (Nat.le_of_ble_eq_true rfl) rfl fun hwf hbx=>by
  refine Eq.mpr (by kernel_rfl:_=(let a:=(zZK (reQ q)); let b:=(q.ws.isEmpty && !q.bad); let c:=[bC [Cl.clo 105 [Cap.ptr 1 0],Cl.d (dQ (zZK q).bad)],bC [Cl.d (dS (zZK q).ws.length (strs (zZK q).ws))]]; let d:=((((0=0)∧True)∧(dQ a.bad=dQ (zZK q).bad)∧True)∧([dS a.ws.length (strs a.ws)]=[dS (zZK q).ws.length (strs (zZK q).ws)])∧True); tU2 ((AnsG prog 136 2 [aPz] [bC [Cl.clo 105 [Cap.ptr 1 0],Cl.d (dQ q.bad)],bC [Cl.d (dS q.ws.length (strs q.ws))]] ⟨AV.one (Cl.d (dQ (!(reQ q).ws.isEmpty))),[bC [Cl.clo 105 [Cap.ptr 1 0],Cl.d (dQ a.bad)],bC [Cl.d (dS a.ws.length (strs a.ws))]],false⟩)∧tU2 (((!(!(reQ q).ws.isEmpty))=true→tU7 ((((dQ (!a.bad)=dQ b)∧True)∧d)∧zQl ⟨AV.one (Cl.d (dQ b)),c,false⟩))∧((!(!(reQ q).ws.isEmpty))=(!true)→tU2 ((((dQ false=dQ b)∧True)∧d)∧zQl ⟨AV.one (Cl.d (dQ b)),c,false⟩)))))) ?_
  delta tU2 tU7 dQ dS aPz bC
  simp only [sS]
  simp only [zZQ,zQv,zQL]
  have aM:=zKH q
  refine ⟨aM,fun h=>?_,fun h=>?_⟩
  ·have e:(!(zZK { ws:=q.ws,bad:=q.bad }).bad)=(q.ws.isEmpty && !q.bad):=by rw [h]; rfl
   rw [e]; exact (by (repeat' apply And.intro) <;> first | rfl | trivial)
  ·have e:false=(q.ws.isEmpty && !q.bad):=by rw [h]; rfl
   rw [← e]; exact (by (repeat' apply And.intro) <;> first | rfl | trivial)
def pixQ (q:LQ):Px × LQ:=
 let a:=numQ q 0 65535; let b:=numQ a.2 0 65535; let c:=numQ b.2 0 65535; let d:=numQ c.2 0 65535; let e:=numQ d.2 0 65535
 (⟨a.1,b.1,c.1,d.1,e.1⟩,e.2)
def sizQ (q:LQ):(Int × Int) × LQ:=
 let a:=numQ q 1 16777216; let b:=numQ a.2 1 16777216
 if b.2.bad=true∨16777216 / b.1 < a.1 then ((0,0),⟨b.2.ws,true⟩) else ((a.1,b.1),b.2)
theorem jXN {q:LQ} {lo hi:Int} (h:(numQ q lo hi).2.bad=false):lo≤(numQ q lo hi).1∧(numQ q lo hi).1≤hi:=by
 unfold numQ at h ⊢
 split at h
 ·rename_i e
  rw [if_pos e]
  exact zJ8 e
 ·exact absurd h (by simp)
def byQ (q:LQ):=numQ q 0 255
def plQ (q:LQ):=numQ q (-2147483648) 2147483647
def smQ (q:LQ):=numQ q 0 65535
def trQ (q:LQ):Bool × LQ:=(decide ((numQ q 0 1).1=1),(numQ q 0 1).2)
def zZD (q:LQ):Oq × LQ:=
 let i:=byQ q; let x:=plQ i.2; let y:=plQ x.2; let m:=byQ y.2; let mx:=plQ m.2; let my:=plQ mx.2; let a:=smQ my.2; let o:=namQ zQo a.2; let k:=namQ zQg o.2
 (⟨1,i.1,x.1,y.1,m.1,mx.1,my.1,a.1,o.1,k.1,false,false⟩,k.2)
def zZA (q:LQ):Oq × LQ:=
 let m:=byQ q; let mx:=plQ m.2; let my:=plQ mx.2; let a:=smQ my.2; let o:=namQ zQo a.2; let k:=namQ zQg o.2; let i:=trQ k.2; let n:=trQ i.2
 (⟨2,0,0,0,m.1,mx.1,my.1,a.1,o.1,k.1,i.1,n.1⟩,n.2)
def gZ31 (xs:List RV):Option RV:=match xs with | [.d (.str s),.d (.str sep)]=>some (RV.d (dS (zQn (ofS s)).length (strs (zQn (ofS s))))) | _=>none
def jX6:Gam where
 pure:=fun f xs=>
  if f=104 then gZ31 xs else
  none
 modes:=fun f=>
  if f=137 then some ([false,true,true],2,0) else
  if f=109 then some ([false],2,0) else
  if f=110 then some ([false],2,0) else
  if f=135 then some ([false],2,0) else
  if f=142 then some ([false],2,0) else
  if f=140 then some ([false],2,0) else
  if f=141 then some ([false],2,0) else
  none
 proc:=fun f xs bs=>
  if f=137 then gZ22 xs bs else
  if f=109 then gZ23 xs bs else
  if f=110 then gZ24 xs bs else
  if f=135 then gZ26 xs bs else
  if f=142 then gZ27 xs bs else
  if f=140 then gZ28 xs bs else
  if f=141 then gZ29 xs bs else
  none
 iter:=fun f cs=>
  none
theorem zQw (q:LQ) (hq:okQ q):AnsG prog 106 2 [aPz] [bC [Cl.clo 105 [Cap.ptr 1 0],Cl.d (dQ q.bad)],bC [Cl.d (dS q.ws.length (strs q.ws))]] ⟨AV.agg [cK (((pixQ q).1.a)),cK (((pixQ q).1.b)),cK (((pixQ q).1.c)),cK (((pixQ q).1.al)),cK (((pixQ q).1.f))],[bC [Cl.clo 105 [Cap.ptr 1 0],Cl.d (dQ (((pixQ q).2).bad))],bC [Cl.d (dS (((pixQ q).2).ws.length) (strs ((pixQ q).2).ws))]],false⟩:=
 zQx (Γ:=jX6) Ann.leaf zQB Tryz.func106 rfl (Nat.le_of_ble_eq_true rfl) rfl fun hwf hbx=>by
  refine Eq.mpr (by kernel_rfl:_=(let e:=[Cap.ptr 1 0]; let k:=[AV.one (Cl.ptr 0 0)]; let g:=(numQ (reQ q) 0 65535); let h:=(numQ (reQ g.2) 0 65535); let i:=(numQ (reQ h.2) 0 65535); let j:=(numQ (reQ i.2) 0 65535); let d:=(numQ (reQ j.2) 0 65535); let l:=[Bx.cells [Cl.clo 105 e,Cl.d (DV.bool g.2.bad)],Bx.cells [Cl.d (DV.sl g.2.ws.length (strs g.2.ws))]]; let m:=[Bx.cells [Cl.clo 105 e,Cl.d (DV.bool h.2.bad)],Bx.cells [Cl.d (DV.sl h.2.ws.length (strs h.2.ws))]]; let n:=[Bx.cells [Cl.clo 105 e,Cl.d (DV.bool i.2.bad)],Bx.cells [Cl.d (DV.sl i.2.ws.length (strs i.2.ws))]]; let o:=[Bx.cells [Cl.clo 105 e,Cl.d (DV.bool j.2.bad)],Bx.cells [Cl.d (DV.sl j.2.ws.length (strs j.2.ws))]]; True∧True∧(AnsG prog 135 2 k [Bx.cells [Cl.clo 105 e,Cl.d (DV.bool q.bad)],Bx.cells [Cl.d (DV.sl q.ws.length (strs q.ws))]] ⟨AV.one (Cl.d (DV.int .u16 g.1)),l,false⟩)∧True∧(AnsG prog 135 2 k l ⟨AV.one (Cl.d (DV.int .u16 h.1)),m,false⟩)∧True∧(AnsG prog 135 2 k m ⟨AV.one (Cl.d (DV.int .u16 i.1)),n,false⟩)∧True∧True∧(AnsG prog 135 2 k n ⟨AV.one (Cl.d (DV.int .u16 j.1)),o,false⟩)∧True∧(AnsG prog 135 2 k o ⟨AV.one (Cl.d (DV.int .u16 d.1)),[Bx.cells [Cl.clo 105 e,Cl.d (DV.bool d.2.bad)],Bx.cells [Cl.d (DV.sl d.2.ws.length (strs d.2.ws))]],false⟩)∧True∧True∧((([DV.int .u16 g.1,DV.int .u16 h.1,DV.int .u16 i.1,DV.int .u16 j.1,DV.int .u16 d.1]=[DV.int .u16 (pixQ q).1.a,DV.int .u16 (pixQ q).1.b,DV.int .u16 (pixQ q).1.c,DV.int .u16 (pixQ q).1.al,DV.int .u16 (pixQ q).1.f])∧True)∧((((0=0)∧True)∧(DV.bool d.2.bad=DV.bool (pixQ q).2.bad)∧True)∧([DV.sl d.2.ws.length (strs d.2.ws)]=[DV.sl (pixQ q).2.ws.length (strs (pixQ q).2.ws)])∧True))∧zQl ⟨AV.agg [Cl.d (DV.int .u16 (pixQ q).1.a),Cl.d (DV.int .u16 (pixQ q).1.b),Cl.d (DV.int .u16 (pixQ q).1.c),Cl.d (DV.int .u16 (pixQ q).1.al),Cl.d (DV.int .u16 (pixQ q).1.f)],[Bx.cells [Cl.clo 105 e,Cl.d (DV.bool (pixQ q).2.bad)],Bx.cells [Cl.d (DV.sl (pixQ q).2.ws.length (strs (pixQ q).2.ws))]],false⟩)) ?_
  simp only [zZQ,true_and,and_true,RV.d.injEq,RV.agg.injEq,RV.tup.injEq,DV.bool.injEq,DV.int.injEq,DV.sl.injEq,List.cons.injEq,forall_const,Bool.not_false,Bool.not_true,Bool.not_eq_true',Bool.not_eq_false',decide_eq_true_eq,decide_eq_false_iff_not,Int.toNat_natCast]
  (repeat' apply And.intro) <;> first | exact zZ6 _ (by repeat (first | assumption | apply zQd | apply zQe)) | exact zQr _ (by repeat (first | assumption | apply zQd | apply zQe)) | exact zQs _ (by repeat (first | assumption | apply zQd | apply zQe)) | exact zZV _ | exact zXt _ | exact zXj _ (by repeat (first | assumption | apply zQd | apply zQe)) | rfl | trivial
theorem zQy (q:LQ) (hq:okQ q):AnsG prog 113 2 [aPz] [bC [Cl.clo 105 [Cap.ptr 1 0],Cl.d (dQ q.bad)],bC [Cl.d (dS q.ws.length (strs q.ws))]] ⟨AV.tup [aJ ((((sizQ q).1.1))),aJ ((((sizQ q).1.2)))],[bC [Cl.clo 105 [Cap.ptr 1 0],Cl.d (dQ (((sizQ q).2).bad))],bC [Cl.d (dS (((sizQ q).2).ws.length) (strs ((sizQ q).2).ws))]],false⟩:=
 zQx (Γ:=jX6) Ann.leaf zQB Tryz.func113 rfl (Nat.le_of_ble_eq_true rfl) rfl fun hwf hbx=>by
  refine Eq.mpr (by kernel_rfl:_=(let c:=[Cap.ptr 1 0]; let d:=[Bx.cells [Cl.clo 105 c,Cl.d (DV.bool (sizQ q).2.bad)],Bx.cells [Cl.d (DV.sl (sizQ q).2.ws.length (strs (sizQ q).2.ws))]]; let e:=[AV.one (Cl.d (DV.int .i64 (sizQ q).1.1)),AV.one (Cl.d (DV.int .i64 (sizQ q).1.2))]; let b:=(numQ (reQ q) (1:Int) (16777216:Int)); let a:=(numQ (reQ b.2) (1:Int) (16777216:Int)); let f:=(decide (b.1 > (IntKind.wrap .i64 (Int.tdiv (16777216:Int) a.1)))); let g:=[AV.one (Cl.ptr 0 0),AV.one (Cl.d (DV.int .i64 1)),AV.one (Cl.d (DV.int .i64 16777216))]; let h:=[Bx.cells [Cl.clo 105 c,Cl.d (DV.bool b.2.bad)],Bx.cells [Cl.d (DV.sl b.2.ws.length (strs b.2.ws))]]; let i:=([DV.sl a.2.ws.length (strs a.2.ws)]=[DV.sl (sizQ q).2.ws.length (strs (sizQ q).2.ws)]); let j:=((((DV.int .i64 0=DV.int .i64 (sizQ q).1.1)∧(DV.int .i64 0=DV.int .i64 (sizQ q).1.2)∧True)∧True)∧((((0=0)∧True)∧(DV.bool true=DV.bool (sizQ q).2.bad)∧True)∧i∧True)); True∧True∧True∧(AnsG prog 137 2 g [Bx.cells [Cl.clo 105 c,Cl.d (DV.bool q.bad)],Bx.cells [Cl.d (DV.sl q.ws.length (strs q.ws))]] ⟨AV.one (Cl.d (DV.int .i64 b.1)),h,false⟩)∧True∧(AnsG prog 137 2 g h ⟨AV.one (Cl.d (DV.int .i64 a.1)),[Bx.cells [Cl.clo 105 c,Cl.d (DV.bool a.2.bad)],Bx.cells [Cl.d (DV.sl a.2.ws.length (strs a.2.ws))]],false⟩)∧True∧True∧True∧True∧True∧True∧True∧((a.2.bad=false→True∧True∧(a.1≠0)∧True∧True∧((f=true→True∧True∧True∧True∧True∧True∧j∧zQl ⟨AV.tup e,d,false⟩)∧(f=false→True∧True∧True∧True∧((((DV.int .i64 b.1=DV.int .i64 (sizQ q).1.1)∧(DV.int .i64 a.1=DV.int .i64 (sizQ q).1.2)∧True)∧True)∧((((0=0)∧True)∧(DV.bool a.2.bad=DV.bool (sizQ q).2.bad)∧True)∧i∧True))∧zQl ⟨AV.tup e,d,false⟩)))∧(a.2.bad=(!false)→True∧True∧True∧True∧True∧True∧True∧j∧zQl ⟨AV.tup e,d,false⟩)))) ?_
  simp only [zZQ,true_and,and_true,RV.d.injEq,RV.agg.injEq,RV.tup.injEq,DV.bool.injEq,DV.int.injEq,DV.sl.injEq,List.cons.injEq,forall_const,Bool.not_false,Bool.not_true,Bool.not_eq_true',Bool.not_eq_false',decide_eq_true_eq,decide_eq_false_iff_not,Int.toNat_natCast]
  have aA:=zQ0 q 1 16777216 hq
  have aB:=zQ0 (numQ q 1 16777216).2 1 16777216 (zQd hq)
  have hb:(numQ (numQ q 1 16777216).2 1 16777216).2.bad=false→1≤(numQ (numQ q 1 16777216).2 1 16777216).1∧(numQ (numQ q 1 16777216).2 1 16777216).1≤16777216:=fun h=>jXN h
  have e:sizQ q=(if (numQ (numQ q 1 16777216).2 1 16777216).2.bad=true∨16777216 / (numQ (numQ q 1 16777216).2 1 16777216).1 < (numQ q 1 16777216).1 then ((0,0),⟨(numQ (numQ q 1 16777216).2 1 16777216).2.ws,true⟩) else (((numQ q 1 16777216).1,(numQ (numQ q 1 16777216).2 1 16777216).1),(numQ (numQ q 1 16777216).2 1 16777216).2)):=rfl
  generalize numQ (numQ q 1 16777216).2 1 16777216=B at *
  generalize numQ q 1 16777216=A at *
  have hw:B.2.bad=false→IntKind.wrap .i64 (Int.tdiv 16777216 B.1)=16777216 / B.1:=fun h=>by
   obtain ⟨h1,h2⟩:=hb h
   rw [Int.tdiv_eq_ediv_of_nonneg (by omega)]
   have hq:=Int.ediv_nonneg (by omega:(0:Int)≤16777216) (by omega:0≤B.1)
   have hq1:16777216 / B.1≤16777216:=Int.ediv_le_self _ (by omega)
   exact IntWalk.i64_in _ ⟨by omega,by omega⟩
  refine ⟨aA,aB,fun h=>⟨by have:=hb h; omega,fun h2=>?_,fun h2=>?_⟩,fun h=>?_⟩
  ·rw [hw h] at h2
   rw [if_pos (.inr (by omega))] at e
   rw [e]; ((repeat' apply And.intro) <;> first | rfl | trivial)
  ·rw [hw h] at h2
   rw [if_neg (by rw [h]; simp; omega)] at e
   rw [e]; ((repeat' apply And.intro) <;> first | rfl | trivial)
  ·rw [if_pos (.inl (by simpa using h))] at e
   rw [e]; ((repeat' apply And.intro) <;> first | rfl | trivial)
theorem zQA (q:LQ) (hq:okQ q):AnsG prog 115 2 [aPz] [bC [Cl.clo 105 [Cap.ptr 1 0],Cl.d (dQ q.bad)],bC [Cl.d (dS q.ws.length (strs q.ws))]] ⟨AV.agg [cJ ((((zZD q).1).kind)),cJ ((((zZD q).1).image)),cJ ((((zZD q).1).x)),cJ ((((zZD q).1).y)),cJ ((((zZD q).1).mask)),cJ ((((zZD q).1).mx)),cJ ((((zZD q).1).my)),cK ((((zZD q).1).opac)),cJ ((((zZD q).1).oper)),cJ ((((zZD q).1).mode)),Cl.d (dQ (((zZD q).1).iso)),Cl.d (dQ (((zZD q).1).kno))],[bC [Cl.clo 105 [Cap.ptr 1 0],Cl.d (dQ (((zZD q).2).bad))],bC [Cl.d (dS (((zZD q).2).ws.length) (strs ((zZD q).2).ws))]],false⟩:=
 zQx (Γ:=jX6) Ann.leaf zQB Tryz.func115 rfl (Nat.le_of_ble_eq_true rfl) rfl fun hwf hbx=>by
  refine Eq.mpr (by kernel_rfl:_=(let d:=(numQ (reQ q) 0 255); let a:=[Cap.ptr 1 0]; let b:=[AV.one (Cl.ptr 0 0)]; let e:=(numQ (reQ d.2) (-2147483648) 2147483647); let f:=(numQ (reQ e.2) (-2147483648) 2147483647); let g:=(numQ (reQ f.2) 0 255); let h:=(numQ (reQ g.2) (-2147483648) 2147483647); let i:=(numQ (reQ h.2) (-2147483648) 2147483647); let j:=(numQ (reQ i.2) 0 65535); let k:=(namQ zQo (reQ j.2)); let c:=(namQ zQg (reQ k.2)); let l:=[Bx.cells [Cl.clo 105 a,Cl.d (DV.bool d.2.bad)],Bx.cells [Cl.d (DV.sl d.2.ws.length (strs d.2.ws))]]; let m:=[Bx.cells [Cl.clo 105 a,Cl.d (DV.bool e.2.bad)],Bx.cells [Cl.d (DV.sl e.2.ws.length (strs e.2.ws))]]; let n:=[Bx.cells [Cl.clo 105 a,Cl.d (DV.bool f.2.bad)],Bx.cells [Cl.d (DV.sl f.2.ws.length (strs f.2.ws))]]; let o:=[Bx.cells [Cl.clo 105 a,Cl.d (DV.bool g.2.bad)],Bx.cells [Cl.d (DV.sl g.2.ws.length (strs g.2.ws))]]; let p:=[Bx.cells [Cl.clo 105 a,Cl.d (DV.bool h.2.bad)],Bx.cells [Cl.d (DV.sl h.2.ws.length (strs h.2.ws))]]; let r:=[Bx.cells [Cl.clo 105 a,Cl.d (DV.bool i.2.bad)],Bx.cells [Cl.d (DV.sl i.2.ws.length (strs i.2.ws))]]; let s:=[Bx.cells [Cl.clo 105 a,Cl.d (DV.bool j.2.bad)],Bx.cells [Cl.d (DV.sl j.2.ws.length (strs j.2.ws))]]; let t:=[Bx.cells [Cl.clo 105 a,Cl.d (DV.bool k.2.bad)],Bx.cells [Cl.d (DV.sl k.2.ws.length (strs k.2.ws))]]; True∧True∧(AnsG prog 109 2 b [Bx.cells [Cl.clo 105 a,Cl.d (DV.bool q.bad)],Bx.cells [Cl.d (DV.sl q.ws.length (strs q.ws))]] ⟨AV.one (Cl.d (DV.int .i64 d.1)),l,false⟩)∧True∧(AnsG prog 110 2 b l ⟨AV.one (Cl.d (DV.int .i64 e.1)),m,false⟩)∧True∧(AnsG prog 110 2 b m ⟨AV.one (Cl.d (DV.int .i64 f.1)),n,false⟩)∧True∧(AnsG prog 109 2 b n ⟨AV.one (Cl.d (DV.int .i64 g.1)),o,false⟩)∧True∧(AnsG prog 110 2 b o ⟨AV.one (Cl.d (DV.int .i64 h.1)),p,false⟩)∧True∧(AnsG prog 110 2 b p ⟨AV.one (Cl.d (DV.int .i64 i.1)),r,false⟩)∧True∧(AnsG prog 135 2 b r ⟨AV.one (Cl.d (DV.int .u16 j.1)),s,false⟩)∧True∧(AnsG prog 140 2 b s ⟨AV.one (Cl.d (DV.int .i64 k.1)),t,false⟩)∧True∧(AnsG prog 141 2 b t ⟨AV.one (Cl.d (DV.int .i64 c.1)),[Bx.cells [Cl.clo 105 a,Cl.d (DV.bool c.2.bad)],Bx.cells [Cl.d (DV.sl c.2.ws.length (strs c.2.ws))]],false⟩)∧True∧True∧((([DV.int .i64 1,DV.int .i64 d.1,DV.int .i64 e.1,DV.int .i64 f.1,DV.int .i64 g.1,DV.int .i64 h.1,DV.int .i64 i.1,DV.int .u16 j.1,DV.int .i64 k.1,DV.int .i64 c.1,DV.bool false,DV.bool false]=(Oq.cells (zZD q).1))∧True)∧((((0=0)∧True)∧(DV.bool c.2.bad=DV.bool (zZD q).2.bad)∧True)∧([DV.sl c.2.ws.length (strs c.2.ws)]=[DV.sl (zZD q).2.ws.length (strs (zZD q).2.ws)])∧True))∧zQl ⟨AV.agg [Cl.d (DV.int .i64 (zZD q).1.kind),Cl.d (DV.int .i64 (zZD q).1.image),Cl.d (DV.int .i64 (zZD q).1.x),Cl.d (DV.int .i64 (zZD q).1.y),Cl.d (DV.int .i64 (zZD q).1.mask),Cl.d (DV.int .i64 (zZD q).1.mx),Cl.d (DV.int .i64 (zZD q).1.my),Cl.d (DV.int .u16 (zZD q).1.opac),Cl.d (DV.int .i64 (zZD q).1.oper),Cl.d (DV.int .i64 (zZD q).1.mode),Cl.d (DV.bool (zZD q).1.iso),Cl.d (DV.bool (zZD q).1.kno)],[Bx.cells [Cl.clo 105 a,Cl.d (DV.bool (zZD q).2.bad)],Bx.cells [Cl.d (DV.sl (zZD q).2.ws.length (strs (zZD q).2.ws))]],false⟩)) ?_
  simp only [zZQ,true_and,and_true,RV.d.injEq,RV.agg.injEq,RV.tup.injEq,DV.bool.injEq,DV.int.injEq,DV.sl.injEq,List.cons.injEq,forall_const,Bool.not_false,Bool.not_true,Bool.not_eq_true',Bool.not_eq_false',decide_eq_true_eq,decide_eq_false_iff_not,Int.toNat_natCast]
  (repeat' apply And.intro) <;> first | exact zZ6 _ (by repeat (first | assumption | apply zQd | apply zQe)) | exact zQr _ (by repeat (first | assumption | apply zQd | apply zQe)) | exact zQs _ (by repeat (first | assumption | apply zQd | apply zQe)) | exact zZV _ | exact zXt _ | exact zXj _ (by repeat (first | assumption | apply zQd | apply zQe)) | rfl | trivial
theorem zQz (q:LQ) (hq:okQ q):AnsG prog 116 2 [aPz] [bC [Cl.clo 105 [Cap.ptr 1 0],Cl.d (dQ q.bad)],bC [Cl.d (dS q.ws.length (strs q.ws))]] ⟨AV.agg [cJ ((((zZA q).1).kind)),cJ ((((zZA q).1).image)),cJ ((((zZA q).1).x)),cJ ((((zZA q).1).y)),cJ ((((zZA q).1).mask)),cJ ((((zZA q).1).mx)),cJ ((((zZA q).1).my)),cK ((((zZA q).1).opac)),cJ ((((zZA q).1).oper)),cJ ((((zZA q).1).mode)),Cl.d (dQ (((zZA q).1).iso)),Cl.d (dQ (((zZA q).1).kno))],[bC [Cl.clo 105 [Cap.ptr 1 0],Cl.d (dQ (((zZA q).2).bad))],bC [Cl.d (dS (((zZA q).2).ws.length) (strs ((zZA q).2).ws))]],false⟩:=
 zQx (Γ:=jX6) Ann.leaf zQB Tryz.func116 rfl (Nat.le_of_ble_eq_true rfl) rfl fun hwf hbx=>by
  refine Eq.mpr (by kernel_rfl:_=(let d:=(numQ (reQ q) 0 255); let a:=[Cap.ptr 1 0]; let b:=[AV.one (Cl.ptr 0 0)]; let e:=(numQ (reQ d.2) (-2147483648) 2147483647); let f:=(numQ (reQ e.2) (-2147483648) 2147483647); let g:=(numQ (reQ f.2) 0 65535); let h:=(namQ zQo (reQ g.2)); let i:=(namQ zQg (reQ h.2)); let j:=(numQ (reQ i.2) 0 1); let c:=(numQ (reQ j.2) 0 1); let k:=[Bx.cells [Cl.clo 105 a,Cl.d (DV.bool d.2.bad)],Bx.cells [Cl.d (DV.sl d.2.ws.length (strs d.2.ws))]]; let l:=[Bx.cells [Cl.clo 105 a,Cl.d (DV.bool e.2.bad)],Bx.cells [Cl.d (DV.sl e.2.ws.length (strs e.2.ws))]]; let m:=[Bx.cells [Cl.clo 105 a,Cl.d (DV.bool f.2.bad)],Bx.cells [Cl.d (DV.sl f.2.ws.length (strs f.2.ws))]]; let n:=[Bx.cells [Cl.clo 105 a,Cl.d (DV.bool g.2.bad)],Bx.cells [Cl.d (DV.sl g.2.ws.length (strs g.2.ws))]]; let o:=[Bx.cells [Cl.clo 105 a,Cl.d (DV.bool h.2.bad)],Bx.cells [Cl.d (DV.sl h.2.ws.length (strs h.2.ws))]]; let p:=[Bx.cells [Cl.clo 105 a,Cl.d (DV.bool i.2.bad)],Bx.cells [Cl.d (DV.sl i.2.ws.length (strs i.2.ws))]]; let r:=[Bx.cells [Cl.clo 105 a,Cl.d (DV.bool j.2.bad)],Bx.cells [Cl.d (DV.sl j.2.ws.length (strs j.2.ws))]]; True∧True∧(AnsG prog 109 2 b [Bx.cells [Cl.clo 105 a,Cl.d (DV.bool q.bad)],Bx.cells [Cl.d (DV.sl q.ws.length (strs q.ws))]] ⟨AV.one (Cl.d (DV.int .i64 d.1)),k,false⟩)∧True∧(AnsG prog 110 2 b k ⟨AV.one (Cl.d (DV.int .i64 e.1)),l,false⟩)∧True∧(AnsG prog 110 2 b l ⟨AV.one (Cl.d (DV.int .i64 f.1)),m,false⟩)∧True∧(AnsG prog 135 2 b m ⟨AV.one (Cl.d (DV.int .u16 g.1)),n,false⟩)∧True∧(AnsG prog 140 2 b n ⟨AV.one (Cl.d (DV.int .i64 h.1)),o,false⟩)∧True∧(AnsG prog 141 2 b o ⟨AV.one (Cl.d (DV.int .i64 i.1)),p,false⟩)∧True∧(AnsG prog 142 2 b p ⟨AV.one (Cl.d (DV.bool (decide (j.1=1)))),r,false⟩)∧True∧(AnsG prog 142 2 b r ⟨AV.one (Cl.d (DV.bool (decide (c.1=1)))),[Bx.cells [Cl.clo 105 a,Cl.d (DV.bool c.2.bad)],Bx.cells [Cl.d (DV.sl c.2.ws.length (strs c.2.ws))]],false⟩)∧True∧True∧((([DV.int .i64 2,DV.int .i64 0,DV.int .i64 0,DV.int .i64 0,DV.int .i64 d.1,DV.int .i64 e.1,DV.int .i64 f.1,DV.int .u16 g.1,DV.int .i64 h.1,DV.int .i64 i.1,DV.bool (decide (j.1=1)),DV.bool (decide (c.1=1))]=(Oq.cells (zZA q).1))∧True)∧((((0=0)∧True)∧(DV.bool c.2.bad=DV.bool (zZA q).2.bad)∧True)∧([DV.sl c.2.ws.length (strs c.2.ws)]=[DV.sl (zZA q).2.ws.length (strs (zZA q).2.ws)])∧True))∧zQl ⟨AV.agg [Cl.d (DV.int .i64 (zZA q).1.kind),Cl.d (DV.int .i64 (zZA q).1.image),Cl.d (DV.int .i64 (zZA q).1.x),Cl.d (DV.int .i64 (zZA q).1.y),Cl.d (DV.int .i64 (zZA q).1.mask),Cl.d (DV.int .i64 (zZA q).1.mx),Cl.d (DV.int .i64 (zZA q).1.my),Cl.d (DV.int .u16 (zZA q).1.opac),Cl.d (DV.int .i64 (zZA q).1.oper),Cl.d (DV.int .i64 (zZA q).1.mode),Cl.d (DV.bool (zZA q).1.iso),Cl.d (DV.bool (zZA q).1.kno)],[Bx.cells [Cl.clo 105 a,Cl.d (DV.bool (zZA q).2.bad)],Bx.cells [Cl.d (DV.sl (zZA q).2.ws.length (strs (zZA q).2.ws))]],false⟩)) ?_
  simp only [zZQ,true_and,and_true,RV.d.injEq,RV.agg.injEq,RV.tup.injEq,DV.bool.injEq,DV.int.injEq,DV.sl.injEq,List.cons.injEq,forall_const,Bool.not_false,Bool.not_true,Bool.not_eq_true',Bool.not_eq_false',decide_eq_true_eq,decide_eq_false_iff_not,Int.toNat_natCast]
  (repeat' apply And.intro) <;> first | exact zZ6 _ (by repeat (first | assumption | apply zQd | apply zQe)) | exact zQr _ (by repeat (first | assumption | apply zQd | apply zQe)) | exact zQs _ (by repeat (first | assumption | apply zQd | apply zQe)) | exact zZV _ | exact zXt _ | exact zXj _ (by repeat (first | assumption | apply zQd | apply zQe)) | rfl | trivial
theorem zUZ (w:Lb) (hw:w.length < 4294967281):AnsG prog 72 0 [AV.one (Cl.d (DV.str (toS w)))] [] ⟨aPz,[bC [Cl.clo 105 [Cap.ptr 1 0],Cl.d (dQ (((⟨zQn (ofS (toS w)),false⟩:LQ)).bad))],bC [Cl.d (dS (((⟨zQn (ofS (toS w)),false⟩:LQ)).ws.length) (strs ((⟨zQn (ofS (toS w)),false⟩:LQ)).ws))]],false⟩:=
 zQx (Γ:=jX6) Ann.leaf zQB Tryz.func72 rfl (Nat.le_of_ble_eq_true rfl) rfl fun hwf hbx=>by
  refine Eq.mpr (by kernel_rfl:_=(let a:=(ofS (toS w)); let b:=(zQn a); tU2 ((Ans prog 104 [RV.d (DV.str (toS w)),RV.d (DV.str (⟨#[32]⟩:ByteArray))] (RV.d (dS b.length (strs b))))∧tU6 ((((0=0)∧True)∧((((0=0)∧True)∧(dQ false=dQ (⟨zQn a,false⟩:LQ).bad)∧True)∧([dS b.length (strs b)]=[dS (⟨zQn a,false⟩:LQ).ws.length (strs (⟨zQn a,false⟩:LQ).ws)])∧True))∧zQl ⟨aPz,[bC [Cl.clo 105 [Cap.ptr 1 0],Cl.d (dQ (⟨zQn a,false⟩:LQ).bad)],bC [Cl.d (dS (⟨zQn a,false⟩:LQ).ws.length (strs (⟨zQn a,false⟩:LQ).ws))]],false⟩)))) ?_
  delta tU2 tU6 dQ dS aPz bC
  simp only [sS]
  simp only [zQL]
  exact ⟨zHK w hw,trivial⟩
end
theorem zYX {off:Nat} {ins:List Bx} {ρ:Nat→Nat} (b:Nat):zQJ (List.replicate off .fresh++ins.map (Bx.ren ρ)) (b+off)=(zQJ ins b).ren ρ:=by
 unfold zQJ
 simp only [List.getD_eq_getElem?_getD]
 rw [List.getElem?_append_right (by simp),List.length_replicate,Nat.add_sub_cancel,List.getElem?_map]
 cases ins[b]? <;> rfl
theorem zHI {off:Nat} {l:List Bx} {b:Nat} (h:b < off):zQJ (List.replicate off .fresh++l) b=.fresh:=by
 unfold zQJ
 simp only [List.getD_eq_getElem?_getD]
 rw [List.getElem?_append_left (by simpa using h)]
 simp [h]
theorem AnsG.shift {P:Program} {f:FuncId} {args:List AV} {ins:List Bx} {r:Ret} (off:Nat) (h:AnsG P f 0 (AV.renL (·+off) args) (List.replicate off .fresh++ins.map (Bx.ren (·+off))) r):AnsG P f 0 args ins r:=by
 intro w S ι vs hg hh
 have hlo:∀ b,(zQJ (List.replicate off .fresh++ins.map (Bx.ren (·+off))) b).live=true→∃ b',b=b'+off∧(zQJ ins b').live=true:=fun b hl=>by
  by_cases e:b < off
  ·rw [zHI e] at hl; cases hl
  ·refine ⟨b - off,by omega,?_⟩
   have:=zYX (off:=off) (ins:=ins) (ρ:=(·+off)) (b - off)
   rw [show b - off+off=b from by omega] at this
   rw [this,Bx.ren_live] at hl
   exact hl
 have hι:∀ b,(fun b=>if b < off then none else ι (b - off)) (b+off)=ι b:=fun b=>by
  simp only
  rw [if_neg (by omega),Nat.add_sub_cancel]
 have hturn:∀ b,zW6 ι (zQJ ins) (fun b=>if b < off then none else ι (b - off)) (zQJ (List.replicate off .fresh++ins.map (Bx.ren (·+off)))) (·+off) b:=fun b hk=>⟨hι b,by
  rw [zYX,Bx.ren_known]; exact hk⟩
 have hown:OwnB (zQJ (List.replicate off .fresh++ins.map (Bx.ren (·+off)))) (fun b=>if b < off then none else ι (b - off))=OwnB (zQJ ins) ι:=by
  funext g
  refine propext ⟨fun ⟨b,c,hl,e⟩=>?_,fun ⟨b,c,hl,e⟩=>?_⟩
  ·obtain ⟨b',rfl,hl'⟩:=hlo b hl
   exact ⟨b',c,hl',by rw [← hι b']; exact e⟩
  ·exact ⟨b+off,c,by rw [zYX,Bx.ren_live]; exact hl,by rw [hι]; exact e⟩
 have hh2:zJD w S (fun b=>if b < off then none else ι (b - off)) (AV.renL (·+off) args) (List.replicate off .fresh++ins.map (Bx.ren (·+off))) vs.toList:=by
  refine ⟨fun b g c hl e=>?_,fun b b2 g c c' hl hl2 hne e=>?_,fun b=>?_,hh.args.turn fun b _=>hturn b⟩
  ·obtain ⟨b',rfl,hl'⟩:=hlo b hl
   exact hh.own b' g c hl' (by rw [← hι b']; exact e)
  ·obtain ⟨b',rfl,hl'⟩:=hlo b hl
   obtain ⟨b2',rfl,hl2'⟩:=hlo b2 hl2
   have:=hh.dist b' b2' g c c' hl' hl2' (by omega) (by rw [← hι b']; exact e)
   rw [← hι b2'] at this
   exact this
  ·by_cases e:b < off
   ·rw [zHI e]; trivial
   ·obtain ⟨b',rfl⟩:∃ b',b=b'+off:=⟨b - off,by omega⟩
    rw [zYX]
    exact (hh.bx b').turn (hι b') fun x _=>hturn x
 have hc:=h w S _ vs hg hh2
 refine hc.mono fun ed w' hp=>?_
 obtain ⟨v,ι',rfl,ha⟩:=hp
 have hb:zY7 w S (fun b=>if b < off then none else ι (b - off)) (List.replicate off .fresh++ins.map (Bx.ren (·+off))) r ι'=zY7 w S ι ins r ι':=by
  unfold zY7
  rw [hown]
 refine ⟨v,ι',rfl,?_,?_,?_,ha.dist,fun b hb=>absurd hb (by omega),?_⟩
 ·rw [← hb]; exact ha.rep
 ·rw [← hb]; exact ha.bx
 ·rw [← hown]; exact ha.own
 ·rw [← hown]; exact ha.bel
def shp (pin off b:Nat):Nat:=if b < pin then b else b+off
def zUc (pin off:Nat) (ins:List Bx):List Bx:=(ins.take pin).map (Bx.ren (shp pin off))++(List.replicate off .fresh++(ins.drop pin).map (Bx.ren (shp pin off)))
theorem zVU {pin off:Nat} {ins:List Bx} (hp:pin≤ins.length) (b:Nat):zQJ (zUc pin off ins) (shp pin off b)=(zQJ ins b).ren (shp pin off):=by
 unfold zQJ zUc shp
 simp only [List.getD_eq_getElem?_getD]
 by_cases h:b < pin
 ·rw [if_pos h,List.getElem?_append_left (by simp; omega),List.getElem?_map,List.getElem?_take,if_pos h]
  cases ins[b]? <;> rfl
 ·rw [if_neg h,List.getElem?_append_right (by simp; omega),List.getElem?_append_right (by simp; omega),List.length_replicate,List.length_map,List.length_take,List.getElem?_map,List.getElem?_drop,show pin+(b+off - min pin ins.length - off)=b by omega]
  cases ins[b]? <;> rfl
theorem zGV {pin off:Nat} {ins:List Bx} (hp:pin≤ins.length) (b:Nat):(∃ b',b=shp pin off b')∨zQJ (zUc pin off ins) b=.fresh:=by
 by_cases h:b < pin
 ·exact .inl ⟨b,by unfold shp; rw [if_pos h]⟩
 ·by_cases h2:b < pin+off
  ·refine .inr ?_
   unfold zQJ zUc
   simp only [List.getD_eq_getElem?_getD]
   rw [List.getElem?_append_right (by simp; omega),List.getElem?_append_left (by simp; omega),List.getElem?_replicate]
   split <;> rfl
  ·exact .inl ⟨b - off,by unfold shp; rw [if_neg (by omega)]; omega⟩
theorem AnsG.shiftP {P:Program} {f:FuncId} {args:List AV} {ins:List Bx} {r:Ret} {pin:Nat} (off:Nat) (hp:pin≤ins.length) (h:AnsG P f pin (AV.renL (shp pin off) args) (zUc pin off ins) r):AnsG P f pin args ins r:=by
 intro w S ι vs hg hh
 have hinj:∀ {a b},shp pin off a=shp pin off b→a=b:=fun {a b} e=>by
  unfold shp at e
  split at e <;> split at e <;> omega
 have hlo:∀ b,(zQJ (zUc pin off ins) b).live=true→∃ b',b=shp pin off b'∧(zQJ ins b').live=true:=fun b hl=>by
  rcases zGV (off:=off) hp b with ⟨b',rfl⟩ | e
  ·refine ⟨b',rfl,?_⟩
   rw [zVU hp,Bx.ren_live] at hl
   exact hl
  ·rw [e] at hl; cases hl
 obtain ⟨ι2,hι,hpin⟩:∃ ι2:zQE,(∀ b,ι2 (shp pin off b)=ι b)∧∀ b,b < pin→ι2 b=ι b:=by
  refine ⟨fun b=>if b < pin then ι b else ι (b - off),fun b=>?_,fun b hb=>by simp only; rw [if_pos hb]⟩
  unfold shp
  by_cases h:b < pin
  ·simp only [if_pos h]
  ·simp only [if_neg h]; rw [if_neg (by omega),Nat.add_sub_cancel]
 have hturn:∀ b,zW6 ι (zQJ ins) ι2 (zQJ (zUc pin off ins)) (shp pin off) b:=fun b hk=>⟨hι b,by
  rw [zVU hp,Bx.ren_known]; exact hk⟩
 have hown:OwnB (zQJ (zUc pin off ins)) ι2=OwnB (zQJ ins) ι:=by
  funext g
  refine propext ⟨fun ⟨b,c,hl,e⟩=>?_,fun ⟨b,c,hl,e⟩=>?_⟩
  ·obtain ⟨b',rfl,hl'⟩:=hlo b hl
   exact ⟨b',c,hl',by rw [← hι b']; exact e⟩
  ·exact ⟨shp pin off b,c,by rw [zVU hp,Bx.ren_live]; exact hl,by rw [hι]; exact e⟩
 have hh2:zJD w S ι2 (AV.renL (shp pin off) args) (zUc pin off ins) vs.toList:=by
  refine ⟨fun b g c hl e=>?_,fun b b2 g c c' hl hl2 hne e=>?_,fun b=>?_,hh.args.turn fun b _=>hturn b⟩
  ·obtain ⟨b',rfl,hl'⟩:=hlo b hl
   exact hh.own b' g c hl' (by rw [← hι b']; exact e)
  ·obtain ⟨b',rfl,hl'⟩:=hlo b hl
   obtain ⟨b2',rfl,hl2'⟩:=hlo b2 hl2
   have:=hh.dist b' b2' g c c' hl' hl2' (fun e=>hne (by rw [e])) (by rw [← hι b']; exact e)
   rw [← hι b2'] at this
   exact this
  ·rcases zGV (off:=off) hp b with ⟨b',rfl⟩ | e
   ·rw [zVU hp]
    exact (hh.bx b').turn (hι b') fun x _=>hturn x
   ·rw [e]; trivial
 have hc:=h w S _ vs hg hh2
 refine hc.mono fun ed w' hp=>?_
 obtain ⟨v,ι',rfl,ha⟩:=hp
 have hb:zY7 w S ι2 (zUc pin off ins) r ι'=zY7 w S ι ins r ι':=by
  unfold zY7
  rw [hown]
 refine ⟨v,ι',rfl,?_,?_,?_,ha.dist,fun b hb=>(ha.pin b hb).trans (hpin b hb),?_⟩
 ·rw [← hb]; exact ha.rep
 ·rw [← hb]; exact ha.bx
 ·rw [← hown]; exact ha.own
 ·rw [← hown]; exact ha.bel
end Go.Proofs.YtheidkkebdhmkaaGreatDoor
