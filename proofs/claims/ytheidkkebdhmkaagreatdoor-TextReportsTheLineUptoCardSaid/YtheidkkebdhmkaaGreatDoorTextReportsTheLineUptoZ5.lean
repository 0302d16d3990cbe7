/-
  Part 5 of what TextReportsTheLineUpto rests on.
-/
import Derived.Test.YtheidkkebdhmkaaGreatDoorTextReportsTheLineUptoZ4
import Derived.Lib.Builder
import Derived.BigCall
import Derived.Lib.UnsafeStr
import Derived.Test.YtheidkkebdhmkaaGreatDoorTextReportsTheLineUptoZ3
import Derived.Test.YtheidkkebdhmkaaGreatDoorTextReportsTheLineUptoZ2
namespace Go.Proofs.YtheidkkebdhmkaaGreatDoor
open Go.RowKit
set_option linter.unusedVariables false
set_option linter.unusedSimpArgs false
set_option maxRecDepth 20000
set_option maxHeartbeats 4000000
open Go.Proofs.Tryz (prog)
section
attribute [local irreducible] Ans AnsO AnsG AnsN AnsI
open Go.Lib
structure PP where
  s:Scr
  part:Int
  w:Int
  h:Int
  px:List Px
def cmpQ (q:LQ):Bool:=q.ws.isEmpty && !q.bad
def zZu (p:PP) (q:LQ):PP × Bool:=
 if cmpQ (pixQ q).2=true then
  (if ((p.px.length:Int)+1)=p.w*p.h then (⟨{ p.s with ims:=p.s.ims++[imOf p.w p.h (p.px++[(pixQ q).1])] },p.part,0,0,[]⟩,true) else ({ p with px:=p.px++[(pixQ q).1] },true))
 else ({ p with px:=p.px++[(pixQ q).1] },false)
def zXb (p:PP) (q:LQ) (w:Lb):PP × Bool:=
 if p.part=0 then ({ p with part:=p.part+1,s:={ p.s with bits:=(byQ q).1 } },decide (w=zX3) && cmpQ (byQ q).2)
 else if p.part=1 then
  (let a:=plQ q; let b:=plQ a.2; let c:=plQ b.2; let d:=plQ c.2
   ({ p with part:=p.part+1,s:={ p.s with c:=⟨a.1,b.1,c.1,d.1⟩ } },decide (w=zZw) && cmpQ d.2))
 else
  (let a:=numQ q 0 4294967295; let b:=numQ a.2 0 4294967295
   ({ p with part:=p.part+1,s:={ p.s with tw:=a.1,th:=b.1 } },decide (w=zZ3) && cmpQ b.2))
def zZq (p:PP) (q:LQ) (w:Lb):PP × Bool:=
 if 64≤p.s.ims.length then (p,false)
 else if w=zQP then ({ p with w:=(sizQ q).1.1,h:=(sizQ q).1.2 },cmpQ (sizQ q).2)
 else ({ p with s:={ p.s with ims:=p.s.ims++[zQi (sizQ q).1.1 (sizQ q).1.2 (pixQ (sizQ q).2).1] } },cmpQ (pixQ (sizQ q).2).2)
def pOp (p:PP) (q:LQ) (w:Lb):PP × Bool:=
 if 4096≤p.s.ops.length then (p,false)
 else if w=zZV then ({ p with s:={ p.s with ops:=p.s.ops++[(zZB q).1] } },cmpQ (zZB q).2)
 else if w=zZ0 then ({ p with s:={ p.s with ops:=p.s.ops++[(zZy q).1] } },cmpQ (zZy q).2)
 else if w=sPop then ({ p with s:={ p.s with ops:=p.s.ops++[⟨3,0,0,0,0,0,0,0,0,0,false,false⟩] } },cmpQ q)
 else (p,false)
def zKM:List Lb→List Int
 | []=>[]
 | w::ws=>if okN 0 4294967295 w=true then numV w::zKM ws else []
theorem zQR (l:List Oq):ops l++[DV.int .i64 3,DV.int .i64 0,DV.int .i64 0,DV.int .i64 0,DV.int .i64 0,DV.int .i64 0,DV.int .i64 0,DV.int .u16 0,DV.int .i64 0,DV.int .i64 0,DV.bool false,DV.bool false]=ops (l++[⟨3,0,0,0,0,0,0,0,0,0,false,false⟩]):=by
 unfold ops
 rw [List.flatMap_append]
 rfl
theorem jQ4 {l:List Lb} (h:l.all (okN 0 4294967295)=true):zKM l=l.map numV:=by
 induction l with
 | nil=>rfl
 | cons w l ih=>
  simp only [List.all_cons,Bool.and_eq_true] at h
  unfold zKM
  rw [if_pos h.1,ih h.2]; rfl
theorem jXY {l m:List Lb} {x:Lb} (h:l.all (okN 0 4294967295)=true) (hx:okN 0 4294967295 x=false):zKM (l++x::m)=l.map numV:=by
 induction l with
 | nil=>show zKM (x::m)=[]; unfold zKM; rw [if_neg (by rw [hx]; decide)]
 | cons w l ih=>
  simp only [List.all_cons,Bool.and_eq_true] at h
  rw [List.cons_append,zKM,if_pos h.1,ih h.2]; rfl
def zXw (p:PP) (t:Lb):PP × Bool:=
 ({ p with s:={ p.s with ord:=p.s.ord++zKM ((zQt t).drop 1) } },((zQt t).drop 1).all (okN 0 4294967295) && decide (1 < (zQt t).length))
def zXx (p:PP) (t:Lb):PP × Bool:=
 if 0 < p.h then zZu p ⟨zQt t,false⟩
 else
  (let q:=zZF ⟨zQt t,false⟩; let w:=zZi (zQt t)
   if p.part≤2 then zXb p q w
   else if w=zZj∧p.part=3 then zXw { p with part:=4 } t
   else if (w=zQN∨w=zQP)∧p.part≤4 then zZq { p with part:=4 } q w
   else pOp { p with part:=5 } q w)
theorem zQe {q:LQ} (h:okQ q):okQ (pixQ q).2:=zQb (zQb (zQb (zQb (zQb h))))
theorem zQd {q:LQ} (h:okQ q):okQ (sizQ q).2:=by
 have:=zQb (zQb h (lo:=1) (hi:=16777216)) (lo:=1) (hi:=16777216)
 unfold sizQ
 simp only
 split
 ·exact this
 ·exact this
theorem image_Of_dat' (w h:Int) (l:List Px):Ans prog 108 [RV.d (DV.int .i64 w),RV.d (DV.int .i64 h),RV.d (DV.sl l.length (pxs l))] (RV.tup [imR (imOf w h l),RV.d (DV.bool (ofOk w h l.length))]):=by
 have:=jQC w h l.length (pxs l) (zHC l)
 rw [zZd] at this
 exact this.ans rfl rfl
theorem image_Solid_dat' (w h:Int) (p:Px):Ans prog 114 [RV.d (DV.int .i64 w),RV.d (DV.int .i64 h),RV.agg [DV.int .u16 p.a,DV.int .u16 p.b,DV.int .u16 p.c,DV.int .u16 p.al,DV.int .u16 p.f]] (imR (zQi w h p)):=zJB w h p.a p.b p.c p.al p.f
def ppC (p:PP) (n:Int) (i:Nat):List Cl:=[Cl.d (DV.int .i64 p.s.bits),Cl.d (DV.int .i64 p.s.c.a),Cl.d (DV.int .i64 p.s.c.b),Cl.d (DV.int .i64 p.s.c.c),Cl.d (DV.int .i64 p.s.c.d),Cl.d (DV.int .i64 p.s.tw),Cl.d (DV.int .i64 p.s.th),Cl.ref i p.s.ord.length,Cl.ref (i+1) p.s.ims.length,Cl.ref (i+2) p.s.ops.length,Cl.d (DV.int .i64 n),Cl.d (DV.int .i64 p.w),Cl.d (DV.int .i64 p.h),Cl.ref (i+3) p.px.length]
def ppE (A B:PP):Prop:=((DV.int .i64 A.s.bits=DV.int .i64 B.s.bits)∧(DV.int .i64 A.s.c.a=DV.int .i64 B.s.c.a)∧(DV.int .i64 A.s.c.b=DV.int .i64 B.s.c.b)∧(DV.int .i64 A.s.c.c=DV.int .i64 B.s.c.c)∧(DV.int .i64 A.s.c.d=DV.int .i64 B.s.c.d)∧(DV.int .i64 A.s.tw=DV.int .i64 B.s.tw)∧(DV.int .i64 A.s.th=DV.int .i64 B.s.th)∧(A.s.ord.length=B.s.ord.length)∧(A.s.ims.length=B.s.ims.length)∧(A.s.ops.length=B.s.ops.length)∧(DV.int .i64 A.part=DV.int .i64 B.part)∧(DV.int .i64 A.w=DV.int .i64 B.w)∧(DV.int .i64 A.h=DV.int .i64 B.h)∧(A.px.length=B.px.length)∧True)∧(is A.s.ord=is B.s.ord)∧(ims A.s.ims=ims B.s.ims)∧(ops A.s.ops=ops B.s.ops)∧(pxs A.px=pxs B.px)∧True
def gZ39 (xs:List AV) (bs:List Bx):Option Ret:=match xs,bs with | [AV.one (Cl.ptr 0 0)],[Bx.cells [Cl.d (DV.int _ bits),Cl.d (DV.int _ cx0),Cl.d (DV.int _ cy0),Cl.d (DV.int _ cx1),Cl.d (DV.int _ cy1),Cl.d (DV.int _ tw),Cl.d (DV.int _ th),Cl.ref 1 on,Cl.ref 2 mn,Cl.ref 3 qn,Cl.d (DV.int _ part),Cl.d (DV.int _ w),Cl.d (DV.int _ h),Cl.ref 4 ln],Bx.row _ _ oxs,Bx.row _ _ mxs,Bx.row _ _ qxs,Bx.row _ _ lxs]=>some ⟨AV.one (Cl.d (dQ (decide (h > (0:Int))))),[bC [cJ bits,cJ cx0,cJ cy0,cJ cx1,cJ cy1,cJ tw,cJ th,Cl.ref 1 on,Cl.ref 2 mn,Cl.ref 3 qn,cJ part,cJ w,cJ h,Cl.ref 4 ln],Bx.row 3 1 oxs,Bx.row 43 28 mxs,Bx.row 51 12 qxs,Bx.row 37 5 lxs],false⟩ | _,_=>none
def jQE:Gam where
 pure:=fun f xs=>
  if f=112 then gZ27 xs else
  if f=104 then gZ38 xs else
  if f=108 then (match xs with | [.d (.int _ w),.d (.int _ h),.d (.sl n xs)]=>let a:=(imOf w h (zQk xs)); let b:=a.p0; let c:=a.p1; let e:=a.p2; let f:=a.p3; let g:=a.p4; some (RV.tup [RV.agg [DV.int .i64 a.w,DV.int .i64 a.h,DV.bool a.so,DV.int .u16 a.c.a,DV.int .u16 a.c.b,DV.int .u16 a.c.c,DV.int .u16 a.c.al,DV.int .u16 a.c.f,DV.int .i64 b.w,DV.int .i64 b.h,DV.int .i64 b.s,DV.sl b.n b.xs,DV.int .i64 c.w,DV.int .i64 c.h,DV.int .i64 c.s,DV.sl c.n c.xs,DV.int .i64 e.w,DV.int .i64 e.h,DV.int .i64 e.s,DV.sl e.n e.xs,DV.int .i64 f.w,DV.int .i64 f.h,DV.int .i64 f.s,DV.sl f.n f.xs,DV.int .i64 g.w,DV.int .i64 g.h,DV.int .i64 g.s,DV.sl g.n g.xs],RV.d (DV.bool (ofOk w h n))]) | _=>none) else
  if f=114 then gZ11 xs else
  none
 modes:=fun f=>
  if f=72 then some ([true],0,2) else
  if f=74 then some ([false],2,0) else
  if f=109 then some ([false],2,0) else
  if f=110 then some ([false],2,0) else
  if f=111 then some ([false],2,0) else
  if f=106 then some ([false],2,0) else
  if f=113 then some ([false],2,0) else
  if f=115 then some ([false],2,0) else
  if f=116 then some ([false],2,0) else
  if f=107 then some ([false],2,0) else
  if f=37 then some ([false],5,0) else
  if f=73 then some ([false,false],1,4) else
  if f=75 then some ([false,false,true],1,4) else
  if f=77 then some ([false,false,true],1,4) else
  if f=78 then some ([false,false,true],1,4) else
  if f=76 then some ([false,true],1,4) else
  none
 proc:=fun f xs bs=>
  if f=72 then (match xs,bs with | [AV.one (Cl.d (DV.str t))],[]=>some ⟨aPz,[bC [Cl.clo 105 [Cap.ptr 1 0],Cl.d (dQ (⟨zQt (ofS t),false⟩:LQ).bad)],bC [Cl.d (dS (⟨zQt (ofS t),false⟩:LQ).ws.length (strs (⟨zQt (ofS t),false⟩:LQ).ws))]],false⟩ | _,_=>none) else
  if f=74 then gZ28 xs bs else
  if f=109 then gZ30 xs bs else
  if f=110 then gZ31 xs bs else
  if f=111 then gZ32 xs bs else
  if f=106 then (match xs,bs with | [AV.one (Cl.ptr 0 0)],[Bx.cells [Cl.clo 105 [Cap.ptr 1 0],Cl.d (DV.bool bad)],Bx.cells [Cl.d (DV.sl wn wxs)]]=>let a:=(pixQ (⟨zQJ wxs,bad⟩:LQ)); some ⟨AV.agg [Cl.d (DV.int .u16 a.1.a),Cl.d (DV.int .u16 a.1.b),Cl.d (DV.int .u16 a.1.c),Cl.d (DV.int .u16 a.1.al),Cl.d (DV.int .u16 a.1.f)],[Bx.cells [Cl.clo 105 [Cap.ptr 1 0],Cl.d (DV.bool a.2.bad)],Bx.cells [Cl.d (DV.sl a.2.ws.length (strs a.2.ws))]],false⟩ | _,_=>none) else
  if f=113 then (match xs,bs with | [AV.one (Cl.ptr 0 0)],[Bx.cells [Cl.clo 105 [Cap.ptr 1 0],Cl.d (DV.bool bad)],Bx.cells [Cl.d (DV.sl wn wxs)]]=>let a:=(sizQ (⟨zQJ wxs,bad⟩:LQ)); some ⟨AV.tup [AV.one (Cl.d (DV.int .i64 a.1.1)),AV.one (Cl.d (DV.int .i64 a.1.2))],[Bx.cells [Cl.clo 105 [Cap.ptr 1 0],Cl.d (DV.bool a.2.bad)],Bx.cells [Cl.d (DV.sl a.2.ws.length (strs a.2.ws))]],false⟩ | _,_=>none) else
  if f=115 then (match xs,bs with | [AV.one (Cl.ptr 0 0)],[Bx.cells [Cl.clo 105 [Cap.ptr 1 0],Cl.d (DV.bool bad)],Bx.cells [Cl.d (DV.sl wn wxs)]]=>let a:=(zZB (⟨zQJ wxs,bad⟩:LQ)); some ⟨AV.agg [Cl.d (DV.int .i64 a.1.kind),Cl.d (DV.int .i64 a.1.image),Cl.d (DV.int .i64 a.1.x),Cl.d (DV.int .i64 a.1.y),Cl.d (DV.int .i64 a.1.mask),Cl.d (DV.int .i64 a.1.mx),Cl.d (DV.int .i64 a.1.my),Cl.d (DV.int .u16 a.1.opac),Cl.d (DV.int .i64 a.1.oper),Cl.d (DV.int .i64 a.1.mode),Cl.d (DV.bool a.1.iso),Cl.d (DV.bool a.1.kno)],[Bx.cells [Cl.clo 105 [Cap.ptr 1 0],Cl.d (DV.bool a.2.bad)],Bx.cells [Cl.d (DV.sl a.2.ws.length (strs a.2.ws))]],false⟩ | _,_=>none) else
  if f=116 then (match xs,bs with | [AV.one (Cl.ptr 0 0)],[Bx.cells [Cl.clo 105 [Cap.ptr 1 0],Cl.d (DV.bool bad)],Bx.cells [Cl.d (DV.sl wn wxs)]]=>let a:=(zZy (⟨zQJ wxs,bad⟩:LQ)); some ⟨AV.agg [Cl.d (DV.int .i64 a.1.kind),Cl.d (DV.int .i64 a.1.image),Cl.d (DV.int .i64 a.1.x),Cl.d (DV.int .i64 a.1.y),Cl.d (DV.int .i64 a.1.mask),Cl.d (DV.int .i64 a.1.mx),Cl.d (DV.int .i64 a.1.my),Cl.d (DV.int .u16 a.1.opac),Cl.d (DV.int .i64 a.1.oper),Cl.d (DV.int .i64 a.1.mode),Cl.d (DV.bool a.1.iso),Cl.d (DV.bool a.1.kno)],[Bx.cells [Cl.clo 105 [Cap.ptr 1 0],Cl.d (DV.bool a.2.bad)],Bx.cells [Cl.d (DV.sl a.2.ws.length (strs a.2.ws))]],false⟩ | _,_=>none) else
  if f=107 then gZ37 xs bs else
  if f=37 then gZ39 xs bs else
  if f=73 then (match xs,bs with | [AV.one (Cl.ptr 0 0),AV.one (Cl.ptr 1 0)],[Bx.cells [Cl.d (DV.int _ bits),Cl.d (DV.int _ cx0),Cl.d (DV.int _ cy0),Cl.d (DV.int _ cx1),Cl.d (DV.int _ cy1),Cl.d (DV.int _ tw),Cl.d (DV.int _ th),Cl.ref 2 on,Cl.ref 3 mn,Cl.ref 4 qn,Cl.d (DV.int _ part),Cl.d (DV.int _ w),Cl.d (DV.int _ h),Cl.ref 5 ln],Bx.cells [Cl.clo 105 [Cap.ptr 6 0],Cl.d (DV.bool bad)],Bx.row _ _ oxs,Bx.row _ _ mxs,Bx.row _ _ qxs,Bx.row _ _ lxs,Bx.cells [Cl.d (DV.sl wn wxs)]]=>let a:=(zZu (⟨⟨bits,⟨cx0,cy0,cx1,cy1⟩,tw,th,ints oxs,zYu mxs,zZ8 qxs⟩,part,w,h,zQk lxs⟩:PP) (⟨zQJ wxs,bad⟩:LQ)); some ⟨AV.one (Cl.d (DV.bool a.2)),[Bx.cells (ppC a.1 a.1.part 1),Bx.row 3 1 (is a.1.s.ord),Bx.row 43 28 (ims a.1.s.ims),Bx.row 51 12 (ops a.1.s.ops),Bx.row 37 5 (pxs a.1.px)],false⟩ | _,_=>none) else
  if f=75 then (match xs,bs with | [AV.one (Cl.ptr 0 0),AV.one (Cl.ptr 1 0),AV.one (Cl.d (DV.str t))],[Bx.cells [Cl.d (DV.int _ bits),Cl.d (DV.int _ cx0),Cl.d (DV.int _ cy0),Cl.d (DV.int _ cx1),Cl.d (DV.int _ cy1),Cl.d (DV.int _ tw),Cl.d (DV.int _ th),Cl.ref 2 on,Cl.ref 3 mn,Cl.ref 4 qn,Cl.d (DV.int _ part),Cl.d (DV.int _ w),Cl.d (DV.int _ h),Cl.ref 5 ln],Bx.cells [Cl.clo 105 [Cap.ptr 6 0],Cl.d (DV.bool bad)],Bx.row _ _ oxs,Bx.row _ _ mxs,Bx.row _ _ qxs,Bx.row _ _ lxs,Bx.cells [Cl.d (DV.sl wn wxs)]]=>let a:=(zXb (⟨⟨bits,⟨cx0,cy0,cx1,cy1⟩,tw,th,ints oxs,zYu mxs,zZ8 qxs⟩,part,w,h,zQk lxs⟩:PP) (⟨zQJ wxs,bad⟩:LQ) (ofS t)); some ⟨AV.one (Cl.d (DV.bool a.2)),[Bx.cells (ppC a.1 a.1.part 1),Bx.row 3 1 (is a.1.s.ord),Bx.row 43 28 (ims a.1.s.ims),Bx.row 51 12 (ops a.1.s.ops),Bx.row 37 5 (pxs a.1.px)],false⟩ | _,_=>none) else
  if f=77 then (match xs,bs with | [AV.one (Cl.ptr 0 0),AV.one (Cl.ptr 1 0),AV.one (Cl.d (DV.str t))],[Bx.cells [Cl.d (DV.int _ bits),Cl.d (DV.int _ cx0),Cl.d (DV.int _ cy0),Cl.d (DV.int _ cx1),Cl.d (DV.int _ cy1),Cl.d (DV.int _ tw),Cl.d (DV.int _ th),Cl.ref 2 on,Cl.ref 3 mn,Cl.ref 4 qn,Cl.d (DV.int _ part),Cl.d (DV.int _ w),Cl.d (DV.int _ h),Cl.ref 5 ln],Bx.cells [Cl.clo 105 [Cap.ptr 6 0],Cl.d (DV.bool bad)],Bx.row _ _ oxs,Bx.row _ _ mxs,Bx.row _ _ qxs,Bx.row _ _ lxs,Bx.cells [Cl.d (DV.sl wn wxs)]]=>let a:=(zZq (⟨⟨bits,⟨cx0,cy0,cx1,cy1⟩,tw,th,ints oxs,zYu mxs,zZ8 qxs⟩,part,w,h,zQk lxs⟩:PP) (⟨zQJ wxs,bad⟩:LQ) (ofS t)); some ⟨AV.one (Cl.d (DV.bool a.2)),[Bx.cells (ppC a.1 a.1.part 1),Bx.row 3 1 (is a.1.s.ord),Bx.row 43 28 (ims a.1.s.ims),Bx.row 51 12 (ops a.1.s.ops),Bx.row 37 5 (pxs a.1.px)],false⟩ | _,_=>none) else
  if f=78 then (match xs,bs with | [AV.one (Cl.ptr 0 0),AV.one (Cl.ptr 1 0),AV.one (Cl.d (DV.str t))],[Bx.cells [Cl.d (DV.int _ bits),Cl.d (DV.int _ cx0),Cl.d (DV.int _ cy0),Cl.d (DV.int _ cx1),Cl.d (DV.int _ cy1),Cl.d (DV.int _ tw),Cl.d (DV.int _ th),Cl.ref 2 on,Cl.ref 3 mn,Cl.ref 4 qn,Cl.d (DV.int _ part),Cl.d (DV.int _ w),Cl.d (DV.int _ h),Cl.ref 5 ln],Bx.cells [Cl.clo 105 [Cap.ptr 6 0],Cl.d (DV.bool bad)],Bx.row _ _ oxs,Bx.row _ _ mxs,Bx.row _ _ qxs,Bx.row _ _ lxs,Bx.cells [Cl.d (DV.sl wn wxs)]]=>let a:=(pOp (⟨⟨bits,⟨cx0,cy0,cx1,cy1⟩,tw,th,ints oxs,zYu mxs,zZ8 qxs⟩,part,w,h,zQk lxs⟩:PP) (⟨zQJ wxs,bad⟩:LQ) (ofS t)); some ⟨AV.one (Cl.d (DV.bool a.2)),[Bx.cells (ppC a.1 a.1.part 1),Bx.row 3 1 (is a.1.s.ord),Bx.row 43 28 (ims a.1.s.ims),Bx.row 51 12 (ops a.1.s.ops),Bx.row 37 5 (pxs a.1.px)],false⟩ | _,_=>none) else
  if f=76 then (match xs,bs with | [AV.one (Cl.ptr 0 0),AV.one (Cl.d (DV.str t))],[Bx.cells [Cl.d (DV.int _ bits),Cl.d (DV.int _ cx0),Cl.d (DV.int _ cy0),Cl.d (DV.int _ cx1),Cl.d (DV.int _ cy1),Cl.d (DV.int _ tw),Cl.d (DV.int _ th),Cl.ref 1 on,Cl.ref 2 mn,Cl.ref 3 qn,Cl.d (DV.int _ part),Cl.d (DV.int _ w),Cl.d (DV.int _ h),Cl.ref 4 ln],Bx.row _ _ oxs,Bx.row _ _ mxs,Bx.row _ _ qxs,Bx.row _ _ lxs]=>let a:=(zXw (⟨⟨bits,⟨cx0,cy0,cx1,cy1⟩,tw,th,ints oxs,zYu mxs,zZ8 qxs⟩,part,w,h,zQk lxs⟩:PP) (ofS t)); some ⟨AV.one (Cl.d (DV.bool a.2)),[Bx.cells (ppC a.1 a.1.part 1),Bx.row 3 1 (is a.1.s.ord),Bx.row 43 28 (ims a.1.s.ims),Bx.row 51 12 (ops a.1.s.ops),Bx.row 37 5 (pxs a.1.px)],false⟩ | _,_=>none) else
  none
 iter:=fun f cs=>
  none
theorem zJi (p:PP) (q:LQ) (hq:okQ q) (hx:p.px.length≤68719476736) (hi:p.s.ims.length≤68719476736) (hp:p.s.ops.length≤68719476736) (hn:p.s.ord.length≤68719476736) (hf:0≤p.w*p.h∧p.w*p.h≤16777216) (hd:0≤p.part∧p.part≤5):AnsG prog 73 1 [aPz,AV.one (Cl.ptr 1 0)] [Bx.cells (ppC p p.part 2),bC [Cl.clo 105 [Cap.ptr 6 0],Cl.d (dQ q.bad)],Bx.row 3 1 (is p.s.ord),Bx.row 43 28 (ims p.s.ims),Bx.row 51 12 (ops p.s.ops),Bx.row 37 5 (pxs p.px),bC [Cl.d (dS q.ws.length (strs q.ws))]] ⟨AV.one (Cl.d (dQ ((zZu p q).2))),[Bx.cells (ppC ((zZu p q).1) (((zZu p q).1).part) 1),Bx.row 3 1 (is ((zZu p q).1).s.ord),Bx.row 43 28 (ims ((zZu p q).1).s.ims),Bx.row 51 12 (ops ((zZu p q).1).s.ops),Bx.row 37 5 (pxs ((zZu p q).1).px)],false⟩:=
 AnsG.shiftP 900 (Nat.le_of_ble_eq_true rfl) <| zQz (Γ:=jQE) Ann.leaf zQy Tryz.func73 rfl (Nat.le_of_ble_eq_true rfl) rfl fun hwf hbx=>by
  refine Eq.mpr (by kernel_rfl:_=(let i:=(((p.px.length+1:Nat):Int)==(wK (p.w*p.h))); let b:=(pixQ (reQ q)); let d:=(zZH (reQ b.2)); let a:=(zZu p q); let e:=(Cl.d (dQ a.2)); let c:=(reQ b.2); let j:=(!(c.ws.isEmpty && !c.bad)); let f:=[Bx.cells (ppC a.1 a.1.part 1),Bx.row 3 1 (is a.1.s.ord),Bx.row 43 28 (ims a.1.s.ims),Bx.row 51 12 (ops a.1.s.ops),Bx.row 37 5 (pxs a.1.px)]; let g:=([dK b.1.a,dK b.1.b,dK b.1.c,dK b.1.al,dK b.1.f]); let k:=[bC [Cl.clo 105 [Cap.ptr 1 0],Cl.d (dQ b.2.bad)],bC [Cl.d (dS b.2.ws.length (strs b.2.ws))]]; let l:=(dJ p.s.bits=dJ a.1.s.bits); let m:=(dJ p.s.c.a=dJ a.1.s.c.a); let n:=(dJ p.s.c.b=dJ a.1.s.c.b); let o:=(dJ p.s.c.c=dJ a.1.s.c.c); let r:=(dJ p.s.c.d=dJ a.1.s.c.d); let s:=(dJ p.s.tw=dJ a.1.s.tw); let t:=(dJ p.s.th=dJ a.1.s.th); let u:=(p.s.ord.length=a.1.s.ord.length); let v:=(p.s.ops.length=a.1.s.ops.length); let w:=(dJ p.part=dJ a.1.part); let x:=(is p.s.ord=is a.1.s.ord); let y:=(ops p.s.ops=ops a.1.s.ops); let z:=((l∧m∧n∧o∧r∧s∧t∧u∧(p.s.ims.length=a.1.s.ims.length)∧v∧w∧(dJ p.w=dJ a.1.w)∧(dJ p.h=dJ a.1.h)∧(p.px.length+1=a.1.px.length)∧True)∧x∧(ims p.s.ims=ims a.1.s.ims)∧y∧((pxs p.px)++g=pxs a.1.px)∧True); let h:=((pxs p.px)++g); let A:=(Im.ds (imOf p.w p.h (zQk h))); let B:=((dQ true=dQ a.2)∧True); tU7 ((AnsG prog 106 2 [aPz] [bC [Cl.clo 105 [Cap.ptr 1 0],Cl.d (dQ q.bad)],bC [Cl.d (dS q.ws.length (strs q.ws))]] ⟨AV.agg [cK b.1.a,cK b.1.b,cK b.1.c,cK b.1.al,cK b.1.f],k,false⟩)∧True∧(zZk 5 10 p.px.length 1 (pxs p.px) g)∧tU3 ((true=true)∧True∧(AnsG prog 107 2 [aPz] k ⟨AV.one (Cl.d (dQ (c.ws.isEmpty && !c.bad))),[bC [Cl.clo 105 [Cap.ptr 1 0],Cl.d (dQ d.bad)],bC [Cl.d (dS d.ws.length (strs d.ws))]],false⟩)∧True∧((j=true→True∧(((dQ false=dQ a.2)∧True)∧z)∧zQu ⟨AV.one e,f,false⟩)∧(j=false→tU4 ((p.px.length+1≤maxLen)∧tU2 (tU8 ((true=true)∧((i=true→tU4 (tU8 ((Ans prog 108 [rJ p.w,rJ p.h,RV.d (dS (p.px.length+1) h)] (RV.tup [(imR (imOf p.w p.h (zQk h))),RV.d (dQ (ofOk p.w p.h (p.px.length+1)))]))∧tU6 ((true=true)∧tU8 ((zZk 28 272 p.s.ims.length 1 (ims p.s.ims) A)∧tU4 ((true=true)∧tU5 (tU8 ((B∧((l∧m∧n∧o∧r∧s∧t∧u∧(p.s.ims.length+1=a.1.s.ims.length)∧v∧w∧(dJ 0=dJ a.1.w)∧(dJ 0=dJ a.1.h)∧(0=a.1.px.length)∧True)∧x∧((ims p.s.ims)++A=ims a.1.s.ims)∧y∧([]=pxs a.1.px)∧True))∧zQu ⟨AV.one e,f,false⟩))))))))∧(i=false→True∧(B∧z)∧zQu ⟨AV.one e,f,false⟩))))))))))) ?_
  delta tU2 tU3 tU4 tU5 tU6 tU7 tU8 dJ dK dQ cK wK dS rJ aPz bC
  simp only [sS,ppC,ppE]
  simp only [zZM,zQM,zZx,zZe,zZd,zQE,zQX]
  clear hwf hbx
  have aI:=image_Of_dat' p.w p.h (p.px++[(pixQ q).1])
  have pl:(p.px++[(pixQ q).1]).length=p.px.length+1:=by simp
  have pe:pxs p.px++[DV.int .u16 (pixQ q).1.a,DV.int .u16 (pixQ q).1.b,DV.int .u16 (pixQ q).1.c,DV.int .u16 (pixQ q).1.al,DV.int .u16 (pixQ q).1.f]=pxs (p.px++[(pixQ q).1]):=by simp [pxs,Px.ds]
  have w1:IntKind.wrap .i64 (p.w*p.h)=p.w*p.h:=IntWalk.i64_in _ ⟨by omega,by omega⟩
  simp only [pe,zZd,w1]
  rw [pl] at aI
  refine ⟨(by (first | exact zQp _ (by repeat (first | assumption | apply zQb | apply zQc | apply zQe | apply zQd)) | exact zQn _ (by repeat (first | assumption | apply zQb | apply zQc | apply zQe | apply zQd)) | exact zQl _ (by repeat (first | assumption | apply zQb | apply zQc | apply zQe | apply zQd)) | exact zQm _ | exact zQs _ (by repeat (first | assumption | apply zQb | apply zQc | apply zQe | apply zQd)) | exact zQv _ (by repeat (first | assumption | apply zQb | apply zQc | apply zQe | apply zQd)) | exact zQx _ (by repeat (first | assumption | apply zQb | apply zQc | apply zQe | apply zQd)) | exact zQw _ (by repeat (first | assumption | apply zQb | apply zQc | apply zQe | apply zQd)))),⟨zZI _,rfl,by unfold maxLen; omega,by omega⟩,(by (first | exact zQp _ (by repeat (first | assumption | apply zQb | apply zQc | apply zQe | apply zQd)) | exact zQn _ (by repeat (first | assumption | apply zQb | apply zQc | apply zQe | apply zQd)) | exact zQl _ (by repeat (first | assumption | apply zQb | apply zQc | apply zQe | apply zQd)) | exact zQm _ | exact zQs _ (by repeat (first | assumption | apply zQb | apply zQc | apply zQe | apply zQd)) | exact zQv _ (by repeat (first | assumption | apply zQb | apply zQc | apply zQe | apply zQd)) | exact zQx _ (by repeat (first | assumption | apply zQb | apply zQc | apply zQe | apply zQd)) | exact zQw _ (by repeat (first | assumption | apply zQb | apply zQc | apply zQe | apply zQd)))),fun h=>?_,fun h=>⟨by unfold maxLen; omega,fun h2=>⟨aI,⟨zZ2 _,Im.ds_len _,by unfold maxLen; omega,by omega⟩,?_⟩,fun h2=>?_⟩⟩
  ·have e:zZu p q=({ p with px:=p.px++[(pixQ q).1] },false):=by unfold zZu cmpQ; rw [if_neg (by rw [h]; decide)]
   rw [e]; ((repeat' apply And.intro) <;> first | rfl | trivial | (simp only [List.length_append,List.length_cons,List.length_nil]; done) | (simp [ims]; done) | (simp [ops]; done) | (simp [ops,Oq.cells]; done) | exact zQR _ | (simp [pxs]; done))
  ·have h2:(p.px.length:Int)+1=p.w*p.h:=by simpa using h2
   have e:zZu p q=(⟨{ p.s with ims:=p.s.ims++[imOf p.w p.h (p.px++[(pixQ q).1])] },p.part,0,0,[]⟩,true):=by unfold zZu cmpQ; rw [if_pos h,if_pos h2]
   rw [e]; ((repeat' apply And.intro) <;> first | rfl | trivial | (simp only [List.length_append,List.length_cons,List.length_nil]; done) | (simp [ims]; done) | (simp [ops]; done) | (simp [ops,Oq.cells]; done) | exact zQR _ | (simp [pxs]; done))
  ·have h2:¬(p.px.length:Int)+1=p.w*p.h:=by simpa using h2
   have e:zZu p q=({ p with px:=p.px++[(pixQ q).1] },true):=by unfold zZu cmpQ; rw [if_pos h,if_neg h2]
   rw [e]; ((repeat' apply And.intro) <;> first | rfl | trivial | (simp only [List.length_append,List.length_cons,List.length_nil]; done) | (simp [ims]; done) | (simp [ops]; done) | (simp [ops,Oq.cells]; done) | exact zQR _ | (simp [pxs]; done))
theorem zJ5 (p:PP) (q:LQ) (w:Lb) (hq:okQ q) (hx:p.px.length≤68719476736) (hi:p.s.ims.length≤68719476736) (hp:p.s.ops.length≤68719476736) (hn:p.s.ord.length≤68719476736) (hf:0≤p.w*p.h∧p.w*p.h≤16777216) (hd:0≤p.part∧p.part≤5):AnsG prog 75 1 [aPz,AV.one (Cl.ptr 1 0),AV.one (Cl.d (DV.str (toS w)))] [Bx.cells (ppC p p.part 2),bC [Cl.clo 105 [Cap.ptr 6 0],Cl.d (dQ q.bad)],Bx.row 3 1 (is p.s.ord),Bx.row 43 28 (ims p.s.ims),Bx.row 51 12 (ops p.s.ops),Bx.row 37 5 (pxs p.px),bC [Cl.d (dS q.ws.length (strs q.ws))]] ⟨AV.one (Cl.d (dQ ((zXb p q (ofS (toS w))).2))),[Bx.cells (ppC ((zXb p q (ofS (toS w))).1) (((zXb p q (ofS (toS w))).1).part) 1),Bx.row 3 1 (is ((zXb p q (ofS (toS w))).1).s.ord),Bx.row 43 28 (ims ((zXb p q (ofS (toS w))).1).s.ims),Bx.row 51 12 (ops ((zXb p q (ofS (toS w))).1).s.ops),Bx.row 37 5 (pxs ((zXb p q (ofS (toS w))).1).px)],false⟩:=
 zQz (Γ:=jQE) Ann.leaf zQy Tryz.func75 rfl (Nat.le_of_ble_eq_true rfl) rfl fun hwf hbx=>by
  refine Eq.mpr (by kernel_rfl:_=(let f:=(numQ (reQ q) 0 255); let b:=[Cap.ptr 1 0]; let a:=(zXb p q (ofS (toS w))).1; let e:=(reQ f.2); let g:=(numQ (reQ q) 0 4294967295); let m:=(zXb p q (ofS (toS w))).2; let h:=[Bx.cells (ppC a a.part 1),Bx.row 3 1 (is a.s.ord),Bx.row 43 28 (ims a.s.ims),Bx.row 51 12 (ops a.s.ops),Bx.row 37 5 (pxs a.px)]; let c:=(numQ (reQ g.2) 0 4294967295); let n:=(zZH (reQ c.2)); let F:=((reQ c.2).ws.isEmpty && !(reQ c.2).bad); let i:=(Cl.d (dQ m)); let j:=(numQ (reQ q) (-2147483648) 2147483647); let k:=(numQ (reQ j.2) (-2147483648) 2147483647); let l:=(numQ (reQ k.2) (-2147483648) 2147483647); let d:=(numQ (reQ l.2) (-2147483648) 2147483647); let o:=(zZH (reQ d.2)); let G:=((reQ d.2).ws.isEmpty && !(reQ d.2).bad); let r:=[bC [Cl.clo 105 b,Cl.d (dQ q.bad)],bC [Cl.d (dS q.ws.length (strs q.ws))]]; let H:=[bC [Cl.clo 105 b,Cl.d (dQ f.2.bad)],bC [Cl.d (dS f.2.ws.length (strs f.2.ws))]]; let I:=(dJ p.s.c.a=dJ a.s.c.a); let J:=(dJ p.s.c.b=dJ a.s.c.b); let K:=(dJ p.s.c.c=dJ a.s.c.c); let L:=(dJ p.s.c.d=dJ a.s.c.d); let M:=(dJ p.s.tw=dJ a.s.tw); let N:=(dJ p.s.th=dJ a.s.th); let s:=(p.s.ord.length=a.s.ord.length); let t:=(p.s.ims.length=a.s.ims.length); let u:=(p.s.ops.length=a.s.ops.length); let v:=(dJ (wK (p.part+1))=dJ a.part); let x:=(dJ p.w=dJ a.w); let y:=(dJ p.h=dJ a.h); let z:=(p.px.length=a.px.length); let A:=(is p.s.ord=is a.s.ord); let B:=(ims p.s.ims=ims a.s.ims); let C:=(ops p.s.ops=ops a.s.ops); let D:=(pxs p.px=pxs a.px); let O:=(((dJ f.1=dJ a.s.bits)∧I∧J∧K∧L∧M∧N∧s∧t∧u∧v∧x∧y∧z∧True)∧A∧B∧C∧D∧True); let E:=((dQ false=dQ m)∧True); let P:=[bC [Cl.clo 105 b,Cl.d (dQ j.2.bad)],bC [Cl.d (dS j.2.ws.length (strs j.2.ws))]]; let Q:=[bC [Cl.clo 105 b,Cl.d (dQ k.2.bad)],bC [Cl.d (dS k.2.ws.length (strs k.2.ws))]]; let R:=[bC [Cl.clo 105 b,Cl.d (dQ l.2.bad)],bC [Cl.d (dS l.2.ws.length (strs l.2.ws))]]; let S:=[bC [Cl.clo 105 b,Cl.d (dQ d.2.bad)],bC [Cl.d (dS d.2.ws.length (strs d.2.ws))]]; let T:=(dJ p.s.bits=dJ a.s.bits); let U:=((T∧(dJ j.1=dJ a.s.c.a)∧(dJ k.1=dJ a.s.c.b)∧(dJ l.1=dJ a.s.c.c)∧(dJ d.1=dJ a.s.c.d)∧M∧N∧s∧t∧u∧v∧x∧y∧z∧True)∧A∧B∧C∧D∧True); let V:=[bC [Cl.clo 105 b,Cl.d (dQ g.2.bad)],bC [Cl.d (dS g.2.ws.length (strs g.2.ws))]]; let W:=[bC [Cl.clo 105 b,Cl.d (dQ c.2.bad)],bC [Cl.d (dS c.2.ws.length (strs c.2.ws))]]; let X:=((T∧I∧J∧K∧L∧(dJ g.1=dJ a.s.tw)∧(dJ c.1=dJ a.s.th)∧s∧t∧u∧v∧x∧y∧z∧True)∧A∧B∧C∧D∧True); True∧tU8 (tU8 (((p.part==0)=true→tU2 ((AnsG prog 109 2 [aPz] r ⟨aJ f.1,H,false⟩)∧tU7 ((((toS w).toList==(⟨#[98,105,116,115]⟩:ByteArray).toList)=true→True∧(AnsG prog 107 2 [aPz] H ⟨AV.one (Cl.d (dQ (e.ws.isEmpty && !e.bad))),[bC [Cl.clo 105 b,Cl.d (dQ (zZH e).bad)],bC [Cl.d (dS (zZH e).ws.length (strs (zZH e).ws))]],false⟩)∧tU2 ((((dQ (e.ws.isEmpty && !e.bad)=dQ m)∧True)∧O)∧zQu ⟨AV.one i,h,false⟩))∧(((toS w).toList==(⟨#[98,105,116,115]⟩:ByteArray).toList)=(!true)→tU2 ((E∧O)∧zQu ⟨AV.one i,h,false⟩)))))∧((p.part==0)=false→tU2 (((p.part==1)=true→tU2 ((AnsG prog 110 2 [aPz] r ⟨aJ j.1,P,false⟩)∧True∧(AnsG prog 110 2 [aPz] P ⟨aJ k.1,Q,false⟩)∧True∧(AnsG prog 110 2 [aPz] Q ⟨aJ l.1,R,false⟩)∧True∧(AnsG prog 110 2 [aPz] R ⟨aJ d.1,S,false⟩)∧tU8 ((((toS w).toList==(⟨#[99,97,110,118,97,115]⟩:ByteArray).toList)=true→True∧(AnsG prog 107 2 [aPz] S ⟨AV.one (Cl.d (dQ G)),[bC [Cl.clo 105 b,Cl.d (dQ o.bad)],bC [Cl.d (dS o.ws.length (strs o.ws))]],false⟩)∧tU2 ((((dQ G=dQ m)∧True)∧U)∧zQu ⟨AV.one i,h,false⟩))∧(((toS w).toList==(⟨#[99,97,110,118,97,115]⟩:ByteArray).toList)=(!true)→tU2 ((E∧U)∧zQu ⟨AV.one i,h,false⟩)))))∧((p.part==1)=false→tU3 ((AnsG prog 111 2 [aPz] r ⟨aJ g.1,V,false⟩)∧True∧(AnsG prog 111 2 [aPz] V ⟨aJ c.1,W,false⟩)∧tU3 (tU8 ((((toS w).toList==(⟨#[116,105,108,101,115]⟩:ByteArray).toList)=true→True∧(AnsG prog 107 2 [aPz] W ⟨AV.one (Cl.d (dQ F)),[bC [Cl.clo 105 b,Cl.d (dQ n.bad)],bC [Cl.d (dS n.ws.length (strs n.ws))]],false⟩)∧tU2 ((((dQ F=dQ m)∧True)∧X)∧zQu ⟨AV.one i,h,false⟩))∧(((toS w).toList==(⟨#[116,105,108,101,115]⟩:ByteArray).toList)=(!true)→tU2 ((E∧X)∧zQu ⟨AV.one i,h,false⟩)))))))))))) ?_
  delta tU2 tU3 tU7 tU8 dJ dQ wK dS aJ aPz bC
  simp only [sS,ppC,ppE]
  simp only [zZM,zQM,zZx,zZe,zZd,zQE,zQX]
  clear hwf hbx
  have lb:(⟨#[98,105,116,115]⟩:ByteArray)=toS zX3:=rfl
  have lc:(⟨#[99,97,110,118,97,115]⟩:ByteArray)=toS zZw:=rfl
  have lt:(⟨#[116,105,108,101,115]⟩:ByteArray)=toS zZ3:=rfl
  have li:(⟨#[105,109,97,103,101]⟩:ByteArray)=toS zQP:=rfl
  have ld:(⟨#[100,114,97,119]⟩:ByteArray)=toS zZV:=rfl
  have lu:(⟨#[112,117,115,104]⟩:ByteArray)=toS zZ0:=rfl
  have lo:(⟨#[112,111,112]⟩:ByteArray)=toS sPop:=rfl
  have lr:(⟨#[111,114,100,101,114]⟩:ByteArray)=toS zZj:=rfl
  have ls:(⟨#[115,111,108,105,100]⟩:ByteArray)=toS zQN:=rfl
  have w1:IntKind.wrap .i64 (p.part+1)=p.part+1:=IntWalk.i64_in _ ⟨by omega,by omega⟩
  simp only [lb,lc,lt,zJG,decide_eq_true_eq,decide_eq_false_iff_not,w1,beq_iff_eq,beq_eq_false_iff_ne]
  refine ⟨fun h1=>⟨(by (first | exact zQp _ (by repeat (first | assumption | apply zQb | apply zQc | apply zQe | apply zQd)) | exact zQn _ (by repeat (first | assumption | apply zQb | apply zQc | apply zQe | apply zQd)) | exact zQl _ (by repeat (first | assumption | apply zQb | apply zQc | apply zQe | apply zQd)) | exact zQm _ | exact zQs _ (by repeat (first | assumption | apply zQb | apply zQc | apply zQe | apply zQd)) | exact zQv _ (by repeat (first | assumption | apply zQb | apply zQc | apply zQe | apply zQd)) | exact zQx _ (by repeat (first | assumption | apply zQb | apply zQc | apply zQe | apply zQd)) | exact zQw _ (by repeat (first | assumption | apply zQb | apply zQc | apply zQe | apply zQd)))),fun h2=>⟨(by (first | exact zQp _ (by repeat (first | assumption | apply zQb | apply zQc | apply zQe | apply zQd)) | exact zQn _ (by repeat (first | assumption | apply zQb | apply zQc | apply zQe | apply zQd)) | exact zQl _ (by repeat (first | assumption | apply zQb | apply zQc | apply zQe | apply zQd)) | exact zQm _ | exact zQs _ (by repeat (first | assumption | apply zQb | apply zQc | apply zQe | apply zQd)) | exact zQv _ (by repeat (first | assumption | apply zQb | apply zQc | apply zQe | apply zQd)) | exact zQx _ (by repeat (first | assumption | apply zQb | apply zQc | apply zQe | apply zQd)) | exact zQw _ (by repeat (first | assumption | apply zQb | apply zQc | apply zQe | apply zQd)))),?_⟩,fun h2=>?_⟩,fun h1=>⟨fun h3=>⟨(by (first | exact zQp _ (by repeat (first | assumption | apply zQb | apply zQc | apply zQe | apply zQd)) | exact zQn _ (by repeat (first | assumption | apply zQb | apply zQc | apply zQe | apply zQd)) | exact zQl _ (by repeat (first | assumption | apply zQb | apply zQc | apply zQe | apply zQd)) | exact zQm _ | exact zQs _ (by repeat (first | assumption | apply zQb | apply zQc | apply zQe | apply zQd)) | exact zQv _ (by repeat (first | assumption | apply zQb | apply zQc | apply zQe | apply zQd)) | exact zQx _ (by repeat (first | assumption | apply zQb | apply zQc | apply zQe | apply zQd)) | exact zQw _ (by repeat (first | assumption | apply zQb | apply zQc | apply zQe | apply zQd)))),(by (first | exact zQp _ (by repeat (first | assumption | apply zQb | apply zQc | apply zQe | apply zQd)) | exact zQn _ (by repeat (first | assumption | apply zQb | apply zQc | apply zQe | apply zQd)) | exact zQl _ (by repeat (first | assumption | apply zQb | apply zQc | apply zQe | apply zQd)) | exact zQm _ | exact zQs _ (by repeat (first | assumption | apply zQb | apply zQc | apply zQe | apply zQd)) | exact zQv _ (by repeat (first | assumption | apply zQb | apply zQc | apply zQe | apply zQd)) | exact zQx _ (by repeat (first | assumption | apply zQb | apply zQc | apply zQe | apply zQd)) | exact zQw _ (by repeat (first | assumption | apply zQb | apply zQc | apply zQe | apply zQd)))),(by (first | exact zQp _ (by repeat (first | assumption | apply zQb | apply zQc | apply zQe | apply zQd)) | exact zQn _ (by repeat (first | assumption | apply zQb | apply zQc | apply zQe | apply zQd)) | exact zQl _ (by repeat (first | assumption | apply zQb | apply zQc | apply zQe | apply zQd)) | exact zQm _ | exact zQs _ (by repeat (first | assumption | apply zQb | apply zQc | apply zQe | apply zQd)) | exact zQv _ (by repeat (first | assumption | apply zQb | apply zQc | apply zQe | apply zQd)) | exact zQx _ (by repeat (first | assumption | apply zQb | apply zQc | apply zQe | apply zQd)) | exact zQw _ (by repeat (first | assumption | apply zQb | apply zQc | apply zQe | apply zQd)))),(by (first | exact zQp _ (by repeat (first | assumption | apply zQb | apply zQc | apply zQe | apply zQd)) | exact zQn _ (by repeat (first | assumption | apply zQb | apply zQc | apply zQe | apply zQd)) | exact zQl _ (by repeat (first | assumption | apply zQb | apply zQc | apply zQe | apply zQd)) | exact zQm _ | exact zQs _ (by repeat (first | assumption | apply zQb | apply zQc | apply zQe | apply zQd)) | exact zQv _ (by repeat (first | assumption | apply zQb | apply zQc | apply zQe | apply zQd)) | exact zQx _ (by repeat (first | assumption | apply zQb | apply zQc | apply zQe | apply zQd)) | exact zQw _ (by repeat (first | assumption | apply zQb | apply zQc | apply zQe | apply zQd)))),fun h2=>⟨(by (first | exact zQp _ (by repeat (first | assumption | apply zQb | apply zQc | apply zQe | apply zQd)) | exact zQn _ (by repeat (first | assumption | apply zQb | apply zQc | apply zQe | apply zQd)) | exact zQl _ (by repeat (first | assumption | apply zQb | apply zQc | apply zQe | apply zQd)) | exact zQm _ | exact zQs _ (by repeat (first | assumption | apply zQb | apply zQc | apply zQe | apply zQd)) | exact zQv _ (by repeat (first | assumption | apply zQb | apply zQc | apply zQe | apply zQd)) | exact zQx _ (by repeat (first | assumption | apply zQb | apply zQc | apply zQe | apply zQd)) | exact zQw _ (by repeat (first | assumption | apply zQb | apply zQc | apply zQe | apply zQd)))),?_⟩,fun h2=>?_⟩,fun h3=>⟨(by (first | exact zQp _ (by repeat (first | assumption | apply zQb | apply zQc | apply zQe | apply zQd)) | exact zQn _ (by repeat (first | assumption | apply zQb | apply zQc | apply zQe | apply zQd)) | exact zQl _ (by repeat (first | assumption | apply zQb | apply zQc | apply zQe | apply zQd)) | exact zQm _ | exact zQs _ (by repeat (first | assumption | apply zQb | apply zQc | apply zQe | apply zQd)) | exact zQv _ (by repeat (first | assumption | apply zQb | apply zQc | apply zQe | apply zQd)) | exact zQx _ (by repeat (first | assumption | apply zQb | apply zQc | apply zQe | apply zQd)) | exact zQw _ (by repeat (first | assumption | apply zQb | apply zQc | apply zQe | apply zQd)))),(by (first | exact zQp _ (by repeat (first | assumption | apply zQb | apply zQc | apply zQe | apply zQd)) | exact zQn _ (by repeat (first | assumption | apply zQb | apply zQc | apply zQe | apply zQd)) | exact zQl _ (by repeat (first | assumption | apply zQb | apply zQc | apply zQe | apply zQd)) | exact zQm _ | exact zQs _ (by repeat (first | assumption | apply zQb | apply zQc | apply zQe | apply zQd)) | exact zQv _ (by repeat (first | assumption | apply zQb | apply zQc | apply zQe | apply zQd)) | exact zQx _ (by repeat (first | assumption | apply zQb | apply zQc | apply zQe | apply zQd)) | exact zQw _ (by repeat (first | assumption | apply zQb | apply zQc | apply zQe | apply zQd)))),fun h2=>⟨(by (first | exact zQp _ (by repeat (first | assumption | apply zQb | apply zQc | apply zQe | apply zQd)) | exact zQn _ (by repeat (first | assumption | apply zQb | apply zQc | apply zQe | apply zQd)) | exact zQl _ (by repeat (first | assumption | apply zQb | apply zQc | apply zQe | apply zQd)) | exact zQm _ | exact zQs _ (by repeat (first | assumption | apply zQb | apply zQc | apply zQe | apply zQd)) | exact zQv _ (by repeat (first | assumption | apply zQb | apply zQc | apply zQe | apply zQd)) | exact zQx _ (by repeat (first | assumption | apply zQb | apply zQc | apply zQe | apply zQd)) | exact zQw _ (by repeat (first | assumption | apply zQb | apply zQc | apply zQe | apply zQd)))),?_⟩,fun h2=>?_⟩⟩⟩
  ·have e:zXb p q w=({ p with part:=p.part+1,s:={ p.s with bits:=(byQ q).1 } },cmpQ (byQ q).2):=by unfold zXb; rw [if_pos h1,decide_eq_true h2]; rfl
   rw [e]; ((repeat' apply And.intro) <;> first | rfl | trivial | (simp only [List.length_append,List.length_cons,List.length_nil]; done) | (simp [ims]; done) | (simp [ops]; done) | (simp [ops,Oq.cells]; done) | exact zQR _ | (simp [pxs]; done))
  ·have e:zXb p q w=({ p with part:=p.part+1,s:={ p.s with bits:=(byQ q).1 } },false):=by unfold zXb; rw [if_pos h1,decide_eq_false h2]; rfl
   rw [e]; ((repeat' apply And.intro) <;> first | rfl | trivial | (simp only [List.length_append,List.length_cons,List.length_nil]; done) | (simp [ims]; done) | (simp [ops]; done) | (simp [ops,Oq.cells]; done) | exact zQR _ | (simp [pxs]; done))
  ·have e:zXb p q w=({ p with part:=p.part+1,s:={ p.s with c:=⟨(plQ q).1,(plQ (plQ q).2).1,(plQ (plQ (plQ q).2).2).1,(plQ (plQ (plQ (plQ q).2).2).2).1⟩ } },cmpQ (plQ (plQ (plQ (plQ q).2).2).2).2):=by unfold zXb; rw [if_neg h1,if_pos h3,decide_eq_true h2]; rfl
   rw [e]; ((repeat' apply And.intro) <;> first | rfl | trivial | (simp only [List.length_append,List.length_cons,List.length_nil]; done) | (simp [ims]; done) | (simp [ops]; done) | (simp [ops,Oq.cells]; done) | exact zQR _ | (simp [pxs]; done))
  ·have e:zXb p q w=({ p with part:=p.part+1,s:={ p.s with c:=⟨(plQ q).1,(plQ (plQ q).2).1,(plQ (plQ (plQ q).2).2).1,(plQ (plQ (plQ (plQ q).2).2).2).1⟩ } },false):=by unfold zXb; rw [if_neg h1,if_pos h3,decide_eq_false h2]; rfl
   rw [e]; ((repeat' apply And.intro) <;> first | rfl | trivial | (simp only [List.length_append,List.length_cons,List.length_nil]; done) | (simp [ims]; done) | (simp [ops]; done) | (simp [ops,Oq.cells]; done) | exact zQR _ | (simp [pxs]; done))
  ·have e:zXb p q w=({ p with part:=p.part+1,s:={ p.s with tw:=(numQ q 0 4294967295).1,th:=(numQ (numQ q 0 4294967295).2 0 4294967295).1 } },cmpQ (numQ (numQ q 0 4294967295).2 0 4294967295).2):=by unfold zXb; rw [if_neg h1,if_neg h3,decide_eq_true h2]; rfl
   rw [e]; ((repeat' apply And.intro) <;> first | rfl | trivial | (simp only [List.length_append,List.length_cons,List.length_nil]; done) | (simp [ims]; done) | (simp [ops]; done) | (simp [ops,Oq.cells]; done) | exact zQR _ | (simp [pxs]; done))
  ·have e:zXb p q w=({ p with part:=p.part+1,s:={ p.s with tw:=(numQ q 0 4294967295).1,th:=(numQ (numQ q 0 4294967295).2 0 4294967295).1 } },false):=by unfold zXb; rw [if_neg h1,if_neg h3,decide_eq_false h2]; rfl
   rw [e]; ((repeat' apply And.intro) <;> first | rfl | trivial | (simp only [List.length_append,List.length_cons,List.length_nil]; done) | (simp [ims]; done) | (simp [ops]; done) | (simp [ops,Oq.cells]; done) | exact zQR _ | (simp [pxs]; done))
theorem zJk (p:PP) (q:LQ) (w:Lb) (hq:okQ q) (hx:p.px.length≤68719476736) (hi:p.s.ims.length≤68719476736) (hp:p.s.ops.length≤68719476736) (hn:p.s.ord.length≤68719476736) (hf:0≤p.w*p.h∧p.w*p.h≤16777216) (hd:0≤p.part∧p.part≤5):AnsG prog 77 1 [aPz,AV.one (Cl.ptr 1 0),AV.one (Cl.d (DV.str (toS w)))] [Bx.cells (ppC p p.part 2),bC [Cl.clo 105 [Cap.ptr 6 0],Cl.d (dQ q.bad)],Bx.row 3 1 (is p.s.ord),Bx.row 43 28 (ims p.s.ims),Bx.row 51 12 (ops p.s.ops),Bx.row 37 5 (pxs p.px),bC [Cl.d (dS q.ws.length (strs q.ws))]] ⟨AV.one (Cl.d (dQ ((zZq p q (ofS (toS w))).2))),[Bx.cells (ppC ((zZq p q (ofS (toS w))).1) (((zZq p q (ofS (toS w))).1).part) 1),Bx.row 3 1 (is ((zZq p q (ofS (toS w))).1).s.ord),Bx.row 43 28 (ims ((zZq p q (ofS (toS w))).1).s.ims),Bx.row 51 12 (ops ((zZq p q (ofS (toS w))).1).s.ops),Bx.row 37 5 (pxs ((zZq p q (ofS (toS w))).1).px)],false⟩:=
 zQz (Γ:=jQE) Ann.leaf zQy Tryz.func77 rfl (Nat.le_of_ble_eq_true rfl) rfl fun hwf hbx=>by
  refine Eq.mpr (by kernel_rfl:_=(let B:=(decide ((p.s.ims.length:Int)≥64)); let e:=[Cap.ptr 1 0]; let c:=(sizQ (reQ q)); let f:=(reQ c.2); let g:=(zZH f); let C:=(f.ws.isEmpty && !f.bad); let a:=(zZq p q (ofS (toS w))); let h:=(Cl.d (dQ a.2)); let b:=(pixQ f); let D:=(zQi c.1.1 c.1.2 b.1); let i:=[Bx.cells (ppC a.1 a.1.part 1),Bx.row 3 1 (is a.1.s.ord),Bx.row 43 28 (ims a.1.s.ims),Bx.row 51 12 (ops a.1.s.ops),Bx.row 37 5 (pxs a.1.px)]; let d:=(reQ b.2); let j:=(dJ p.s.bits=dJ a.1.s.bits); let k:=(dJ p.s.c.a=dJ a.1.s.c.a); let l:=(dJ p.s.c.b=dJ a.1.s.c.b); let m:=(dJ p.s.c.c=dJ a.1.s.c.c); let n:=(dJ p.s.c.d=dJ a.1.s.c.d); let o:=(dJ p.s.tw=dJ a.1.s.tw); let r:=(dJ p.s.th=dJ a.1.s.th); let s:=(p.s.ord.length=a.1.s.ord.length); let E:=(p.s.ims.length=a.1.s.ims.length); let t:=(p.s.ops.length=a.1.s.ops.length); let u:=(dJ p.part=dJ a.1.part); let F:=(dJ p.w=dJ a.1.w); let G:=(dJ p.h=dJ a.1.h); let v:=(p.px.length=a.1.px.length); let x:=(is p.s.ord=is a.1.s.ord); let H:=(ims p.s.ims=ims a.1.s.ims); let y:=(ops p.s.ops=ops a.1.s.ops); let z:=(pxs p.px=pxs a.1.px); let I:=(dJ c.1.1); let J:=(dJ c.1.2); let A:=[bC [Cl.clo 105 e,Cl.d (dQ c.2.bad)],bC [Cl.d (dS c.2.ws.length (strs c.2.ws))]]; let K:=[bC [Cl.clo 105 e,Cl.d (dQ b.2.bad)],bC [Cl.d (dS b.2.ws.length (strs b.2.ws))]]; let L:=(Im.ds D); tU6 ((p.s.ims.length≤maxLen)∧True∧((B=true→True∧(((dQ false=dQ a.2)∧True)∧((j∧k∧l∧m∧n∧o∧r∧s∧E∧t∧u∧F∧G∧v∧True)∧x∧H∧y∧z∧True))∧zQu ⟨AV.one h,i,false⟩)∧(B=false→True∧(AnsG prog 113 2 [aPz] [bC [Cl.clo 105 e,Cl.d (dQ q.bad)],bC [Cl.d (dS q.ws.length (strs q.ws))]] ⟨AV.tup [AV.one (Cl.d I),AV.one (Cl.d J)],A,false⟩)∧tU7 ((((toS w).toList==(⟨#[105,109,97,103,101]⟩:ByteArray).toList)=true→tU3 (tU8 ((AnsG prog 107 2 [aPz] A ⟨AV.one (Cl.d (dQ C)),[bC [Cl.clo 105 e,Cl.d (dQ g.bad)],bC [Cl.d (dS g.ws.length (strs g.ws))]],false⟩)∧True∧(((dQ C=dQ a.2)∧True)∧((j∧k∧l∧m∧n∧o∧r∧s∧E∧t∧u∧(dJ c.1.1=dJ a.1.w)∧(dJ c.1.2=dJ a.1.h)∧v∧True)∧x∧H∧y∧z∧True))∧zQu ⟨AV.one h,i,false⟩)))∧(((toS w).toList==(⟨#[105,109,97,103,101]⟩:ByteArray).toList)=false→True∧tU8 ((AnsG prog 106 2 [aPz] A ⟨AV.agg [cK b.1.a,cK b.1.b,cK b.1.c,cK b.1.al,cK b.1.f],K,false⟩)∧(Ans prog 114 [RV.d I,RV.d J,RV.agg [dK b.1.a,dK b.1.b,dK b.1.c,dK b.1.al,dK b.1.f]] (imR D))∧True∧(zZk 28 272 p.s.ims.length 1 (ims p.s.ims) L)∧tU4 ((true=true)∧True∧(AnsG prog 107 2 [aPz] K ⟨AV.one (Cl.d (dQ (d.ws.isEmpty && !d.bad))),[bC [Cl.clo 105 e,Cl.d (dQ (zZH d).bad)],bC [Cl.d (dS (zZH d).ws.length (strs (zZH d).ws))]],false⟩)∧True∧(((dQ (d.ws.isEmpty && !d.bad)=dQ a.2)∧True)∧((j∧k∧l∧m∧n∧o∧r∧s∧(p.s.ims.length+1=a.1.s.ims.length)∧t∧u∧F∧G∧v∧True)∧x∧((ims p.s.ims)++L=ims a.1.s.ims)∧y∧z∧True))∧zQu ⟨AV.one h,i,false⟩))))))))) ?_
  delta tU3 tU4 tU6 tU7 tU8 dJ dK dQ cK dS aPz bC
  simp only [sS,ppC,ppE]
  simp only [zZM,zQM,zZx,zZe,zZd,zQE,zQX]
  clear hwf hbx
  have lb:(⟨#[98,105,116,115]⟩:ByteArray)=toS zX3:=rfl
  have lc:(⟨#[99,97,110,118,97,115]⟩:ByteArray)=toS zZw:=rfl
  have lt:(⟨#[116,105,108,101,115]⟩:ByteArray)=toS zZ3:=rfl
  have li:(⟨#[105,109,97,103,101]⟩:ByteArray)=toS zQP:=rfl
  have ld:(⟨#[100,114,97,119]⟩:ByteArray)=toS zZV:=rfl
  have lu:(⟨#[112,117,115,104]⟩:ByteArray)=toS zZ0:=rfl
  have lo:(⟨#[112,111,112]⟩:ByteArray)=toS sPop:=rfl
  have lr:(⟨#[111,114,100,101,114]⟩:ByteArray)=toS zZj:=rfl
  have ls:(⟨#[115,111,108,105,100]⟩:ByteArray)=toS zQN:=rfl
  have aS:=image_Solid_dat' (sizQ q).1.1 (sizQ q).1.2 (pixQ (sizQ q).2).1
  simp only [li,zJG,decide_eq_true_eq,decide_eq_false_iff_not]
  refine ⟨by unfold maxLen; omega,fun h1=>?_,fun h1=>⟨(by (first | exact zQp _ (by repeat (first | assumption | apply zQb | apply zQc | apply zQe | apply zQd)) | exact zQn _ (by repeat (first | assumption | apply zQb | apply zQc | apply zQe | apply zQd)) | exact zQl _ (by repeat (first | assumption | apply zQb | apply zQc | apply zQe | apply zQd)) | exact zQm _ | exact zQs _ (by repeat (first | assumption | apply zQb | apply zQc | apply zQe | apply zQd)) | exact zQv _ (by repeat (first | assumption | apply zQb | apply zQc | apply zQe | apply zQd)) | exact zQx _ (by repeat (first | assumption | apply zQb | apply zQc | apply zQe | apply zQd)) | exact zQw _ (by repeat (first | assumption | apply zQb | apply zQc | apply zQe | apply zQd)))),fun h2=>⟨(by (first | exact zQp _ (by repeat (first | assumption | apply zQb | apply zQc | apply zQe | apply zQd)) | exact zQn _ (by repeat (first | assumption | apply zQb | apply zQc | apply zQe | apply zQd)) | exact zQl _ (by repeat (first | assumption | apply zQb | apply zQc | apply zQe | apply zQd)) | exact zQm _ | exact zQs _ (by repeat (first | assumption | apply zQb | apply zQc | apply zQe | apply zQd)) | exact zQv _ (by repeat (first | assumption | apply zQb | apply zQc | apply zQe | apply zQd)) | exact zQx _ (by repeat (first | assumption | apply zQb | apply zQc | apply zQe | apply zQd)) | exact zQw _ (by repeat (first | assumption | apply zQb | apply zQc | apply zQe | apply zQd)))),?_⟩,fun h2=>⟨(by (first | exact zQp _ (by repeat (first | assumption | apply zQb | apply zQc | apply zQe | apply zQd)) | exact zQn _ (by repeat (first | assumption | apply zQb | apply zQc | apply zQe | apply zQd)) | exact zQl _ (by repeat (first | assumption | apply zQb | apply zQc | apply zQe | apply zQd)) | exact zQm _ | exact zQs _ (by repeat (first | assumption | apply zQb | apply zQc | apply zQe | apply zQd)) | exact zQv _ (by repeat (first | assumption | apply zQb | apply zQc | apply zQe | apply zQd)) | exact zQx _ (by repeat (first | assumption | apply zQb | apply zQc | apply zQe | apply zQd)) | exact zQw _ (by repeat (first | assumption | apply zQb | apply zQc | apply zQe | apply zQd)))),aS,⟨zZ2 _,Im.ds_len _,by unfold maxLen; omega,by omega⟩,(by (first | exact zQp _ (by repeat (first | assumption | apply zQb | apply zQc | apply zQe | apply zQd)) | exact zQn _ (by repeat (first | assumption | apply zQb | apply zQc | apply zQe | apply zQd)) | exact zQl _ (by repeat (first | assumption | apply zQb | apply zQc | apply zQe | apply zQd)) | exact zQm _ | exact zQs _ (by repeat (first | assumption | apply zQb | apply zQc | apply zQe | apply zQd)) | exact zQv _ (by repeat (first | assumption | apply zQb | apply zQc | apply zQe | apply zQd)) | exact zQx _ (by repeat (first | assumption | apply zQb | apply zQc | apply zQe | apply zQd)) | exact zQw _ (by repeat (first | assumption | apply zQb | apply zQc | apply zQe | apply zQd)))),?_⟩⟩⟩
  ·have e:zZq p q w=(p,false):=by unfold zZq; rw [if_pos (by omega)]
   rw [e]; ((repeat' apply And.intro) <;> first | rfl | trivial | (simp only [List.length_append,List.length_cons,List.length_nil]; done) | (simp [ims]; done) | (simp [ops]; done) | (simp [ops,Oq.cells]; done) | exact zQR _ | (simp [pxs]; done))
  ·have e:zZq p q w=({ p with w:=(sizQ q).1.1,h:=(sizQ q).1.2 },cmpQ (sizQ q).2):=by unfold zZq; rw [if_neg (by omega),if_pos h2]
   rw [e]; ((repeat' apply And.intro) <;> first | rfl | trivial | (simp only [List.length_append,List.length_cons,List.length_nil]; done) | (simp [ims]; done) | (simp [ops]; done) | (simp [ops,Oq.cells]; done) | exact zQR _ | (simp [pxs]; done))
  ·have e:zZq p q w=({ p with s:={ p.s with ims:=p.s.ims++[zQi (sizQ q).1.1 (sizQ q).1.2 (pixQ (sizQ q).2).1] } },cmpQ (pixQ (sizQ q).2).2):=by unfold zZq; rw [if_neg (by omega),if_neg h2]
   rw [e]; ((repeat' apply And.intro) <;> first | rfl | trivial | (simp only [List.length_append,List.length_cons,List.length_nil]; done) | (simp [ims]; done) | (simp [ops]; done) | (simp [ops,Oq.cells]; done) | exact zQR _ | (simp [pxs]; done))
theorem zKB (p:PP) (q:LQ) (w:Lb) (hq:okQ q) (hx:p.px.length≤68719476736) (hi:p.s.ims.length≤68719476736) (hp:p.s.ops.length≤68719476736) (hn:p.s.ord.length≤68719476736) (hf:0≤p.w*p.h∧p.w*p.h≤16777216) (hd:0≤p.part∧p.part≤5):AnsG prog 78 1 [aPz,AV.one (Cl.ptr 1 0),AV.one (Cl.d (DV.str (toS w)))] [Bx.cells (ppC p p.part 2),bC [Cl.clo 105 [Cap.ptr 6 0],Cl.d (dQ q.bad)],Bx.row 3 1 (is p.s.ord),Bx.row 43 28 (ims p.s.ims),Bx.row 51 12 (ops p.s.ops),Bx.row 37 5 (pxs p.px),bC [Cl.d (dS q.ws.length (strs q.ws))]] ⟨AV.one (Cl.d (dQ ((pOp p q (ofS (toS w))).2))),[Bx.cells (ppC ((pOp p q (ofS (toS w))).1) (((pOp p q (ofS (toS w))).1).part) 1),Bx.row 3 1 (is ((pOp p q (ofS (toS w))).1).s.ord),Bx.row 43 28 (ims ((pOp p q (ofS (toS w))).1).s.ims),Bx.row 51 12 (ops ((pOp p q (ofS (toS w))).1).s.ops),Bx.row 37 5 (pxs ((pOp p q (ofS (toS w))).1).px)],false⟩:=
 zQz (Γ:=jQE) Ann.leaf zQy Tryz.func78 rfl (Nat.le_of_ble_eq_true rfl) rfl fun hwf hbx=>by
  refine Eq.mpr (by kernel_rfl:_=(let t:=((reQ q).ws.isEmpty && !(reQ q).bad); let u:=(decide ((p.s.ops.length:Int)≥4096)); let d:=(ops p.s.ops); let e:=[Cap.ptr 1 0]; let v:=([dJ 3,dJ 0,dJ 0,dJ 0,dJ 0,dJ 0,dJ 0,dK 0,dJ 0,dJ 0,dQ false,dQ false]); let b:=(zZy (reQ q)); let l:=(reQ b.2); let m:=(zZH l); let x:=(l.ws.isEmpty && !l.bad); let c:=(zZB (reQ q)); let n:=(reQ c.2); let o:=(zZH n); let y:=(n.ws.isEmpty && !n.bad); let a:=(pOp p q (ofS (toS w))).1; let f:=(pOp p q (ofS (toS w))).2; let g:=[Bx.cells (ppC a a.part 1),Bx.row 3 1 (is a.s.ord),Bx.row 43 28 (ims a.s.ims),Bx.row 51 12 (ops a.s.ops),Bx.row 37 5 (pxs a.px)]; let h:=(Cl.d (dQ f)); let z:=(dJ p.s.bits=dJ a.s.bits); let A:=(dJ p.s.c.a=dJ a.s.c.a); let B:=(dJ p.s.c.b=dJ a.s.c.b); let C:=(dJ p.s.c.c=dJ a.s.c.c); let D:=(dJ p.s.c.d=dJ a.s.c.d); let E:=(dJ p.s.tw=dJ a.s.tw); let F:=(dJ p.s.th=dJ a.s.th); let G:=(p.s.ord.length=a.s.ord.length); let H:=(p.s.ims.length=a.s.ims.length); let I:=(dJ p.part=dJ a.part); let J:=(dJ p.w=dJ a.w); let K:=(dJ p.h=dJ a.h); let L:=(p.px.length=a.px.length); let i:=(is p.s.ord=is a.s.ord); let j:=(ims p.s.ims=ims a.s.ims); let k:=(pxs p.px=pxs a.px); let M:=(((dQ false=dQ f)∧True)∧((z∧A∧B∧C∧D∧E∧F∧G∧H∧(p.s.ops.length=a.s.ops.length)∧I∧J∧K∧L∧True)∧i∧j∧(ops p.s.ops=ops a.s.ops)∧k∧True)); let r:=[bC [Cl.clo 105 e,Cl.d (dQ q.bad)],bC [Cl.d (dS q.ws.length (strs q.ws))]]; let N:=[bC [Cl.clo 105 e,Cl.d (dQ c.2.bad)],bC [Cl.d (dS c.2.ws.length (strs c.2.ws))]]; let s:=(z∧A∧B∧C∧D∧E∧F∧G∧H∧(p.s.ops.length+1=a.s.ops.length)∧I∧J∧K∧L∧True); let O:=[bC [Cl.clo 105 e,Cl.d (dQ b.2.bad)],bC [Cl.d (dS b.2.ws.length (strs b.2.ws))]]; tU6 ((p.s.ops.length≤maxLen)∧True∧((u=true→True∧M∧zQu ⟨AV.one h,g,false⟩)∧(u=false→tU6 ((((toS w).toList==(⟨#[100,114,97,119]⟩:ByteArray).toList)=true→True∧(AnsG prog 115 2 [aPz] r ⟨AV.agg [cJ c.1.kind,cJ c.1.image,cJ c.1.x,cJ c.1.y,cJ c.1.mask,cJ c.1.mx,cJ c.1.my,cK c.1.opac,cJ c.1.oper,cJ c.1.mode,Cl.d (dQ c.1.iso),Cl.d (dQ c.1.kno)],N,false⟩)∧True∧tU8 ((zZk 12 88 p.s.ops.length 1 d (Oq.cells c.1))∧tU4 ((true=true)∧True∧(AnsG prog 107 2 [aPz] N ⟨AV.one (Cl.d (dQ y)),[bC [Cl.clo 105 e,Cl.d (dQ o.bad)],bC [Cl.d (dS o.ws.length (strs o.ws))]],false⟩)∧True∧(((dQ y=dQ f)∧True)∧(s∧i∧j∧(d++(Oq.cells c.1)=ops a.s.ops)∧k∧True))∧zQu ⟨AV.one h,g,false⟩)))∧(((toS w).toList==(⟨#[100,114,97,119]⟩:ByteArray).toList)=false→tU2 ((((toS w).toList==(⟨#[112,117,115,104]⟩:ByteArray).toList)=true→True∧(AnsG prog 116 2 [aPz] r ⟨AV.agg [cJ b.1.kind,cJ b.1.image,cJ b.1.x,cJ b.1.y,cJ b.1.mask,cJ b.1.mx,cJ b.1.my,cK b.1.opac,cJ b.1.oper,cJ b.1.mode,Cl.d (dQ b.1.iso),Cl.d (dQ b.1.kno)],O,false⟩)∧True∧tU8 ((zZk 12 88 p.s.ops.length 1 d (Oq.cells b.1))∧tU4 ((true=true)∧True∧(AnsG prog 107 2 [aPz] O ⟨AV.one (Cl.d (dQ x)),[bC [Cl.clo 105 e,Cl.d (dQ m.bad)],bC [Cl.d (dS m.ws.length (strs m.ws))]],false⟩)∧True∧(((dQ x=dQ f)∧True)∧(s∧i∧j∧(d++(Oq.cells b.1)=ops a.s.ops)∧k∧True))∧zQu ⟨AV.one h,g,false⟩)))∧(((toS w).toList==(⟨#[112,117,115,104]⟩:ByteArray).toList)=false→tU2 ((((toS w).toList==(⟨#[112,111,112]⟩:ByteArray).toList)=true→tU8 ((zZk 12 88 p.s.ops.length 1 d v)∧tU4 ((true=true)∧True∧(AnsG prog 107 2 [aPz] r ⟨AV.one (Cl.d (dQ t)),[bC [Cl.clo 105 e,Cl.d (dQ (zZH (reQ q)).bad)],bC [Cl.d (dS (zZH (reQ q)).ws.length (strs (zZH (reQ q)).ws))]],false⟩)∧True∧(((dQ t=dQ f)∧True)∧(s∧i∧j∧(d++v=ops a.s.ops)∧k∧True))∧zQu ⟨AV.one h,g,false⟩)))∧(((toS w).toList==(⟨#[112,111,112]⟩:ByteArray).toList)=false→True∧M∧zQu ⟨AV.one h,g,false⟩))))))))))) ?_
  delta tU2 tU4 tU6 tU8 dJ dK dQ cJ cK dS aPz bC
  simp only [sS,ppC,ppE]
  simp only [zZM,zQM,zZx,zZe,zZd,zQE,zQX]
  clear hwf hbx
  have lb:(⟨#[98,105,116,115]⟩:ByteArray)=toS zX3:=rfl
  have lc:(⟨#[99,97,110,118,97,115]⟩:ByteArray)=toS zZw:=rfl
  have lt:(⟨#[116,105,108,101,115]⟩:ByteArray)=toS zZ3:=rfl
  have li:(⟨#[105,109,97,103,101]⟩:ByteArray)=toS zQP:=rfl
  have ld:(⟨#[100,114,97,119]⟩:ByteArray)=toS zZV:=rfl
  have lu:(⟨#[112,117,115,104]⟩:ByteArray)=toS zZ0:=rfl
  have lo:(⟨#[112,111,112]⟩:ByteArray)=toS sPop:=rfl
  have lr:(⟨#[111,114,100,101,114]⟩:ByteArray)=toS zZj:=rfl
  have ls:(⟨#[115,111,108,105,100]⟩:ByteArray)=toS zQN:=rfl
  simp only [ld,lu,lo,zJG,decide_eq_true_eq,decide_eq_false_iff_not]
  refine ⟨by unfold maxLen; omega,fun h1=>?_,fun h1=>⟨fun h2=>⟨(by (first | exact zQp _ (by repeat (first | assumption | apply zQb | apply zQc | apply zQe | apply zQd)) | exact zQn _ (by repeat (first | assumption | apply zQb | apply zQc | apply zQe | apply zQd)) | exact zQl _ (by repeat (first | assumption | apply zQb | apply zQc | apply zQe | apply zQd)) | exact zQm _ | exact zQs _ (by repeat (first | assumption | apply zQb | apply zQc | apply zQe | apply zQd)) | exact zQv _ (by repeat (first | assumption | apply zQb | apply zQc | apply zQe | apply zQd)) | exact zQx _ (by repeat (first | assumption | apply zQb | apply zQc | apply zQe | apply zQd)) | exact zQw _ (by repeat (first | assumption | apply zQb | apply zQc | apply zQe | apply zQd)))),⟨zQ5 _,rfl,by unfold maxLen; omega,by omega⟩,(by (first | exact zQp _ (by repeat (first | assumption | apply zQb | apply zQc | apply zQe | apply zQd)) | exact zQn _ (by repeat (first | assumption | apply zQb | apply zQc | apply zQe | apply zQd)) | exact zQl _ (by repeat (first | assumption | apply zQb | apply zQc | apply zQe | apply zQd)) | exact zQm _ | exact zQs _ (by repeat (first | assumption | apply zQb | apply zQc | apply zQe | apply zQd)) | exact zQv _ (by repeat (first | assumption | apply zQb | apply zQc | apply zQe | apply zQd)) | exact zQx _ (by repeat (first | assumption | apply zQb | apply zQc | apply zQe | apply zQd)) | exact zQw _ (by repeat (first | assumption | apply zQb | apply zQc | apply zQe | apply zQd)))),?_⟩,fun h2=>⟨fun h3=>⟨(by (first | exact zQp _ (by repeat (first | assumption | apply zQb | apply zQc | apply zQe | apply zQd)) | exact zQn _ (by repeat (first | assumption | apply zQb | apply zQc | apply zQe | apply zQd)) | exact zQl _ (by repeat (first | assumption | apply zQb | apply zQc | apply zQe | apply zQd)) | exact zQm _ | exact zQs _ (by repeat (first | assumption | apply zQb | apply zQc | apply zQe | apply zQd)) | exact zQv _ (by repeat (first | assumption | apply zQb | apply zQc | apply zQe | apply zQd)) | exact zQx _ (by repeat (first | assumption | apply zQb | apply zQc | apply zQe | apply zQd)) | exact zQw _ (by repeat (first | assumption | apply zQb | apply zQc | apply zQe | apply zQd)))),⟨zQ5 _,rfl,by unfold maxLen; omega,by omega⟩,(by (first | exact zQp _ (by repeat (first | assumption | apply zQb | apply zQc | apply zQe | apply zQd)) | exact zQn _ (by repeat (first | assumption | apply zQb | apply zQc | apply zQe | apply zQd)) | exact zQl _ (by repeat (first | assumption | apply zQb | apply zQc | apply zQe | apply zQd)) | exact zQm _ | exact zQs _ (by repeat (first | assumption | apply zQb | apply zQc | apply zQe | apply zQd)) | exact zQv _ (by repeat (first | assumption | apply zQb | apply zQc | apply zQe | apply zQd)) | exact zQx _ (by repeat (first | assumption | apply zQb | apply zQc | apply zQe | apply zQd)) | exact zQw _ (by repeat (first | assumption | apply zQb | apply zQc | apply zQe | apply zQd)))),?_⟩,fun h3=>⟨fun h4=>⟨⟨zQ5 _,rfl,by unfold maxLen; omega,by omega⟩,(by (first | exact zQp _ (by repeat (first | assumption | apply zQb | apply zQc | apply zQe | apply zQd)) | exact zQn _ (by repeat (first | assumption | apply zQb | apply zQc | apply zQe | apply zQd)) | exact zQl _ (by repeat (first | assumption | apply zQb | apply zQc | apply zQe | apply zQd)) | exact zQm _ | exact zQs _ (by repeat (first | assumption | apply zQb | apply zQc | apply zQe | apply zQd)) | exact zQv _ (by repeat (first | assumption | apply zQb | apply zQc | apply zQe | apply zQd)) | exact zQx _ (by repeat (first | assumption | apply zQb | apply zQc | apply zQe | apply zQd)) | exact zQw _ (by repeat (first | assumption | apply zQb | apply zQc | apply zQe | apply zQd)))),?_⟩,fun h4=>?_⟩⟩⟩⟩
  ·have e:pOp p q w=(p,false):=by unfold pOp; rw [if_pos (by omega)]
   rw [e]; ((repeat' apply And.intro) <;> first | rfl | trivial | (simp only [List.length_append,List.length_cons,List.length_nil]; done) | (simp [ims]; done) | (simp [ops]; done) | (simp [ops,Oq.cells]; done) | exact zQR _ | (simp [pxs]; done))
  ·have e:pOp p q w=({ p with s:={ p.s with ops:=p.s.ops++[(zZB q).1] } },cmpQ (zZB q).2):=by unfold pOp; rw [if_neg (by omega),if_pos h2]
   rw [e]; ((repeat' apply And.intro) <;> first | rfl | trivial | (simp only [List.length_append,List.length_cons,List.length_nil]; done) | (simp [ims]; done) | (simp [ops]; done) | (simp [ops,Oq.cells]; done) | exact zQR _ | (simp [pxs]; done))
  ·have e:pOp p q w=({ p with s:={ p.s with ops:=p.s.ops++[(zZy q).1] } },cmpQ (zZy q).2):=by unfold pOp; rw [if_neg (by omega),if_neg h2,if_pos h3]
   rw [e]; ((repeat' apply And.intro) <;> first | rfl | trivial | (simp only [List.length_append,List.length_cons,List.length_nil]; done) | (simp [ims]; done) | (simp [ops]; done) | (simp [ops,Oq.cells]; done) | exact zQR _ | (simp [pxs]; done))
  ·have e:pOp p q w=({ p with s:={ p.s with ops:=p.s.ops++[⟨3,0,0,0,0,0,0,0,0,0,false,false⟩] } },cmpQ q):=by unfold pOp; rw [if_neg (by omega),if_neg h2,if_neg h3,if_pos h4]
   rw [e]; ((repeat' apply And.intro) <;> first | rfl | trivial | (simp only [List.length_append,List.length_cons,List.length_nil]; done) | (simp [ims]; done) | (simp [ops]; done) | (simp [ops,Oq.cells]; done) | exact zQR _ | (simp [pxs]; done))
  ·have e:pOp p q w=(p,false):=by unfold pOp; rw [if_neg (by omega),if_neg h2,if_neg h3,if_neg h4]
   rw [e]; ((repeat' apply And.intro) <;> first | rfl | trivial | (simp only [List.length_append,List.length_cons,List.length_nil]; done) | (simp [ims]; done) | (simp [ops]; done) | (simp [ops,Oq.cells]; done) | exact zQR _ | (simp [pxs]; done))
theorem zXC (p:PP):AnsG prog 37 5 [aPz] [Bx.cells (ppC p p.part 1),Bx.row 3 1 (is p.s.ord),Bx.row 43 28 (ims p.s.ims),Bx.row 51 12 (ops p.s.ops),Bx.row 37 5 (pxs p.px)] ⟨AV.one (Cl.d (dQ (decide (p.h > (0:Int))))),[Bx.cells (ppC p p.part 1),Bx.row 3 1 (is p.s.ord),Bx.row 43 28 (ims p.s.ims),Bx.row 51 12 (ops p.s.ops),Bx.row 37 5 (pxs p.px)],false⟩:=
 zQz (Γ:=jQE) Ann.leaf zQy Tryz.func37 rfl (Nat.le_of_ble_eq_true rfl) rfl fun hwf hbx=>by
  refine Eq.mpr (by kernel_rfl:_=(let a:=(decide (p.h > 0)); tU7 ((((dQ a=dQ a)∧True)∧(ppE p p))∧zQu ⟨AV.one (Cl.d (dQ a)),[Bx.cells (ppC p p.part 1),Bx.row 3 1 (is p.s.ord),Bx.row 43 28 (ims p.s.ims),Bx.row 51 12 (ops p.s.ops),Bx.row 37 5 (pxs p.px)],false⟩))) ?_
  delta tU7 dQ
  simp only [sS,ppC,ppE]
  ((repeat' apply And.intro) <;> first | rfl | trivial | (simp only [List.length_append,List.length_cons,List.length_nil]; done) | (simp [ims]; done) | (simp [ops]; done) | (simp [ops,Oq.cells]; done) | exact zQR _ | (simp [pxs]; done))
theorem zJj (p:PP) (w:Lb) (hw:w.length≤4294967280) (hx:p.px.length≤68719476736) (hi:p.s.ims.length≤68719476736) (hp:p.s.ops.length≤68719476736) (hn:p.s.ord.length≤68719476736) (hf:0≤p.w*p.h∧p.w*p.h≤16777216) (hd:0≤p.part∧p.part≤5):AnsG prog 76 1 [aPz,AV.one (Cl.d (DV.str (toS w)))] [Bx.cells (ppC p p.part 1),Bx.row 3 1 (is p.s.ord),Bx.row 43 28 (ims p.s.ims),Bx.row 51 12 (ops p.s.ops),Bx.row 37 5 (pxs p.px)] ⟨AV.one (Cl.d (dQ ((zXw p (ofS (toS w))).2))),[Bx.cells (ppC ((zXw p (ofS (toS w))).1) (((zXw p (ofS (toS w))).1).part) 1),Bx.row 3 1 (is ((zXw p (ofS (toS w))).1).s.ord),Bx.row 43 28 (ims ((zXw p (ofS (toS w))).1).s.ims),Bx.row 51 12 (ops ((zXw p (ofS (toS w))).1).s.ops),Bx.row 37 5 (pxs ((zXw p (ofS (toS w))).1).px)],false⟩:=
 zQz (Γ:=jQE) (let a:=((zQt w).drop 1); let b:=((((zQt (ofS (toS w))).length:Nat):Int) - 1); let c:=(Cl.d (dS b.toNat (List.take (b.toNat*1) (List.drop ((1:Int).toNat*1) (strs (zQt (ofS (toS w)))))))); Ann.seq Ann.leaf (Ann.seq Ann.leaf (Ann.seq (Ann.seq Ann.leaf (Ann.loop ⟨Nat,fun k=>k≤(zQt w).length - 1∧(a.take k).all (okN 0 4294967295)=true,fun k=>⟨[(0,aPz),(5,AV.one c),(13,AV.one c),(14,aJ ((b.toNat:Nat):Int)),(15,aJ (k:Int))],[(0,bC [cJ p.s.bits,cJ p.s.c.a,cJ p.s.c.b,cJ p.s.c.c,cJ p.s.c.d,cJ p.s.tw,cJ p.s.th,Cl.ref 2001 (p.s.ord++(a.take k).map numV).length,Cl.ref 2 p.s.ims.length,Cl.ref 3 p.s.ops.length,cJ p.part,cJ p.w,cJ p.h,Cl.ref 4 p.px.length]),(2001,Bx.row 3 1 (is (p.s.ord++(a.take k).map numV))),(2,Bx.row 43 28 (ims p.s.ims)),(3,Bx.row 51 12 (ops p.s.ops)),(4,Bx.row 37 5 (pxs p.px))]⟩,fun k=>(zQt w).length - 1 - k⟩ fun k=>Ann.leaf)) Ann.leaf))) zQy Tryz.func76 rfl (Nat.le_of_ble_eq_true rfl) rfl fun hwf hbx=>by
  refine Eq.mpr (by kernel_rfl:_=(let q:=(p.s.ops.length=p.s.ops.length); let r:=(p.s.ims.length=p.s.ims.length); let g:=(zQt (ofS (toS w))); let c:=((zQt w).drop 1); let a:=(zXw p (ofS (toS w))).1; let m:=(zXw p (ofS (toS w))).2; let h:=(Cl.d (dQ m)); let i:=[Bx.cells (ppC a a.part 1),Bx.row 3 1 (is a.s.ord),Bx.row 43 28 (ims a.s.ims),Bx.row 51 12 (ops a.s.ops),Bx.row 37 5 (pxs a.px)]; let d:=((g.length:Nat):Int); let f:=(List.take ((d - 1).toNat*1) (List.drop ((1:Int).toNat*1) (strs g))); let e:=(((d - 1).toNat:Nat):Int); let s:=fun (k:Nat)=>(k≤(zQt w).length - 1∧(c.take k).all (okN 0 4294967295)=true); let j:=(dS (d - 1).toNat f=dS (d - 1).toNat f); let t:=(dJ e=dJ e); let u:=fun (k:Nat)=>(((dJ p.s.bits=dJ a.s.bits)∧(dJ p.s.c.a=dJ a.s.c.a)∧(dJ p.s.c.b=dJ a.s.c.b)∧(dJ p.s.c.c=dJ a.s.c.c)∧(dJ p.s.c.d=dJ a.s.c.d)∧(dJ p.s.tw=dJ a.s.tw)∧(dJ p.s.th=dJ a.s.th)∧((p.s.ord++(c.take k).map numV).length=a.s.ord.length)∧(p.s.ims.length=a.s.ims.length)∧(p.s.ops.length=a.s.ops.length)∧(dJ p.part=dJ a.part)∧(dJ p.w=dJ a.w)∧(dJ p.h=dJ a.h)∧(p.px.length=a.px.length)∧True)∧(is (p.s.ord++(c.take k).map numV)=is a.s.ord)∧(ims p.s.ims=ims a.s.ims)∧(ops p.s.ops=ops a.s.ops)∧(pxs p.px=pxs a.px)∧True); let n:=fun (k:Nat)=>(((dQ false=dQ m)∧True)∧(u k)); tU2 ((Ans prog 104 [RV.d (DV.str (toS w)),RV.d (DV.str (⟨#[32]⟩:ByteArray))] (RV.d (dS g.length (strs g))))∧(0≤(1:Int)∧(1:Int)≤d∧d≤d)∧tU4 ((∃ k:Nat,let v:=(p.s.ord++(c.take k).map numV); (s k)∧(((0=0)∧j∧j∧t∧(dJ 0=dJ (k:Int))∧True)∧(((dJ p.s.bits=dJ p.s.bits)∧(dJ p.s.c.a=dJ p.s.c.a)∧(dJ p.s.c.b=dJ p.s.c.b)∧(dJ p.s.c.c=dJ p.s.c.c)∧(dJ p.s.c.d=dJ p.s.c.d)∧(dJ p.s.tw=dJ p.s.tw)∧(dJ p.s.th=dJ p.s.th)∧(p.s.ord.length=v.length)∧r∧q∧(dJ p.part=dJ p.part)∧(dJ p.w=dJ p.w)∧(dJ p.h=dJ p.h)∧(p.px.length=p.px.length)∧True)∧(is p.s.ord=is v)∧(ims p.s.ims=ims p.s.ims)∧(ops p.s.ops=ops p.s.ops)∧(pxs p.px=pxs p.px)∧True)))∧∀ k:Nat,let o:=(sAt f ((k:Int).toNat*1)); let b:=(numP (ofS o)); let x:=(decide (b.1 > 4294967295)); let l:=(p.s.ord++(c.take k).map numV); (s k)→True∧(((decide ((k:Int) < e))=true→(0≤(k:Int)∧(k:Int) < e∧(k:Int).toNat*1 < f.length)∧((f[(k:Int).toNat*1]?=some (DV.str o))∧True)∧tU2 ((Ans prog 112 [RV.d (DV.str o)] (RV.tup [rJ b.1,RV.d (dQ b.2)]))∧tU8 (((!b.2)=false→tU4 (((decide (b.1 < 0))=false→tU3 ((x=true→True∧(n k)∧zQu ⟨AV.one h,i,false⟩)∧(x=false→tU8 ((zZk 1 8 l.length 1 (is l) ([dJ b.1]))∧tU6 (∃ k':Nat,let y:=(p.s.ord++(c.take k').map numV); (k'≤(zQt w).length - 1∧(c.take k').all (okN 0 4294967295)=true)∧((zQt w).length - 1 - k' < (zQt w).length - 1 - k)∧(((0=0)∧j∧j∧t∧(dJ (wK ((k:Int)+1))=dJ (k':Int))∧True)∧(((dJ p.s.bits=dJ p.s.bits)∧(dJ p.s.c.a=dJ p.s.c.a)∧(dJ p.s.c.b=dJ p.s.c.b)∧(dJ p.s.c.c=dJ p.s.c.c)∧(dJ p.s.c.d=dJ p.s.c.d)∧(dJ p.s.tw=dJ p.s.tw)∧(dJ p.s.th=dJ p.s.th)∧(l.length+1=y.length)∧r∧q∧(dJ p.part=dJ p.part)∧(dJ p.w=dJ p.w)∧(dJ p.h=dJ p.h)∧(p.px.length=p.px.length)∧True)∧((is l)++([dJ b.1])=is y)∧(ims p.s.ims=ims p.s.ims)∧(ops p.s.ops=ops p.s.ops)∧(pxs p.px=pxs p.px)∧True)))))))∧((decide (b.1 < 0))=(!false)→tU2 ((n k)∧zQu ⟨AV.one h,i,false⟩))))∧((!b.2)=(!false)→tU4 ((n k)∧zQu ⟨AV.one h,i,false⟩)))))∧((decide ((k:Int) < e))=false→tU4 ((((dQ (decide (e > 0))=dQ m)∧True)∧(u k))∧zQu ⟨AV.one h,i,false⟩))))))) ?_
  delta tU2 tU3 tU4 tU6 tU8 dJ dQ wK dS rJ
  simp only [sS,ppC,ppE]
  simp only [zZM,zQM,zZx,zZe,zZd,zQE,zQX]
  clear hwf hbx
  have aS:=zHY w (by omega)
  have hne:=zG1 w
  have hsl:=zK8 w
  have hwl:=zK7 _ w (Nat.le_refl _)
  have go:zXw p w=({ p with s:={ p.s with ord:=p.s.ord++zKM ((zQt w).drop 1) } },((zQt w).drop 1).all (okN 0 4294967295) && decide (1 < (zQt w).length)):=rfl
  obtain ⟨ws,hws⟩:∃ ws,zQt w=ws:=⟨_,rfl⟩
  simp only [hws] at aS hne hsl hwl go ⊢
  clear hws
  match ws,hne with
  | k0::r,_=>
  have dr:List.take r.length (List.drop 1 (strs (k0::r)))=strs r:=by
   rw [show (strs (k0::r)).drop 1=strs r from rfl]
   exact List.take_of_length_le (by rw [zXf]; simp)
  have drn:((((k0::r).length:Nat):Int) - 1).toNat=r.length:=by simp
  have d1:(k0::r).drop 1=r:=rfl
  have hl:(k0::r).length=r.length+1:=rfl
  have hi1:Int.toNat 1=1:=rfl
  simp only [Nat.mul_one,hi1,dr,drn,d1,zXf]
  rw [d1] at go
  refine ⟨aS,⟨by omega,by omega,by omega⟩,⟨0,⟨by omega,rfl⟩,by rfl,by simp⟩,fun k hk=>⟨fun hlt=>?_,fun hge=>?_⟩⟩
  ·have h:k < r.length:=by omega
   obtain ⟨hk1,hk2⟩:=hk
   obtain ⟨q1,q2⟩:=zU6 h
   obtain ⟨x,hx'⟩:∃ x,r[k]=x:=⟨_,rfl⟩
   have hxl:x.length≤281474976710656:=by have:=hwl x (List.mem_cons_of_mem _ (by rw [← hx']; exact List.getElem_mem h)); omega
   have hts:r.take (k+1)=r.take k++[x]:=by rw [List.take_add_one,List.getElem?_eq_getElem h,hx']; rfl
   have hsp:r=r.take k++x::r.drop (k+1):=by rw [← hx',List.getElem_cons_drop,List.take_append_drop]
   rw [hx'] at q1 q2
   have aN:=zJm x hxl
   have v:(numP x).2=true→(numP x).1=numV x:=fun h=>by
    show zKu x=_
    unfold zKu
    rw [zYM h]
   have bad:okN 0 4294967295 x=false→zXw p w=({ p with s:={ p.s with ord:=p.s.ord++(r.take k).map numV } },false):=fun hb=>by
    rw [go]
    have h1:r.all (okN 0 4294967295)=false:=by rw [hsp,List.all_append,List.all_cons,hb]; simp
    have h2:zKM r=(r.take k).map numV:=by
     conv=>lhs; rw [hsp]
     exact jXY hk2 hb
    rw [h1,h2]; rfl
   simp only [q2,zQX]
   have no:¬((numP x).2=true∧¬(numP x).1 < 0∧¬(numP x).1 > 4294967295)→okN 0 4294967295 x=false:=fun h=>by
    cases hb:okN 0 4294967295 x with
    | false=>rfl
    | true=>
     unfold okN at hb
     simp only [Bool.and_eq_true,decide_eq_true_eq] at hb
     have hc:(numP x).2=true:=hb.1.1
     exact absurd ⟨hc,by rw [v hc]; omega,by rw [v hc]; omega⟩ h
   refine ⟨⟨by omega,by omega,h⟩,q1,aN,fun h1=>⟨fun h2=>⟨fun h3=>?_,fun h3=>⟨?_,k+1,⟨by omega,?_⟩,by omega,?_⟩⟩,fun h2=>?_⟩,fun h1=>?_⟩
   ·rw [bad (no fun g=>g.2.2 h3)]; ((repeat' apply And.intro) <;> first | rfl | trivial | (simp only [List.length_append,List.length_cons,List.length_nil]; done) | (simp [ims]; done) | (simp [ops]; done) | (simp [ops,Oq.cells]; done) | exact zQR _ | (simp [pxs]; done))
   ·exact ⟨by simp [is],rfl,by simp; unfold maxLen; omega,by simp; omega⟩
   ·have hb:okN 0 4294967295 x=true:=by
     have e:=v h1
     have h1:zYy x=true:=h1
     rw [e] at h2 h3
     unfold okN; rw [h1]; simp; omega
    rw [hts,List.all_append,hk2,List.all_cons,hb]; rfl
   ·have w1:IntKind.wrap .i64 ((k:Int)+1)=((k+1:Nat):Int):=by rw [IntWalk.i64_in _ ⟨by omega,by omega⟩]; omega
    rw [hts,v h1,w1]
    (repeat' apply And.intro) <;> first | rfl | trivial | (simp; done) | (simp [is]; done) | (simp; omega)
   ·rw [bad (no fun g=>g.2.1 h2)]; ((repeat' apply And.intro) <;> first | rfl | trivial | (simp only [List.length_append,List.length_cons,List.length_nil]; done) | (simp [ims]; done) | (simp [ops]; done) | (simp [ops,Oq.cells]; done) | exact zQR _ | (simp [pxs]; done))
   ·rw [bad (no fun g=>by rw [h1] at g; exact absurd g.1 (by decide))]; ((repeat' apply And.intro) <;> first | rfl | trivial | (simp only [List.length_append,List.length_cons,List.length_nil]; done) | (simp [ims]; done) | (simp [ops]; done) | (simp [ops,Oq.cells]; done) | exact zQR _ | (simp [pxs]; done))
  ·have:k=r.length:=by omega
   subst this
   obtain ⟨_,hk2⟩:=hk
   rw [List.take_length] at hk2
   have e:zXw p w=({ p with s:={ p.s with ord:=p.s.ord++r.map numV } },decide (0 < r.length)):=by
    rw [go,hk2,jQ4 hk2,Bool.true_and]
    congr 1
    simp
   rw [e,List.take_length]
   have e2:decide ((r.length:Int) > 0)=decide (0 < r.length):=by rw [Bool.eq_iff_iff]; simp
   rw [e2]
   ((repeat' apply And.intro) <;> first | rfl | trivial | (simp only [List.length_append,List.length_cons,List.length_nil]; done) | (simp [ims]; done) | (simp [ops]; done) | (simp [ops,Oq.cells]; done) | exact zQR _ | (simp [pxs]; done))
theorem zJ4 (p:PP) (w:Lb) (hw:w.length≤4294967280) (hx:p.px.length≤68719476736) (hi:p.s.ims.length≤68719476736) (hp:p.s.ops.length≤68719476736) (hn:p.s.ord.length≤68719476736) (hf:0≤p.w*p.h∧p.w*p.h≤16777216) (hd:0≤p.part∧p.part≤5):AnsG prog 36 1 [aPz,AV.one (Cl.d (DV.str (toS w)))] [Bx.cells (ppC p p.part 1),Bx.row 3 1 (is p.s.ord),Bx.row 43 28 (ims p.s.ims),Bx.row 51 12 (ops p.s.ops),Bx.row 37 5 (pxs p.px)] ⟨AV.one (Cl.d (dQ ((zXx p (ofS (toS w))).2))),[Bx.cells (ppC ((zXx p (ofS (toS w))).1) (((zXx p (ofS (toS w))).1).part) 1),Bx.row 3 1 (is ((zXx p (ofS (toS w))).1).s.ord),Bx.row 43 28 (ims ((zXx p (ofS (toS w))).1).s.ims),Bx.row 51 12 (ops ((zXx p (ofS (toS w))).1).s.ops),Bx.row 37 5 (pxs ((zXx p (ofS (toS w))).1).px)],false⟩:=
 zQz (Γ:=jQE) Ann.leaf zQy Tryz.func36 rfl (Nat.le_of_ble_eq_true rfl) rfl fun hwf hbx=>by
  refine Eq.mpr (by kernel_rfl:_=(let t:=(decide (p.h > 0)); let q:=(ofS (toS w)); let i:=(is p.s.ord); let j:=(ops p.s.ops); let k:=(ims p.s.ims); let a:=(zXx p q).1; let l:=(zXx p q).2; let x:=(⟨(sE p.s),(4:Int),p.w,p.h,zQk (pxs p.px)⟩:PP); let d:=(zXw x q); let y:=(⟨(sE p.s),p.part,p.w,p.h,zQk (pxs p.px)⟩:PP); let m:=[Bx.cells (ppC a a.part 1),Bx.row 3 1 (is a.s.ord),Bx.row 43 28 (ims a.s.ims),Bx.row 51 12 (ops a.s.ops),Bx.row 37 5 (pxs a.px)]; let n:=(Cl.d (dQ l)); let o:=(⟨zQt q,false⟩:LQ); let h:=(reQ o); let u:=(reQ (zZF h)); let e:=(zZu y h); let b:=(toS (zZi h.ws)); let c:=(pOp (⟨(sE p.s),(5:Int),p.w,p.h,zQk (pxs p.px)⟩:PP) u (ofS b)); let z:=[Bx.cells (ppC c.1 c.1.part 1),Bx.row 3 1 (is c.1.s.ord),Bx.row 43 28 (ims c.1.s.ims),Bx.row 51 12 (ops c.1.s.ops),Bx.row 37 5 (pxs c.1.px)]; let f:=(zZq x u (ofS b)); let g:=(zXb y u (ofS b)); let A:=[Cl.d (dS o.ws.length (strs o.ws))]; let B:=[bC [Cl.clo 105 [Cap.ptr 1 0],Cl.d (dQ o.bad)],Bx.cells A]; let C:=[Bx.cells (ppC p p.part 1),Bx.row 3 1 i,Bx.row 43 28 k,Bx.row 51 12 j,Bx.row 37 5 (pxs p.px)]; let D:=(ppC p p.part 2); let r:=[Cl.d (dS (zZF h).ws.length (strs (zZF h).ws))]; let s:=[aPz,AV.one (Cl.ptr 1 0),AV.one (Cl.d (DV.str b))]; let v:=[Cl.clo 105 [Cap.ptr 6 0],Cl.d (dQ (zZF h).bad)]; let E:=[Bx.cells (ppC p 5 2),Bx.cells v,Bx.row 3 1 i,Bx.row 43 28 k,Bx.row 51 12 j,Bx.row 37 5 (pxs p.px),Bx.cells r]; let F:=(((dQ c.2=dQ l)∧True)∧(ppE c.1 a)); let G:=(((decide (p.part≤4))=true→tU7 ((AnsG prog 77 1 s [Bx.cells (ppC p 4 2),Bx.cells v,Bx.row 3 1 i,Bx.row 43 28 k,Bx.row 51 12 j,Bx.row 37 5 (pxs p.px),Bx.cells r] ⟨AV.one (Cl.d (dQ f.2)),[Bx.cells (ppC f.1 f.1.part 1),Bx.row 3 1 (is f.1.s.ord),Bx.row 43 28 (ims f.1.s.ims),Bx.row 51 12 (ops f.1.s.ops),Bx.row 37 5 (pxs f.1.px)],false⟩)∧True∧(((dQ f.2=dQ l)∧True)∧(ppE f.1 a))∧zQu ⟨AV.one n,m,false⟩))∧((decide (p.part≤4))=false→tU7 ((AnsG prog 78 1 s E ⟨AV.one (Cl.d (dQ c.2)),z,false⟩)∧True∧F∧zQu ⟨AV.one n,m,false⟩))); let H:=(((b.toList==(⟨#[115,111,108,105,100]⟩:ByteArray).toList)=false→tU4 (((b.toList==(⟨#[105,109,97,103,101]⟩:ByteArray).toList)=true→tU7 G)∧((b.toList==(⟨#[105,109,97,103,101]⟩:ByteArray).toList)=(!true)→True∧tU8 ((AnsG prog 78 1 s E ⟨AV.one (Cl.d (dQ c.2)),z,false⟩)∧True∧F∧zQu ⟨AV.one n,m,false⟩))))∧((b.toList==(⟨#[115,111,108,105,100]⟩:ByteArray).toList)=(!false)→True∧tU8 G)); tU2 ((AnsG prog 72 0 [AV.one (Cl.d (DV.str (toS w)))] [] ⟨aPz,B,false⟩)∧tU2 ((AnsG prog 37 5 [aPz] C ⟨AV.one (Cl.d (dQ t)),C,false⟩)∧((t=true→tU2 ((AnsG prog 73 1 [aPz,AV.one (Cl.ptr 1 0)] [Bx.cells D,bC [Cl.clo 105 [Cap.ptr 6 0],Cl.d (dQ o.bad)],Bx.row 3 1 i,Bx.row 43 28 k,Bx.row 51 12 j,Bx.row 37 5 (pxs p.px),Bx.cells A] ⟨AV.one (Cl.d (dQ e.2)),[Bx.cells (ppC e.1 e.1.part 1),Bx.row 3 1 (is e.1.s.ord),Bx.row 43 28 (ims e.1.s.ims),Bx.row 51 12 (ops e.1.s.ops),Bx.row 37 5 (pxs e.1.px)],false⟩)∧True∧(((dQ e.2=dQ l)∧True)∧(ppE e.1 a))∧zQu ⟨AV.one n,m,false⟩))∧(t=false→True∧(AnsG prog 74 2 [aPz] B ⟨AV.one (Cl.d (DV.str b)),[bC [Cl.clo 105 [Cap.ptr 1 0],Cl.d (dQ (zZF h).bad)],Bx.cells r],false⟩)∧tU6 (((decide (p.part≤2))=true→tU3 ((AnsG prog 75 1 s [Bx.cells D,Bx.cells v,Bx.row 3 1 i,Bx.row 43 28 k,Bx.row 51 12 j,Bx.row 37 5 (pxs p.px),Bx.cells r] ⟨AV.one (Cl.d (dQ g.2)),[Bx.cells (ppC g.1 g.1.part 1),Bx.row 3 1 (is g.1.s.ord),Bx.row 43 28 (ims g.1.s.ims),Bx.row 51 12 (ops g.1.s.ops),Bx.row 37 5 (pxs g.1.px)],false⟩)∧True∧(((dQ g.2=dQ l)∧True)∧(ppE g.1 a))∧zQu ⟨AV.one n,m,false⟩))∧((decide (p.part≤2))=false→tU3 (((b.toList==(⟨#[111,114,100,101,114]⟩:ByteArray).toList)=true→tU7 (((p.part==3)=true→tU6 ((AnsG prog 76 1 [aPz,AV.one (Cl.d (DV.str (toS w)))] [Bx.cells (ppC p 4 1),Bx.row 3 1 i,Bx.row 43 28 k,Bx.row 51 12 j,Bx.row 37 5 (pxs p.px)] ⟨AV.one (Cl.d (dQ d.2)),[Bx.cells (ppC d.1 d.1.part 1),Bx.row 3 1 (is d.1.s.ord),Bx.row 43 28 (ims d.1.s.ims),Bx.row 51 12 (ops d.1.s.ops),Bx.row 37 5 (pxs d.1.px)],false⟩)∧True∧(((dQ d.2=dQ l)∧True)∧(ppE d.1 a))∧zQu ⟨AV.one n,m,false⟩))∧((p.part==3)=false→tU3 H)))∧((b.toList==(⟨#[111,114,100,101,114]⟩:ByteArray).toList)=(!true)→tU5 H)))))))))) ?_
  delta sE tU2 tU3 tU4 tU5 tU6 tU7 tU8 dQ dS aPz bC
  simp only [sS,ppC,ppE]
  simp only [zZM,zQM,zZx,zZe,zZd,zQE,zQX]
  clear hwf hbx
  have lb:(⟨#[98,105,116,115]⟩:ByteArray)=toS zX3:=rfl
  have lc:(⟨#[99,97,110,118,97,115]⟩:ByteArray)=toS zZw:=rfl
  have lt:(⟨#[116,105,108,101,115]⟩:ByteArray)=toS zZ3:=rfl
  have li:(⟨#[105,109,97,103,101]⟩:ByteArray)=toS zQP:=rfl
  have ld:(⟨#[100,114,97,119]⟩:ByteArray)=toS zZV:=rfl
  have lu:(⟨#[112,117,115,104]⟩:ByteArray)=toS zZ0:=rfl
  have lo:(⟨#[112,111,112]⟩:ByteArray)=toS sPop:=rfl
  have lr:(⟨#[111,114,100,101,114]⟩:ByteArray)=toS zZj:=rfl
  have ls:(⟨#[115,111,108,105,100]⟩:ByteArray)=toS zQN:=rfl
  have hq:okQ ⟨zQt w,false⟩:=fun x hx=>by have:=zK7 _ w (Nat.le_refl _) x hx; omega
  have aO:=zU5 w (by omega)
  have aN:=zZS ⟨zQt w,false⟩
  have aIn:=zXC p
  have q1:okQ (zZF ⟨zQt w,false⟩):=jZb hq
  obtain ⟨Q,hQ⟩:∃ Q:LQ,zZF ⟨zQt w,false⟩=Q:=⟨_,rfl⟩
  obtain ⟨W,hW⟩:∃ W:Lb,zZi (zQt w)=W:=⟨_,rfl⟩
  have go:zXx p w=(if 0 < p.h then zZu p ⟨zQt w,false⟩ else if p.part≤2 then zXb p Q W
   else if W=zZj∧p.part=3 then zXw { p with part:=4 } w
   else if (W=zQN∨W=zQP)∧p.part≤4 then zZq { p with part:=4 } Q W
   else pOp { p with part:=5 } Q W):=by rw [← hQ,← hW]; rfl
  simp only [hQ,hW] at aN q1 ⊢
  simp only [lr,ls,li,zJG,decide_eq_true_eq,decide_eq_false_iff_not,beq_iff_eq,beq_eq_false_iff_ne]
  have gPx:=zJi p ⟨zQt w,false⟩ hq hx hi hp hn hf hd
  have gHd:=zJ5 p Q W q1 hx hi hp hn hf hd
  have gOr:=zJj { p with part:=4 } w hw hx hi hp hn hf ⟨by simp,by simp⟩
  have gIm:=zJk { p with part:=4 } Q W q1 hx hi hp hn hf ⟨by simp,by simp⟩
  have gOp:=zKB { p with part:=5 } Q W q1 hx hi hp hn hf ⟨by simp,by simp⟩
  have eIm:0 < p.h→False∨True:=fun _=>.inr trivial
  refine ⟨aO,aIn,fun h1=>⟨gPx,?_⟩,fun h1=>⟨aN,fun h2=>⟨gHd,?_⟩,fun h2=>?_⟩⟩
  ·rw [if_pos h1] at go
   rw [go]; ((repeat' apply And.intro) <;> first | rfl | trivial | (simp only [List.length_append,List.length_cons,List.length_nil]; done) | (simp [ims]; done) | (simp [ops]; done) | (simp [ops,Oq.cells]; done) | exact zQR _ | (simp [pxs]; done))
  ·rw [if_neg h1,if_pos h2] at go
   rw [go]; ((repeat' apply And.intro) <;> first | rfl | trivial | (simp only [List.length_append,List.length_cons,List.length_nil]; done) | (simp [ims]; done) | (simp [ops]; done) | (simp [ops,Oq.cells]; done) | exact zQR _ | (simp [pxs]; done))
  ·rw [if_neg h1,if_neg h2] at go
   refine ⟨fun h3=>⟨fun h4=>⟨gOr,?_⟩,fun h4=>⟨fun h5=>⟨fun h7=>⟨fun h6=>⟨gIm,?_⟩,fun h6=>⟨gOp,?_⟩⟩,fun h7=>⟨gOp,?_⟩⟩,fun h5=>⟨fun h6=>⟨gIm,?_⟩,fun h6=>⟨gOp,?_⟩⟩⟩⟩,fun h3=>⟨fun h5=>⟨fun h7=>⟨fun h6=>⟨gIm,?_⟩,fun h6=>⟨gOp,?_⟩⟩,fun h7=>⟨gOp,?_⟩⟩,fun h5=>⟨fun h6=>⟨gIm,?_⟩,fun h6=>⟨gOp,?_⟩⟩⟩⟩
   ·rw [if_pos ⟨h3,h4⟩] at go
    rw [go]; ((repeat' apply And.intro) <;> first | rfl | trivial | (simp only [List.length_append,List.length_cons,List.length_nil]; done) | (simp [ims]; done) | (simp [ops]; done) | (simp [ops,Oq.cells]; done) | exact zQR _ | (simp [pxs]; done))
   ·rw [if_neg (fun h=>h4 h.2),if_pos ⟨.inr h7,h6⟩] at go
    rw [go]; ((repeat' apply And.intro) <;> first | rfl | trivial | (simp only [List.length_append,List.length_cons,List.length_nil]; done) | (simp [ims]; done) | (simp [ops]; done) | (simp [ops,Oq.cells]; done) | exact zQR _ | (simp [pxs]; done))
   ·rw [if_neg (fun h=>h4 h.2),if_neg (fun h=>h6 h.2)] at go
    rw [go]; ((repeat' apply And.intro) <;> first | rfl | trivial | (simp only [List.length_append,List.length_cons,List.length_nil]; done) | (simp [ims]; done) | (simp [ops]; done) | (simp [ops,Oq.cells]; done) | exact zQR _ | (simp [pxs]; done))
   ·rw [if_neg (fun h=>h4 h.2),if_neg (fun h=>h.1.elim h5 h7)] at go
    rw [go]; ((repeat' apply And.intro) <;> first | rfl | trivial | (simp only [List.length_append,List.length_cons,List.length_nil]; done) | (simp [ims]; done) | (simp [ops]; done) | (simp [ops,Oq.cells]; done) | exact zQR _ | (simp [pxs]; done))
   ·rw [if_neg (fun h=>h4 h.2),if_pos ⟨.inl h5,h6⟩] at go
    rw [go]; ((repeat' apply And.intro) <;> first | rfl | trivial | (simp only [List.length_append,List.length_cons,List.length_nil]; done) | (simp [ims]; done) | (simp [ops]; done) | (simp [ops,Oq.cells]; done) | exact zQR _ | (simp [pxs]; done))
   ·rw [if_neg (fun h=>h4 h.2),if_neg (fun h=>h6 h.2)] at go
    rw [go]; ((repeat' apply And.intro) <;> first | rfl | trivial | (simp only [List.length_append,List.length_cons,List.length_nil]; done) | (simp [ims]; done) | (simp [ops]; done) | (simp [ops,Oq.cells]; done) | exact zQR _ | (simp [pxs]; done))
   ·rw [if_neg (fun h=>h3 h.1),if_pos ⟨.inr h7,h6⟩] at go
    rw [go]; ((repeat' apply And.intro) <;> first | rfl | trivial | (simp only [List.length_append,List.length_cons,List.length_nil]; done) | (simp [ims]; done) | (simp [ops]; done) | (simp [ops,Oq.cells]; done) | exact zQR _ | (simp [pxs]; done))
   ·rw [if_neg (fun h=>h3 h.1),if_neg (fun h=>h6 h.2)] at go
    rw [go]; ((repeat' apply And.intro) <;> first | rfl | trivial | (simp only [List.length_append,List.length_cons,List.length_nil]; done) | (simp [ims]; done) | (simp [ops]; done) | (simp [ops,Oq.cells]; done) | exact zQR _ | (simp [pxs]; done))
   ·rw [if_neg (fun h=>h3 h.1),if_neg (fun h=>h.1.elim h5 h7)] at go
    rw [go]; ((repeat' apply And.intro) <;> first | rfl | trivial | (simp only [List.length_append,List.length_cons,List.length_nil]; done) | (simp [ims]; done) | (simp [ops]; done) | (simp [ops,Oq.cells]; done) | exact zQR _ | (simp [pxs]; done))
   ·rw [if_neg (fun h=>h3 h.1),if_pos ⟨.inl h5,h6⟩] at go
    rw [go]; ((repeat' apply And.intro) <;> first | rfl | trivial | (simp only [List.length_append,List.length_cons,List.length_nil]; done) | (simp [ims]; done) | (simp [ops]; done) | (simp [ops,Oq.cells]; done) | exact zQR _ | (simp [pxs]; done))
   ·rw [if_neg (fun h=>h3 h.1),if_neg (fun h=>h6 h.2)] at go
    rw [go]; ((repeat' apply And.intro) <;> first | rfl | trivial | (simp only [List.length_append,List.length_cons,List.length_nil]; done) | (simp [ims]; done) | (simp [ops]; done) | (simp [ops,Oq.cells]; done) | exact zQR _ | (simp [pxs]; done))
def fixO (l:List Oq):Int:=match l.findIdx? (fun o=>!prtO o) with
 | some i=>(i:Int)
 | none => -1
def zPP:PP:=⟨zScr,0,0,0,[]⟩
def pEnd (p:PP) (n:Int):Scr × Int × Int:=if p.part≤2∨0 < p.h then (zScr,n+1,19) else if zZU p.s=true∧p.s.ops.all prtO=true then (p.s,0,0) else (zScr,0,19)
def pGo (p:PP) (n:Int) (acc:Lb):Lb→Scr × Int × Int
 | []=>if acc≠[] then (zScr,n+1,19) else pEnd p n
 | c::r=>if c=10 then (if (zXx p acc).2=true then pGo (zXx p acc).1 (n+1) [] r else (zScr,n+1,19)) else pGo p n (acc++[c]) r
def zZn (t:Lb):Scr × Int × Int:=pGo zPP 0 [] t
theorem jJN {p:PP} {n:Int}:∀ {t acc:Lb},(10:UInt8) ∉ t→pGo p n acc t=if acc++t≠[] then (zScr,n+1,19) else pEnd p n
 | [],acc,_=>by rw [List.append_nil]; rfl
 | c::t,acc,h=>by
  simp only [List.mem_cons,not_or] at h
  rw [pGo,if_neg (fun e=>h.1 e.symm),jJN h.2,List.append_assoc]; rfl
theorem jJO {p:PP} {n:Int} {b:Lb}:∀ {a acc:Lb},(10:UInt8) ∉ a→pGo p n acc (a++10::b)=if (zXx p (acc++a)).2=true then pGo (zXx p (acc++a)).1 (n+1) [] b else (zScr,n+1,19)
 | [],acc,_=>by rw [List.append_nil,List.nil_append,pGo,if_pos rfl]
 | c::a,acc,h=>by
  simp only [List.mem_cons,not_or] at h
  rw [List.cons_append,pGo,if_neg (fun e=>h.1 e.symm),jJO h.2,List.append_assoc]; rfl
structure PP.ok (p:PP) (k:Nat):Prop where
  od:p.s.ord.length≤k
  im:p.s.ims.length≤k
  op:p.s.ops.length≤k
  px:p.px.length≤k
  f0:0≤p.w*p.h
  f1:p.w*p.h≤16777216
  d0:0≤p.part
  d1:p.part≤5
  hU:∀ m∈p.s.ims,m.isU
theorem jXW {p:PP} {k:Nat} (h:p.ok k) (q:LQ):(zZu p q).1.ok (k+1):=by
 obtain ⟨h1,h2,h3,h4,h5,h6,h7,h8,h9⟩:=h
 unfold zZu
 split
 ·split
  ·exact ⟨by show _≤_; simp; omega,by simp; omega,by simp; omega,by simp,by simp,by simp,h7,h8,fun m hm=>by
    rcases List.mem_append.1 hm with hm | hm
    ·exact h9 m hm
    ·rw [List.mem_singleton.1 hm]; exact jZq _ _ _⟩
  ·exact ⟨by simp; omega,by simp; omega,by simp; omega,by simp; omega,h5,h6,h7,h8,h9⟩
 ·exact ⟨by simp; omega,by simp; omega,by simp; omega,by simp; omega,h5,h6,h7,h8,h9⟩
theorem jY2 {p:PP} {k:Nat} (h:p.ok k) (q:LQ) (w:Lb) (hp:p.part≤2):(zXb p q w).1.ok (k+1):=by
 obtain ⟨h1,h2,h3,h4,h5,h6,h7,h8,h9⟩:=h
 unfold zXb
 (repeat' split) <;> exact ⟨by simp; omega,by simp; omega,by simp; omega,by simp; omega,h5,h6,by simp; omega,by simp; omega,h9⟩
theorem jXz (q:LQ):0≤(sizQ q).1.1*(sizQ q).1.2∧(sizQ q).1.1*(sizQ q).1.2≤16777216:=by
 unfold sizQ
 simp only
 split
 ·simp
 ·rename_i h
  simp only [not_or] at h
  obtain ⟨h1,h2⟩:=h
  have hb:=jX2 (by simpa using h1:(numQ (numQ q 1 16777216).2 1 16777216).2.bad=false)
  have ha:0≤(numQ q 1 16777216).1:=by
   by_cases e:okN 1 16777216 (zZi q.ws)=true
   ·have:=zUE e
    unfold numQ; rw [if_pos e]; show (0:Int)≤numV (zZi q.ws); omega
   ·unfold numQ; rw [if_neg e]; simp
  generalize (numQ (numQ q 1 16777216).2 1 16777216).1=B at *
  generalize (numQ q 1 16777216).1=A at *
  refine ⟨Int.mul_nonneg ha (by show 0≤B; omega),?_⟩
  have h3:A≤16777216 / B:=by omega
  have h4:=Int.mul_le_mul_of_nonneg_right h3 (by omega:0≤B)
  have h5:=Int.ediv_mul_le 16777216 (by omega:B≠0)
  show A*B≤16777216
  omega
theorem jXZ {p:PP} {k:Nat} (h:p.ok k) (q:LQ) (w:Lb):(zZq p q w).1.ok (k+1):=by
 obtain ⟨h1,h2,h3,h4,h5,h6,h7,h8,h9⟩:=h
 unfold zZq
 split
 ·exact ⟨by simp; omega,by simp; omega,by simp; omega,by simp; omega,h5,h6,h7,h8,h9⟩
 ·split
  ·exact ⟨by simp; omega,by simp; omega,by simp; omega,by simp; omega,(jXz q).1,(jXz q).2,h7,h8,h9⟩
  ·exact ⟨by simp; omega,by simp; omega,by simp; omega,by simp; omega,h5,h6,h7,h8,fun m hm=>by
    rcases List.mem_append.1 hm with hm | hm
    ·exact h9 m hm
    ·rw [List.mem_singleton.1 hm]; exact zYQ _ _ _⟩
theorem jVd {p:PP} {k:Nat} (h:p.ok k) (q:LQ) (w:Lb):(pOp p q w).1.ok (k+1):=by
 obtain ⟨h1,h2,h3,h4,h5,h6,h7,h8,h9⟩:=h
 unfold pOp
 (repeat' split) <;> exact ⟨by simp; omega,by simp; omega,by simp; omega,by simp; omega,h5,h6,h7,h8,h9⟩
theorem jXX (l:List Lb):(zKM l).length≤l.length:=by
 induction l with
 | nil=>exact Nat.le_refl _
 | cons w l ih=>
  unfold zKM
  split
  ·simp; exact ih
  ·simp
theorem jY1 {p:PP} {k:Nat} (h:p.ok k) (t:Lb):(zXx p t).1.ok (k+t.length+1):=by
 have up:∀ {P:PP} {a b:Nat},P.ok a→a≤b→P.ok b:=fun {P a b} h hab=>⟨Nat.le_trans h.1 hab,Nat.le_trans h.2 hab,Nat.le_trans h.3 hab,Nat.le_trans h.4 hab,h.5,h.6,h.7,h.8,h.9⟩
 have p4:PP.ok { p with part:=4 } k:=⟨h.1,h.2,h.3,h.4,h.5,h.6,by simp,by simp,h.9⟩
 have p5:PP.ok { p with part:=5 } k:=⟨h.1,h.2,h.3,h.4,h.5,h.6,by simp,by simp,h.9⟩
 unfold zXx
 split
 ·exact up (jXW h _) (by omega)
 ·simp only
  split
  ·rename_i hp; exact up (jY2 h _ _ hp) (by omega)
  ·split
   ·obtain ⟨h1,h2,h3,h4,h5,h6,h7,h8,h9⟩:=p4
    have hn:=jXX ((zQt t).drop 1)
    have hs:=zK8 t
    rw [List.length_drop] at hn
    unfold zXw
    generalize zKM ((zQt t).drop 1)=L at *
    obtain ⟨g1,g2,g3,g4,g5,g6,g7,g8,g9⟩:=h
    exact ⟨by simp; omega,by simp; omega,by simp; omega,by simp; omega,h5,h6,h7,h8,h9⟩
   ·split
    ·exact up (jXZ p4 _ _) (by omega)
    ·exact up (jVd p5 _ _) (by omega)
theorem jKo (p:PP) (n:Int) (t:Lb):((cutL t).2.2=true→pGo p n [] t=(if (zXx p (cutL t).1).2=true then pGo (zXx p (cutL t).1).1 (n+1) [] (cutL t).2.1 else (zScr,n+1,19))∧(cutL t).1.length+(cutL t).2.1.length+1=t.length) ∧
  ((cutL t).2.2=false→t≠[]→pGo p n [] t=(zScr,n+1,19)):=by
 rcases idx1 10 t with ⟨_,h⟩ | ⟨a,b,rfl,h,_⟩
 ·rw [jYy h]
  refine ⟨fun h=>(by cases h),fun _ hne=>?_⟩
  rw [jJN h,List.nil_append,if_pos hne]
 ·rw [jYz h]
  refine ⟨fun _=>⟨?_,by simp; omega⟩,fun h=>(by cases h)⟩
  rw [jJO h,List.nil_append]
theorem PP.eta_ (p:PP):(⟨p.s,p.part,p.w,p.h,p.px⟩:PP)=p:=rfl
theorem jK3 (t:Lb):((toS t).toList==(⟨#[]⟩:ByteArray).toList)=decide (t=[]):=zJG t []
def v13 (n:Int):Bool:=decide (1≤n∧n < 13)
theorem jKW {l:List Oq} {k:Nat} (h:k < l.length) (hb:(l.take k).all prtO=true) (hk:prtO l[k]=false):fixO l=(k:Int):=by
 unfold fixO
 have:l.findIdx? (fun o=>!prtO o)=some k:=by
  rw [List.findIdx?_eq_some_iff_getElem]
  refine ⟨h,by simp [hk],fun j hj=>?_⟩
  have:=List.all_eq_true.1 hb l[j] (by rw [List.mem_take_iff_getElem]; exact ⟨j,by omega,rfl⟩)
  simp [this]
 rw [this]
theorem jKU {l:List Oq} (hb:l.all prtO=true):fixO l = -1:=by
 unfold fixO
 have:l.findIdx? (fun o=>!prtO o)=none:=by
  rw [List.findIdx?_eq_none_iff]
  intro o ho
  simp [List.all_eq_true.1 hb o ho]
 rw [this]
theorem jKV (l:List Oq):decide (fixO l≥0)=!l.all prtO:=by
 unfold fixO
 cases h:l.findIdx? (fun o=>!prtO o) with
 | some i=>
  rw [List.findIdx?_eq_some_iff_getElem] at h
  obtain ⟨hi,h1,_⟩:=h
  have:l.all prtO=false:=by
   rw [List.all_eq_false]
   exact ⟨l[i],List.getElem_mem hi,by simpa using h1⟩
  rw [this]; simp
 | none=>
  rw [List.findIdx?_eq_none_iff] at h
  have:l.all prtO=true:=List.all_eq_true.2 fun o ho=>by simpa using h o ho
  rw [this]; simp
def gZ40 (xs:List RV):Option RV:=match xs with | [.agg [.int _ okind,.int _ oimage,.int _ ox,.int _ oy,.int _ omask,.int _ omx,.int _ omy,.int _ oopac,.int _ ooper,.int _ omode,.bool oiso,.bool okno]]=>some (RV.d (dQ (prtO (⟨okind,oimage,ox,oy,omask,omx,omy,oopac,ooper,omode,oiso,okno⟩:Oq)))) | _=>none
def jYj:Gam where
 pure:=fun f xs=>
  if f=55 then gZ1 xs else
  if f=56 then gZ3 xs else
  if f=25 then gZ40 xs else
  if f=39 then (match xs with | [.agg [.int _ okind,.int _ oimage,.int _ ox,.int _ oy,.int _ omask,.int _ omx,.int _ omy,.int _ oopac,.int _ ooper,.int _ omode,.bool oiso,.bool okno]]=>some (RV.d (dQ (!prtO (⟨okind,oimage,ox,oy,omask,omx,omy,oopac,ooper,omode,oiso,okno⟩:Oq)))) | _=>none) else
  if f=79 then (match xs with | [.d (.sl qn qxs),.d (.fn 39)]=>some (rJ (fixO (zZ8 qxs))) | _=>none) else
  if f=38 then (match xs with | [.d (.sl qn qxs),.d (.fn 39)]=>some (RV.d (dQ (!(zZ8 qxs).all prtO))) | _=>none) else
  if f=35 then (match xs with | [.d (.str s),.d (.str sep)]=>some (RV.tup [RV.d (DV.str (toS (cutL (ofS s)).1)),RV.d (DV.str (toS (cutL (ofS s)).2.1)),RV.d (dQ (cutL (ofS s)).2.2)]) | _=>none) else
  if f=24 then gZ22 xs else
  none
 modes:=fun f=>
  if f=36 then some ([false,true],1,4) else
  if f=37 then some ([false],5,0) else
  none
 proc:=fun f xs bs=>
  if f=36 then (match xs,bs with | [AV.one (Cl.ptr 0 0),AV.one (Cl.d (DV.str t))],[Bx.cells [Cl.d (DV.int _ bits),Cl.d (DV.int _ cx0),Cl.d (DV.int _ cy0),Cl.d (DV.int _ cx1),Cl.d (DV.int _ cy1),Cl.d (DV.int _ tw),Cl.d (DV.int _ th),Cl.ref 1 on,Cl.ref 2 mn,Cl.ref 3 qn,Cl.d (DV.int _ part),Cl.d (DV.int _ w),Cl.d (DV.int _ h),Cl.ref 4 ln],Bx.row _ _ oxs,Bx.row _ _ mxs,Bx.row _ _ qxs,Bx.row _ _ lxs]=>let a:=(zXx (⟨⟨bits,⟨cx0,cy0,cx1,cy1⟩,tw,th,ints oxs,zYu mxs,zZ8 qxs⟩,part,w,h,zQk lxs⟩:PP) (ofS t)); some ⟨AV.one (Cl.d (DV.bool a.2)),[Bx.cells (ppC a.1 a.1.part 1),Bx.row 3 1 (is a.1.s.ord),Bx.row 43 28 (ims a.1.s.ims),Bx.row 51 12 (ops a.1.s.ops),Bx.row 37 5 (pxs a.1.px)],false⟩ | _,_=>none) else
  if f=37 then gZ39 xs bs else
  none
 iter:=fun f cs=>
  none
theorem zYn (o:Oq):Ans prog 25 [RV.agg [dJ o.kind,dJ o.image,dJ o.x,dJ o.y,dJ o.mask,dJ o.mx,dJ o.my,dK o.opac,dJ o.oper,dJ o.mode,dQ o.iso,dQ o.kno]] (RV.d (dQ (prtO o))):=
 zQj (Γ:=jYj) Ann.leaf zQy Tryz.func25 rfl (Nat.le_of_ble_eq_true rfl) fun hwf=>by
  refine Eq.mpr (by kernel_rfl:_=(let c:=(zQo o.oper); let a:=(dQ (prtO o)); let b:=(RV.d (dQ false)=RV.d a); let d:=(Ans prog 55 [rJ o.oper] (RV.d (DV.str c))); let e:=(((!(c.toList==(⟨#[]⟩:ByteArray).toList))=true→tU2 ((Ans prog 56 [rJ o.mode] (RV.d (DV.str (zQf o.mode))))∧tU3 (RV.d (dQ (!((zQf o.mode).toList==(⟨#[]⟩:ByteArray).toList)))=RV.d a)))∧((!(c.toList==(⟨#[]⟩:ByteArray).toList))=(!true)→tU2 b)); tU6 (((o.kind==1)=true→tU3 ((o.iso=false→tU3 ((o.kno=true→True∧RV.d (dQ false)=RV.d a)∧(o.kno=false→tU2 (d∧tU2 e))))∧(o.iso=(!false)→tU2 b)))∧((o.kind==1)=false→tU2 (((o.kind==2)=true→tU4 (((o.image != 0)=false→tU5 (((o.x != 0)=false→tU4 (((o.y != 0)=true→True∧RV.d (dQ false)=RV.d a)∧((o.y != 0)=false→tU2 (d∧tU2 e))))∧((o.x != 0)=(!false)→tU2 b)))∧((o.image != 0)=(!false)→tU4 b)))∧((o.kind==2)=false→tU2 (((o.kind==3)=true→tU4 (RV.d (dQ ((o.kind==3) && ((o.image==0) && ((o.x==0) && ((o.y==0) && ((o.mask==0) && ((o.mx==0) && ((o.my==0) && ((o.opac==0) && ((o.oper==0) && ((o.mode==0) && ((o.iso==false) && ((o.kno==false) && true)))))))))))))=RV.d a))∧((o.kind==3)=false→True∧RV.d (dQ false)=RV.d a)))))))) ?_
  delta tU2 tU3 tU4 tU5 tU6 dQ rJ
  simp only [sS,ppC,ppE]
  have en:∀ op:Int,((zQo op).toList=(⟨#[]⟩:ByteArray).toList)↔v13 op=false:=fun op=>by
   unfold v13
   by_cases h:1≤op∧op < 13
   ·rw [decide_eq_true h]
    refine ⟨fun e=>absurd e ?_,fun e=>by cases e⟩
    rcases zXM h with rfl | rfl | rfl | rfl | rfl | rfl | rfl | rfl | rfl | rfl | rfl | rfl <;> decide +kernel
   ·rw [decide_eq_false h]
    exact ⟨fun _=>rfl,fun _=>by simp [zQo,h]⟩
  have em:∀ op:Int,(!((zQf op).toList==(⟨#[]⟩:ByteArray).toList))=v13 op:=fun op=>by
   unfold v13
   by_cases h:1≤op∧op < 13
   ·rw [decide_eq_true h]
    rcases zXM h with rfl | rfl | rfl | rfl | rfl | rfl | rfl | rfl | rfl | rfl | rfl | rfl <;> decide +kernel
   ·rw [decide_eq_false h]
    simp [zQf,h]
  have aN:=zQ3 o.oper
  have aM:=zZP o.mode
  have pe:o.kind=3→(o.kind==3 && (o.image==0 && (o.x==0 && (o.y==0 && (o.mask==0 && (o.mx==0 && (o.my==0 && (o.opac==0 && (o.oper==0 && (o.mode==0 && (o.iso==false && (o.kno==false && true))))))))))))=decide (o=popO):=fun h=>by
   rw [Bool.eq_iff_iff]
   obtain ⟨a,b,c,d,e,f,g,h,i,j,k,l⟩:=o
   simp [popO]
  have p0:prtO o=(if o.kind=1 then !o.iso && !o.kno && v13 o.oper && v13 o.mode
   else if o.kind=2 then decide (o.image=0) && decide (o.x=0) && decide (o.y=0) && v13 o.oper && v13 o.mode
   else if o.kind=3 then decide (o=popO) else false):=rfl
  clear hwf
  simp only [ne_eq,en,em,beq_iff_eq,beq_eq_false_iff_ne,bne_iff_ne,bne_eq_false_iff_eq] at *
  rw [p0]
  clear p0 en em
  generalize v13 o.oper=vo at *
  generalize v13 o.mode=vm at *
  (repeat' (first | apply And.intro | intro _)) <;> first | exact aN | exact aM | (simp only [*]; done) | (clear aN aM; simp_all; done) | (clear aN aM; cases vo <;> cases vm <;> simp_all; done)
theorem zVM (o:Oq):Ans prog 39 [RV.agg [dJ o.kind,dJ o.image,dJ o.x,dJ o.y,dJ o.mask,dJ o.mx,dJ o.my,dK o.opac,dJ o.oper,dJ o.mode,dQ o.iso,dQ o.kno]] (RV.d (dQ (!prtO o))):=
 zQj (Γ:=jYj) Ann.leaf zQy Tryz.func39 rfl (Nat.le_of_ble_eq_true rfl) fun hwf=>by
  refine Eq.mpr (by kernel_rfl:_=(tU3 ((Ans prog 25 [RV.agg (Oq.cells o)] (RV.d (dQ (prtO o))))∧tU2 (RV.d (dQ (!(prtO o)))=RV.d (dQ (!prtO o)))))) ?_
  delta tU2 tU3 dQ
  simp only [sS,ppC,ppE]
  exact zYn o
theorem zVq (l:List Oq):Ans prog 79 [RV.d (dS l.length (ops l)),RV.d (DV.fn 39)] (rJ ((fixO (zZ8 (ops l))))):=
 zQj (Γ:=jYj) (Ann.seq Ann.leaf (Ann.seq (Ann.seq Ann.leaf (Ann.loop ⟨Nat,fun k=>k≤l.length∧(l.take k).all prtO=true,fun k=>⟨[(0,AV.one (Cl.d (dS l.length (ops l)))),(1,AV.one (Cl.d (DV.fn 39))),(7,aJ (l.length:Int)),(8,aJ (k:Int))],[]⟩,fun k=>l.length - k⟩ fun k=>Ann.leaf)) Ann.leaf)) zQy Tryz.func79 rfl (Nat.le_of_ble_eq_true rfl) fun hwf=>by
  refine Eq.mpr (by kernel_rfl:_=(let a:=(l.length:Int); let q:=fun (k:Nat)=>(k≤l.length∧(l.take k).all prtO=true); let r:=(dS l.length (ops l)=dS l.length (ops l)); let s:=(DV.fn 39=DV.fn 39); let t:=(dJ a=dJ a); let u:=(dJ (fixO (zZ8 (ops l)))); tU4 ((∃ k:Nat,(q k)∧((r∧s∧t∧(dJ 0=dJ (k:Int))∧True)∧True))∧∀ k:Nat,let v:=(decide ((k:Int) < a)); let b:=(nAt (ops l) ((k:Int).toNat*12)); let c:=(nAt (ops l) ((k:Int).toNat*12+1)); let d:=(nAt (ops l) ((k:Int).toNat*12+1+1)); let e:=(nAt (ops l) ((k:Int).toNat*12+1+1+1)); let f:=(bAt (ops l) ((k:Int).toNat*12+1+1+1+1+1+1+1+1+1+1)); let g:=(nAt (ops l) ((k:Int).toNat*12+1+1+1+1+1+1+1+1+1)); let h:=(nAt (ops l) ((k:Int).toNat*12+1+1+1+1+1+1+1+1)); let i:=(nAt (ops l) ((k:Int).toNat*12+1+1+1+1+1+1+1)); let j:=(nAt (ops l) ((k:Int).toNat*12+1+1+1+1+1+1)); let m:=(nAt (ops l) ((k:Int).toNat*12+1+1+1+1+1)); let n:=(nAt (ops l) ((k:Int).toNat*12+1+1+1+1)); let o:=(bAt (ops l) ((k:Int).toNat*12+1+1+1+1+1+1+1+1+1+1+1)); let p:=(!prtO (⟨b,c,d,e,n,m,j,i,h,g,f,o⟩:Oq)); (q k)→True∧((v=true→tU5 ((0≤(k:Int)∧(k:Int) < a∧(k:Int).toNat*12 < (ops l).length)∧(((ops l)[(k:Int).toNat*12]?=some (dJ b))∧((ops l)[(k:Int).toNat*12+1]?=some (dJ c))∧((ops l)[(k:Int).toNat*12+1+1]?=some (dJ d))∧((ops l)[(k:Int).toNat*12+1+1+1]?=some (dJ e))∧((ops l)[(k:Int).toNat*12+1+1+1+1]?=some (dJ n))∧((ops l)[(k:Int).toNat*12+1+1+1+1+1]?=some (dJ m))∧((ops l)[(k:Int).toNat*12+1+1+1+1+1+1]?=some (dJ j))∧((ops l)[(k:Int).toNat*12+1+1+1+1+1+1+1]?=some (dK i))∧((ops l)[(k:Int).toNat*12+1+1+1+1+1+1+1+1]?=some (dJ h))∧((ops l)[(k:Int).toNat*12+1+1+1+1+1+1+1+1+1]?=some (dJ g))∧((ops l)[(k:Int).toNat*12+1+1+1+1+1+1+1+1+1+1]?=some (dQ f))∧((ops l)[(k:Int).toNat*12+1+1+1+1+1+1+1+1+1+1+1]?=some (dQ o))∧True)∧(Ans prog 39 [RV.agg [dJ b,dJ c,dJ d,dJ e,dJ n,dJ m,dJ j,dK i,dJ h,dJ g,dQ f,dQ o]] (RV.d (dQ p)))∧((p=true→tU2 (rJ (k:Int)=RV.d u))∧(p=false→tU2 (∃ k':Nat,(k'≤l.length∧(l.take k').all prtO=true)∧(l.length - k' < l.length - k)∧((r∧s∧t∧(dJ (wK ((k:Int)+1))=dJ (k':Int))∧True)∧True))))))∧(v=false→True∧rJ (-1:Int)=RV.d u))))) ?_
  delta tU2 tU4 tU5 dJ dK dQ wK dS rJ
  simp only [sS,ppC,ppE]
  have hos:l.length≤9223372036854775807:=by
   simp only [RV.wfs,RV.wf,DV.wf,DV.wfs,maxLen] at hwf
   omega
  clear hwf
  rw [zZe]
  refine ⟨⟨0,⟨Nat.zero_le _,rfl⟩,rfl⟩,fun k hk=>⟨fun hlt=>?_,fun hge=>?_⟩⟩
  ·have h:k < l.length:=by omega
   obtain ⟨hk1,hk2⟩:=hk
   obtain ⟨q0,q1,q2,q3,q4,q5,q6,q7,q8,q9,q10,q11⟩:=zVx h
   obtain ⟨r0,r1,r2,r3,r4,r5,r6,r7,r8,r9,r10,r11⟩:=zVy h
   have hml:=zQ5 l
   have aP:=zVM l[k]
   have wi:IntKind.wrap .i64 ((k:Int)+1)=((k+1:Nat):Int):=by rw [IntWalk.i64_in _ ⟨by omega,by omega⟩]; omega
   have hts:l.take (k+1)=l.take k++[l[k]]:=by rw [List.take_add_one,List.getElem?_eq_getElem h]; rfl
   simp only [r0,r1,r2,r3,r4,r5,r6,r7,r8,r9,r10,r11,wi]
   refine ⟨⟨by omega,by omega,by omega⟩,⟨q0,q1,q2,q3,q4,q5,q6,q7,q8,q9,q10,q11⟩,aP,fun hp=>?_,fun hp=>⟨k+1,⟨by omega,?_⟩,by omega,rfl⟩⟩
   ·exact (jKW h hk2 hp).symm
   ·rw [hts,List.all_append,hk2]
    have hp:prtO l[k]=true:=hp
    simp [hp]
  ·have:k=l.length:=by omega
   subst this
   have hk2:=hk.2
   rw [List.take_length] at hk2
   exact (jKU hk2).symm
theorem zJ6 (l:List Oq):Ans prog 38 [RV.d (dS l.length (ops l)),RV.d (DV.fn 39)] (RV.d (dQ (!(zZ8 (ops l)).all prtO))):=
 zQj (Γ:=jYj) Ann.leaf zQy Tryz.func38 rfl (Nat.le_of_ble_eq_true rfl) fun hwf=>by
  refine Eq.mpr (by kernel_rfl:_=(tU3 ((Ans prog 79 [RV.d (dS l.length (ops l)),RV.d (DV.fn 39)] (rJ (fixO (zZ8 (ops l)))))∧tU2 (RV.d (dQ (decide ((fixO (zZ8 (ops l)))≥0)))=RV.d (dQ (!(zZ8 (ops l)).all prtO)))))) ?_
  delta tU2 tU3 dQ dS rJ
  simp only [sS,ppC,ppE]
  rw [zZe]
  exact ⟨(by have:=zVq l; rw [zZe] at this; exact this),jKV l⟩
theorem zXJ (w:Lb) (hw:w.length < 4294967281):Ans prog 15 [RV.d (DV.str (toS w))] (RV.tup [RV.agg [dJ ((zZn (ofS (toS w))).1.bits),dJ ((zZn (ofS (toS w))).1.c.a),dJ ((zZn (ofS (toS w))).1.c.b),dJ ((zZn (ofS (toS w))).1.c.c),dJ ((zZn (ofS (toS w))).1.c.d),dJ ((zZn (ofS (toS w))).1.tw),dJ ((zZn (ofS (toS w))).1.th),dS ((zZn (ofS (toS w))).1.ord.length) (is (zZn (ofS (toS w))).1.ord),dS ((zZn (ofS (toS w))).1.ims.length) (ims (zZn (ofS (toS w))).1.ims),dS ((zZn (ofS (toS w))).1.ops.length) (ops (zZn (ofS (toS w))).1.ops)],rJ (((zZn (ofS (toS w))).2.1)),rJ (((zZn (ofS (toS w))).2.2))]):=
 zQj (Γ:=jYj) (Ann.seq Ann.leaf (Ann.seq Ann.leaf (Ann.seq Ann.leaf (Ann.seq (Ann.loop ⟨PP × Int × Lb,fun x:PP × Int × Lb=>pGo x.1 x.2.1 [] x.2.2=zZn w∧x.1.ok (w.length - x.2.2.length)∧x.2.2.length≤w.length∧0≤x.2.1∧x.2.1≤w.length - x.2.2.length,fun x:PP × Int × Lb=>⟨[(0,AV.one (Cl.d (DV.str (toS x.2.2)))),(2,AV.one (Cl.ptr 2 0)),(5,AV.one (Cl.ptr 11 0)),(6,aJ x.2.1)],[(2,bC [cJ 0,cJ 0,cJ 0,cJ 0,cJ 0,cJ 0,cJ 0,Cl.nil,Cl.nil,Cl.nil]),(11,Bx.cells (ppC x.1 x.1.part 9001)),(9001,Bx.row 3 1 (is x.1.s.ord)),(9002,Bx.row 43 28 (ims x.1.s.ims)),(9003,Bx.row 51 12 (ops x.1.s.ops)),(9004,Bx.row 37 5 (pxs x.1.px))]⟩,fun x:PP × Int × Lb=>x.2.2.length⟩ fun x=>Ann.leaf) Ann.leaf)))) zQy Tryz.func15 rfl (Nat.le_of_ble_eq_true rfl) fun hwf=>by
  refine Eq.mpr (by kernel_rfl:_=(let a:=(zZn (ofS (toS w))); let k:=fun (x:PP × Int × Lb)=>(pGo x.1 x.2.1 [] x.2.2=zZn w∧x.1.ok (w.length - x.2.2.length)∧x.2.2.length≤w.length∧0≤x.2.1∧x.2.1≤w.length - x.2.2.length); let c:=(dJ 0=dJ 0); let l:=(c∧c∧c∧c∧c∧c∧c∧tU3 True); let m:=fun (x:PP × Int × Lb)=>(DV.str (toS (cutL (ofS (toS x.2.2))).1)); let g:=fun (x:PP × Int × Lb)=>[Bx.cells (ppC x.1 x.1.part 1),Bx.row 3 1 (is x.1.s.ord),Bx.row 43 28 (ims x.1.s.ims),Bx.row 51 12 (ops x.1.s.ops),Bx.row 37 5 (pxs x.1.px)]; let n:=[dJ 0,dJ 0,dJ 0,dJ 0,dJ 0,dJ 0,dJ 0,dS 0 ([]),dS 0 ([]),dS 0 ([])]; let o:=fun (x:PP × Int × Lb)=>(wK (x.2.1+1)); let r:=fun (x:PP × Int × Lb)=>[RV.agg n,rJ (o x),rJ 19]; let e:=[RV.agg [dJ a.1.bits,dJ a.1.c.a,dJ a.1.c.b,dJ a.1.c.c,dJ a.1.c.d,dJ a.1.tw,dJ a.1.th,dS a.1.ord.length (is a.1.ord),dS a.1.ims.length (ims a.1.ims),dS a.1.ops.length (ops a.1.ops)],rJ a.2.1,rJ a.2.2]; let p:=fun (x:PP × Int × Lb)=>[dJ x.1.s.bits,dJ x.1.s.c.a,dJ x.1.s.c.b,dJ x.1.s.c.c,dJ x.1.s.c.d,dJ x.1.s.tw,dJ x.1.s.th,dS x.1.s.ord.length (is x.1.s.ord),dS x.1.s.ims.length (ims x.1.s.ims),dS x.1.s.ops.length (ops x.1.s.ops)]; let q:=[RV.agg n,rJ 0,rJ 19]; tU7 ((∃ x:PP × Int × Lb,(k x)∧(((DV.str (toS w)=DV.str (toS x.2.2))∧(0=0)∧(0=0)∧(dJ 0=dJ x.2.1)∧True)∧(l∧((dJ 0=dJ x.1.s.bits)∧(dJ 0=dJ x.1.s.c.a)∧(dJ 0=dJ x.1.s.c.b)∧(dJ 0=dJ x.1.s.c.c)∧(dJ 0=dJ x.1.s.c.d)∧(dJ 0=dJ x.1.s.tw)∧(dJ 0=dJ x.1.s.th)∧(0=x.1.s.ord.length)∧(0=x.1.s.ims.length)∧(0=x.1.s.ops.length)∧(dJ 0=dJ x.1.part)∧(dJ 0=dJ x.1.w)∧(dJ 0=dJ x.1.h)∧(0=x.1.px.length)∧True)∧([]=is x.1.s.ord)∧([]=ims x.1.s.ims)∧([]=ops x.1.s.ops)∧([]=pxs x.1.px)∧True)))∧∀ x:PP × Int × Lb,let h:=(decide (x.1.h > 0)); let i:=(!(zZ8 (ops x.1.s.ops)).all prtO); let f:=(RV.tup (r x)=RV.tup e); let d:=(cutL (ofS (toS x.2.2))); let b:=(zXx (⟨(sE x.1.s),x.1.part,x.1.w,x.1.h,zQk (pxs x.1.px)⟩:PP) (ofS (toS d.1))); let j:=(zZU ((sE x.1.s):Scr)); (k x)→tU2 (((!((toS x.2.2).toList==(⟨#[]⟩:ByteArray).toList))=true→tU4 ((Ans prog 35 [RV.d (DV.str (toS x.2.2)),RV.d (DV.str (⟨#[10]⟩:ByteArray))] (RV.tup [RV.d (m x),RV.d (DV.str (toS d.2.1)),RV.d (dQ d.2.2)]))∧tU2 (tU8 (((!d.2.2)=false→tU2 ((AnsG prog 36 1 [aPz,AV.one (Cl.d (m x))] (g x) ⟨AV.one (Cl.d (dQ b.2)),[Bx.cells (ppC b.1 b.1.part 1),Bx.row 3 1 (is b.1.s.ord),Bx.row 43 28 (ims b.1.s.ims),Bx.row 51 12 (ops b.1.s.ops),Bx.row 37 5 (pxs b.1.px)],false⟩)∧tU2 (((!b.2)=true→tU5 f)∧((!b.2)=false→tU2 (∃ x':PP × Int × Lb,(pGo x'.1 x'.2.1 [] x'.2.2=zZn w∧x'.1.ok (w.length - x'.2.2.length)∧x'.2.2.length≤w.length∧0≤x'.2.1∧x'.2.1≤w.length - x'.2.2.length)∧(x'.2.2.length < x.2.2.length)∧(((DV.str (toS d.2.1)=DV.str (toS x'.2.2))∧(0=0)∧(0=0)∧(dJ (o x)=dJ x'.2.1)∧True)∧(l∧ppE b.1 x'.1)))))))∧((!d.2.2)=(!false)→tU6 f)))))∧((!((toS x.2.2).toList==(⟨#[]⟩:ByteArray).toList))=false→tU6 (((decide (x.1.part≤2))=false→True∧(AnsG prog 37 5 [aPz] (g x) ⟨AV.one (Cl.d (dQ h)),(g x),false⟩)∧True∧((h=true→tU6 f)∧(h=false→tU4 ((Ans prog 24 [RV.agg (p x)] (RV.d (dQ j)))∧tU2 (((!j)=false→tU5 ((Ans prog 38 [RV.d (dS x.1.s.ops.length (ops x.1.s.ops)),RV.d (DV.fn 39)] (RV.d (dQ i)))∧True∧((i=true→tU4 (RV.tup q=RV.tup e))∧(i=false→tU7 (RV.tup [RV.agg (p x),rJ 0,rJ 0]=RV.tup e)))))∧((!j)=(!false)→tU5 (RV.tup q=RV.tup e)))))))∧((decide (x.1.part≤2))=(!false)→tU7 f))))))) ?_
  delta sE tU2 tU3 tU4 tU5 tU6 tU7 tU8 dJ dQ wK dS rJ aPz
  simp only [sS,ppC,ppE]
  simp only [zZM,zQM,zZx,zZe,zZd,zQE,zQX]
  clear hwf
  refine ⟨⟨(zPP,0,w),⟨rfl,⟨by simp [zPP,zScr],by simp [zPP,zScr],by simp [zPP,zScr],by simp [zPP,zScr],by simp [zPP],by simp [zPP],by simp [zPP],by simp [zPP],fun m hm=>by simp [zPP,zScr] at hm⟩,Nat.le_refl _,Int.le_refl _,by simp⟩,⟨rfl,rfl⟩,(by (repeat' apply And.intro) <;> first | rfl | trivial)⟩,fun x hx=>?_⟩
  obtain ⟨p,n,t⟩:=x
  obtain ⟨e,ok,hl,n0,n1⟩:=hx
  simp only [Scr.eta_,PP.eta_,jK3,decide_eq_true_eq,decide_eq_false_iff_not] at *
  obtain ⟨c1,c2⟩:=jKo p n t
  have hcl:=jZH t
  obtain ⟨k1,k2,k3,k4,k5,k6,k7,k8,k9⟩:=ok
  have aL:=zJ4 p (cutL t).1 (by omega) (by omega) (by omega) (by omega) (by omega) ⟨k5,k6⟩ ⟨k7,k8⟩
  have aI:=zXC p
  have aE:=zXZ p.s k9 (by omega)
  have aC:=zJ6 p.s.ops
  simp only [zQM,zZx,zZe,zZd,zQX,Scr.eta_,PP.eta_] at aL aE aC
  have wn:IntKind.wrap .i64 (n+1)=n+1:=IntWalk.i64_in _ ⟨by omega,by omega⟩
  rw [wn]
  refine ⟨fun h1=>⟨jK5 t (by omega),fun h2=>⟨aL,fun h3=>?_,fun h3=>?_⟩,fun h2=>?_⟩,fun h1=>⟨fun h2=>⟨aI,fun h3=>?_,fun h3=>⟨aE,fun h4=>⟨aC,fun h5=>?_,fun h5=>?_⟩,fun h4=>?_⟩⟩,fun h2=>?_⟩⟩
  ·rw [← e,(c1 h2).1,h3,if_neg (by decide)]; exact (by (repeat' apply And.intro) <;> first | rfl | trivial)
  ·obtain ⟨d1,d2⟩:=c1 h2
   rw [h3,if_pos rfl] at d1
   have ok':=jY1 ⟨k1,k2,k3,k4,k5,k6,k7,k8,k9⟩ (cutL t).1
   refine ⟨((zXx p (cutL t).1).1,n+1,(cutL t).2.1),⟨d1.symm.trans e,?_,by show (cutL t).2.1.length≤_; omega,by show 0≤n+1; omega,by show n+1≤_ - (((cutL t).2.1.length:Nat):Int); omega⟩,by show (cutL t).2.1.length < _; omega,⟨rfl,rfl⟩,(by (repeat' apply And.intro) <;> first | rfl | trivial)⟩
   rw [show w.length - (cutL t).2.1.length=w.length - t.length+(cutL t).1.length+1 by omega]
   exact ok'
  ·rw [← e,c2 h2 h1]; exact (by (repeat' apply And.intro) <;> first | rfl | trivial)
  ·subst h1
   have e:pEnd p n=zZn w:=e
   rw [← e]; unfold pEnd; rw [if_pos (.inr h3)]; exact (by (repeat' apply And.intro) <;> first | rfl | trivial)
  ·subst h1
   have e:pEnd p n=zZn w:=e
   rw [← e]; unfold pEnd; rw [if_neg (fun h=>h.elim h2 h3),if_neg (fun h=>by rw [h5] at h; exact absurd h.2 (by decide))]; exact (by (repeat' apply And.intro) <;> first | rfl | trivial)
  ·subst h1
   have e:pEnd p n=zZn w:=e
   rw [← e]; unfold pEnd; rw [if_neg (fun h=>h.elim h2 h3),if_pos ⟨h4,h5⟩]; exact (by (repeat' apply And.intro) <;> first | rfl | trivial)
  ·subst h1
   have e:pEnd p n=zZn w:=e
   rw [← e]; unfold pEnd; rw [if_neg (fun h=>h.elim h2 h3),if_neg (fun h=>by rw [h4] at h; exact absurd h.1 (by decide))]; exact (by (repeat' apply And.intro) <;> first | rfl | trivial)
  ·subst h1
   have e:pEnd p n=zZn w:=e
   rw [← e]; unfold pEnd; rw [if_pos (.inl h2)]; exact (by (repeat' apply And.intro) <;> first | rfl | trivial)
end
set_option maxRecDepth 100000 in
theorem zHT (g:Nat) (w:World) (h0:w.cell? ⟨g,0,none⟩=some (.pointer (some ⟨g,0,none⟩))) :
  Calls prog 98 #[.pointer (some ⟨g,0,none⟩)] w fun e w'=>e=.returned (.tuple #[])∧w'=w:=by
 have hi:(prog.info? 82).map (·.size)=some 2:=by kernel_rfl
 obtain ⟨j,hj,_⟩:=Option.map_eq_some_iff.1 hi
 go_enter Tryz.func98,Tryz.ntmps98
 go_wp2
 rw [Lib.run_neq_ptr_same w _ Tryz.underlying79 hj]
 go_wp2
 go_end0
 exact ⟨rfl,rfl⟩
set_option maxHeartbeats 1000000 in
set_option maxRecDepth 100000 in
theorem zGH (g T:Nat) (w:World) (h0:w.cell? ⟨g,0,none⟩=some (.pointer none)) (hsh:w.shape? g=some (T,2)) (hT:T∈zXW) (hfz:w.frozen? ⟨g,0,none⟩=false) :
  Calls prog 98 #[.pointer (some ⟨g,0,none⟩)] w fun e w'=>e=.returned (.tuple #[])∧w'=w.setCell ⟨g,0,none⟩ (.pointer (some ⟨g,0,none⟩)):=by
 have hi:(prog.info? 82).map (·.size)=some 2:=by kernel_rfl
 obtain ⟨j,hj,hjs'⟩:=Option.map_eq_some_iff.1 hi
 have hjs:j.size≠0:=by rw [hjs']; decide
 have hlies:liesAt prog prog.depth T (2 / prog.cellsOf T) 0 82 1=true:=by
  simp only [zXW,List.mem_cons,List.not_mem_nil,or_false] at hT
  rcases hT with rfl | rfl <;> kernel_rfl
 have hto:=Lib.run_to_unsafe (P:=prog) w ⟨g,0,none⟩ Tryz.underlying79 Tryz.underlying177 hj hjs hsh (Nat.zero_lt_succ 1)
 have hfrom:=Lib.run_from_unsafe (P:=prog) w ⟨g,0,none⟩ Tryz.underlying177 Tryz.underlying79 hj hsh hlies
 go_enter Tryz.func98,Tryz.ntmps98
 go_wp2
 rw [run_callFunc_extern Tryz.func124 (by kernel_rfl) (by kernel_rfl) (by kernel_rfl) (e:=Extern.AbiNoEscape.same) (by kernel_rfl)]
 rw [Lib.run_noEscape]
 simp only [Result.andThen]
 rw [Oper.upon_value]
 go_wp2
 go_end0
 exact ⟨rfl,rfl⟩
theorem jXm {w:World} {S:Nat→Prop} {ι:zQA} {args:List AV} {ins:List Bx} {vs:List Value} {res:AV} {v:Value} (pin:Nat) (hh:zJL w S ι args ins vs)
  (hr:zQr w (zJc w S ι ins ⟨res,ins,false⟩ ι) ι (zQI ins) res v):jJF w S ι pin ins ⟨res,ins,false⟩ w ι v:=by
 have hk:zZt w S w (zJc w S ι ins ⟨res,ins,false⟩ ι):=fun g off u hV hu=>⟨⟨.inl ⟨rfl,hV⟩,fun ⟨b,c,hl,e⟩=>(hh.own b g c hl e).1 hV⟩,hu⟩
 exact ⟨hr,fun b=>(hh.bx b).seen hk,fun b g c hl e=>⟨.inr ⟨b,c,hl,e⟩,(hh.own b g c hl e).2⟩,hh.dist,fun b _=>rfl,Bel.refl _ _⟩
theorem zYt (n:Nat) (xs:List DV):AnsG prog 98 1 [aPz] [bC [Cl.ptr 0 0,Cl.ref 1 n],Bx.row 5 1 xs] ⟨AV.tup [],[bC [Cl.ptr 0 0,Cl.ref 1 n],Bx.row 5 1 xs],false⟩:=by
 intro w S ι vs hG hh
 obtain ⟨vs⟩:=vs
 have ha:=hh.args
 match vs,ha with
 | [v],ha=>
  simp only [RepAVs,zQr,zQG,and_true] at ha
  obtain ⟨_,g,c,hι,rfl⟩:=ha
  have h0:=hh.bx 0
  have hb0:zQI [Bx.cells [Cl.ptr 0 0,Cl.ref 1 n],Bx.row 5 1 xs] 0=Bx.cells [Cl.ptr 0 0,Cl.ref 1 n]:=rfl
  rw [hb0] at h0
  obtain ⟨g',c',cur,T,e1,e2,e0,e3⟩:=h0
  rw [hι] at e1
  simp only [Option.some.injEq,Prod.mk.injEq] at e1
  obtain ⟨rfl,rfl⟩:=e1
  obtain ⟨cur⟩:=cur
  match cur,e3 with
  | [a,b],e3=>
   simp only [zQQ,zQG] at e3
   obtain ⟨⟨_,g2,c2,e4,rfl⟩,_⟩:=e3
   rw [hι] at e4
   simp only [Option.some.injEq,Prod.mk.injEq] at e4
   obtain ⟨rfl,rfl⟩:=e4
   refine (zHT g w (by simp [World.cell?,e2])).mono ?_
   rintro e w' ⟨rfl,rfl⟩
   exact ⟨_,ι,rfl,jXm 1 hh (by simp only [zQr]; exact ⟨_,rfl,trivial⟩)⟩
theorem zKt:AnsG prog 98 1 [aPz] [bC [Cl.lit (Value.pointer none),Cl.nil]] ⟨AV.tup [],[bC [Cl.ptr 0 0,Cl.ref 1 0],Bx.row 5 1 []],false⟩:=by
 intro w S ι vs hG hh
 obtain ⟨vs⟩:=vs
 have ha:=hh.args
 match vs,ha with
 | [v],ha=>
  simp only [RepAVs,zQr,zQG,and_true] at ha
  obtain ⟨_,g,c,hι,rfl⟩:=ha
  have h0:=hh.bx 0
  have hb0:zQI [Bx.cells [Cl.lit (Value.pointer none),Cl.nil]] 0=Bx.cells [Cl.lit (Value.pointer none),Cl.nil]:=rfl
  rw [hb0] at h0
  obtain ⟨g',c',cur,T,e1,e2,e0,e3⟩:=h0
  rw [hι] at e1
  simp only [Option.some.injEq,Prod.mk.injEq] at e1
  obtain ⟨rfl,rfl⟩:=e1
  obtain ⟨cur⟩:=cur
  match cur,e3 with
  | [a,b],e3=>
   simp only [zQQ,zQG] at e3
   obtain ⟨⟨rfl,_⟩,rfl,_⟩:=e3
   have hT:T∈zXW:=(e0 rfl).resolve_left (by simp [zXW])
   have hg:g < w.heap.size:=(Array.getElem?_eq_some_iff.1 e2).1
   refine (zGH g T w (by simp [World.cell?,e2]) (by simp [World.shape?,e2]) hT (Lib.frozen_of_heap e2 0)).mono ?_
   rintro e w' ⟨rfl,rfl⟩
   have hsz:(w.setCell ⟨g,0,none⟩ (.pointer (some ⟨g,0,none⟩))).heap.size=w.heap.size:=by simp [World.setCell]
   have hnew:(w.setCell ⟨g,0,none⟩ (.pointer (some ⟨g,0,none⟩))).heap[g]?=some (.cells #[.pointer (some ⟨g,0,none⟩),.slice none 0 0] T (0,0)):=by
    obtain ⟨hlt,hk⟩:=Array.getElem?_eq_some_iff.1 e2
    show (w.heap.modify g _)[g]?=_
    rw [Array.getElem?_eq_getElem (by rw [Array.size_modify]; exact hlt),Array.getElem_modify_self,hk]
    rfl
   refine ⟨_,fun b=>if b=1 then none else ι b,rfl,?_,fun b=>?_,fun b g' c' hl e=>?_,fun b b' g' c' c'' hl hl' hne e=>?_,fun b hb=>?_,?_⟩
   ·simp only [zQr]; exact ⟨_,rfl,trivial⟩
   ·match b with
    | 0=>exact ⟨g,c,_,T,by simpa using hι,hnew,(fun h=>by cases h),⟨rfl,g,c,by simpa using hι,rfl⟩,⟨rfl,.inl ⟨rfl,rfl,rfl⟩⟩,trivial⟩
    | 1=>exact .inl ⟨rfl,rfl⟩
    | b+2=>trivial
   ·match b with
    | 0=>
     have e:ι 0=some (g',c'):=by simpa using e
     rw [hι] at e
     simp only [Option.some.injEq,Prod.mk.injEq] at e
     obtain ⟨rfl,rfl⟩:=e
     exact ⟨.inr ⟨0,c,rfl,hι⟩,by rw [hsz]; exact hg⟩
    | 1=>simp at e
    | b+2=>cases hl
   ·match b,b' with
    | 0,0=>exact absurd rfl hne
    | 0,1=>simp
    | 1,_=>simp at e
    | b+2,_=>cases hl
    | 0,b'+2=>cases hl'
   ·have:b=0:=by omega
    subst this; rfl
   ·refine ⟨rfl,rfl,rfl,by rw [hsz]; exact Nat.le_refl _,fun g' hg' hl=>?_⟩
    refine Below.heap_setCell w _ _ g' fun e=>hl ?_
    exact ⟨0,c,rfl,by rw [hι]; simp at e; rw [e]⟩
section
attribute [local irreducible] Ans AnsO AnsG AnsN AnsI
open Go.Lib
def digW (l:List Int):List Lb:=l.map itoa
def zQ4:List Lb→Lb
 | []=>[]
 | w::ws=>w++ws.flatMap fun x=>32::x
def zZc (ws:List Lb):Lb:=zQ4 ws++[10]
theorem zUM {l:List Lb} {k:Nat} (h:k < l.length):zQ4 (l.take (k+1))=(if k=0 then l[k] else zQ4 (l.take k)++32::l[k]):=by
 cases l with
 | nil=>simp at h
 | cons w ws=>
  cases k with
  | zero=>simp [zQ4]
  | succ k=>
   have h':k < ws.length:=by simpa using h
   rw [if_neg (by omega),List.take_succ_cons,List.take_succ_cons,zQ4,zQ4,List.take_add_one,List.getElem?_eq_getElem h',List.flatMap_append,List.getElem_cons_succ]
   simp
theorem jZn (l:List Lb) (k:Nat):(zQ4 (l.take k)).length≤(zQ4 l).length:=by
 cases l with
 | nil=>simp
 | cons w ws=>
  cases k with
  | zero=>simp [zQ4]
  | succ k=>
   rw [List.take_succ_cons,zQ4,zQ4]
   conv=>rhs; rw [← List.take_append_drop k ws]
   rw [List.flatMap_append]
   simp
theorem b32:[DV.int .u8 32]=zQg (toS [32]):=rfl
theorem b10:[DV.int .u8 10]=zQg (toS [10]):=rfl
theorem zZo (l m:Lb):zQg (toS l)++zQg (toS m)=zQg (toS (l++m)):=by simp [zQg,toS]
theorem zJ1 (s:ByteArray):(zQg s).length=s.size:=by simp [zQg]
def gZ41 (xs:List AV) (bs:List Bx):Option Ret:=match xs,bs with | [AV.one (Cl.d (DV.sl kn kxs))],[]=>some ⟨AV.one (Cl.ref 0 (digW (ints kxs)).length),[Bx.row 9 1 (strs (digW (ints kxs)))],false⟩ | _,_=>none
def gZ42 (xs:List AV) (bs:List Bx):Option Ret:=match xs,bs with | [AV.one (Cl.ptr 0 0),AV.one (Cl.d (DV.int _ c))],[Bx.cells [Cl.ptr 0 0,Cl.ref 1 n],Bx.row _ _ xs]=>some ⟨AV.one (Cl.lit Value.nilIface),[bC [Cl.ptr 0 0,Cl.ref 1 (n+1)],Bx.row 5 1 (xs++[DV.int .u8 c])],false⟩ | _,_=>none
def gZ43 (xs:List AV) (bs:List Bx):Option Ret:=match xs,bs with | [AV.one (Cl.ptr 0 0),AV.one (Cl.d (DV.str s))],[Bx.cells [Cl.ptr 0 0,Cl.ref 1 n],Bx.row _ _ xs]=>some ⟨AV.tup [aJ ((s.size:Nat):Int),AV.one (Cl.lit Value.nilIface)],[bC [Cl.ptr 0 0,Cl.ref 1 (n+s.size)],Bx.row 5 1 (xs++zQg s)],false⟩ | [AV.one (Cl.ptr 0 0),AV.one (Cl.d (DV.str s))],[Bx.cells [Cl.lit (Value.pointer none),Cl.nil]]=>some ⟨AV.tup [aJ ((s.size:Nat):Int),AV.one (Cl.lit Value.nilIface)],[bC [Cl.ptr 0 0,Cl.ref 1 (0+s.size)],Bx.row 5 1 ([]++zQg s)],false⟩ | _,_=>none
def jXb:Gam where
 pure:=fun f xs=>
  if f=97 then gZ4 xs else
  none
 modes:=fun f=>
  if f=57 then some ([true],0,1) else
  if f=98 then some ([false],1,1) else
  if f=58 then some ([false,true],1,1) else
  if f=59 then some ([false,true],1,1) else
  none
 proc:=fun f xs bs=>
  if f=57 then gZ41 xs bs else
  if f=98 then (match xs,bs with | [AV.one (Cl.ptr 0 0)],[Bx.cells [Cl.ptr 0 0,Cl.ref 1 n],Bx.row _ _ xs]=>some ⟨AV.tup [],[bC [Cl.ptr 0 0,Cl.ref 1 n],Bx.row 5 1 xs],false⟩ | [AV.one (Cl.ptr 0 0)],[Bx.cells [Cl.lit (Value.pointer none),Cl.nil]]=>some ⟨AV.tup [],[bC [Cl.ptr 0 0,Cl.ref 1 0],Bx.row 5 1 ([])],false⟩ | _,_=>none) else
  if f=58 then gZ42 xs bs else
  if f=59 then gZ43 xs bs else
  none
 iter:=fun f cs=>
  none
theorem zZg (n:Nat) (xs:List DV) (c:Int) (hn:xs.length=n) (hb:n≤35184372088832):AnsG prog 58 1 [aPz,AV.one (Cl.d (DV.int .u8 c))] [bC [Cl.ptr 0 0,Cl.ref 1 n],Bx.row 5 1 xs] ⟨AV.one (Cl.lit (Value.nilIface)),[bC [Cl.ptr 0 0,Cl.ref 1 (n+1)],Bx.row 5 1 (xs++[DV.int .u8 c])],false⟩:=
 zQz (Γ:=jXb) Ann.leaf zQy Tryz.func58 rfl (Nat.le_of_ble_eq_true rfl) rfl fun hwf hbx=>by
  refine Eq.mpr (by kernel_rfl:_=(let a:=[DV.int .u8 c]; let b:=[bC [Cl.ptr 0 0,Cl.ref 1 n],Bx.row 5 1 xs]; tU2 ((AnsG prog 98 1 [aPz] b ⟨AV.tup [],b,false⟩)∧tU7 ((zZk 1 1 n 1 xs (a))∧tU4 (((((Value.nilIface:Value)=Value.nilIface)∧True)∧(((0=0)∧(n+1=n+1)∧True)∧(xs++(a)=xs++a)∧True))∧zQu ⟨AV.one (Cl.lit Value.nilIface),[bC [Cl.ptr 0 0,Cl.ref 1 (n+1)],Bx.row 5 1 (xs++a)],false⟩))))) ?_
  delta tU2 tU4 tU7 aPz bC
  simp only [sS]
  exact ⟨zYt n xs,⟨by rw [hn,Nat.mul_one],by simp [zQg],by unfold maxLen; omega,by omega⟩,trivial⟩
theorem zZl (n:Nat) (xs:List DV) (s:ByteArray) (hn:xs.length=n) (hb:n≤35184372088832) (hs:s.size≤35184372088832):AnsG prog 59 1 [aPz,AV.one (Cl.d (DV.str s))] [bC [Cl.ptr 0 0,Cl.ref 1 n],Bx.row 5 1 xs] ⟨AV.tup [aJ (((((s).size:Nat):Int))),AV.one (Cl.lit (Value.nilIface))],[bC [Cl.ptr 0 0,Cl.ref 1 (n+(s).size)],Bx.row 5 1 (xs++zQg s)],false⟩:=
 zQz (Γ:=jXb) Ann.leaf zQy Tryz.func59 rfl (Nat.le_of_ble_eq_true rfl) rfl fun hwf hbx=>by
  refine Eq.mpr (by kernel_rfl:_=(let a:=[bC [Cl.ptr 0 0,Cl.ref 1 n],Bx.row 5 1 xs]; tU3 ((AnsG prog 98 1 [aPz] a ⟨AV.tup [],a,false⟩)∧tU6 ((zZk 1 1 n s.size xs (zQg s))∧tU7 (((((dJ (s.size:Int)=dJ ((s.size:Nat):Int))∧((Value.nilIface:Value)=Value.nilIface)∧True)∧True)∧(((0=0)∧(n+s.size=n+s.size)∧True)∧(xs++(zQg s)=xs++zQg s)∧True))∧zQu ⟨AV.tup [aJ ((s.size:Nat):Int),AV.one (Cl.lit Value.nilIface)],[bC [Cl.ptr 0 0,Cl.ref 1 (n+s.size)],Bx.row 5 1 (xs++zQg s)],false⟩))))) ?_
  delta tU3 tU6 tU7 dJ aJ aPz bC
  simp only [sS]
  exact ⟨zYt n xs,⟨by rw [hn,Nat.mul_one],by simp [zQg],by unfold maxLen; omega,by omega⟩,trivial⟩
theorem zJI (s:ByteArray) (hs:s.size≤35184372088832):AnsG prog 59 1 [aPz,AV.one (Cl.d (DV.str s))] [bC [Cl.lit (Value.pointer none),Cl.nil]] ⟨AV.tup [aJ (((((s).size:Nat):Int))),AV.one (Cl.lit (Value.nilIface))],[bC [Cl.ptr 0 0,Cl.ref 1 (0+(s).size)],Bx.row 5 1 ([]++zQg s)],false⟩:=
 zQz (Γ:=jXb) Ann.leaf zQy Tryz.func59 rfl (Nat.le_of_ble_eq_true rfl) rfl fun hwf hbx=>by
  refine Eq.mpr (by kernel_rfl:_=(tU3 ((AnsG prog 98 1 [aPz] [bC [Cl.lit (Value.pointer none),Cl.nil]] ⟨AV.tup [],[bC [Cl.ptr 0 0,Cl.ref 1 0],Bx.row 5 1 ([])],false⟩)∧tU6 ((zZk 1 1 0 s.size ([]) (zQg s))∧tU7 (((((dJ (s.size:Int)=dJ ((s.size:Nat):Int))∧((Value.nilIface:Value)=Value.nilIface)∧True)∧True)∧(((0=0)∧(0+s.size=0+s.size)∧True)∧(([])++(zQg s)=[]++zQg s)∧True))∧zQu ⟨AV.tup [aJ ((s.size:Nat):Int),AV.one (Cl.lit Value.nilIface)],[bC [Cl.ptr 0 0,Cl.ref 1 (0+s.size)],Bx.row 5 1 ([]++zQg s)],false⟩))))) ?_
  delta tU3 tU6 tU7 dJ aJ aPz bC
  simp only [sS]
  exact ⟨zKt,⟨rfl,by simp [zQg],by unfold maxLen; omega,by omega⟩,trivial⟩
theorem zXs (l:List Int) (hl:l.length≤1099511627776):AnsG prog 57 0 [AV.one (Cl.d (dS l.length (is l)))] [] ⟨AV.one (Cl.ref 0 ((digW (ints (is l))).length)),[Bx.row 9 1 (strs (digW (ints (is l))))],false⟩:=
 zQz (Γ:=jXb) (Ann.seq Ann.leaf (Ann.seq Ann.leaf (Ann.seq (Ann.seq Ann.leaf (Ann.loop ⟨Nat,fun k=>k≤l.length,fun k=>⟨[(3,AV.one (Cl.ref 1003 (digW (l.take k)).length)),(6,AV.one (Cl.d (dS l.length (is l)))),(7,aJ (l.length:Int)),(8,aJ (k:Int))],[(1003,Bx.row 9 1 (strs (digW (l.take k))))]⟩,fun k=>l.length - k⟩ fun k=>Ann.leaf)) Ann.leaf))) zQy Tryz.func57 rfl (Nat.le_of_ble_eq_true rfl) rfl fun hwf hbx=>by
  refine Eq.mpr (by kernel_rfl:_=(let b:=(l.length:Int); let c:=(digW (ints (is l))); let f:=(dS l.length (is l)=dS l.length (is l)); let g:=(dJ b=dJ b); tU5 ((∃ k:Nat,(k≤l.length)∧(((0=(digW (l.take k)).length)∧f∧g∧(dJ 0=dJ (k:Int))∧True)∧(([]=strs (digW (l.take k)))∧True)))∧∀ k:Nat,let h:=(decide ((k:Int) < b)); let a:=(digW (l.take k)); let d:=(nAt (is l) ((k:Int).toNat*1)); let e:=(toS (itoa d)); (k≤l.length)→True∧((h=true→(0≤(k:Int)∧(k:Int) < b∧(k:Int).toNat*1 < (is l).length)∧(((is l)[(k:Int).toNat*1]?=some (dJ d))∧True)∧tU3 ((Ans prog 97 [rJ d] (RV.d (DV.str e)))∧True∧(zZk 1 16 a.length 1 (strs a) ([DV.str e]))∧tU3 (∃ k':Nat,(k'≤l.length)∧(l.length - k' < l.length - k)∧(((a.length+1=(digW (l.take k')).length)∧f∧g∧(dJ (wK ((k:Int)+1))=dJ (k':Int))∧True)∧(((strs a)++([DV.str e])=strs (digW (l.take k')))∧True)))))∧(h=false→tU2 ((((a.length=c.length)∧True)∧((strs a=strs c)∧True))∧zQu ⟨AV.one (Cl.ref 0 c.length),[Bx.row 9 1 (strs c)],false⟩)))))) ?_
  delta tU2 tU3 tU5 dJ wK dS rJ
  simp only [sS]
  clear hwf hbx
  rw [zQM]
  refine ⟨⟨0,Nat.zero_le _,⟨rfl,rfl⟩,rfl⟩,fun k hk=>⟨fun hlt=>?_,fun hge=>?_⟩⟩
  ·have h:k < l.length:=by omega
   have hts:l.take (k+1)=l.take k++[l[k]]:=by rw [List.take_add_one,List.getElem?_eq_getElem h]; rfl
   have wi:IntKind.wrap .i64 ((k:Int)+1)=((k+1:Nat):Int):=by rw [IntWalk.i64_in _ ⟨by omega,by omega⟩]; omega
   have q1:(is l)[k*1]?=some (DV.int .i64 l[k]):=by rw [Nat.mul_one]; simp [is,h]
   have q2:nAt (is l) (k*1)=l[k]:=by unfold nAt; rw [q1]
   rw [q2]
   have hd:∀ k,k≤l.length→(digW (l.take k)).length=k:=fun k hk=>by unfold digW; rw [List.length_map,List.length_take]; omega
   refine ⟨⟨by omega,by omega,by rw [zZA]; omega⟩,q1,jJC _,⟨by rw [zXf]; omega,rfl,by rw [hd k (by omega)]; unfold maxLen; omega,by rw [hd k (by omega)]; omega⟩,k+1,by omega,by omega,⟨by rw [hd k (by omega),hd (k+1) (by omega)],wi⟩,?_⟩
   rw [hts]
   unfold digW strs
   rw [List.map_append,List.map_append]; rfl
  ·have:k=l.length:=by omega
   subst this
   rw [List.take_length]
   exact ⟨⟨rfl,rfl⟩,trivial⟩
theorem zJ3 (n:Nat) (xs:List DV) (ws:List Lb) (l:List Int) (hn:xs.length=n) (hb:n+(zZc (ws++digW l)).length≤17592186044416) (hl:l.length≤1099511627776) (hw:ws.length≤1099511627776):AnsG prog 26 1 [aPz,AV.one (Cl.ref 1 ws.length),AV.one (Cl.d (dS l.length (is l)))] [bC [Cl.ptr 0 0,Cl.ref 2 n],Bx.row 9 1 (strs ws),Bx.row 5 1 xs] ⟨AV.tup [],[bC [Cl.ptr 0 0,Cl.ref 1 (n+(zZc (zQJ (strs ws)++digW (ints (is l)))).length)],Bx.row 5 1 (xs++zQg (toS (zZc (zQJ (strs ws)++digW (ints (is l))))))],false⟩:=
 zQz (Γ:=jXb) (let a:=(ws++digW l); let b:=(digW (ints (is l))); Ann.seq (Ann.seq Ann.leaf (Ann.loop ⟨Nat,fun k=>k≤a.length,fun k=>⟨[(0,aPz),(11,AV.one (Cl.ref 11 (ws.length+b.length))),(12,aJ ((ws.length+b.length:Nat):Int)),(13,aJ (k:Int))],[(0,bC [Cl.ptr 0 0,Cl.ref 1002 (n+(zQ4 (a.take k)).length)]),(11,Bx.row 9 1 ((strs ws)++(strs b))),(1002,Bx.row 5 1 (xs++zQg (toS (zQ4 (a.take k)))))]⟩,fun k=>a.length - k⟩ fun k=>Ann.leaf)) Ann.leaf) zQy Tryz.func26 rfl (Nat.le_of_ble_eq_true rfl) rfl fun hwf hbx=>by
  refine Eq.mpr (by kernel_rfl:_=(let j:=[DV.int .u8 (32:Int)]; let m:=(Cl.lit Value.nilIface); let a:=(ws++digW l); let c:=(digW (ints (is l))).length; let h:=(zZc (zQJ (strs ws)++digW (ints (is l)))); let e:=((ws.length+c:Nat):Int); let f:=(strs (digW (ints (is l)))); let i:=((strs ws)++f); let q:=(ws.length+c=ws.length+c); let r:=(dJ e=dJ e); let o:=((strs ws)++f=(strs ws)++f); let p:=fun (k:Nat)=>[bC [Cl.ptr 0 0,Cl.ref 1 (n+(zQ4 (a.take k)).length)],Bx.row 5 1 (xs++zQg (toS (zQ4 (a.take k))))]; let s:=fun (k:Nat)=>[Cl.ptr 0 0,Cl.ref 1 ((n+(zQ4 (a.take k)).length)+1)]; let t:=fun (k:Nat)=>[Bx.cells (s k),Bx.row 5 1 ((xs++zQg (toS (zQ4 (a.take k))))++j)]; let u:=fun (k:Nat)=>[aPz,AV.one (Cl.d (DV.str (sAt i ((k:Int).toNat*1))))]; let v:=fun (k:Nat)=>[aJ (((sAt i ((k:Int).toNat*1)).size:Nat):Int),AV.one m]; let w:=fun (k':Nat)=>(k'≤a.length); let x:=fun (k:Nat)=>fun (k':Nat)=>(a.length - k' < a.length - k); let y:=fun (k:Nat)=>fun (k':Nat)=>((0=0)∧q∧r∧(dJ (wK ((k:Int)+1))=dJ (k':Int))∧True); tU2 ((AnsG prog 57 0 [AV.one (Cl.d (dS l.length (is l)))] [] ⟨AV.one (Cl.ref 0 c),[Bx.row 9 1 f],false⟩)∧(zZk 1 16 ws.length c (strs ws) f)∧(ws.length+c≤maxLen)∧True∧((∃ k:Nat,(k≤a.length)∧(((0=0)∧q∧r∧(dJ 0=dJ (k:Int))∧True)∧(((0=0)∧(n=n+(zQ4 (a.take k)).length)∧True)∧o∧(xs=xs++zQg (toS (zQ4 (a.take k))))∧True)))∧∀ k:Nat,let b:=(sAt i ((k:Int).toNat*1)); let z:=(zQ4 (a.take k)); let g:=(n+z.length); let d:=(xs++zQg (toS z)); (k≤a.length)→True∧(((decide ((k:Int) < e))=true→True∧(0≤(k:Int)∧(k:Int) < e)∧((i[(k:Int).toNat*1]?=some (DV.str b))∧True)∧tU4 (((decide ((k:Int) > 0))=true→tU3 ((AnsG prog 58 1 [aPz,AV.one (Cl.d (DV.int .u8 (32:Int)))] (p k) ⟨AV.one m,(t k),false⟩)∧tU4 ((AnsG prog 59 1 (u k) (t k) ⟨AV.tup (v k),[bC [Cl.ptr 0 0,Cl.ref 1 ((g+1)+b.size)],Bx.row 5 1 ((d++j)++zQg b)],false⟩)∧tU2 (∃ k':Nat,(w k')∧(x k k')∧((y k k')∧(((0=0)∧((g+1)+b.size=n+(zQ4 (a.take k')).length)∧True)∧o∧((d++j)++zQg b=xs++zQg (toS (zQ4 (a.take k'))))∧True))))))∧((decide ((k:Int) > 0))=false→tU4 ((AnsG prog 59 1 (u k) (p k) ⟨AV.tup (v k),[bC [Cl.ptr 0 0,Cl.ref 1 (g+b.size)],Bx.row 5 1 (d++zQg b)],false⟩)∧tU2 (∃ k':Nat,(w k')∧(x k k')∧((y k k')∧(((0=0)∧(g+b.size=n+(zQ4 (a.take k')).length)∧True)∧o∧(d++zQg b=xs++zQg (toS (zQ4 (a.take k'))))∧True)))))))∧((decide ((k:Int) < e))=false→tU3 ((AnsG prog 58 1 [aPz,AV.one (Cl.d (DV.int .u8 (10:Int)))] (p k) ⟨AV.one m,[Bx.cells (s k),Bx.row 5 1 (d++[DV.int .u8 (10:Int)])],false⟩)∧((True∧True)∧(((0=0)∧(g+1=n+h.length)∧True)∧(d++[DV.int .u8 (10:Int)]=xs++zQg (toS h))∧True))∧zQu ⟨AV.tup [],[bC [Cl.ptr 0 0,Cl.ref 1 (n+h.length)],Bx.row 5 1 (xs++zQg (toS h))],false⟩))))))) ?_
  delta tU2 tU3 tU4 dJ wK dS aJ aPz bC
  simp only [sS]
  clear hwf hbx
  have hD:(digW l).length=l.length:=by simp [digW]
  have hlb:(zZc (ws++digW l)).length=(zQ4 (ws++digW l)).length+1:=by simp [zZc]
  have aD:=zXs l hl
  rw [zQM] at aD
  simp only [zQM,zQE,← jQP]
  have hWl:ws.length+(digW l).length=(ws++digW l).length:=by rw [List.length_append]
  obtain ⟨W,hW⟩:∃ W,ws++digW l=W:=⟨_,rfl⟩
  rw [hW] at hlb hb hWl
  try rw [hW] at aD
  simp only [hW]
  have hxb:∀ k,(xs++zQg (toS (zQ4 (W.take k)))).length=n+(zQ4 (W.take k)).length:=fun k=>by rw [List.length_append,zJ1,zQF,hn]
  refine ⟨aD,⟨by rw [zXf,Nat.mul_one],by rw [zXf,Nat.mul_one],by unfold maxLen; omega,by omega⟩,by unfold maxLen; omega,⟨0,Nat.zero_le _,rfl,by simp [zQ4],by simp [zQ4,zQg,toS]⟩,fun k hk=>⟨fun hlt=>?_,fun hge=>?_⟩⟩
  ·have h:k < W.length:=by omega
   obtain ⟨q1,q2⟩:=zU6 h
   rw [Nat.mul_one,q2]
   have jt:=zUM h
   have jm:=jZn W (k+1)
   have jk:=hxb k
   have wi:IntKind.wrap .i64 ((k:Int)+1)=((k+1:Nat):Int):=by rw [IntWalk.i64_in _ ⟨by omega,by omega⟩]; omega
   obtain ⟨x,hx⟩:∃ x,W[k]=x:=⟨_,rfl⟩
   rw [hx] at q1 jt
   simp only [hx]
   refine ⟨⟨by omega,by omega⟩,q1,fun hp=>?_,fun hp=>?_⟩
   ·rw [if_neg (by omega)] at jt
    have jl:(zQ4 (W.take (k+1))).length=(zQ4 (W.take k)).length+1+x.length:=by rw [jt]; simp; omega
    refine ⟨zZg _ _ 32 jk (by omega),zZl _ _ _ (by rw [List.length_append,jk]; rfl) (by omega) (by rw [zQF]; omega),k+1,by omega,by omega,wi,by rw [zQF,jl]; omega,?_⟩
    rw [jt,b32,List.append_assoc,List.append_assoc,zZo,zZo]; rfl
   ·rw [if_pos (by omega)] at jt
    have hk0:k=0:=by omega
    subst hk0
    have jl:(zQ4 (W.take (0+1))).length=x.length:=by rw [jt]
    have j0:zQ4 (W.take 0)=[]:=rfl
    rw [j0] at jk
    rw [j0]
    refine ⟨zZl _ _ _ jk (by simp; omega) (by rw [zQF]; omega),0+1,by omega,by omega,wi,by rw [zQF,jl]; simp,?_⟩
    rw [jt,List.append_assoc,zZo]; rfl
  ·have:k=W.length:=by omega
   subst this
   have jk:=hxb W.length
   rw [List.take_length] at jk ⊢
   refine ⟨zZg _ _ 10 jk (by omega),⟨by rw [hlb]; omega,?_⟩,trivial⟩
   rw [b10,List.append_assoc,zZo]; rfl
theorem zKe (n:Nat) (xs:List DV) (l:List Int) (hn:xs.length=n) (hb:n+(zZc (digW l)).length≤17592186044416) (hl:l.length≤1099511627776):AnsG prog 26 1 [aPz,AV.one (Cl.nil),AV.one (Cl.d (dS l.length (is l)))] [bC [Cl.ptr 0 0,Cl.ref 1 n],Bx.row 5 1 xs] ⟨AV.tup [],[bC [Cl.ptr 0 0,Cl.ref 1 (n+(zZc ([]++digW (ints (is l)))).length)],Bx.row 5 1 (xs++zQg (toS (zZc ([]++digW (ints (is l))))))],false⟩:=
 zQz (Γ:=jXb) (let a:=(digW (ints (is l))); Ann.seq (Ann.seq Ann.leaf (Ann.loop ⟨Nat,fun k=>k≤(digW l).length,fun k=>⟨[(0,aPz),(11,AV.one (Cl.ref 11 a.length)),(12,aJ ((a.length:Nat):Int)),(13,aJ (k:Int))],[(0,bC [Cl.ptr 0 0,Cl.ref 1002 (n+(zQ4 ((digW l).take k)).length)]),(11,Bx.row 9 1 (strs a)),(1002,Bx.row 5 1 (xs++zQg (toS (zQ4 ((digW l).take k)))))]⟩,fun k=>(digW l).length - k⟩ fun k=>Ann.leaf)) Ann.leaf) zQy Tryz.func26 rfl (Nat.le_of_ble_eq_true rfl) rfl fun hwf hbx=>by
  refine Eq.mpr (by kernel_rfl:_=(let h:=[DV.int .u8 (32:Int)]; let i:=(Cl.lit Value.nilIface); let a:=(digW (ints (is l))); let c:=(strs a); let e:=((a.length:Nat):Int); let g:=(zZc ([]++digW (ints (is l)))); let o:=(a.length=a.length); let p:=(dJ e=dJ e); let j:=(strs a=strs a); let m:=fun (k:Nat)=>[bC [Cl.ptr 0 0,Cl.ref 1 (n+(zQ4 ((digW l).take k)).length)],Bx.row 5 1 (xs++zQg (toS (zQ4 ((digW l).take k))))]; let q:=fun (k:Nat)=>[Cl.ptr 0 0,Cl.ref 1 ((n+(zQ4 ((digW l).take k)).length)+1)]; let r:=fun (k:Nat)=>[Bx.cells (q k),Bx.row 5 1 ((xs++zQg (toS (zQ4 ((digW l).take k))))++h)]; let s:=fun (k:Nat)=>[aPz,AV.one (Cl.d (DV.str (sAt c ((k:Int).toNat*1))))]; let t:=fun (k:Nat)=>[aJ (((sAt c ((k:Int).toNat*1)).size:Nat):Int),AV.one i]; let u:=fun (k:Nat)=>fun (k':Nat)=>((digW l).length - k' < (digW l).length - k); let v:=fun (k:Nat)=>fun (k':Nat)=>((0=0)∧o∧p∧(dJ (wK ((k:Int)+1))=dJ (k':Int))∧True); tU2 ((AnsG prog 57 0 [AV.one (Cl.d (dS l.length (is l)))] [] ⟨AV.one (Cl.ref 0 a.length),[Bx.row 9 1 c],false⟩)∧(zZk 1 16 0 a.length ([]) c)∧(a.length≤maxLen)∧True∧((∃ k:Nat,(k≤(digW l).length)∧(((0=0)∧o∧p∧(dJ 0=dJ (k:Int))∧True)∧(((0=0)∧(n=n+(zQ4 ((digW l).take k)).length)∧True)∧j∧(xs=xs++zQg (toS (zQ4 ((digW l).take k))))∧True)))∧∀ k:Nat,let b:=(sAt c ((k:Int).toNat*1)); let d:=(xs++zQg (toS (zQ4 ((digW l).take k)))); let f:=(n+(zQ4 ((digW l).take k)).length); (k≤(digW l).length)→True∧(((decide ((k:Int) < e))=true→True∧(0≤(k:Int)∧(k:Int) < e)∧((c[(k:Int).toNat*1]?=some (DV.str b))∧True)∧tU4 (((decide ((k:Int) > 0))=true→tU3 ((AnsG prog 58 1 [aPz,AV.one (Cl.d (DV.int .u8 (32:Int)))] (m k) ⟨AV.one i,(r k),false⟩)∧tU4 ((AnsG prog 59 1 (s k) (r k) ⟨AV.tup (t k),[bC [Cl.ptr 0 0,Cl.ref 1 ((f+1)+b.size)],Bx.row 5 1 ((d++h)++zQg b)],false⟩)∧tU2 (∃ k':Nat,(k'≤(digW l).length)∧(u k k')∧((v k k')∧(((0=0)∧((f+1)+b.size=n+(zQ4 ((digW l).take k')).length)∧True)∧j∧((d++h)++zQg b=xs++zQg (toS (zQ4 ((digW l).take k'))))∧True))))))∧((decide ((k:Int) > 0))=false→tU4 ((AnsG prog 59 1 (s k) (m k) ⟨AV.tup (t k),[bC [Cl.ptr 0 0,Cl.ref 1 (f+b.size)],Bx.row 5 1 (d++zQg b)],false⟩)∧tU2 (∃ k':Nat,(k'≤(digW l).length)∧(u k k')∧((v k k')∧(((0=0)∧(f+b.size=n+(zQ4 ((digW l).take k')).length)∧True)∧j∧(d++zQg b=xs++zQg (toS (zQ4 ((digW l).take k'))))∧True)))))))∧((decide ((k:Int) < e))=false→tU3 ((AnsG prog 58 1 [aPz,AV.one (Cl.d (DV.int .u8 (10:Int)))] (m k) ⟨AV.one i,[Bx.cells (q k),Bx.row 5 1 (d++[DV.int .u8 (10:Int)])],false⟩)∧((True∧True)∧(((0=0)∧(f+1=n+g.length)∧True)∧(d++[DV.int .u8 (10:Int)]=xs++zQg (toS g))∧True))∧zQu ⟨AV.tup [],[bC [Cl.ptr 0 0,Cl.ref 1 (n+g.length)],Bx.row 5 1 (xs++zQg (toS g))],false⟩))))))) ?_
  delta tU2 tU3 tU4 dJ wK dS aJ aPz bC
  simp only [sS]
  clear hwf hbx
  have hD:(digW l).length=l.length:=by simp [digW]
  have hlb:(zZc (digW l)).length=(zQ4 (digW l)).length+1:=by simp [zZc]
  have aD:=zXs l hl
  rw [zQM] at aD
  simp only [zQM,zQE,List.nil_append]
  have hWl:=hD
  obtain ⟨W,hW⟩:∃ W,digW l=W:=⟨_,rfl⟩
  rw [hW] at hlb hb hWl
  try rw [hW] at aD
  simp only [hW]
  have hxb:∀ k,(xs++zQg (toS (zQ4 (W.take k)))).length=n+(zQ4 (W.take k)).length:=fun k=>by rw [List.length_append,zJ1,zQF,hn]
  refine ⟨aD,⟨rfl,by rw [zXf,Nat.mul_one],by unfold maxLen; omega,by omega⟩,by unfold maxLen; omega,⟨0,Nat.zero_le _,rfl,by simp [zQ4],by simp [zQ4,zQg,toS]⟩,fun k hk=>⟨fun hlt=>?_,fun hge=>?_⟩⟩
  ·have h:k < W.length:=by omega
   obtain ⟨q1,q2⟩:=zU6 h
   rw [Nat.mul_one,q2]
   have jt:=zUM h
   have jm:=jZn W (k+1)
   have jk:=hxb k
   have wi:IntKind.wrap .i64 ((k:Int)+1)=((k+1:Nat):Int):=by rw [IntWalk.i64_in _ ⟨by omega,by omega⟩]; omega
   obtain ⟨x,hx⟩:∃ x,W[k]=x:=⟨_,rfl⟩
   rw [hx] at q1 jt
   simp only [hx]
   refine ⟨⟨by omega,by omega⟩,q1,fun hp=>?_,fun hp=>?_⟩
   ·rw [if_neg (by omega)] at jt
    have jl:(zQ4 (W.take (k+1))).length=(zQ4 (W.take k)).length+1+x.length:=by rw [jt]; simp; omega
    refine ⟨zZg _ _ 32 jk (by omega),zZl _ _ _ (by rw [List.length_append,jk]; rfl) (by omega) (by rw [zQF]; omega),k+1,by omega,by omega,wi,by rw [zQF,jl]; omega,?_⟩
    rw [jt,b32,List.append_assoc,List.append_assoc,zZo,zZo]; rfl
   ·rw [if_pos (by omega)] at jt
    have hk0:k=0:=by omega
    subst hk0
    have jl:(zQ4 (W.take (0+1))).length=x.length:=by rw [jt]
    have j0:zQ4 (W.take 0)=[]:=rfl
    rw [j0] at jk
    rw [j0]
    refine ⟨zZl _ _ _ jk (by simp; omega) (by rw [zQF]; omega),0+1,by omega,by omega,wi,by rw [zQF,jl]; simp,?_⟩
    rw [jt,List.append_assoc,zZo]; rfl
  ·have:k=W.length:=by omega
   subst this
   have jk:=hxb W.length
   rw [List.take_length] at jk ⊢
   refine ⟨zZg _ _ 10 jk (by omega),⟨by rw [hlb]; omega,?_⟩,trivial⟩
   rw [b10,List.append_assoc,zZo]; rfl
def jVn:Gam where
 pure:=fun f xs=>
  none
 modes:=fun f=>
  if f=57 then some ([true],0,1) else
  if f=58 then some ([false,true],1,1) else
  if f=59 then some ([false,true],1,1) else
  none
 proc:=fun f xs bs=>
  if f=57 then (match xs,bs with | [AV.one (Cl.d (DV.sl 1 ([DV.int .i64 m])))],[]=>some ⟨AV.one (Cl.ref 0 1),[Bx.row 9 1 ([DV.str (toS (itoa m))])],false⟩ | _,_=>none) else
  if f=58 then gZ42 xs bs else
  if f=59 then gZ43 xs bs else
  none
 iter:=fun f cs=>
  none
theorem zJf (s:ByteArray) (m:Int) (hs:s.size≤1000000) (hm : -9223372036854775808≤m∧m≤9223372036854775807):AnsG prog 26 1 [aPz,AV.one (Cl.ref 1 1),AV.one (Cl.d (dS 1 ([dJ m])))] [bC [Cl.lit (Value.pointer none),Cl.nil],Bx.row 9 1 ([DV.str s])] ⟨AV.tup [],[bC [Cl.ptr 0 0,Cl.ref 1 ((s).size+(32::itoa m++[10]).length)],Bx.row 5 1 (zQg s++zQg (toS (32::itoa m++[10])))],false⟩:=
 zQz (Γ:=jVn) (let a:=(Ann.sure true Ann.leaf); let b:=(11,AV.one (Cl.ref 11 2)); let e:=(cJ 2); let c:=(12,AV.one e); let d:=(11,Bx.row 9 1 ([DV.str s,DV.str (toS (itoa m))])); (Ann.seq (Ann.seq Ann.leaf (Ann.link ⟨Unit,fun _u=>True,fun _u=>⟨[(0,aPz),b,c,(13,aJ 0)],[(0,bC [Cl.lit (Value.pointer none),Cl.nil]),d]⟩,fun _u=>0⟩ (fun _u=>(Ann.seq Ann.leaf (Ann.seq a (Ann.seq (Ann.seq Ann.leaf (Ann.seq (Ann.seq Ann.leaf (Ann.sure false Ann.leaf)) Ann.leaf)) Ann.leaf)))) (Ann.link ⟨Unit,fun _u=>True,fun _u=>⟨[(0,aPz),b,c,(13,aJ 1)],[(0,bC [Cl.ptr 0 0,Cl.ref 201028 (0+s.size)]),d,(201028,Bx.row 5 1 ([]++zQg s))]⟩,fun _u=>0⟩ (fun _u=>(Ann.seq Ann.leaf (Ann.seq a (Ann.seq (Ann.seq Ann.leaf (Ann.seq (Ann.seq Ann.leaf a) Ann.leaf)) Ann.leaf)))) (Ann.link ⟨Unit,fun _u=>True,fun _u=>⟨[(0,aPz),b,c,(13,AV.one e)],[(0,bC [Cl.ptr 0 0,Cl.ref 301028 (((0+s.size)+1)+(toS (itoa m)).size)]),d,(301028,Bx.row 5 1 ((([]++zQg s)++[DV.int .u8 (32:Int)])++zQg (toS (itoa m))))]⟩,fun _u=>0⟩ (fun _u=>(Ann.seq Ann.leaf (Ann.seq (Ann.sure false Ann.leaf) Ann.leaf))) Ann.leaf)))) Ann.leaf)) zQy Tryz.func26 rfl (Nat.le_of_ble_eq_true rfl) rfl fun hwf hbx=>by
  refine Eq.mpr (by kernel_rfl:_=(let b:=((0+s.size)+1); let c:=(Cl.lit Value.nilIface); let a:=(toS (itoa m)); let e:=(DV.str a); let f:=(b+a.size); let d:=(([]++zQg s)++[DV.int .u8 (32:Int)]); let g:=(d++zQg a); let i:=[DV.str s,DV.str a]; let h:=(i=i); let j:=[bC [Cl.ptr 0 0,Cl.ref 1 (0+s.size)],Bx.row 5 1 ([]++zQg s)]; let k:=(dJ 2=dJ 2); let l:=[bC [Cl.ptr 0 0,Cl.ref 1 b],Bx.row 5 1 d]; let n:=[bC [Cl.ptr 0 0,Cl.ref 1 f],Bx.row 5 1 g]; tU2 ((AnsG prog 57 0 [AV.one (Cl.d (dS 1 ([dJ m])))] [] ⟨AV.one (Cl.ref 0 1),[Bx.row 9 1 ([DV.str a])],false⟩)∧(zZk 1 16 1 1 ([DV.str s]) ([DV.str a]))∧(2≤maxLen)∧True∧(∃ _u:Unit,True∧(((0=0)∧(2=2)∧(dJ ((2:Nat):Int)=dJ 2)∧(dJ 0=dJ 0)∧True)∧((((Value.pointer none:Value)=Value.pointer none)∧True∧True)∧h∧True)))∧((∀ _u:Unit,True→True∧(decide ((0:Int) < 2)=true∧True∧(0≤(0:Int)∧(0:Int) < ((2:Nat):Int))∧((some (DV.str s)=some (DV.str s))∧True)∧tU4 (decide ((0:Int) > 0)=false∧tU4 ((AnsG prog 59 1 [aPz,AV.one (Cl.d (DV.str s))] [bC [Cl.lit (Value.pointer none),Cl.nil]] ⟨AV.tup [aJ ((s.size:Nat):Int),AV.one c],j,false⟩)∧tU2 (∃ _u:Unit,True∧(((0=0)∧(2=2)∧k∧(dJ (wK ((0:Int)+1))=dJ 1)∧True)∧(((0=0)∧(0+s.size=0+s.size)∧True)∧h∧([]++zQg s=[]++zQg s)∧True)))))))∧(∀ _u:Unit,True→True∧(decide ((1:Int) < 2)=true∧True∧(0≤(1:Int)∧(1:Int) < ((2:Nat):Int))∧((some e=some e)∧True)∧tU4 (decide ((1:Int) > 0)=true∧tU3 ((AnsG prog 58 1 [aPz,AV.one (Cl.d (DV.int .u8 (32:Int)))] j ⟨AV.one c,l,false⟩)∧tU4 ((AnsG prog 59 1 [aPz,AV.one (Cl.d e)] l ⟨AV.tup [aJ ((a.size:Nat):Int),AV.one c],n,false⟩)∧tU2 (∃ _u:Unit,True∧(((0=0)∧(2=2)∧k∧(dJ (wK ((1:Int)+1))=dJ 2)∧True)∧(((0=0)∧(b+a.size=b+a.size)∧True)∧h∧(d++zQg a=d++zQg a)∧True))))))))∧(∀ _u:Unit,True→True∧(decide ((2:Int) < 2)=false∧tU3 ((AnsG prog 58 1 [aPz,AV.one (Cl.d (DV.int .u8 (10:Int)))] n ⟨AV.one c,[bC [Cl.ptr 0 0,Cl.ref 1 (f+1)],Bx.row 5 1 (g++[DV.int .u8 (10:Int)])],false⟩)∧((True∧True)∧(((0=0)∧(f+1=s.size+(32::itoa m++[10]).length)∧True)∧(g++[DV.int .u8 (10:Int)]=zQg s++zQg (toS (32::itoa m++[10])))∧True))∧zQu ⟨AV.tup [],[bC [Cl.ptr 0 0,Cl.ref 1 (s.size+(32::itoa m++[10]).length)],Bx.row 5 1 (zQg s++zQg (toS (32::itoa m++[10])))],false⟩)))∧True)))) ?_
  delta tU2 tU3 tU4 dJ wK dS aJ aPz bC
  simp only [sS]
  have aD:=zXs [m] (by simp)
  have eD:digW (ints (is [m]))=[itoa m]:=by rw [zQM]; rfl
  rw [eD] at aD
  clear hwf hbx
  have hm':=zKT m hm
  have e1:(toS (itoa m)).size=(itoa m).length:=zQF _
  refine ⟨aD,⟨rfl,rfl,by decide,by decide⟩,by decide,⟨(),rfl⟩,⟨by decide,⟨by decide,by decide⟩,by decide,zJI s (by omega),(),by decide⟩,⟨by decide,⟨by decide,by decide⟩,by decide,zZg _ _ 32 (by simp [zQg]) (by omega),zZl _ _ _ (by simp [zQg]) (by omega) (by omega),(),by decide⟩,by decide,zZg _ _ 10 (by simp [zQg]; omega) (by omega),⟨by rw [e1]; simp; omega,?_⟩,trivial⟩
  rw [b32,b10,List.nil_append,List.append_assoc,List.append_assoc,zZo,zZo]; rfl
theorem Oq.eta_ (o:Oq):(⟨o.kind,o.image,o.x,o.y,o.mask,o.mx,o.my,o.opac,o.oper,o.mode,o.iso,o.kno⟩:Oq)=o:=rfl
def jt (ws:List Lb):Lb:=ws.flatMap fun x=>32::x
theorem jYc (a b:List Lb):jt (a++b)=jt a++jt b:=List.flatMap_append
theorem jQz (w:Lb) (a:List Lb):jt (w::a)=32::w++jt a:=rfl
theorem zJW (w:Lb) (a:List Lb):zQ4 (w::a)=w++jt a:=rfl
theorem zYq:∀ (l:List Int) (w:Lb),w≠[]→zQD w l=w++jt (digW l)
 | [],w,_=>by simp [zQD,jt,digW]
 | n::l,w,h=>by
  have e:zQD w (n::l)=zQD ((if w=[] then [] else w++[32])++itoa n) l:=rfl
  rw [e,if_neg h,zYq l _ (by simp),show digW (n::l)=itoa n::digW l from rfl,jQz]
  simp
theorem jYa (w:Lb) (a b:List Int):zQD w (a++b)=zQD (zQD w a) b:=List.foldl_append
theorem jKD (n:Int):itoa n≠[]:=fun h=>by
 have:=(zJy n).1
 rw [h] at this
 exact (zV2 n.natAbs).2.2.1 this.symm
theorem zZK (w:Lb) (l:List Int) (h:w≠[]):zZc ([w]++digW l)=zQD w l++[10]:=by
 rw [zYq l w h]; rfl
theorem jZ6 (n:Int) (l:List Int):zZc (digW (n::l))=zQD [] (n::l)++[10]:=by
 have e:zQD [] (n::l)=zQD (itoa n) l:=rfl
 rw [e,zYq l _ (jKD n)]; rfl
theorem zWB (p:Px):zZc (digW (smpP p))=pxTx p:=jZ6 _ _
theorem zWA (m:Im) (h:m.so=true):zZc ([zQN]++digW ([m.w,m.h]++smpP m.c))=imTx m:=by
 rw [zZK _ _ (by decide),jYa]
 unfold imTx; rw [if_pos h]
theorem zUJ (o:Oq) (h:o.kind=1):zZc ([zZV]++digW [o.image,o.x,o.y,o.mask,o.mx,o.my,o.opac]++[ofS (zQo o.oper),ofS (zQf o.mode)])=opLn o:=by
 unfold opLn opTx
 rw [if_pos h,zYq _ _ (by decide)]
 unfold zZc
 rw [List.append_assoc,show ([zZV]++(digW [o.image,o.x,o.y,o.mask,o.mx,o.my,o.opac]++[ofS (zQo o.oper),ofS (zQf o.mode)]))=zZV::(digW [o.image,o.x,o.y,o.mask,o.mx,o.my,o.opac]++[ofS (zQo o.oper),ofS (zQf o.mode)]) from rfl,zJW,jYc]
 simp [zYg,jt]
theorem zUI (o:Oq) (h:o.kind=2):zZc ([zZ0]++digW [o.mask,o.mx,o.my,o.opac]++[ofS (zQo o.oper),ofS (zQf o.mode)]++digW [bitN o.iso,bitN o.kno])=opLn o:=by
 unfold opLn opTx
 rw [if_neg (by omega),if_pos h,zYq _ _ (by decide),zYq _ _ (by simp [zYg])]
 unfold zZc
 rw [List.append_assoc,List.append_assoc,show ∀ r,[zZ0]++r=zZ0::r from fun r=>rfl,zJW,jYc,jYc]
 simp [zYg,jt]
theorem zHx (o:Oq) (h:¬o.kind=1) (h2:¬o.kind=2):zZc [sPop]=opLn o:=by
 unfold opLn opTx
 rw [if_neg h,if_neg h2]; rfl
theorem jXR {l:List Px} {k:Nat} (h:k < l.length):(l.take (k+1)).flatMap pxTx=(l.take k).flatMap pxTx++pxTx l[k]:=by
 rw [List.take_add_one,List.getElem?_eq_getElem h,Option.toList_some,List.flatMap_append]; simp
theorem jKj (l:List Px) (k:Nat):((l.take k).flatMap pxTx).length≤(l.flatMap pxTx).length:=by
 conv=>rhs; rw [← List.take_append_drop k l,List.flatMap_append]
 simp
theorem writer_line_used' (n:Nat) (xs:List DV) (ws:List Lb) (l:List Int) (hn:xs.length=n) (hb:n+(zZc (ws++digW l)).length≤17592186044416) (hl:l.length≤1099511627776) (hw:ws.length≤1099511627776) :
  AnsG prog 26 1 [AV.one (Cl.ptr 0 0),AV.one (Cl.ref 1 ws.length),AV.one (Cl.d (DV.sl l.length (is l)))] [Bx.cells [Cl.ptr 0 0,Cl.ref 2 n],Bx.row 9 1 (strs ws),Bx.row 5 1 xs]
   ⟨AV.tup [],[Bx.cells [Cl.ptr 0 0,Cl.ref 1 (n+(zZc (ws++digW l)).length)],Bx.row 5 1 (xs++zQg (toS (zZc (ws++digW l))))],false⟩:=by
 have:=zJ3 n xs ws l hn hb hl hw
 rw [zQM,zQE] at this
 exact this
theorem writer_line_nil' (n:Nat) (xs:List DV) (l:List Int) (hn:xs.length=n) (hb:n+(zZc (digW l)).length≤17592186044416) (hl:l.length≤1099511627776) :
  AnsG prog 26 1 [AV.one (Cl.ptr 0 0),AV.one Cl.nil,AV.one (Cl.d (DV.sl l.length (is l)))] [Bx.cells [Cl.ptr 0 0,Cl.ref 1 n],Bx.row 5 1 xs]
   ⟨AV.tup [],[Bx.cells [Cl.ptr 0 0,Cl.ref 1 (n+(zZc (digW l)).length)],Bx.row 5 1 (xs++zQg (toS (zZc (digW l))))],false⟩:=by
 have:=zKe n xs l hn hb hl
 rw [zQM] at this
 exact this
theorem text_digits' (l:List Int) (hl:l.length≤1099511627776):AnsG prog 57 0 [AV.one (Cl.d (DV.sl l.length (is l)))] [] ⟨AV.one (Cl.ref 0 (digW l).length),[Bx.row 9 1 (strs (digW l))],false⟩:=by
 have:=zXs l hl
 rw [zQM] at this
 exact this
def gZ44 (xs:List AV) (bs:List Bx):Option Ret:=match xs,bs with | [AV.one (Cl.ptr 0 0),AV.one (Cl.ref 1 wn),AV.one (Cl.d (DV.sl kn kxs))],[Bx.cells [Cl.ptr 0 0,Cl.ref 2 n],Bx.row _ _ wxs,Bx.row _ _ xs]=>some ⟨AV.tup [],[bC [Cl.ptr 0 0,Cl.ref 1 (n+(zZc (zQJ wxs++digW (ints kxs))).length)],Bx.row 5 1 (xs++zQg (toS (zZc (zQJ wxs++digW (ints kxs)))))],false⟩ | [AV.one (Cl.ptr 0 0),AV.one Cl.nil,AV.one (Cl.d (DV.sl kn kxs))],[Bx.cells [Cl.ptr 0 0,Cl.ref 1 n],Bx.row _ _ xs]=>some ⟨AV.tup [],[bC [Cl.ptr 0 0,Cl.ref 1 (n+(zZc ([]++digW (ints kxs))).length)],Bx.row 5 1 (xs++zQg (toS (zZc ([]++digW (ints kxs)))))],false⟩ | [AV.one (Cl.ptr 0 0),AV.one (Cl.ref 1 wn),AV.one (Cl.d (DV.sl kn kxs))],[Bx.cells [Cl.lit (Value.pointer none),Cl.nil],Bx.row _ _ wxs]=>some ⟨AV.tup [],[bC [Cl.ptr 0 0,Cl.ref 1 (0+(zZc (zQJ wxs++digW (ints kxs))).length)],Bx.row 5 1 ([]++zQg (toS (zZc (zQJ wxs++digW (ints kxs)))))],false⟩ | _,_=>none
def gZ45 (xs:List AV) (bs:List Bx):Option Ret:=match xs,bs with | [AV.one (Cl.ptr 0 0),AV.agg [Cl.d (DV.int _ w),Cl.d (DV.int _ h),Cl.d (DV.bool so),Cl.d (DV.int _ c0),Cl.d (DV.int _ c1),Cl.d (DV.int _ c2),Cl.d (DV.int _ ca),Cl.d (DV.int _ cf),Cl.d (DV.int _ w0),Cl.d (DV.int _ h0),Cl.d (DV.int _ s0),Cl.d (DV.sl n0 xs0),Cl.d (DV.int _ w1),Cl.d (DV.int _ h1),Cl.d (DV.int _ s1),Cl.d (DV.sl n1 xs1),Cl.d (DV.int _ w2),Cl.d (DV.int _ h2),Cl.d (DV.int _ s2),Cl.d (DV.sl n2 xs2),Cl.d (DV.int _ w3),Cl.d (DV.int _ h3),Cl.d (DV.int _ s3),Cl.d (DV.sl n3 xs3),Cl.d (DV.int _ w4),Cl.d (DV.int _ h4),Cl.d (DV.int _ s4),Cl.d (DV.sl n4 xs4)]],[Bx.cells [Cl.ptr 0 0,Cl.ref 1 n],Bx.row _ _ xs]=>some ⟨AV.tup [],[bC [Cl.ptr 0 0,Cl.ref 1 (n+(imTx ⟨w,h,so,⟨c0,c1,c2,ca,cf⟩,⟨w0,h0,s0,n0,xs0⟩,⟨w1,h1,s1,n1,xs1⟩,⟨w2,h2,s2,n2,xs2⟩,⟨w3,h3,s3,n3,xs3⟩,⟨w4,h4,s4,n4,xs4⟩⟩).length)],Bx.row 5 1 (xs++zQg (toS (imTx ⟨w,h,so,⟨c0,c1,c2,ca,cf⟩,⟨w0,h0,s0,n0,xs0⟩,⟨w1,h1,s1,n1,xs1⟩,⟨w2,h2,s2,n2,xs2⟩,⟨w3,h3,s3,n3,xs3⟩,⟨w4,h4,s4,n4,xs4⟩⟩)))],false⟩ | _,_=>none
def gZ46 (xs:List AV) (bs:List Bx):Option Ret:=match xs,bs with | [AV.one (Cl.ptr 0 0),AV.agg [Cl.d (DV.int _ okind),Cl.d (DV.int _ oimage),Cl.d (DV.int _ ox),Cl.d (DV.int _ oy),Cl.d (DV.int _ omask),Cl.d (DV.int _ omx),Cl.d (DV.int _ omy),Cl.d (DV.int _ oopac),Cl.d (DV.int _ ooper),Cl.d (DV.int _ omode),Cl.d (DV.bool oiso),Cl.d (DV.bool okno)]],[Bx.cells [Cl.ptr 0 0,Cl.ref 1 n],Bx.row _ _ xs]=>some ⟨AV.tup [],[bC [Cl.ptr 0 0,Cl.ref 1 (n+(opLn ⟨okind,oimage,ox,oy,omask,omx,omy,oopac,ooper,omode,oiso,okno⟩).length)],Bx.row 5 1 (xs++zQg (toS (opLn ⟨okind,oimage,ox,oy,omask,omx,omy,oopac,ooper,omode,oiso,okno⟩)))],false⟩ | _,_=>none
def jJr:Gam where
 pure:=fun f xs=>
  if f=55 then gZ1 xs else
  if f=56 then gZ3 xs else
  if f=61 then gZ13 xs else
  if f=60 then gZ25 xs else
  if f=62 then (match xs with | [.d (.bool is_)]=>some (rJ (bitN is_)) | _=>none) else
  none
 modes:=fun f=>
  if f=57 then some ([true],0,1) else
  if f=26 then some ([false,false,true],1,1) else
  if f=27 then some ([false,true],1,1) else
  if f=28 then some ([false,true],1,1) else
  none
 proc:=fun f xs bs=>
  if f=57 then gZ41 xs bs else
  if f=26 then gZ44 xs bs else
  if f=27 then gZ45 xs bs else
  if f=28 then gZ46 xs bs else
  none
 iter:=fun f cs=>
  none
theorem zY6 (p:Px):Ans prog 60 [RV.agg [dK p.a,dK p.b,dK p.c,dK p.al,dK p.f]] (RV.d (dS 5 (is (smpP p)))):=
 zQj (Γ:=jJr) Ann.leaf zQy Tryz.func60 rfl (Nat.le_of_ble_eq_true rfl) fun hwf=>by
  refine Eq.mpr (by kernel_rfl:_=(tU3 ((0≤(0:Int)∧(0:Int) < ((3:Nat):Int))∧tU3 ((0≤(1:Int)∧(1:Int) < ((3:Nat):Int))∧tU3 ((0≤(2:Int)∧(2:Int) < ((3:Nat):Int))∧tU2 (tU8 (RV.d (dS 5 ([dJ (wK p.a),dJ (wK p.b),dJ (wK p.c),dJ (wK p.al),dJ (wK p.f)]))=RV.d (dS 5 (is (smpP p)))))))))) ?_
  delta tU2 tU3 tU8 dJ wK dS
  simp only [sS]
  have hmn6:IntKind.min .u16=0:=by decide
  have hmx6:IntKind.max .u16=65535:=by decide
  simp only [RV.wfs,RV.wf,DV.wf,DV.wfs,hmn6,hmx6] at hwf
  have w:∀ n:Int,0≤n∧n≤65535→IntKind.wrap .i64 n=n:=fun n h=>IntWalk.i64_in _ ⟨by omega,by omega⟩
  rw [w p.a (by omega),w p.b (by omega),w p.c (by omega),w p.al (by omega),w p.f (by omega)]
  exact ⟨by decide,by decide,by decide,rfl⟩
theorem zKD (is_:Bool):Ans prog 62 [RV.d (dQ is_)] (rJ ((bitN is_))):=
 zQj (Γ:=jJr) Ann.leaf zQy Tryz.func62 rfl (Nat.le_of_ble_eq_true rfl) fun hwf=>by
  refine Eq.mpr (by kernel_rfl:_=(tU2 ((is_=true→True∧rJ 1=rJ (bitN is_))∧(is_=false→True∧rJ 0=rJ (bitN is_))))) ?_
  delta tU2 rJ
  simp only [sS]
  exact ⟨fun h=>by rw [h]; rfl,fun h=>by rw [h]; rfl⟩
theorem zJh (n:Nat) (xs:List DV) (m:Im) (hn:xs.length=n) (hb:n+(imTx m).length≤17592186044416) (hu:m.isU) (hp:m.pixels.length≤68719476736):AnsG prog 27 1 [aPz,(imD (m))] [bC [Cl.ptr 0 0,Cl.ref 1 n],Bx.row 5 1 xs] ⟨AV.tup [],[bC [Cl.ptr 0 0,Cl.ref 1 (n+(imTx m).length)],Bx.row 5 1 (xs++zQg (toS (imTx m)))],false⟩:=
 zQz (Γ:=jJr) (Ann.seq Ann.leaf (Ann.seq Ann.leaf (Ann.seq Ann.leaf (Ann.seq Ann.leaf (Ann.loop ⟨Nat,fun k=>k≤m.pixels.length,fun k=>⟨[(0,aPz),(29,AV.one (Cl.ref 29 (Im.pixels m).length)),(30,aJ (((Im.pixels m).length:Nat):Int)),(31,aJ (k:Int))],[(0,bC [Cl.ptr 0 0,Cl.ref 1002 (n+(zQD zQP [m.w,m.h]++[10]++(m.pixels.take k).flatMap pxTx).length)]),(29,Bx.row 37 5 (pxs (Im.pixels m))),(1002,Bx.row 5 1 (xs++zQg (toS (zQD zQP [m.w,m.h]++[10]++(m.pixels.take k).flatMap pxTx))))]⟩,fun k=>m.pixels.length - k⟩ fun k=>Ann.leaf))))) zQy Tryz.func27 rfl (Nat.le_of_ble_eq_true rfl) rfl fun hwf hbx=>by
  refine Eq.mpr (by kernel_rfl:_=(let f:=(is (smpP (m.c:Px))); let t:=[bC [Cl.ptr 0 0,Cl.ref 1 (n+(imTx m).length)],Bx.row 5 1 (xs++zQg (toS (imTx m)))]; let b:=(Im.pixels m); let a:=(pxs b); let d:=((b.length:Nat):Int); let e:=([dJ m.w,dJ m.h]); let g:=(zZc (zQJ ([DV.str (⟨#[115,111,108,105,100]⟩:ByteArray)])++digW (ints (e++f)))); let h:=(zZc (zQJ ([DV.str (⟨#[105,109,97,103,101]⟩:ByteArray)])++digW (ints e))); let u:=(b.length=b.length); let v:=(dJ d=dJ d); let w:=(pxs b=pxs b); tU3 ((m.so=true→True∧tU8 ((Ans prog 60 [RV.agg [dK m.c.a,dK m.c.b,dK m.c.c,dK m.c.al,dK m.c.f]] (RV.d (dS 5 f)))∧(zZk 1 8 2 5 e f)∧(AnsG prog 26 1 [aPz,AV.one (Cl.ref 1 1),AV.one (Cl.d (dS (2+5) (e++f)))] [bC [Cl.ptr 0 0,Cl.ref 2 n],Bx.row 9 1 ([DV.str (⟨#[115,111,108,105,100]⟩:ByteArray)]),Bx.row 5 1 xs] ⟨AV.tup [],[bC [Cl.ptr 0 0,Cl.ref 1 (n+g.length)],Bx.row 5 1 (xs++zQg (toS g))],false⟩)∧(true=true)∧((True∧True)∧(((0=0)∧(n+g.length=n+(imTx m).length)∧True)∧(xs++zQg (toS g)=xs++zQg (toS (imTx m)))∧True))∧zQu ⟨AV.tup [],t,false⟩))∧(m.so=false→tU7 ((AnsG prog 26 1 [aPz,AV.one (Cl.ref 1 1),AV.one (Cl.d (dS 2 e))] [bC [Cl.ptr 0 0,Cl.ref 2 n],Bx.row 9 1 ([DV.str (⟨#[105,109,97,103,101]⟩:ByteArray)]),Bx.row 5 1 xs] ⟨AV.tup [],[bC [Cl.ptr 0 0,Cl.ref 1 (n+h.length)],Bx.row 5 1 (xs++zQg (toS h))],false⟩)∧True∧(AnsO prog 61 [(imR m)] 37 5 b.length a)∧(b.length≤maxLen)∧True∧((∃ k:Nat,let x:=(zQD zQP [m.w,m.h]++[10]++(m.pixels.take k).flatMap pxTx); (k≤m.pixels.length)∧(((0=0)∧u∧v∧(dJ 0=dJ (k:Int))∧True)∧(((0=0)∧(n+h.length=n+x.length)∧True)∧w∧(xs++zQg (toS h)=xs++zQg (toS x))∧True)))∧∀ k:Nat,let j:=(nAt a ((k:Int).toNat*5)); let l:=(nAt a ((k:Int).toNat*5+1+1+1+1)); let o:=(nAt a ((k:Int).toNat*5+1+1+1)); let p:=(nAt a ((k:Int).toNat*5+1+1)); let q:=(nAt a ((k:Int).toNat*5+1)); let r:=(is (smpP (⟨j,q,p,o,l⟩:Px))); let i:=(zZc ([]++digW (ints r))); let c:=(zQD zQP [m.w,m.h]++[10]++(m.pixels.take k).flatMap pxTx); let s:=(xs++zQg (toS c)); (k≤m.pixels.length)→True∧(((decide ((k:Int) < d))=true→(0≤(k:Int)∧(k:Int) < d)∧((a[(k:Int).toNat*5]?=some (dK j))∧(a[(k:Int).toNat*5+1]?=some (dK q))∧(a[(k:Int).toNat*5+1+1]?=some (dK p))∧(a[(k:Int).toNat*5+1+1+1]?=some (dK o))∧(a[(k:Int).toNat*5+1+1+1+1]?=some (dK l))∧True)∧tU4 ((Ans prog 60 [RV.agg [dK j,dK q,dK p,dK o,dK l]] (RV.d (dS 5 r)))∧(AnsG prog 26 1 [aPz,AV.one Cl.nil,AV.one (Cl.d (dS 5 r))] [bC [Cl.ptr 0 0,Cl.ref 1 (n+c.length)],Bx.row 5 1 s] ⟨AV.tup [],[bC [Cl.ptr 0 0,Cl.ref 1 ((n+c.length)+i.length)],Bx.row 5 1 (s++zQg (toS i))],false⟩)∧tU2 (∃ k':Nat,let y:=(zQD zQP [m.w,m.h]++[10]++(m.pixels.take k').flatMap pxTx); (k'≤m.pixels.length)∧(m.pixels.length - k' < m.pixels.length - k)∧(((0=0)∧u∧v∧(dJ (wK ((k:Int)+1))=dJ (k':Int))∧True)∧(((0=0)∧((n+c.length)+i.length=n+y.length)∧True)∧w∧(s++zQg (toS i)=xs++zQg (toS y))∧True)))))∧((decide ((k:Int) < d))=false→((True∧True)∧(((0=0)∧(n+c.length=n+(imTx m).length)∧True)∧(xs++zQg (toS c)=xs++zQg (toS (imTx m)))∧True))∧zQu ⟨AV.tup [],t,false⟩)))))))) ?_
  delta tU2 tU3 tU4 tU7 tU8 dJ dK wK dS aPz bC
  simp only [sS]
  clear hwf hbx
  have ls:(⟨#[115,111,108,105,100]⟩:ByteArray)=toS zQN:=rfl
  have li:(⟨#[105,109,97,103,101]⟩:ByteArray)=toS zQP:=rfl
  have r1:∀ w:Lb,[DV.str (toS w)]=strs [w]:=fun w=>rfl
  have r2:[DV.int .i64 m.w,DV.int .i64 m.h]=is [m.w,m.h]:=rfl
  have r3:is [m.w,m.h]++is (smpP m.c)=is ([m.w,m.h]++smpP m.c):=by simp [is]
  have hl5:∀ p:Px,(smpP p).length=5:=fun p=>rfl
  simp only [ls,li,r1,r2,r3,zQE,zQM,List.nil_append]
  refine ⟨fun h=>?_,fun h=>?_⟩
  ·have e:=zWA m h
   have aL:=writer_line_used' n xs [zQN] ([m.w,m.h]++smpP m.c) hn (by rw [e]; omega) (by simp [smpP]) (by simp)
   refine ⟨zY6 m.c,⟨rfl,rfl,by decide,by decide⟩,aL,?_⟩
   rw [e]
   exact ⟨⟨rfl,rfl⟩,trivial⟩
  ·have e:imTx m=zQD zQP [m.w,m.h]++[10]++m.pixels.flatMap pxTx:=by unfold imTx; rw [h]; rfl
   have e0:zZc ([zQP]++digW [m.w,m.h])=zQD zQP [m.w,m.h]++[10]:=zZK _ _ (by decide)
   have hle:=jKj m.pixels
   have hlen:(imTx m).length=(zQD zQP [m.w,m.h]++[10]).length+(m.pixels.flatMap pxTx).length:=by rw [e,List.length_append]
   generalize zQD zQP [m.w,m.h]++[10]=H at *
   have aL:=writer_line_used' n xs [zQP] [m.w,m.h] hn (by rw [e0]; omega) (by simp) (by simp)
   rw [e0] at aL ⊢
   refine ⟨aL,zWH m hu,by unfold maxLen; omega,⟨0,Nat.zero_le _,rfl,by simp,by simp⟩,fun k hk=>⟨fun hlt=>?_,fun hge=>?_⟩⟩
   ·have h:k < m.pixels.length:=by omega
    have wi:IntKind.wrap .i64 ((k:Int)+1)=((k+1:Nat):Int):=by rw [IntWalk.i64_in _ ⟨by omega,by omega⟩]; omega
    obtain ⟨q0,q1,q2,q3,q4⟩:=zHm h
    obtain ⟨a0,a1,a2,a3,a4⟩:=zZm h
    have ht:=jXR h
    have hk1:=hle (k+1)
    have hk0:=hle k
    simp only [a0,a1,a2,a3,a4]
    generalize m.pixels[k]=p at *
    have ep:=zWB p
    have hxk:(xs++zQg (toS (H++(m.pixels.take k).flatMap pxTx))).length=n+(H++(m.pixels.take k).flatMap pxTx).length:=by rw [List.length_append,zJ1,zQF,hn]
    have hlk:(H++(m.pixels.take k).flatMap pxTx).length=H.length+((m.pixels.take k).flatMap pxTx).length:=List.length_append
    rw [ht,List.length_append] at hk1
    have aN:=writer_line_nil' _ _ (smpP p) hxk (by rw [ep]; omega) (by simp [smpP])
    refine ⟨⟨by omega,by omega⟩,⟨q0,q1,q2,q3,q4⟩,zY6 p,aN,k+1,by omega,by omega,wi,?_,?_⟩
    ·rw [ep,ht,← List.append_assoc]; simp only [List.length_append]; omega
    ·rw [ep,ht,List.append_assoc,zZo,List.append_assoc]
   ·have:k=m.pixels.length:=by omega
    subst this
    rw [List.take_length,e]
    exact ⟨⟨rfl,rfl⟩,trivial⟩
theorem zKA (n:Nat) (xs:List DV) (o:Oq) (hn:xs.length=n) (hb:n+(opLn o).length≤17592186044416):AnsG prog 28 1 [aPz,AV.agg [cJ (o.kind),cJ (o.image),cJ (o.x),cJ (o.y),cJ (o.mask),cJ (o.mx),cJ (o.my),cK (o.opac),cJ (o.oper),cJ (o.mode),Cl.d (dQ o.iso),Cl.d (dQ o.kno)]] [bC [Cl.ptr 0 0,Cl.ref 1 n],Bx.row 5 1 xs] ⟨AV.tup [],[bC [Cl.ptr 0 0,Cl.ref 1 (n+(opLn ⟨o.kind,o.image,o.x,o.y,o.mask,o.mx,o.my,o.opac,o.oper,o.mode,o.iso,o.kno⟩).length)],Bx.row 5 1 (xs++zQg (toS (opLn ⟨o.kind,o.image,o.x,o.y,o.mask,o.mx,o.my,o.opac,o.oper,o.mode,o.iso,o.kno⟩)))],false⟩:=
 zQz (Γ:=jJr) Ann.leaf zQy Tryz.func28 rfl (Nat.le_of_ble_eq_true rfl) rfl fun hwf hbx=>by
  refine Eq.mpr (by kernel_rfl:_=(let l:=([dJ (bitN o.iso),dJ (bitN o.kno)]); let h:=[Cl.ptr 0 0,Cl.ref 2 n]; let m:=([dJ o.mask,dJ o.mx,dJ o.my,dJ (wK o.opac)]); let p:=([dJ o.image,dJ o.x,dJ o.y,dJ o.mask,dJ o.mx,dJ o.my,dJ (wK o.opac)]); let b:=(digW (ints p)); let c:=(digW (ints m)); let a:=(opLn ⟨o.kind,o.image,o.x,o.y,o.mask,o.mx,o.my,o.opac,o.oper,o.mode,o.iso,o.kno⟩); let i:=[bC [Cl.ptr 0 0,Cl.ref 1 (n+a.length)],Bx.row 5 1 (xs++zQg (toS a))]; let d:=([DV.str (zQo o.oper),DV.str (zQf o.mode)]); let j:=(([DV.str (⟨#[100,114,97,119]⟩:ByteArray)])++(strs b)); let e:=(zZc (zQJ ([DV.str (⟨#[112,111,112]⟩:ByteArray)])++digW (ints ([])))); let f:=(zZc (zQJ (j++d)++digW (ints ([])))); let q:=([DV.str (⟨#[112,117,115,104]⟩:ByteArray)]); let k:=(q++(strs c)); let g:=(zZc (zQJ (k++d)++digW (ints l))); tU3 ((Ans prog 55 [rJ o.oper] (RV.d (DV.str (zQo o.oper))))∧tU2 ((Ans prog 56 [rJ o.mode] (RV.d (DV.str (zQf o.mode))))∧tU2 ((true=true)∧tU4 (((o.kind==1)=true→tU8 (tU8 ((AnsG prog 57 0 [AV.one (Cl.d (dS 7 p))] [] ⟨AV.one (Cl.ref 0 b.length),[Bx.row 9 1 (strs b)],false⟩)∧tU4 ((zZk 1 16 1 b.length ([DV.str (⟨#[100,114,97,119]⟩:ByteArray)]) (strs b))∧True∧(zZk 1 16 (1+b.length) 2 j d)∧(AnsG prog 26 1 [aPz,AV.one (Cl.ref 1 ((1+b.length)+2)),AV.one (Cl.d (dS 0 ([])))] [bC h,Bx.row 9 1 (j++d),Bx.row 5 1 xs] ⟨AV.tup [],[bC [Cl.ptr 0 0,Cl.ref 1 (n+f.length)],Bx.row 5 1 (xs++zQg (toS f))],false⟩)∧((True∧True)∧(((0=0)∧(n+f.length=n+a.length)∧True)∧(xs++zQg (toS f)=xs++zQg (toS a))∧True))∧zQu ⟨AV.tup [],i,false⟩))))∧((o.kind==1)=false→tU2 (((o.kind==2)=true→tU2 (tU8 ((AnsG prog 57 0 [AV.one (Cl.d (dS 4 m))] [] ⟨AV.one (Cl.ref 0 c.length),[Bx.row 9 1 (strs c)],false⟩)∧tU4 ((zZk 1 16 1 c.length q (strs c))∧True∧(zZk 1 16 (1+c.length) 2 k d)∧tU2 ((Ans prog 62 [RV.d (dQ o.iso)] (rJ (bitN o.iso)))∧tU2 ((Ans prog 62 [RV.d (dQ o.kno)] (rJ (bitN o.kno)))∧True∧(AnsG prog 26 1 [aPz,AV.one (Cl.ref 1 ((1+c.length)+2)),AV.one (Cl.d (dS 2 l))] [bC h,Bx.row 9 1 (k++d),Bx.row 5 1 xs] ⟨AV.tup [],[bC [Cl.ptr 0 0,Cl.ref 1 (n+g.length)],Bx.row 5 1 (xs++zQg (toS g))],false⟩)∧(true=true)∧((True∧True)∧(((0=0)∧(n+g.length=n+a.length)∧True)∧(xs++zQg (toS g)=xs++zQg (toS a))∧True))∧zQu ⟨AV.tup [],i,false⟩))))))∧((o.kind==2)=false→tU2 ((AnsG prog 26 1 [aPz,AV.one (Cl.ref 1 1),AV.one (Cl.d (dS 0 ([])))] [bC h,Bx.row 9 1 ([DV.str (⟨#[112,111,112]⟩:ByteArray)]),Bx.row 5 1 xs] ⟨AV.tup [],[bC [Cl.ptr 0 0,Cl.ref 1 (n+e.length)],Bx.row 5 1 (xs++zQg (toS e))],false⟩)∧((True∧True)∧(((0=0)∧(n+e.length=n+a.length)∧True)∧(xs++zQg (toS e)=xs++zQg (toS a))∧True))∧zQu ⟨AV.tup [],i,false⟩)))))))))) ?_
  delta tU2 tU3 tU4 tU8 dJ dQ wK dS rJ aPz bC
  simp only [sS]
  have hmn6:IntKind.min .u16=0:=by decide
  have hmx6:IntKind.max .u16=65535:=by decide
  simp only [AV.wfL,AV.wf,Cl.wfs,DV.wf,hmn6,hmx6] at hwf
  have hop:0≤o.opac∧o.opac≤65535:=by omega
  have wo:IntKind.wrap .i64 o.opac=o.opac:=IntWalk.i64_in _ ⟨by omega,by omega⟩
  clear hwf hbx
  have aO:=zQ3 o.oper
  have aM:=zZP o.mode
  have aI:=zKD o.iso
  have aK:=zKD o.kno
  have e1:zQo o.oper=toS (ofS (zQo o.oper)):=(zYO _).symm
  have e2:zQf o.mode=toS (ofS (zQf o.mode)):=(zYO _).symm
  have lt:(⟨#[100,114,97,119]⟩:ByteArray)=toS zZV:=rfl
  have lp:(⟨#[112,117,115,104]⟩:ByteArray)=toS zZ0:=rfl
  have lq:(⟨#[112,111,112]⟩:ByteArray)=toS sPop:=rfl
  have r1:∀ w:Lb,[DV.str (toS w)]=strs [w]:=fun w=>rfl
  have r2:[DV.str (zQo o.oper),DV.str (zQf o.mode)]=strs [ofS (zQo o.oper),ofS (zQf o.mode)]:=by rw [show ∀ a b:Lb,strs [a,b]=[DV.str (toS a),DV.str (toS b)] from fun a b=>rfl,zYO,zYO]
  have i7:[DV.int .i64 o.image,DV.int .i64 o.x,DV.int .i64 o.y,DV.int .i64 o.mask,DV.int .i64 o.mx,DV.int .i64 o.my,DV.int .i64 (IntKind.wrap .i64 o.opac)]=is [o.image,o.x,o.y,o.mask,o.mx,o.my,o.opac]:=by rw [wo]; rfl
  have i4:[DV.int .i64 o.mask,DV.int .i64 o.mx,DV.int .i64 o.my,DV.int .i64 (IntKind.wrap .i64 o.opac)]=is [o.mask,o.mx,o.my,o.opac]:=by rw [wo]; rfl
  have i2:[DV.int .i64 (bitN o.iso),DV.int .i64 (bitN o.kno)]=is [bitN o.iso,bitN o.kno]:=rfl
  have i0:ints []=[]:=rfl
  have d0:digW []=[]:=rfl
  have k1:(o.kind==1)=decide (o.kind=1):=by rw [Bool.eq_iff_iff]; simp
  have k2:(o.kind==2)=decide (o.kind=2):=by rw [Bool.eq_iff_iff]; simp
  have dl:∀ l:List Int,(digW l).length=l.length:=fun l=>by simp [digW]
  simp only [lt,lp,lq,r1,r2,↓i7,↓i4,↓i2,zQM,← jQP,zQE,i0,d0,List.append_nil,k1,k2,decide_eq_true_eq,decide_eq_false_iff_not,Oq.eta_]
  refine ⟨aO,aM,fun h=>?_,fun h=>⟨fun h2=>?_,fun h2=>?_⟩⟩
  ·have e:=zUJ o h
   have aL:=writer_line_used' n xs ([zZV]++digW [o.image,o.x,o.y,o.mask,o.mx,o.my,o.opac]++[ofS (zQo o.oper),ofS (zQf o.mode)]) [] hn (by rw [d0,List.append_nil,e]; omega) (by simp) (by simp [dl])
   rw [d0,List.append_nil] at aL
   rw [show ([zZV]++digW [o.image,o.x,o.y,o.mask,o.mx,o.my,o.opac]++[ofS (zQo o.oper),ofS (zQf o.mode)]).length=1+(digW [o.image,o.x,o.y,o.mask,o.mx,o.my,o.opac]).length+2 by simp [dl]] at aL
   refine ⟨text_digits' [o.image,o.x,o.y,o.mask,o.mx,o.my,o.opac] (by simp),⟨rfl,by rw [zXf,Nat.mul_one],by simp [dl,maxLen],by simp [dl]⟩,⟨by rw [zXf]; simp; omega,rfl,by simp [dl,maxLen],by simp [dl]⟩,aL,?_⟩
   rw [e]
   exact ⟨⟨rfl,rfl⟩,trivial⟩
  ·have e:=zUI o h2
   have aL:=writer_line_used' n xs ([zZ0]++digW [o.mask,o.mx,o.my,o.opac]++[ofS (zQo o.oper),ofS (zQf o.mode)]) [bitN o.iso,bitN o.kno] hn (by rw [e]; omega) (by simp) (by simp [dl])
   rw [show ([zZ0]++digW [o.mask,o.mx,o.my,o.opac]++[ofS (zQo o.oper),ofS (zQf o.mode)]).length=1+(digW [o.mask,o.mx,o.my,o.opac]).length+2 by simp [dl]] at aL
   refine ⟨text_digits' [o.mask,o.mx,o.my,o.opac] (by simp),⟨rfl,by rw [zXf,Nat.mul_one],by simp [dl,maxLen],by simp [dl]⟩,⟨by rw [zXf]; simp; omega,rfl,by simp [dl,maxLen],by simp [dl]⟩,aI,aK,aL,?_⟩
   rw [e]
   exact ⟨⟨rfl,rfl⟩,trivial⟩
  ·have e:=zHx o h h2
   have aL:=writer_line_used' n xs [sPop] [] hn (by rw [d0,List.append_nil,e]; omega) (by simp) (by simp)
   rw [d0,List.append_nil] at aL
   refine ⟨aL,?_⟩
   rw [e]
   exact ⟨⟨rfl,rfl⟩,trivial⟩
end
section
open Go.Lib
theorem zH7 (l:Lb):strD (zQg (toS l))=toS l:=by
 unfold strD zQg toS
 simp only [List.map_map]
 congr 2
 conv=>rhs; rw [← List.map_id l]
 refine List.map_congr_left fun b _=>?_
 simp [jZI]
theorem jZG {w:World} {V:Nat→Prop}:∀ {l:Lb} {vs:List Value},zQ6 w V (zQg (toS l)) vs→∀ (j:Nat) (x:UInt8),l[j]?=some x→vs[j]?=some (Value.int .u8 (x.toNat:Int))
 | [],_,_,j,x,h=>by simp at h
 | b::l,[],h,_,_,_=>h.elim
 | b::l,v::vs,h,j,x,hj=>by
  have h1:RepD w V (.int .u8 (b.toNat:Int)) v:=h.1
  have h2:zQ6 w V (zQg (toS l)) vs:=h.2
  cases j with
  | zero=>
   simp only [List.getElem?_cons_zero,Option.some.injEq] at hj ⊢
   subst hj
   simp only [RepD] at h1
   exact h1.1
  | succ j=>exact jZG h2 j x (by simpa using hj)
set_option maxHeartbeats 1000000 in
set_option maxRecDepth 100000 in
theorem zH6 (g g2 cap:Nat) (l:Lb) (cur:Array Value) (w:World) (p:Value) (T:Nat) (h0:l≠[]) (h63:l.length≤9223372036854775807)
  (hg:w.heap[g]?=some (.cells #[p,.slice (some ⟨g2,0,none⟩) l.length cap] T (0,0))) (hr:zJJ w g2 cur 5) (hn:l.length≤cap) (hcs:cur.size=cap*1) (hcell:∀ (j:Nat) (x:UInt8),l[j]?=some x→cur[j]?=some (Value.int .u8 (x.toNat:Int))) :
  Calls prog 29 #[.pointer (some ⟨g,0,none⟩)] w fun e w'=>e=.returned (.string (toS l))∧w'=w.drew.freeze ⟨g2,0,none⟩ l.length:=by
 have hl0:l.length≠0:=by simpa using h0
 have c1:w.drew.cell? ⟨g,1,none⟩=some (.slice (some ⟨g2,0,none⟩) l.length cap):=by
  have:w.drew.heap[g]?=some (.cells #[p,.slice (some ⟨g2,0,none⟩) l.length cap] T (0,0)):=hg
  rw [Lib.cell_of_heap this]; rfl
 have hSD:(Builtin.unsafeSliceData_ #[80] 122 #[.slice (some ⟨g2,0,none⟩) l.length cap]).run prog w.drew=.ok (.pointer (some ⟨g2,0,none⟩)) w.drew:=
  Lib.run_unsafeSliceData_row _ _ _ _ _ _ (by omega)
 have hUS:(Builtin.unsafeString_ #[122,3] 9 #[.pointer (some ⟨g2,0,none⟩),.int .i64 l.length]).run prog w.drew=.ok (.string (toS l)) (w.drew.freeze ⟨g2,0,none⟩ l.length):=by
  obtain ⟨m,hm,_⟩:=hr
  have hm':w.drew.heap[g2]?=some (.cells cur 5 m):=hm
  refine Lib.run_unsafeString_row w.drew 122 3 9 5 Tryz.underlying122 (by kernel_rfl) g2 cur.size (by simp [World.shape?,hm']) l h0 (by omega) h63 fun j x hj=>?_
  rw [zZC,Nat.zero_add,cell_of_row w.drew g2 j cur _ m hm']
  exact hcell j x hj
 have mixed:=zQy
 go_enter Tryz.func29,Tryz.ntmps29
 go_wp2
 go_region_o
 all_goals (go_wp2; go_ret; exact ⟨rfl,rfl⟩)
theorem zW3 (l:Lb) (h0:l≠[]) (h63:l.length≤9223372036854775807):AnsG prog 29 0 [aPz] [bC [Cl.ptr 0 0,Cl.ref 1 l.length],Bx.row 5 1 (zQg (toS l))] ⟨AV.one (Cl.d (DV.str (toS l))),[],false⟩:=by
 intro w S ι vs hG hh
 obtain ⟨vs⟩:=vs
 have ha:=hh.args
 match vs,ha with
 | [v],ha=>
  simp only [RepAVs,zQr,zQG,and_true] at ha
  obtain ⟨_,g,c,hι,rfl⟩:=ha
  have hb0:=hh.bx 0
  have hb1:=hh.bx 1
  have e0:zQI [Bx.cells [Cl.ptr 0 0,Cl.ref 1 l.length],Bx.row 5 1 (zQg (toS l))] 0=Bx.cells [Cl.ptr 0 0,Cl.ref 1 l.length]:=rfl
  have e1:zQI [Bx.cells [Cl.ptr 0 0,Cl.ref 1 l.length],Bx.row 5 1 (zQg (toS l))] 1=Bx.row 5 1 (zQg (toS l)):=rfl
  rw [e0] at hb0
  rw [e1] at hb1
  obtain ⟨g',c',cur,T,i1,i2,_,i3⟩:=hb0
  rw [hι] at i1
  simp only [Option.some.injEq,Prod.mk.injEq] at i1
  obtain ⟨rfl,rfl⟩:=i1
  obtain ⟨cur⟩:=cur
  match cur,i3 with
  | [a,b],i3=>
   simp only [zQQ,zQG,and_true] at i3
   obtain ⟨⟨_,g3,c3,j1,rfl⟩,_,hb⟩:=i3
   rcases hb1 with ⟨_,hb1⟩ | ⟨g2,cap,cur2,k1,k2,k3,k4,k5⟩
   ·exfalso
    cases l with
    | nil=>exact h0 rfl
    | cons b l=>simp [zQg,toS] at hb1
   ·rcases hb with ⟨n1,_⟩ | ⟨g4,cap4,n1,rfl,n2⟩
    ·rw [k1] at n1; cases n1
    ·rw [k1] at n1
     simp only [Option.some.injEq,Prod.mk.injEq] at n1
     obtain ⟨rfl,rfl⟩:=n1
     have hg2:g2 < w.heap.size:=by
      obtain ⟨m,hm,_⟩:=k2
      exact (Array.getElem?_eq_some_iff.1 hm).1
     refine (zH6 g g2 cap l cur2 w _ T h0 h63 i2 k2 n2 k4 fun j x hj=>?_).mono ?_
     ·have:=jZG k5 j x hj
      rw [List.getElem?_take] at this
      split at this
      ·simpa using this
      ·cases this
     ·rintro e w' ⟨rfl,rfl⟩
      refine ⟨_,ι,rfl,?_,fun b=>trivial,fun b g c hl=>(by cases hl),fun b b' g c c' hl=>(by cases hl),fun b hb=>absurd hb (by omega),?_⟩
      ·simp only [zQr,zQG,RepD]
       exact ⟨trivial,by rw [zQF]; unfold maxLen; omega⟩
      ·have hz:¬ l.length=0:=by simpa using h0
       simp only [World.freeze,if_neg hz]
       refine ⟨rfl,rfl,rfl,?_,fun g' hg' hl=>?_⟩
       ·show _≤(Array.modify _ _ _).size
        rw [Array.size_modify]
        exact Nat.le_refl _
       ·have hne:g'≠g2:=fun e=>hl ⟨1,cap,rfl,by rw [e]; exact k1⟩
        show (w.heap.modify g2 _)[g']?=_
        simp [Array.getElem?_modify,Ne.symm hne]
end
section
attribute [local irreducible] Ans AnsO AnsG AnsN AnsI
open Go.Lib
def hd1 (s:Scr):Lb:=zQD zX3 [s.bits]++[10]
def hd2 (s:Scr):Lb:=hd1 s++(zQD zZw [s.c.a,s.c.b,s.c.c,s.c.d]++[10])
theorem hd3 (s:Scr):hdTx s=hd2 s++(zQD zZ3 [s.tw,s.th]++[10]):=by unfold hdTx hd2 hd1; simp only [List.append_assoc]
theorem rowB {a b c:Lb} (h:c=a++b):zQg (toS a)++zQg (toS b)=zQg (toS c):=by rw [h,zZo]
theorem lenB (l:Lb):(zQg (toS l)).length=l.length:=by rw [zJ1,zQF]
theorem zYb (H w:Lb) (l:List Int) (r:Lb) (hr:zZc ([w]++digW l)=r) (hb:(H++r).length≤17592186044416) (hl:l.length≤1099511627776) :
  AnsG prog 26 1 [AV.one (Cl.ptr 0 0),AV.one (Cl.ref 1 1),AV.one (Cl.d (DV.sl l.length (is l)))] [Bx.cells [Cl.ptr 0 0,Cl.ref 2 H.length],Bx.row 9 1 (strs [w]),Bx.row 5 1 (zQg (toS H))]
   ⟨AV.tup [],[Bx.cells [Cl.ptr 0 0,Cl.ref 1 (H.length+r.length)],Bx.row 5 1 (zQg (toS H)++zQg (toS r))],false⟩:=by
 have:=writer_line_used' H.length (zQg (toS H)) [w] l (lenB H) (by rw [hr,← List.length_append]; exact hb) hl (by simp)
 rw [hr] at this
 exact this
def jVF:Gam where
 pure:=fun f xs=>
  if f=24 then gZ22 xs else
  if f=25 then gZ40 xs else
  none
 modes:=fun f=>
  if f=29 then some ([false],0,0) else
  if f=26 then some ([false,false,true],1,1) else
  if f=27 then some ([false,true],1,1) else
  if f=28 then some ([false,true],1,1) else
  none
 proc:=fun f xs bs=>
  if f=29 then (match xs,bs with | [AV.one (Cl.ptr 0 0)],[Bx.cells [Cl.ptr 0 0,Cl.ref 1 n],Bx.row _ _ xs]=>some ⟨AV.one (Cl.d (DV.str (strD xs))),[],false⟩ | _,_=>none) else
  if f=26 then gZ44 xs bs else
  if f=27 then gZ45 xs bs else
  if f=28 then gZ46 xs bs else
  none
 iter:=fun f cs=>
  none
theorem zV5 (s:Scr) (hM:∀ m∈s.ims,m.isU) (hp:∀ m∈s.ims,m.formed=true→imIn m) (hq:∀ o∈s.ops,0≤o.opac∧o.opac≤65535) (hol:s.ord.length≤17592186044416):Ans prog 11 [RV.agg [dJ s.bits,dJ s.c.a,dJ s.c.b,dJ s.c.c,dJ s.c.d,dJ s.tw,dJ s.th,dS s.ord.length (is s.ord),dS s.ims.length (ims s.ims),dS s.ops.length (ops s.ops)]] (RV.tup [RV.d (DV.str (toS (fmtR s).1)),rJ (((fmtR s).2))]):=
 zQj (Γ:=jVF) (let c:=(1,AV.one (Cl.ptr 1 0)); let d:=(6,AV.one (Cl.ptr 26 0)); let e:=(dS s.ops.length (ops s.ops)); let f:=(Cl.d e); let g:=(dS s.ims.length (ims s.ims)); let a:=(1,bC [cJ s.bits,cJ s.c.a,cJ s.c.b,cJ s.c.c,cJ s.c.d,cJ s.tw,cJ s.th,Cl.d (dS s.ord.length (is s.ord)),Cl.d g,Cl.d e]); let b:=[c,d]; (Ann.seq Ann.leaf (Ann.seq Ann.leaf (Ann.seq (Ann.seq Ann.leaf (Ann.loop ⟨Nat,fun k=>k≤s.ops.length∧(s.ops.take k).all prtO=true,fun k=>⟨[c,(15,AV.one f),(16,aJ (s.ops.length:Int)),(17,aJ (k:Int))],[a]⟩,fun k=>s.ops.length - k⟩ fun k=>Ann.leaf)) (Ann.seq Ann.leaf (Ann.cut ⟨Nat,fun z1=>z1=0,fun z1=>⟨b,[a,(26,bC [Cl.ptr 26 0,Cl.ref 9101 (hd1 s).length]),(9101,Bx.row 5 1 (zQg (toS (hd1 s))))]⟩,fun z1=>0⟩ Ann.leaf fun z1=>(Ann.cut ⟨Nat,fun z2=>z2=0,fun z2=>⟨b,[a,(26,bC [Cl.ptr 26 0,Cl.ref 9102 (hd2 s).length]),(9102,Bx.row 5 1 (zQg (toS (hd2 s))))]⟩,fun z2=>0⟩ Ann.leaf fun z2=>(Ann.cut ⟨Nat,fun z3=>z3=0,fun z3=>⟨b,[a,(26,bC [Cl.ptr 26 0,Cl.ref 9103 (hdTx s).length]),(9103,Bx.row 5 1 (zQg (toS (hdTx s))))]⟩,fun z3=>0⟩ Ann.leaf fun z3=>(Ann.cut ⟨Nat,fun z4=>z4=0,fun z4=>⟨b,[a,(26,bC [Cl.ptr 26 0,Cl.ref 9104 (fmtA s 0).length]),(9104,Bx.row 5 1 (zQg (toS (fmtA s 0))))]⟩,fun z4=>0⟩ Ann.leaf fun z4=>(Ann.seq (Ann.seq Ann.leaf (Ann.loop ⟨Nat,fun i=>i≤s.ims.length,fun i=>⟨[c,d,(67,AV.one (Cl.d g)),(68,aJ (s.ims.length:Int)),(69,aJ (i:Int))],[a,(26,bC [Cl.ptr 26 0,Cl.ref 9002 (fmtA s i).length]),(9002,Bx.row 5 1 (zQg (toS (fmtA s i))))]⟩,fun i=>s.ims.length - i⟩ fun i=>Ann.leaf)) (Ann.seq (Ann.seq Ann.leaf (Ann.loop ⟨Nat,fun j=>j≤s.ops.length,fun j=>⟨[d,(78,AV.one f),(79,aJ (s.ops.length:Int)),(80,aJ (j:Int))],[(26,bC [Cl.ptr 26 0,Cl.ref 9002 (fmtC s j).length]),(9002,Bx.row 5 1 (zQg (toS (fmtC s j))))]⟩,fun j=>s.ops.length - j⟩ fun j=>Ann.leaf)) Ann.leaf))))))))))) zQy Tryz.func11 rfl (Nat.le_of_ble_eq_true rfl) fun hwf=>by
  refine Eq.mpr (by kernel_rfl:_=(let w:=(toS (fmtA s 0)); let e:=(Cl.ref 1 1); let w1:=(decide ((s.ord.length:Int) > 0)); let w2:=([dJ s.c.a,dJ s.c.b,dJ s.c.c,dJ s.c.d]); let x:=(zQg (toS (hd2 s))); let y:=(zQg (toS (hd1 s))); let z:=(toS (hdTx s)); let A:=(zQg z); let c:=((0=0)∧(0=0)∧True); let a:=(s.ops.length:Int); let d:=(s.ims.length:Int); let f:=(zZc (zQJ ([DV.str (⟨#[99,97,110,118,97,115]⟩:ByteArray)])++digW (ints w2))); let g:=(zZc (zQJ ([DV.str (⟨#[116,105,108,101,115]⟩:ByteArray)])++digW (ints ([dJ s.tw,dJ s.th])))); let h:=(zZc (zQJ ([DV.str (⟨#[98,105,116,115]⟩:ByteArray)])++digW (ints ([dJ s.bits])))); let l:=(zZc (zQJ ([DV.str (⟨#[111,114,100,101,114]⟩:ByteArray)])++digW (ints (is s.ord)))); let B:=(zZU ((sE s):Scr)); let C:=[dJ s.bits,dJ s.c.a,dJ s.c.b,dJ s.c.c,dJ s.c.d,dJ s.tw,dJ s.th,dS s.ord.length (is s.ord),dS s.ims.length (ims s.ims),dS s.ops.length (ops s.ops)]; let w3:=[RV.d (DV.str (⟨#[]⟩:ByteArray)),rJ 19]; let D:=[RV.d (DV.str (toS (fmtR s).1)),rJ (fmtR s).2]; let w4:=fun (k:Nat)=>(k≤s.ops.length∧(s.ops.take k).all prtO=true); let m:=(dS s.ops.length (ops s.ops)=dS s.ops.length (ops s.ops)); let n:=(dJ a=dJ a); let b:=(C=C); let w5:=(b∧True); let w6:=(dS s.ims.length (ims s.ims)=dS s.ims.length (ims s.ims)); let w7:=(dJ d=dJ d); let w8:=fun (j:Nat)=>[bC [Cl.ptr 0 0,Cl.ref 1 (fmtC s j).length],Bx.row 5 1 (zQg (toS (fmtC s j)))]; let w9:=fun (j:Nat)=>(DV.str (strD (zQg (toS (fmtC s j))))); tU4 ((Ans prog 24 [RV.agg C] (RV.d (dQ B)))∧True∧(((!B)=true→tU2 (RV.tup w3=RV.tup D))∧((!B)=false→tU4 ((∃ k:Nat,(w4 k)∧(((0=0)∧m∧n∧(dJ 0=dJ (k:Int))∧True)∧w5))∧∀ k:Nat,let E:=(nAt (ops s.ops) ((k:Int).toNat*12)); let F:=(nAt (ops s.ops) ((k:Int).toNat*12+1)); let G:=(nAt (ops s.ops) ((k:Int).toNat*12+1+1)); let H:=(nAt (ops s.ops) ((k:Int).toNat*12+1+1+1+1+1+1+1+1+1)); let I:=(nAt (ops s.ops) ((k:Int).toNat*12+1+1+1+1+1+1+1+1)); let J:=(nAt (ops s.ops) ((k:Int).toNat*12+1+1+1+1+1+1+1)); let K:=(nAt (ops s.ops) ((k:Int).toNat*12+1+1+1+1+1+1)); let L:=(nAt (ops s.ops) ((k:Int).toNat*12+1+1+1+1+1)); let M:=(nAt (ops s.ops) ((k:Int).toNat*12+1+1+1+1)); let N:=(nAt (ops s.ops) ((k:Int).toNat*12+1+1+1)); let O:=(bAt (ops s.ops) ((k:Int).toNat*12+1+1+1+1+1+1+1+1+1+1+1)); let P:=(bAt (ops s.ops) ((k:Int).toNat*12+1+1+1+1+1+1+1+1+1+1)); let Q:=(prtO (⟨E,F,G,N,M,L,K,J,I,H,P,O⟩:Oq)); (w4 k)→True∧(((decide ((k:Int) < a))=true→(0≤(k:Int)∧(k:Int) < a∧(k:Int).toNat*12 < (ops s.ops).length)∧(((ops s.ops)[(k:Int).toNat*12]?=some (dJ E))∧((ops s.ops)[(k:Int).toNat*12+1]?=some (dJ F))∧((ops s.ops)[(k:Int).toNat*12+1+1]?=some (dJ G))∧((ops s.ops)[(k:Int).toNat*12+1+1+1]?=some (dJ N))∧((ops s.ops)[(k:Int).toNat*12+1+1+1+1]?=some (dJ M))∧((ops s.ops)[(k:Int).toNat*12+1+1+1+1+1]?=some (dJ L))∧((ops s.ops)[(k:Int).toNat*12+1+1+1+1+1+1]?=some (dJ K))∧((ops s.ops)[(k:Int).toNat*12+1+1+1+1+1+1+1]?=some (dK J))∧((ops s.ops)[(k:Int).toNat*12+1+1+1+1+1+1+1+1]?=some (dJ I))∧((ops s.ops)[(k:Int).toNat*12+1+1+1+1+1+1+1+1+1]?=some (dJ H))∧((ops s.ops)[(k:Int).toNat*12+1+1+1+1+1+1+1+1+1+1]?=some (dQ P))∧((ops s.ops)[(k:Int).toNat*12+1+1+1+1+1+1+1+1+1+1+1]?=some (dQ O))∧True)∧tU3 ((Ans prog 25 [RV.agg [dJ E,dJ F,dJ G,dJ N,dJ M,dJ L,dJ K,dK J,dJ I,dJ H,dQ P,dQ O]] (RV.d (dQ Q)))∧True∧(((!Q)=true→tU2 (RV.tup w3=RV.tup D))∧((!Q)=false→tU2 (∃ k':Nat,(k'≤s.ops.length∧(s.ops.take k').all prtO=true)∧(s.ops.length - k' < s.ops.length - k)∧(((0=0)∧m∧n∧(dJ (wK ((k:Int)+1))=dJ (k':Int))∧True)∧w5))))))∧((decide ((k:Int) < a))=false→tU3 ((tU5 ((AnsG prog 26 1 [aPz,AV.one e,AV.one (Cl.d (dS 1 ([dJ s.bits])))] [bC [Cl.lit (Value.pointer none),Cl.nil],Bx.row 9 1 ([DV.str (⟨#[98,105,116,115]⟩:ByteArray)])] ⟨AV.tup [],[bC [Cl.ptr 0 0,Cl.ref 1 (0+h.length)],Bx.row 5 1 ([]++zQg (toS h))],false⟩)∧∃ z1:Nat,(z1=0)∧(c∧(b∧((0=0)∧(0+h.length=(hd1 s).length)∧True)∧([]++zQg (toS h)=zQg (toS (hd1 s)))∧True))))∧∀ z1:Nat,(z1=0)→(tU7 (tU8 ((AnsG prog 26 1 [aPz,AV.one e,AV.one (Cl.d (dS 4 w2))] [bC [Cl.ptr 0 0,Cl.ref 2 (hd1 s).length],Bx.row 9 1 ([DV.str (⟨#[99,97,110,118,97,115]⟩:ByteArray)]),Bx.row 5 1 y] ⟨AV.tup [],[bC [Cl.ptr 0 0,Cl.ref 1 ((hd1 s).length+f.length)],Bx.row 5 1 (y++zQg (toS f))],false⟩)∧∃ z2:Nat,(z2=0)∧(c∧(b∧((0=0)∧((hd1 s).length+f.length=(hd2 s).length)∧True)∧(y++zQg (toS f)=zQg (toS (hd2 s)))∧True)))))∧∀ z2:Nat,(z2=0)→(tU7 ((AnsG prog 26 1 [aPz,AV.one e,AV.one (Cl.d (dS 2 ([dJ s.tw,dJ s.th])))] [bC [Cl.ptr 0 0,Cl.ref 2 (hd2 s).length],Bx.row 9 1 ([DV.str (⟨#[116,105,108,101,115]⟩:ByteArray)]),Bx.row 5 1 x] ⟨AV.tup [],[bC [Cl.ptr 0 0,Cl.ref 1 ((hd2 s).length+g.length)],Bx.row 5 1 (x++zQg (toS g))],false⟩)∧∃ z3:Nat,(z3=0)∧(c∧(b∧((0=0)∧((hd2 s).length+g.length=(hdTx s).length)∧True)∧(x++zQg (toS g)=zQg z)∧True))))∧∀ z3:Nat,(z3=0)→(tU4 ((w1=true→tU4 ((AnsG prog 26 1 [aPz,AV.one e,AV.one (Cl.d (dS s.ord.length (is s.ord)))] [bC [Cl.ptr 0 0,Cl.ref 2 (hdTx s).length],Bx.row 9 1 ([DV.str (⟨#[111,114,100,101,114]⟩:ByteArray)]),Bx.row 5 1 A] ⟨AV.tup [],[bC [Cl.ptr 0 0,Cl.ref 1 ((hdTx s).length+l.length)],Bx.row 5 1 (A++zQg (toS l))],false⟩)∧∃ z4:Nat,(z4=0)∧(c∧(b∧((0=0)∧((hdTx s).length+l.length=(fmtA s 0).length)∧True)∧(A++zQg (toS l)=zQg w)∧True))))∧(w1=false→∃ z4:Nat,(z4=0)∧(c∧(b∧((0=0)∧((hdTx s).length=(fmtA s 0).length)∧True)∧(zQg z=zQg w)∧True)))))∧∀ z4:Nat,(z4=0)→tU4 ((∃ i:Nat,(i≤s.ims.length)∧(((0=0)∧(0=0)∧w6∧w7∧(dJ 0=dJ (i:Int))∧True)∧(b∧((0=0)∧((fmtA s 0).length=(fmtA s i).length)∧True)∧(zQg w=zQg (toS (fmtA s i)))∧True)))∧∀ i:Nat,let R:=(zQg (toS (fmtA s i))); let S:=(nAt (ims s.ims) ((i:Int).toNat*28)); let T:=(nAt (ims s.ims) ((i:Int).toNat*28+1)); let U:=(bAt (ims s.ims) ((i:Int).toNat*28+1+1)); let V:=(nAt (ims s.ims) ((i:Int).toNat*28+1+1+1+1+1+1+1+1+1)); let W:=(nAt (ims s.ims) ((i:Int).toNat*28+1+1+1+1+1+1+1+1)); let X:=(nAt (ims s.ims) ((i:Int).toNat*28+1+1+1+1+1+1+1)); let Y:=(nAt (ims s.ims) ((i:Int).toNat*28+1+1+1+1+1+1)); let Z:=(nAt (ims s.ims) ((i:Int).toNat*28+1+1+1+1+1)); let z0:=(nAt (ims s.ims) ((i:Int).toNat*28+1+1+1+1)); let z5:=(nAt (ims s.ims) ((i:Int).toNat*28+1+1+1)); let o:=((i:Int).toNat*28+1+1+1+1+1+1+1+1+1+1+1+1+1+1+1+1+1+1+1+1+1+1+1+1+1+1+1); let v0:=(dS (lAt (ims s.ims) o) (cAt (ims s.ims) o)); let p:=((i:Int).toNat*28+1+1+1+1+1+1+1+1+1+1+1+1+1+1+1+1+1+1+1+1+1+1+1); let v1:=(dS (lAt (ims s.ims) p) (cAt (ims s.ims) p)); let q:=((i:Int).toNat*28+1+1+1+1+1+1+1+1+1+1+1+1+1+1+1+1+1+1+1); let v2:=(dS (lAt (ims s.ims) q) (cAt (ims s.ims) q)); let r:=((i:Int).toNat*28+1+1+1+1+1+1+1+1+1+1+1+1+1+1+1); let v3:=(dS (lAt (ims s.ims) r) (cAt (ims s.ims) r)); let t:=((i:Int).toNat*28+1+1+1+1+1+1+1+1+1+1+1); let v4:=(dS (lAt (ims s.ims) t) (cAt (ims s.ims) t)); let z6:=(nAt (ims s.ims) ((i:Int).toNat*28+1+1+1+1+1+1+1+1+1+1+1+1+1+1+1+1+1+1+1+1+1+1+1+1+1+1)); let z7:=(nAt (ims s.ims) ((i:Int).toNat*28+1+1+1+1+1+1+1+1+1+1+1+1+1+1+1+1+1+1+1+1+1+1+1+1+1)); let z8:=(nAt (ims s.ims) ((i:Int).toNat*28+1+1+1+1+1+1+1+1+1+1+1+1+1+1+1+1+1+1+1+1+1+1+1+1)); let z9:=(nAt (ims s.ims) ((i:Int).toNat*28+1+1+1+1+1+1+1+1+1+1+1+1+1+1+1+1+1+1+1+1+1+1)); let y0:=(nAt (ims s.ims) ((i:Int).toNat*28+1+1+1+1+1+1+1+1+1+1+1+1+1+1+1+1+1+1+1+1+1)); let y1:=(nAt (ims s.ims) ((i:Int).toNat*28+1+1+1+1+1+1+1+1+1+1+1+1+1+1+1+1+1+1+1+1)); let y2:=(nAt (ims s.ims) ((i:Int).toNat*28+1+1+1+1+1+1+1+1+1+1+1+1+1+1+1+1+1+1)); let y3:=(nAt (ims s.ims) ((i:Int).toNat*28+1+1+1+1+1+1+1+1+1+1+1+1+1+1+1+1+1)); let y4:=(nAt (ims s.ims) ((i:Int).toNat*28+1+1+1+1+1+1+1+1+1+1+1+1+1+1+1+1)); let y5:=(nAt (ims s.ims) ((i:Int).toNat*28+1+1+1+1+1+1+1+1+1+1+1+1+1+1)); let y6:=(nAt (ims s.ims) ((i:Int).toNat*28+1+1+1+1+1+1+1+1+1+1+1+1+1)); let y7:=(nAt (ims s.ims) ((i:Int).toNat*28+1+1+1+1+1+1+1+1+1+1+1+1)); let y8:=(nAt (ims s.ims) ((i:Int).toNat*28+1+1+1+1+1+1+1+1+1+1)); let u:=(imTx ⟨S,T,U,⟨z5,z0,Z,Y,X⟩,⟨W,V,y8,(lAt (ims s.ims) t),(cAt (ims s.ims) t)⟩,⟨y7,y6,y5,(lAt (ims s.ims) r),(cAt (ims s.ims) r)⟩,⟨y4,y3,y2,(lAt (ims s.ims) q),(cAt (ims s.ims) q)⟩,⟨y1,y0,z9,(lAt (ims s.ims) p),(cAt (ims s.ims) p)⟩,⟨z8,z7,z6,(lAt (ims s.ims) o),(cAt (ims s.ims) o)⟩⟩); (i≤s.ims.length)→True∧(((decide ((i:Int) < d))=true→(0≤(i:Int)∧(i:Int) < d∧(i:Int).toNat*28 < (ims s.ims).length)∧(((ims s.ims)[(i:Int).toNat*28]?=some (dJ S))∧((ims s.ims)[(i:Int).toNat*28+1]?=some (dJ T))∧((ims s.ims)[(i:Int).toNat*28+1+1]?=some (dQ U))∧((ims s.ims)[(i:Int).toNat*28+1+1+1]?=some (dK z5))∧((ims s.ims)[(i:Int).toNat*28+1+1+1+1]?=some (dK z0))∧((ims s.ims)[(i:Int).toNat*28+1+1+1+1+1]?=some (dK Z))∧((ims s.ims)[(i:Int).toNat*28+1+1+1+1+1+1]?=some (dK Y))∧((ims s.ims)[(i:Int).toNat*28+1+1+1+1+1+1+1]?=some (dK X))∧((ims s.ims)[(i:Int).toNat*28+1+1+1+1+1+1+1+1]?=some (dJ W))∧((ims s.ims)[(i:Int).toNat*28+1+1+1+1+1+1+1+1+1]?=some (dJ V))∧((ims s.ims)[(i:Int).toNat*28+1+1+1+1+1+1+1+1+1+1]?=some (dJ y8))∧((ims s.ims)[(i:Int).toNat*28+1+1+1+1+1+1+1+1+1+1+1]?=some v4)∧((ims s.ims)[(i:Int).toNat*28+1+1+1+1+1+1+1+1+1+1+1+1]?=some (dJ y7))∧((ims s.ims)[(i:Int).toNat*28+1+1+1+1+1+1+1+1+1+1+1+1+1]?=some (dJ y6))∧((ims s.ims)[(i:Int).toNat*28+1+1+1+1+1+1+1+1+1+1+1+1+1+1]?=some (dJ y5))∧((ims s.ims)[(i:Int).toNat*28+1+1+1+1+1+1+1+1+1+1+1+1+1+1+1]?=some v3)∧((ims s.ims)[(i:Int).toNat*28+1+1+1+1+1+1+1+1+1+1+1+1+1+1+1+1]?=some (dJ y4))∧((ims s.ims)[(i:Int).toNat*28+1+1+1+1+1+1+1+1+1+1+1+1+1+1+1+1+1]?=some (dJ y3))∧((ims s.ims)[(i:Int).toNat*28+1+1+1+1+1+1+1+1+1+1+1+1+1+1+1+1+1+1]?=some (dJ y2))∧((ims s.ims)[(i:Int).toNat*28+1+1+1+1+1+1+1+1+1+1+1+1+1+1+1+1+1+1+1]?=some v2)∧((ims s.ims)[(i:Int).toNat*28+1+1+1+1+1+1+1+1+1+1+1+1+1+1+1+1+1+1+1+1]?=some (dJ y1))∧((ims s.ims)[(i:Int).toNat*28+1+1+1+1+1+1+1+1+1+1+1+1+1+1+1+1+1+1+1+1+1]?=some (dJ y0))∧((ims s.ims)[(i:Int).toNat*28+1+1+1+1+1+1+1+1+1+1+1+1+1+1+1+1+1+1+1+1+1+1]?=some (dJ z9))∧((ims s.ims)[(i:Int).toNat*28+1+1+1+1+1+1+1+1+1+1+1+1+1+1+1+1+1+1+1+1+1+1+1]?=some v1)∧((ims s.ims)[(i:Int).toNat*28+1+1+1+1+1+1+1+1+1+1+1+1+1+1+1+1+1+1+1+1+1+1+1+1]?=some (dJ z8))∧((ims s.ims)[(i:Int).toNat*28+1+1+1+1+1+1+1+1+1+1+1+1+1+1+1+1+1+1+1+1+1+1+1+1+1]?=some (dJ z7))∧((ims s.ims)[(i:Int).toNat*28+1+1+1+1+1+1+1+1+1+1+1+1+1+1+1+1+1+1+1+1+1+1+1+1+1+1]?=some (dJ z6))∧((ims s.ims)[(i:Int).toNat*28+1+1+1+1+1+1+1+1+1+1+1+1+1+1+1+1+1+1+1+1+1+1+1+1+1+1+1]?=some v0)∧True)∧tU4 ((AnsG prog 27 1 [aPz,AV.agg [cJ S,cJ T,Cl.d (dQ U),cK z5,cK z0,cK Z,cK Y,cK X,cJ W,cJ V,cJ y8,Cl.d v4,cJ y7,cJ y6,cJ y5,Cl.d v3,cJ y4,cJ y3,cJ y2,Cl.d v2,cJ y1,cJ y0,cJ z9,Cl.d v1,cJ z8,cJ z7,cJ z6,Cl.d v0]] [bC [Cl.ptr 0 0,Cl.ref 1 (fmtA s i).length],Bx.row 5 1 R] ⟨AV.tup [],[bC [Cl.ptr 0 0,Cl.ref 1 ((fmtA s i).length+u.length)],Bx.row 5 1 (R++zQg (toS u))],false⟩)∧tU2 (∃ i':Nat,(i'≤s.ims.length)∧(s.ims.length - i' < s.ims.length - i)∧(((0=0)∧(0=0)∧w6∧w7∧(dJ (wK ((i:Int)+1))=dJ (i':Int))∧True)∧(b∧((0=0)∧((fmtA s i).length+u.length=(fmtA s i').length)∧True)∧(R++zQg (toS u)=zQg (toS (fmtA s i')))∧True)))))∧((decide ((i:Int) < d))=false→tU4 ((∃ j:Nat,(j≤s.ops.length)∧(((0=0)∧m∧n∧(dJ 0=dJ (j:Int))∧True)∧(((0=0)∧((fmtA s i).length=(fmtC s j).length)∧True)∧(zQg (toS (fmtA s i))=zQg (toS (fmtC s j)))∧True)))∧∀ j:Nat,let y9:=(nAt (ops s.ops) ((j:Int).toNat*12)); let x0:=(nAt (ops s.ops) ((j:Int).toNat*12+1)); let x1:=(nAt (ops s.ops) ((j:Int).toNat*12+1+1)); let x2:=(nAt (ops s.ops) ((j:Int).toNat*12+1+1+1+1+1+1+1+1+1)); let x3:=(nAt (ops s.ops) ((j:Int).toNat*12+1+1+1+1+1+1+1+1)); let x4:=(nAt (ops s.ops) ((j:Int).toNat*12+1+1+1+1+1+1+1)); let x5:=(nAt (ops s.ops) ((j:Int).toNat*12+1+1+1+1+1+1)); let x6:=(nAt (ops s.ops) ((j:Int).toNat*12+1+1+1+1+1)); let x7:=(nAt (ops s.ops) ((j:Int).toNat*12+1+1+1+1)); let x8:=(nAt (ops s.ops) ((j:Int).toNat*12+1+1+1)); let x9:=(bAt (ops s.ops) ((j:Int).toNat*12+1+1+1+1+1+1+1+1+1+1+1)); let w0:=(bAt (ops s.ops) ((j:Int).toNat*12+1+1+1+1+1+1+1+1+1+1)); let v:=(opLn ⟨y9,x0,x1,x8,x7,x6,x5,x4,x3,x2,w0,x9⟩); (j≤s.ops.length)→True∧(((decide ((j:Int) < a))=true→(0≤(j:Int)∧(j:Int) < a∧(j:Int).toNat*12 < (ops s.ops).length)∧(((ops s.ops)[(j:Int).toNat*12]?=some (dJ y9))∧((ops s.ops)[(j:Int).toNat*12+1]?=some (dJ x0))∧((ops s.ops)[(j:Int).toNat*12+1+1]?=some (dJ x1))∧((ops s.ops)[(j:Int).toNat*12+1+1+1]?=some (dJ x8))∧((ops s.ops)[(j:Int).toNat*12+1+1+1+1]?=some (dJ x7))∧((ops s.ops)[(j:Int).toNat*12+1+1+1+1+1]?=some (dJ x6))∧((ops s.ops)[(j:Int).toNat*12+1+1+1+1+1+1]?=some (dJ x5))∧((ops s.ops)[(j:Int).toNat*12+1+1+1+1+1+1+1]?=some (dK x4))∧((ops s.ops)[(j:Int).toNat*12+1+1+1+1+1+1+1+1]?=some (dJ x3))∧((ops s.ops)[(j:Int).toNat*12+1+1+1+1+1+1+1+1+1]?=some (dJ x2))∧((ops s.ops)[(j:Int).toNat*12+1+1+1+1+1+1+1+1+1+1]?=some (dQ w0))∧((ops s.ops)[(j:Int).toNat*12+1+1+1+1+1+1+1+1+1+1+1]?=some (dQ x9))∧True)∧tU4 ((AnsG prog 28 1 [aPz,AV.agg [cJ y9,cJ x0,cJ x1,cJ x8,cJ x7,cJ x6,cJ x5,cK x4,cJ x3,cJ x2,Cl.d (dQ w0),Cl.d (dQ x9)]] (w8 j) ⟨AV.tup [],[bC [Cl.ptr 0 0,Cl.ref 1 ((fmtC s j).length+v.length)],Bx.row 5 1 ((zQg (toS (fmtC s j)))++zQg (toS v))],false⟩)∧tU2 (∃ j':Nat,(j'≤s.ops.length)∧(s.ops.length - j' < s.ops.length - j)∧(((0=0)∧m∧n∧(dJ (wK ((j:Int)+1))=dJ (j':Int))∧True)∧(((0=0)∧((fmtC s j).length+v.length=(fmtC s j').length)∧True)∧((zQg (toS (fmtC s j)))++zQg (toS v)=zQg (toS (fmtC s j')))∧True)))))∧((decide ((j:Int) < a))=false→tU3 ((AnsG prog 29 0 [aPz] (w8 j) ⟨AV.one (Cl.d (w9 j)),[],false⟩)∧tU2 (RV.tup [RV.d (w9 j),rJ 0]=RV.tup D))))))))))))))))) ?_
  delta sE tU2 tU3 tU4 tU5 tU7 tU8 dJ dK dQ cJ cK wK dS rJ aPz bC
  simp only [sS]
  simp only [zQM,zZx,zZe,zQE,Scr.eta_]
  have hmn:IntKind.min .i64 = -9223372036854775808:=by decide
  have hmx:IntKind.max .i64=9223372036854775807:=by decide
  simp only [RV.wfs,RV.wf,DV.wf,DV.wfs,maxLen,hmn,hmx] at hwf
  have hos:s.ops.length≤9223372036854775807:=by omega
  have hbits : -9223372036854775808≤s.bits∧s.bits≤9223372036854775807:=by omega
  clear hwf hmn hmx
  have hM9:∀ k:Nat,k≤1000000000000→k≤maxLen:=fun k h=>by unfold maxLen; omega
  have lb:(⟨#[98,105,116,115]⟩:ByteArray)=toS zX3:=rfl
  have lc:(⟨#[99,97,110,118,97,115]⟩:ByteArray)=toS zZw:=rfl
  have lt:(⟨#[116,105,108,101,115]⟩:ByteArray)=toS zZ3:=rfl
  have lor:(⟨#[111,114,100,101,114]⟩:ByteArray)=toS zZj:=rfl
  have e0:(⟨#[]⟩:ByteArray)=toS []:=rfl
  have r1:∀ w:Lb,[DV.str (toS w)]=strs [w]:=fun w=>rfl
  have j1:∀ a:Int,[DV.int .i64 a]=is [a]:=fun _=>rfl
  have j2:∀ a b:Int,[DV.int .i64 a,DV.int .i64 b]=is [a,b]:=fun _ _=>rfl
  have j4:∀ a b c d:Int,[DV.int .i64 a,DV.int .i64 b,DV.int .i64 c,DV.int .i64 d]=is [a,b,c,d]:=fun _ _ _ _=>rfl
  have b1:zZc ([zX3]++digW [s.bits])=hd1 s:=zZK _ _ (by decide)
  have b2:zZc ([zZw]++digW [s.c.a,s.c.b,s.c.c,s.c.d])=zQD zZw [s.c.a,s.c.b,s.c.c,s.c.d]++[10]:=zZK _ _ (by decide)
  have b3:zZc ([zZ3]++digW [s.tw,s.th])=zQD zZ3 [s.tw,s.th]++[10]:=zZK _ _ (by decide)
  have b4:zZc ([zZj]++digW s.ord)=zQD zZj s.ord++[10]:=zZK _ _ (by decide)
  simp only [e0,lb,lc,lt,lor,r1,↓j4,↓j2,↓j1,zQM,zQE,Scr.eta_,b1,b2,b3,b4,DV.str.injEq,List.nil_append,Nat.zero_add,zH7]
  have no:∀ h:zYl s=false,fmtR s=([],19):=fun h=>by unfold fmtR; rw [if_neg (by rw [h]; decide)]
  refine ⟨zXZ s hM hol,fun h=>?_,fun h=>⟨⟨0,⟨Nat.zero_le _,rfl⟩,rfl⟩,fun k hk=>⟨fun hlt=>?_,fun hge=>?_⟩⟩⟩
  ·rw [no (by unfold zYl; rw [h]; rfl)]; exact ⟨rfl,rfl⟩
  ·have hk':k < s.ops.length:=by omega
   obtain ⟨hk1,hk2⟩:=hk
   have q1:=zVx hk'
   have q2:=zVy hk'
   have hml:=zQ5 s.ops
   have aP:=zYn s.ops[k]
   have hm:s.ops[k]∈s.ops:=List.getElem_mem hk'
   have hts:s.ops.take (k+1)=s.ops.take k++[s.ops[k]]:=by rw [List.take_add_one,List.getElem?_eq_getElem hk']; rfl
   obtain ⟨o,ho⟩:∃ o,s.ops[k]=o:=⟨_,rfl⟩
   simp only [ho] at q1 q2 aP hm hts
   have wi:IntKind.wrap .i64 ((k:Int)+1)=((k+1:Nat):Int):=by rw [IntWalk.i64_in _ ⟨by omega,by omega⟩]; omega
   simp only [q2,wi,Oq.eta_]
   refine ⟨⟨by omega,by omega,by omega⟩,q1,aP,fun hp=>?_,fun hp=>⟨k+1,⟨by omega,?_⟩,by omega,rfl⟩⟩
   ·have:s.ops.all prtO=false:=List.all_eq_false.2 ⟨o,hm,by rw [hp]; decide⟩
    rw [no (by unfold zYl; rw [this,Bool.and_false])]; exact ⟨rfl,rfl⟩
   ·rw [hts,List.all_append,hk2]; simp [hp]
  ·have hkk:k=s.ops.length:=by omega
   subst hkk
   have hall:=hk.2
   rw [List.take_length] at hall
   have hok:zYl s=true:=by unfold zYl; rw [h,hall]; rfl
   have eR:fmtR s=(fmtT s,0):=by unfold fmtR; rw [if_pos hok]
   have PP_:=zUB hok
   have hI:∀ m∈s.ims,imIn m:=fun m hm=>hp m hm (PP_.fm m hm)
   obtain ⟨c1,c2,c3,c4⟩:=zV0 PP_
   have hAl:=zGD PP_ hI
   have hCl:=jZx PP_ hI hq
   have hol:=PP_.ol
   have hil:=PP_.il
   have hpl:=PP_.pl
   have L1:(hd1 s).length≤100:=by unfold hd1; simp; omega
   have L2:(hd2 s).length≤300:=by unfold hd2; simp; omega
   have L3:(hdTx s).length≤500:=by rw [hd3]; simp; omega
   refine ⟨?_,fun z1 _=>⟨?_,fun z2 _=>⟨?_,fun z3 _=>⟨⟨fun g=>?_,fun g=>?_⟩,fun z4 _=>⟨?_,fun i hi=>⟨fun hlt=>?_,fun hge=>?_⟩⟩⟩⟩⟩⟩
   ·refine ⟨?_,0,rfl,trivial,trivial⟩
    have:=zJf (toS zX3) s.bits (by decide) hbits
    have e:hd1 s=zX3++(32::itoa s.bits++[10]):=by unfold hd1; rw [zYq _ _ (by decide)]; simp [jt,digW]
    rw [zZo,← e,zQF,← List.length_append,← e] at this
    exact this
   ·exact ⟨zYb (hd1 s) zZw [s.c.a,s.c.b,s.c.c,s.c.d] _ b2 (by show (hd2 s).length≤_; omega) (by simp),0,rfl,(by show _=(hd1 s++_).length; exact List.length_append.symm),rowB rfl⟩
   ·exact ⟨zYb (hd2 s) zZ3 [s.tw,s.th] _ b3 (by rw [← hd3]; omega) (by simp),0,rfl,(by rw [hd3]; exact List.length_append.symm),rowB (hd3 s)⟩
   ·have e:fmtA s 0=hdTx s++(zQD zZj s.ord++[10]):=by unfold fmtA orTx; rw [if_pos (by omega)]; simp
    have hA0:=hAl 0
    exact ⟨zYb (hdTx s) zZj s.ord _ b4 (by rw [← e]; omega) (by omega),0,rfl,(by rw [e]; exact List.length_append.symm),rowB e⟩
   ·have e:fmtA s 0=hdTx s:=by unfold fmtA orTx; rw [if_neg (by omega)]; simp
    rw [e]; exact ⟨0,rfl,rfl,rfl⟩
   ·exact ⟨0,Nat.zero_le _,rfl,rfl,rfl⟩
   ·have hk:i < s.ims.length:=by omega
    obtain ⟨m,hmk⟩:∃ m,s.ims[i]=m:=⟨_,rfl⟩
    have q1:=zUO hk
    have q2:=zUP hk
    have eS:=zHL hk
    have hm:m∈s.ims:=hmk ▸ List.getElem_mem hk
    simp only [hmk] at q1 q2 eS
    clear hmk
    have w1:IntKind.wrap .i64 ((i:Int)+1)=((i+1:Nat):Int):=by rw [IntWalk.i64_in _ ⟨by omega,by omega⟩]; omega
    have hIk:=hI _ hm
    have hfm:=hIk.1
    have hpl:m.pixels.length≤16777216:=by have h1:=Im.pixels_len hfm; have:=(sizeIm_le' hfm); omega
    have hA1:=hAl (i+1)
    rw [eS,List.length_append] at hA1
    have aI:=zJh (fmtA s i).length (zQg (toS (fmtA s i))) m (lenB _) (by omega) (hM _ hm) (by omega)
    have iml:=zZ2 s.ims
    simp only [q2,w1]
    refine ⟨⟨by omega,by omega,by omega⟩,q1,aI,i+1,by omega,by omega,rfl,(by rw [eS]; exact List.length_append.symm),rowB eS⟩
   ·have:i=s.ims.length:=by omega
    subst this
    refine ⟨⟨0,Nat.zero_le _,rfl,by unfold fmtC; simp,by unfold fmtC; simp⟩,fun j hj=>⟨fun hlt=>?_,fun hge=>?_⟩⟩
    ·have hj:j < s.ops.length:=by omega
     obtain ⟨o,hoj⟩:∃ o,s.ops[j]=o:=⟨_,rfl⟩
     have q1:=zVx hj
     have q2:=zVy hj
     have eS:=zHK hj
     have hm:o∈s.ops:=hoj ▸ List.getElem_mem hj
     simp only [hoj] at q1 q2 eS
     clear hoj
     have w1:IntKind.wrap .i64 ((j:Int)+1)=((j+1:Nat):Int):=by rw [IntWalk.i64_in _ ⟨by omega,by omega⟩]; omega
     have hC1:=hCl (j+1)
     rw [eS,List.length_append] at hC1
     have aX:=zKA (fmtC s j).length (zQg (toS (fmtC s j))) o (lenB _) (by omega)
     simp only [Oq.eta_] at aX
     have hml:=zQ5 s.ops
     simp only [q2,w1,Oq.eta_]
     refine ⟨⟨by omega,by omega,by omega⟩,q1,aX,j+1,by omega,by omega,rfl,(by rw [eS]; exact List.length_append.symm),rowB eS⟩
    ·have:j=s.ops.length:=by omega
     subst this
     have hne:fmtC s s.ops.length≠[]:=by
      rw [zGC]; unfold fmtT hdTx
      rw [zYq _ _ (by decide)]; simp [zX3]
     have hCe:=hCl s.ops.length
     refine ⟨zW3 _ hne (by omega),?_⟩
     rw [eR,zGC]
     exact ⟨rfl,rfl⟩
end
section
open Go.Lib
def Step (s:LQ→LQ) (P:Lb→Bool):Prop:=(∀ w r b,s ⟨w::r,b⟩=⟨r,b || !P w⟩)∧∀ b,s ⟨[],b⟩=⟨[],true⟩
def allP:List (Lb→Bool)→List Lb→Bool
 | [],[]=>true
 | P::Ps,w::ws=>P w && allP Ps ws
 | _,_=>false
inductive jYL:List (LQ→LQ)→List (Lb→Bool)→Prop
 | nil:jYL [] []
 | cons {s:LQ→LQ} {P:Lb→Bool} {ss:List (LQ→LQ)} {Ps:List (Lb→Bool)}:Step s P→jYL ss Ps→jYL (s::ss) (P::Ps)
def jJx (ss:List (LQ→LQ)) (q:LQ):LQ:=ss.foldl (fun q s=>s q) q
theorem zY0 {ss:List (LQ→LQ)} {Ps:List (Lb→Bool)} (h:jYL ss Ps):∀ (ws:List Lb) (b:Bool),cmpQ (jJx ss ⟨ws,b⟩)=(!b && allP Ps ws):=by
 induction h with
 | nil=>intro ws b; cases ws <;> simp [jJx,cmpQ,allP]
 | @cons s P ss Ps hs _ ih=>
  intro ws b
  have e:jJx (s::ss) ⟨ws,b⟩=jJx ss (s ⟨ws,b⟩):=rfl
  rw [e]
  cases ws with
  | nil=>rw [hs.2,ih]; simp [allP]
  | cons w r=>rw [hs.1,ih]; simp [allP]; cases b <;> cases P w <;> rfl
theorem zZz (lo hi:Int):Step (fun q=>(numQ q lo hi).2) (okN lo hi):=by
 refine ⟨fun w r b=>?_,fun b=>?_⟩
 ·show (numQ ⟨w::r,b⟩ lo hi).2=_
  unfold numQ
  cases h:okN lo hi w with
  | true=>rw [if_pos (show okN lo hi (zZi (w::r))=true from h)]; simp [zZF]
  | false=>rw [if_neg (by show ¬okN lo hi w=true; rw [h]; decide)]; simp
 ·show (numQ ⟨[],b⟩ lo hi).2=_
  unfold numQ
  rw [if_neg (by show ¬okN lo hi []=true; simp [okN,zYy,unsg])]
  rfl
theorem jZh (g:Int→ByteArray):Step (fun q=>(namQ g q).2) (fun w=>(nmR g w).2):=by
 refine ⟨fun w r b=>?_,fun b=>?_⟩
 ·show (namQ g ⟨w::r,b⟩).2=_
  simp [namQ,zZF,zZi]
 ·show (namQ g ⟨[],b⟩).2=_
  simp [namQ,zZF]
theorem zQ8 {lo hi:Int} {w:Lb} (h:okN lo hi w=true) (r:List Lb) (b:Bool):numQ ⟨w::r,b⟩ lo hi=(numV w,⟨r,b⟩):=by
 unfold numQ
 rw [if_pos (show okN lo hi (zZi (w::r))=true from h)]
 simp [zZF,zZi]
theorem zGw {g:Int→ByteArray} {w:Lb} (h:(nmR g w).2=true) (r:List Lb) (b:Bool):namQ g ⟨w::r,b⟩=((nmR g w).1,⟨r,b⟩):=by
 simp [namQ,zZF,zZi,h]
def p5:List (Lb→Bool):=[okN 0 65535,okN 0 65535,okN 0 65535,okN 0 65535,okN 0 65535]
theorem zHn:jYL [fun q=>(numQ q 0 65535).2,fun q=>(numQ q 0 65535).2,fun q=>(numQ q 0 65535).2,fun q=>(numQ q 0 65535).2,fun q=>(numQ q 0 65535).2] p5:=
 .cons (zZz _ _) (.cons (zZz _ _) (.cons (zZz _ _) (.cons (zZz _ _) (.cons (zZz _ _) .nil))))
theorem jXU (ws:List Lb):allP p5 ws=(pixW ws).2:=by
 rcases ws with _ | ⟨a,_ | ⟨b,_ | ⟨c,_ | ⟨d,_ | ⟨e,_ | ⟨f,r⟩⟩⟩⟩⟩⟩
 case cons.cons.cons.cons.cons.nil=>
  by_cases h:[a,b,c,d,e].all (okN 0 65535)=true
  ·rw [zHo h]
   simpa [allP,p5] using h
  ·rw [jQ3 (fun g=>h g.1)]
   cases hh:allP p5 [a,b,c,d,e] with
   | false=>rfl
   | true=>exact absurd (by simpa [allP,p5] using hh) h
 all_goals
  rw [jQ3 (fun g=>by simp at g)]
  simp [allP,p5]
theorem jQ2 (ws:List Lb):cmpQ (pixQ ⟨ws,false⟩).2=(pixW ws).2∧((pixW ws).2=true→(pixQ ⟨ws,false⟩).1=(pixW ws).1):=by
 refine ⟨?_,fun h=>?_⟩
 ·rw [← jXU]
  have:=zY0 zHn ws false
  rw [Bool.not_false,Bool.true_and] at this
  exact this
 ·have h0:=h
  rw [← jXU] at h0
  rcases ws with _ | ⟨a,_ | ⟨b,_ | ⟨c,_ | ⟨d,_ | ⟨e,_ | ⟨f,r⟩⟩⟩⟩⟩⟩
  case cons.cons.cons.cons.cons.nil=>
   have hA:[a,b,c,d,e].all (okN 0 65535)=true:=by simpa [allP,p5] using h0
   rw [zHo hA]
   simp only [allP,p5,Bool.and_eq_true] at h0
   obtain ⟨h1,h2,h3,h4,h5,_⟩:=h0
   unfold pixQ
   rw [zQ8 h1]; simp only
   rw [zQ8 h2]; simp only
   rw [zQ8 h3]; simp only
   rw [zQ8 h4]; simp only
   rw [zQ8 h5]
  all_goals simp [allP,p5] at h0
structure Sim (p:PP) (r:RP):Prop where
  s:p.s=r.s
  d0:0≤p.part
  d5:p.part≤5
  hd:r.hd=if p.part≤3 then p.part else 3
  rp:r.part=if p.part≤3 then 0 else p.part - 3
  od:p.part≤3→p.s.ord=[]
  pt:∀ o∈p.s.ops,prtO o=true
  inn:(p.h=0∧r.left=0∧p.px=[]∧r.px=[])∨(1≤p.w∧1≤p.h∧p.w=r.w∧p.h=r.h∧p.px=r.px∧p.part=4∧r.left=p.w*p.h - (p.px.length:Int)∧0 < r.left)
theorem jXA:Sim zPP zRP:=⟨rfl,by decide,by decide,by decide,by decide,fun _=>rfl,fun o h=>(by cases h),.inl ⟨rfl,rfl,rfl,rfl⟩⟩
theorem jXB {p:PP} {r:RP} (h:Sim p r) (ws:List Lb) (hin:0 < p.h) :
  let R:RP × Bool:=if r.left=1 then ({ r with left:=0,s:={ r.s with ims:=r.s.ims++[imOf r.w r.h (r.px++[(pixW ws).1])] },px:=[] },(pixW ws).2)
   else ({ r with left:=r.left - 1,px:=r.px++[(pixW ws).1] },(pixW ws).2)
  (zZu p ⟨ws,false⟩).2=R.2∧((zZu p ⟨ws,false⟩).2=true→Sim (zZu p ⟨ws,false⟩).1 R.1):=by
 obtain ⟨e1,e2⟩:=jQ2 ws
 rcases h.inn with h0 | ⟨i1,i2,i3,i4,i5,i6,i7,i8⟩
 ·omega
 have R2:(if r.left=1 then ({ r with left:=0,s:={ r.s with ims:=r.s.ims++[imOf r.w r.h (r.px++[(pixW ws).1])] },px:=[] },(pixW ws).2)
   else (({ r with left:=r.left - 1,px:=r.px++[(pixW ws).1] },(pixW ws).2):RP × Bool)).2=(pixW ws).2:=by split <;> rfl
 cases hc:(pixW ws).2 with
 | false=>
  have:zZu p ⟨ws,false⟩=({ p with px:=p.px++[(pixQ ⟨ws,false⟩).1] },false):=by unfold zZu; rw [if_neg (by rw [e1,hc]; decide)]
  rw [this]
  refine ⟨?_,fun h=>by cases h⟩
  rw [hc] at R2
  exact R2.symm
 | true=>
  have e2:=e2 hc
  by_cases hl:r.left=1
  ·have:zZu p ⟨ws,false⟩=(⟨{ p.s with ims:=p.s.ims++[imOf p.w p.h (p.px++[(pixW ws).1])] },p.part,0,0,[]⟩,true):=by
    unfold zZu; rw [if_pos (by rw [e1,hc]),if_pos (by omega),e2]
   rw [this]
   simp only [if_pos hl]
   refine ⟨trivial,fun _=>⟨?_,h.d0,h.d5,h.hd,h.rp,h.od,h.pt,.inl ⟨rfl,rfl,rfl,rfl⟩⟩⟩
   rw [h.s,i3,i4,i5]
  ·have:zZu p ⟨ws,false⟩=({ p with px:=p.px++[(pixW ws).1] },true):=by
    unfold zZu; rw [if_pos (by rw [e1,hc]),if_neg (by omega),e2]
   rw [this]
   simp only [if_neg hl]
   refine ⟨trivial,fun _=>⟨h.s,h.d0,h.d5,h.hd,h.rp,h.od,h.pt,.inr ⟨i1,i2,i3,i4,by rw [i5],i6,?_,by show 0 < r.left - 1; omega⟩⟩⟩
   show r.left - 1=p.w*p.h - (((p.px++[(pixW ws).1]).length:Nat):Int)
   simp
   omega
theorem jJo (r:List Lb):cmpQ (byQ ⟨r,false⟩).2=allP [okN 0 255] r:=by
 have:=zY0 (.cons (zZz 0 255) .nil) r false
 rw [Bool.not_false,Bool.true_and] at this
 exact this
theorem jYh (r:List Lb):cmpQ (plQ (plQ (plQ (plQ ⟨r,false⟩).2).2).2).2=allP [okN (-2147483648) 2147483647,okN (-2147483648) 2147483647,okN (-2147483648) 2147483647,okN (-2147483648) 2147483647] r:=by
 have:=zY0 (.cons (zZz (-2147483648) 2147483647) (.cons (zZz (-2147483648) 2147483647) (.cons (zZz (-2147483648) 2147483647) (.cons (zZz (-2147483648) 2147483647) .nil)))) r false
 rw [Bool.not_false,Bool.true_and] at this
 exact this
theorem jJn (r:List Lb):cmpQ (numQ (numQ ⟨r,false⟩ 0 4294967295).2 0 4294967295).2=allP [okN 0 4294967295,okN 0 4294967295] r:=by
 have:=zY0 (.cons (zZz 0 4294967295) (.cons (zZz 0 4294967295) .nil)) r false
 rw [Bool.not_false,Bool.true_and] at this
 exact this
theorem jZd {w:Lb} {lo hi:Int} (h:okN lo hi w=true):(numR w lo hi).1=numV w:=by
 have:zYy w=true:=by unfold okN at h; simp only [Bool.and_eq_true] at h; exact h.1.1
 unfold numR; rw [this]; rfl
theorem jYQ {p:PP} {r:RP} (h:Sim p r) (k:Lb) (ws:List Lb) (hp:p.part≤2) :
  (zXb p ⟨ws,false⟩ k).2=(zYT { r with hd:=r.hd+1 } (k::ws)).2∧((zXb p ⟨ws,false⟩ k).2=true→Sim (zXb p ⟨ws,false⟩ k).1 (zYT { r with hd:=r.hd+1 } (k::ws)).1):=by
 have hd:r.hd=p.part:=by rw [h.hd,if_pos (by omega)]
 have hod:=h.od (by omega)
 have d0:=h.d0
 have hrp:=h.rp
 rw [if_pos (by omega)] at hrp
 have hin:p.h=0∧r.left=0∧p.px=[]∧r.px=[]:=by
  rcases h.inn with h0 | ⟨_,_,_,_,_,i6,_,_⟩
  ·exact h0
  ·omega
 have hs:=h.s
 unfold zXb
 by_cases h0:p.part=0
 ·rw [if_pos h0,jJo]
  have hr1:({ r with hd:=r.hd+1 }:RP).hd=1:=by show r.hd+1=1; omega
  rcases ws with _ | ⟨a,_ | ⟨b,ws⟩⟩
  ·have e:zYT { r with hd:=r.hd+1 } [k]=({ r with hd:=r.hd+1 },false):=by unfold zYT; rw [if_pos hr1,if_neg (by simp)]
   rw [e]; simp [allP]
  ·by_cases hk:k=zX3
   ·subst hk
    have e:zYT { r with hd:=r.hd+1 } [zX3,a]=({ r with hd:=r.hd+1,s:={ r.s with bits:=(numR a 0 255).1 } },(numR a 0 255).2):=by unfold zYT; rw [if_pos hr1,if_pos ⟨rfl,rfl⟩]; rfl
    rw [e]
    have e2:(numR a 0 255).2=okN 0 255 a:=rfl
    rw [e2]
    refine ⟨by simp [allP],fun hh=>?_⟩
    have ha:okN 0 255 a=true:=by simpa [allP] using hh
    have ev:(byQ ⟨[a],false⟩).1=numV a:=by unfold byQ; rw [zQ8 ha]
    refine ⟨?_,by show 0≤p.part+1; omega,by show p.part+1≤5; omega,?_,?_,fun _=>hod,h.pt,.inl hin⟩
    ·show ({ p.s with bits:=(byQ ⟨[a],false⟩).1 }:Scr)={ r.s with bits:=(numR a 0 255).1 }
     rw [ev,jZd ha,hs]
    ·show r.hd+1=if p.part+1≤3 then p.part+1 else 3
     rw [if_pos (by omega)]; omega
    ·show r.part=if p.part+1≤3 then 0 else p.part+1 - 3
     rw [if_pos (by omega)]; exact hrp
   ·have e:zYT { r with hd:=r.hd+1 } [k,a]=({ r with hd:=r.hd+1 },false):=by unfold zYT; rw [if_pos hr1,if_neg (fun g=>hk g.2)]
    rw [e]; simp [hk]
  ·have e:zYT { r with hd:=r.hd+1 } (k::a::b::ws)=({ r with hd:=r.hd+1 },false):=by unfold zYT; rw [if_pos hr1,if_neg (by simp)]
   rw [e]; simp [allP]
 ·have hr1:¬({ r with hd:=r.hd+1 }:RP).hd=1:=by show ¬r.hd+1=1; omega
  rw [if_neg h0]
  by_cases h1:p.part=1
  ·rw [if_pos h1]
   have hr2:({ r with hd:=r.hd+1 }:RP).hd=2:=by show r.hd+1=2; omega
   simp only [jYh]
   have e:zYT { r with hd:=r.hd+1 } (k::ws)=(if (s32 ws).2=true∧(s32 ws).1.length=4∧k=zZw then ({ r with hd:=r.hd+1,s:={ r.s with c:=⟨iAt (s32 ws).1 0,iAt (s32 ws).1 1,iAt (s32 ws).1 2,iAt (s32 ws).1 3⟩ } },true) else ({ r with hd:=r.hd+1 },false)):=by unfold zYT; rw [if_neg hr1,if_pos hr2]; rfl
   rw [e]
   by_cases hA:allP [okN (-2147483648) 2147483647,okN (-2147483648) 2147483647,okN (-2147483648) 2147483647,okN (-2147483648) 2147483647] ws=true
   ·rcases ws with _ | ⟨a,_ | ⟨b,_ | ⟨c,_ | ⟨d,_ | ⟨f,ws⟩⟩⟩⟩⟩
    case cons.cons.cons.cons.nil=>
     simp only [allP,Bool.and_eq_true,and_true] at hA
     obtain ⟨a1,a2,a3,a4⟩:=hA
     have hall:[a,b,c,d].all (okN (-2147483648) 2147483647)=true:=by simp [a1,a2,a3,a4]
     have e3:s32 [a,b,c,d]=([numV a,numV b,numV c,numV d],true):=zYp hall
     rw [e3]
     by_cases hk:k=zZw
     ·rw [if_pos ⟨rfl,rfl,hk⟩]
      refine ⟨by simp [hk,allP,a1,a2,a3,a4],fun _=>⟨?_,by show 0≤p.part+1; omega,by show p.part+1≤5; omega,?_,?_,fun _=>hod,h.pt,.inl hin⟩⟩
      ·unfold plQ
       simp only [zQ8 a1,zQ8 a2,zQ8 a3,zQ8 a4,hs]; rfl
      ·show r.hd+1=if p.part+1≤3 then p.part+1 else 3
       rw [if_pos (by omega)]; omega
      ·show r.part=if p.part+1≤3 then 0 else p.part+1 - 3
       rw [if_pos (by omega)]; exact hrp
     ·rw [if_neg (fun g=>hk g.2.2)]; simp [hk]
    all_goals simp [allP] at hA
   ·have hA':allP [okN (-2147483648) 2147483647,okN (-2147483648) 2147483647,okN (-2147483648) 2147483647,okN (-2147483648) 2147483647] ws=false:=by simpa using hA
    have hno:¬((s32 ws).2=true∧(s32 ws).1.length=4∧k=zZw):=fun g=>by
     obtain ⟨g1,g2,_⟩:=g
     by_cases hall:ws.all (okN (-2147483648) 2147483647)=true
     ·have e3:s32 ws=(ws.map numV,true):=zYp hall
      rw [e3] at g2
      have g2:ws.length=4:=by simpa using g2
      match ws,g2 with
      | [a,b,c,d],_=>exact hA (by simpa [allP] using hall)
     ·have e3:s32 ws=([],false):=zJt (by simpa using hall)
      rw [e3] at g1; cases g1
    rw [if_neg hno,hA']
    simp
  ·rw [if_neg h1]
   have hr2:¬({ r with hd:=r.hd+1 }:RP).hd=2:=by show ¬r.hd+1=2; omega
   simp only [jJn]
   have e:zYT { r with hd:=r.hd+1 } (k::ws)=(if (u32 ws).2=true∧(u32 ws).1.length=2∧k=zZ3 then ({ r with hd:=r.hd+1,s:={ r.s with tw:=iAt (u32 ws).1 0,th:=iAt (u32 ws).1 1 } },true) else ({ r with hd:=r.hd+1 },false)):=by unfold zYT; rw [if_neg hr1,if_neg hr2]; rfl
   rw [e]
   by_cases hA:allP [okN 0 4294967295,okN 0 4294967295] ws=true
   ·rcases ws with _ | ⟨a,_ | ⟨b,_ | ⟨c,ws⟩⟩⟩
    case cons.cons.nil=>
     simp only [allP,Bool.and_eq_true,and_true] at hA
     obtain ⟨a1,a2⟩:=hA
     have hall:[a,b].all (okN 0 4294967295)=true:=by simp [a1,a2]
     have e3:u32 [a,b]=([numV a,numV b],true):=zYp hall
     rw [e3]
     by_cases hk:k=zZ3
     ·rw [if_pos ⟨rfl,rfl,hk⟩]
      refine ⟨by simp [hk,allP,a1,a2],fun _=>⟨?_,by show 0≤p.part+1; omega,by show p.part+1≤5; omega,?_,?_,fun _=>hod,h.pt,.inl hin⟩⟩
      ·simp only [zQ8 a1,zQ8 a2,hs]; rfl
      ·show r.hd+1=if p.part+1≤3 then p.part+1 else 3
       rw [if_pos (by omega)]; omega
      ·show r.part=if p.part+1≤3 then 0 else p.part+1 - 3
       rw [if_pos (by omega)]; exact hrp
     ·rw [if_neg (fun g=>hk g.2.2)]; simp [hk]
    all_goals simp [allP] at hA
   ·have hA':allP [okN 0 4294967295,okN 0 4294967295] ws=false:=by simpa using hA
    have hno:¬((u32 ws).2=true∧(u32 ws).1.length=2∧k=zZ3):=fun g=>by
     obtain ⟨g1,g2,_⟩:=g
     by_cases hall:ws.all (okN 0 4294967295)=true
     ·have e3:u32 ws=(ws.map numV,true):=zYp hall
      rw [e3] at g2
      have g2:ws.length=2:=by simpa using g2
      match ws,g2 with
      | [a,b],_=>exact hA (by simpa [allP] using hall)
     ·have e3:u32 ws=([],false):=zJt (by simpa using hall)
      rw [e3] at g1; cases g1
    rw [if_neg hno,hA']
    simp
theorem jKd {ws:List Lb} (h:¬(2≤ws.length∧(ws.take 2).all (okN 1 16777216)=true)):(sizQ ⟨ws,false⟩).2.bad=true:=by
 have hb:(numQ (numQ ⟨ws,false⟩ 1 16777216).2 1 16777216).2.bad=true:=by
  obtain ⟨s1,s2⟩:=zZz 1 16777216
  rcases ws with _ | ⟨a,_ | ⟨b,r⟩⟩
  ·have e:(numQ ⟨[],false⟩ 1 16777216).2=⟨[],true⟩:=s2 false
   rw [e]
   have e:(numQ ⟨[],true⟩ 1 16777216).2=⟨[],true⟩:=s2 true
   rw [e]
  ·have e:(numQ ⟨[a],false⟩ 1 16777216).2=⟨[],false || !okN 1 16777216 a⟩:=s1 a [] false
   rw [e]
   have e:=s2 (false || !okN 1 16777216 a)
   simp only at e
   rw [e]
  ·have e:(numQ ⟨a::b::r,false⟩ 1 16777216).2=⟨b::r,false || !okN 1 16777216 a⟩:=s1 a (b::r) false
   rw [e]
   have e:=s1 b r (false || !okN 1 16777216 a)
   simp only at e
   rw [e]
   cases ha:okN 1 16777216 a with
   | false=>simp
   | true=>
    cases hbb:okN 1 16777216 b with
    | false=>simp
    | true=>exact absurd ⟨by simp,by simp [ha,hbb]⟩ h
 unfold sizQ
 simp only
 rw [if_pos (.inl hb)]
theorem jKc {a b:Lb} {r:List Lb} (ha:okN 1 16777216 a=true) (hb:okN 1 16777216 b=true):sizQ ⟨a::b::r,false⟩=(if 16777216 / numV b < numV a then ((0,0),⟨r,true⟩) else ((numV a,numV b),⟨r,false⟩)):=by
 unfold sizQ
 simp only [zQ8 ha,zQ8 hb]
 simp
theorem jYI {q:LQ} (h:q.bad=true):cmpQ (pixQ q).2=false:=by
 obtain ⟨ws,b⟩:=q
 have hb:b=true:=h
 subst hb
 have:=zY0 zHn ws true
 rw [Bool.not_true,Bool.false_and] at this
 exact this
theorem jYJ {q:LQ} (h:q.bad=true):cmpQ q=false:=by unfold cmpQ; rw [h]; simp
theorem jJw {A B:Int} (ha:1≤A) (hb:1≤B):16777216 / B < A↔16777216 / A < B:=by
 have h1:=Int.ediv_lt_iff_lt_mul (a:=16777216) (b:=A) (c:=B) (by omega)
 have h2:=Int.ediv_lt_iff_lt_mul (a:=16777216) (b:=B) (c:=A) (by omega)
 rw [h1,h2,Int.mul_comm]
theorem jXD {p:PP} {r:RP} (h:Sim p r) (k:Lb) (ws:List Lb) (h3:3≤p.part) (h4:p.part≤4) (hk:k=zQN∨k=zQP) (hh:¬0 < p.h) :
  (zZq { p with part:=4 } ⟨ws,false⟩ k).2=(zYf r (k::ws)).2∧((zZq { p with part:=4 } ⟨ws,false⟩ k).2=true→Sim (zZq { p with part:=4 } ⟨ws,false⟩ k).1 (zYf r (k::ws)).1):=by
 have hs:=h.s
 have hrp:r.part=p.part - 3:=by
  rw [h.rp]; split <;> omega
 have hhd:r.hd=3:=by rw [h.hd]; split <;> omega
 have hin:p.h=0∧r.left=0∧p.px=[]∧r.px=[]:=by
  rcases h.inn with h0 | ⟨_,i2,_⟩
  ·exact h0
  ·omega
 obtain ⟨i1,i2,i3,i4⟩:=hin
 have hil:p.s.ims.length=r.s.ims.length:=by rw [hs]
 have fin:∀ X:PP × Bool,X.2=false→∀ Y:RP × Bool,Y.2=false→X.2=Y.2∧(X.2=true→Sim X.1 Y.1):=fun X hX Y hY=>⟨by rw [hX,hY],fun g=>by rw [hX] at g; cases g⟩
 by_cases hm:64≤p.s.ims.length
 ·exact fin _ (by unfold zZq; rw [if_pos hm]) _ (by unfold zYf; rw [if_pos (.inr (.inl (by omega)))])
 by_cases hA:2≤ws.length∧(ws.take 2).all (okN 1 16777216)=true
 ·obtain ⟨hA1,hA2⟩:=hA
  rcases ws with _ | ⟨a,_ | ⟨b,rest⟩⟩
  ·simp at hA1
  ·simp at hA1
  have hA2':[a,b].all (okN 1 16777216)=true:=hA2
  have hab:okN 1 16777216 a=true∧okN 1 16777216 b=true:=by simpa using hA2'
  have ia:=zUE hab.1
  have ib:=zUE hab.2
  have en:nz (k::a::b::rest)=([numV a,numV b],true):=zYp hA2'
  have j0:iAt [numV a,numV b] 0=numV a:=rfl
  have j1:iAt [numV a,numV b] 1=numV b:=rfl
  have w0:wAt (k::a::b::rest) 0=k:=rfl
  have hsw:=jJw ia.1 ib.1
  have hsz:=jKc (r:=rest) hab.1 hab.2
  have g1:¬(1 < r.part∨64≤r.s.ims.length∨(k::a::b::rest).length < 3):=by simp; omega
  by_cases hv:16777216 / numV a < numV b
  ·rw [if_pos (hsw.2 hv)] at hsz
   refine fin _ ?_ _ (by unfold zYf; rw [if_neg g1,en,if_pos (.inr hv)])
   unfold zZq
   rw [if_neg hm,hsz]
   split
   ·exact jYJ rfl
   ·exact jYI rfl
  ·rw [if_neg (fun g=>hv (hsw.1 g))] at hsz
   have g2:¬((([numV a,numV b],true):List Int × Bool).2=false∨16777216 / iAt (([numV a,numV b],true):List Int × Bool).1 0 < iAt (([numV a,numV b],true):List Int × Bool).1 1):=by
    rw [j0,j1]; intro g; rcases g with g | g
    ·cases g
    ·exact hv g
   rcases hk with hk | hk
   ·have hd3:(k::a::b::rest).drop 3=rest:=rfl
    obtain ⟨e1,e2⟩:=jQ2 rest
    have eP:zZq { p with part:=4 } ⟨a::b::rest,false⟩ k=({ p with part:=4,s:={ p.s with ims:=p.s.ims++[zQi (numV a) (numV b) (pixQ ⟨rest,false⟩).1] } },(pixW rest).2):=by
     unfold zZq
     rw [if_neg hm,if_neg (by rw [hk]; decide),hsz,e1]
    have eR:zYf r (k::a::b::rest)=({ r with part:=1,s:={ r.s with ims:=r.s.ims++[zQi (numV a) (numV b) (pixW rest).1] } },(pixW rest).2):=by
     unfold zYf
     rw [if_neg g1,en,if_neg g2,w0,if_pos hk,hd3,j0,j1]
    rw [eP,eR]
    refine ⟨rfl,fun hp=>⟨?_,by show (0:Int)≤4; decide,by show (4:Int)≤5; decide,?_,?_,fun g=>absurd (show (4:Int)≤3 from g) (by decide),h.pt,.inl ⟨i1,i2,i3,i4⟩⟩⟩
    ·rw [e2 hp,hs]
    ·show r.hd=if (4:Int)≤3 then 4 else 3
     rw [hhd]; rfl
    ·rfl
   ·have eP:zZq { p with part:=4 } ⟨a::b::rest,false⟩ k=({ p with part:=4,w:=numV a,h:=numV b },cmpQ ⟨rest,false⟩):=by
     unfold zZq
     rw [if_neg hm,if_pos hk,hsz]
    have eR:zYf r (k::a::b::rest)=({ r with part:=1,w:=numV a,h:=numV b,left:=numV a*numV b },decide ((k::a::b::rest).length=3)):=by
     unfold zYf
     rw [if_neg g1,en,if_neg g2,w0,if_neg (by rw [hk]; decide),j0,j1]
    rw [eP,eR]
    refine ⟨?_,fun hp=>⟨hs,by show (0:Int)≤4; decide,by show (4:Int)≤5; decide,?_,rfl,fun g=>absurd (show (4:Int)≤3 from g) (by decide),h.pt,.inr ⟨ia.1,ib.1,rfl,rfl,by rw [i3,i4],rfl,?_,?_⟩⟩⟩
    ·show cmpQ ⟨rest,false⟩=decide ((k::a::b::rest).length=3)
     cases rest <;> simp [cmpQ]
    ·show r.hd=if (4:Int)≤3 then 4 else 3
     rw [hhd]; rfl
    ·show numV a*numV b=numV a*numV b - (p.px.length:Int)
     rw [i3]; simp
    ·have:=Int.mul_pos (show 0 < numV a by omega) (show 0 < numV b by omega)
     exact this
 ·have hb:=jKd hA
  refine fin _ ?_ _ ?_
  ·unfold zZq
   rw [if_neg hm]
   split
   ·exact jYJ hb
   ·exact jYI hb
  ·by_cases hl:(k::ws).length < 3
   ·unfold zYf; rw [if_pos (.inr (.inr hl))]
   ·have hl2:2≤ws.length:=by simp at hl; omega
    have:nz (k::ws)=([],false):=zJt (by
     cases hx:((((k::ws).drop 1).take 2).all (okN 1 16777216)) with
     | false=>rfl
     | true=>exact absurd ⟨hl2,hx⟩ hA)
    unfold zYf; rw [if_neg (by omega),if_pos (.inl (by rw [this]))]
def pB:Lb→Bool:=okN 0 255
def pI:Lb→Bool:=okN (-2147483648) 2147483647
def pS:Lb→Bool:=okN 0 65535
def pT:Lb→Bool:=okN 0 1
def pO:Lb→Bool:=fun w=>(nmR zQo w).2
def pM:Lb→Bool:=fun w=>(nmR zQf w).2
theorem stB:Step (fun q=>(byQ q).2) pB:=zZz _ _
theorem stI:Step (fun q=>(plQ q).2) pI:=zZz _ _
theorem stS:Step (fun q=>(smQ q).2) pS:=zZz _ _
theorem stT:Step (fun q=>(trQ q).2) pT:=zZz _ _
theorem stO:Step (fun q=>(namQ zQo q).2) pO:=jZh _
theorem stM:Step (fun q=>(namQ zQf q).2) pM:=jZh _
def pD:List (Lb→Bool):=[pB,pI,pI,pB,pI,pI,pS,pO,pM]
def pP:List (Lb→Bool):=[pB,pI,pI,pS,pO,pM,pT,pT]
theorem jJu (ws:List Lb):cmpQ (zZB ⟨ws,false⟩).2=allP pD ws:=by
 have:=zY0 (.cons stB (.cons stI (.cons stI (.cons stB (.cons stI (.cons stI (.cons stS (.cons stO (.cons stM .nil))))))))) ws false
 rw [Bool.not_false,Bool.true_and] at this
 exact this
theorem jY0 (ws:List Lb):cmpQ (zZy ⟨ws,false⟩).2=allP pP ws:=by
 have:=zY0 (.cons stB (.cons stI (.cons stI (.cons stS (.cons stO (.cons stM (.cons stT (.cons stT .nil)))))))) ws false
 rw [Bool.not_false,Bool.true_and] at this
 exact this
theorem jZg {f:Int→ByteArray} {w:Lb} (h:(nmR f w).2=true):1≤(nmR f w).1∧(nmR f w).1 < 13:=by
 unfold nmR at h ⊢
 split at h
 ·rename_i j hj
  have:=List.mem_of_find?_eq_some hj
  simp at this
  simp only [hj]
  omega
 ·cases h
theorem jQ8 {a:Lb} (h:pS a=true):IntKind.wrap .u16 (numR a 0 65535).1=numV a:=by
 have:=zUE h
 rw [jZd h]
 simp [IntKind.wrap,IntKind.bits,IntKind.signed]; omega
theorem zGM:∀ {Ps:List (Lb→Bool)} {ws:List Lb},allP Ps ws=true→ws.length=Ps.length
 | [],[],_=>rfl
 | P::Ps,w::ws,h=>by
  simp only [allP,Bool.and_eq_true] at h
  simp [zGM h.2]
 | [],_::_,h=>by cases h
 | _::_,[],h=>by cases h
theorem jY9 {ws:List Lb} (h:ws.length≠9):(opR (zZV::ws)).2=false:=by
 unfold opR
 split
 ·rename_i e; injection e with _ e; subst e; exact absurd rfl h
 ·rename_i e; injection e with e _; rw [if_neg (fun g=>absurd (e.trans g.1) (by decide))]
 ·rename_i e; injection e with e _; rw [if_neg (fun g=>absurd (e.trans g) (by decide))]
 ·rfl
theorem jY7 {ws:List Lb} (h:ws.length≠8):(opR (zZ0::ws)).2=false:=by
 unfold opR
 split
 ·rename_i e; injection e with e _; rw [if_neg (fun g=>absurd (e.trans g.1) (by decide))]
 ·rename_i e; injection e with _ e; subst e; exact absurd rfl h
 ·rename_i e; injection e with e _; rw [if_neg (fun g=>absurd (e.trans g) (by decide))]
 ·rfl
theorem jKr (ws:List Lb):opR (sPop::ws)=if ws=[] then (popO,true) else (opR (sPop::ws)).1 |> fun o=>(o,false):=by
 cases ws with
 | nil=>rfl
 | cons w ws=>
  rw [if_neg (by simp)]
  have:(opR (sPop::w::ws)).2=false:=by
   unfold opR
   split
   ·rename_i e; injection e with e _; rw [if_neg (fun g=>absurd (e.trans g.1) (by decide))]
   ·rename_i e; injection e with e _; rw [if_neg (fun g=>absurd (e.trans g.1) (by decide))]
   ·rename_i e; injection e with _ e; cases e
   ·rfl
  exact Prod.ext rfl this
theorem zWr {k:Lb} {ws:List Lb} (h1:k≠zZV) (h2:k≠zZ0) (h3:k≠sPop):(opR (k::ws)).2=false:=by
 unfold opR
 split
 ·rename_i e; injection e with e _; rw [if_neg (fun g=>h1 (e.trans g.1))]
 ·rename_i e; injection e with e _; rw [if_neg (fun g=>h2 (e.trans g.1))]
 ·rename_i e; injection e with e _; rw [if_neg (fun g=>h3 (e.trans g))]
 ·rfl
theorem jKY (ws:List Lb):allP pD ws=(opR (zZV::ws)).2∧(allP pD ws=true→(zZB ⟨ws,false⟩).1=(opR (zZV::ws)).1∧prtO (opR (zZV::ws)).1=true):=by
 by_cases hl:ws.length=9
 ·match ws,hl with
  | [i,x,y,m,mx,my,a,b,c],_=>
  by_cases hC:zZV=zZV∧[i,m].all (okN 0 255)=true∧[x,y,mx,my].all (okN (-2147483648) 2147483647)=true
  ·have e:opR [zZV,i,x,y,m,mx,my,a,b,c]=(zW9 ⟨1,numV i,numV x,numV y,numV m,numV mx,numV my,0,0,0,false,false⟩ a b c,zGZ a b c):=if_pos hC
   rw [e]
   obtain ⟨_,h1,h2⟩:=hC
   simp only [List.all_cons,List.all_nil,Bool.and_true,Bool.and_eq_true] at h1 h2
   have k1:pB i=true:=h1.1
   have k2:pB m=true:=h1.2
   have k3:pI x=true:=h2.1
   have k4:pI y=true:=h2.2.1
   have k5:pI mx=true:=h2.2.2.1
   have k6:pI my=true:=h2.2.2.2
   refine ⟨by simp [allP,pD,zGZ,k1,k2,k3,k4,k5,k6,Bool.and_assoc]; rfl,fun hh=>?_⟩
   simp only [allP,pD,k1,k2,k3,k4,k5,k6,Bool.true_and,Bool.and_true,Bool.and_eq_true] at hh
   obtain ⟨k7,k8,k9⟩:=hh
   have v8:=jZg (show (nmR zQo b).2=true from k8)
   have v9:=jZg (show (nmR zQf c).2=true from k9)
   refine ⟨?_,?_⟩
   ·unfold zZB byQ plQ smQ
    simp only [zQ8 (show okN 0 255 i=true from k1),zQ8 (show okN (-2147483648) 2147483647 x=true from k3),zQ8 (show okN (-2147483648) 2147483647 y=true from k4),zQ8 (show okN 0 255 m=true from k2),zQ8 (show okN (-2147483648) 2147483647 mx=true from k5),zQ8 (show okN (-2147483648) 2147483647 my=true from k6),zQ8 (show okN 0 65535 a=true from k7),zGw (show (nmR zQo b).2=true from k8),zGw (show (nmR zQf c).2=true from k9)]
    unfold zW9
    rw [jQ8 k7]
   ·unfold prtO zW9
    simp
    omega
  ·have e:opR [zZV,i,x,y,m,mx,my,a,b,c]=(nilO,false):=if_neg hC
   rw [e]
   have:allP pD [i,x,y,m,mx,my,a,b,c]=false:=by
    cases hA:allP pD [i,x,y,m,mx,my,a,b,c] with
    | false=>rfl
    | true=>
     simp only [allP,pD,Bool.and_eq_true] at hA
     obtain ⟨k1,k3,k4,k2,k5,k6,_⟩:=hA
     refine absurd ⟨rfl,?_,?_⟩ hC
     ·simp only [List.all_cons,List.all_nil,Bool.and_true,Bool.and_eq_true]; exact ⟨k1,k2⟩
     ·simp only [List.all_cons,List.all_nil,Bool.and_true,Bool.and_eq_true]; exact ⟨k3,k4,k5,k6⟩
   rw [this]
   exact ⟨rfl,fun h=>by cases h⟩
 ·have:allP pD ws=false:=by
   cases h:allP pD ws with
   | false=>rfl
   | true=>exact absurd (zGM h) hl
  rw [this,jY9 hl]
  exact ⟨rfl,fun h=>by cases h⟩
theorem jKl (ws:List Lb):allP pP ws=(opR (zZ0::ws)).2∧(allP pP ws=true→(zZy ⟨ws,false⟩).1=(opR (zZ0::ws)).1∧prtO (opR (zZ0::ws)).1=true):=by
 by_cases hl:ws.length=8
 ·match ws,hl with
  | [m,mx,my,a,b,c,is,kn],_=>
  by_cases hC:zZ0=zZ0∧okN 0 255 m=true∧[mx,my].all (okN (-2147483648) 2147483647)=true∧[is,kn].all (okN 0 1)=true
  ·have e:opR [zZ0,m,mx,my,a,b,c,is,kn]=(zW9 ⟨2,0,0,0,numV m,numV mx,numV my,0,0,0,decide (numV is=1),decide (numV kn=1)⟩ a b c,zGZ a b c):=if_pos hC
   rw [e]
   obtain ⟨_,h0,h1,h2⟩:=hC
   simp only [List.all_cons,List.all_nil,Bool.and_true,Bool.and_eq_true] at h1 h2
   have k2:pB m=true:=h0
   have k5:pI mx=true:=h1.1
   have k6:pI my=true:=h1.2
   have t1:pT is=true:=h2.1
   have t2:pT kn=true:=h2.2
   refine ⟨by simp [allP,pP,zGZ,k2,k5,k6,t1,t2,Bool.and_assoc]; rfl,fun hh=>?_⟩
   simp only [allP,pP,k2,k5,k6,t1,t2,Bool.true_and,Bool.and_true,Bool.and_eq_true] at hh
   obtain ⟨k7,k8,k9⟩:=hh
   have v8:=jZg (show (nmR zQo b).2=true from k8)
   have v9:=jZg (show (nmR zQf c).2=true from k9)
   refine ⟨?_,?_⟩
   ·unfold zZy trQ byQ plQ smQ
    simp only [zQ8 (show okN 0 255 m=true from k2),zQ8 (show okN (-2147483648) 2147483647 mx=true from k5),zQ8 (show okN (-2147483648) 2147483647 my=true from k6),zQ8 (show okN 0 65535 a=true from k7),zGw (show (nmR zQo b).2=true from k8),zGw (show (nmR zQf c).2=true from k9),zQ8 (show okN 0 1 is=true from t1),zQ8 (show okN 0 1 kn=true from t2)]
    unfold zW9
    rw [jQ8 k7]
   ·unfold prtO zW9
    simp
    omega
  ·have e:opR [zZ0,m,mx,my,a,b,c,is,kn]=(nilO,false):=if_neg hC
   rw [e]
   have:allP pP [m,mx,my,a,b,c,is,kn]=false:=by
    cases hA:allP pP [m,mx,my,a,b,c,is,kn] with
    | false=>rfl
    | true=>
     simp only [allP,pP,Bool.and_eq_true] at hA
     obtain ⟨k2,k5,k6,_,_,_,t1,t2,_⟩:=hA
     refine absurd ⟨rfl,k2,?_,?_⟩ hC
     ·simp only [List.all_cons,List.all_nil,Bool.and_true,Bool.and_eq_true]; exact ⟨k5,k6⟩
     ·simp only [List.all_cons,List.all_nil,Bool.and_true,Bool.and_eq_true]; exact ⟨t1,t2⟩
   rw [this]
   exact ⟨rfl,fun h=>by cases h⟩
 ·have:allP pP ws=false:=by
   cases h:allP pP ws with
   | false=>rfl
   | true=>exact absurd (zGM h) hl
  rw [this,jY7 hl]
  exact ⟨rfl,fun h=>by cases h⟩
theorem jXC {p:PP} {r:RP} (h:Sim p r) (k:Lb) (ws:List Lb) (h3:3≤p.part) (hh:¬0 < p.h) :
  (pOp { p with part:=5 } ⟨ws,false⟩ k).2=((opR (k::ws)).2 && decide (r.s.ops.length < 4096)) ∧
   ((pOp { p with part:=5 } ⟨ws,false⟩ k).2=true→Sim (pOp { p with part:=5 } ⟨ws,false⟩ k).1 { r with part:=2,s:={ r.s with ops:=r.s.ops++[(opR (k::ws)).1] } }):=by
 have hs:=h.s
 have hhd:r.hd=3:=by rw [h.hd]; split <;> omega
 have hin:p.h=0∧r.left=0∧p.px=[]∧r.px=[]:=by
  rcases h.inn with h0 | ⟨_,i2,_⟩
  ·exact h0
  ·omega
 have hol:p.s.ops.length=r.s.ops.length:=by rw [hs]
 have fin:∀ o:Oq,prtO o=true→o=(opR (k::ws)).1→Sim { p with part:=5,s:={ p.s with ops:=p.s.ops++[o] } } { r with part:=2,s:={ r.s with ops:=r.s.ops++[(opR (k::ws)).1] } }:=fun o ho e=>
  ⟨by rw [e,hs],by show (0:Int)≤5; decide,by show (5:Int)≤5; decide,by show r.hd=if (5:Int)≤3 then 5 else 3; rw [hhd]; rfl,rfl,fun g=>absurd (show (5:Int)≤3 from g) (by decide),fun x hx=>by
   rcases List.mem_append.1 hx with hx | hx
   ·exact h.pt x hx
   ·rw [List.mem_singleton.1 hx]; exact ho,.inl hin⟩
 by_cases hm:4096≤p.s.ops.length
 ·have eP:pOp { p with part:=5 } ⟨ws,false⟩ k=({ p with part:=5 },false):=by unfold pOp; rw [if_pos hm]
  rw [eP,decide_eq_false (by omega),Bool.and_false]
  exact ⟨rfl,fun h=>by cases h⟩
 rw [decide_eq_true (by omega:r.s.ops.length < 4096),Bool.and_true]
 by_cases hd:k=zZV
 ·subst hd
  obtain ⟨e1,e2⟩:=jKY ws
  have eP:pOp { p with part:=5 } ⟨ws,false⟩ zZV=({ p with part:=5,s:={ p.s with ops:=p.s.ops++[(zZB ⟨ws,false⟩).1] } },allP pD ws):=by unfold pOp; rw [if_neg hm,if_pos rfl,jJu]
  rw [eP]
  exact ⟨e1,fun hh=>fin _ (by rw [(e2 hh).1]; exact (e2 hh).2) (e2 hh).1⟩
 by_cases hp:k=zZ0
 ·subst hp
  obtain ⟨e1,e2⟩:=jKl ws
  have eP:pOp { p with part:=5 } ⟨ws,false⟩ zZ0=({ p with part:=5,s:={ p.s with ops:=p.s.ops++[(zZy ⟨ws,false⟩).1] } },allP pP ws):=by unfold pOp; rw [if_neg hm,if_neg hd,if_pos rfl,jY0]
  rw [eP]
  exact ⟨e1,fun hh=>fin _ (by rw [(e2 hh).1]; exact (e2 hh).2) (e2 hh).1⟩
 by_cases ho:k=sPop
 ·subst ho
  have eP:pOp { p with part:=5 } ⟨ws,false⟩ sPop=({ p with part:=5,s:={ p.s with ops:=p.s.ops++[popO] } },cmpQ ⟨ws,false⟩):=by unfold pOp; rw [if_neg hm,if_neg hd,if_neg hp,if_pos rfl]; rfl
  rw [eP]
  cases ws with
  | nil=>exact ⟨rfl,fun _=>fin _ (by decide) rfl⟩
  | cons w ws=>
   have e:=jKr (w::ws)
   rw [if_neg (by simp)] at e
   rw [e]
   exact ⟨rfl,fun h=>by cases h⟩
 ·have eP:pOp { p with part:=5 } ⟨ws,false⟩ k=({ p with part:=5 },false):=by unfold pOp; rw [if_neg hm,if_neg hd,if_neg hp,if_neg ho]
  rw [eP,zWr hd hp ho]
  exact ⟨rfl,fun h=>by cases h⟩
theorem jYP {p:PP} {r:RP} (h:Sim p r) (t:Lb):(zXx p t).2=(zYk r t).2∧((zXx p t).2=true→Sim (zXx p t).1 (zYk r t).1):=by
 have hne:=zG1 t
 by_cases hh:0 < p.h
 ·have hl:0 < r.left:=by
   rcases h.inn with ⟨h0,_⟩ | ⟨_,_,_,_,_,_,_,i8⟩
   ·omega
   ·exact i8
  have eP:zXx p t=zZu p ⟨zQt t,false⟩:=by unfold zXx; rw [if_pos hh]
  have eR:zYk r t=(if r.left=1 then ({ r with left:=0,s:={ r.s with ims:=r.s.ims++[imOf r.w r.h (r.px++[(pixW (zQt t)).1])] },px:=[] },(pixW (zQt t)).2)
   else ({ r with left:=r.left - 1,px:=r.px++[(pixW (zQt t)).1] },(pixW (zQt t)).2)):=by unfold zYk; rw [if_pos hl]
  rw [eP,eR]
  exact jXB h (zQt t) hh
 ·have hl:¬0 < r.left:=by
   rcases h.inn with ⟨_,h0,_⟩ | ⟨_,i2,_⟩
   ·omega
   ·omega
  obtain ⟨k,ws,hw⟩:∃ k ws,zQt t=k::ws:=by
   cases e:zQt t with
   | nil=>exact absurd e hne
   | cons k ws=>exact ⟨k,ws,rfl⟩
  have d0:=h.d0
  have d5:=h.d5
  have hq:zZF ⟨k::ws,false⟩=⟨ws,false⟩:=rfl
  have hk:zZi (k::ws)=k:=rfl
  have w0:wAt (k::ws) 0=k:=rfl
  have eP:zXx p t=(if p.part≤2 then zXb p ⟨ws,false⟩ k
   else if k=zZj∧p.part=3 then zXw { p with part:=4 } t
   else if (k=zQN∨k=zQP)∧p.part≤4 then zZq { p with part:=4 } ⟨ws,false⟩ k
   else pOp { p with part:=5 } ⟨ws,false⟩ k):=by unfold zXx; rw [if_neg hh,hw]; rfl
  have eR:zYk r t=(if r.hd < 3 then zYT { r with hd:=r.hd+1 } (k::ws)
   else if k=zZj then ({ r with part:=1,s:={ r.s with ord:=(u32 ws).1 } },(u32 ws).2 && decide (0 < (u32 ws).1.length) && decide (r.part=0))
   else if k=zQN∨k=zQP then zYf r (k::ws)
   else ({ r with part:=2,s:={ r.s with ops:=r.s.ops++[(opR (k::ws)).1] } },(opR (k::ws)).2 && decide (r.s.ops.length < 4096))):=by unfold zYk; rw [if_neg hl,hw]; rfl
  have hhd:=h.hd
  have hrp:=h.rp
  by_cases h2:p.part≤2
  ·rw [if_pos (by omega)] at hhd
   rw [eP,eR,if_pos h2,if_pos (by omega)]
   exact jYQ h k ws h2
  ·have hr3:r.hd=3:=by rw [hhd]; split <;> omega
   rw [if_neg h2] at eP
   rw [if_neg (by omega)] at eR
   by_cases ho:k=zZj
   ·rw [if_pos ho] at eR
    by_cases h3:p.part=3
    ·rw [if_pos ⟨ho,h3⟩] at eP
     rw [if_pos (by omega)] at hrp
     have hod:=h.od (by omega)
     rw [eP,eR]
     unfold zXw
     rw [hw,show (k::ws).drop 1=ws from rfl]
     by_cases ha:ws.all (okN 0 4294967295)=true
     ·have e3:u32 ws=(ws.map numV,true):=zYp ha
      rw [e3,ha,hrp]
      refine ⟨by simp,fun _=>⟨?_,by show (0:Int)≤4; decide,by show (4:Int)≤5; decide,?_,rfl,fun g=>absurd (show (4:Int)≤3 from g) (by decide),h.pt,?_⟩⟩
      ·show ({ p.s with ord:=p.s.ord++zKM ws }:Scr)={ r.s with ord:=ws.map numV }
       rw [hod,jQ4 ha,h.s]; rfl
      ·show r.hd=if (4:Int)≤3 then 4 else 3
       rw [hr3]; rfl
      ·rcases h.inn with h0 | ⟨_,i2,_⟩
       ·exact .inl h0
       ·omega
     ·have ha':ws.all (okN 0 4294967295)=false:=by simpa using ha
      have e3:u32 ws=([],false):=zJt ha'
      rw [e3,ha']
      refine ⟨by simp,fun g=>?_⟩
      simp at g
    ·rw [if_neg (fun g=>h3 g.2),if_neg (fun g=>by rw [ho] at g; exact absurd g.1 (by decide))] at eP
     have e:=(jXC h k ws (by omega) hh).1
     rw [zWr (by rw [ho]; decide) (by rw [ho]; decide) (by rw [ho]; decide),Bool.false_and] at e
     rw [eP,eR,e]
     have e0:decide (r.part=0)=false:=decide_eq_false (by rw [hrp]; split <;> omega)
     refine ⟨?_,fun g=>by cases g⟩
     show false=((u32 ws).2 && decide (0 < (u32 ws).1.length) && decide (r.part=0))
     rw [e0,Bool.and_false]
   ·rw [if_neg ho] at eR
    rw [if_neg (fun g=>ho g.1)] at eP
    by_cases hi:k=zQN∨k=zQP
    ·rw [if_pos hi] at eR
     by_cases h4:p.part≤4
     ·rw [if_pos ⟨hi,h4⟩] at eP
      rw [eP,eR]
      exact jXD h k ws (by omega) h4 hi hh
     ·rw [if_neg (fun g=>h4 g.2)] at eP
      have e:=(jXC h k ws (by omega) hh).1
      rw [zWr (by rcases hi with hi | hi <;> rw [hi] <;> decide) (by rcases hi with hi | hi <;> rw [hi] <;> decide) (by rcases hi with hi | hi <;> rw [hi] <;> decide),Bool.false_and] at e
      rw [eP,eR,e]
      refine ⟨?_,fun g=>by cases g⟩
      have:1 < r.part:=by rw [hrp]; split <;> omega
      unfold zYf; rw [if_pos (.inl this)]
    ·rw [if_neg hi] at eR
     rw [if_neg (fun g=>hi g.1)] at eP
     rw [eP,eR]
     exact jXC h k ws (by omega) hh
theorem jXE:∀ (t acc:Lb) (n:Int) {p:PP} {r:RP},Sim p r→pGo p n acc t=rGo r n acc t
 | [],acc,n,p,r,h=>by
  rw [pGo,rGo]
  have hhd:=h.hd
  by_cases ha:acc≠[]
  ·have c1:acc≠[]∨r.hd < 3∨0 < r.left:=.inl ha
   rw [if_pos ha,if_pos c1]
  ·rw [if_neg ha]
   unfold pEnd
   have hl:0 < p.h↔0 < r.left:=by
    rcases h.inn with ⟨i1,i2,_⟩ | ⟨_,i2,_,_,_,_,_,i8⟩
    ·omega
    ·exact ⟨fun _=>i8,fun _=>by omega⟩
   have hd:p.part≤2↔r.hd < 3:=by
    rw [hhd]; split <;> omega
   by_cases hc:p.part≤2∨0 < p.h
   ·have c1:acc≠[]∨r.hd < 3∨0 < r.left:=.inr (hc.imp hd.1 hl.1)
    rw [if_pos hc,if_pos c1]
   ·have c1:¬(acc≠[]∨r.hd < 3∨0 < r.left):=fun g=>hc ((g.resolve_left ha).imp hd.2 hl.2)
    rw [if_neg hc,if_neg c1]
    have hpt:p.s.ops.all prtO=true:=List.all_eq_true.2 h.pt
    rw [h.s] at hpt ⊢
    by_cases he:zZU r.s=true
    ·rw [if_pos ⟨he,hpt⟩,if_pos he]
    ·rw [if_neg (fun g=>he g.1),if_neg he]
 | c::t,acc,n,p,r,h=>by
  rw [pGo,rGo]
  obtain ⟨e1,e2⟩:=jYP h acc
  by_cases hc:c=10
  ·rw [if_pos hc,if_pos hc,← e1]
   by_cases hg:(zXx p acc).2=true
   ·rw [if_pos hg,if_pos hg]
    exact jXE t [] (n+1) (e2 hg)
   ·rw [if_neg hg,if_neg hg]
  ·rw [if_neg hc,if_neg hc]
   exact jXE t (acc++[c]) n h
theorem zGg (t:Lb):zZn t=zKJ t:=jXE t [] 0 jXA
def zXD (w:Lb):Prop:=(32:UInt8) ∉ w∧(10:UInt8) ∉ w
theorem zV7:∀ {w:Lb},(32:UInt8) ∉ w→zQt w=[w]
 | [],_=>rfl
 | c::w,h=>by
  simp only [List.mem_cons,not_or] at h
  rw [zQt,if_neg (fun e=>h.1 e.symm),zV7 h.2]; rfl
theorem jQT:∀ {w r:Lb},(32:UInt8) ∉ w→zQt (w++32::r)=w::zQt r
 | [],r,_=>by rw [List.nil_append,zQt,if_pos rfl]
 | c::w,r,h=>by
  simp only [List.mem_cons,not_or] at h
  rw [List.cons_append,zQt,if_neg (fun e=>h.1 e.symm),jQT h.2]; rfl
theorem jQU:∀ (ws:List Lb) (w:Lb),zXD w→(∀ x∈ws,zXD x)→zQt (w++jt ws)=w::ws
 | [],w,h,_=>by rw [show jt []=[] from rfl,List.append_nil]; exact zV7 h.1
 | x::ws,w,h,hs=>by
  rw [jQz,List.cons_append,jQT h.1,jQU ws x (hs x (by simp)) fun y hy=>hs y (by simp [hy])]
theorem zXl {ws:List Lb} (h:ws≠[]) (hs:∀ x∈ws,zXD x):zQt (zQ4 ws)=ws:=by
 cases ws with
 | nil=>exact absurd rfl h
 | cons w ws=>rw [zJW]; exact jQU ws w (hs w (by simp)) fun y hy=>hs y (by simp [hy])
theorem jVj:∀ {ws:List Lb},(∀ x∈ws,zXD x)→(10:UInt8) ∉ jt ws
 | [],_,h=>by cases h
 | x::ws,hs,h=>by
  rw [jQz] at h
  rcases List.mem_append.1 h with h | h
  ·rcases List.mem_cons.1 h with h | h
   ·exact absurd h (by decide)
   ·exact (hs x (by simp)).2 h
  ·exact jVj (fun y hy=>hs y (by simp [hy])) h
theorem jKC {ws:List Lb} (hs:∀ x∈ws,zXD x):(10:UInt8) ∉ zQ4 ws:=by
 cases ws with
 | nil=>intro h; cases h
 | cons w ws=>
  rw [zJW]
  intro h
  rcases List.mem_append.1 h with h | h
  ·exact (hs w (by simp)).2 h
  ·exact jVj (fun y hy=>hs y (by simp [hy])) h
theorem jJX {c:UInt8} (h:zJz c=true):c≠32∧c≠10:=by
 constructor <;> (rintro rfl; revert h; decide)
theorem jZ8 (v:Int):zXD (itoa v):=by
 have hd:=(zV2 v.natAbs).2.1
 rw [List.all_eq_true] at hd
 have key:∀ c∈itoa v,c≠32∧c≠10:=fun c hc=>by
  by_cases hn:zKU (itoa v)=true
  ·rw [jX5 hn,(zJy v).1] at hc
   rcases List.mem_cons.1 hc with rfl | hc
   ·exact ⟨by decide,by decide⟩
   ·exact jJX (hd c hc)
  ·have e:=jQZ (by simpa using hn)
   rw [← e,(zJy v).1] at hc
   exact jJX (hd c hc)
 exact ⟨fun h=>(key _ h).1 rfl,fun h=>(key _ h).2 rfl⟩
theorem jX7:∀ k u:Nat,u < 10 ^ (k+1)→nDigits u≤k+1
 | 0,u,h=>by rw [nDigits_small (by simpa using h)]; exact Nat.le_refl _
 | k+1,u,h=>by
  by_cases hu:u < 10
  ·rw [nDigits_small hu]; omega
  ·rw [nDigits_big hu]
   have e:10 ^ (k+1+1)=10*10 ^ (k+1):=by rw [Nat.pow_succ,Nat.mul_comm]
   have:=jX7 k (u / 10) (by omega)
   omega
theorem zVX {v:Int} (h0 : -9999999999≤v) (h1:v≤9999999999):zYy (itoa v)=true∧numV (itoa v)=v:=by
 refine zUN ?_
 rw [(zJy v).1,decDigits_length]
 exact jX7 9 _ (by omega)
theorem zXN {lo hi v:Int} (h0:lo≤v) (h1:v≤hi) (hl : -9999999999≤lo) (hh:hi≤9999999999):okN lo hi (itoa v)=true:=by
 have:=zVX (v:=v) (by omega) (by omega)
 unfold okN; rw [this.1,this.2]; simp [h0,h1]
theorem zHs {lo hi v:Int} (h0:lo≤v) (h1:v≤hi) (hl : -9999999999≤lo) (hh:hi≤9999999999):numR (itoa v) lo hi=(v,true):=by
 have:=zVX (v:=v) (by omega) (by omega)
 rw [jKv this.1,this.2]; simp [h0,h1]
theorem zJs {lo hi:Int} {l:List Int} (h:∀ v∈l,lo≤v∧v≤hi) (hl : -9999999999≤lo) (hh:hi≤9999999999):zGu (digW l) lo hi=(l,true):=by
 rw [zYp,show (digW l).map numV=l from ?_]
 ·unfold digW
  rw [List.map_map]
  conv=>rhs; rw [← List.map_id l]
  exact List.map_congr_left fun v hv=>(zVX (by have:=h v hv; omega) (by have:=h v hv; omega)).2
 ·unfold digW
  rw [List.all_map,List.all_eq_true]
  exact fun v hv=>zXN (h v hv).1 (h v hv).2 hl hh
theorem zXA (l:List Int):∀ x∈digW l,zXD x:=fun x hx=>by
 obtain ⟨v,_,rfl⟩:=List.mem_map.1 hx
 exact jZ8 v
theorem clean_of {w:Lb} (h:w.all (fun c=>decide (c≠32) && decide (c≠10))=true):zXD w:=by
 rw [List.all_eq_true] at h
 exact ⟨fun g=>by simpa using h _ g,fun g=>by simpa using h _ g⟩
theorem jVf:∀ k:Fin 12,(ofS (zQo ((k.val:Int)+1))).all (fun c=>decide (c≠32) && decide (c≠10))=true∧nmR zQo (ofS (zQo ((k.val:Int)+1)))=((k.val:Int)+1,true):=by decide +kernel
theorem jJh:∀ k:Fin 12,(ofS (zQf ((k.val:Int)+1))).all (fun c=>decide (c≠32) && decide (c≠10))=true∧nmR zQf (ofS (zQf ((k.val:Int)+1)))=((k.val:Int)+1,true):=by decide +kernel
theorem jJP {v:Int} (h:1≤v∧v < 13):zXD (ofS (zQo v))∧nmR zQo (ofS (zQo v))=(v,true):=by
 have:=jVf ⟨(v - 1).toNat,by omega⟩
 rw [show (((⟨(v - 1).toNat,by omega⟩:Fin 12).val:Int)+1)=v from by show (((v - 1).toNat:Nat):Int)+1=v; omega] at this
 exact ⟨clean_of this.1,this.2⟩
theorem jZi {v:Int} (h:1≤v∧v < 13):zXD (ofS (zQf v))∧nmR zQf (ofS (zQf v))=(v,true):=by
 have:=jJh ⟨(v - 1).toNat,by omega⟩
 rw [show (((⟨(v - 1).toNat,by omega⟩:Fin 12).val:Int)+1)=v from by show (((v - 1).toNat:Nat):Int)+1=v; omega] at this
 exact ⟨clean_of this.1,this.2⟩
def nl (t:Lb):Nat:=t.count 10
theorem jX3 (a b:Lb):nl (a++b)=nl a+nl b:=List.count_append
theorem jXQ {p:RP} {n:Int} {b:Lb}:∀ {a acc:Lb},(10:UInt8) ∉ a→rGo p n acc (a++10::b)=if (zYk p (acc++a)).2=true then rGo (zYk p (acc++a)).1 (n+1) [] b else (zScr,n+1,19)
 | [],acc,_=>by rw [List.append_nil,List.nil_append,rGo,if_pos rfl]
 | c::a,acc,h=>by
  simp only [List.mem_cons,not_or] at h
  rw [List.cons_append,rGo,if_neg (fun e=>h.1 e.symm),jXQ h.2,List.append_assoc]; rfl
def Rd_ (p:RP) (t:Lb) (q:RP):Prop:=∀ (n:Int) (rest:Lb),rGo p n [] (t++rest)=rGo q (n+(nl t:Nat)) [] rest
theorem Rd_.nil (p:RP):Rd_ p [] p:=fun n rest=>by
 rw [List.nil_append,show (n+((nl []:Nat):Int))=n from Int.add_zero n]
theorem Rd_.app {p q r:RP} {a b:Lb} (h1:Rd_ p a q) (h2:Rd_ q b r):Rd_ p (a++b) r:=fun n rest=>by
 rw [List.append_assoc,h1,h2,jX3]
 congr 1
 omega
theorem Rd_.line {p q:RP} {ws:List Lb} (hs:∀ x∈ws,zXD x) (h:zYk p (zQ4 ws)=(q,true)):Rd_ p (zZc ws) q:=fun n rest=>by
 have hn:=jKC hs
 unfold zZc
 rw [List.append_assoc,show [10]++rest=10::rest from rfl,jXQ hn,List.nil_append,h,if_pos rfl,jX3]
 have:nl (zQ4 ws)=0:=List.count_eq_zero.2 hn
 rw [this]
 rfl
theorem jK8:zQN≠zZj:=by decide
theorem jKi {s:Scr} (P:Prt s):Rd_ zRP (hdTx s) ⟨⟨s.bits,s.c,s.tw,s.th,[],[],[]⟩,3,0,0,0,0,[]⟩:=by
 have cl:∀ (w:Lb) (l:List Int),zXD w→∀ x∈[w]++digW l,zXD x:=fun w l h x hx=>by
  rcases List.mem_append.1 hx with hx | hx
  ·rw [List.mem_singleton.1 hx]; exact h
  ·exact zXA l x hx
 have h1:Rd_ zRP (zQD zX3 [s.bits]++[10]) ⟨⟨s.bits,⟨0,0,0,0⟩,0,0,[],[],[]⟩,1,0,0,0,0,[]⟩:=by
  rw [← zZK _ _ (by decide)]
  have c1:=cl zX3 [s.bits] (clean_of (by decide))
  refine Rd_.line c1 ?_
  unfold zYk
  rw [zXl (by simp) c1,if_neg (show ¬(0 < zRP.left) from by decide),if_pos (show (zRP.hd < 3) from by decide)]
  have n1:=zHs (lo:=0) (hi:=255) P.bits.1 P.bits.2 (by decide) (by decide)
  unfold zYT
  rw [if_pos (show (zRP.hd+1=1) from rfl),if_pos (show (([zX3]++digW [s.bits]).length=2∧wAt ([zX3]++digW [s.bits]) 0=zX3) from ⟨rfl,rfl⟩)]
  show (({ zRP with hd:=0+1,s:={ zScr with bits:=(numR (itoa s.bits) 0 255).1 } }:RP),(numR (itoa s.bits) 0 255).2)=_
  rw [n1]; rfl
 have h2:Rd_ ⟨⟨s.bits,⟨0,0,0,0⟩,0,0,[],[],[]⟩,1,0,0,0,0,[]⟩ (zQD zZw [s.c.a,s.c.b,s.c.c,s.c.d]++[10]) ⟨⟨s.bits,s.c,0,0,[],[],[]⟩,2,0,0,0,0,[]⟩:=by
  rw [← zZK _ _ (by decide)]
  have c1:=cl zZw [s.c.a,s.c.b,s.c.c,s.c.d] (clean_of (by decide))
  refine Rd_.line c1 ?_
  unfold zYk
  rw [zXl (by simp) c1,if_neg (show ¬((0:Int) < 0) from by decide),if_pos (show ((1:Int) < 3) from by decide)]
  obtain ⟨p1,p2,p3,p4⟩:=P.c
  have n1:s32 (([zZw]++digW [s.c.a,s.c.b,s.c.c,s.c.d]).drop 1)=([s.c.a,s.c.b,s.c.c,s.c.d],true):=zJs (by simp; omega) (by decide) (by decide)
  unfold zYT
  rw [n1,if_neg (show ¬((1:Int)+1=1) from by decide),if_pos (show ((1:Int)+1=2) from rfl),if_pos ⟨rfl,rfl,rfl⟩]
  rfl
 have h3:Rd_ ⟨⟨s.bits,s.c,0,0,[],[],[]⟩,2,0,0,0,0,[]⟩ (zQD zZ3 [s.tw,s.th]++[10]) ⟨⟨s.bits,s.c,s.tw,s.th,[],[],[]⟩,3,0,0,0,0,[]⟩:=by
  rw [← zZK _ _ (by decide)]
  have c1:=cl zZ3 [s.tw,s.th] (clean_of (by decide))
  refine Rd_.line c1 ?_
  unfold zYk
  rw [zXl (by simp) c1,if_neg (show ¬((0:Int) < 0) from by decide),if_pos (show ((2:Int) < 3) from by decide)]
  have p1:=P.t
  have n1:u32 (([zZ3]++digW [s.tw,s.th]).drop 1)=([s.tw,s.th],true):=zJs (by simp; omega) (by decide) (by decide)
  unfold zYT
  rw [n1,if_neg (show ¬((2:Int)+1=1) from by decide),if_neg (show ¬((2:Int)+1=2) from by decide),if_pos ⟨rfl,rfl,rfl⟩]
  rfl
 have:=(h1.app h2).app h3
 unfold hdTx
 simpa only [List.append_assoc] using this
structure At (p:RP) (x:Scr) (m:Int):Prop where
  s:p.s=x
  hd:p.hd=3
  left:p.left=0
  px:p.px=[]
  part:p.part≤m
theorem jYX {s:Scr} (P:Prt s):∃ q,Rd_ ⟨⟨s.bits,s.c,s.tw,s.th,[],[],[]⟩,3,0,0,0,0,[]⟩ (orTx s) q∧At q ⟨s.bits,s.c,s.tw,s.th,s.ord,[],[]⟩ 1:=by
 unfold orTx
 by_cases h:0 < s.ord.length
 ·rw [if_pos h,← zZK _ _ (by decide)]
  have c1:∀ x∈[zZj]++digW s.ord,zXD x:=fun x hx=>by
   rcases List.mem_append.1 hx with hx | hx
   ·rw [List.mem_singleton.1 hx]; exact clean_of (by decide)
   ·exact zXA _ x hx
  refine ⟨⟨⟨s.bits,s.c,s.tw,s.th,s.ord,[],[]⟩,3,1,0,0,0,[]⟩,Rd_.line c1 ?_,rfl,rfl,rfl,rfl,by show (1:Int)≤1; decide⟩
  have n1:u32 (([zZj]++digW s.ord).drop 1)=(s.ord,true):=zJs P.o (by decide) (by decide)
  unfold zYk
  rw [zXl (by simp) c1,if_neg (show ¬((0:Int) < 0) from by decide),if_neg (show ¬((3:Int) < 3) from by decide),n1]
  rw [if_pos (show wAt ([zZj]++digW s.ord) 0=zZj from rfl)]
  simp [h]
 ·have h0:s.ord=[]:=List.length_eq_zero_iff.1 (by omega)
  rw [if_neg h,h0]
  exact ⟨_,Rd_.nil _,rfl,rfl,rfl,rfl,by show (0:Int)≤1; decide⟩
theorem zGf {p:Px} (h:pxIn p):pixW (digW (smpP p))=(p,true):=by
 obtain ⟨h1,h2,h3,h4,h5⟩:=h
 have n1:zGu (digW (smpP p)) 0 65535=(smpP p,true):=zJs (by unfold smpP; simp; omega) (by decide) (by decide)
 have ha:(digW (smpP p)).all (okN 0 65535)=true:=by
  cases g:(digW (smpP p)).all (okN 0 65535) with
  | true=>rfl
  | false=>rw [zJt g] at n1; cases n1
 rw [zYp ha] at n1
 have e:(digW (smpP p)).map numV=smpP p:=congrArg Prod.fst n1
 unfold pixW
 rw [if_pos ha,e]
 rfl
theorem jQ1 (p:Px):(∀ x∈digW (smpP p),zXD x)∧zQt (zQ4 (digW (smpP p)))=digW (smpP p):=
 ⟨zXA _,zXl (by simp [digW,smpP]) (zXA _)⟩
theorem zHk:∀ (l:List Px) (p:RP),l≠[]→(∀ x∈l,pxIn x)→p.left=l.length →
  Rd_ p (l.flatMap pxTx) { p with left:=0,s:={ p.s with ims:=p.s.ims++[imOf p.w p.h (p.px++l)] },px:=[] }
 | [],_,h,_,_=>absurd rfl h
 | [a],p,_,hI,hl=>by
  have hl:p.left=1:=by simpa using hl
  rw [List.flatMap_cons,List.flatMap_nil,List.append_nil,← zWB]
  refine Rd_.line (jQ1 a).1 ?_
  unfold zYk
  rw [(jQ1 a).2,zGf (hI a (by simp)),if_pos (by omega),if_pos hl]
 | a::b::l,p,_,hI,hl=>by
  rw [List.flatMap_cons]
  have hl:p.left=(l.length:Int)+2:=by rw [hl]; simp; omega
  have h1:Rd_ p (pxTx a) { p with left:=p.left - 1,px:=p.px++[a] }:=by
   rw [← zWB]
   refine Rd_.line (jQ1 a).1 ?_
   unfold zYk
   rw [(jQ1 a).2,zGf (hI a (by simp)),if_pos (by omega),if_neg (by omega)]
  refine h1.app ?_
  have h2:=zHk (b::l) { p with left:=p.left - 1,px:=p.px++[a] } (by simp) (fun x hx=>hI x (by simp [hx])) (by show p.left - 1=_; rw [hl]; simp; omega)
  have e:(p.px++[a])++(b::l)=p.px++(a::b::l):=by simp
  rw [show ({ p with left:=p.left - 1,px:=p.px++[a] }:RP).px++(b::l)=p.px++(a::b::l) from e] at h2
  exact h2
theorem jVg {m:Im} (h:m.formed=true) (k:Lb) (l:List Lb):nz ([k]++digW [m.w,m.h]++l)=([m.w,m.h],true)∧¬16777216 / m.w < m.h:=by
 have hw:=Im.wh h
 have hs:=sizeIm_le' h
 refine ⟨zJs (l:=[m.w,m.h]) (by simp; omega) (by decide) (by decide),?_⟩
 have:=(Int.le_ediv_iff_mul_le (a:=m.h) (b:=16777216) (by omega:0 < m.w)).2 (by rw [Int.mul_comm]; exact hs)
 omega
theorem jYY {p:RP} {x:Scr} {m:Im} (A:At p x 1) (h:imIn m) (hi:x.ims.length < 64):∃ q,Rd_ p (imTx m) q∧At q { x with ims:=x.ims++[m.nrm] } 1:=by
 obtain ⟨hf,hc,hp⟩:=h
 have A3:=A.s
 by_cases hs:m.so=true
 ·rw [← zWA m hs]
  have c1:∀ x∈[zQN]++digW ([m.w,m.h]++smpP m.c),zXD x:=fun x hx=>by
   rcases List.mem_append.1 hx with hx | hx
   ·rw [List.mem_singleton.1 hx]; exact clean_of (by decide)
   ·exact zXA _ x hx
  refine ⟨{ p with part:=1,s:={ p.s with ims:=p.s.ims++[m.nrm] } },Rd_.line c1 ?_,by rw [← A3],A.hd,A.left,A.px,by show (1:Int)≤1; decide⟩
  obtain ⟨n1,n2⟩:=jVg hf zQN (digW (smpP m.c))
  have e:[zQN]++digW ([m.w,m.h]++smpP m.c)=[zQN]++digW [m.w,m.h]++digW (smpP m.c):=rfl
  unfold zYk
  rw [zXl (by simp) c1,if_neg (by rw [A.left]; decide),if_neg (by rw [A.hd]; decide),e]
  rw [if_neg (show ¬wAt ([zQN]++digW [m.w,m.h]++digW (smpP m.c)) 0=zZj from jK8),if_pos (show (wAt ([zQN]++digW [m.w,m.h]++digW (smpP m.c)) 0=zQN∨_) from .inl rfl)]
  unfold zYf
  have c2:¬(1 < p.part∨64≤p.s.ims.length∨([zQN]++digW [m.w,m.h]++digW (smpP m.c)).length < 3):=by
   have:=A.part
   rw [A3]
   rintro (g | g | g)
   ·omega
   ·omega
   ·have e8:([zQN]++digW [m.w,m.h]++digW (smpP m.c)).length=8:=rfl
    omega
  rw [if_neg c2,n1]
  have c3:¬((([m.w,m.h],true):List Int × Bool).2=false∨16777216 / iAt [m.w,m.h] 0 < iAt [m.w,m.h] 1):=by
   rintro (g | g)
   ·cases g
   ·exact n2 g
  rw [if_neg c3,if_pos (show wAt ([zQN]++digW [m.w,m.h]++digW (smpP m.c)) 0=zQN from rfl)]
  rw [show ([zQN]++digW [m.w,m.h]++digW (smpP m.c)).drop 3=digW (smpP m.c) from rfl,zGf hc]
  unfold Im.nrm
  rw [if_pos hs]
  rfl
 ·have hne:m.pixels≠[]:=fun e=>by
   have h1:=Im.pixels_len hf
   have h2:=Im.count_pos hf
   have hw:=Im.wh hf
   rw [e] at h1
   have:=Int.mul_pos (a:=m.w) (b:=m.h) (by omega) (by omega)
   simp at h1; omega
  have eT:imTx m=zZc ([zQP]++digW [m.w,m.h])++m.pixels.flatMap pxTx:=by
   unfold imTx; rw [if_neg hs,zZK _ _ (by decide)]
  have c1:∀ x∈[zQP]++digW [m.w,m.h],zXD x:=fun x hx=>by
   rcases List.mem_append.1 hx with hx | hx
   ·rw [List.mem_singleton.1 hx]; exact clean_of (by decide)
   ·exact zXA _ x hx
  have h1:Rd_ p (zZc ([zQP]++digW [m.w,m.h])) { p with part:=1,w:=m.w,h:=m.h,left:=m.w*m.h }:=by
   refine Rd_.line c1 ?_
   obtain ⟨n1,n2⟩:=jVg hf zQP []
   rw [List.append_nil] at n1
   unfold zYk
   rw [zXl (by simp) c1,if_neg (by rw [A.left]; decide),if_neg (by rw [A.hd]; decide)]
   rw [if_neg (show ¬wAt ([zQP]++digW [m.w,m.h]) 0=zZj from (by decide:zQP≠zZj)),if_pos (show (_∨wAt ([zQP]++digW [m.w,m.h]) 0=zQP) from .inr rfl)]
   unfold zYf
   have c2:¬(1 < p.part∨64≤p.s.ims.length∨([zQP]++digW [m.w,m.h]).length < 3):=by
    have:=A.part
    rw [A3]
    rintro (g | g | g)
    ·omega
    ·omega
    ·simp [digW] at g
   rw [if_neg c2,n1]
   have c3:¬((([m.w,m.h],true):List Int × Bool).2=false∨16777216 / iAt [m.w,m.h] 0 < iAt [m.w,m.h] 1):=by
    rintro (g | g)
    ·cases g
    ·exact n2 g
   rw [if_neg c3,if_neg (show ¬wAt ([zQP]++digW [m.w,m.h]) 0=zQN from (by decide:zQP≠zQN))]
   rfl
  have h2:=zHk m.pixels { p with part:=1,w:=m.w,h:=m.h,left:=m.w*m.h } hne hp (Im.pixels_len hf).symm
  rw [eT]
  refine ⟨_,h1.app h2,?_,A.hd,rfl,rfl,by show (1:Int)≤1; decide⟩
  show ({ p.s with ims:=p.s.ims++[imOf m.w m.h (p.px++m.pixels)] }:Scr)=_
  rw [A.px,A3,List.nil_append]
  unfold Im.nrm
  rw [if_neg hs]
theorem zHl:∀ (l:List Im) {p:RP} {x:Scr},At p x 1→(∀ m∈l,imIn m)→x.ims.length+l.length≤64→∃ q,Rd_ p (l.flatMap imTx) q∧At q { x with ims:=x.ims++l.map Im.nrm } 1
 | [],p,x,A,_,_=>⟨p,Rd_.nil p,by rw [A.s]; simp,A.hd,A.left,A.px,A.part⟩
 | m::l,p,x,A,h,hl=>by
  rw [List.length_cons] at hl
  obtain ⟨q,h1,A1⟩:=jYY A (h m (by simp)) (by omega)
  obtain ⟨r,h2,A2⟩:=zHl l A1 (fun y hy=>h y (by simp [hy])) (by simp; omega)
  refine ⟨r,?_,?_⟩
  ·rw [List.flatMap_cons]; exact h1.app h2
  ·have e:({ x with ims:=x.ims++(m::l).map Im.nrm }:Scr)={ x with ims:=(x.ims++[m.nrm])++l.map Im.nrm }:=by simp
   rw [e]
   exact A2
theorem jY8 {o:Oq} (hk:opOk o=true) (hp:prtO o=true) (hq:0≤o.opac∧o.opac≤65535) :
  ∃ ws,opLn o=zZc ws∧ws≠[]∧(∀ x∈ws,zXD x)∧opR ws=(o,true)∧wAt ws 0≠zZj∧wAt ws 0≠zQN∧wAt ws 0≠zQP:=by
 have hf:=hk
 unfold opOk at hf
 rw [Bool.and_eq_true,zYs,zYs] at hf
 obtain ⟨f1,f2⟩:=hf
 have f_i:=f1 o.image (by simp)
 have f_m:=f1 o.mask (by simp)
 have f_x:=f2 o.x (by simp)
 have f_y:=f2 o.y (by simp)
 have f_mx:=f2 o.mx (by simp)
 have f_my:=f2 o.my (by simp)
 have n_i:=zXN f_i.1 f_i.2 (by decide) (by decide)
 have n_m:=zXN f_m.1 f_m.2 (by decide) (by decide)
 have n_x:=zXN f_x.1 f_x.2 (by decide) (by decide)
 have n_y:=zXN f_y.1 f_y.2 (by decide) (by decide)
 have n_mx:=zXN f_mx.1 f_mx.2 (by decide) (by decide)
 have n_my:=zXN f_my.1 f_my.2 (by decide) (by decide)
 have n_o:=zHs hq.1 hq.2 (by decide) (by decide)
 have v:∀ {x:Int},-2147483648≤x→x≤2147483647→numV (itoa x)=x:=fun h0 h1=>(zVX (by omega) (by omega)).2
 have hw:IntKind.wrap .u16 o.opac=o.opac:=by simp [IntKind.wrap,IntKind.bits,IntKind.signed]; omega
 unfold prtO at hp
 by_cases h1:o.kind=1
 ·rw [if_pos h1] at hp
  simp only [Bool.and_eq_true,Bool.not_eq_true',decide_eq_true_eq] at hp
  obtain ⟨⟨⟨p1,p2⟩,p3⟩,p4⟩:=hp
  obtain ⟨c3,e3⟩:=jJP p3
  obtain ⟨c4,e4⟩:=jZi p4
  refine ⟨_,(zUJ o h1).symm,by simp,fun x hx=>?_,?_,(by decide:zZV≠zZj),(by decide:zZV≠zQN),(by decide:zZV≠zQP)⟩
  ·rcases List.mem_append.1 hx with hx | hx
   ·rcases List.mem_append.1 hx with hx | hx
    ·rw [List.mem_singleton.1 hx]; exact clean_of (by decide)
    ·exact zXA _ x hx
   ·simp at hx
    rcases hx with rfl | rfl
    ·exact c3
    ·exact c4
  ·show opR [zZV,itoa o.image,itoa o.x,itoa o.y,itoa o.mask,itoa o.mx,itoa o.my,itoa o.opac,ofS (zQo o.oper),ofS (zQf o.mode)]=_
   have hC:zZV=zZV∧[itoa o.image,itoa o.mask].all (okN 0 255)=true∧[itoa o.x,itoa o.y,itoa o.mx,itoa o.my].all (okN (-2147483648) 2147483647)=true:=⟨rfl,by simp [n_i,n_m],by simp [n_x,n_y,n_mx,n_my]⟩
   refine (if_pos hC).trans ?_
   unfold zW9 zGZ
   have k_o:okN 0 65535 (itoa o.opac)=true:=zXN hq.1 hq.2 (by decide) (by decide)
   rw [n_o,e3,e4,k_o,v (by omega) (by omega),v (by omega) (by omega),v (by omega) (by omega),v (by omega) (by omega),v (by omega) (by omega),v (by omega) (by omega),hw]
   refine Prod.ext ?_ rfl
   rcases o with ⟨k,im,x,y,m,mx,my,q,op,md,is,kn⟩
   simp only at h1 p1 p2
   subst h1; subst p1; subst p2
   rfl
 ·rw [if_neg h1] at hp
  by_cases h2:o.kind=2
  ·rw [if_pos h2] at hp
   simp only [Bool.and_eq_true,Bool.not_eq_true',decide_eq_true_eq] at hp
   obtain ⟨⟨⟨⟨p1,p2⟩,p2'⟩,p3⟩,p4⟩:=hp
   obtain ⟨c3,e3⟩:=jJP p3
   obtain ⟨c4,e4⟩:=jZi p4
   refine ⟨_,(zUI o h2).symm,by simp,fun x hx=>?_,?_,(by decide:zZ0≠zZj),(by decide:zZ0≠zQN),(by decide:zZ0≠zQP)⟩
   ·rcases List.mem_append.1 hx with hx | hx
    ·rcases List.mem_append.1 hx with hx | hx
     ·rcases List.mem_append.1 hx with hx | hx
      ·rw [List.mem_singleton.1 hx]; exact clean_of (by decide)
      ·exact zXA _ x hx
     ·simp at hx
      rcases hx with rfl | rfl
      ·exact c3
      ·exact c4
    ·exact zXA _ x hx
   ·show opR [zZ0,itoa o.mask,itoa o.mx,itoa o.my,itoa o.opac,ofS (zQo o.oper),ofS (zQf o.mode),itoa (bitN o.iso),itoa (bitN o.kno)]=_
    have b:∀ z:Bool,okN 0 1 (itoa (bitN z))=true∧decide (numV (itoa (bitN z))=1)=z:=fun z=>by
     refine ⟨zXN (by cases z <;> decide) (by cases z <;> decide) (by decide) (by decide),?_⟩
     rw [v (by cases z <;> decide) (by cases z <;> decide)]
     cases z <;> rfl
    have hC:zZ0=zZ0∧okN 0 255 (itoa o.mask)=true∧[itoa o.mx,itoa o.my].all (okN (-2147483648) 2147483647)=true∧[itoa (bitN o.iso),itoa (bitN o.kno)].all (okN 0 1)=true:=⟨rfl,n_m,by simp [n_mx,n_my],by simp [(b o.iso).1,(b o.kno).1]⟩
    refine (if_pos hC).trans ?_
    unfold zW9 zGZ
    have k_o:okN 0 65535 (itoa o.opac)=true:=zXN hq.1 hq.2 (by decide) (by decide)
    rw [n_o,e3,e4,k_o,(b o.iso).2,(b o.kno).2,v (by omega) (by omega),v (by omega) (by omega),v (by omega) (by omega),hw]
    refine Prod.ext ?_ rfl
    rcases o with ⟨k,im,x,y,m,mx,my,q,op,md,is,kn⟩
    simp only at h2 p1 p2 p2'
    subst h2; subst p1; subst p2; subst p2'
    rfl
  ·rw [if_neg h2] at hp
   by_cases h3:o.kind=3
   ·rw [if_pos h3] at hp
    have:=of_decide_eq_true hp
    refine ⟨_,(zHx o h1 h2).symm,by simp,fun x hx=>?_,?_,(by decide:sPop≠zZj),(by decide:sPop≠zQN),(by decide:sPop≠zQP)⟩
    ·rw [List.mem_singleton.1 hx]; exact clean_of (by decide)
    ·rw [this]; rfl
   ·rw [if_neg h3] at hp; cases hp
theorem jVD {p:RP} {x:Scr} {o:Oq} (A:At p x 2) (hk:opOk o=true) (hp:prtO o=true) (hq:0≤o.opac∧o.opac≤65535) (hl:x.ops.length < 4096):∃ q,Rd_ p (opLn o) q∧At q { x with ops:=x.ops++[o] } 2:=by
 obtain ⟨ws,e,hne,hc,hr,h1,h2,h3⟩:=jY8 hk hp hq
 have A3:=A.s
 rw [e]
 refine ⟨{ p with part:=2,s:={ p.s with ops:=p.s.ops++[o] } },Rd_.line hc ?_,by rw [← A3],A.hd,A.left,A.px,by show (2:Int)≤2; decide⟩
 unfold zYk
 rw [zXl hne hc,if_neg (by rw [A.left]; decide),if_neg (by rw [A.hd]; decide),if_neg h1,if_neg (fun g=>g.elim h2 h3),hr,A3,decide_eq_true hl]
 rfl
theorem jJK:∀ (l:List Oq) {p:RP} {x:Scr},At p x 2→(∀ o∈l,(opOk o=true∧prtO o=true)∧0≤o.opac∧o.opac≤65535)→x.ops.length+l.length≤4096→∃ q,Rd_ p (l.flatMap opLn) q∧At q { x with ops:=x.ops++l } 2
 | [],p,x,A,_,_=>⟨p,Rd_.nil p,by rw [A.s]; simp,A.hd,A.left,A.px,A.part⟩
 | o::l,p,x,A,h,hl=>by
  rw [List.length_cons] at hl
  have ho:=h o (by simp)
  obtain ⟨q,h1,A1⟩:=jVD A ho.1.1 ho.1.2 ho.2 (by omega)
  obtain ⟨r,h2,A2⟩:=jJK l A1 (fun y hy=>h y (by simp [hy])) (by simp; omega)
  refine ⟨r,?_,?_⟩
  ·rw [List.flatMap_cons]; exact h1.app h2
  ·have e:({ x with ops:=x.ops++o::l }:Scr)={ x with ops:=(x.ops++[o])++l }:=by simp
   rw [e]
   exact A2
theorem jXO {s:Scr} (P:Prt s) (hI:∀ m∈s.ims,imIn m) (hq:∀ o∈s.ops,0≤o.opac∧o.opac≤65535):∃ q,Rd_ zRP (fmtT s) q∧At q s.norm 2:=by
 have h1:=jKi P
 obtain ⟨q2,h2,A2⟩:=jYX P
 obtain ⟨q3,h3,A3⟩:=zHl s.ims A2 hI (by have:=P.il; simp; omega)
 obtain ⟨q4,h4,A4⟩:=jJK s.ops (⟨A3.s,A3.hd,A3.left,A3.px,by have:=A3.part; omega⟩:At q3 _ 2) (fun o ho=>⟨P.op o ho,hq o ho⟩) (by have:=P.pl; simp; omega)
 refine ⟨q4,?_,?_⟩
 ·unfold fmtT
  exact ((h1.app h2).app h3).app h4
 ·have e:(⟨s.bits,s.c,s.tw,s.th,s.ord,[]++s.ims.map Im.nrm,[]++s.ops⟩:Scr)=s.norm:=rfl
  rw [← e]
  exact A4
theorem jJf {m:Im} (hf:m.formed=true):zXm m.nrm=zXm m∧m.nrm.formed=true:=by
 unfold Im.nrm zXm
 by_cases hs:m.so=true
 ·rw [if_pos hs,if_pos hs]; exact ⟨rfl,zZ9 _ (Im.formed_of hf).1⟩
 ·rw [if_neg hs,if_neg hs,zKo (Im.pixels_ok hf)]; exact ⟨rfl,zKn (Im.pixels_ok hf)⟩
theorem zHt:∀ {l:List Im},(∀ m∈l,m.formed=true)→zQ0 (l.map Im.nrm)=zQ0 l∧(l.map Im.nrm).all Im.formed=true
 | [],_=>⟨rfl,rfl⟩
 | m::l,h=>by
  obtain ⟨h1,h2⟩:=jJf (h m (by simp))
  obtain ⟨h3,h4⟩:=zHt (l:=l) fun y hy=>h y (by simp [hy])
  rw [List.map_cons,zQ0,zQ0,h1,h3,List.all_cons,h2,h4]
  exact ⟨rfl,rfl⟩
theorem jKx {s:Scr} (h:zZU s=true):zZU s.norm=true:=by
 unfold zZU at h ⊢
 simp only [Bool.and_eq_true] at h
 obtain ⟨⟨⟨h1,h2⟩,h3⟩,h4⟩:=h
 obtain ⟨h5,h6⟩:=zHt (l:=s.ims) (List.all_eq_true.1 h2)
 have e1:zX6 s.norm=zX6 s:=by unfold zX6 Scr.norm; simp
 have e2:zXp s.norm s.norm.ims=zXp s s.ims:=by unfold zXp; show _+zQ0 (s.ims.map Im.nrm)=_; rw [h5]; rfl
 rw [e1,e2,h1,h4,show s.norm.ims.all Im.formed=true from h6,show s.norm.ops.all opOk=true from h3]
 rfl
theorem zHp {s:Scr} (h:zYl s=true) (hI:∀ m∈s.ims,imIn m) (hq:∀ o∈s.ops,0≤o.opac∧o.opac≤65535):zKJ (fmtT s)=(s.norm,0,0):=by
 obtain ⟨q,h1,A⟩:=jXO (zUB h) hI hq
 have:=h1 0 []
 rw [List.append_nil] at this
 unfold zKJ
 rw [this,rGo,if_neg (by rw [A.hd,A.left]; decide),A.s,if_pos (jKx (Bool.and_eq_true_iff.1 h).1)]
theorem jYs {bits:Int} {mn:Nat} {o:Oq} {st:List Oq} (h:errO bits mn o st=0):prtO o=true:=by
 unfold errO at h
 split at h
 ·cases h
 rename_i k1
 split at h
 ·cases h
 rename_i k2
 split at h
 ·rename_i k3
  have:o=popO:=by
   unfold Oq.fields at k2
   rw [if_pos k3] at k2
   simpa using k2
  subst this
  decide
 rename_i k3
 split at h
 ·cases h
 split at h
 ·cases h
 split at h
 ·cases h
 split at h
 ·cases h
 rename_i k7
 split at h
 ·cases h
 rename_i k8
 have k7:=Classical.not_not.1 k7
 have k8:=Classical.not_not.1 k8
 have k1:=Classical.not_not.1 k1
 unfold Oq.fields at k2
 rw [if_neg k3] at k2
 unfold prtO
 rw [decide_eq_true k7,decide_eq_true k8]
 rcases k1 with k1 | k1 | k1
 ·rw [if_pos k1]
  revert k2
  cases o.iso <;> cases o.kno <;> simp [k1]
 ·rw [if_neg (by omega),if_pos k1]
  by_cases z1:o.image=0 <;> by_cases z2:o.x=0 <;> by_cases z3:o.y=0 <;> simp_all
 ·exact absurd k1 k3
theorem Scn.ops_prt (s:Scn):s.ops.all prtO=true:=by
 rw [List.all_eq_true]
 intro o ho
 obtain ⟨st,h⟩:=jQu s.ops_ok o ho
 exact jYs h
theorem Scn.prt (s:Scn) {ms:List Im} (h1:ms.length≤64) (h2:∀ m∈ms,m.formed=true∧m.w≤100∧m.h≤100):zYl ⟨s.bits,s.c,s.gtw,s.gth,s.ord,ms,s.ops⟩=true:=by
 unfold zYl
 rw [s.enc h1 h2 (by have:=s.ops_len; omega) s.ops_fit,show (⟨s.bits,s.c,s.gtw,s.gth,s.ord,ms,s.ops⟩:Scr).ops.all prtO=true from s.ops_prt]
 rfl
theorem Scn.prt_scr (s:Scn):zYl s.scr=true:=s.prt (by have:=s.ims_len; omega) fun m hm=>⟨(s.fine m hm).1,(s.fine m hm).2.1⟩
theorem Scn.fmt (s:Scn):fmtR s.scr=(fmtT s.scr,0):=by unfold fmtR; rw [if_pos s.prt_scr]
theorem Scn.read (s:Scn):zKJ (fmtT s.scr)=(s.scr.norm,0,0):=zHp s.prt_scr s.ims_in s.ops_opac
theorem jXa {m:Im} (h:imIn m) (hm:m.w≤100∧m.h≤100):(imTx m).length≤1110300:=by
 have hw:=Im.wh h.1
 have hpx:=Im.pixels_len h.1
 have hle:m.w*m.h≤10000:=by
  have h1:=Int.mul_le_mul_of_nonneg_left hm.2 (by omega:0≤m.w)
  omega
 have l1:(zQD zQN [m.w,m.h]).length≤5+22*2:=zZX (fun n hn=>by
  simp only [List.mem_cons,List.not_mem_nil,or_false] at hn
  omega) rfl
 have l3:(zQD zQP [m.w,m.h]).length≤5+22*2:=zZX (fun n hn=>by
  simp only [List.mem_cons,List.not_mem_nil,or_false] at hn
  omega) rfl
 have hc:=h.2.1
 obtain ⟨c1,c2,c3,c4,c5⟩:=hc
 have l2:(zQD (zQD zQN [m.w,m.h]) (smpP m.c)).length≤(zQD zQN [m.w,m.h]).length+22*5:=zZX (fun x hx=>by
  simp only [smpP,List.mem_cons,List.not_mem_nil,or_false] at hx
  omega) rfl
 have l4:=zKp (f:=pxTx) (B:=111) (l:=m.pixels) fun p hp=>zVV (h.2.2 p hp)
 unfold imTx
 split
 ·simp only [List.length_append,List.length_cons,List.length_nil]; omega
 ·simp only [List.length_append,List.length_cons,List.length_nil]; omega
theorem Scn.fmt_len (s:Scn):(fmtT s.scr).length≤5000000:=by
 have P:=zUB s.prt_scr
 have h:=zV0 P
 obtain ⟨p1,p2,p3,p4,p5,p6,p7,p8,p9⟩:=P
 have li:=s.ims_len
 have lo:=s.ops_len
 have ld:=s.ord_len
 have h1:=zKp (f:=imTx) (B:=1110300) (l:=s.ims) fun m hm=>jXa (s.ims_in m hm) (s.fine m hm).2.1
 have h2:=zKp (f:=opLn) (B:=301) (l:=s.ops) fun o ho=>by
  have:=zGi (p9 o ho).1 (s.ops_opac o ho)
  unfold opLn
  simp only [List.length_append,List.length_cons,List.length_nil]
  omega
 have h3:(orTx s.scr).length≤5+22*s.ord.length+1:=by
  unfold orTx
  split
  ·simp only [List.length_append,List.length_cons,List.length_nil]; exact Nat.succ_le_succ h.2.2.2
  ·simp
 have h4:=h.1
 have h5:=h.2.1
 have h6:=h.2.2.1
 unfold fmtT hdTx
 simp only [List.length_append,List.length_cons,List.length_nil]
 have e1:s.scr.ims=s.ims:=rfl
 have e2:s.scr.ops=s.ops:=rfl
 rw [e1,e2]
 omega
theorem jVc {q:RP} {x:Scr} (A:At q x 2) {w:Lb} (h1:wAt (zQt w) 0≠zZj) (h2:wAt (zQt w) 0≠zQN) (h3:wAt (zQt w) 0≠zQP) (h4:(opR (zQt w)).2=false):(zYk q w).2=false:=by
 unfold zYk
 rw [if_neg (by rw [A.left]; decide),if_neg (by rw [A.hd]; decide),if_neg h1,if_neg (fun g=>g.elim h2 h3),h4]
 rfl
def badW (w:Lb):Bool:=decide (wAt (zQt w) 0≠zZj) && decide (wAt (zQt w) 0≠zQN) && decide (wAt (zQt w) 0≠zQP) && !(opR (zQt w)).2 && decide ((10:UInt8) ∉ w)
theorem Scn.bad_line (s:Scn) {w:Lb} (h:badW w=true) (rest:Lb):zKJ (fmtT s.scr++(w++10::rest))=(zScr,((nl (fmtT s.scr):Nat):Int)+1,19):=by
 obtain ⟨q,h1,A⟩:=jXO (zUB s.prt_scr) s.ims_in s.ops_opac
 unfold badW at h
 simp only [Bool.and_eq_true,decide_eq_true_eq,Bool.not_eq_true'] at h
 obtain ⟨⟨⟨⟨b1,b2⟩,b3⟩,b4⟩,b5⟩:=h
 unfold zKJ
 rw [h1,jXQ b5,List.nil_append,jVc A b1 b2 b3 b4,if_neg (by decide),Int.zero_add]
theorem jJL {p:RP} {n:Int}:∀ {t acc:Lb},(10:UInt8) ∉ t→acc++t≠[]→rGo p n acc t=(zScr,n+1,19)
 | [],acc,_,h=>by rw [List.append_nil] at h; rw [rGo,if_pos (.inl h)]
 | c::t,acc,h,ha=>by
  simp only [List.mem_cons,not_or] at h
  rw [rGo,if_neg (fun e=>h.1 e.symm),jJL h.2 (by simp)]
theorem Scn.open_line (s:Scn):zKJ (fmtT s.scr++sPop)=(zScr,((nl (fmtT s.scr):Nat):Int)+1,19):=by
 obtain ⟨q,h1,A⟩:=jXO (zUB s.prt_scr) s.ims_in s.ops_opac
 unfold zKJ
 rw [h1,jJL (by decide) (by decide),Int.zero_add]
def zH5:Lb:=[98,105,116,115,32,56,10,99,97,110,118,97,115,32,45,49,32,48,32,50,32,50,10,116,105,108,101,115,32,49,32,50,10,115,111,108,105,100,32,51,32,50,32,49,32,50,32,51,32,52,32,53,10,100,114,97,119,32,48,32,45,49,32,50,32,48,32,48,32,48,32,50,53,53,32,115,114,99,45,111,118,101,114,32,110,111,114,109,97,108,10]
def awS:Scr:=⟨8,⟨-1,0,2,2⟩,1,2,[],[zQi 3 2 ⟨1,2,3,4,5⟩],[⟨1,0,-1,2,0,0,0,255,4,1,false,false⟩]⟩
theorem it (w:Lb) (v:Int) (h:zYy w=true) (hv:numV w=v):itoa v=w:=hv ▸ zU0 h
theorem jVx:ofS (zQo 4)=[115,114,99,45,111,118,101,114]:=by decide +kernel
theorem jJz:ofS (zQf 1)=[110,111,114,109,97,108]:=by decide +kernel
theorem jJ0:zYl awS=true:=by decide +kernel
theorem jJ3:fmtT awS=zH5:=by
 have e0:=it [48] 0 rfl rfl
 have e1:=it [49] 1 rfl rfl
 have e2:=it [50] 2 rfl rfl
 have e3:=it [51] 3 rfl rfl
 have e4:=it [52] 4 rfl rfl
 have e5:=it [53] 5 rfl rfl
 have e8:=it [56] 8 rfl rfl
 have e9:=it [45,49] (-1) rfl rfl
 have e255:=it [50,53,53] 255 rfl rfl
 simp [fmtT,hdTx,orTx,imTx,opLn,opTx,zYg,awS,zQi,zQD,smpP,zX3,zZw,zZ3,zQN,zZV,zH5,jVx,jJz,e0,e1,e2,e3,e4,e5,e8,e9,e255]
theorem jK4:fmtR awS=(zH5,0):=by unfold fmtR; rw [if_pos jJ0,jJ3]
theorem jVL:imIn (zQi 3 2 ⟨1,2,3,4,5⟩):=by
 refine jYf (by decide +kernel) fun p hp=>?_
 have:p=⟨1,2,3,4,5⟩:=by
  rw [Im.pixels_so (by decide +kernel) rfl] at hp
  exact List.eq_of_mem_replicate hp
 subst this
 exact ⟨by decide,by decide,by decide,by decide,by decide⟩
theorem jJ2:∀ m∈awS.ims,imIn m:=fun m hm=>by rw [List.mem_singleton.1 hm]; exact jVL
theorem jJy:zKJ zH5=(awS,0,0):=by
 rw [← jJ3,zHp jJ0]
 ·rfl
 ·exact jJ2
 ·intro o ho
  rw [List.mem_singleton.1 ho]
  decide
theorem zHX:zZn zH5=(awS,0,0):=by rw [zGg,jJy]
theorem jJ1:zZn []=(zScr,1,19):=rfl
end
section
attribute [local irreducible] Ans AnsO AnsG AnsN AnsI
def gZ47 (xs:List RV):Option RV:=match xs with | [.d (.str s)]=>let a:=(zZn (ofS s)); some (RV.tup [RV.agg [dJ a.1.bits,dJ a.1.c.a,dJ a.1.c.b,dJ a.1.c.c,dJ a.1.c.d,dJ a.1.tw,dJ a.1.th,dS a.1.ord.length (is a.1.ord),dS a.1.ims.length (ims a.1.ims),dS a.1.ops.length (ops a.1.ops)],rJ a.2.1,rJ a.2.2]) | _=>none
def gZ48 (xs:List RV):Option RV:=match xs with | [.agg [.int _ bits,.int _ cx0,.int _ cy0,.int _ cx1,.int _ cy1,.int _ tw,.int _ th,.sl on oxs,.sl mn mxs,.sl pn pxs]]=>some (RV.tup [RV.d (DV.str (toS (fmtR (⟨bits,⟨cx0,cy0,cx1,cy1⟩,tw,th,ints oxs,zYu mxs,zZ8 pxs⟩:Scr)).1)),rJ (fmtR (⟨bits,⟨cx0,cy0,cx1,cy1⟩,tw,th,ints oxs,zYu mxs,zZ8 pxs⟩:Scr)).2]) | _=>none
def jVs:Gam where
 pure:=fun f xs=>
  if f=15 then gZ47 xs else
  if f=11 then gZ48 xs else
  none
 modes:=fun f=>
  none
 proc:=fun f xs bs=>
  none
 iter:=fun f cs=>
  none
def zK3:Ann:=Ann.leaf
theorem zH0:vcg prog jVs 63 (zVG Tryz.f13) (zK3 ) kn0 (zVN []) (post prog Tryz.f13.results.toList (·=RV.d (dQ true))) =
 (let c:=(RV.d (dQ false)=RV.d (dQ true)); let f:=(⟨#[98,105,116,115,32,56,10,99,97,110,118,97,115,32,45,49,32,48,32,50,32,50,10,116,105,108,101,115,32,49,32,50,10,115,111,108,105,100,32,51,32,50,32,49,32,50,32,51,32,52,32,53,10,100,114,97,119,32,48,32,45,49,32,50,32,48,32,48,32,48,32,50,53,53,32,115,114,99,45,111,118,101,114,32,110,111,114,109,97,108,10]⟩:ByteArray); let a:=(zZn (ofS f)); let g:=(a.1.ops.length:Int); let d:=(ops a.1.ops); let h:=(nAt d 2); let e:=(fmtR (⟨a.1.bits,⟨a.1.c.a,a.1.c.b,a.1.c.c,a.1.c.d⟩,a.1.tw,a.1.th,ints (is a.1.ord),zYu (ims a.1.ims),zZ8 d⟩:Scr)); let i:=((toS e.1).toList==f.toList); let b:=(zZn (ofS (⟨#[]⟩:ByteArray))); let j:=[dJ a.1.bits,dJ a.1.c.a,dJ a.1.c.b,dJ a.1.c.c,dJ a.1.c.d,dJ a.1.tw,dJ a.1.th,dS a.1.ord.length (is a.1.ord),dS a.1.ims.length (ims a.1.ims),dS a.1.ops.length d]; tU3 ((Ans prog 15 [RV.d (DV.str f)] (RV.tup [RV.agg j,rJ a.2.1,rJ a.2.2]))∧True∧tU8 ((Ans prog 11 [RV.agg j] (RV.tup [RV.d (DV.str (toS e.1)),rJ e.2]))∧tU5 ((Ans prog 15 [RV.d (DV.str (⟨#[]⟩:ByteArray))] (RV.tup [RV.agg [dJ b.1.bits,dJ b.1.c.a,dJ b.1.c.b,dJ b.1.c.c,dJ b.1.c.d,dJ b.1.tw,dJ b.1.th,dS b.1.ord.length (is b.1.ord),dS b.1.ims.length (ims b.1.ims),dS b.1.ops.length (ops b.1.ops)],rJ b.2.1,rJ b.2.2]))∧tU3 (tU8 (((a.2.2==0)=true→tU4 (((a.2.1==0)=true→tU6 (((g==1)=true→tU2 ((0≤(0:Int)∧(0:Int) < g∧0 < d.length)∧True∧((d[2]?=some (dJ h))∧True)∧tU3 (((h==(-1:Int))=true→tU4 (((e.2==0)=true→tU5 ((i=true→tU4 (((b.2.2==19)=true→tU4 (RV.d (dQ (b.2.1==1))=RV.d (dQ true)))∧((b.2.2==19)=(!true)→tU2 c)))∧(i=(!true)→tU4 c)))∧((e.2==0)=(!true)→tU6 c)))∧((h==(-1:Int))=(!true)→tU8 c))))∧((g==1)=(!true)→tU2 (tU8 c))))∧((a.2.1==0)=(!true)→tU4 (tU8 c))))∧((a.2.2==0)=(!true)→tU6 (tU8 c)))))))):=by kernel_rfl
theorem zGV:Ans prog 13 [] (RV.d (dQ true)):=
 zQj (Γ:=jVs) (zK3 ) zQy Tryz.func13 rfl (Nat.le_of_ble_eq_true rfl) fun hwf=>by
  refine Eq.mpr (zH0 ) ?_
  delta tU2 tU3 tU4 tU5 tU6 tU8 dJ dQ dS rJ
  simp only [sS]
  have f:=zV5 awS (fun m hm=>by rw [List.mem_singleton.1 hm]; exact zYQ _ _ _) (fun m hm _=>jJ2 m hm) (fun o ho=>by rw [List.mem_singleton.1 ho]; decide) (by decide)
  have p:=zXJ zH5 (by decide)
  have q:=zXJ [] (by decide)
  have hW:(⟨#[98,105,116,115,32,56,10,99,97,110,118,97,115,32,45,49,32,48,32,50,32,50,10,116,105,108,101,115,32,49,32,50,10,115,111,108,105,100,32,51,32,50,32,49,32,50,32,51,32,52,32,53,10,100,114,97,119,32,48,32,45,49,32,50,32,48,32,48,32,48,32,50,53,53,32,115,114,99,45,111,118,101,114,32,110,111,114,109,97,108,10]⟩:ByteArray)=toS zH5:=rfl
  have hE:(⟨#[]⟩:ByteArray)=toS []:=rfl
  simp only [zQX,zHX,jJ1] at p q
  simp only [hW,hE,zQX,zHX,jJ1,zQM,zZx,zZe]
  have eS:(⟨awS.bits,⟨awS.c.a,awS.c.b,awS.c.c,awS.c.d⟩,awS.tw,awS.th,awS.ord,awS.ims,awS.ops⟩:Scr)=awS:=rfl
  simp only [eS,jK4] at f ⊢
  refine ⟨p,f,q,fun _=>⟨fun _=>⟨fun _=>⟨⟨by decide,by decide,by decide⟩,rfl,fun _=>⟨fun _=>⟨fun _=>⟨fun _=>rfl,fun h=>absurd h (by decide)⟩,fun h=>?_⟩,fun h=>absurd h (by decide)⟩,fun h=>absurd h (by decide)⟩,fun h=>absurd h (by decide)⟩,fun h=>absurd h (by decide)⟩,fun h=>absurd h (by decide)⟩
  rw [beq_self_eq_true] at h
  cases h
end
def zZZ (P:Program) (ls:List TypeId) (n:Nat) (xs:List DV):Prop:=
 xs.length=n*ls.length∧∀ (j:Nat) d,xs[j]?=some d→∃ t',ls[j % ls.length]?=some t'∧∃ q,zXe P q t' d
theorem zZZ.at_ {P:Program} {ls:List TypeId} {n:Nat} {xs:List DV} (h:zZZ P ls n xs) {k r:Nat} {t:TypeId} (hk:k < n) (hr:ls[r]?=some t):∃ d q,xs[k*ls.length+r]?=some d∧zXe P q t d:=by
 obtain ⟨hn,hx⟩:=h
 have hr':r < ls.length:=(List.getElem?_eq_some_iff.1 hr).1
 have hle:(k+1)*ls.length≤n*ls.length:=Nat.mul_le_mul_right _ (by omega)
 rw [Nat.add_mul] at hle
 have hj:k*ls.length+r < xs.length:=by omega
 obtain ⟨t',a,q,b⟩:=hx _ _ (List.getElem?_eq_getElem hj)
 rw [Nat.mul_comm k,Nat.mul_add_mod,Nat.mod_eq_of_lt hr',hr] at a
 injection a with a
 subst a
 exact ⟨_,q,List.getElem?_eq_getElem hj,b⟩
theorem zZZ.int {P:Program} {ls:List TypeId} {n:Nat} {xs:List DV} (h:zZZ P ls n xs) {k r:Nat} {t:TypeId} {kk:IntKind} (hk:k < n) (hr:ls[r]?=some t) (hu:P.underlying t=some (.int kk)):xs[k*ls.length+r]?=some (.int kk (nAt xs (k*ls.length+r))):=by
 obtain ⟨d,q,e,b⟩:=h.at_ hk hr
 obtain ⟨v,rfl⟩:=b.int hu
 simp only [nAt,e]
theorem zZZ.bool {P:Program} {ls:List TypeId} {n:Nat} {xs:List DV} (h:zZZ P ls n xs) {k r:Nat} {t:TypeId} (hk:k < n) (hr:ls[r]?=some t) (hu:P.underlying t=some .bool):xs[k*ls.length+r]?=some (.bool (bAt xs (k*ls.length+r))):=by
 obtain ⟨d,q,e,b⟩:=h.at_ hk hr
 obtain ⟨v,rfl⟩:=b.bool hu
 simp only [bAt,e]
theorem zZZ.sl {P:Program} {ls:List TypeId} {n:Nat} {xs:List DV} (h:zZZ P ls n xs) {k r:Nat} {t e:TypeId} {ms:List TypeId} (hk:k < n) (hr:ls[r]?=some t) (hu:P.underlying t=some (.slice e)) (hl:lv P e=some ms) :
  xs[k*ls.length+r]?=some (.sl (lAt xs (k*ls.length+r)) (cAt xs (k*ls.length+r)))∧zZZ P ms (lAt xs (k*ls.length+r)) (cAt xs (k*ls.length+r)):=by
 obtain ⟨d,q,e1,b⟩:=h.at_ hk hr
 obtain ⟨m,ys,rfl,_,h1,h2⟩:=b.slice hu hl
 simp only [lAt,cAt,e1]
 exact ⟨trivial,h1,h2⟩
theorem zZZ.ints {P:Program} {t:TypeId} {n:Nat} {xs:List DV} (h:zZZ P [t] n xs) (hu:P.underlying t=some (.int .i64)):xs=is (ints xs)∧n=xs.length:=
 jJU (by have:=h.1; simpa using this) fun j d hj=>by obtain ⟨t',a,q,b⟩:=h.2 j d hj; exact jZp hu a b
theorem zZZ.five {P:Program} {t:TypeId} {n:Nat} {xs:List DV} (h:zZZ P [t,t,t,t,t] n xs) (hu:P.underlying t=some (.int .i64)):Is5 n xs:=
 jVk h.1 fun j d hj=>by obtain ⟨t',a,q,b⟩:=h.2 j d hj; exact jJj hu a b
theorem zZZ.pics {P:Program} {t ts e:TypeId} {n:Nat} {xs:List DV} (h:zZZ P [t,t,t,t,ts] n xs) (hu:P.underlying t=some (.int .i64)) (hs:P.underlying ts=some (.slice e)) (hl:lv P e=some [t,t,t,t,t]):jJ5 n xs:=
 ⟨h.1,fun k hk=>⟨h.int (r:=0) hk rfl hu,h.int (r:=1) hk rfl hu,h.int (r:=2) hk rfl hu,h.int (r:=3) hk rfl hu,(h.sl (r:=4) hk rfl hs hl).1,(h.sl (r:=4) hk rfl hs hl).2.five hu⟩⟩
theorem zZZ.raws {P:Program} {t:TypeId} {n:Nat} {xs:List DV} (h:zZZ P [t,t,t,t,t,t,t,t,t,t,t] n xs) (hu:P.underlying t=some (.int .i64)):jVy n xs:=by
 refine ⟨h.1,fun i hi=>?_⟩
 have hr:[t,t,t,t,t,t,t,t,t,t,t][i % 11]?=some t:=by
  have h2:i % 11 < 11:=Nat.mod_lt _ (by omega)
  generalize i % 11=r at *
  match r,h2 with
  | 0,_ | 1,_ | 2,_ | 3,_ | 4,_ | 5,_ | 6,_ | 7,_ | 8,_ | 9,_ | 10,_=>rfl
 have:=h.int (k:=i / 11) (r:=i % 11) (by omega) hr hu
 have e:i / 11*[t,t,t,t,t,t,t,t,t,t,t].length+i % 11=i:=by show i / 11*11+i % 11=i; omega
 rw [e] at this
 exact this
theorem jYE {xs ys:List DV} {n m:Nat} (hx:xs.length=n*m) (hy:ys.length=n*m) (h:∀ k,k < n→∀ j,j < m→xs[k*m+j]?=ys[k*m+j]?):xs=ys:=by
 refine List.ext_getElem? fun i=>?_
 by_cases hi:i < n*m
 ·have hm:0 < m:=by
   rcases Nat.eq_zero_or_pos m with h0 | h0
   ·subst h0; simp at hi
   ·exact h0
  have:=h (i / m) (Nat.div_lt_of_lt_mul (by rw [Nat.mul_comm]; exact hi)) (i % m) (Nat.mod_lt _ hm)
  have e:i / m*m+i % m=i:=by rw [Nat.mul_comm]; exact Nat.div_add_mod i m
  rw [e] at this
  exact this
 ·rw [List.getElem?_eq_none (by omega),List.getElem?_eq_none (by omega)]
theorem zZZ.ops {P:Program} {t u b:TypeId} {n:Nat} {xs:List DV} (h:zZZ P [t,t,t,t,t,t,t,u,t,t,b,b] n xs) (ht:P.underlying t=some (.int .i64)) (hu:P.underlying u=some (.int .u16)) (hb:P.underlying b=some .bool):jVM n xs:=by
 have hl:xs.length=n*12:=h.1
 have hn:(zZ8 xs).length=n:=by unfold zZ8; rw [List.length_map,List.length_range,hl]; omega
 refine ⟨jYE hl (by rw [zQ5,hn]) fun k hk j hj=>?_,hn.symm⟩
 have e:(zZ8 xs)[k]'(by omega)=oqAt xs (k*12):=by simp [zZ8]
 rw [zGh (by omega) j hj,e]
 have key:=fun r (hr:r < 12)=>h.at_ (k:=k) (r:=r) (t:=[t,t,t,t,t,t,t,u,t,t,b,b][r]) hk (List.getElem?_eq_getElem hr)
 match j,hj with
 | 0,_=>exact h.int (r:=0) hk rfl ht
 | 1,_=>exact h.int (r:=1) hk rfl ht
 | 2,_=>exact h.int (r:=2) hk rfl ht
 | 3,_=>exact h.int (r:=3) hk rfl ht
 | 4,_=>exact h.int (r:=4) hk rfl ht
 | 5,_=>exact h.int (r:=5) hk rfl ht
 | 6,_=>exact h.int (r:=6) hk rfl ht
 | 7,_=>exact h.int (r:=7) hk rfl hu
 | 8,_=>exact h.int (r:=8) hk rfl ht
 | 9,_=>exact h.int (r:=9) hk rfl ht
 | 10,_=>exact h.bool (r:=10) hk rfl hb
 | 11,_=>exact h.bool (r:=11) hk rfl hb
def IsBs (n:Nat) (xs:List DV):Prop:=xs.length=n∧∀ i,i < n→xs[i]?=some (.bool (bAt xs i))
theorem zZZ.bools {P:Program} {b:TypeId} {n:Nat} {xs:List DV} (h:zZZ P [b] n xs) (hb:P.underlying b=some .bool):IsBs n xs:=
 ⟨by have:=h.1; simpa using this,fun i hi=>by
  have:=h.bool (k:=i) (r:=0) hi rfl hb
  simpa using this⟩
end Go.Proofs.YtheidkkebdhmkaaGreatDoor
