/-
  Part 6 of what TextFormatAgrees rests on.
-/
import Derived.Test.YtheidkkebdhmkaaGreatDoorTextFormatAgreesZ3
import Derived.Test.YtheidkkebdhmkaaGreatDoorTextFormatAgreesZ2
import Derived.Test.YtheidkkebdhmkaaGreatDoorTextFormatAgreesZ5
import Derived.Test.YtheidkkebdhmkaaGreatDoorTextFormatAgreesZ4
import Derived.Test.YtheidkkebdhmkaaGreatDoorRows
import Derived.JoinedOf
import Derived.KernelRfl
import Derived.Test.YtheidkkebdhmkaaGreatDoorTextFormatAgreesZ1
import Derived.MakeChecks
import Derived.LaidHandle
import Derived.LaidMore
import Derived.Stop.Joined
import Derived.Shelf.Vars
import Derived.Lay
namespace Go.Proofs.YtheidkkebdhmkaaGreatDoor
open Go.RowKit
set_option linter.unusedVariables false
set_option linter.unusedSimpArgs false
set_option maxRecDepth 20000
open Go.Proofs.Tryz (prog)
section
attribute [local irreducible] Ans AnsO AnsG AnsN AnsI
def gamK:Gam where
 pure:=fun f xs=>
  if f=14 then gZ0 xs else
  if f=10 then (match xs with | [.agg [.int _ w,.int _ h,.bool so,.int _ c0,.int _ c1,.int _ c2,.int _ ca,.int _ cf,.int _ w0,.int _ h0,.int _ s0,.sl n0 xs0,.int _ w1,.int _ h1,.int _ s1,.sl n1 xs1,.int _ w2,.int _ h2,.int _ s2,.sl n2 xs2,.int _ w3,.int _ h3,.int _ s3,.sl n3 xs3,.int _ w4,.int _ h4,.int _ s4,.sl n4 xs4],.d (.int _ more)]=>let a:=(zQi ⟨w,h,so,⟨c0,c1,c2,ca,cf⟩,⟨w0,h0,s0,n0,xs0⟩,⟨w1,h1,s1,n1,xs1⟩,⟨w2,h2,s2,n2,xs2⟩,⟨w3,h3,s3,n3,xs3⟩,⟨w4,h4,s4,n4,xs4⟩⟩ more); some (RV.agg [DV.int .i64 a.w,DV.int .i64 a.h,DV.bool a.so,DV.int .u16 a.c.a,DV.int .u16 a.c.b,DV.int .u16 a.c.c,DV.int .u16 a.c.al,DV.int .u16 a.c.f,DV.int .i64 a.p0.w,DV.int .i64 a.p0.h,DV.int .i64 a.p0.s,DV.sl a.p0.n a.p0.xs,DV.int .i64 a.p1.w,DV.int .i64 a.p1.h,DV.int .i64 a.p1.s,DV.sl a.p1.n a.p1.xs,DV.int .i64 a.p2.w,DV.int .i64 a.p2.h,DV.int .i64 a.p2.s,DV.sl a.p2.n a.p2.xs,DV.int .i64 a.p3.w,DV.int .i64 a.p3.h,DV.int .i64 a.p3.s,DV.sl a.p3.n a.p3.xs,DV.int .i64 a.p4.w,DV.int .i64 a.p4.h,DV.int .i64 a.p4.s,DV.sl a.p4.n a.p4.xs]) | _=>none) else
  none
 modes:=fun f=>
  none
 proc:=fun f xs bs=>
  none
 iter:=fun f cs=>
  none
theorem zG4 (m:Im) (more:Int) (hu:m.isU) (hf:m.formed=true) (hm:m.w≤100∧m.h≤100):Ans prog 10 [RV.agg [dJ m.w,dJ m.h,dQ m.so,dK m.c.a,dK m.c.b,dK m.c.c,dK m.c.al,dK m.c.f,dJ m.p0.w,dJ m.p0.h,dJ m.p0.s,dS m.p0.n m.p0.xs,dJ m.p1.w,dJ m.p1.h,dJ m.p1.s,dS m.p1.n m.p1.xs,dJ m.p2.w,dJ m.p2.h,dJ m.p2.s,dS m.p2.n m.p2.xs,dJ m.p3.w,dJ m.p3.h,dJ m.p3.s,dS m.p3.n m.p3.xs,dJ m.p4.w,dJ m.p4.h,dJ m.p4.s,dS m.p4.n m.p4.xs],rJ (more)] (RV.agg [dJ ((zQi m more).w),dJ ((zQi m more).h),dQ ((zQi m more).so),dK (((zQi m more).c).a),dK (((zQi m more).c).b),dK (((zQi m more).c).c),dK (((zQi m more).c).al),dK (((zQi m more).c).f),dJ (((zQi m more).p0).w),dJ (((zQi m more).p0).h),dJ (((zQi m more).p0).s),dS (((zQi m more).p0).n) (((zQi m more).p0).xs),dJ (((zQi m more).p1).w),dJ (((zQi m more).p1).h),dJ (((zQi m more).p1).s),dS (((zQi m more).p1).n) (((zQi m more).p1).xs),dJ (((zQi m more).p2).w),dJ (((zQi m more).p2).h),dJ (((zQi m more).p2).s),dS (((zQi m more).p2).n) (((zQi m more).p2).xs),dJ (((zQi m more).p3).w),dJ (((zQi m more).p3).h),dJ (((zQi m more).p3).s),dS (((zQi m more).p3).n) (((zQi m more).p3).xs),dJ (((zQi m more).p4).w),dJ (((zQi m more).p4).h),dJ (((zQi m more).p4).s),dS (((zQi m more).p4).n) (((zQi m more).p4).xs)]):=
 zQk (Γ:=gamK) (let D:=(dS m.p1.n m.p1.xs); let v:=(strS m.p0 more 0); let w:=(strS m.p1 more 1); let x:=(strS m.p2 more 2); let y:=(dS m.p2.n m.p2.xs); let n:=(dS m.p3.n m.p3.xs); let o:=(7,AV.one (Cl.ptr 7 0)); let p:=(6,AV.one (Cl.ptr 6 0)); let j:=(dS m.p4.n m.p4.xs); let z:=(strS m.p4 more 4); let A:=(strN m.p4 z); let B:=(strS m.p3 more 3); let q:=(strN m.p3 B); let k:=(strN m.p2 x); let g:=(strN m.p1 w); let f:=(strN m.p0 v); let a:=(4,AV.one (Cl.ptr 4 0)); let b:=(2,AV.one (Cl.ptr 2 0)); let c:=(1,aJ more); let G:=(5,aJ 0); let H:=(2,bC [cJ m.w,cJ m.h,Cl.d (dQ m.so),cK m.c.a,cK m.c.b,cK m.c.c,cK m.c.al,cK m.c.f,cJ m.p0.w,cJ m.p0.h,cJ m.p0.s,Cl.d (dS m.p0.n m.p0.xs),cJ m.p1.w,cJ m.p1.h,cJ m.p1.s,Cl.d D,cJ m.p2.w,cJ m.p2.h,cJ m.p2.s,Cl.d y,cJ m.p3.w,cJ m.p3.h,cJ m.p3.s,Cl.d n,cJ m.p4.w,cJ m.p4.h,cJ m.p4.s,Cl.d j]); let d:=(4,bC [cJ 0,cJ 0,Cl.d (dQ false),cK 0,cK 0,cK 0,cK 0,cK 0,cJ 0,cJ 0,cJ 0,Cl.nil,cJ 0,cJ 0,cJ 0,Cl.nil,cJ 0,cJ 0,cJ 0,Cl.nil,cJ 0,cJ 0,cJ 0,Cl.nil,cJ 0,cJ 0,cJ 0,Cl.nil]); let r:=(Ann.seq Ann.leaf (Ann.sure true Ann.leaf)); let s:=fun (i:Nat)=>(8,aJ (i:Int)); let l:=(dJ v); let I:=(5,aJ 1); let J:=(2,bC [cJ m.w,cJ m.h,Cl.d (dQ m.so),cK m.c.a,cK m.c.b,cK m.c.c,cK m.c.al,cK m.c.f,cJ m.p0.w,cJ m.p0.h,Cl.d l,Cl.ref 8000 f,cJ m.p1.w,cJ m.p1.h,cJ m.p1.s,Cl.d D,cJ m.p2.w,cJ m.p2.h,cJ m.p2.s,Cl.d y,cJ m.p3.w,cJ m.p3.h,cJ m.p3.s,Cl.d n,cJ m.p4.w,cJ m.p4.h,cJ m.p4.s,Cl.d j]); let e:=(8000,Bx.row 34 1 (zQI m.p0 v f)); let t:=(dJ w); let K:=(5,aJ 2); let L:=(2,bC [cJ m.w,cJ m.h,Cl.d (dQ m.so),cK m.c.a,cK m.c.b,cK m.c.c,cK m.c.al,cK m.c.f,cJ m.p0.w,cJ m.p0.h,Cl.d l,Cl.ref 8000 f,cJ m.p1.w,cJ m.p1.h,Cl.d t,Cl.ref 8001 g,cJ m.p2.w,cJ m.p2.h,cJ m.p2.s,Cl.d y,cJ m.p3.w,cJ m.p3.h,cJ m.p3.s,Cl.d n,cJ m.p4.w,cJ m.p4.h,cJ m.p4.s,Cl.d j]); let h:=(8001,Bx.row 34 1 (zQI m.p1 w g)); let C:=(dJ x); let M:=(5,aJ 3); let N:=(2,bC [cJ m.w,cJ m.h,Cl.d (dQ m.so),cK m.c.a,cK m.c.b,cK m.c.c,cK m.c.al,cK m.c.f,cJ m.p0.w,cJ m.p0.h,Cl.d l,Cl.ref 8000 f,cJ m.p1.w,cJ m.p1.h,Cl.d t,Cl.ref 8001 g,cJ m.p2.w,cJ m.p2.h,Cl.d C,Cl.ref 8002 k,cJ m.p3.w,cJ m.p3.h,cJ m.p3.s,Cl.d n,cJ m.p4.w,cJ m.p4.h,cJ m.p4.s,Cl.d j]); let u:=(8002,Bx.row 34 1 (zQI m.p2 x k)); let E:=(dJ B); let O:=(5,aJ 4); let P:=(2,bC [cJ m.w,cJ m.h,Cl.d (dQ m.so),cK m.c.a,cK m.c.b,cK m.c.c,cK m.c.al,cK m.c.f,cJ m.p0.w,cJ m.p0.h,Cl.d l,Cl.ref 8000 f,cJ m.p1.w,cJ m.p1.h,Cl.d t,Cl.ref 8001 g,cJ m.p2.w,cJ m.p2.h,Cl.d C,Cl.ref 8002 k,cJ m.p3.w,cJ m.p3.h,Cl.d E,Cl.ref 8003 q,cJ m.p4.w,cJ m.p4.h,cJ m.p4.s,Cl.d j]); let F:=(8003,Bx.row 34 1 (zQI m.p3 B q)); let Q:=(dJ z); (Ann.seq Ann.leaf (Ann.seq Ann.leaf (Ann.seq (Ann.seq Ann.leaf (Ann.link ⟨Unit,fun _u=>True,fun _u=>⟨[c,b,a,G],[H,d]⟩,fun _u=>0⟩ (fun _u=>(Ann.seq r (Ann.seq (Ann.seq Ann.leaf (Ann.seq Ann.leaf (Ann.seq (Ann.seq Ann.leaf (Ann.loop ⟨Nat,fun i=>i≤f,fun i=>⟨[c,b,a,G,p,o,(s i)],[H,d,(6,bC [cJ m.p0.w,cJ m.p0.h,cJ m.p0.s,Cl.d (dS m.p0.n m.p0.xs)]),(7,bC [cJ m.p0.w,cJ m.p0.h,Cl.d l,Cl.ref 8000 i]),(8000,Bx.row 34 1 (zQI m.p0 v i))]⟩,fun i=>f - i⟩ fun i=>Ann.leaf)) Ann.leaf))) Ann.leaf))) (Ann.link ⟨Unit,fun _u=>True,fun _u=>⟨[c,b,a,I],[J,d,e]⟩,fun _u=>0⟩ (fun _u=>(Ann.seq r (Ann.seq (Ann.seq Ann.leaf (Ann.seq Ann.leaf (Ann.seq (Ann.seq Ann.leaf (Ann.loop ⟨Nat,fun i=>i≤g,fun i=>⟨[c,b,a,I,p,o,(s i)],[J,d,(6,bC [cJ m.p1.w,cJ m.p1.h,cJ m.p1.s,Cl.d D]),(7,bC [cJ m.p1.w,cJ m.p1.h,Cl.d t,Cl.ref 8001 i]),e,(8001,Bx.row 34 1 (zQI m.p1 w i))]⟩,fun i=>g - i⟩ fun i=>Ann.leaf)) Ann.leaf))) Ann.leaf))) (Ann.link ⟨Unit,fun _u=>True,fun _u=>⟨[c,b,a,K],[L,d,e,h]⟩,fun _u=>0⟩ (fun _u=>(Ann.seq r (Ann.seq (Ann.seq Ann.leaf (Ann.seq Ann.leaf (Ann.seq (Ann.seq Ann.leaf (Ann.loop ⟨Nat,fun i=>i≤k,fun i=>⟨[c,b,a,K,p,o,(s i)],[L,d,(6,bC [cJ m.p2.w,cJ m.p2.h,cJ m.p2.s,Cl.d y]),(7,bC [cJ m.p2.w,cJ m.p2.h,Cl.d C,Cl.ref 8002 i]),e,h,(8002,Bx.row 34 1 (zQI m.p2 x i))]⟩,fun i=>k - i⟩ fun i=>Ann.leaf)) Ann.leaf))) Ann.leaf))) (Ann.link ⟨Unit,fun _u=>True,fun _u=>⟨[c,b,a,M],[N,d,e,h,u]⟩,fun _u=>0⟩ (fun _u=>(Ann.seq r (Ann.seq (Ann.seq Ann.leaf (Ann.seq Ann.leaf (Ann.seq (Ann.seq Ann.leaf (Ann.loop ⟨Nat,fun i=>i≤q,fun i=>⟨[c,b,a,M,p,o,(s i)],[N,d,(6,bC [cJ m.p3.w,cJ m.p3.h,cJ m.p3.s,Cl.d n]),(7,bC [cJ m.p3.w,cJ m.p3.h,Cl.d E,Cl.ref 8003 i]),e,h,u,(8003,Bx.row 34 1 (zQI m.p3 B i))]⟩,fun i=>q - i⟩ fun i=>Ann.leaf)) Ann.leaf))) Ann.leaf))) (Ann.link ⟨Unit,fun _u=>True,fun _u=>⟨[c,b,a,O],[P,d,e,h,u,F]⟩,fun _u=>0⟩ (fun _u=>(Ann.seq r (Ann.seq (Ann.seq Ann.leaf (Ann.seq Ann.leaf (Ann.seq (Ann.seq Ann.leaf (Ann.loop ⟨Nat,fun i=>i≤A,fun i=>⟨[c,b,a,O,p,o,(s i)],[P,d,(6,bC [cJ m.p4.w,cJ m.p4.h,cJ m.p4.s,Cl.d j]),(7,bC [cJ m.p4.w,cJ m.p4.h,Cl.d Q,Cl.ref 8004 i]),e,h,u,F,(8004,Bx.row 34 1 (zQI m.p4 z i))]⟩,fun i=>A - i⟩ fun i=>Ann.leaf)) Ann.leaf))) Ann.leaf))) (Ann.link ⟨Unit,fun _u=>True,fun _u=>⟨[c,b,a,(5,aJ 5)],[(2,bC [cJ m.w,cJ m.h,Cl.d (dQ m.so),cK m.c.a,cK m.c.b,cK m.c.c,cK m.c.al,cK m.c.f,cJ m.p0.w,cJ m.p0.h,Cl.d l,Cl.ref 8000 f,cJ m.p1.w,cJ m.p1.h,Cl.d t,Cl.ref 8001 g,cJ m.p2.w,cJ m.p2.h,Cl.d C,Cl.ref 8002 k,cJ m.p3.w,cJ m.p3.h,Cl.d E,Cl.ref 8003 q,cJ m.p4.w,cJ m.p4.h,Cl.d Q,Cl.ref 8004 A]),d,e,h,u,F,(8004,Bx.row 34 1 (zQI m.p4 z A))]⟩,fun _u=>0⟩ (fun _u=>(Ann.seq (Ann.seq Ann.leaf (Ann.sure false Ann.leaf)) Ann.leaf)) Ann.leaf))))))) Ann.leaf)))) zQu Tryz.func10 rfl (Nat.le_of_ble_eq_true rfl) fun hwf=>by
  refine Eq.mpr (by kernel_rfl:_=(let U:=((5:Nat):Int); let h:=(strS m.p4 more 4); let c:=(strS m.p3 more 3); let d:=(strS m.p2 more 2); let e:=(strS m.p1 more 1); let f:=(strS m.p0 more 0); let a:=(zQi m more); let l:=(strN m.p0 f); let n:=(strN m.p1 e); let o:=(strN m.p2 d); let p:=(strN m.p3 c); let K:=(strN m.p4 h); let y4:=[dJ m.w,dJ m.h,dQ m.so,dK m.c.a,dK m.c.b,dK m.c.c,dK m.c.al,dK m.c.f,dJ m.p0.w,dJ m.p0.h,dJ m.p0.s,dS m.p0.n m.p0.xs,dJ m.p1.w,dJ m.p1.h,dJ m.p1.s,dS m.p1.n m.p1.xs,dJ m.p2.w,dJ m.p2.h,dJ m.p2.s,dS m.p2.n m.p2.xs,dJ m.p3.w,dJ m.p3.h,dJ m.p3.s,dS m.p3.n m.p3.xs,dJ m.p4.w,dJ m.p4.h,dJ m.p4.s,dS m.p4.n m.p4.xs]; let w9:=[dJ a.w,dJ a.h,dQ a.so,dK a.c.a,dK a.c.b,dK a.c.c,dK a.c.al,dK a.c.f,dJ a.p0.w,dJ a.p0.h,dJ a.p0.s,dS a.p0.n a.p0.xs,dJ a.p1.w,dJ a.p1.h,dJ a.p1.s,dS a.p1.n a.p1.xs,dJ a.p2.w,dJ a.p2.h,dJ a.p2.s,dS a.p2.n a.p2.xs,dJ a.p3.w,dJ a.p3.h,dJ a.p3.s,dS a.p3.n a.p3.xs,dJ a.p4.w,dJ a.p4.h,dJ a.p4.s,dS a.p4.n a.p4.xs]; let j:=(dJ more=dJ more); let g:=(dJ 0=dJ 0); let z3:=(y4=y4); let V:=(dK 0=dK 0); let b:=(g∧g∧(dQ false=dQ false)∧V∧V∧V∧V∧V∧g∧g∧g∧True∧g∧g∧g∧True∧g∧g∧g∧True∧g∧g∧g∧True∧g∧g∧g∧True∧True); let v0:=(0≤(0:Int)∧(0:Int) < U); let y5:=(wK (more+0)); let v1:=fun (i:Nat)=>(i≤l); let W:=fun (i:Nat)=>(dJ 0=dJ (i:Int)); let v2:=[dJ m.p0.w,dJ m.p0.h,dJ m.p0.s,dS m.p0.n m.p0.xs]; let y6:=(v2=v2); let r:=(dJ m.p0.w=dJ m.p0.w); let s:=(dJ m.p0.h=dJ m.p0.h); let v3:=fun (i':Nat)=>(i'≤l); let v4:=fun (i:Nat)=>fun (i':Nat)=>(l - i' < l - i); let X:=fun (i:Nat)=>fun (i':Nat)=>(dJ (wK ((i:Int)+1))=dJ (i':Int)); let v5:=fun (i:Nat)=>fun (i':Nat)=>(j∧(0=0)∧(0=0)∧g∧(0=0)∧(0=0)∧(X i i')∧True); let B:=(dJ f=dJ f); let v6:=fun (i:Nat)=>fun (i':Nat)=>(r∧s∧B∧(i+1=i')∧True); let C:=(dJ m.w=dJ m.w); let D:=(dJ m.h=dJ m.h); let E:=(dQ m.so=dQ m.so); let F:=(dK m.c.a=dK m.c.a); let G:=(dK m.c.b=dK m.c.b); let H:=(dK m.c.c=dK m.c.c); let I:=(dK m.c.al=dK m.c.al); let J:=(dK m.c.f=dK m.c.f); let t:=(dJ m.p1.w=dJ m.p1.w); let u:=(dJ m.p1.h=dJ m.p1.h); let v7:=(dJ m.p1.s=dJ m.p1.s); let v8:=(dS m.p1.n m.p1.xs=dS m.p1.n m.p1.xs); let v:=(dJ m.p2.w=dJ m.p2.w); let w:=(dJ m.p2.h=dJ m.p2.h); let z4:=(dJ m.p2.s=dJ m.p2.s); let z5:=(dS m.p2.n m.p2.xs=dS m.p2.n m.p2.xs); let x:=(dJ m.p3.w=dJ m.p3.w); let y:=(dJ m.p3.h=dJ m.p3.h); let Q:=(dJ m.p3.s=dJ m.p3.s); let R:=(dS m.p3.n m.p3.xs=dS m.p3.n m.p3.xs); let z:=(dJ m.p4.w=dJ m.p4.w); let A:=(dJ m.p4.h=dJ m.p4.h); let L:=(dJ m.p4.s=dJ m.p4.s); let M:=(dS m.p4.n m.p4.xs=dS m.p4.n m.p4.xs); let v9:=(0≤(1:Int)∧(1:Int) < U); let y7:=(wK (more+1)); let u0:=fun (i:Nat)=>(i≤n); let u1:=(dJ 1=dJ 1); let N:=(l=l); let y8:=(C∧D∧E∧F∧G∧H∧I∧J∧r∧s∧B∧N∧t∧u∧v7∧v8∧v∧w∧z4∧z5∧x∧y∧Q∧R∧z∧A∧L∧M∧True); let u2:=[dJ m.p1.w,dJ m.p1.h,dJ m.p1.s,dS m.p1.n m.p1.xs]; let y9:=(u2=u2); let k:=(zQI m.p0 f l=zQI m.p0 f l); let u3:=fun (i':Nat)=>(i'≤n); let u4:=fun (i:Nat)=>fun (i':Nat)=>(n - i' < n - i); let u5:=fun (i:Nat)=>fun (i':Nat)=>(j∧(0=0)∧(0=0)∧u1∧(0=0)∧(0=0)∧(X i i')∧True); let O:=(dJ e=dJ e); let u6:=fun (i:Nat)=>fun (i':Nat)=>(t∧u∧O∧(i+1=i')∧True); let u7:=(0≤(2:Int)∧(2:Int) < U); let x0:=(wK (more+2)); let u8:=fun (i:Nat)=>(i≤o); let u9:=(dJ 2=dJ 2); let S:=(n=n); let x1:=(C∧D∧E∧F∧G∧H∧I∧J∧r∧s∧B∧N∧t∧u∧O∧S∧v∧w∧z4∧z5∧x∧y∧Q∧R∧z∧A∧L∧M∧True); let t0:=[dJ m.p2.w,dJ m.p2.h,dJ m.p2.s,dS m.p2.n m.p2.xs]; let x2:=(t0=t0); let q:=(zQI m.p1 e n=zQI m.p1 e n); let t1:=fun (i':Nat)=>(i'≤o); let t2:=fun (i:Nat)=>fun (i':Nat)=>(o - i' < o - i); let t3:=fun (i:Nat)=>fun (i':Nat)=>(j∧(0=0)∧(0=0)∧u9∧(0=0)∧(0=0)∧(X i i')∧True); let T:=(dJ d=dJ d); let t4:=fun (i:Nat)=>fun (i':Nat)=>(v∧w∧T∧(i+1=i')∧True); let t5:=(0≤(3:Int)∧(3:Int) < U); let x3:=(wK (more+3)); let t6:=fun (i:Nat)=>(i≤p); let t7:=(dJ 3=dJ 3); let z6:=(o=o); let x4:=(C∧D∧E∧F∧G∧H∧I∧J∧r∧s∧B∧N∧t∧u∧O∧S∧v∧w∧T∧z6∧x∧y∧Q∧R∧z∧A∧L∧M∧True); let t8:=[dJ m.p3.w,dJ m.p3.h,dJ m.p3.s,dS m.p3.n m.p3.xs]; let x5:=(t8=t8); let P:=(zQI m.p2 d o=zQI m.p2 d o); let t9:=fun (i':Nat)=>(i'≤p); let s0:=fun (i:Nat)=>fun (i':Nat)=>(p - i' < p - i); let s1:=fun (i:Nat)=>fun (i':Nat)=>(j∧(0=0)∧(0=0)∧t7∧(0=0)∧(0=0)∧(X i i')∧True); let z7:=(dJ c=dJ c); let s2:=fun (i:Nat)=>fun (i':Nat)=>(x∧y∧z7∧(i+1=i')∧True); let s3:=(0≤(4:Int)∧(4:Int) < U); let x6:=(wK (more+4)); let s4:=fun (i:Nat)=>(i≤K); let s5:=(dJ 4=dJ 4); let s6:=(p=p); let x7:=(C∧D∧E∧F∧G∧H∧I∧J∧r∧s∧B∧N∧t∧u∧O∧S∧v∧w∧T∧z6∧x∧y∧z7∧s6∧z∧A∧L∧M∧True); let s7:=[dJ m.p4.w,dJ m.p4.h,dJ m.p4.s,dS m.p4.n m.p4.xs]; let x8:=(s7=s7); let z8:=(zQI m.p3 c p=zQI m.p3 c p); let s8:=fun (i':Nat)=>(i'≤K); let s9:=fun (i:Nat)=>fun (i':Nat)=>(K - i' < K - i); let r0:=fun (i:Nat)=>fun (i':Nat)=>(j∧(0=0)∧(0=0)∧s5∧(0=0)∧(0=0)∧(X i i')∧True); let r1:=(dJ h=dJ h); let r2:=fun (i:Nat)=>fun (i':Nat)=>(z∧A∧r1∧(i+1=i')∧True); tU4 ((m.so=true→tU2 (RV.agg y4=RV.agg w9))∧(m.so=false→True∧(∃ _u:Unit,True∧((j∧(0=0)∧(0=0)∧g∧True)∧(z3∧b∧True)))∧((∀ _u:Unit,True→tU2 (decide ((0:Int) < 5)=true∧tU2 (v0∧tU4 (tU8 ((Ans prog 14 [rJ y5,rJ 4] (rJ (modS y5 (4:Int))))∧tU4 ((true=true)∧True∧((∃ i:Nat,(v1 i)∧((j∧(0=0)∧(0=0)∧g∧(0=0)∧(0=0)∧(W i)∧True)∧(z3∧b∧y6∧(r∧s∧(dJ (wK (m.p0.w+(modS y5 (4:Int))))=dJ f)∧(0=i)∧True)∧([]=zQI m.p0 f i)∧True)))∧∀ i:Nat,let r3:=(decide ((i:Int) < (wK (f*m.p0.h)))); let x9:=(Int.tmod (i:Int) f); let r4:=([dK (IntKind.wrap .u16 (wK ((40000:Int)+(i:Int))))]); let Y:=((wK ((wK (Int.tdiv (i:Int) f))*m.p0.s))+x9); let w0:=(nAt m.p0.xs ((wK Y).toNat*1)); let z9:=(zQI m.p0 f i); (v1 i)→tU7 ((r3=true→tU7 ((f≠0)∧tU3 ((true=true)∧(((decide (x9 < m.p0.w))=true→tU5 ((f≠0)∧tU6 ((f≠0)∧True∧(0≤wK Y∧wK Y < (m.p0.n:Int)∧(wK Y).toNat*1 < m.p0.xs.length)∧((m.p0.xs[(wK Y).toNat*1]?=some (dK w0))∧True)∧True∧(true=true)∧tU4 ((zQ7 1 2 i 1 z9 ([dK w0]))∧tU5 (∃ i':Nat,(v3 i')∧(v4 i i')∧((v5 i i')∧(z3∧b∧y6∧(v6 i i')∧(z9++([dK w0])=zQI m.p0 f i')∧True)))))))∧((decide (x9 < m.p0.w))=false→tU4 ((zQ7 1 2 i 1 z9 r4)∧tU5 (∃ i':Nat,(v3 i')∧(v4 i i')∧((v5 i i')∧(z3∧b∧y6∧(v6 i i')∧(z9++r4=zQI m.p0 f i')∧True)))))))))∧(r3=false→tU3 (v0∧tU4 (∃ _u:Unit,True∧((j∧(0=0)∧(0=0)∧(dJ (wK ((0:Int)+1))=dJ 1)∧True)∧((C∧D∧E∧F∧G∧H∧I∧J∧r∧s∧B∧(i=l)∧t∧u∧v7∧v8∧v∧w∧z4∧z5∧x∧y∧Q∧R∧z∧A∧L∧M∧True)∧b∧(zQI m.p0 f i=zQI m.p0 f l)∧True)))))))))))))∧(∀ _u:Unit,True→tU2 (decide ((1:Int) < 5)=true∧tU2 (v9∧tU4 (tU8 ((Ans prog 14 [rJ y7,rJ 4] (rJ (modS y7 (4:Int))))∧tU4 ((true=true)∧True∧((∃ i:Nat,(u0 i)∧((j∧(0=0)∧(0=0)∧u1∧(0=0)∧(0=0)∧(W i)∧True)∧(y8∧b∧y9∧(t∧u∧(dJ (wK (m.p1.w+(modS y7 (4:Int))))=dJ e)∧(0=i)∧True)∧k∧([]=zQI m.p1 e i)∧True)))∧∀ i:Nat,let r5:=(decide ((i:Int) < (wK (e*m.p1.h)))); let w1:=(Int.tmod (i:Int) e); let r6:=([dK (IntKind.wrap .u16 (wK ((40000:Int)+(i:Int))))]); let Z:=((wK ((wK (Int.tdiv (i:Int) e))*m.p1.s))+w1); let w2:=(nAt m.p1.xs ((wK Z).toNat*1)); let y0:=(zQI m.p1 e i); (u0 i)→tU7 ((r5=true→tU7 ((e≠0)∧tU3 ((true=true)∧(((decide (w1 < m.p1.w))=true→tU5 ((e≠0)∧tU6 ((e≠0)∧True∧(0≤wK Z∧wK Z < (m.p1.n:Int)∧(wK Z).toNat*1 < m.p1.xs.length)∧((m.p1.xs[(wK Z).toNat*1]?=some (dK w2))∧True)∧True∧(true=true)∧tU4 ((zQ7 1 2 i 1 y0 ([dK w2]))∧tU5 (∃ i':Nat,(u3 i')∧(u4 i i')∧((u5 i i')∧(y8∧b∧y9∧(u6 i i')∧k∧(y0++([dK w2])=zQI m.p1 e i')∧True)))))))∧((decide (w1 < m.p1.w))=false→tU4 ((zQ7 1 2 i 1 y0 r6)∧tU5 (∃ i':Nat,(u3 i')∧(u4 i i')∧((u5 i i')∧(y8∧b∧y9∧(u6 i i')∧k∧(y0++r6=zQI m.p1 e i')∧True)))))))))∧(r5=false→tU3 (v9∧tU4 (∃ _u:Unit,True∧((j∧(0=0)∧(0=0)∧(dJ (wK ((1:Int)+1))=dJ 2)∧True)∧((C∧D∧E∧F∧G∧H∧I∧J∧r∧s∧B∧N∧t∧u∧O∧(i=n)∧v∧w∧z4∧z5∧x∧y∧Q∧R∧z∧A∧L∧M∧True)∧b∧k∧(zQI m.p1 e i=zQI m.p1 e n)∧True)))))))))))))∧(∀ _u:Unit,True→tU2 (decide ((2:Int) < 5)=true∧tU2 (u7∧tU4 (tU8 ((Ans prog 14 [rJ x0,rJ 4] (rJ (modS x0 (4:Int))))∧tU4 ((true=true)∧True∧((∃ i:Nat,(u8 i)∧((j∧(0=0)∧(0=0)∧u9∧(0=0)∧(0=0)∧(W i)∧True)∧(x1∧b∧x2∧(v∧w∧(dJ (wK (m.p2.w+(modS x0 (4:Int))))=dJ d)∧(0=i)∧True)∧k∧q∧([]=zQI m.p2 d i)∧True)))∧∀ i:Nat,let r7:=(decide ((i:Int) < (wK (d*m.p2.h)))); let w3:=(Int.tmod (i:Int) d); let r8:=([dK (IntKind.wrap .u16 (wK ((40000:Int)+(i:Int))))]); let z0:=((wK ((wK (Int.tdiv (i:Int) d))*m.p2.s))+w3); let w4:=(nAt m.p2.xs ((wK z0).toNat*1)); let y1:=(zQI m.p2 d i); (u8 i)→tU7 ((r7=true→tU7 ((d≠0)∧tU3 ((true=true)∧(((decide (w3 < m.p2.w))=true→tU5 ((d≠0)∧tU6 ((d≠0)∧True∧(0≤wK z0∧wK z0 < (m.p2.n:Int)∧(wK z0).toNat*1 < m.p2.xs.length)∧((m.p2.xs[(wK z0).toNat*1]?=some (dK w4))∧True)∧True∧(true=true)∧tU4 ((zQ7 1 2 i 1 y1 ([dK w4]))∧tU5 (∃ i':Nat,(t1 i')∧(t2 i i')∧((t3 i i')∧(x1∧b∧x2∧(t4 i i')∧k∧q∧(y1++([dK w4])=zQI m.p2 d i')∧True)))))))∧((decide (w3 < m.p2.w))=false→tU4 ((zQ7 1 2 i 1 y1 r8)∧tU5 (∃ i':Nat,(t1 i')∧(t2 i i')∧((t3 i i')∧(x1∧b∧x2∧(t4 i i')∧k∧q∧(y1++r8=zQI m.p2 d i')∧True)))))))))∧(r7=false→tU3 (u7∧tU4 (∃ _u:Unit,True∧((j∧(0=0)∧(0=0)∧(dJ (wK ((2:Int)+1))=dJ 3)∧True)∧((C∧D∧E∧F∧G∧H∧I∧J∧r∧s∧B∧N∧t∧u∧O∧S∧v∧w∧T∧(i=o)∧x∧y∧Q∧R∧z∧A∧L∧M∧True)∧b∧k∧q∧(zQI m.p2 d i=zQI m.p2 d o)∧True)))))))))))))∧(∀ _u:Unit,True→tU2 (decide ((3:Int) < 5)=true∧tU2 (t5∧tU4 (tU8 ((Ans prog 14 [rJ x3,rJ 4] (rJ (modS x3 (4:Int))))∧tU4 ((true=true)∧True∧((∃ i:Nat,(t6 i)∧((j∧(0=0)∧(0=0)∧t7∧(0=0)∧(0=0)∧(W i)∧True)∧(x4∧b∧x5∧(x∧y∧(dJ (wK (m.p3.w+(modS x3 (4:Int))))=dJ c)∧(0=i)∧True)∧k∧q∧P∧([]=zQI m.p3 c i)∧True)))∧∀ i:Nat,let r9:=(decide ((i:Int) < (wK (c*m.p3.h)))); let w5:=(Int.tmod (i:Int) c); let q0:=([dK (IntKind.wrap .u16 (wK ((40000:Int)+(i:Int))))]); let z1:=((wK ((wK (Int.tdiv (i:Int) c))*m.p3.s))+w5); let w6:=(nAt m.p3.xs ((wK z1).toNat*1)); let y2:=(zQI m.p3 c i); (t6 i)→tU7 ((r9=true→tU7 ((c≠0)∧tU3 ((true=true)∧(((decide (w5 < m.p3.w))=true→tU5 ((c≠0)∧tU6 ((c≠0)∧True∧(0≤wK z1∧wK z1 < (m.p3.n:Int)∧(wK z1).toNat*1 < m.p3.xs.length)∧((m.p3.xs[(wK z1).toNat*1]?=some (dK w6))∧True)∧True∧(true=true)∧tU4 ((zQ7 1 2 i 1 y2 ([dK w6]))∧tU5 (∃ i':Nat,(t9 i')∧(s0 i i')∧((s1 i i')∧(x4∧b∧x5∧(s2 i i')∧k∧q∧P∧(y2++([dK w6])=zQI m.p3 c i')∧True)))))))∧((decide (w5 < m.p3.w))=false→tU4 ((zQ7 1 2 i 1 y2 q0)∧tU5 (∃ i':Nat,(t9 i')∧(s0 i i')∧((s1 i i')∧(x4∧b∧x5∧(s2 i i')∧k∧q∧P∧(y2++q0=zQI m.p3 c i')∧True)))))))))∧(r9=false→tU3 (t5∧tU4 (∃ _u:Unit,True∧((j∧(0=0)∧(0=0)∧(dJ (wK ((3:Int)+1))=dJ 4)∧True)∧((C∧D∧E∧F∧G∧H∧I∧J∧r∧s∧B∧N∧t∧u∧O∧S∧v∧w∧T∧z6∧x∧y∧z7∧(i=p)∧z∧A∧L∧M∧True)∧b∧k∧q∧P∧(zQI m.p3 c i=zQI m.p3 c p)∧True)))))))))))))∧(∀ _u:Unit,True→tU2 (decide ((4:Int) < 5)=true∧tU2 (s3∧tU4 (tU8 ((Ans prog 14 [rJ x6,rJ 4] (rJ (modS x6 (4:Int))))∧tU4 ((true=true)∧True∧((∃ i:Nat,(s4 i)∧((j∧(0=0)∧(0=0)∧s5∧(0=0)∧(0=0)∧(W i)∧True)∧(x7∧b∧x8∧(z∧A∧(dJ (wK (m.p4.w+(modS x6 (4:Int))))=dJ h)∧(0=i)∧True)∧k∧q∧P∧z8∧([]=zQI m.p4 h i)∧True)))∧∀ i:Nat,let q1:=(decide ((i:Int) < (wK (h*m.p4.h)))); let w7:=(Int.tmod (i:Int) h); let q2:=([dK (IntKind.wrap .u16 (wK ((40000:Int)+(i:Int))))]); let z2:=((wK ((wK (Int.tdiv (i:Int) h))*m.p4.s))+w7); let w8:=(nAt m.p4.xs ((wK z2).toNat*1)); let y3:=(zQI m.p4 h i); (s4 i)→tU7 ((q1=true→tU7 ((h≠0)∧tU3 ((true=true)∧(((decide (w7 < m.p4.w))=true→tU5 ((h≠0)∧tU6 ((h≠0)∧True∧(0≤wK z2∧wK z2 < (m.p4.n:Int)∧(wK z2).toNat*1 < m.p4.xs.length)∧((m.p4.xs[(wK z2).toNat*1]?=some (dK w8))∧True)∧True∧(true=true)∧tU4 ((zQ7 1 2 i 1 y3 ([dK w8]))∧tU5 (∃ i':Nat,(s8 i')∧(s9 i i')∧((r0 i i')∧(x7∧b∧x8∧(r2 i i')∧k∧q∧P∧z8∧(y3++([dK w8])=zQI m.p4 h i')∧True)))))))∧((decide (w7 < m.p4.w))=false→tU4 ((zQ7 1 2 i 1 y3 q2)∧tU5 (∃ i':Nat,(s8 i')∧(s9 i i')∧((r0 i i')∧(x7∧b∧x8∧(r2 i i')∧k∧q∧P∧z8∧(y3++q2=zQI m.p4 h i')∧True)))))))))∧(q1=false→tU3 (s3∧tU4 (∃ _u:Unit,True∧((j∧(0=0)∧(0=0)∧(dJ (wK ((4:Int)+1))=dJ 5)∧True)∧((C∧D∧E∧F∧G∧H∧I∧J∧r∧s∧B∧N∧t∧u∧O∧S∧v∧w∧T∧z6∧x∧y∧z7∧s6∧z∧A∧r1∧(i=K)∧True)∧b∧k∧q∧P∧z8∧(zQI m.p4 h i=zQI m.p4 h K)∧True)))))))))))))∧(∀ _u:Unit,True→tU2 (decide ((5:Int) < 5)=false∧tU2 (RV.agg [dJ m.w,dJ m.h,dQ m.so,dK m.c.a,dK m.c.b,dK m.c.c,dK m.c.al,dK m.c.f,dJ m.p0.w,dJ m.p0.h,dJ f,dS l (zQI m.p0 f l),dJ m.p1.w,dJ m.p1.h,dJ e,dS n (zQI m.p1 e n),dJ m.p2.w,dJ m.p2.h,dJ d,dS o (zQI m.p2 d o),dJ m.p3.w,dJ m.p3.h,dJ c,dS p (zQI m.p3 c p),dJ m.p4.w,dJ m.p4.h,dJ h,dS K (zQI m.p4 h K)]=RV.agg w9)))∧True))))) ?_
  delta tU2 tU3 tU4 tU5 tU6 tU7 tU8 dJ dK dQ wK dS rJ
  simp only [sS,zQG,zQC,zQM,zQP,zQL,zQQ,zQR,zQ8,zJP]
  cases hs:m.so with
  | true=>simp [zQi,hs]
  | false=>
  obtain ⟨u0,u1,u2,u3,u4⟩:=hu
  obtain ⟨qf,qi⟩:=Im.formed_of hf
  obtain ⟨f1,f2,f3,f4,f5⟩:=zZ2 qf
  obtain ⟨qc,z0,z1,z2,z3,z4⟩:=Im.inner_planes qi hs
  have S0:=@zKm m.p0 more 0 ⟨by omega,by omega⟩
  have N0:=@zKn m.p0 (strS m.p0 more 0) ⟨by omega,by omega⟩ ⟨by omega,by omega⟩
  have A0:=fun (i:Nat) hi hx=>@zG9 m.p0 u0 z0.1 (strS m.p0 more 0) ⟨by omega,by omega⟩ ⟨by omega,by omega⟩ ⟨by omega,by omega⟩ i hi hx
  have T0:strS m.p0 more 0≠0:=by omega
  have S1:=@zKm m.p1 more 1 ⟨by omega,by omega⟩
  have N1:=@zKn m.p1 (strS m.p1 more 1) ⟨by omega,by omega⟩ ⟨by omega,by omega⟩
  have A1:=fun (i:Nat) hi hx=>@zG9 m.p1 u1 z1.1 (strS m.p1 more 1) ⟨by omega,by omega⟩ ⟨by omega,by omega⟩ ⟨by omega,by omega⟩ i hi hx
  have T1:strS m.p1 more 1≠0:=by omega
  have S2:=@zKm m.p2 more 2 ⟨by omega,by omega⟩
  have N2:=@zKn m.p2 (strS m.p2 more 2) ⟨by omega,by omega⟩ ⟨by omega,by omega⟩
  have A2:=fun (i:Nat) hi hx=>@zG9 m.p2 u2 z2.1 (strS m.p2 more 2) ⟨by omega,by omega⟩ ⟨by omega,by omega⟩ ⟨by omega,by omega⟩ i hi hx
  have T2:strS m.p2 more 2≠0:=by omega
  have S3:=@zKm m.p3 more 3 ⟨by omega,by omega⟩
  have N3:=@zKn m.p3 (strS m.p3 more 3) ⟨by omega,by omega⟩ ⟨by omega,by omega⟩
  have A3:=fun (i:Nat) hi hx=>@zG9 m.p3 u3 z3.1 (strS m.p3 more 3) ⟨by omega,by omega⟩ ⟨by omega,by omega⟩ ⟨by omega,by omega⟩ i hi hx
  have T3:strS m.p3 more 3≠0:=by omega
  have S4:=@zKm m.p4 more 4 ⟨by omega,by omega⟩
  have N4:=@zKn m.p4 (strS m.p4 more 4) ⟨by omega,by omega⟩ ⟨by omega,by omega⟩
  have A4:=fun (i:Nat) hi hx=>@zG9 m.p4 u4 z4.1 (strS m.p4 more 4) ⟨by omega,by omega⟩ ⟨by omega,by omega⟩ ⟨by omega,by omega⟩ i hi hx
  have T4:strS m.p4 more 4≠0:=by omega
  refine ⟨fun q=>absurd q (by simp),fun _=>⟨⟨(),trivial⟩,⟨by decide,⟨by decide,by decide⟩,⟨0,Nat.zero_le _,rfl,⟨rfl,rfl⟩,rfl⟩,fun i hi=>⟨fun a=>⟨T0,fun b=>⟨T0,T0,(A0 i (by omega) b).1,(A0 i (by omega) b).2,zKd a N0,zYt a N0 (zWc b)⟩,fun b=>⟨zKd a N0,zYt a N0 (zKM b)⟩⟩,fun a=>⟨⟨by decide,by decide⟩,(),by decide,by omega,by rw [show i=(strN m.p0 (strS m.p0 more 0)) by omega]⟩⟩⟩,
   ⟨by decide,⟨by decide,by decide⟩,⟨0,Nat.zero_le _,rfl,⟨rfl,rfl⟩,rfl⟩,fun i hi=>⟨fun a=>⟨T1,fun b=>⟨T1,T1,(A1 i (by omega) b).1,(A1 i (by omega) b).2,zKd a N1,zYt a N1 (zWc b)⟩,fun b=>⟨zKd a N1,zYt a N1 (zKM b)⟩⟩,fun a=>⟨⟨by decide,by decide⟩,(),by decide,by omega,by rw [show i=(strN m.p1 (strS m.p1 more 1)) by omega]⟩⟩⟩,
   ⟨by decide,⟨by decide,by decide⟩,⟨0,Nat.zero_le _,rfl,⟨rfl,rfl⟩,rfl⟩,fun i hi=>⟨fun a=>⟨T2,fun b=>⟨T2,T2,(A2 i (by omega) b).1,(A2 i (by omega) b).2,zKd a N2,zYt a N2 (zWc b)⟩,fun b=>⟨zKd a N2,zYt a N2 (zKM b)⟩⟩,fun a=>⟨⟨by decide,by decide⟩,(),by decide,by omega,by rw [show i=(strN m.p2 (strS m.p2 more 2)) by omega]⟩⟩⟩,
   ⟨by decide,⟨by decide,by decide⟩,⟨0,Nat.zero_le _,rfl,⟨rfl,rfl⟩,rfl⟩,fun i hi=>⟨fun a=>⟨T3,fun b=>⟨T3,T3,(A3 i (by omega) b).1,(A3 i (by omega) b).2,zKd a N3,zYt a N3 (zWc b)⟩,fun b=>⟨zKd a N3,zYt a N3 (zKM b)⟩⟩,fun a=>⟨⟨by decide,by decide⟩,(),by decide,by omega,by rw [show i=(strN m.p3 (strS m.p3 more 3)) by omega]⟩⟩⟩,
   ⟨by decide,⟨by decide,by decide⟩,⟨0,Nat.zero_le _,rfl,⟨rfl,rfl⟩,rfl⟩,fun i hi=>⟨fun a=>⟨T4,fun b=>⟨T4,T4,(A4 i (by omega) b).1,(A4 i (by omega) b).2,zKd a N4,zYt a N4 (zWc b)⟩,fun b=>⟨zKd a N4,zYt a N4 (zKM b)⟩⟩,fun a=>⟨⟨by decide,by decide⟩,(),by decide,by omega,by rw [show i=(strN m.p4 (strS m.p4 more 4)) by omega]⟩⟩⟩,by decide,?_⟩⟩
  simp [zQi,hs,strP]
end
def zZ3 (P:Program) (ls:List TypeId) (n:Nat) (xs:List DV):Prop:=
 xs.length=n*ls.length∧∀ (j:Nat) d,xs[j]?=some d→∃ t',ls[j % ls.length]?=some t'∧∃ q,zXl P q t' d
theorem zZ3.at_ {P:Program} {ls:List TypeId} {n:Nat} {xs:List DV} (h:zZ3 P ls n xs) {k r:Nat} {t:TypeId} (hk:k < n) (hr:ls[r]?=some t):∃ d q,xs[k*ls.length+r]?=some d∧zXl P q t d:=by
 obtain ⟨hn,hx⟩:=h
 have hr':r < ls.length:=(List.getElem?_eq_some_iff.1 hr).1
 have hle:(k+1)*ls.length≤n*ls.length:=Nat.mul_le_mul_right _ (by omega)
 rw [Nat.add_mul] at hle
 have hj:k*ls.length+r < xs.length:=by omega
 obtain ⟨t',a,q,b⟩:=hx _ _ (List.getElem?_eq_getElem hj)
 rw [Nat.mul_comm k,Nat.mul_add_mod,Nat.mod_eq_of_lt hr',hr] at a
 injection a with a
 subst a
 exact ⟨_,q,List.getElem?_eq_getElem hj,b⟩
theorem zZ3.int {P:Program} {ls:List TypeId} {n:Nat} {xs:List DV} (h:zZ3 P ls n xs) {k r:Nat} {t:TypeId} {kk:IntKind} (hk:k < n) (hr:ls[r]?=some t) (hu:P.underlying t=some (.int kk)):xs[k*ls.length+r]?=some (.int kk (nAt xs (k*ls.length+r))):=by
 obtain ⟨d,q,e,b⟩:=h.at_ hk hr
 obtain ⟨v,rfl⟩:=b.int hu
 simp only [nAt,e]
theorem zZ3.bool {P:Program} {ls:List TypeId} {n:Nat} {xs:List DV} (h:zZ3 P ls n xs) {k r:Nat} {t:TypeId} (hk:k < n) (hr:ls[r]?=some t) (hu:P.underlying t=some .bool):xs[k*ls.length+r]?=some (.bool (bAt xs (k*ls.length+r))):=by
 obtain ⟨d,q,e,b⟩:=h.at_ hk hr
 obtain ⟨v,rfl⟩:=b.bool hu
 simp only [bAt,e]
theorem zZ3.sl {P:Program} {ls:List TypeId} {n:Nat} {xs:List DV} (h:zZ3 P ls n xs) {k r:Nat} {t e:TypeId} {ms:List TypeId} (hk:k < n) (hr:ls[r]?=some t) (hu:P.underlying t=some (.slice e)) (hl:lv P e=some ms) :
  xs[k*ls.length+r]?=some (.sl (lAt xs (k*ls.length+r)) (cAt xs (k*ls.length+r)))∧zZ3 P ms (lAt xs (k*ls.length+r)) (cAt xs (k*ls.length+r)):=by
 obtain ⟨d,q,e1,b⟩:=h.at_ hk hr
 obtain ⟨m,ys,rfl,_,h1,h2⟩:=b.slice hu hl
 simp only [lAt,cAt,e1]
 exact ⟨trivial,h1,h2⟩
theorem zZ3.ints {P:Program} {t:TypeId} {n:Nat} {xs:List DV} (h:zZ3 P [t] n xs) (hu:P.underlying t=some (.int .i64)):xs=is (ints xs)∧n=xs.length:=
 jJ6 (by have:=h.1; simpa using this) fun j d hj=>by obtain ⟨t',a,q,b⟩:=h.2 j d hj; exact jZA hu a b
theorem zZ3.five {P:Program} {t:TypeId} {n:Nat} {xs:List DV} (h:zZ3 P [t,t,t,t,t] n xs) (hu:P.underlying t=some (.int .i64)):Is5 n xs:=
 jVw h.1 fun j d hj=>by obtain ⟨t',a,q,b⟩:=h.2 j d hj; exact jJs hu a b
theorem zZ3.pics {P:Program} {t ts e:TypeId} {n:Nat} {xs:List DV} (h:zZ3 P [t,t,t,t,ts] n xs) (hu:P.underlying t=some (.int .i64)) (hs:P.underlying ts=some (.slice e)) (hl:lv P e=some [t,t,t,t,t]):jKh n xs:=
 ⟨h.1,fun k hk=>⟨h.int (r:=0) hk rfl hu,h.int (r:=1) hk rfl hu,h.int (r:=2) hk rfl hu,h.int (r:=3) hk rfl hu,(h.sl (r:=4) hk rfl hs hl).1,(h.sl (r:=4) hk rfl hs hl).2.five hu⟩⟩
theorem zZ3.raws {P:Program} {t:TypeId} {n:Nat} {xs:List DV} (h:zZ3 P [t,t,t,t,t,t,t,t,t,t,t] n xs) (hu:P.underlying t=some (.int .i64)):jVJ n xs:=by
 refine ⟨h.1,fun i hi=>?_⟩
 have hr:[t,t,t,t,t,t,t,t,t,t,t][i % 11]?=some t:=by
  have h2:i % 11 < 11:=Nat.mod_lt _ (by omega)
  generalize i % 11=r at *
  match r,h2 with
  | 0,_ | 1,_ | 2,_ | 3,_ | 4,_ | 5,_ | 6,_ | 7,_ | 8,_ | 9,_ | 10,_=>rfl
 have:=h.int (k:=i / 11) (r:=i % 11) (by omega) hr hu
 have e:i / 11*[t,t,t,t,t,t,t,t,t,t,t].length+i % 11=i:=by show i / 11*11+i % 11=i; omega
 rw [e] at this
 exact this
theorem jYL {xs ys:List DV} {n m:Nat} (hx:xs.length=n*m) (hy:ys.length=n*m) (h:∀ k,k < n→∀ j,j < m→xs[k*m+j]?=ys[k*m+j]?):xs=ys:=by
 refine List.ext_getElem? fun i=>?_
 by_cases hi:i < n*m
 ·have hm:0 < m:=by
   rcases Nat.eq_zero_or_pos m with h0 | h0
   ·subst h0; simp at hi
   ·exact h0
  have:=h (i / m) (Nat.div_lt_of_lt_mul (by rw [Nat.mul_comm]; exact hi)) (i % m) (Nat.mod_lt _ hm)
  have e:i / m*m+i % m=i:=by rw [Nat.mul_comm]; exact Nat.div_add_mod i m
  rw [e] at this
  exact this
 ·rw [List.getElem?_eq_none (by omega),List.getElem?_eq_none (by omega)]
theorem zZ3.ops {P:Program} {t u b:TypeId} {n:Nat} {xs:List DV} (h:zZ3 P [t,t,t,t,t,t,t,u,t,t,b,b] n xs) (ht:P.underlying t=some (.int .i64)) (hu:P.underlying u=some (.int .u16)) (hb:P.underlying b=some .bool):jVW n xs:=by
 have hl:xs.length=n*12:=h.1
 have hn:(zZO xs).length=n:=by unfold zZO; rw [List.length_map,List.length_range,hl]; omega
 refine ⟨jYL hl (by rw [zQ9,hn]) fun k hk j hj=>?_,hn.symm⟩
 have e:(zZO xs)[k]'(by omega)=oqAt xs (k*12):=by simp [zZO]
 rw [zGn (by omega) j hj,e]
 have key:=fun r (hr:r < 12)=>h.at_ (k:=k) (r:=r) (t:=[t,t,t,t,t,t,t,u,t,t,b,b][r]) hk (List.getElem?_eq_getElem hr)
 match j,hj with
 | 0,_=>exact h.int (r:=0) hk rfl ht
 | 1,_=>exact h.int (r:=1) hk rfl ht
 | 2,_=>exact h.int (r:=2) hk rfl ht
 | 3,_=>exact h.int (r:=3) hk rfl ht
 | 4,_=>exact h.int (r:=4) hk rfl ht
 | 5,_=>exact h.int (r:=5) hk rfl ht
 | 6,_=>exact h.int (r:=6) hk rfl ht
 | 7,_=>exact h.int (r:=7) hk rfl hu
 | 8,_=>exact h.int (r:=8) hk rfl ht
 | 9,_=>exact h.int (r:=9) hk rfl ht
 | 10,_=>exact h.bool (r:=10) hk rfl hb
 | 11,_=>exact h.bool (r:=11) hk rfl hb
def IsBs (n:Nat) (xs:List DV):Prop:=xs.length=n∧∀ i,i < n→xs[i]?=some (.bool (bAt xs i))
theorem zZ3.bools {P:Program} {b:TypeId} {n:Nat} {xs:List DV} (h:zZ3 P [b] n xs) (hb:P.underlying b=some .bool):IsBs n xs:=
 ⟨by have:=h.1; simpa using this,fun i hi=>by
  have:=h.bool (k:=i) (r:=0) hi rfl hb
  simpa using this⟩
set_option maxHeartbeats 4000000
section
attribute [local irreducible] Ans AnsO AnsG AnsN AnsI
def zKw:Gam where
 pure:=fun f xs=>
  if f=10 then (match xs with | [.agg [.int _ w,.int _ h,.bool so,.int _ c0,.int _ c1,.int _ c2,.int _ ca,.int _ cf,.int _ w0,.int _ h0,.int _ s0,.sl n0 xs0,.int _ w1,.int _ h1,.int _ s1,.sl n1 xs1,.int _ w2,.int _ h2,.int _ s2,.sl n2 xs2,.int _ w3,.int _ h3,.int _ s3,.sl n3 xs3,.int _ w4,.int _ h4,.int _ s4,.sl n4 xs4],.d (.int _ more)]=>some (RV.agg [dJ (zQi ⟨w,h,so,⟨c0,c1,c2,ca,cf⟩,⟨w0,h0,s0,n0,xs0⟩,⟨w1,h1,s1,n1,xs1⟩,⟨w2,h2,s2,n2,xs2⟩,⟨w3,h3,s3,n3,xs3⟩,⟨w4,h4,s4,n4,xs4⟩⟩ more).w,dJ (zQi ⟨w,h,so,⟨c0,c1,c2,ca,cf⟩,⟨w0,h0,s0,n0,xs0⟩,⟨w1,h1,s1,n1,xs1⟩,⟨w2,h2,s2,n2,xs2⟩,⟨w3,h3,s3,n3,xs3⟩,⟨w4,h4,s4,n4,xs4⟩⟩ more).h,dQ (zQi ⟨w,h,so,⟨c0,c1,c2,ca,cf⟩,⟨w0,h0,s0,n0,xs0⟩,⟨w1,h1,s1,n1,xs1⟩,⟨w2,h2,s2,n2,xs2⟩,⟨w3,h3,s3,n3,xs3⟩,⟨w4,h4,s4,n4,xs4⟩⟩ more).so,dK (zQi ⟨w,h,so,⟨c0,c1,c2,ca,cf⟩,⟨w0,h0,s0,n0,xs0⟩,⟨w1,h1,s1,n1,xs1⟩,⟨w2,h2,s2,n2,xs2⟩,⟨w3,h3,s3,n3,xs3⟩,⟨w4,h4,s4,n4,xs4⟩⟩ more).c.a,dK (zQi ⟨w,h,so,⟨c0,c1,c2,ca,cf⟩,⟨w0,h0,s0,n0,xs0⟩,⟨w1,h1,s1,n1,xs1⟩,⟨w2,h2,s2,n2,xs2⟩,⟨w3,h3,s3,n3,xs3⟩,⟨w4,h4,s4,n4,xs4⟩⟩ more).c.b,dK (zQi ⟨w,h,so,⟨c0,c1,c2,ca,cf⟩,⟨w0,h0,s0,n0,xs0⟩,⟨w1,h1,s1,n1,xs1⟩,⟨w2,h2,s2,n2,xs2⟩,⟨w3,h3,s3,n3,xs3⟩,⟨w4,h4,s4,n4,xs4⟩⟩ more).c.c,dK (zQi ⟨w,h,so,⟨c0,c1,c2,ca,cf⟩,⟨w0,h0,s0,n0,xs0⟩,⟨w1,h1,s1,n1,xs1⟩,⟨w2,h2,s2,n2,xs2⟩,⟨w3,h3,s3,n3,xs3⟩,⟨w4,h4,s4,n4,xs4⟩⟩ more).c.al,dK (zQi ⟨w,h,so,⟨c0,c1,c2,ca,cf⟩,⟨w0,h0,s0,n0,xs0⟩,⟨w1,h1,s1,n1,xs1⟩,⟨w2,h2,s2,n2,xs2⟩,⟨w3,h3,s3,n3,xs3⟩,⟨w4,h4,s4,n4,xs4⟩⟩ more).c.f,dJ (zQi ⟨w,h,so,⟨c0,c1,c2,ca,cf⟩,⟨w0,h0,s0,n0,xs0⟩,⟨w1,h1,s1,n1,xs1⟩,⟨w2,h2,s2,n2,xs2⟩,⟨w3,h3,s3,n3,xs3⟩,⟨w4,h4,s4,n4,xs4⟩⟩ more).p0.w,dJ (zQi ⟨w,h,so,⟨c0,c1,c2,ca,cf⟩,⟨w0,h0,s0,n0,xs0⟩,⟨w1,h1,s1,n1,xs1⟩,⟨w2,h2,s2,n2,xs2⟩,⟨w3,h3,s3,n3,xs3⟩,⟨w4,h4,s4,n4,xs4⟩⟩ more).p0.h,dJ (zQi ⟨w,h,so,⟨c0,c1,c2,ca,cf⟩,⟨w0,h0,s0,n0,xs0⟩,⟨w1,h1,s1,n1,xs1⟩,⟨w2,h2,s2,n2,xs2⟩,⟨w3,h3,s3,n3,xs3⟩,⟨w4,h4,s4,n4,xs4⟩⟩ more).p0.s,dS (zQi ⟨w,h,so,⟨c0,c1,c2,ca,cf⟩,⟨w0,h0,s0,n0,xs0⟩,⟨w1,h1,s1,n1,xs1⟩,⟨w2,h2,s2,n2,xs2⟩,⟨w3,h3,s3,n3,xs3⟩,⟨w4,h4,s4,n4,xs4⟩⟩ more).p0.n (zQi ⟨w,h,so,⟨c0,c1,c2,ca,cf⟩,⟨w0,h0,s0,n0,xs0⟩,⟨w1,h1,s1,n1,xs1⟩,⟨w2,h2,s2,n2,xs2⟩,⟨w3,h3,s3,n3,xs3⟩,⟨w4,h4,s4,n4,xs4⟩⟩ more).p0.xs,dJ (zQi ⟨w,h,so,⟨c0,c1,c2,ca,cf⟩,⟨w0,h0,s0,n0,xs0⟩,⟨w1,h1,s1,n1,xs1⟩,⟨w2,h2,s2,n2,xs2⟩,⟨w3,h3,s3,n3,xs3⟩,⟨w4,h4,s4,n4,xs4⟩⟩ more).p1.w,dJ (zQi ⟨w,h,so,⟨c0,c1,c2,ca,cf⟩,⟨w0,h0,s0,n0,xs0⟩,⟨w1,h1,s1,n1,xs1⟩,⟨w2,h2,s2,n2,xs2⟩,⟨w3,h3,s3,n3,xs3⟩,⟨w4,h4,s4,n4,xs4⟩⟩ more).p1.h,dJ (zQi ⟨w,h,so,⟨c0,c1,c2,ca,cf⟩,⟨w0,h0,s0,n0,xs0⟩,⟨w1,h1,s1,n1,xs1⟩,⟨w2,h2,s2,n2,xs2⟩,⟨w3,h3,s3,n3,xs3⟩,⟨w4,h4,s4,n4,xs4⟩⟩ more).p1.s,dS (zQi ⟨w,h,so,⟨c0,c1,c2,ca,cf⟩,⟨w0,h0,s0,n0,xs0⟩,⟨w1,h1,s1,n1,xs1⟩,⟨w2,h2,s2,n2,xs2⟩,⟨w3,h3,s3,n3,xs3⟩,⟨w4,h4,s4,n4,xs4⟩⟩ more).p1.n (zQi ⟨w,h,so,⟨c0,c1,c2,ca,cf⟩,⟨w0,h0,s0,n0,xs0⟩,⟨w1,h1,s1,n1,xs1⟩,⟨w2,h2,s2,n2,xs2⟩,⟨w3,h3,s3,n3,xs3⟩,⟨w4,h4,s4,n4,xs4⟩⟩ more).p1.xs,dJ (zQi ⟨w,h,so,⟨c0,c1,c2,ca,cf⟩,⟨w0,h0,s0,n0,xs0⟩,⟨w1,h1,s1,n1,xs1⟩,⟨w2,h2,s2,n2,xs2⟩,⟨w3,h3,s3,n3,xs3⟩,⟨w4,h4,s4,n4,xs4⟩⟩ more).p2.w,dJ (zQi ⟨w,h,so,⟨c0,c1,c2,ca,cf⟩,⟨w0,h0,s0,n0,xs0⟩,⟨w1,h1,s1,n1,xs1⟩,⟨w2,h2,s2,n2,xs2⟩,⟨w3,h3,s3,n3,xs3⟩,⟨w4,h4,s4,n4,xs4⟩⟩ more).p2.h,dJ (zQi ⟨w,h,so,⟨c0,c1,c2,ca,cf⟩,⟨w0,h0,s0,n0,xs0⟩,⟨w1,h1,s1,n1,xs1⟩,⟨w2,h2,s2,n2,xs2⟩,⟨w3,h3,s3,n3,xs3⟩,⟨w4,h4,s4,n4,xs4⟩⟩ more).p2.s,dS (zQi ⟨w,h,so,⟨c0,c1,c2,ca,cf⟩,⟨w0,h0,s0,n0,xs0⟩,⟨w1,h1,s1,n1,xs1⟩,⟨w2,h2,s2,n2,xs2⟩,⟨w3,h3,s3,n3,xs3⟩,⟨w4,h4,s4,n4,xs4⟩⟩ more).p2.n (zQi ⟨w,h,so,⟨c0,c1,c2,ca,cf⟩,⟨w0,h0,s0,n0,xs0⟩,⟨w1,h1,s1,n1,xs1⟩,⟨w2,h2,s2,n2,xs2⟩,⟨w3,h3,s3,n3,xs3⟩,⟨w4,h4,s4,n4,xs4⟩⟩ more).p2.xs,dJ (zQi ⟨w,h,so,⟨c0,c1,c2,ca,cf⟩,⟨w0,h0,s0,n0,xs0⟩,⟨w1,h1,s1,n1,xs1⟩,⟨w2,h2,s2,n2,xs2⟩,⟨w3,h3,s3,n3,xs3⟩,⟨w4,h4,s4,n4,xs4⟩⟩ more).p3.w,dJ (zQi ⟨w,h,so,⟨c0,c1,c2,ca,cf⟩,⟨w0,h0,s0,n0,xs0⟩,⟨w1,h1,s1,n1,xs1⟩,⟨w2,h2,s2,n2,xs2⟩,⟨w3,h3,s3,n3,xs3⟩,⟨w4,h4,s4,n4,xs4⟩⟩ more).p3.h,dJ (zQi ⟨w,h,so,⟨c0,c1,c2,ca,cf⟩,⟨w0,h0,s0,n0,xs0⟩,⟨w1,h1,s1,n1,xs1⟩,⟨w2,h2,s2,n2,xs2⟩,⟨w3,h3,s3,n3,xs3⟩,⟨w4,h4,s4,n4,xs4⟩⟩ more).p3.s,dS (zQi ⟨w,h,so,⟨c0,c1,c2,ca,cf⟩,⟨w0,h0,s0,n0,xs0⟩,⟨w1,h1,s1,n1,xs1⟩,⟨w2,h2,s2,n2,xs2⟩,⟨w3,h3,s3,n3,xs3⟩,⟨w4,h4,s4,n4,xs4⟩⟩ more).p3.n (zQi ⟨w,h,so,⟨c0,c1,c2,ca,cf⟩,⟨w0,h0,s0,n0,xs0⟩,⟨w1,h1,s1,n1,xs1⟩,⟨w2,h2,s2,n2,xs2⟩,⟨w3,h3,s3,n3,xs3⟩,⟨w4,h4,s4,n4,xs4⟩⟩ more).p3.xs,dJ (zQi ⟨w,h,so,⟨c0,c1,c2,ca,cf⟩,⟨w0,h0,s0,n0,xs0⟩,⟨w1,h1,s1,n1,xs1⟩,⟨w2,h2,s2,n2,xs2⟩,⟨w3,h3,s3,n3,xs3⟩,⟨w4,h4,s4,n4,xs4⟩⟩ more).p4.w,dJ (zQi ⟨w,h,so,⟨c0,c1,c2,ca,cf⟩,⟨w0,h0,s0,n0,xs0⟩,⟨w1,h1,s1,n1,xs1⟩,⟨w2,h2,s2,n2,xs2⟩,⟨w3,h3,s3,n3,xs3⟩,⟨w4,h4,s4,n4,xs4⟩⟩ more).p4.h,dJ (zQi ⟨w,h,so,⟨c0,c1,c2,ca,cf⟩,⟨w0,h0,s0,n0,xs0⟩,⟨w1,h1,s1,n1,xs1⟩,⟨w2,h2,s2,n2,xs2⟩,⟨w3,h3,s3,n3,xs3⟩,⟨w4,h4,s4,n4,xs4⟩⟩ more).p4.s,dS (zQi ⟨w,h,so,⟨c0,c1,c2,ca,cf⟩,⟨w0,h0,s0,n0,xs0⟩,⟨w1,h1,s1,n1,xs1⟩,⟨w2,h2,s2,n2,xs2⟩,⟨w3,h3,s3,n3,xs3⟩,⟨w4,h4,s4,n4,xs4⟩⟩ more).p4.n (zQi ⟨w,h,so,⟨c0,c1,c2,ca,cf⟩,⟨w0,h0,s0,n0,xs0⟩,⟨w1,h1,s1,n1,xs1⟩,⟨w2,h2,s2,n2,xs2⟩,⟨w3,h3,s3,n3,xs3⟩,⟨w4,h4,s4,n4,xs4⟩⟩ more).p4.xs]) | _=>none) else
  if f=11 then gZ47 xs else
  if f=12 then gZ47 xs else
  if f=13 then (match xs with | []=>some (RV.d (dQ true)) | _=>none) else
  none
 modes:=fun f=>
  if f=9 then some ([true],0,3) else
  none
 proc:=fun f xs bs=>
  if f=9 then (match xs,bs with | [AV.agg [Cl.d (DV.int _ sb),Cl.d (DV.int _ sx),Cl.d (DV.int _ sy),Cl.d (DV.int _ sw),Cl.d (DV.int _ sh),Cl.d (DV.int _ stw),Cl.d (DV.int _ sth),Cl.d (DV.sl son soxs),Cl.d (DV.sl spn spxs),Cl.d (DV.sl srn srxs)]],[]=>some ⟨AV.agg [cJ (⟨sb,sx,sy,sw,sh,stw,sth,son,soxs,spn,spxs,srn,srxs⟩:Scn).bits,cJ (⟨sb,sx,sy,sw,sh,stw,sth,son,soxs,spn,spxs,srn,srxs⟩:Scn).c.a,cJ (⟨sb,sx,sy,sw,sh,stw,sth,son,soxs,spn,spxs,srn,srxs⟩:Scn).c.b,cJ (⟨sb,sx,sy,sw,sh,stw,sth,son,soxs,spn,spxs,srn,srxs⟩:Scn).c.c,cJ (⟨sb,sx,sy,sw,sh,stw,sth,son,soxs,spn,spxs,srn,srxs⟩:Scn).c.d,cJ (⟨sb,sx,sy,sw,sh,stw,sth,son,soxs,spn,spxs,srn,srxs⟩:Scn).gtw,cJ (⟨sb,sx,sy,sw,sh,stw,sth,son,soxs,spn,spxs,srn,srxs⟩:Scn).gth,Cl.ref 0 (⟨sb,sx,sy,sw,sh,stw,sth,son,soxs,spn,spxs,srn,srxs⟩:Scn).ord.length,Cl.ref 1 (⟨sb,sx,sy,sw,sh,stw,sth,son,soxs,spn,spxs,srn,srxs⟩:Scn).ims.length,Cl.ref 2 (⟨sb,sx,sy,sw,sh,stw,sth,son,soxs,spn,spxs,srn,srxs⟩:Scn).ops.length],[Bx.row 3 1 (is (⟨sb,sx,sy,sw,sh,stw,sth,son,soxs,spn,spxs,srn,srxs⟩:Scn).ord),Bx.row 43 28 (ims (⟨sb,sx,sy,sw,sh,stw,sth,son,soxs,spn,spxs,srn,srxs⟩:Scn).ims),Bx.row 51 12 (ops (⟨sb,sx,sy,sw,sh,stw,sth,son,soxs,spn,spxs,srn,srxs⟩:Scn).ops)],false⟩ | _,_=>none) else
  none
 iter:=fun f cs=>
  none
theorem zYO (s:Scn) (more:Int) (hs:s.ok):Ans prog 3 [RV.agg [dJ s.b,dJ s.x,dJ s.y,dJ s.w,dJ s.h,dJ s.tw,dJ s.th,dS s.on s.oxs,dS s.pn s.pxs,dS s.rn s.rxs],rJ (more)] (RV.d (dQ true)):=
 zQk (Γ:=zKw) (Ann.seq Ann.leaf (Ann.seq Ann.leaf (Ann.seq (Ann.seq Ann.leaf (Ann.loop ⟨Nat,fun k=>k≤s.ims.length,fun k=>⟨[(1,aJ more),(5,AV.one (Cl.ptr 5 0)),(6,aJ (k:Int))],[(5,bC [cJ s.bits,cJ s.c.a,cJ s.c.b,cJ s.c.c,cJ s.c.d,cJ s.gtw,cJ s.gth,Cl.ref 9000 s.ord.length,Cl.ref 9001 s.ims.length,Cl.ref 9002 s.ops.length]),(9000,Bx.row 3 1 (is s.ord)),(9001,Bx.row 43 28 (ims (zYS s.ims more k))),(9002,Bx.row 51 12 (ops s.ops))]⟩,fun k=>s.ims.length - k⟩ fun k=>Ann.leaf)) Ann.leaf))) zQu Tryz.func3 rfl (Nat.le_of_ble_eq_true rfl) fun hwf=>by
  refine Eq.mpr (by kernel_rfl:_=(let e:=(s.ims.length:Int); let b:=(RV.d (dQ false)=RV.d (dQ true)); let f:=(dJ more=dJ more); let l:=(dJ s.bits=dJ s.bits); let m:=(dJ s.c.a=dJ s.c.a); let n:=(dJ s.c.b=dJ s.c.b); let o:=(dJ s.c.c=dJ s.c.c); let p:=(dJ s.c.d=dJ s.c.d); let q:=(dJ s.gtw=dJ s.gtw); let r:=(dJ s.gth=dJ s.gth); let t:=(s.ord.length=s.ord.length); let u:=(s.ops.length=s.ops.length); let g:=(l∧m∧n∧o∧p∧q∧r∧t∧(s.ims.length=s.ims.length)∧u∧True); let h:=fun (k:Nat)=>(0≤(k:Int)∧(k:Int) < e); let i:=fun (k:Nat)=>[RV.agg [dJ s.bits,dJ s.c.a,dJ s.c.b,dJ s.c.c,dJ s.c.d,dJ s.gtw,dJ s.gth,dS s.ord.length (is s.ord),dS s.ims.length (ims (zYS s.ims more k)),dS s.ops.length (ops s.ops)]]; tU3 ((AnsG prog 9 0 [AV.agg [cJ s.b,cJ s.x,cJ s.y,cJ s.w,cJ s.h,cJ s.tw,cJ s.th,Cl.d (dS s.on s.oxs),Cl.d (dS s.pn s.pxs),Cl.d (dS s.rn s.rxs)]] [] ⟨AV.agg [cJ s.bits,cJ s.c.a,cJ s.c.b,cJ s.c.c,cJ s.c.d,cJ s.gtw,cJ s.gth,Cl.ref 0 s.ord.length,Cl.ref 1 s.ims.length,Cl.ref 2 s.ops.length],[Bx.row 3 1 (is s.ord),Bx.row 43 28 (ims s.ims),Bx.row 51 12 (ops s.ops)],false⟩)∧tU3 ((∃ k:Nat,(k≤s.ims.length)∧((f∧(0=0)∧(dJ 0=dJ (k:Int))∧True)∧(g∧(is s.ord=is s.ord)∧(ims s.ims=ims (zYS s.ims more k))∧(ops s.ops=ops s.ops)∧True)))∧∀ k:Nat,let j:=(decide ((k:Int) < e)); let c:=((k:Int).toNat*28); let a:=(ims (zYS s.ims more k)); let d:=(imQ a c); (k≤s.ims.length)→tU3 ((s.ims.length≤maxLen)∧True∧((j=true→tU6 ((h k)∧(imQr a c)∧True∧(Ans prog 10 [imR d,rJ more] (imR (zQi d more)))∧(h k)∧((k:Int).toNat*28+28≤a.length)∧(true=true)∧tU3 (∃ k':Nat,(k'≤s.ims.length)∧(s.ims.length - k' < s.ims.length - k)∧((f∧(0=0)∧(dJ (wK ((k:Int)+1))=dJ (k':Int))∧True)∧(g∧(is s.ord=is s.ord)∧(sets a c (Im.ds (zQi d more))=ims (zYS s.ims more k'))∧(ops s.ops=ops s.ops)∧True)))))∧(j=false→True∧(Ans prog 11 (i k) (RV.tup [RV.d (DV.str (toS (fmtR (⟨s.bits,s.c,s.gtw,s.gth,ints (is s.ord),zXs a,zZO (ops s.ops)⟩:Scr)).1)),rJ (fmtR (⟨s.bits,s.c,s.gtw,s.gth,ints (is s.ord),zXs a,zZO (ops s.ops)⟩:Scr)).2]))∧tU6 ((Ans prog 12 (i k) (RV.tup [RV.d (DV.str (toS (fmtR (⟨s.bits,s.c,s.gtw,s.gth,ints (is s.ord),zXs a,zZO (ops s.ops)⟩:Scr)).1)),rJ (fmtR (⟨s.bits,s.c,s.gtw,s.gth,ints (is s.ord),zXs a,zZO (ops s.ops)⟩:Scr)).2]))∧tU5 ((Ans prog 13 [] (RV.d (dQ true)))∧True∧((true=true→tU4 ((((fmtR (⟨s.bits,s.c,s.gtw,s.gth,ints (is s.ord),zXs a,zZO (ops s.ops)⟩:Scr)).2==0)=true→tU4 ((((fmtR (⟨s.bits,s.c,s.gtw,s.gth,ints (is s.ord),zXs a,zZO (ops s.ops)⟩:Scr)).2==0)=true→tU5 (RV.d (dQ ((toS (fmtR (⟨s.bits,s.c,s.gtw,s.gth,ints (is s.ord),zXs a,zZO (ops s.ops)⟩:Scr)).1).toList==(toS (fmtR (⟨s.bits,s.c,s.gtw,s.gth,ints (is s.ord),zXs a,zZO (ops s.ops)⟩:Scr)).1).toList))=RV.d (dQ true)))∧(((fmtR (⟨s.bits,s.c,s.gtw,s.gth,ints (is s.ord),zXs a,zZO (ops s.ops)⟩:Scr)).2==0)=(!true)→tU2 b)))∧(((fmtR (⟨s.bits,s.c,s.gtw,s.gth,ints (is s.ord),zXs a,zZO (ops s.ops)⟩:Scr)).2==0)=(!true)→tU4 b)))∧(true=(!true)→tU6 b))))))))))) ?_
  delta tU2 tU3 tU4 tU5 tU6 dJ dQ cJ wK dS rJ
  simp only [sS,imQ,imQr,zG3,zQG]
  have li:=s.ims_len
  have hol:=s.ops_len
  have hod:=s.ord_len
  have hM:∀ n:Nat,n≤100→n≤maxLen:=fun n h=>by unfold maxLen; omega
  refine ⟨jQf s hs,⟨0,Nat.zero_le _,rfl,by rw [jZZ]⟩,fun k hk=>⟨hM _ (by omega),fun h1=>?_,fun h1=>?_⟩⟩
  ·have hk1:k < s.ims.length:=by omega
   have hl:(zYS s.ims more k).length=s.ims.length:=zHa _ _ _
   have q1:=zWM (l:=zYS s.ims more k) (k:=k) (by omega)
   have q2:=zWN (l:=zYS s.ims more k) (k:=k) (by omega)
   rw [jYV hk1] at q1 q2
   simp only [q2]
   obtain ⟨f1,f2,f3,f4⟩:=s.fine _ (List.getElem_mem hk1)
   have st:=zG4 s.ims[k] more (s.ims_isU _ (List.getElem_mem hk1)) f1 f2
   refine ⟨⟨by omega,by omega⟩,q1,st,⟨by omega,by omega⟩,?_⟩
   refine ⟨by rw [zZS]; omega,k+1,by omega,by omega,zXa (by omega),?_⟩
   exact (jJt (by omega) (zQi s.ims[k] more)).trans (congrArg ims (jZ0 hk1))
  ·have:k=s.ims.length:=by omega
   subst this
   have hU:∀ m∈s.ims.map (zQi · more),m.isU:=fun m hm=>by
    obtain ⟨m',h',rfl⟩:=List.mem_map.1 hm
    exact zHQ (s.ims_isU _ h') more
   have hl:(s.ims.map (zQi · more)).length=s.ims.length:=by simp
   have a1:=zJp ⟨s.bits,s.c,s.gtw,s.gth,s.ord,s.ims.map (zQi · more),s.ops⟩ hU (fun m hm _=>s.strs_in more m hm) s.ops_opac (by show s.ord.length≤_; omega)
   have a2:=zUr ⟨s.bits,s.c,s.gtw,s.gth,s.ord,s.ims.map (zQi · more),s.ops⟩ hU (fun m hm _=>s.strs_in more m hm) s.ops_opac
   have eF:=s.fmt_str more
   simp only [zQO,zZz,zZi,jXG,hl,eF] at a1 a2 ⊢
   generalize fmtT ⟨s.bits,s.c,s.gtw,s.gth,s.ord,s.ims.map (zQi · more),s.ops⟩=B at *
   have nf:∀ {p:Prop},(true=false)→p:=fun h=>by cases h
   refine ⟨a1,a2,?_⟩
   (repeat' (first | apply And.intro | intro _)) <;> first | exact beq_self_eq_true _ | (rename_i h; first | exact nf h | exact absurd h (by decide))
end
end Go.Proofs.YtheidkkebdhmkaaGreatDoor
namespace Go.Proofs.YtheidkkebdhmkaaGreatDoor.closed
open Go
set_option linter.unusedVariables false
set_option linter.unusedSimpArgs false
def headL:List Nat:=[104,97,114,110,101,115,115,32,101,102,101,98,55,102,102,55,100,48,100,97,100,54,55,52,54,48,98,50,53,49,49,97,52,97,100,100,52,101,50,101,100,54,50,52,97,99,99,55,102,56,56,99,100,49,54,48,98,52,48,52,49,52,48,101,100,50,57,51,50,48,48,57,32,99,117,116,32,97,116,32,99,111,109,112,111,115,105,116,111,114,47,99,111,109,112,111,115,105,116,111,114,108,97,119,49,57,46,84,101,120,116,70,111,114,109,97,116,65,103,114,101,101,115,32,99,111,109,112,111,115,105,116,111,114,47,99,111,109,112,111,115,105,116,111,114,108,97,119,49,57,46,84,101,120,116,70,111,114,109,97,116,82,101,106,101,99,116,115,32,99,111,109,112,111,115,105,116,111,114,47,99,111,109,112,111,115,105,116,111,114,108,97,119,49,57,46,84,101,120,116,82,111,117,110,100,84,114,105,112,32,99,111,109,112,111,115,105,116,111,114,47,99,111,109,112,111,115,105,116,111,114,108,97,119,49,57,46,84,101,120,116,80,97,114,115,101,65,103,114,101,101,115,32,99,111,109,112,111,115,105,116,111,114,47,99,111,109,112,111,115,105,116,111,114,108,97,119,49,57,46,84,101,120,116,80,97,114,115,101,79,102,68,97,109,97,103,101,32,99,111,109,112,111,115,105,116,111,114,47,99,111,109,112,111,115,105,116,111,114,108,97,119,49,57,46,84,101,120,116,82,101,112,111,114,116,115,84,104,101,76,105,110,101]
set_option maxRecDepth 100000 in
theorem jJz:Tryz.prog.initOrder=String.ofList (headL.map Char.ofNat):=by kernel_rfl
set_option maxRecDepth 100000 in
theorem zWR:Tryz.prog.initOrder.toList=(headL.map Char.ofNat):=by rw [jJz,String.toList_ofList]
set_option maxRecDepth 100000 in
theorem enters:Tryz.prog.mayEnter=true:=by
 unfold Program.mayEnter Program.doorFits
 rw [zWR]
 kernel_rfl
set_option maxRecDepth 100000 in
theorem liftsNot:Tryz.prog.liftsFinal=false:=by
 unfold Program.liftsFinal Program.headLifts
 rw [zWR]
 kernel_rfl
set_option maxRecDepth 100000 in
theorem made:Tryz.prog.make=some .cut:=by
 unfold Program.make
 rw [zWR]
 kernel_rfl
theorem own:ownKnob Tryz.prog.godebug=none:=by kernel_rfl
theorem laidOut:laidOutB Tryz.prog=true:=by kernel_rfl
theorem mapsRow:mapsRowed Tryz.prog=true:=by kernel_rfl
theorem noStops:(Tryz.prog.stops==[])=true:=by kernel_rfl
theorem noKnobs:(Tryz.prog.stopKnobs==[])=true:=by kernel_rfl
theorem plain:Tryz.prog.plainKeys=true:=by kernel_rfl
theorem heard:Tryz.prog.stopsHeard=true:=by kernel_rfl
end Go.Proofs.YtheidkkebdhmkaaGreatDoor.closed
namespace Go.Proofs.YtheidkkebdhmkaaGreatDoor
open Go.RowKit
set_option linter.unusedVariables false
set_option linter.unusedSimpArgs false
set_option maxRecDepth 20000
section
open Go.ChangeShapes
open Go.WideShapes
def zW3 {H:Type} (P:Program):Nat→TypeId→DataW H→Nat→Option DV
 | 0,_,_,_=>none
 | fuel+1,t,d,i=>
  match P.underlying t,d with
  | some (.int k),.lit (.int k' n)=>if i=0∧k'=k then some (.int k n) else none
  | some .bool,.lit (.bool b)=>if i=0 then some (.bool b) else none
  | some .string,.lit (.string s)=>if i=0∧s.length≤maxLen then some (.str ⟨s.toArray⟩) else none
  | some (.struct fs),.agg ds=>(fs.toList.zip ds).findSome? fun x=>if x.1.offset≤i∧i < x.1.offset+P.cellsOf x.1.type then zW3 P fuel x.1.type x.2 (i - x.1.offset) else none
  | some (.array _ e),.agg ds=>if P.cellsOf e=0 then none else match ds[i / P.cellsOf e]? with
   | some d=>zW3 P fuel e d (i % P.cellsOf e)
   | none=>none
  | _,_=>none
section
variable {H:Type} {enc:TypeId × Value→H} {P:Program} {w:World}
theorem zH4 {sp:Nat→Bool} {va:Bool} {V:Nat→Prop}:∀ (fuel:Nat) (t:TypeId) (cs:List Value) (d:DataW H) (ps:List MemPlace) (q i:Nat) (dv:DV),
  DataW.trod enc P w 0 sp va fuel t cs=some (d,ps)→zW3 P q t d i=some dv→∃ u,cs[i]?=some u∧RepD w V dv u:=by
 intro fuel
 induction fuel with
 | zero=>intro t cs d ps q i dv h; simp [DataW.trod] at h
 | succ fuel ih=>
  intro t cs d ps q i dv h hq
  cases q with
  | zero=>simp [zW3] at hq
  | succ q=>
  unfold DataW.trod at h
  unfold zW3 at hq
  split at h
  ·rename_i b hu
   simp only [Option.some.injEq,Prod.mk.injEq] at h
   obtain ⟨rfl,_⟩:=h
   simp only [hu] at hq
   split at hq
   ·rename_i e; subst e; cases hq; exact ⟨_,rfl,by simp only [RepD]⟩
   ·cases hq
  ·rename_i k k' n hu
   split at h
   ·rename_i hk
    obtain ⟨rfl,hwf⟩:=hk
    simp only [Option.some.injEq,Prod.mk.injEq] at h
    obtain ⟨rfl,_⟩:=h
    simp only [hu] at hq
    split at hq
    ·rename_i e; obtain ⟨rfl,_⟩:=e; cases hq; exact ⟨_,rfl,by simp only [RepD]; exact ⟨trivial,hwf⟩⟩
    ·cases hq
   ·cases h
  ·rename_i hu
   simp only [hu] at hq
   cases hq
  ·rename_i s hu
   split at h
   ·simp only [Option.some.injEq,Prod.mk.injEq] at h
    obtain ⟨rfl,_⟩:=h
    simp only [hu] at hq
    split at hq
    ·rename_i e; obtain ⟨rfl,hl⟩:=e; cases hq
     exact ⟨_,rfl,by simp only [RepD]; exact ⟨by simp,by simpa using hl⟩⟩
    ·cases hq
   ·cases h
  ·rename_i hu; simp only [hu] at hq; cases hq
  ·rename_i hu; simp only [hu] at hq; cases hq
  ·rename_i hu; simp only [hu] at hq; cases hq
  ·rename_i hu; simp only [hu] at hq; cases hq
  ·rename_i fs hu
   split at h
   ·obtain ⟨xs,hxs,h⟩:=Option.map_eq_some_iff.1 h
    simp only [Prod.mk.injEq] at h
    obtain ⟨rfl,_⟩:=h
    simp only [hu] at hq
    obtain ⟨x,hx,hx2⟩:=List.exists_of_findSome?_eq_some hq
    split at hx2
    ·rename_i hr
     obtain ⟨j,hj,e⟩:=List.getElem_of_mem hx
     rw [List.getElem_zip] at e
     simp only [List.length_zip,List.length_map] at hj
     have h1:=mapM_some_get hxs j _ (List.getElem?_eq_getElem (by omega))
     rw [List.getElem?_eq_getElem (show j < xs.length by omega)] at h1
     subst e
     simp only [List.getElem_map] at hx2 hr
     obtain ⟨u,hu1,hu2⟩:=ih _ _ _ _ q _ dv h1 hx2
     refine ⟨u,?_,hu2⟩
     rw [List.getElem?_take,if_pos (by omega),List.getElem?_drop] at hu1
     rwa [show _+(i - _)=i from Nat.add_sub_of_le hr.1] at hu1
    ·cases hx2
   ·cases h
  ·rename_i n e hu
   split at h
   ·obtain ⟨xs,hxs,h⟩:=Option.map_eq_some_iff.1 h
    simp only [Prod.mk.injEq] at h
    obtain ⟨rfl,_⟩:=h
    simp only [hu] at hq
    split at hq
    ·cases hq
    ·rename_i hne
     split at hq
     ·rename_i d hd
      rw [List.getElem?_map] at hd
      obtain ⟨x,hx,rfl⟩:=Option.map_eq_some_iff.1 hd
      have hl:=mapM_some_length hxs
      simp only [List.length_range] at hl
      have hlt:i / P.cellsOf e < xs.length:=(List.getElem?_eq_some_iff.1 hx).1
      have h1:=mapM_some_get hxs (i / P.cellsOf e) (i / P.cellsOf e) (List.getElem?_range (by omega))
      rw [hx] at h1
      obtain ⟨u,hu1,hu2⟩:=ih _ _ _ _ q _ dv h1 hq
      refine ⟨u,?_,hu2⟩
      rw [List.getElem?_take,if_pos (Nat.mod_lt _ (Nat.pos_of_ne_zero hne)),List.getElem?_drop,Nat.mul_comm] at hu1
      rwa [Nat.div_add_mod] at hu1
     ·cases hq
   ·cases h
  all_goals first | (cases h; done) | (clear h ih; simp_all; done) | (clear h ih; split at hq <;> simp_all; done)
end
def jKm (P:Program) (laid:List (String × DataW Unit)) (p:Nat × List DV):Prop:=
 ∃ x t,x∈laid∧P.globalNamed x.1=some p.1∧(P.globals[p.1]?).map (·.type)=some t∧(List.range p.2.length).map (zW3 P 6 t x.2)=p.2.map some
def jXQ (P:Program) (laid:List (String × DataW Unit)) (g:Nat):Prop:=∃ x,x∈laid∧P.globalNamed x.1=some g∧∃ nm d,x.2=.iface nm d
def jVx (P:Program) (g:Nat):Prop:=∀ w:World,w.ShapedOpen P→∃ m,w.cell? ⟨g,0,none⟩=some (.int .i64 m)
theorem zGF {H:Type} {enc:TypeId × Value→H} {P:Program} {w:World} {sp:Nat→Bool} {va:Bool}:∀ {fuel:Nat} {t:TypeId} {cs:List Value} {nm:String} {d:DataW H} {ps:List MemPlace},DataW.trod enc P w 0 sp va fuel t cs=some (.iface nm d,ps)→∃ u v,cs=[.iface u v]:=by
 intro fuel t cs nm d ps h
 cases fuel with
 | zero=>simp [DataW.trod] at h
 | succ fuel=>
  unfold DataW.trod at h
  split at h
  all_goals first
   | exact ⟨_,_,rfl⟩
   |(simp at h; done)
   |(split at h <;> simp at h; done)
   |(exfalso; obtain ⟨x,_,h⟩:=Option.map_eq_some_iff.1 h; cases h; done)
   |(exfalso; split at h; (obtain ⟨x,_,h⟩:=Option.bind_eq_some_iff.1 h; obtain ⟨y,_,h⟩:=Option.map_eq_some_iff.1 h; cases h); cases h)
   |(exfalso; split at h; (split at h; (obtain ⟨x,_,h⟩:=Option.bind_eq_some_iff.1 h; simp only at h; split at h <;> cases h); cases h); cases h)
theorem zJz {P:Program} {w:World}:∀ {l:List (String × DataW Unit)} {ps:List MemPlace},DataW.LaidVars P w l ps→∀ x∈l,∃ g t cs fuel p,P.globalNamed x.1=some g∧(P.globals[g]?).map (·.type)=some t∧w.var? P x.1=some cs∧DataW.trod (fun _=>()) P w 0 (fun _=>true) false fuel t cs.toList=some (x.2,p)
 | [],_,_,x,hx=>by cases hx
 |(n,d)::r,ps,h,x,hx=>by
  obtain ⟨g,t,cs,fuel,p,q,h1,h2,h3,h4,h5,_⟩:=h
  rcases List.mem_cons.1 hx with rfl | hx
  ·exact ⟨g,t,cs,fuel,p,h1,h2,h3,h4⟩
  ·exact zJz h5 x hx
theorem jYp {P:Program} {laid:List (String × DataW Unit)} {w:World} (hm:laidMetH P laid w) (hp:(laid.all fun x=>x.2.handleName?.isNone)=true) (ht:∀ p∈zJF,jKm P laid p) (hs:∀ g∈zY2,jXQ P laid g) (hi:∀ g∈zJ1,∃ m,w.cell? ⟨g,0,none⟩=some (.int .i64 m)):zXH w (fun _=>True):=by
 rw [MakeChecks.laidMetH_plain _ _ _ hp] at hm
 obtain ⟨ps,hl,_⟩:=hm
 refine ⟨fun p hp _=>?_,fun g hg=>⟨trivial,?_⟩,fun g hg=>⟨trivial,hi g hg⟩⟩
 rotate_left
 ·obtain ⟨x,hx,h1,nm,d,hd⟩:=hs g hg
  obtain ⟨g',t',cs,fuel,q,g1,g2,g3,g4⟩:=zJz hl x hx
  rw [g1] at h1; injection h1 with h1; subst h1
  rw [hd] at g4
  obtain ⟨u,v,hc⟩:=zGF g4
  refine ⟨u,v,?_⟩
  rw [World.var?_cell g1 g3 0,← Array.getElem?_toList,hc]
  rfl
 obtain ⟨x,t,hx,h1,h2,h3⟩:=ht p hp
 obtain ⟨g,t',cs,fuel,q,g1,g2,g3,g4⟩:=zJz hl x hx
 rw [g1] at h1; injection h1 with h1; subst h1
 rw [g2] at h2; injection h2 with h2; subst h2
 refine ⟨trivial,RepCells.of_at fun i d hi=>?_⟩
 have hlt:i < p.2.length:=(List.getElem?_eq_some_iff.1 hi).1
 have h4:((List.range p.2.length).map (zW3 P 6 t' x.2))[i]?=(p.2.map some)[i]?:=by rw [h3]
 rw [List.getElem?_map,List.getElem?_range hlt,List.getElem?_map,hi] at h4
 simp only [Option.map_some,Option.some.injEq] at h4
 obtain ⟨u,hu1,hu2⟩:=zH4 (V:=fun _=>True) fuel t' cs.toList x.2 q 6 i d g4 h4
 refine ⟨u,?_,hu2⟩
 rw [Nat.zero_add,World.var?_cell g1 g3 i,← Array.getElem?_toList]
 exact hu1
theorem zGC {H:Type} {enc:TypeId × Value→H} {C:Checked} {os:Os} {f:FuncId} {fn:Func} {s:ChangeSpec} {tb:TypeId} {laid:List (String × DataW Unit)}
  (own:ownKnob C.prog.godebug=none) (started:os.Started) (noInit:C.prog.inits.idxOf? f=none) (hfn:C.prog.funcs[f]?=some fn)
  (witness:∃ (w:World) (tape:Tape) (i:Input),w.os=os∧(w.forCall tape i).Shaped C.prog∧i.vars=[]∧Input.okWide C.prog (w.forCall tape i) .any w.heap.size f i ∧
   ((s.pre enc C.prog fn [] false (w.forCall tape i).memory i.args∧laidMetH C.prog laid (w.forCall tape i).memory)∧sizedMet enc C.prog fn (OpenSpec.ofChange s) false (w.forCall tape i).memory i.args)∧({}:Assume).holds C.prog (lone (Frame.enter C.prog f i.args .normal) [] (w.forCall tape i)))
  (hspec:∀ ds:List (DataW H),ds.length=fn.params.toList.length→s.fn H ds={ results:=[.lit (.bool true)],args:=ds }) (hvars:s.vars=[])
  (hres:fn.resultTypes=#[tb]) (hb:C.prog.underlying tb=some .bool) (laidO:laidOutB C.prog=true)
  (hread:∀ t∈fn.params.toList,C.prog.readableRec t=true∧t < C.prog.types.size)
  (hp:(laid.all fun x=>x.2.handleName?.isNone)=true) (ht:∀ p∈zJF,jKm C.prog laid p) (hsn:∀ g∈zY2,jXQ C.prog laid g) (hin:∀ g∈zJ1,jVx C.prog g)
  (walk:∀ (W:World) (args:Array Value),zXH W (fun _=>True)→Args C.prog W fn.params.toList args.toList→Calls C.prog f args W fun e W'=>e=.returned (.bool true)∧Below W.heap.size W W') :
  ReturnsInHanded {} C os f .any (fun w args=>(s.pre enc C.prog fn [] false w args∧laidMetH C.prog laid w)∧sizedMet enc C.prog fn (OpenSpec.ofChange s) false w args) (s.post enc C.prog fn false true false false):=by
 refine returnsInHanded_of_calls own started noInit witness ?_
 intro w0 tape i0 _ hshape _ hok hpre _
 obtain ⟨_,_,_,fn',hfn',_,_,_,_,hval⟩:=hok
 have efn:=Option.some.inj (hfn'.symm.trans hfn)
 subst efn
 obtain ⟨⟨⟨ds,gs,before,hW0,_⟩,hlaid0⟩,hz⟩:=hpre
 have hW:=DataW.Whole.of_heap (w':=w0.forCall tape i0) (by rfl) hW0
 have hsz:(DataW.weightsEach C.prog (fn'.params.toList++s.plain.varTypes C.prog) (ds++gs)).all (·≤reachBytes)=true:=hz.weights hW0
 have hlaid:laidMetH C.prog laid (w0.forCall tape i0):=laidMetH.of_heap (w:=(w0.forCall tape i0).memory) (by rfl) hlaid0
 suffices h:Calls C.prog f i0.args (w0.forCall tape i0) fun e W'=>∃ v,e=.returned v∧s.post enc C.prog fn' false true false false (w0.forCall tape i0) i0.args v W' from
  h.mono fun e W' ⟨v,he,hp⟩=>by subst he; exact ChangeSpec.post_blind hp
 generalize w0.forCall tape i0=W at *
 generalize i0.args=args at *
 have hW':=hW
 obtain ⟨p,q,hA,hV,rfl,_,_⟩:=hW
 rw [hvars] at hV
 obtain ⟨rfl,rfl⟩:=trodVars_none hV
 have hvt:s.plain.varTypes C.prog=[]:=by simp [ChangeSpec.plain,DataSpec.varTypes,hvars]
 rw [hvt,List.append_nil,List.append_nil] at hsz
 obtain ⟨ha,hlen⟩:=zJJ hA (fun n hn=>by simpa using List.all_eq_true.1 hsz n hn) (fun j t v ht hv=>zW2 (hval j t v (by simpa using ht) (by simpa using hv)))
 refine (walk W args (jYp hlaid hp ht hsn fun g hg=>hin g hg W hshape) ha).mono fun e W' ⟨he,bel⟩=>?_
 subst he
 have hs:=hspec ds hlen
 refine ⟨_,rfl,ds,[],p++[],[],p,[],hW',?_,?_,?_,bel.frame _,fun h=>by cases h⟩
 ·rw [List.append_nil,hs,hres]
  exact trodAll_mk1 (shut_bool hb _)
 ·rw [List.append_nil,hs]
  exact zKH laidO bel hread hA
 ·rw [List.append_nil,hs,hvars]
  rfl
end
open Go.Proofs.Tryz (prog)
abbrev zGD:List (String × DataW Unit):=[("math/bits.deBruijn32tab", Rows.laid_math_bits_deBruijn32tab),("math/bits.deBruijn64tab", Rows.laid_math_bits_deBruijn64tab),("compositor/operator.rules", Rows.laid_compositor_operator_rules),("compositor/blend.names", Rows.laid_compositor_blend_names),("internal/strconv.uint64pow10", Rows.laid_internal_strconv_uint64pow10),("unicode/utf8.acceptRanges", Rows.laid_unicode_utf8_acceptRanges),("strconv.ErrRange", Rows.laid_strconv_ErrRange),("strconv.ErrSyntax", Rows.laid_strconv_ErrSyntax),("unicode/utf8.first", Rows.laid_unicode_utf8_first)]
set_option maxRecDepth 100000 in
theorem jVj:∀ p∈zJF,jKm prog zGD p:=by
 intro p hp
 simp only [zJF,List.mem_cons,List.not_mem_nil,or_false] at hp
 rcases hp with rfl | rfl | rfl | rfl | rfl | rfl
 ·exact ⟨("compositor/blend.names", Rows.laid_compositor_blend_names),151,(List.mem_cons_of_mem _ (List.mem_cons_of_mem _ (List.mem_cons_of_mem _ List.mem_cons_self))),by kernel_rfl,by kernel_rfl,by kernel_rfl⟩
 ·exact ⟨("compositor/operator.rules", Rows.laid_compositor_operator_rules),176,(List.mem_cons_of_mem _ (List.mem_cons_of_mem _ List.mem_cons_self)),by kernel_rfl,by kernel_rfl,by kernel_rfl⟩
 ·exact ⟨("internal/strconv.uint64pow10", Rows.laid_internal_strconv_uint64pow10),209,(List.mem_cons_of_mem _ (List.mem_cons_of_mem _ (List.mem_cons_of_mem _ (List.mem_cons_of_mem _ List.mem_cons_self)))),by kernel_rfl,by kernel_rfl,by kernel_rfl⟩
 ·exact ⟨("unicode/utf8.acceptRanges", Rows.laid_unicode_utf8_acceptRanges),222,(List.mem_cons_of_mem _ (List.mem_cons_of_mem _ (List.mem_cons_of_mem _ (List.mem_cons_of_mem _ (List.mem_cons_of_mem _ List.mem_cons_self))))),by kernel_rfl,by kernel_rfl,by kernel_rfl⟩
 ·exact ⟨("math/bits.deBruijn32tab", Rows.laid_math_bits_deBruijn32tab),227,List.mem_cons_self,by kernel_rfl,by kernel_rfl,by kernel_rfl⟩
 ·exact ⟨("math/bits.deBruijn64tab", Rows.laid_math_bits_deBruijn64tab),228,(List.mem_cons_of_mem _ List.mem_cons_self),by kernel_rfl,by kernel_rfl,by kernel_rfl⟩
set_option maxRecDepth 100000 in
theorem jKr:∀ g∈zY2,jXQ prog zGD g:=by
 intro g hg
 simp only [zY2,List.mem_cons,List.not_mem_nil,or_false] at hg
 rcases hg with rfl | rfl
 ·exact ⟨("strconv.ErrSyntax", Rows.laid_strconv_ErrSyntax),(List.mem_cons_of_mem _ (List.mem_cons_of_mem _ (List.mem_cons_of_mem _ (List.mem_cons_of_mem _ (List.mem_cons_of_mem _ (List.mem_cons_of_mem _ (List.mem_cons_of_mem _ List.mem_cons_self))))))),by kernel_rfl,_,_,rfl⟩
 ·exact ⟨("strconv.ErrRange", Rows.laid_strconv_ErrRange),(List.mem_cons_of_mem _ (List.mem_cons_of_mem _ (List.mem_cons_of_mem _ (List.mem_cons_of_mem _ (List.mem_cons_of_mem _ (List.mem_cons_of_mem _ List.mem_cons_self)))))),by kernel_rfl,_,_,rfl⟩
theorem jKV:∀ g∈zJ1,jVx prog g:=by
 intro g hg
 simp only [zJ1,List.mem_cons,List.not_mem_nil,or_false] at hg
 subst hg
 exact fun w h=>cell_of_shapedOpen_int (t:=3) (zero:=#[.int .i64 0]) h (Nat.le_of_ble_eq_true (by kernel_rfl)) (by kernel_rfl) (by kernel_rfl) (by kernel_rfl) (by kernel_rfl) (by kernel_rfl)
theorem zUS:(zGD.all fun x=>x.2.handleName?.isNone)=true:=by kernel_rfl
set_option maxRecDepth 100000 in
theorem jJG (os:Os) (args:Array Value):laidMetH prog zGD ((World.laidAll prog os zGD).forCall (fun _ _=>0) ⟨#[],args,[]⟩).memory:=by
 rw [MakeChecks.laidMetH_plain _ _ _ zUS]
 exact laidMet_laidAll _ (by kernel_rfl) (by kernel_rfl)
end Go.Proofs.YtheidkkebdhmkaaGreatDoor
