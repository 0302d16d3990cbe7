/-
  Part 4 of what TextParseOfDamage rests on.
-/
import Derived.Test.YtheidkkebdhmkaaGreatDoorTextParseOfDamageZ3
import Derived.WalkSmall
namespace Go.Proofs.YtheidkkebdhmkaaGreatDoor
open Go.RowKit
set_option linter.unusedVariables false
set_option linter.unusedSimpArgs false
set_option maxRecDepth 20000
open Go.Proofs.Tryz (prog)
section
attribute [local irreducible] Ans AnsO AnsG AnsN AnsI
theorem zVr (n:Nat) (xs:List DV) (m:Nat) (ys:List DV) (hx:zUW n xs) (hy:zUW m ys):Ans prog 80 [RV.d (dS n xs),RV.d (dS m ys)] (RV.d (dQ (decide (zQc xs=zQc ys)))):=
 zQj (Γ:=gamI) (Ann.seq Ann.leaf (Ann.seq Ann.leaf (Ann.seq (Ann.seq Ann.leaf (Ann.loop ⟨Nat,fun k=>k≤n∧(zQc xs).take k=(zQc ys).take k,fun k=>⟨[(0,AV.one (Cl.d (dS n xs))),(1,AV.one (Cl.d (dS m ys))),(5,aJ (k:Int))],[]⟩,fun k=>n - k⟩ fun k=>Ann.leaf)) Ann.leaf))) zQs Tryz.func80 rfl (nL rfl) fun hwf=>by
  refine Eq.mpr (by kernel_rfl:_=(let f:=(dQ (decide (zQc xs=zQc ys))); let g:=fun (k:Nat)=>(k≤n∧(zQc xs).take k=(zQc ys).take k); tU6 ((((n:Int) != (m:Int))=true→True∧RV.d (dQ false)=RV.d f)∧(((n:Int) != (m:Int))=false→True∧((∃ k:Nat,(g k)∧(((dS n xs=dS n xs)∧(dS m ys=dS m ys)∧(dJ 0=dJ (k:Int))∧True)∧True))∧∀ k:Nat,let a:=((k:Int).toNat*5+1); let b:=((k:Int).toNat*5); let c:=((k:Int).toNat*5+1+1+1+1); let d:=((k:Int).toNat*5+1+1+1); let e:=((k:Int).toNat*5+1+1); let h:=(!((((nAt xs b)==(nAt ys b)) && (((nAt xs a)==(nAt ys a)) && (((nAt xs e)==(nAt ys e)) && true))) && (((nAt xs d)==(nAt ys d)) && (((nAt xs c)==(nAt ys c)) && true)))); (g k)→tU4 (((decide ((k:Int) < (n:Int)))=true→tU2 ((0≤(k:Int)∧(k:Int) < (n:Int)∧(k:Int).toNat*5 < xs.length)∧((xs[(k:Int).toNat*5]?=some (dK (nAt xs b)))∧(xs[(k:Int).toNat*5+1]?=some (dK (nAt xs a)))∧(xs[(k:Int).toNat*5+1+1]?=some (dK (nAt xs e)))∧(xs[(k:Int).toNat*5+1+1+1]?=some (dK (nAt xs d)))∧(xs[(k:Int).toNat*5+1+1+1+1]?=some (dK (nAt xs c)))∧True)∧tU2 ((0≤(k:Int)∧(k:Int) < (m:Int)∧(k:Int).toNat*5 < ys.length)∧((ys[(k:Int).toNat*5]?=some (dK (nAt ys b)))∧(ys[(k:Int).toNat*5+1]?=some (dK (nAt ys a)))∧(ys[(k:Int).toNat*5+1+1]?=some (dK (nAt ys e)))∧(ys[(k:Int).toNat*5+1+1+1]?=some (dK (nAt ys d)))∧(ys[(k:Int).toNat*5+1+1+1+1]?=some (dK (nAt ys c)))∧True)∧True∧(true=true)∧((h=true→True∧RV.d (dQ false)=RV.d f)∧(h=false→tU3 (∃ k':Nat,(k'≤n∧(zQc xs).take k'=(zQc ys).take k')∧(n - k' < n - k)∧(((dS n xs=dS n xs)∧(dS m ys=dS m ys)∧(dJ (wK ((k:Int)+1))=dJ (k':Int))∧True)∧True)))))))∧((decide ((k:Int) < (n:Int)))=false→True∧RV.d (dQ true)=RV.d f))))))) ?_
  delta dJ dK dQ wK dS
  simp only [sS,zQI,zQD,zQQ,zQT,zQL,zQV,zQW,zZd]
  obtain ⟨l,rfl,rfl⟩:=hx.of
  obtain ⟨l',rfl,rfl⟩:=hy.of
  simp only [zQS,RV.wfs,RV.wf,DV.wfs,DV.wf,maxLen] at hwf ⊢
  obtain ⟨⟨big,wl⟩,⟨big',wl'⟩,_⟩:=hwf
  simp only [Nat.add_assoc,Nat.reduceAdd]
  refine ⟨fun q1=>?_,fun q1=>⟨⟨0,⟨by omega,rfl⟩,rfl⟩,fun k hk=>⟨fun hlt=>?_,fun hge=>?_⟩⟩⟩
  ·have:l≠l':=fun e=>by simp [e] at q1
   simp [this]
  ·have el:l.length=l'.length:=by simp at q1; omega
   have hl:k < l.length:=by omega
   have hl':k < l'.length:=by omega
   obtain ⟨a0,a1,a2,a3,a4⟩:=zZr hl
   obtain ⟨b0,b1,b2,b3,b4⟩:=zZr hl'
   obtain ⟨c0,c1,c2,c3,c4⟩:=zWO hl
   obtain ⟨d0,d1,d2,d3,d4⟩:=zWO hl'
   have e0:=zZs l
   have e1:=zZs l'
   simp only [a0,a1,a2,a3,a4,b0,b1,b2,b3,b4,c0,c1,c2,c3,c4,d0,d1,d2,d3,d4]
   refine ⟨⟨by omega,by omega,by omega⟩,⟨trivial,trivial,trivial,trivial,trivial⟩,⟨by omega,by omega,by omega⟩,⟨trivial,trivial,trivial,trivial,trivial⟩,fun q2=>?_,fun q2=>⟨k+1,⟨by omega,?_⟩,by omega,zXE (by omega)⟩⟩
   ·have:l≠l':=fun e=>by subst e; simp at q2
    simp [this]
   ·rw [List.take_add_one,List.take_add_one,hk.2,List.getElem?_eq_getElem hl,List.getElem?_eq_getElem hl']
    have:l[k]=l'[k]:=by
     cases hp:l[k]; cases hq:l'[k]
     simp [hp,hq] at q2
     simp [q2]
    rw [this]
  ·have el:l.length=l'.length:=by simp at q1; omega
   have hl:k=l.length:=by omega
   have:=hk.2
   rw [hl,List.take_length,el,List.take_length] at this
   simp [this]
theorem jQc (w h:Int) (n:Nat) (xs:List DV) (hx:zUW n xs):AnsG prog 108 0 [aJ ((w)),aJ ((h)),AV.one (Cl.d (dS n xs))] [] ⟨AV.tup [AV.agg [cJ (((imOf w h (zQc xs)).w)),cJ (((imOf w h (zQc xs)).h)),Cl.d (dQ ((imOf w h (zQc xs)).so)),cK (((imOf w h (zQc xs)).c.a)),cK (((imOf w h (zQc xs)).c.b)),cK (((imOf w h (zQc xs)).c.c)),cK (((imOf w h (zQc xs)).c.al)),cK (((imOf w h (zQc xs)).c.f)),cJ (((imOf w h (zQc xs)).p0.w)),cJ (((imOf w h (zQc xs)).p0.h)),cJ (((imOf w h (zQc xs)).p0.s)),Cl.ref 0 ((imOf w h (zQc xs)).p0.n),cJ (((imOf w h (zQc xs)).p1.w)),cJ (((imOf w h (zQc xs)).p1.h)),cJ (((imOf w h (zQc xs)).p1.s)),Cl.ref 1 ((imOf w h (zQc xs)).p1.n),cJ (((imOf w h (zQc xs)).p2.w)),cJ (((imOf w h (zQc xs)).p2.h)),cJ (((imOf w h (zQc xs)).p2.s)),Cl.ref 2 ((imOf w h (zQc xs)).p2.n),cJ (((imOf w h (zQc xs)).p3.w)),cJ (((imOf w h (zQc xs)).p3.h)),cJ (((imOf w h (zQc xs)).p3.s)),Cl.ref 3 ((imOf w h (zQc xs)).p3.n),cJ (((imOf w h (zQc xs)).p4.w)),cJ (((imOf w h (zQc xs)).p4.h)),cJ (((imOf w h (zQc xs)).p4.s)),Cl.ref 4 ((imOf w h (zQc xs)).p4.n)],AV.one (Cl.d (dQ (ofOk w h n)))],[Bx.row 34 1 ((imOf w h (zQc xs)).p0.xs),Bx.row 34 1 ((imOf w h (zQc xs)).p1.xs),Bx.row 34 1 ((imOf w h (zQc xs)).p2.xs),Bx.row 34 1 ((imOf w h (zQc xs)).p3.xs),Bx.row 34 1 ((imOf w h (zQc xs)).p4.xs)],true⟩:=
 zQy (Γ:=gamI) (let j:=(Ann.sure true Ann.leaf); let a:=(8,AV.one (Cl.ptr 8 0)); let b:=(6,AV.one (Cl.ptr 6 0)); let c:=(0,aJ w); let d:=(1,aJ h); let e:=(2,AV.one (Cl.d (dS n xs))); let r:=(cJ 0); let s:=(29,AV.one r); let f:=(6,bC [cJ 0,cJ 0,Cl.d (dQ false),cK 0,cK 0,cK 0,cK 0,cK 0,cJ 0,cJ 0,cJ 0,Cl.nil,cJ 0,cJ 0,cJ 0,Cl.nil,cJ 0,cJ 0,cJ 0,Cl.nil,cJ 0,cJ 0,cJ 0,Cl.nil,cJ 0,cJ 0,cJ 0,Cl.nil]); let t:=(8,bC [cJ w,cJ h,Cl.d (dQ false),cK 0,cK 0,cK 0,cK 0,cK 0,cJ 0,cJ 0,cJ 0,Cl.nil,cJ 0,cJ 0,cJ 0,Cl.nil,cJ 0,cJ 0,cJ 0,Cl.nil,cJ 0,cJ 0,cJ 0,Cl.nil,cJ 0,cJ 0,cJ 0,Cl.nil]); let l:=(35,AV.one (Cl.d (dS n xs))); let m:=(36,aJ (n:Int)); let o:=fun (k:Nat)=>(37,aJ (k:Int)); let u:=(cJ 1); let v:=(29,AV.one u); let x:=(8,bC [cJ w,cJ h,Cl.d (dQ false),cK 0,cK 0,cK 0,cK 0,cK 0,cJ w,cJ h,cJ w,Cl.ref 7000 (n:Int).toNat,cJ 0,cJ 0,cJ 0,Cl.nil,cJ 0,cJ 0,cJ 0,Cl.nil,cJ 0,cJ 0,cJ 0,Cl.nil,cJ 0,cJ 0,cJ 0,Cl.nil]); let g:=(7000,Bx.row 34 1 (zQu (zQc xs) Px.a n)); let y:=(cJ 2); let z:=(29,AV.one y); let A:=(8,bC [cJ w,cJ h,Cl.d (dQ false),cK 0,cK 0,cK 0,cK 0,cK 0,cJ w,cJ h,cJ w,Cl.ref 7000 (n:Int).toNat,cJ w,cJ h,cJ w,Cl.ref 7001 (n:Int).toNat,cJ 0,cJ 0,cJ 0,Cl.nil,cJ 0,cJ 0,cJ 0,Cl.nil,cJ 0,cJ 0,cJ 0,Cl.nil]); let i:=(7001,Bx.row 34 1 (zQu (zQc xs) Px.b n)); let B:=(cJ 3); let C:=(29,AV.one B); let D:=(8,bC [cJ w,cJ h,Cl.d (dQ false),cK 0,cK 0,cK 0,cK 0,cK 0,cJ w,cJ h,cJ w,Cl.ref 7000 (n:Int).toNat,cJ w,cJ h,cJ w,Cl.ref 7001 (n:Int).toNat,cJ w,cJ h,cJ w,Cl.ref 7002 (n:Int).toNat,cJ 0,cJ 0,cJ 0,Cl.nil,cJ 0,cJ 0,cJ 0,Cl.nil]); let p:=(7002,Bx.row 34 1 (zQu (zQc xs) Px.c n)); let E:=(cJ 4); let F:=(29,AV.one E); let G:=(8,bC [cJ w,cJ h,Cl.d (dQ false),cK 0,cK 0,cK 0,cK 0,cK 0,cJ w,cJ h,cJ w,Cl.ref 7000 (n:Int).toNat,cJ w,cJ h,cJ w,Cl.ref 7001 (n:Int).toNat,cJ w,cJ h,cJ w,Cl.ref 7002 (n:Int).toNat,cJ w,cJ h,cJ w,Cl.ref 7003 (n:Int).toNat,cJ 0,cJ 0,cJ 0,Cl.nil]); let q:=(7003,Bx.row 34 1 (zQu (zQc xs) Px.al n)); (Ann.seq Ann.leaf (Ann.seq Ann.leaf (Ann.seq Ann.leaf (Ann.seq (Ann.seq Ann.leaf (Ann.link ⟨Unit,fun _u=>True,fun _u=>⟨[c,d,e,b,a,s],[f,t]⟩,fun _u=>0⟩ (fun _u=>(Ann.seq Ann.leaf (Ann.seq j (Ann.seq (Ann.seq Ann.leaf (Ann.seq Ann.leaf (Ann.seq (Ann.seq Ann.leaf (Ann.loop ⟨Nat,fun k=>k≤n,fun k=>⟨[c,d,e,b,a,(9,AV.one r),(10,AV.one (Cl.ref 7000 (n:Int).toNat)),s,l,m,(o k)],[f,t,(7000,Bx.row 34 1 (zQu (zQc xs) Px.a k))]⟩,fun k=>n - k⟩ fun k=>Ann.leaf)) Ann.leaf))) Ann.leaf)))) (Ann.link ⟨Unit,fun _u=>True,fun _u=>⟨[c,d,e,b,a,v],[f,x,g]⟩,fun _u=>0⟩ (fun _u=>(Ann.seq Ann.leaf (Ann.seq j (Ann.seq (Ann.seq Ann.leaf (Ann.seq Ann.leaf (Ann.seq (Ann.seq Ann.leaf (Ann.loop ⟨Nat,fun k=>k≤n,fun k=>⟨[c,d,e,b,a,(9,AV.one u),(10,AV.one (Cl.ref 7001 (n:Int).toNat)),v,l,m,(o k)],[f,x,(7001,Bx.row 34 1 (zQu (zQc xs) Px.b k)),g]⟩,fun k=>n - k⟩ fun k=>Ann.leaf)) Ann.leaf))) Ann.leaf)))) (Ann.link ⟨Unit,fun _u=>True,fun _u=>⟨[c,d,e,b,a,z],[f,A,g,i]⟩,fun _u=>0⟩ (fun _u=>(Ann.seq Ann.leaf (Ann.seq j (Ann.seq (Ann.seq Ann.leaf (Ann.seq Ann.leaf (Ann.seq (Ann.seq Ann.leaf (Ann.loop ⟨Nat,fun k=>k≤n,fun k=>⟨[c,d,e,b,a,(9,AV.one y),(10,AV.one (Cl.ref 7002 (n:Int).toNat)),z,l,m,(o k)],[f,A,(7002,Bx.row 34 1 (zQu (zQc xs) Px.c k)),g,i]⟩,fun k=>n - k⟩ fun k=>Ann.leaf)) Ann.leaf))) Ann.leaf)))) (Ann.link ⟨Unit,fun _u=>True,fun _u=>⟨[c,d,e,b,a,C],[f,D,g,i,p]⟩,fun _u=>0⟩ (fun _u=>(Ann.seq Ann.leaf (Ann.seq j (Ann.seq (Ann.seq Ann.leaf (Ann.seq Ann.leaf (Ann.seq (Ann.seq Ann.leaf (Ann.loop ⟨Nat,fun k=>k≤n,fun k=>⟨[c,d,e,b,a,(9,AV.one B),(10,AV.one (Cl.ref 7003 (n:Int).toNat)),C,l,m,(o k)],[f,D,(7003,Bx.row 34 1 (zQu (zQc xs) Px.al k)),g,i,p]⟩,fun k=>n - k⟩ fun k=>Ann.leaf)) Ann.leaf))) Ann.leaf)))) (Ann.link ⟨Unit,fun _u=>True,fun _u=>⟨[c,d,e,b,a,F],[f,G,g,i,p,q]⟩,fun _u=>0⟩ (fun _u=>(Ann.seq Ann.leaf (Ann.seq j (Ann.seq (Ann.seq Ann.leaf (Ann.seq Ann.leaf (Ann.seq (Ann.seq Ann.leaf (Ann.loop ⟨Nat,fun k=>k≤n,fun k=>⟨[c,d,e,b,a,(9,AV.one E),(10,AV.one (Cl.ref 7004 (n:Int).toNat)),F,l,m,(o k)],[f,G,(7004,Bx.row 34 1 (zQu (zQc xs) Px.f k)),g,i,p,q]⟩,fun k=>n - k⟩ fun k=>Ann.leaf)) Ann.leaf))) Ann.leaf)))) (Ann.link ⟨Unit,fun _u=>True,fun _u=>⟨[c,d,e,b,a,(29,aJ 5)],[f,(8,bC [cJ w,cJ h,Cl.d (dQ false),cK 0,cK 0,cK 0,cK 0,cK 0,cJ w,cJ h,cJ w,Cl.ref 7000 (n:Int).toNat,cJ w,cJ h,cJ w,Cl.ref 7001 (n:Int).toNat,cJ w,cJ h,cJ w,Cl.ref 7002 (n:Int).toNat,cJ w,cJ h,cJ w,Cl.ref 7003 (n:Int).toNat,cJ w,cJ h,cJ w,Cl.ref 7004 (n:Int).toNat]),g,i,p,q,(7004,Bx.row 34 1 (zQu (zQc xs) Px.f n))]⟩,fun _u=>0⟩ (fun _u=>(Ann.seq Ann.leaf (Ann.seq (Ann.sure false Ann.leaf) Ann.leaf))) Ann.leaf))))))) Ann.leaf))))) zQs Tryz.func108 rfl (nL rfl) rfl fun hwf hbx=>by
  refine Eq.mpr (by kernel_rfl:_=(let l:=((5:Nat):Int); let f:=(dS n xs=dS n xs); let b:=(imOf w h (zQc xs)); let F:=(imB 34 b); let G:=[(imV 0 b),AV.one (Cl.d (dQ (ofOk w h n)))]; let S:=(dQ false=dQ b.so); let T:=(dK 0=dK b.c.a); let U:=(dK 0=dK b.c.b); let V:=(dK 0=dK b.c.c); let W:=(dK 0=dK b.c.al); let X:=(dK 0=dK b.c.f); let Y:=(((((dJ 0=dJ b.w)∧(dJ 0=dJ b.h)∧S∧T∧U∧V∧W∧X∧(dJ 0=dJ b.p0.w)∧(dJ 0=dJ b.p0.h)∧(dJ 0=dJ b.p0.s)∧(0=b.p0.n)∧(dJ 0=dJ b.p1.w)∧(dJ 0=dJ b.p1.h)∧(dJ 0=dJ b.p1.s)∧(0=b.p1.n)∧(dJ 0=dJ b.p2.w)∧(dJ 0=dJ b.p2.h)∧(dJ 0=dJ b.p2.s)∧(0=b.p2.n)∧(dJ 0=dJ b.p3.w)∧(dJ 0=dJ b.p3.h)∧(dJ 0=dJ b.p3.s)∧(0=b.p3.n)∧(dJ 0=dJ b.p4.w)∧(dJ 0=dJ b.p4.h)∧(dJ 0=dJ b.p4.s)∧(0=b.p4.n)∧True)∧(dQ false=dQ (ofOk w h n))∧True)∧True)∧(([]=b.p0.xs)∧([]=b.p1.xs)∧([]=b.p2.xs)∧([]=b.p3.xs)∧([]=b.p4.xs)∧True)); let c:=(dJ w=dJ w); let d:=(dJ h=dJ h); let a:=(dJ 0=dJ 0); let p:=(dQ false=dQ false); let e:=(dK 0=dK 0); let i:=(a∧a∧p∧e∧e∧e∧e∧e∧a∧a∧a∧True∧a∧a∧a∧True∧a∧a∧a∧True∧a∧a∧a∧True∧a∧a∧a∧True∧True); let H:=(c∧d∧p∧e∧e∧e∧e∧e∧a∧a∧a∧True∧a∧a∧a∧True∧a∧a∧a∧True∧a∧a∧a∧True∧a∧a∧a∧True∧True); let r:=(0≤(n:Int)∧(n:Int)≤(n:Int)∧(n:Int)≤(maxLen:Int)∧((2:Nat):Int)*(n:Int)≤281474976710656); let g:=((n:Int).toNat=(n:Int).toNat); let m:=(dJ (n:Int)=dJ (n:Int)); let s:=fun (k:Nat)=>(dJ 0=dJ (k:Int)); let t:=fun (k:Nat)=>(0≤(k:Int)∧(k:Int) < (n:Int)∧(k:Int).toNat*5 < xs.length); let u:=fun (k:Nat)=>((xs[(k:Int).toNat*5]?=some (dK (nAt xs ((k:Int).toNat*5))))∧(xs[(k:Int).toNat*5+1]?=some (dK (nAt xs ((k:Int).toNat*5+1))))∧(xs[(k:Int).toNat*5+1+1]?=some (dK (nAt xs ((k:Int).toNat*5+1+1))))∧(xs[(k:Int).toNat*5+1+1+1]?=some (dK (nAt xs ((k:Int).toNat*5+1+1+1))))∧(xs[(k:Int).toNat*5+1+1+1+1]?=some (dK (nAt xs ((k:Int).toNat*5+1+1+1+1))))∧True); let v:=(0≤(0:Int)∧(0:Int) < ((3:Nat):Int)); let x:=(0≤(1:Int)∧(1:Int) < ((3:Nat):Int)); let y:=(0≤(2:Int)∧(2:Int) < ((3:Nat):Int)); let z:=fun (k:Nat)=>(0≤(k:Int)∧(k:Int) < (((n:Int).toNat:Nat):Int)); let A:=fun (k:Nat)=>fun (k':Nat)=>(dJ (wK ((k:Int)+1))=dJ (k':Int)); let I:=(c∧d∧p∧e∧e∧e∧e∧e∧c∧d∧c∧g∧a∧a∧a∧True∧a∧a∧a∧True∧a∧a∧a∧True∧a∧a∧a∧True∧True); let B:=(dJ 1=dJ 1); let j:=(zQu (zQc xs) Px.a n=zQu (zQc xs) Px.a n); let J:=(c∧d∧p∧e∧e∧e∧e∧e∧c∧d∧c∧g∧c∧d∧c∧g∧a∧a∧a∧True∧a∧a∧a∧True∧a∧a∧a∧True∧True); let C:=(dJ 2=dJ 2); let o:=(zQu (zQc xs) Px.b n=zQu (zQc xs) Px.b n); let K:=(c∧d∧p∧e∧e∧e∧e∧e∧c∧d∧c∧g∧c∧d∧c∧g∧c∧d∧c∧g∧a∧a∧a∧True∧a∧a∧a∧True∧True); let D:=(dJ 3=dJ 3); let q:=(zQu (zQc xs) Px.c n=zQu (zQc xs) Px.c n); let L:=(c∧d∧p∧e∧e∧e∧e∧e∧c∧d∧c∧g∧c∧d∧c∧g∧c∧d∧c∧g∧c∧d∧c∧g∧a∧a∧a∧True∧True); let E:=(dJ 4=dJ 4); let M:=(zQu (zQc xs) Px.al n=zQu (zQc xs) Px.al n); tU4 ((Ans prog 125 [rJ w,rJ h] (RV.d (dQ (zQ8 w h))))∧tU2 (((!(zQ8 w h))=false→tU7 ((((n:Int) != (wK (w*h)))=true→tU3 (Y∧zQm ⟨AV.tup G,F,true⟩))∧(((n:Int) != (wK (w*h)))=false→tU6 ((∃ _u:Unit,True∧((c∧d∧f∧(0=0)∧(0=0)∧a∧True)∧(i∧H∧True)))∧((∀ _u:Unit,True→True∧(decide ((0:Int) < 5)=true∧tU4 (r∧tU4 ((∃ k:Nat,(k≤n)∧((c∧d∧f∧(0=0)∧(0=0)∧a∧g∧a∧f∧m∧(s k)∧True)∧(i∧H∧(List.replicate (n:Int).toNat (dK 0)=zQu (zQc xs) Px.a k)∧True)))∧∀ k:Nat,let N:=(dK (nAt xs ((k:Int).toNat*5))); (k≤n)→True∧(((decide ((k:Int) < (n:Int)))=true→True∧(t k)∧(u k)∧tU6 (v∧tU2 (x∧tU2 (y∧tU7 ((0≤(0:Int)∧(0:Int) < l∧(some N=some N)∧True)∧(z k)∧((k:Int).toNat*1+1≤(zQu (zQc xs) Px.a k).length)∧tU2 (∃ k':Nat,(k'≤n)∧(n - k' < n - k)∧((c∧d∧f∧(0=0)∧(0=0)∧a∧g∧a∧f∧m∧(A k k')∧True)∧(i∧H∧(List.set (zQu (zQc xs) Px.a k) ((k:Int).toNat*1) N=zQu (zQc xs) Px.a k')∧True))))))))∧((decide ((k:Int) < (n:Int)))=false→tU7 ((0≤(0:Int)∧(0:Int) < l)∧tU3 (∃ _u:Unit,True∧((c∧d∧f∧(0=0)∧(0=0)∧(dJ (wK ((0:Int)+1))=dJ 1)∧True)∧(i∧I∧(zQu (zQc xs) Px.a k=zQu (zQc xs) Px.a n)∧True))))))))))∧(∀ _u:Unit,True→True∧(decide ((1:Int) < 5)=true∧tU4 (r∧tU4 ((∃ k:Nat,(k≤n)∧((c∧d∧f∧(0=0)∧(0=0)∧B∧g∧B∧f∧m∧(s k)∧True)∧(i∧I∧(List.replicate (n:Int).toNat (dK 0)=zQu (zQc xs) Px.b k)∧j∧True)))∧∀ k:Nat,let O:=(dK (nAt xs ((k:Int).toNat*5+1))); (k≤n)→True∧(((decide ((k:Int) < (n:Int)))=true→True∧(t k)∧(u k)∧tU6 (v∧tU2 (x∧tU2 (y∧tU7 ((0≤(1:Int)∧(1:Int) < l∧(some O=some O)∧True)∧(z k)∧((k:Int).toNat*1+1≤(zQu (zQc xs) Px.b k).length)∧tU2 (∃ k':Nat,(k'≤n)∧(n - k' < n - k)∧((c∧d∧f∧(0=0)∧(0=0)∧B∧g∧B∧f∧m∧(A k k')∧True)∧(i∧I∧(List.set (zQu (zQc xs) Px.b k) ((k:Int).toNat*1) O=zQu (zQc xs) Px.b k')∧j∧True))))))))∧((decide ((k:Int) < (n:Int)))=false→tU7 ((0≤(1:Int)∧(1:Int) < l)∧tU3 (∃ _u:Unit,True∧((c∧d∧f∧(0=0)∧(0=0)∧(dJ (wK ((1:Int)+1))=dJ 2)∧True)∧(i∧J∧j∧(zQu (zQc xs) Px.b k=zQu (zQc xs) Px.b n)∧True))))))))))∧(∀ _u:Unit,True→True∧(decide ((2:Int) < 5)=true∧tU4 (r∧tU4 ((∃ k:Nat,(k≤n)∧((c∧d∧f∧(0=0)∧(0=0)∧C∧g∧C∧f∧m∧(s k)∧True)∧(i∧J∧(List.replicate (n:Int).toNat (dK 0)=zQu (zQc xs) Px.c k)∧j∧o∧True)))∧∀ k:Nat,let P:=(dK (nAt xs ((k:Int).toNat*5+1+1))); (k≤n)→True∧(((decide ((k:Int) < (n:Int)))=true→True∧(t k)∧(u k)∧tU6 (v∧tU2 (x∧tU2 (y∧tU7 ((0≤(2:Int)∧(2:Int) < l∧(some P=some P)∧True)∧(z k)∧((k:Int).toNat*1+1≤(zQu (zQc xs) Px.c k).length)∧tU2 (∃ k':Nat,(k'≤n)∧(n - k' < n - k)∧((c∧d∧f∧(0=0)∧(0=0)∧C∧g∧C∧f∧m∧(A k k')∧True)∧(i∧J∧(List.set (zQu (zQc xs) Px.c k) ((k:Int).toNat*1) P=zQu (zQc xs) Px.c k')∧j∧o∧True))))))))∧((decide ((k:Int) < (n:Int)))=false→tU7 ((0≤(2:Int)∧(2:Int) < l)∧tU3 (∃ _u:Unit,True∧((c∧d∧f∧(0=0)∧(0=0)∧(dJ (wK ((2:Int)+1))=dJ 3)∧True)∧(i∧K∧j∧o∧(zQu (zQc xs) Px.c k=zQu (zQc xs) Px.c n)∧True))))))))))∧(∀ _u:Unit,True→True∧(decide ((3:Int) < 5)=true∧tU4 (r∧tU4 ((∃ k:Nat,(k≤n)∧((c∧d∧f∧(0=0)∧(0=0)∧D∧g∧D∧f∧m∧(s k)∧True)∧(i∧K∧(List.replicate (n:Int).toNat (dK 0)=zQu (zQc xs) Px.al k)∧j∧o∧q∧True)))∧∀ k:Nat,let Q:=(dK (nAt xs ((k:Int).toNat*5+1+1+1))); (k≤n)→True∧(((decide ((k:Int) < (n:Int)))=true→True∧(t k)∧(u k)∧tU6 (v∧tU2 (x∧tU2 (y∧tU7 ((0≤(3:Int)∧(3:Int) < l∧(some Q=some Q)∧True)∧(z k)∧((k:Int).toNat*1+1≤(zQu (zQc xs) Px.al k).length)∧tU2 (∃ k':Nat,(k'≤n)∧(n - k' < n - k)∧((c∧d∧f∧(0=0)∧(0=0)∧D∧g∧D∧f∧m∧(A k k')∧True)∧(i∧K∧(List.set (zQu (zQc xs) Px.al k) ((k:Int).toNat*1) Q=zQu (zQc xs) Px.al k')∧j∧o∧q∧True))))))))∧((decide ((k:Int) < (n:Int)))=false→tU7 ((0≤(3:Int)∧(3:Int) < l)∧tU3 (∃ _u:Unit,True∧((c∧d∧f∧(0=0)∧(0=0)∧(dJ (wK ((3:Int)+1))=dJ 4)∧True)∧(i∧L∧j∧o∧q∧(zQu (zQc xs) Px.al k=zQu (zQc xs) Px.al n)∧True))))))))))∧(∀ _u:Unit,True→True∧(decide ((4:Int) < 5)=true∧tU4 (r∧tU4 ((∃ k:Nat,(k≤n)∧((c∧d∧f∧(0=0)∧(0=0)∧E∧g∧E∧f∧m∧(s k)∧True)∧(i∧L∧(List.replicate (n:Int).toNat (dK 0)=zQu (zQc xs) Px.f k)∧j∧o∧q∧M∧True)))∧∀ k:Nat,let R:=(dK (nAt xs ((k:Int).toNat*5+1+1+1+1))); (k≤n)→True∧(((decide ((k:Int) < (n:Int)))=true→True∧(t k)∧(u k)∧tU6 (v∧tU2 (x∧tU2 (y∧tU7 ((0≤(4:Int)∧(4:Int) < l∧(some R=some R)∧True)∧(z k)∧((k:Int).toNat*1+1≤(zQu (zQc xs) Px.f k).length)∧tU2 (∃ k':Nat,(k'≤n)∧(n - k' < n - k)∧((c∧d∧f∧(0=0)∧(0=0)∧E∧g∧E∧f∧m∧(A k k')∧True)∧(i∧L∧(List.set (zQu (zQc xs) Px.f k) ((k:Int).toNat*1) R=zQu (zQc xs) Px.f k')∧j∧o∧q∧M∧True))))))))∧((decide ((k:Int) < (n:Int)))=false→tU7 ((0≤(4:Int)∧(4:Int) < l)∧tU3 (∃ _u:Unit,True∧((c∧d∧f∧(0=0)∧(0=0)∧(dJ (wK ((4:Int)+1))=dJ 5)∧True)∧(i∧(c∧d∧p∧e∧e∧e∧e∧e∧c∧d∧c∧g∧c∧d∧c∧g∧c∧d∧c∧g∧c∧d∧c∧g∧c∧d∧c∧g∧True)∧j∧o∧q∧M∧(zQu (zQc xs) Px.f k=zQu (zQc xs) Px.f n)∧True))))))))))∧(∀ _u:Unit,True→True∧(decide ((5:Int) < 5)=false∧tU3 ((((((dJ w=dJ b.w)∧(dJ h=dJ b.h)∧S∧T∧U∧V∧W∧X∧(dJ w=dJ b.p0.w)∧(dJ h=dJ b.p0.h)∧(dJ w=dJ b.p0.s)∧((n:Int).toNat=b.p0.n)∧(dJ w=dJ b.p1.w)∧(dJ h=dJ b.p1.h)∧(dJ w=dJ b.p1.s)∧((n:Int).toNat=b.p1.n)∧(dJ w=dJ b.p2.w)∧(dJ h=dJ b.p2.h)∧(dJ w=dJ b.p2.s)∧((n:Int).toNat=b.p2.n)∧(dJ w=dJ b.p3.w)∧(dJ h=dJ b.p3.h)∧(dJ w=dJ b.p3.s)∧((n:Int).toNat=b.p3.n)∧(dJ w=dJ b.p4.w)∧(dJ h=dJ b.p4.h)∧(dJ w=dJ b.p4.s)∧((n:Int).toNat=b.p4.n)∧True)∧(dQ true=dQ (ofOk w h n))∧True)∧True)∧((zQu (zQc xs) Px.a n=b.p0.xs)∧(zQu (zQc xs) Px.b n=b.p1.xs)∧(zQu (zQc xs) Px.c n=b.p2.xs)∧(zQu (zQc xs) Px.al n=b.p3.xs)∧(zQu (zQc xs) Px.f n=b.p4.xs)∧True))∧zQm ⟨AV.tup G,F,true⟩)))∧True)))))∧((!(zQ8 w h))=(!false)→tU4 (Y∧zQm ⟨AV.tup G,F,true⟩)))))) ?_
  delta dJ dK dQ wK dS rJ
  simp only [sS,zQI,zQD,zQQ,zQT,zQL,zQV,zQW,zZd]
  obtain ⟨l,rfl,rfl⟩:=hx.of
  simp only [zQS,imV,imB,zQm,AV.flatV,AV.flatVL,Cl.flatV,zGv,Bx.flatVL,Bx.flatV,zGq,true_and,and_true]
  simp only [DV.flat,true_and,and_true]
  have no:∀ {P:Prop},(imOf w h l=Im.zero→ofOk w h l.length=false→P)→(ofOk w h l.length=false)→P:=fun f h=>f (zUe h) h
  have le:=@zXi w h
  refine ⟨fun q1=>⟨fun q2=>?_,fun q2=>?_⟩,fun q1=>?_⟩
  ·obtain ⟨f1,f2,f3,f4,f5⟩:=le q1
   have wm:IntKind.wrap .i64 (w*h)=w*h:=IntWalk.i64_in _ ⟨by have:=Int.mul_nonneg (a:=w) (b:=h) (by omega) (by omega); omega,by omega⟩
   refine no (fun e1 e2=>?_) (by rw [wm] at q2; simp [ofOk,q1]; simpa using q2)
   rw [e1,e2]; simp [Im.zero,Px.zero,Pl.none]
  ·obtain ⟨f1,f2,f3,f4,f5⟩:=le q1
   have wm:IntKind.wrap .i64 (w*h)=w*h:=IntWalk.i64_in _ ⟨by have:=Int.mul_nonneg (a:=w) (b:=h) (by omega) (by omega); omega,by omega⟩
   have hl:(l.length:Int)=w*h:=by rw [wm] at q2; simpa using q2
   have hk:ofOk w h l.length=true:=by simp [ofOk,q1,hl]
   have hb:l.length≤16777216:=by omega
   rw [hk,zKJ hk]
   simp only [ofIm,Px.zero,maxLen]
   (repeat' (first | apply And.intro | intro)) <;> (first | assumption | rfl | omega | (exact ⟨0,by omega,rfl,(zXx _ _).symm⟩) | exact jZB (by omega) | exact zYL (j:=1) (by omega) (by omega) | exact zYL (j:=2) (by omega) (by omega) | exact zYL (j:=3) (by omega) (by omega) | exact zYL (j:=4) (by omega) (by omega) | (rw [zZs]; omega) | (rw [zKe (by assumption)]; omega) | exact zKx (by assumption) (by assumption) (fun h=>(zZr h).1) | exact zKx (by assumption) (by assumption) (fun h=>(zZr h).2.1) | exact zKx (by assumption) (by assumption) (fun h=>(zZr h).2.2.1) | exact zKx (by assumption) (by assumption) (fun h=>(zZr h).2.2.2.1) | exact zKx (by assumption) (by assumption) (fun h=>(zZr h).2.2.2.2) | exact ⟨(),by decide,jJQ (by assumption) (by assumption)⟩ | exact ⟨(),trivial⟩ | exact ⟨(),by decide⟩ | exact zKf _ _ | (rw [jJQ (by assumption) (by assumption)]; exact zKf _ _) | exact jYB (by assumption) (by assumption) (fun h=>(zZr h).1) (fun h=>(zZr h).2.1) (fun h=>(zZr h).2.2.1) (fun h=>(zZr h).2.2.2.1) (fun h=>(zZr h).2.2.2.2) | (rw [zKe (by omega)]; omega) | decide)
  ·refine no (fun e1 e2=>?_) (by simp [ofOk,q1])
   rw [e1,e2]; simp [Im.zero,Px.zero,Pl.none]
theorem zUF (w h:Int) (n:Nat) (xs:List DV) (hx:zUW n xs):AnsG prog 48 0 [aJ ((w)),aJ ((h)),AV.one (Cl.d (dS n xs))] [] ⟨AV.tup [AV.agg [cJ (((imOf w h (zQc xs)).w)),cJ (((imOf w h (zQc xs)).h)),Cl.d (dQ ((imOf w h (zQc xs)).so)),cK (((imOf w h (zQc xs)).c.a)),cK (((imOf w h (zQc xs)).c.b)),cK (((imOf w h (zQc xs)).c.c)),cK (((imOf w h (zQc xs)).c.al)),cK (((imOf w h (zQc xs)).c.f)),cJ (((imOf w h (zQc xs)).p0.w)),cJ (((imOf w h (zQc xs)).p0.h)),cJ (((imOf w h (zQc xs)).p0.s)),Cl.ref 0 ((imOf w h (zQc xs)).p0.n),cJ (((imOf w h (zQc xs)).p1.w)),cJ (((imOf w h (zQc xs)).p1.h)),cJ (((imOf w h (zQc xs)).p1.s)),Cl.ref 1 ((imOf w h (zQc xs)).p1.n),cJ (((imOf w h (zQc xs)).p2.w)),cJ (((imOf w h (zQc xs)).p2.h)),cJ (((imOf w h (zQc xs)).p2.s)),Cl.ref 2 ((imOf w h (zQc xs)).p2.n),cJ (((imOf w h (zQc xs)).p3.w)),cJ (((imOf w h (zQc xs)).p3.h)),cJ (((imOf w h (zQc xs)).p3.s)),Cl.ref 3 ((imOf w h (zQc xs)).p3.n),cJ (((imOf w h (zQc xs)).p4.w)),cJ (((imOf w h (zQc xs)).p4.h)),cJ (((imOf w h (zQc xs)).p4.s)),Cl.ref 4 ((imOf w h (zQc xs)).p4.n)],AV.one (Cl.d (dQ (ofOk w h n)))],[Bx.row 34 1 ((imOf w h (zQc xs)).p0.xs),Bx.row 34 1 ((imOf w h (zQc xs)).p1.xs),Bx.row 34 1 ((imOf w h (zQc xs)).p2.xs),Bx.row 34 1 ((imOf w h (zQc xs)).p3.xs),Bx.row 34 1 ((imOf w h (zQc xs)).p4.xs)],true⟩:=
 zQy (Γ:=gamI) (let v:=(Ann.seq (Ann.seq Ann.leaf (Ann.sure false Ann.leaf)) Ann.leaf); let b:=(8,AV.one (Cl.ptr 8 0)); let c:=(6,AV.one (Cl.ptr 6 0)); let f:=(Ann.seq (Ann.seq Ann.leaf (Ann.sure true Ann.leaf)) Ann.leaf); let g:=(0,aJ w); let j:=(1,aJ h); let d:=(2,AV.one (Cl.d (dS n xs))); let x:=(cJ 0); let e:=(6,bC [cJ 0,cJ 0,Cl.d (dQ false),cK 0,cK 0,cK 0,cK 0,cK 0,cJ 0,cJ 0,cJ 0,Cl.nil,cJ 0,cJ 0,cJ 0,Cl.nil,cJ 0,cJ 0,cJ 0,Cl.nil,cJ 0,cJ 0,cJ 0,Cl.nil,cJ 0,cJ 0,cJ 0,Cl.nil]); let y:=(cJ 1); let a:=(wK (w*h)).toNat; let k:=(List.replicate (wK (w*h)).toNat (dK 0)); let l:=(200039,Bx.row 34 1 k); let z:=(cJ 2); let p:=(300039,Bx.row 34 1 k); let A:=(cJ 3); let s:=(400039,Bx.row 34 1 k); let B:=(500039,Bx.row 34 1 k); let m:=(8,bC [cJ w,cJ h,Cl.d (dQ false),cK 0,cK 0,cK 0,cK 0,cK 0,cJ w,cJ h,cJ w,Cl.ref 200039 a,cJ w,cJ h,cJ w,Cl.ref 300039 a,cJ w,cJ h,cJ w,Cl.ref 400039 a,cJ w,cJ h,cJ w,Cl.ref 500039 a,cJ w,cJ h,cJ w,Cl.ref 600039 a]); let o:=fun (i:Nat)=>(10,aJ (i:Int)); let C:=fun (i:Nat)=>(300039,Bx.row 34 1 (zQu (zQc xs) Px.b i)); let t:=fun (i:Nat)=>(400039,Bx.row 34 1 (zQu (zQc xs) Px.c i)); let q:=fun (i:Nat)=>(500039,Bx.row 34 1 (zQu (zQc xs) Px.al i)); let r:=fun (i:Nat)=>(600039,Bx.row 34 1 (zQu (zQc xs) Px.f i)); let D:=fun (i:Nat)=>[e,m,(200039,Bx.row 34 1 (zQu (zQc xs) Px.a i)),(C i),(t i),(q i),(r i)]; let u:=fun (i:Nat)=>(200039,Bx.row 34 1 (List.set (zQu (zQc xs) Px.a i) ((i:Int).toNat*1) (dK (nAt xs ((i:Int).toNat*5+0+0))))); let E:=fun (i:Nat)=>(300039,Bx.row 34 1 (List.set (zQu (zQc xs) Px.b i) ((i:Int).toNat*1) (dK (nAt xs ((i:Int).toNat*5+0+1))))); (Ann.seq Ann.leaf (Ann.seq Ann.leaf (Ann.seq Ann.leaf (Ann.seq (Ann.seq Ann.leaf (Ann.link ⟨Unit,fun _u=>True,fun _u=>⟨[g,j,d,c,b,(9,AV.one x)],[e,(8,bC [cJ w,cJ h,Cl.d (dQ false),cK 0,cK 0,cK 0,cK 0,cK 0,cJ 0,cJ 0,cJ 0,Cl.nil,cJ 0,cJ 0,cJ 0,Cl.nil,cJ 0,cJ 0,cJ 0,Cl.nil,cJ 0,cJ 0,cJ 0,Cl.nil,cJ 0,cJ 0,cJ 0,Cl.nil])]⟩,fun _u=>0⟩ (fun _u=>f) (Ann.link ⟨Unit,fun _u=>True,fun _u=>⟨[g,j,d,c,b,(9,AV.one y)],[e,(8,bC [cJ w,cJ h,Cl.d (dQ false),cK 0,cK 0,cK 0,cK 0,cK 0,cJ w,cJ h,cJ w,Cl.ref 200039 a,cJ 0,cJ 0,cJ 0,Cl.nil,cJ 0,cJ 0,cJ 0,Cl.nil,cJ 0,cJ 0,cJ 0,Cl.nil,cJ 0,cJ 0,cJ 0,Cl.nil]),l]⟩,fun _u=>0⟩ (fun _u=>f) (Ann.link ⟨Unit,fun _u=>True,fun _u=>⟨[g,j,d,c,b,(9,AV.one z)],[e,(8,bC [cJ w,cJ h,Cl.d (dQ false),cK 0,cK 0,cK 0,cK 0,cK 0,cJ w,cJ h,cJ w,Cl.ref 200039 a,cJ w,cJ h,cJ w,Cl.ref 300039 a,cJ 0,cJ 0,cJ 0,Cl.nil,cJ 0,cJ 0,cJ 0,Cl.nil,cJ 0,cJ 0,cJ 0,Cl.nil]),l,p]⟩,fun _u=>0⟩ (fun _u=>f) (Ann.link ⟨Unit,fun _u=>True,fun _u=>⟨[g,j,d,c,b,(9,AV.one A)],[e,(8,bC [cJ w,cJ h,Cl.d (dQ false),cK 0,cK 0,cK 0,cK 0,cK 0,cJ w,cJ h,cJ w,Cl.ref 200039 a,cJ w,cJ h,cJ w,Cl.ref 300039 a,cJ w,cJ h,cJ w,Cl.ref 400039 a,cJ 0,cJ 0,cJ 0,Cl.nil,cJ 0,cJ 0,cJ 0,Cl.nil]),l,p,s]⟩,fun _u=>0⟩ (fun _u=>f) (Ann.link ⟨Unit,fun _u=>True,fun _u=>⟨[g,j,d,c,b,(9,aJ 4)],[e,(8,bC [cJ w,cJ h,Cl.d (dQ false),cK 0,cK 0,cK 0,cK 0,cK 0,cJ w,cJ h,cJ w,Cl.ref 200039 a,cJ w,cJ h,cJ w,Cl.ref 300039 a,cJ w,cJ h,cJ w,Cl.ref 400039 a,cJ w,cJ h,cJ w,Cl.ref 500039 a,cJ 0,cJ 0,cJ 0,Cl.nil]),l,p,s,B]⟩,fun _u=>0⟩ (fun _u=>f) (Ann.link ⟨Unit,fun _u=>True,fun _u=>⟨[g,j,d,c,b,(9,aJ 5)],[e,m,l,p,s,B,(600039,Bx.row 34 1 k)]⟩,fun _u=>0⟩ (fun _u=>v) Ann.leaf))))))) (Ann.seq (Ann.seq Ann.leaf (Ann.loop ⟨Nat,fun i=>i≤n,fun i=>⟨[d,c,b,(o i)],(D i)⟩,fun i=>n - i⟩ fun i=>(Ann.seq Ann.leaf (Ann.seq (Ann.seq (Ann.seq Ann.leaf (Ann.link ⟨Unit,fun _u=>True,fun _u=>⟨[d,c,b,(o i),(11,AV.one x)],(D i)⟩,fun _u=>0⟩ (fun _u=>f) (Ann.link ⟨Unit,fun _u=>True,fun _u=>⟨[d,c,b,(o i),(11,AV.one y)],[e,m,(u i),(C i),(t i),(q i),(r i)]⟩,fun _u=>0⟩ (fun _u=>f) (Ann.link ⟨Unit,fun _u=>True,fun _u=>⟨[d,c,b,(o i),(11,AV.one z)],[e,m,(u i),(E i),(t i),(q i),(r i)]⟩,fun _u=>0⟩ (fun _u=>f) (Ann.link ⟨Unit,fun _u=>True,fun _u=>⟨[d,c,b,(o i),(11,AV.one A)],[e,m,(u i),(E i),(400039,Bx.row 34 1 (List.set (zQu (zQc xs) Px.c i) ((i:Int).toNat*1) (dK (nAt xs ((i:Int).toNat*5+0+2))))),(q i),(r i)]⟩,fun _u=>0⟩ (fun _u=>v) Ann.leaf))))) Ann.leaf) Ann.leaf)))) Ann.leaf)))))) zQs Tryz.func48 rfl (nL rfl) rfl fun hwf hbx=>by
  refine Eq.mpr (by kernel_rfl:_=(let q:=((5:Nat):Int); let k:=(dS n xs=dS n xs); let b:=(imOf w h (zQc xs)); let A:=(imB 34 b); let f:=(wK (w*h)); let B:=[(imV 0 b),AV.one (Cl.d (dQ (ofOk w h n)))]; let E:=(dQ false=dQ b.so); let F:=(dK 0=dK b.c.a); let G:=(dK 0=dK b.c.b); let H:=(dK 0=dK b.c.c); let I:=(dK 0=dK b.c.al); let J:=(dK 0=dK b.c.f); let K:=(((((dJ 0=dJ b.w)∧(dJ 0=dJ b.h)∧E∧F∧G∧H∧I∧J∧(dJ 0=dJ b.p0.w)∧(dJ 0=dJ b.p0.h)∧(dJ 0=dJ b.p0.s)∧(0=b.p0.n)∧(dJ 0=dJ b.p1.w)∧(dJ 0=dJ b.p1.h)∧(dJ 0=dJ b.p1.s)∧(0=b.p1.n)∧(dJ 0=dJ b.p2.w)∧(dJ 0=dJ b.p2.h)∧(dJ 0=dJ b.p2.s)∧(0=b.p2.n)∧(dJ 0=dJ b.p3.w)∧(dJ 0=dJ b.p3.h)∧(dJ 0=dJ b.p3.s)∧(0=b.p3.n)∧(dJ 0=dJ b.p4.w)∧(dJ 0=dJ b.p4.h)∧(dJ 0=dJ b.p4.s)∧(0=b.p4.n)∧True)∧(dQ false=dQ (ofOk w h n))∧True)∧True)∧(([]=b.p0.xs)∧([]=b.p1.xs)∧([]=b.p2.xs)∧([]=b.p3.xs)∧([]=b.p4.xs)∧True)); let c:=(dJ w=dJ w); let e:=(dJ h=dJ h); let a:=(dJ 0=dJ 0); let m:=(dQ false=dQ false); let d:=(dK 0=dK 0); let l:=(a∧a∧m∧d∧d∧d∧d∧d∧a∧a∧a∧True∧a∧a∧a∧True∧a∧a∧a∧True∧a∧a∧a∧True∧a∧a∧a∧True∧True); let r:=(0≤wK (w*h)∧wK (w*h)≤wK (w*h)∧wK (w*h)≤(maxLen:Int)∧((2:Nat):Int)*f≤281474976710656); let L:=(0≤(0:Int)∧(0:Int) < q); let M:=(dJ (wK ((0:Int)+1))=dJ 1); let g:=(f.toNat=f.toNat); let j:=(List.replicate f.toNat (dK 0)=List.replicate f.toNat (dK 0)); let N:=(0≤(1:Int)∧(1:Int) < q); let O:=(dJ (wK ((1:Int)+1))=dJ 2); let P:=(0≤(2:Int)∧(2:Int) < q); let Q:=(dJ (wK ((2:Int)+1))=dJ 3); let R:=(0≤(3:Int)∧(3:Int) < q); let S:=(0≤(4:Int)∧(4:Int) < q); let o:=(c∧e∧m∧d∧d∧d∧d∧d∧c∧e∧c∧g∧c∧e∧c∧g∧c∧e∧c∧g∧c∧e∧c∧g∧c∧e∧c∧g∧True); let u:=fun (i:Nat)=>(dJ (i:Int)=dJ (i:Int)); let T:=fun (i:Nat)=>(zQu (zQc xs) Px.b i=zQu (zQc xs) Px.b i); let C:=fun (i:Nat)=>(zQu (zQc xs) Px.c i=zQu (zQc xs) Px.c i); let v:=fun (i:Nat)=>(zQu (zQc xs) Px.al i=zQu (zQc xs) Px.al i); let x:=fun (i:Nat)=>(zQu (zQc xs) Px.f i=zQu (zQc xs) Px.f i); let s:=fun (i:Nat)=>(0≤(i:Int)∧(i:Int) < (n:Int)∧(i:Int).toNat*5 < xs.length); let t:=fun (i:Nat)=>(0≤(i:Int)∧(i:Int) < (f.toNat:Int)); let D:=fun (i:Nat)=>(List.set (zQu (zQc xs) Px.a i) ((i:Int).toNat*1) (dK (nAt xs ((i:Int).toNat*5+0+0)))=List.set (zQu (zQc xs) Px.a i) ((i:Int).toNat*1) (dK (nAt xs ((i:Int).toNat*5+0+0)))); let U:=fun (i:Nat)=>(List.set (zQu (zQc xs) Px.b i) ((i:Int).toNat*1) (dK (nAt xs ((i:Int).toNat*5+0+1)))=List.set (zQu (zQc xs) Px.b i) ((i:Int).toNat*1) (dK (nAt xs ((i:Int).toNat*5+0+1)))); tU4 ((Ans prog 92 [rJ w,rJ h] (RV.d (dQ (zQ8 w h))))∧tU2 (((!(zQ8 w h))=false→tU7 ((((n:Int) != f)=true→tU3 (K∧zQm ⟨AV.tup B,A,true⟩))∧(((n:Int) != f)=false→tU6 ((∃ _u:Unit,True∧((c∧e∧k∧(0=0)∧(0=0)∧a∧True)∧(l∧(c∧e∧m∧d∧d∧d∧d∧d∧a∧a∧a∧True∧a∧a∧a∧True∧a∧a∧a∧True∧a∧a∧a∧True∧a∧a∧a∧True∧True)∧True)))∧((∀ _u:Unit,True→tU2 (decide ((0:Int) < 5)=true∧tU7 (r∧tU2 (L∧tU4 (∃ _u:Unit,True∧((c∧e∧k∧(0=0)∧(0=0)∧M∧True)∧(l∧(c∧e∧m∧d∧d∧d∧d∧d∧c∧e∧c∧g∧a∧a∧a∧True∧a∧a∧a∧True∧a∧a∧a∧True∧a∧a∧a∧True∧True)∧j∧True)))))))∧(∀ _u:Unit,True→tU2 (decide ((1:Int) < 5)=true∧tU7 (r∧tU2 (N∧tU4 (∃ _u:Unit,True∧((c∧e∧k∧(0=0)∧(0=0)∧O∧True)∧(l∧(c∧e∧m∧d∧d∧d∧d∧d∧c∧e∧c∧g∧c∧e∧c∧g∧a∧a∧a∧True∧a∧a∧a∧True∧a∧a∧a∧True∧True)∧j∧j∧True)))))))∧(∀ _u:Unit,True→tU2 (decide ((2:Int) < 5)=true∧tU7 (r∧tU2 (P∧tU4 (∃ _u:Unit,True∧((c∧e∧k∧(0=0)∧(0=0)∧Q∧True)∧(l∧(c∧e∧m∧d∧d∧d∧d∧d∧c∧e∧c∧g∧c∧e∧c∧g∧c∧e∧c∧g∧a∧a∧a∧True∧a∧a∧a∧True∧True)∧j∧j∧j∧True)))))))∧(∀ _u:Unit,True→tU2 (decide ((3:Int) < 5)=true∧tU7 (r∧tU2 (R∧tU4 (∃ _u:Unit,True∧((c∧e∧k∧(0=0)∧(0=0)∧(dJ (wK ((3:Int)+1))=dJ 4)∧True)∧(l∧(c∧e∧m∧d∧d∧d∧d∧d∧c∧e∧c∧g∧c∧e∧c∧g∧c∧e∧c∧g∧c∧e∧c∧g∧a∧a∧a∧True∧True)∧j∧j∧j∧j∧True)))))))∧(∀ _u:Unit,True→tU2 (decide ((4:Int) < 5)=true∧tU7 (r∧tU2 (S∧tU4 (∃ _u:Unit,True∧((c∧e∧k∧(0=0)∧(0=0)∧(dJ (wK ((4:Int)+1))=dJ 5)∧True)∧(l∧o∧j∧j∧j∧j∧j∧True)))))))∧(∀ _u:Unit,True→tU2 (decide ((5:Int) < 5)=false∧True∧((∃ i:Nat,(i≤n)∧((k∧(0=0)∧(0=0)∧(dJ 0=dJ (i:Int))∧True)∧(l∧o∧(List.replicate f.toNat (dK 0)=zQu (zQc xs) Px.a i)∧(List.replicate f.toNat (dK 0)=zQu (zQc xs) Px.b i)∧(List.replicate f.toNat (dK 0)=zQu (zQc xs) Px.c i)∧(List.replicate f.toNat (dK 0)=zQu (zQc xs) Px.al i)∧(List.replicate f.toNat (dK 0)=zQu (zQc xs) Px.f i)∧True)))∧∀ i:Nat,let V:=(dK (nAt xs ((i:Int).toNat*5+4))); let W:=(dK (nAt xs ((i:Int).toNat*5+3))); let X:=(dK (nAt xs ((i:Int).toNat*5+0+1))); let Y:=(dK (nAt xs ((i:Int).toNat*5+0+0))); let y:=(zQu (zQc xs) Px.c i); let p:=((i:Int).toNat*1); let z:=(dK (nAt xs ((i:Int).toNat*5+0+2))); (i≤n)→tU4 (((decide ((i:Int) < (n:Int)))=true→True∧(∃ _u:Unit,True∧((k∧(0=0)∧(0=0)∧(u i)∧a∧True)∧(l∧o∧(zQu (zQc xs) Px.a i=zQu (zQc xs) Px.a i)∧(T i)∧(C i)∧(v i)∧(x i)∧True)))∧((∀ _u:Unit,True→tU2 (decide ((0:Int) < 3)=true∧tU2 (L∧tU6 ((s i)∧True∧(0≤(0:Int)∧(0:Int) < ((3:Nat):Int))∧((xs[(i:Int).toNat*5+0+0]?=some Y)∧True)∧(t i)∧((i:Int).toNat*1+1≤(zQu (zQc xs) Px.a i).length)∧(true=true)∧tU3 (∃ _u:Unit,True∧((k∧(0=0)∧(0=0)∧(u i)∧M∧True)∧(l∧o∧(D i)∧(T i)∧(C i)∧(v i)∧(x i)∧True)))))))∧(∀ _u:Unit,True→tU2 (decide ((1:Int) < 3)=true∧tU2 (N∧tU6 ((s i)∧True∧(0≤(1:Int)∧(1:Int) < ((3:Nat):Int))∧((xs[(i:Int).toNat*5+0+1]?=some X)∧True)∧(t i)∧((i:Int).toNat*1+1≤(zQu (zQc xs) Px.b i).length)∧(true=true)∧tU3 (∃ _u:Unit,True∧((k∧(0=0)∧(0=0)∧(u i)∧O∧True)∧(l∧o∧(D i)∧(U i)∧(C i)∧(v i)∧(x i)∧True)))))))∧(∀ _u:Unit,True→tU2 (decide ((2:Int) < 3)=true∧tU2 (P∧tU6 ((s i)∧True∧(0≤(2:Int)∧(2:Int) < ((3:Nat):Int))∧((xs[(i:Int).toNat*5+0+2]?=some z)∧True)∧(t i)∧((i:Int).toNat*1+1≤y.length)∧(true=true)∧tU3 (∃ _u:Unit,True∧((k∧(0=0)∧(0=0)∧(u i)∧Q∧True)∧(l∧o∧(D i)∧(U i)∧(List.set y p z=List.set y p z)∧(v i)∧(x i)∧True)))))))∧(∀ _u:Unit,True→tU2 (decide ((3:Int) < 3)=false∧True∧R∧tU4 (S∧tU5 ((s i)∧True∧((xs[(i:Int).toNat*5+3]?=some W)∧True)∧tU2 ((s i)∧True∧((xs[(i:Int).toNat*5+4]?=some V)∧True)∧(t i)∧((i:Int).toNat*1+1≤(zQu (zQc xs) Px.al i).length)∧(t i)∧((i:Int).toNat*1+1≤(zQu (zQc xs) Px.f i).length)∧(true=true)∧tU3 (∃ i':Nat,(i'≤n)∧(n - i' < n - i)∧((k∧(0=0)∧(0=0)∧(dJ (wK ((i:Int)+1))=dJ (i':Int))∧True)∧(l∧o∧(List.set (zQu (zQc xs) Px.a i) p Y=zQu (zQc xs) Px.a i')∧(List.set (zQu (zQc xs) Px.b i) p X=zQu (zQc xs) Px.b i')∧(List.set y p z=zQu (zQc xs) Px.c i')∧(List.set (zQu (zQc xs) Px.al i) p W=zQu (zQc xs) Px.al i')∧(List.set (zQu (zQc xs) Px.f i) p V=zQu (zQc xs) Px.f i')∧True))))))))∧True))∧((decide ((i:Int) < (n:Int)))=false→tU3 ((((((dJ w=dJ b.w)∧(dJ h=dJ b.h)∧E∧F∧G∧H∧I∧J∧(dJ w=dJ b.p0.w)∧(dJ h=dJ b.p0.h)∧(dJ w=dJ b.p0.s)∧(f.toNat=b.p0.n)∧(dJ w=dJ b.p1.w)∧(dJ h=dJ b.p1.h)∧(dJ w=dJ b.p1.s)∧(f.toNat=b.p1.n)∧(dJ w=dJ b.p2.w)∧(dJ h=dJ b.p2.h)∧(dJ w=dJ b.p2.s)∧(f.toNat=b.p2.n)∧(dJ w=dJ b.p3.w)∧(dJ h=dJ b.p3.h)∧(dJ w=dJ b.p3.s)∧(f.toNat=b.p3.n)∧(dJ w=dJ b.p4.w)∧(dJ h=dJ b.p4.h)∧(dJ w=dJ b.p4.s)∧(f.toNat=b.p4.n)∧True)∧(dQ true=dQ (ofOk w h n))∧True)∧True)∧((zQu (zQc xs) Px.a i=b.p0.xs)∧(zQu (zQc xs) Px.b i=b.p1.xs)∧(zQu (zQc xs) Px.c i=b.p2.xs)∧(zQu (zQc xs) Px.al i=b.p3.xs)∧(zQu (zQc xs) Px.f i=b.p4.xs)∧True))∧zQm ⟨AV.tup B,A,true⟩))))))∧True)))))∧((!(zQ8 w h))=(!false)→tU4 (K∧zQm ⟨AV.tup B,A,true⟩)))))) ?_
  delta dJ dK dQ wK dS rJ
  simp only [sS,zQI,zQD,zQQ,zQT,zQL,zQV,zQW,zZd]
  obtain ⟨l,rfl,rfl⟩:=hx.of
  simp only [zQS,imV,imB,zQm,AV.flatV,AV.flatVL,Cl.flatV,zGv,Bx.flatVL,Bx.flatV,zGq,true_and,and_true]
  simp only [DV.flat,true_and,and_true]
  have no:∀ {P:Prop},(imOf w h l=Im.zero→ofOk w h l.length=false→P)→(ofOk w h l.length=false)→P:=fun f h=>f (zUe h) h
  have le:=@zXi w h
  refine ⟨fun q1=>⟨fun q2=>?_,fun q2=>?_⟩,fun q1=>?_⟩
  ·obtain ⟨f1,f2,f3,f4,f5⟩:=le q1
   have wm:IntKind.wrap .i64 (w*h)=w*h:=IntWalk.i64_in _ ⟨by have:=Int.mul_nonneg (a:=w) (b:=h) (by omega) (by omega); omega,by omega⟩
   refine no (fun e1 e2=>?_) (by rw [wm] at q2; simp [ofOk,q1]; simpa using q2)
   rw [e1,e2]; simp [Im.zero,Px.zero,Pl.none]
  ·obtain ⟨f1,f2,f3,f4,f5⟩:=le q1
   have wm:IntKind.wrap .i64 (w*h)=w*h:=IntWalk.i64_in _ ⟨by have:=Int.mul_nonneg (a:=w) (b:=h) (by omega) (by omega); omega,by omega⟩
   have hl:(l.length:Int)=w*h:=by rw [wm] at q2; simpa using q2
   have hk:ofOk w h l.length=true:=by simp [ofOk,q1,hl]
   have hb:l.length≤16777216:=by omega
   rw [hk,zKJ hk]
   simp only [ofIm,Px.zero,maxLen,wm]
   simp only [← hl,Int.toNat_natCast,Nat.add_zero]
   (repeat' (first | apply And.intro | intro)) <;> (first | (exact ⟨0,by omega,rfl,(zXx _ _).symm,(zXx _ _).symm,(zXx _ _).symm,(zXx _ _).symm,(zXx _ _).symm⟩) | (first | assumption | rfl | omega | (exact ⟨0,by omega,rfl,(zXx _ _).symm⟩) | exact jZB (by omega) | exact zYL (j:=1) (by omega) (by omega) | exact zYL (j:=2) (by omega) (by omega) | exact zYL (j:=3) (by omega) (by omega) | exact zYL (j:=4) (by omega) (by omega) | (rw [zZs]; omega) | (rw [zKe (by assumption)]; omega) | exact zKx (by assumption) (by assumption) (fun h=>(zZr h).1) | exact zKx (by assumption) (by assumption) (fun h=>(zZr h).2.1) | exact zKx (by assumption) (by assumption) (fun h=>(zZr h).2.2.1) | exact zKx (by assumption) (by assumption) (fun h=>(zZr h).2.2.2.1) | exact zKx (by assumption) (by assumption) (fun h=>(zZr h).2.2.2.2) | exact ⟨(),by decide,jJQ (by assumption) (by assumption)⟩ | exact ⟨(),trivial⟩ | exact ⟨(),by decide⟩ | exact zKf _ _ | (rw [jJQ (by assumption) (by assumption)]; exact zKf _ _) | exact jYB (by assumption) (by assumption) (fun h=>(zZr h).1) (fun h=>(zZr h).2.1) (fun h=>(zZr h).2.2.1) (fun h=>(zZr h).2.2.2.1) (fun h=>(zZr h).2.2.2.2) | (rw [zKe (by omega)]; omega) | decide))
  ·refine no (fun e1 e2=>?_) (by simp [ofOk,q1])
   rw [e1,e2]; simp [Im.zero,Px.zero,Pl.none]
theorem zKW (w h:Int) (so:Bool) (c0 c1 c2 ca cf w0 h0 s0:Int) (n0:Nat) (xs0:List DV) (w1 h1 s1:Int) (n1:Nat) (xs1:List DV) (w2 h2 s2:Int) (n2:Nat) (xs2:List DV) (w3 h3 s3:Int) (n3:Nat) (xs3:List DV) (w4 h4 s4:Int) (n4:Nat) (xs4:List DV) (w' h':Int) (so':Bool) (c0' c1' c2' ca' cf' w0' h0' s0':Int) (n0':Nat) (xs0':List DV) (w1' h1' s1':Int) (n1':Nat) (xs1':List DV) (w2' h2' s2':Int) (n2':Nat) (xs2':List DV) (w3' h3' s3':Int) (n3':Nat) (xs3':List DV) (w4' h4' s4':Int) (n4':Nat) (xs4':List DV) (hu:Im.isU ⟨w,h,so,⟨c0,c1,c2,ca,cf⟩,⟨w0,h0,s0,n0,xs0⟩,⟨w1,h1,s1,n1,xs1⟩,⟨w2,h2,s2,n2,xs2⟩,⟨w3,h3,s3,n3,xs3⟩,⟨w4,h4,s4,n4,xs4⟩⟩) (hv:Im.isU ⟨w',h',so',⟨c0',c1',c2',ca',cf'⟩,⟨w0',h0',s0',n0',xs0'⟩,⟨w1',h1',s1',n1',xs1'⟩,⟨w2',h2',s2',n2',xs2'⟩,⟨w3',h3',s3',n3',xs3'⟩,⟨w4',h4',s4',n4',xs4'⟩⟩):Ans prog 42 [RV.agg [dJ w,dJ h,dQ so,dK c0,dK c1,dK c2,dK ca,dK cf,dJ w0,dJ h0,dJ s0,dS n0 xs0,dJ w1,dJ h1,dJ s1,dS n1 xs1,dJ w2,dJ h2,dJ s2,dS n2 xs2,dJ w3,dJ h3,dJ s3,dS n3 xs3,dJ w4,dJ h4,dJ s4,dS n4 xs4],RV.agg [dJ w',dJ h',dQ so',dK c0',dK c1',dK c2',dK ca',dK cf',dJ w0',dJ h0',dJ s0',dS n0' xs0',dJ w1',dJ h1',dJ s1',dS n1' xs1',dJ w2',dJ h2',dJ s2',dS n2' xs2',dJ w3',dJ h3',dJ s3',dS n3' xs3',dJ w4',dJ h4',dJ s4',dS n4' xs4']] (RV.d (dQ (Im.equal ⟨w,h,so,⟨c0,c1,c2,ca,cf⟩,⟨w0,h0,s0,n0,xs0⟩,⟨w1,h1,s1,n1,xs1⟩,⟨w2,h2,s2,n2,xs2⟩,⟨w3,h3,s3,n3,xs3⟩,⟨w4,h4,s4,n4,xs4⟩⟩ ⟨w',h',so',⟨c0',c1',c2',ca',cf'⟩,⟨w0',h0',s0',n0',xs0'⟩,⟨w1',h1',s1',n1',xs1'⟩,⟨w2',h2',s2',n2',xs2'⟩,⟨w3',h3',s3',n3',xs3'⟩,⟨w4',h4',s4',n4',xs4'⟩⟩))):=
 zQj (Γ:=gamI) Ann.leaf zQs Tryz.func42 rfl (nL rfl) fun hwf=>by
  refine Eq.mpr (by kernel_rfl:_=(let f:=[RV.agg [dJ w,dJ h,dQ so,dK c0,dK c1,dK c2,dK ca,dK cf,dJ w0,dJ h0,dJ s0,dS n0 xs0,dJ w1,dJ h1,dJ s1,dS n1 xs1,dJ w2,dJ h2,dJ s2,dS n2 xs2,dJ w3,dJ h3,dJ s3,dS n3 xs3,dJ w4,dJ h4,dJ s4,dS n4 xs4]]; let b:=(Im.formed ⟨w,h,so,⟨c0,c1,c2,ca,cf⟩,⟨w0,h0,s0,n0,xs0⟩,⟨w1,h1,s1,n1,xs1⟩,⟨w2,h2,s2,n2,xs2⟩,⟨w3,h3,s3,n3,xs3⟩,⟨w4,h4,s4,n4,xs4⟩⟩); let g:=[RV.agg [dJ w',dJ h',dQ so',dK c0',dK c1',dK c2',dK ca',dK cf',dJ w0',dJ h0',dJ s0',dS n0' xs0',dJ w1',dJ h1',dJ s1',dS n1' xs1',dJ w2',dJ h2',dJ s2',dS n2' xs2',dJ w3',dJ h3',dJ s3',dS n3' xs3',dJ w4',dJ h4',dJ s4',dS n4' xs4']]; let c:=(Im.formed ⟨w',h',so',⟨c0',c1',c2',ca',cf'⟩,⟨w0',h0',s0',n0',xs0'⟩,⟨w1',h1',s1',n1',xs1'⟩,⟨w2',h2',s2',n2',xs2'⟩,⟨w3',h3',s3',n3',xs3'⟩,⟨w4',h4',s4',n4',xs4'⟩⟩); let i:=(Im.pixels ⟨w,h,so,⟨c0,c1,c2,ca,cf⟩,⟨w0,h0,s0,n0,xs0⟩,⟨w1,h1,s1,n1,xs1⟩,⟨w2,h2,s2,n2,xs2⟩,⟨w3,h3,s3,n3,xs3⟩,⟨w4,h4,s4,n4,xs4⟩⟩); let j:=i.length; let d:=(pxs i); let k:=(Im.pixels ⟨w',h',so',⟨c0',c1',c2',ca',cf'⟩,⟨w0',h0',s0',n0',xs0'⟩,⟨w1',h1',s1',n1',xs1'⟩,⟨w2',h2',s2',n2',xs2'⟩,⟨w3',h3',s3',n3',xs3'⟩,⟨w4',h4',s4',n4',xs4'⟩⟩); let l:=k.length; let e:=(pxs k); let m:=(dQ (decide (zQc d=zQc e))); let n:=(dQ (Im.equal ⟨w,h,so,⟨c0,c1,c2,ca,cf⟩,⟨w0,h0,s0,n0,xs0⟩,⟨w1,h1,s1,n1,xs1⟩,⟨w2,h2,s2,n2,xs2⟩,⟨w3,h3,s3,n3,xs3⟩,⟨w4,h4,s4,n4,xs4⟩⟩ ⟨w',h',so',⟨c0',c1',c2',ca',cf'⟩,⟨w0',h0',s0',n0',xs0'⟩,⟨w1',h1',s1',n1',xs1'⟩,⟨w2',h2',s2',n2',xs2'⟩,⟨w3',h3',s3',n3',xs3'⟩,⟨w4',h4',s4',n4',xs4'⟩⟩)); let a:=((true=true)∧RV.d (dQ false)=RV.d n); tU4 ((Ans prog 66 f (RV.d (dQ b)))∧True∧((b=true→True∧(Ans prog 66 g (RV.d (dQ c)))∧tU2 ((c=true→tU7 (((w==w')=true→tU7 (((h==h')=true→True∧(AnsO prog 33 f 37 5 j d)∧True∧(AnsO prog 33 g 37 5 l e)∧(Ans prog 80 [RV.d (dS j d),RV.d (dS l e)] (RV.d m))∧tU2 ((true=true)∧RV.d m=RV.d n))∧((h==h')=(!true)→tU2 a)))∧((w==w')=(!true)→tU4 a)))∧(c=(!true)→tU6 a)))∧(b=(!true)→tU8 a))))) ?_
  delta dJ dK dQ dS
  simp only [sS,zQI,zQD,zQQ,zQT,zQL,zQV,zQW,zZd]
  obtain ⟨m,hm⟩:∃ m:Im,m=⟨w,h,so,⟨c0,c1,c2,ca,cf⟩,⟨w0,h0,s0,n0,xs0⟩,⟨w1,h1,s1,n1,xs1⟩,⟨w2,h2,s2,n2,xs2⟩,⟨w3,h3,s3,n3,xs3⟩,⟨w4,h4,s4,n4,xs4⟩⟩:=⟨_,rfl⟩
  obtain ⟨r,hr⟩:∃ r:Im,r=⟨w',h',so',⟨c0',c1',c2',ca',cf'⟩,⟨w0',h0',s0',n0',xs0'⟩,⟨w1',h1',s1',n1',xs1'⟩,⟨w2',h2',s2',n2',xs2'⟩,⟨w3',h3',s3',n3',xs3'⟩,⟨w4',h4',s4',n4',xs4'⟩⟩:=⟨_,rfl⟩
  have pix:=zYP w h so c0 c1 c2 ca cf w0 h0 s0 n0 xs0 w1 h1 s1 n1 xs1 w2 h2 s2 n2 xs2 w3 h3 s3 n3 xs3 w4 h4 s4 n4 xs4 hu
  have pix':=zYP w' h' so' c0' c1' c2' ca' cf' w0' h0' s0' n0' xs0' w1' h1' s1' n1' xs1' w2' h2' s2' n2' xs2' w3' h3' s3' n3' xs3' w4' h4' s4' n4' xs4' hv
  have ew:w=m.w:=by rw [hm]
  have eh:h=m.h:=by rw [hm]
  have ew':w'=r.w:=by rw [hr]
  have eh':h'=r.h:=by rw [hr]
  rw [← hm] at pix
  rw [← hr] at pix'
  simp only [← hm,← hr]
  refine ⟨fun q1=>⟨fun q2=>⟨fun q3=>⟨fun q4=>⟨pix,pix',zVr _ _ _ _ (zJP _) (zJP _),?_⟩,fun q4=>?_⟩,fun q3=>?_⟩,fun q2=>?_⟩,fun q1=>?_⟩
  ·have hw:m.w=r.w:=by rw [← ew,← ew']; simpa using q3
   have hh:m.h=r.h:=by rw [← eh,← eh']; simpa using q4
   simp only [zQS]
   simp [Im.equal,q1,q2,hw,hh]
  ·have hh:¬ m.h=r.h:=by rw [← eh,← eh']; simpa using q4
   simp [Im.equal,hh]
  ·have hw:¬ m.w=r.w:=by rw [← ew,← ew']; simpa using q3
   simp [Im.equal,hw]
  ·simp [Im.equal,q2]
  ·simp [Im.equal,q1]
def pxR (p:Px):RV:=RV.agg [DV.int .u16 p.a,DV.int .u16 p.b,DV.int .u16 p.c,DV.int .u16 p.al,DV.int .u16 p.f]
theorem zUO (m:Im) (most:Int) (hu:m.isU):Ans prog 94 [imR m,RV.d (DV.int .u16 most)] (RV.d (DV.int .i64 (m.valid most))):=zUc ((m).w) ((m).h) ((m).so) (((m).c).a) (((m).c).b) (((m).c).c) (((m).c).al) (((m).c).f) (((m).p0).w) (((m).p0).h) (((m).p0).s) (((m).p0).n) (((m).p0).xs) (((m).p1).w) (((m).p1).h) (((m).p1).s) (((m).p1).n) (((m).p1).xs) (((m).p2).w) (((m).p2).h) (((m).p2).s) (((m).p2).n) (((m).p2).xs) (((m).p3).w) (((m).p3).h) (((m).p3).s) (((m).p3).n) (((m).p3).xs) (((m).p4).w) (((m).p4).h) (((m).p4).s) (((m).p4).n) (((m).p4).xs) most hu
theorem zVs (m r:Im) (hu:m.isU) (hv:r.isU):Ans prog 42 [imR m,imR r] (RV.d (DV.bool (m.equal r))):=zKW ((m).w) ((m).h) ((m).so) (((m).c).a) (((m).c).b) (((m).c).c) (((m).c).al) (((m).c).f) (((m).p0).w) (((m).p0).h) (((m).p0).s) (((m).p0).n) (((m).p0).xs) (((m).p1).w) (((m).p1).h) (((m).p1).s) (((m).p1).n) (((m).p1).xs) (((m).p2).w) (((m).p2).h) (((m).p2).s) (((m).p2).n) (((m).p2).xs) (((m).p3).w) (((m).p3).h) (((m).p3).s) (((m).p3).n) (((m).p3).xs) (((m).p4).w) (((m).p4).h) (((m).p4).s) (((m).p4).n) (((m).p4).xs) ((r).w) ((r).h) ((r).so) (((r).c).a) (((r).c).b) (((r).c).c) (((r).c).al) (((r).c).f) (((r).p0).w) (((r).p0).h) (((r).p0).s) (((r).p0).n) (((r).p0).xs) (((r).p1).w) (((r).p1).h) (((r).p1).s) (((r).p1).n) (((r).p1).xs) (((r).p2).w) (((r).p2).h) (((r).p2).s) (((r).p2).n) (((r).p2).xs) (((r).p3).w) (((r).p3).h) (((r).p3).s) (((r).p3).n) (((r).p3).xs) (((r).p4).w) (((r).p4).h) (((r).p4).s) (((r).p4).n) (((r).p4).xs)  hu hv
theorem zUd (m:Im) (hu:m.isU):AnsO prog 61 [imR m] 37 5 m.pixels.length (pxs m.pixels):=zWi ((m).w) ((m).h) ((m).so) (((m).c).a) (((m).c).b) (((m).c).c) (((m).c).al) (((m).c).f) (((m).p0).w) (((m).p0).h) (((m).p0).s) (((m).p0).n) (((m).p0).xs) (((m).p1).w) (((m).p1).h) (((m).p1).s) (((m).p1).n) (((m).p1).xs) (((m).p2).w) (((m).p2).h) (((m).p2).s) (((m).p2).n) (((m).p2).xs) (((m).p3).w) (((m).p3).h) (((m).p3).s) (((m).p3).n) (((m).p3).xs) (((m).p4).w) (((m).p4).h) (((m).p4).s) (((m).p4).n) (((m).p4).xs)  hu
theorem zHy (m:Im) (hu:m.isU):AnsO prog 33 [imR m] 37 5 m.pixels.length (pxs m.pixels):=zYP ((m).w) ((m).h) ((m).so) (((m).c).a) (((m).c).b) (((m).c).c) (((m).c).al) (((m).c).f) (((m).p0).w) (((m).p0).h) (((m).p0).s) (((m).p0).n) (((m).p0).xs) (((m).p1).w) (((m).p1).h) (((m).p1).s) (((m).p1).n) (((m).p1).xs) (((m).p2).w) (((m).p2).h) (((m).p2).s) (((m).p2).n) (((m).p2).xs) (((m).p3).w) (((m).p3).h) (((m).p3).s) (((m).p3).n) (((m).p3).xs) (((m).p4).w) (((m).p4).h) (((m).p4).s) (((m).p4).n) (((m).p4).xs)  hu
theorem jZg (w h:Int) (n:Nat) (xs:List DV) (hx:zUW n xs):AnsG prog 108 0 [AV.one (Cl.d (DV.int .i64 w)),AV.one (Cl.d (DV.int .i64 h)),AV.one (Cl.d (DV.sl n xs))] [] ⟨AV.tup [imV 0 (imOf w h (zQc xs)),AV.one (Cl.d (DV.bool (ofOk w h n)))],imB 34 (imOf w h (zQc xs)),true⟩:=jQc w h n xs hx
theorem zYQ (w h:Int) (n:Nat) (xs:List DV) (hx:zUW n xs):AnsG prog 48 0 [AV.one (Cl.d (DV.int .i64 w)),AV.one (Cl.d (DV.int .i64 h)),AV.one (Cl.d (DV.sl n xs))] [] ⟨AV.tup [imV 0 (imOf w h (zQc xs)),AV.one (Cl.d (DV.bool (ofOk w h n)))],imB 34 (imOf w h (zQc xs)),true⟩:=zUF w h n xs hx
theorem zYJ (w h:Int) (c:Px):Ans prog 22 [RV.d (DV.int .i64 w),RV.d (DV.int .i64 h),pxR c] (imR (zQg w h c)):=zHx w h c.a c.b c.c c.al c.f
def jWA:Gam where
 pure:=fun f xs=>
  if f=14 then gZ0 xs else
  if f=47 then gZ23 xs else
  if f=22 then gZ17 xs else
  none
 modes:=fun f=>
  if f=48 then some ([true,true,true],0,5) else
  none
 proc:=fun f xs bs=>
  if f=48 then gZ24 xs bs else
  none
 iter:=fun f cs=>
  none
theorem jQF (pw ph so mood:Int) (L:Nat) (xs:List DV) (x0 y0 x1 y1 most:Int) (hx:Is5 L xs) (hc:1≤x1 - x0∧x1 - x0≤100∧1≤y1 - y0∧y1 - y0≤100):Ans prog 21 [RV.agg [dJ pw,dJ ph,dJ so,dJ mood,dS L xs],RV.agg [dJ x0,dJ y0,dJ x1,dJ y1],RV.d (dK most)] (RV.agg [dJ ((zQ5 pw ph so mood L xs x0 y0 x1 y1 most).w),dJ ((zQ5 pw ph so mood L xs x0 y0 x1 y1 most).h),dQ ((zQ5 pw ph so mood L xs x0 y0 x1 y1 most).so),dK (((zQ5 pw ph so mood L xs x0 y0 x1 y1 most).c).a),dK (((zQ5 pw ph so mood L xs x0 y0 x1 y1 most).c).b),dK (((zQ5 pw ph so mood L xs x0 y0 x1 y1 most).c).c),dK (((zQ5 pw ph so mood L xs x0 y0 x1 y1 most).c).al),dK (((zQ5 pw ph so mood L xs x0 y0 x1 y1 most).c).f),dJ (((zQ5 pw ph so mood L xs x0 y0 x1 y1 most).p0).w),dJ (((zQ5 pw ph so mood L xs x0 y0 x1 y1 most).p0).h),dJ (((zQ5 pw ph so mood L xs x0 y0 x1 y1 most).p0).s),dS (((zQ5 pw ph so mood L xs x0 y0 x1 y1 most).p0).n) (((zQ5 pw ph so mood L xs x0 y0 x1 y1 most).p0).xs),dJ (((zQ5 pw ph so mood L xs x0 y0 x1 y1 most).p1).w),dJ (((zQ5 pw ph so mood L xs x0 y0 x1 y1 most).p1).h),dJ (((zQ5 pw ph so mood L xs x0 y0 x1 y1 most).p1).s),dS (((zQ5 pw ph so mood L xs x0 y0 x1 y1 most).p1).n) (((zQ5 pw ph so mood L xs x0 y0 x1 y1 most).p1).xs),dJ (((zQ5 pw ph so mood L xs x0 y0 x1 y1 most).p2).w),dJ (((zQ5 pw ph so mood L xs x0 y0 x1 y1 most).p2).h),dJ (((zQ5 pw ph so mood L xs x0 y0 x1 y1 most).p2).s),dS (((zQ5 pw ph so mood L xs x0 y0 x1 y1 most).p2).n) (((zQ5 pw ph so mood L xs x0 y0 x1 y1 most).p2).xs),dJ (((zQ5 pw ph so mood L xs x0 y0 x1 y1 most).p3).w),dJ (((zQ5 pw ph so mood L xs x0 y0 x1 y1 most).p3).h),dJ (((zQ5 pw ph so mood L xs x0 y0 x1 y1 most).p3).s),dS (((zQ5 pw ph so mood L xs x0 y0 x1 y1 most).p3).n) (((zQ5 pw ph so mood L xs x0 y0 x1 y1 most).p3).xs),dJ (((zQ5 pw ph so mood L xs x0 y0 x1 y1 most).p4).w),dJ (((zQ5 pw ph so mood L xs x0 y0 x1 y1 most).p4).h),dJ (((zQ5 pw ph so mood L xs x0 y0 x1 y1 most).p4).s),dS (((zQ5 pw ph so mood L xs x0 y0 x1 y1 most).p4).n) (((zQ5 pw ph so mood L xs x0 y0 x1 y1 most).p4).xs)]):=
 zQj (Γ:=jWA) Ann.leaf zQs Tryz.func21 rfl (nL rfl) fun hwf=>by
  refine Eq.mpr (by kernel_rfl:_=(let g:=((modS so (2:Int))==0); let p:=(wK (Int.tdiv pw (5:Int))); let k:=(modS p (3:Int)); let q:=[dJ mood,dS L xs]; let c:=(wK (x1 - x0)); let d:=(wK (y1 - y0)); let h:=(wK (c*d)); let l:=h.toNat; let a:=(pxs (zQG mood L xs most h.toNat)); let m:=(imOf c d (zQc a)); let r:=(Ans prog 14 [rJ so,rJ 2] (rJ (modS so (2:Int)))); let s:=(dJ c); let t:=(dJ d); let u:=(imR (zQg c d ⟨(nAt a 0),(nAt a 1),(nAt a 2),(nAt a 3),(nAt a 4)⟩)); let i:=(imR (zQ5 pw ph so mood L xs x0 y0 x1 y1 most)); let e:=(wK ((1:Int)+(modS pw (5:Int)))); let f:=(wK ((1:Int)+(modS ph (4:Int)))); let j:=(wK (e*f)); let n:=j.toNat; let b:=(pxs (zQG mood L xs most j.toNat)); let o:=(imOf e f (zQc b)); let v:=(dJ e); let w:=(dJ f); let x:=(imR (zQg e f ⟨(nAt b 0),(nAt b 1),(nAt b 2),(nAt b 3),(nAt b 4)⟩)); tU5 ((Ans prog 14 [rJ pw,rJ 5] (rJ (modS pw (5:Int))))∧tU3 ((Ans prog 14 [rJ ph,rJ 4] (rJ (modS ph (4:Int))))∧tU3 ((true=true)∧tU2 (((5:Int)≠0)∧(Ans prog 14 [rJ p,rJ 3] (rJ k))∧True∧(((k==0)=true→tU4 (tU8 ((true=true)∧tU6 ((AnsO prog 47 [RV.agg q,rJ h,RV.d (dK most)] 37 5 l a)∧tU3 (r∧True∧((g=true→tU3 ((0≤(0:Int)∧(0:Int) < (h.toNat:Int))∧((a[0]?=some (dK (nAt a 0)))∧(a[1]?=some (dK (nAt a 1)))∧(a[2]?=some (dK (nAt a 2)))∧(a[3]?=some (dK (nAt a 3)))∧(a[4]?=some (dK (nAt a 4)))∧True)∧(Ans prog 22 [RV.d s,RV.d t,RV.agg [dK (nAt a 0),dK (nAt a 1),dK (nAt a 2),dK (nAt a 3),dK (nAt a 4)]] u)∧True∧u=i))∧(g=false→tU3 ((AnsG prog 48 0 [AV.one (Cl.d s),AV.one (Cl.d t),AV.one (Cl.d (dS l a))] [] ⟨AV.tup [(imV 0 m),AV.one (Cl.d (dQ (ofOk c d l)))],(imB 34 m),true⟩)∧tU8 ((imR m)=i)))))))))∧((k==0)=false→tU6 ((AnsO prog 47 [RV.agg q,rJ j,RV.d (dK most)] 37 5 n b)∧tU3 (r∧True∧((g=true→tU3 ((0≤(0:Int)∧(0:Int) < (j.toNat:Int))∧((b[0]?=some (dK (nAt b 0)))∧(b[1]?=some (dK (nAt b 1)))∧(b[2]?=some (dK (nAt b 2)))∧(b[3]?=some (dK (nAt b 3)))∧(b[4]?=some (dK (nAt b 4)))∧True)∧(Ans prog 22 [RV.d v,RV.d w,RV.agg [dK (nAt b 0),dK (nAt b 1),dK (nAt b 2),dK (nAt b 3),dK (nAt b 4)]] x)∧True∧x=i))∧(g=false→tU3 ((AnsG prog 48 0 [AV.one (Cl.d v),AV.one (Cl.d w),AV.one (Cl.d (dS n b))] [] ⟨AV.tup [(imV 0 o),AV.one (Cl.d (dQ (ofOk e f n)))],(imB 34 o),true⟩)∧tU8 ((imR o)=i)))))))))))))) ?_
  delta dJ dK dQ wK dS rJ
  simp only [sS,zQI]
  have go:∀ W H:Int,(1≤W∧W≤100)→(1≤H∧H≤100)→0 < (IntKind.wrap .i64 (W*H)).toNat∧IntKind.wrap .i64 (W*H)≤16777216:=fun W H a b=>by have:=zHC a b; omega
  have b5:=@zZw pw 5 (by omega) (by omega)
  have b4:=@zZw ph 4 (by omega) (by omega)
  refine ⟨by omega,fun q1=>?_,fun q1=>?_⟩
  ·have hW:zYk pw 5 x0 x1 pw=IntKind.wrap .i64 (x1 - x0):=by unfold zYk; rw [if_pos (by simpa using q1)]
   have hH:zYk ph 4 y0 y1 pw=IntKind.wrap .i64 (y1 - y0):=by unfold zYk; rw [if_pos (by simpa using q1)]
   have gi:=zVn pw ph so mood L xs x0 y0 x1 y1 most _ _ hW hH
   have cW:1≤IntKind.wrap .i64 (x1 - x0)∧IntKind.wrap .i64 (x1 - x0)≤100:=by rw [IntWalk.i64_in _ ⟨by omega,by omega⟩]; omega
   have cH:1≤IntKind.wrap .i64 (y1 - y0)∧IntKind.wrap .i64 (y1 - y0)≤100:=by rw [IntWalk.i64_in _ ⟨by omega,by omega⟩]; omega
   generalize IntKind.wrap .i64 (x1 - x0)=W at *
   generalize IntKind.wrap .i64 (y1 - y0)=H at *
   obtain ⟨g1,g2⟩:=go W H cW cH
   have pn:=zWa mood L xs (IntKind.wrap .i64 (W*H)) most hx g2
   refine ⟨pn,fun q2=>?_,fun q2=>?_⟩
   ·have hs:modS so 2=0:=by simpa using q2
    rw [if_pos hs] at gi
    obtain ⟨v0,v1,v2,v3,v4⟩:=zV1 (mood:=mood) (L:=L) (xs:=xs) (most:=most) g1
    have f0:=zJs (mood:=mood) (L:=L) (xs:=xs) (most:=most) g1 0 (by omega)
    have f1:=zJs (mood:=mood) (L:=L) (xs:=xs) (most:=most) g1 1 (by omega)
    have f2:=zJs (mood:=mood) (L:=L) (xs:=xs) (most:=most) g1 2 (by omega)
    have f3:=zJs (mood:=mood) (L:=L) (xs:=xs) (most:=most) g1 3 (by omega)
    have f4:=zJs (mood:=mood) (L:=L) (xs:=xs) (most:=most) g1 4 (by omega)
    have g3:0 < IntKind.wrap .i64 (W*H):=by omega
    rw [gi]
    simp only [v0,v1,v2,v3,v4] at f0 f1 f2 f3 f4 ⊢
    exact ⟨⟨by omega,by omega⟩,⟨f0,f1,f2,f3,f4⟩,zYJ W H ⟨_,_,_,_,_⟩,trivial⟩
   ·have hs:¬ modS so 2=0:=by simpa using q2
    rw [if_neg hs] at gi
    rw [gi]
    have po:=zYQ W H _ (pxs (zQG mood L xs most (IntKind.wrap .i64 (W*H)).toNat)) (zGs _ _ _ _ rfl)
    simp only [zQS] at po ⊢
    exact ⟨po,trivial⟩
  ·have hW:zYk pw 5 x0 x1 pw=IntKind.wrap .i64 (1+modS pw 5):=by unfold zYk; rw [if_neg (by simpa using q1)]
   have hH:zYk ph 4 y0 y1 pw=IntKind.wrap .i64 (1+modS ph 4):=by unfold zYk; rw [if_neg (by simpa using q1)]
   have gi:=zVn pw ph so mood L xs x0 y0 x1 y1 most _ _ hW hH
   have cW:1≤IntKind.wrap .i64 (1+modS pw 5)∧IntKind.wrap .i64 (1+modS pw 5)≤100:=by rw [IntWalk.i64_in _ ⟨by omega,by omega⟩]; omega
   have cH:1≤IntKind.wrap .i64 (1+modS ph 4)∧IntKind.wrap .i64 (1+modS ph 4)≤100:=by rw [IntWalk.i64_in _ ⟨by omega,by omega⟩]; omega
   generalize IntKind.wrap .i64 (1+modS pw 5)=W at *
   generalize IntKind.wrap .i64 (1+modS ph 4)=H at *
   obtain ⟨g1,g2⟩:=go W H cW cH
   have pn:=zWa mood L xs (IntKind.wrap .i64 (W*H)) most hx g2
   refine ⟨pn,fun q2=>?_,fun q2=>?_⟩
   ·have hs:modS so 2=0:=by simpa using q2
    rw [if_pos hs] at gi
    obtain ⟨v0,v1,v2,v3,v4⟩:=zV1 (mood:=mood) (L:=L) (xs:=xs) (most:=most) g1
    have f0:=zJs (mood:=mood) (L:=L) (xs:=xs) (most:=most) g1 0 (by omega)
    have f1:=zJs (mood:=mood) (L:=L) (xs:=xs) (most:=most) g1 1 (by omega)
    have f2:=zJs (mood:=mood) (L:=L) (xs:=xs) (most:=most) g1 2 (by omega)
    have f3:=zJs (mood:=mood) (L:=L) (xs:=xs) (most:=most) g1 3 (by omega)
    have f4:=zJs (mood:=mood) (L:=L) (xs:=xs) (most:=most) g1 4 (by omega)
    have g3:0 < IntKind.wrap .i64 (W*H):=by omega
    rw [gi]
    simp only [v0,v1,v2,v3,v4] at f0 f1 f2 f3 f4 ⊢
    exact ⟨⟨by omega,by omega⟩,⟨f0,f1,f2,f3,f4⟩,zYJ W H ⟨_,_,_,_,_⟩,trivial⟩
   ·have hs:¬ modS so 2=0:=by simpa using q2
    rw [if_neg hs] at gi
    rw [gi]
    have po:=zYQ W H _ (pxs (zQG mood L xs most (IntKind.wrap .i64 (W*H)).toNat)) (zGs _ _ _ _ rfl)
    simp only [zQS] at po ⊢
    exact ⟨po,trivial⟩
def jWz:Gam where
 pure:=fun f xs=>
  if f=14 then gZ0 xs else
  if f=18 then gZ21 xs else
  if f=21 then (match xs with | [.agg [.int _ pw,.int _ ph,.int _ so,.int _ mood,.sl L xs],.agg [.int _ x0,.int _ y0,.int _ x1,.int _ y1],.d (.int _ most)]=>let a:=(zQ5 pw ph so mood L xs x0 y0 x1 y1 most); some (RV.agg [DV.int .i64 a.w,DV.int .i64 a.h,DV.bool a.so,DV.int .u16 a.c.a,DV.int .u16 a.c.b,DV.int .u16 a.c.c,DV.int .u16 a.c.al,DV.int .u16 a.c.f,DV.int .i64 a.p0.w,DV.int .i64 a.p0.h,DV.int .i64 a.p0.s,DV.sl a.p0.n a.p0.xs,DV.int .i64 a.p1.w,DV.int .i64 a.p1.h,DV.int .i64 a.p1.s,DV.sl a.p1.n a.p1.xs,DV.int .i64 a.p2.w,DV.int .i64 a.p2.h,DV.int .i64 a.p2.s,DV.sl a.p2.n a.p2.xs,DV.int .i64 a.p3.w,DV.int .i64 a.p3.h,DV.int .i64 a.p3.s,DV.sl a.p3.n a.p3.xs,DV.int .i64 a.p4.w,DV.int .i64 a.p4.h,DV.int .i64 a.p4.s,DV.sl a.p4.n a.p4.xs]) | _=>none) else
  if f=23 then gZ26 xs else
  if f=20 then gZ11 xs else
  if f=19 then gZ25 xs else
  if f=22 then gZ17 xs else
  none
 modes:=fun f=>
  none
 proc:=fun f xs bs=>
  none
 iter:=fun f cs=>
  none
theorem jQE (s:Scn) (hs:s.ok):AnsG prog 9 0 [AV.agg [cJ (s.b),cJ (s.x),cJ (s.y),cJ (s.w),cJ (s.h),cJ (s.tw),cJ (s.th),Cl.d (dS s.on s.oxs),Cl.d (dS s.pn s.pxs),Cl.d (dS s.rn s.rxs)]] [] ⟨AV.agg [cJ (((s).bits)),cJ (((s).c.a)),cJ (((s).c.b)),cJ (((s).c.c)),cJ (((s).c.d)),cJ (((s).gtw)),cJ (((s).gth)),Cl.ref 0 ((s).ord.length),Cl.ref 1 ((s).ims.length),Cl.ref 2 ((s).ops.length)],[Bx.row 3 1 (is (s).ord),Bx.row 43 28 (ims (s).ims),Bx.row 51 12 (ops (s).ops)],false⟩:=
 zQy (Γ:=jWz) (let d:=(s.run (min s.rn 9)); let e:=(1,AV.one (Cl.ptr 1 0)); let a:=(4,AV.one (Cl.ptr 4 0)); let b:=(2,AV.one (Cl.ptr 2 0)); let f:=(3,AV.one (cK s.most)); let u:=[e,b,f,a]; let g:=(1,bC [cJ s.b,cJ s.x,cJ s.y,cJ s.w,cJ s.h,cJ s.tw,cJ s.th,Cl.d (dS s.on s.oxs),Cl.d (dS s.pn s.pxs),Cl.d (dS s.rn s.rxs)]); let c:=(2,bC [cJ 0,cJ 0,cJ 0,cJ 0,cJ 0,cJ 0,cJ 0,Cl.nil,Cl.nil,Cl.nil]); let v:=[g,c,(4,bC [cJ s.bits,cJ 0,cJ 0,cJ 0,cJ 0,cJ 0,cJ 0,Cl.nil,Cl.nil,Cl.nil])]; let n:=(7,aJ s.gw); let q:=(8,aJ s.gh); let r:=[e,b,f,a,n,q]; let h:=(7000,Bx.row 3 1 (is s.ord)); let i:=(5000,Bx.row 43 28 (ims s.ims)); let w:=(13,AV.one (Cl.ref 5002 d.2.length)); let x:=(5002,Bx.row 51 12 (ops d.2)); let l:=fun (k:Nat)=>(13,AV.one (Cl.ref 5002 (s.run k).2.length)); let m:=fun (k:Nat)=>(14,aJ (k:Int)); let y:=fun (k:Nat)=>(4,bC [cJ s.bits,cJ s.c.a,cJ s.c.b,cJ s.c.c,cJ s.c.d,cJ s.gtw,cJ s.gth,Cl.ref 7000 s.ord.length,Cl.ref 5000 s.ims.length,Cl.ref 5001 (s.run k).1.length]); let z:=fun (k:Nat)=>(5002,Bx.row 51 12 (ops (s.run k).2)); let A:=fun (k:Nat)=>(5001,Bx.row 51 12 (ops (s.run k).1)); let t:=fun (k:Nat)=>[g,c,(y k),(z k),h,i,(A k)]; let B:=fun (k:Nat)=>(15,aJ (modS (nAt s.rxs ((k:Int).toNat*11+0)) (8:Int))); (Ann.seq Ann.leaf (Ann.seq Ann.leaf (Ann.seq Ann.leaf (Ann.cut ⟨Unit,fun u1:Unit=>True,fun u1:Unit=>⟨u,v⟩,fun u1:Unit=>0⟩ Ann.leaf fun u1=>(Ann.seq Ann.leaf (Ann.cut ⟨Unit,fun u2:Unit=>True,fun u2:Unit=>⟨[e,b,f,a,(5,aJ s.c.a),(6,aJ s.c.b),n,q],v⟩,fun u2:Unit=>0⟩ Ann.leaf fun u2=>(Ann.seq Ann.leaf (Ann.cut ⟨Unit,fun u3:Unit=>True,fun u3:Unit=>⟨r,[g,c,(4,bC [cJ s.bits,cJ s.c.a,cJ s.c.b,cJ s.c.c,cJ s.c.d,cJ s.gtw,cJ s.gth,Cl.nil,Cl.nil,Cl.nil])]⟩,fun u3:Unit=>0⟩ Ann.leaf fun u3=>(Ann.seq Ann.leaf (Ann.cut ⟨Unit,fun u4:Unit=>True,fun u4:Unit=>⟨r,[g,c,(4,bC [cJ s.bits,cJ s.c.a,cJ s.c.b,cJ s.c.c,cJ s.c.d,cJ s.gtw,cJ s.gth,Cl.ref 7000 s.ord.length,Cl.nil,Cl.nil]),h]⟩,fun u4:Unit=>0⟩ Ann.leaf fun u4=>(Ann.cut ⟨Unit,fun u6:Unit=>True,fun u6:Unit=>⟨r,[g,c,(4,bC [cJ s.bits,cJ s.c.a,cJ s.c.b,cJ s.c.c,cJ s.c.d,cJ s.gtw,cJ s.gth,Cl.ref 7000 s.ord.length,Cl.ref 5000 (s.pics (min s.pn 4)).length,Cl.nil]),h,(5000,Bx.row 43 28 (ims (s.pics (min s.pn 4))))]⟩,fun u6:Unit=>0⟩ (Ann.seq Ann.leaf (Ann.loop ⟨Nat,fun p=>p≤min s.pn 4,fun p=>⟨[e,b,f,a,n,q,(12,aJ (p:Int))],[g,c,(4,bC [cJ s.bits,cJ s.c.a,cJ s.c.b,cJ s.c.c,cJ s.c.d,cJ s.gtw,cJ s.gth,Cl.ref 7000 s.ord.length,Cl.ref 5000 p,Cl.nil]),h,(5000,Bx.row 43 28 (ims (s.pics p)))]⟩,fun p=>min s.pn 4 - p⟩ fun p=>Ann.leaf)) fun u6=>(Ann.cut ⟨Unit,fun u5:Unit=>True,fun u5:Unit=>⟨u,[g,c,(4,bC [cJ s.bits,cJ s.c.a,cJ s.c.b,cJ s.c.c,cJ s.c.d,cJ s.gtw,cJ s.gth,Cl.ref 7000 s.ord.length,Cl.ref 5000 s.ims.length,Cl.nil]),h,i]⟩,fun u5:Unit=>0⟩ Ann.leaf fun u5=>(Ann.seq Ann.leaf (Ann.cut ⟨Unit,fun u7:Unit=>True,fun u7:Unit=>⟨[b,a,w],[c,(4,bC [cJ s.bits,cJ s.c.a,cJ s.c.b,cJ s.c.c,cJ s.c.d,cJ s.gtw,cJ s.gth,Cl.ref 7000 s.ord.length,Cl.ref 5000 s.ims.length,Cl.ref 5001 d.1.length]),x,h,i,(5001,Bx.row 51 12 (ops d.1))]⟩,fun u7:Unit=>0⟩ (Ann.seq Ann.leaf (Ann.loop ⟨Nat,fun k=>k≤min s.rn 9,fun k=>⟨[e,b,f,a,(l k),(m k)],(t k)⟩,fun k=>min s.rn 9 - k⟩ fun k=>(Ann.seq Ann.leaf (Ann.seq (Ann.seq Ann.leaf (Ann.seq Ann.leaf (Ann.cut ⟨Unit,fun u8:Unit=>¬ (modS (rwAt s.rxs (k*11)).k 8=0∧0 < (s.run k).2.length),fun u8:Unit=>⟨[e,b,f,a,(l k),(m k),(B k),(16,aJ (((s.run k).2.length:Nat):Int))],(t k)⟩,fun u8:Unit=>0⟩ Ann.leaf fun u8=>(Ann.cut ⟨Bool,fun fr:Bool=>fr=ctxB (s.run k).2,fun fr:Bool=>⟨[e,b,f,a,(l k),(m k),(B k),(17,AV.one (Cl.d (dQ fr)))],(t k)⟩,fun fr:Bool=>0⟩ Ann.leaf fun fr=>(Ann.cut ⟨Oq,fun o:Oq=>o=gOp (rwAt s.rxs (k*11)) (decide (modS (rwAt s.rxs (k*11)).k 8 < 3)) s.ims.length s.c (ctxB (s.run k).2) s.most,fun o:Oq=>⟨[e,b,f,a,(l k),(m k),(18,AV.one (Cl.ptr 18 0))],[g,c,(y k),(z k),(18,bC [cJ o.kind,cJ o.image,cJ o.x,cJ o.y,cJ o.mask,cJ o.mx,cJ o.my,cK o.opac,cJ o.oper,cJ o.mode,Cl.d (dQ o.iso),Cl.d (dQ o.kno)]),h,i,(A k)]⟩,fun o:Oq=>0⟩ Ann.leaf fun o=>Ann.leaf))))) Ann.leaf)))) fun u7=>(Ann.seq (Ann.seq Ann.leaf (Ann.loop ⟨Nat,fun j=>j≤d.2.length,fun j=>⟨[b,a,w,(19,aJ (j:Int))],[c,(4,bC [cJ s.bits,cJ s.c.a,cJ s.c.b,cJ s.c.c,cJ s.c.d,cJ s.gtw,cJ s.gth,Cl.ref 7000 s.ord.length,Cl.ref 5000 s.ims.length,Cl.ref 5001 (d.1++List.replicate j popO).length]),x,h,i,(5001,Bx.row 51 12 (ops (d.1++List.replicate j popO)))]⟩,fun j=>d.2.length - j⟩ fun j=>Ann.leaf)) Ann.leaf)))))))))))))))) zQs Tryz.func9 rfl (nL rfl) rfl fun hwf hbx=>by
  refine Eq.mpr (by kernel_rfl:_=(let U:=(s.ims.length:Int); let B:=(cntS s.c s.gtw s.gth); let t:=(ims s.ims=ims s.ims); let u:=(s.pics (min s.pn 4)); let y2:=(((u.length:Nat):Int)==0); let e:=(is s.ord=is s.ord); let b:=(s.run (min s.rn 9)); let y3:=((b.2.length:Nat):Int); let E:=([dJ 3,dJ 0,dJ 0,dJ 0,dJ 0,dJ 0,dJ 0,dK 0,dJ 0,dJ 0,dQ false,dQ false]); let y4:=((0=0)∧(0=0)∧(dK (gMax s.b)=dK s.most)∧(0=0)∧True); let y5:=[dJ s.b,dJ s.x,dJ s.y,dJ s.w,dJ s.h,dJ s.tw,dJ s.th,dS s.on s.oxs,dS s.pn s.pxs,dS s.rn s.rxs]; let d:=(y5=y5); let a:=(dJ 0=dJ 0); let c:=(a∧a∧a∧a∧a∧a∧a∧tU3 True); let f:=(dK s.most=dK s.most); let g:=(dJ s.bits=dJ s.bits); let V:=(dJ s.gw=dJ s.gw); let W:=(dJ s.gh=dJ s.gh); let X:=((0=0)∧(0=0)∧f∧(0=0)∧V∧W∧True); let h:=(dJ s.c.a=dJ s.c.a); let i:=(dJ s.c.b=dJ s.c.b); let Y:=[dJ s.c.a,dJ s.c.b,dJ s.c.c,dJ s.c.d]; let y6:=(wK (B.1*B.2.1)); let F:=(zJI (ints s.oxs) y6); let l:=(dJ s.c.c=dJ s.c.c); let m:=(dJ s.c.d=dJ s.c.d); let n:=(dJ s.gtw=dJ s.gtw); let q:=(dJ s.gth=dJ s.gth); let r:=(s.ord.length=s.ord.length); let y7:=fun (p:Nat)=>(X∧(d∧c∧(g∧h∧i∧l∧m∧n∧q∧r∧(p=u.length)∧True∧True)∧e∧(ims (s.pics p)=ims u)∧True)); let y8:=(Im.ds (zQg s.gw s.gh ⟨s.most,(0:Int),(0:Int),s.most,s.most⟩)); let y9:=((0=0)∧(0=0)∧f∧(0=0)∧True); let y:=(s.ims.length=s.ims.length); let x0:=fun (k:Nat)=>(0≤(k:Int)∧(k:Int) < (s.rn:Int)∧(k:Int).toNat*11 < s.rxs.length); let Z:=fun (k:Nat)=>fun (k':Nat)=>(min s.rn 9 - k' < min s.rn 9 - k); let z0:=fun (k:Nat)=>fun (k':Nat)=>(dJ (wK ((k:Int)+1))=dJ (k':Int)); let z1:=fun (k:Nat)=>fun (k':Nat)=>(g∧h∧i∧l∧m∧n∧q∧r∧y∧((s.run k).1.length+1=(s.run k').1.length)∧True); let C:=fun (k:Nat)=>((s.run k).2.length=(s.run k).2.length); let D:=fun (k:Nat)=>(dJ (k:Int)=dJ (k:Int)); let G:=fun (k:Nat)=>(dJ (modS (nAt s.rxs ((k:Int).toNat*11+0)) (8:Int))=dJ (modS (nAt s.rxs ((k:Int).toNat*11+0)) (8:Int))); let x1:=fun (k:Nat)=>(g∧h∧i∧l∧m∧n∧q∧r∧y∧((s.run k).1.length=(s.run k).1.length)∧True); let x2:=fun (k:Nat)=>(ops (s.run k).2=ops (s.run k).2); let x3:=fun (k:Nat)=>(ops (s.run k).1=ops (s.run k).1); let H:=fun (k:Nat)=>(d∧c∧(x1 k)∧(x2 k)∧e∧t∧(x3 k)∧True); let x4:=fun (k:Nat)=>(((0=0)∧(0=0)∧f∧(0=0)∧(C k)∧(D k)∧(G k)∧(dJ (((s.run k).2.length:Nat):Int)=dJ (((s.run k).2.length:Nat):Int))∧True)∧(H k)); let x5:=fun (k:Nat)=>(0≤wK ((((s.run k).2.length:Nat):Int) - 1)∧wK ((((s.run k).2.length:Nat):Int) - 1) < (((s.run k).2.length:Nat):Int)); let x6:=fun (k:Nat)=>fun (o:Oq)=>(o=gOp (rwAt s.rxs (k*11)) (decide (modS (rwAt s.rxs (k*11)).k 8 < 3)) s.ims.length s.c (ctxB (s.run k).2) s.most); let x7:=fun (k:Nat)=>fun (k':Nat)=>fun (o:Oq)=>((ops (s.run k).1)++(Oq.cells o)=ops (s.run k').1); let x8:=fun (k:Nat)=>(((0=0)∧(0=0)∧((s.run k).2.length=b.2.length)∧True)∧(c∧(g∧h∧i∧l∧m∧n∧q∧r∧y∧((s.run k).1.length=b.1.length)∧True)∧(ops (s.run k).2=ops b.2)∧e∧t∧(ops (s.run k).1=ops b.1)∧True)); let x9:=fun (j:Nat)=>(j≤b.2.length); let w0:=(b.2.length=b.2.length); let w1:=(ops b.2=ops b.2); tU4 ((Ans prog 18 [rJ s.b] (RV.d (dK (gMax s.b))))∧tU4 ((tU2 (((decide ((gMax s.b) > 255))=true→tU2 (∃ u1:Unit,True∧(y4∧(d∧c∧((dJ 16=dJ s.bits)∧a∧a∧a∧a∧a∧a∧tU3 True)∧True))))∧((decide ((gMax s.b) > 255))=false→∃ u1:Unit,True∧(y4∧(d∧c∧((dJ 8=dJ s.bits)∧a∧a∧a∧a∧a∧a∧tU3 True)∧True)))))∧∀ u1:Unit,True→tU2 ((Ans prog 14 [rJ s.x,rJ 13] (rJ (modS s.x (13:Int))))∧tU3 ((Ans prog 14 [rJ s.y,rJ 13] (rJ (modS s.y (13:Int))))∧tU3 ((true=true)∧(tU2 ((Ans prog 14 [rJ s.w,rJ 5] (rJ (modS s.w (5:Int))))∧tU3 ((Ans prog 14 [rJ s.h,rJ 4] (rJ (modS s.h (4:Int))))∧tU3 ((true=true)∧∃ u2:Unit,True∧(((0=0)∧(0=0)∧f∧(0=0)∧(dJ (wK ((modS s.x (13:Int)) - 6))=dJ s.c.a)∧(dJ (wK ((modS s.y (13:Int)) - 6))=dJ s.c.b)∧(dJ (wK ((1:Int)+(modS s.w (5:Int))))=dJ s.gw)∧(dJ (wK ((1:Int)+(modS s.h (4:Int))))=dJ s.gh)∧True)∧(d∧c∧(g∧a∧a∧a∧a∧a∧a∧tU3 True)∧True))))))∧∀ u2:Unit,True→tU3 (tU8 ((tU3 ((Ans prog 14 [rJ s.tw,rJ s.gw] (rJ (modS s.tw s.gw)))∧tU4 ((Ans prog 14 [rJ s.th,rJ s.gh] (rJ (modS s.th s.gh)))∧tU5 ((true=true)∧∃ u3:Unit,True∧(X∧(d∧c∧(g∧h∧i∧(dJ (wK (s.c.a+s.gw))=dJ s.c.c)∧(dJ (wK (s.c.b+s.gh))=dJ s.c.d)∧(dJ (wK ((1:Int)+(modS s.tw s.gw)))=dJ s.gtw)∧(dJ (wK ((1:Int)+(modS s.th s.gh)))=dJ s.gth)∧tU3 True)∧True))))))∧∀ u3:Unit,True→tU6 ((Ans prog 19 [RV.agg Y,rJ s.gtw,rJ s.gth] (RV.tup [rJ B.1,rJ B.2.1,RV.d (dQ B.2.2)]))∧tU7 ((tU5 ((AnsO prog 20 [RV.d (dS s.on s.oxs),rJ y6] 3 1 F.length (is F))∧tU2 (∃ u4:Unit,True∧(X∧(d∧c∧(g∧h∧i∧l∧m∧n∧q∧(F.length=s.ord.length)∧tU2 True)∧(is F=is s.ord)∧True)))))∧∀ u4:Unit,True→(True∧((∃ p:Nat,(p≤min s.pn 4)∧(((0=0)∧(0=0)∧f∧(0=0)∧V∧W∧(dJ 0=dJ (p:Int))∧True)∧(d∧c∧(g∧h∧i∧l∧m∧n∧q∧r∧(0=p)∧True∧True)∧e∧([]=ims (s.pics p))∧True)))∧∀ p:Nat,let w2:=(decide ((p:Int) < (s.pn:Int))); let z2:=(nAt s.pxs ((p:Int).toNat*5)); let z3:=(nAt s.pxs ((p:Int).toNat*5+1)); let z4:=(nAt s.pxs ((p:Int).toNat*5+1+1)); let z5:=(nAt s.pxs ((p:Int).toNat*5+1+1+1)); let z:=((p:Int).toNat*5+1+1+1+1); let z6:=(zQ5 z2 z3 z4 z5 (lAt s.pxs z) (cAt s.pxs z) s.c.a s.c.b s.c.c s.c.d s.most); (p≤min s.pn 4)→tU6 ((w2=true→tU3 (((decide ((p:Int) < 4))=true→tU5 ((0≤(p:Int)∧(p:Int) < (s.pn:Int)∧(p:Int).toNat*5 < s.pxs.length)∧((s.pxs[(p:Int).toNat*5]?=some (dJ z2))∧(s.pxs[(p:Int).toNat*5+1]?=some (dJ z3))∧(s.pxs[(p:Int).toNat*5+1+1]?=some (dJ z4))∧(s.pxs[(p:Int).toNat*5+1+1+1]?=some (dJ z5))∧(s.pxs[(p:Int).toNat*5+1+1+1+1]?=some (dS (lAt s.pxs z) (cAt s.pxs z)))∧True)∧tU3 ((Ans prog 21 [RV.agg [dJ z2,dJ z3,dJ z4,dJ z5,dS (lAt s.pxs z) (cAt s.pxs z)],RV.agg Y,RV.d (dK s.most)] (imR z6))∧True∧(zZl 28 272 p 1 (ims (s.pics p)) (Im.ds z6))∧tU2 ((true=true)∧tU3 (∃ p':Nat,(p'≤min s.pn 4)∧(min s.pn 4 - p' < min s.pn 4 - p)∧(((0=0)∧(0=0)∧f∧(0=0)∧V∧W∧(dJ (wK ((p:Int)+1))=dJ (p':Int))∧True)∧(d∧c∧(g∧h∧i∧l∧m∧n∧q∧r∧(p+1=p')∧True∧True)∧e∧((ims (s.pics p))++(Im.ds z6)=ims (s.pics p'))∧True)))))))∧((decide ((p:Int) < 4))=false→∃ u6:Unit,True∧(y7 p))))∧(w2=(!true)→True∧∃ u6:Unit,True∧(y7 p)))))∧∀ u6:Unit,True→(tU2 ((u.length≤maxLen)∧True∧((y2=true→True∧tU8 ((Ans prog 22 [rJ s.gw,rJ s.gh,RV.agg [dK s.most,dK 0,dK 0,dK s.most,dK s.most]] (imR (zQg s.gw s.gh ⟨s.most,(0:Int),(0:Int),s.most,s.most⟩)))∧True∧(zZl 28 272 u.length 1 (ims u) y8)∧tU2 ((true=true)∧∃ u5:Unit,True∧(y9∧(d∧c∧(g∧h∧i∧l∧m∧n∧q∧r∧(u.length+1=s.ims.length)∧True∧True)∧e∧((ims u)++y8=ims s.ims)∧True)))))∧(y2=false→∃ u5:Unit,True∧(y9∧(d∧c∧(g∧h∧i∧l∧m∧n∧q∧r∧(u.length=s.ims.length)∧True∧True)∧e∧(ims u=ims s.ims)∧True))))))∧∀ u5:Unit,True→True∧(True∧((∃ k:Nat,(k≤min s.rn 9)∧(((0=0)∧(0=0)∧f∧(0=0)∧(0=(s.run k).2.length)∧(dJ 0=dJ (k:Int))∧True)∧(d∧c∧(g∧h∧i∧l∧m∧n∧q∧r∧y∧(0=(s.run k).1.length)∧True)∧([]=ops (s.run k).2)∧e∧t∧([]=ops (s.run k).1)∧True)))∧∀ k:Nat,let w3:=(decide ((k:Int) < (s.rn:Int))); let z7:=(ops (s.run k).1); let z8:=(¬ (modS (rwAt s.rxs (k*11)).k 8=0∧0 < (s.run k).2.length)); let v:=(ops (s.run k).2); let w:=(((s.run k).2.length:Nat):Int); let I:=(nAt s.rxs ((k:Int).toNat*11+1)); let J:=(nAt s.rxs ((k:Int).toNat*11)); let x:=(wK (w - 1)); let z9:=(bAt v (x.toNat*12+10)); let y0:=(nAt s.rxs ((k:Int).toNat*11+0)); let K:=(modS y0 (8:Int)); let y1:=(decide (K < 3)); let L:=(nAt s.rxs ((k:Int).toNat*11+1+1+1+1+1+1+1+1+1+1)); let M:=(nAt s.rxs ((k:Int).toNat*11+1+1+1+1+1+1+1+1+1)); let N:=(nAt s.rxs ((k:Int).toNat*11+1+1+1+1+1+1+1+1)); let O:=(nAt s.rxs ((k:Int).toNat*11+1+1+1+1+1+1+1)); let P:=(nAt s.rxs ((k:Int).toNat*11+1+1+1+1+1+1)); let Q:=(nAt s.rxs ((k:Int).toNat*11+1+1+1+1+1)); let R:=(nAt s.rxs ((k:Int).toNat*11+1+1+1+1)); let S:=(nAt s.rxs ((k:Int).toNat*11+1+1+1)); let T:=(nAt s.rxs ((k:Int).toNat*11+1+1)); (k≤min s.rn 9)→tU6 ((w3=true→tU3 (((decide ((k:Int) < 9))=true→tU3 ((x0 k)∧True∧((s.rxs[(k:Int).toNat*11+0]?=some (dJ y0))∧True)∧(Ans prog 14 [rJ y0,rJ 8] (rJ K))∧tU2 (((s.run k).2.length≤maxLen)∧True∧(tU3 (((K==0)=true→tU3 (((decide (w > 0))=true→tU4 ((zZl 12 88 (s.run k).1.length 1 z7 E)∧tU5 ((0≤wK (w - 1)∧wK (w - 1)≤w)∧tU4 (∃ k':Nat,(k'≤min s.rn 9)∧(Z k k')∧(((0=0)∧(0=0)∧f∧(0=0)∧(x.toNat=(s.run k').2.length)∧(z0 k k')∧True)∧(d∧c∧(z1 k k')∧(List.take (x.toNat*12) v=ops (s.run k').2)∧e∧t∧(z7++E=ops (s.run k').1)∧True))))))∧((decide (w > 0))=false→∃ u8:Unit,z8∧(x4 k))))∧((K==0)=(!true)→True∧∃ u8:Unit,z8∧(x4 k))))∧∀ u8:Unit,z8→(tU3 (((w==0)=false→tU3 ((x5 k)∧True∧((v[x.toNat*12+10]?=some (dQ z9))∧True)∧True∧((z9=true→tU3 ((x5 k)∧True∧((v[x.toNat*12+11]?=some (dQ (bAt v (x.toNat*12+11))))∧True)∧tU4 (∃ fr:Bool,(fr=ctxB (s.run k).2)∧(((0=0)∧(0=0)∧f∧(0=0)∧(C k)∧(D k)∧(G k)∧(dQ (!(bAt v (x.toNat*12+11)))=dQ fr)∧True)∧(H k)))))∧(z9=(!true)→tU3 (∃ fr:Bool,(fr=ctxB (s.run k).2)∧(((0=0)∧(0=0)∧f∧(0=0)∧(C k)∧(D k)∧(G k)∧(dQ false=dQ fr)∧True)∧(H k)))))))∧((w==0)=(!false)→tU2 (∃ fr:Bool,(fr=ctxB (s.run k).2)∧(((0=0)∧(0=0)∧f∧(0=0)∧(C k)∧(D k)∧(G k)∧(dQ true=dQ fr)∧True)∧(H k))))))∧∀ fr:Bool,(fr=ctxB (s.run k).2)→(tU3 ((x0 k)∧((s.rxs[(k:Int).toNat*11]?=some (dJ J))∧(s.rxs[(k:Int).toNat*11+1]?=some (dJ I))∧(s.rxs[(k:Int).toNat*11+1+1]?=some (dJ T))∧(s.rxs[(k:Int).toNat*11+1+1+1]?=some (dJ S))∧(s.rxs[(k:Int).toNat*11+1+1+1+1]?=some (dJ R))∧(s.rxs[(k:Int).toNat*11+1+1+1+1+1]?=some (dJ Q))∧(s.rxs[(k:Int).toNat*11+1+1+1+1+1+1]?=some (dJ P))∧(s.rxs[(k:Int).toNat*11+1+1+1+1+1+1+1]?=some (dJ O))∧(s.rxs[(k:Int).toNat*11+1+1+1+1+1+1+1+1]?=some (dJ N))∧(s.rxs[(k:Int).toNat*11+1+1+1+1+1+1+1+1+1]?=some (dJ M))∧(s.rxs[(k:Int).toNat*11+1+1+1+1+1+1+1+1+1+1]?=some (dJ L))∧True)∧tU4 ((s.ims.length≤maxLen)∧tU4 ((Ans prog 23 [RV.agg [dJ J,dJ I,dJ T,dJ S,dJ R,dJ Q,dJ P,dJ O,dJ N,dJ M,dJ L],RV.d (dQ y1),rJ U,RV.agg Y,RV.d (dQ fr),RV.d (dK s.most)] (RV.agg (Oq.cells (gOp ⟨J,I,T,S,R,Q,P,O,N,M,L⟩ y1 U s.c fr s.most))))∧tU2 ((true=true)∧∃ o:Oq,(x6 k o)∧(((0=0)∧(0=0)∧f∧(0=0)∧(C k)∧(D k)∧(0=0)∧True)∧(d∧c∧(x1 k)∧(x2 k)∧((Oq.cells (gOp ⟨J,I,T,S,R,Q,P,O,N,M,L⟩ y1 U s.c fr s.most))=(Oq.cells o))∧e∧t∧(x3 k)∧True)))))))∧∀ o:Oq,(x6 k o)→tU4 ((zZl 12 88 (s.run k).1.length 1 z7 (Oq.cells o))∧tU5 (((o.kind==2)=true→tU3 ((zZl 12 88 (s.run k).2.length 1 v (Oq.cells o))∧tU4 (∃ k':Nat,(k'≤min s.rn 9)∧(Z k k')∧(((0=0)∧(0=0)∧f∧(0=0)∧((s.run k).2.length+1=(s.run k').2.length)∧(z0 k k')∧True)∧(d∧c∧(z1 k k')∧(v++(Oq.cells o)=ops (s.run k').2)∧e∧t∧(x7 k k' o)∧True)))))∧((o.kind==2)=false→tU3 (∃ k':Nat,(k'≤min s.rn 9)∧(Z k k')∧(((0=0)∧(0=0)∧f∧(0=0)∧((s.run k).2.length=(s.run k').2.length)∧(z0 k k')∧True)∧(d∧c∧(z1 k k')∧(ops (s.run k).2=ops (s.run k').2)∧e∧t∧(x7 k k' o)∧True)))))))))∧((decide ((k:Int) < 9))=false→∃ u7:Unit,True∧(x8 k))))∧(w3=(!true)→True∧∃ u7:Unit,True∧(x8 k)))))∧∀ u7:Unit,True→True∧((∃ j:Nat,let w4:=(b.1++List.replicate j popO); (x9 j)∧(((0=0)∧(0=0)∧w0∧(dJ 0=dJ (j:Int))∧True)∧(c∧(g∧h∧i∧l∧m∧n∧q∧r∧y∧(b.1.length=w4.length)∧True)∧w1∧e∧t∧(ops b.1=ops w4)∧True)))∧∀ j:Nat,let A:=(b.1++List.replicate j popO); (x9 j)→tU2 ((b.2.length≤maxLen)∧True∧(((decide ((j:Int) < y3))=true→tU4 ((zZl 12 88 A.length 1 (ops A) E)∧tU5 (∃ j':Nat,let w5:=(b.1++List.replicate j' popO); (j'≤b.2.length)∧(b.2.length - j' < b.2.length - j)∧(((0=0)∧(0=0)∧w0∧(dJ (wK ((j:Int)+1))=dJ (j':Int))∧True)∧(c∧(g∧h∧i∧l∧m∧n∧q∧r∧y∧(A.length+1=w5.length)∧True)∧w1∧e∧t∧((ops A)++E=ops w5)∧True)))))∧((decide ((j:Int) < y3))=false→tU2 (((((dJ s.bits=dJ s.bits)∧(dJ s.c.a=dJ s.c.a)∧(dJ s.c.b=dJ s.c.b)∧(dJ s.c.c=dJ s.c.c)∧(dJ s.c.d=dJ s.c.d)∧(dJ s.gtw=dJ s.gtw)∧(dJ s.gth=dJ s.gth)∧(s.ord.length=s.ord.length)∧(s.ims.length=s.ims.length)∧(A.length=s.ops.length)∧True)∧True)∧(e∧t∧(ops A=ops s.ops)∧True))∧zQm ⟨AV.agg [cJ s.bits,cJ s.c.a,cJ s.c.b,cJ s.c.c,cJ s.c.d,cJ s.gtw,cJ s.gth,Cl.ref 0 s.ord.length,Cl.ref 1 s.ims.length,Cl.ref 2 s.ops.length],[Bx.row 3 1 (is s.ord),Bx.row 43 28 (ims s.ims),Bx.row 51 12 (ops s.ops)],false⟩)))))))))))))))) ?_
  delta dJ dK dQ cJ wK dS rJ
  simp only [sS,zQI,zVu]
  obtain ⟨⟨ho1,ho2⟩,⟨hp1,hp2⟩,⟨hr1,hr2⟩⟩:=hs
  obtain ⟨f1,f2,f3,f4,f5,f6⟩:=s.facts
  have CF:=s.c_facts
  have w1:IntKind.wrap .i64 (modS s.x 13 - 6)=s.c.a:=IntWalk.i64_in _ ⟨by omega,by omega⟩
  have w2:IntKind.wrap .i64 (modS s.y 13 - 6)=s.c.b:=IntWalk.i64_in _ ⟨by omega,by omega⟩
  have g1:s.gw=1+modS s.w 5:=rfl
  have g2:s.gh=1+modS s.h 4:=rfl
  have g3:s.gtw=1+modS s.tw s.gw:=rfl
  have g4:s.gth=1+modS s.th s.gh:=rfl
  have w3:IntKind.wrap .i64 (1+modS s.w 5)=s.gw:=IntWalk.i64_in _ ⟨by omega,by omega⟩
  have w4:IntKind.wrap .i64 (1+modS s.h 4)=s.gh:=IntWalk.i64_in _ ⟨by omega,by omega⟩
  have w5:IntKind.wrap .i64 (s.c.a+s.gw)=s.c.c:=by rw [IntWalk.i64_in _ ⟨by omega,by omega⟩]; omega
  have w6:IntKind.wrap .i64 (s.c.b+s.gh)=s.c.d:=by rw [IntWalk.i64_in _ ⟨by omega,by omega⟩]; omega
  have w7:IntKind.wrap .i64 (1+modS s.tw s.gw)=s.gtw:=IntWalk.i64_in _ ⟨by omega,by omega⟩
  have w8:IntKind.wrap .i64 (1+modS s.th s.gh)=s.gth:=IntWalk.i64_in _ ⟨by omega,by omega⟩
  have hm:=s.tiles_in
  have hM:∀ n:Nat,n≤100→n≤maxLen:=fun n h=>by unfold maxLen; omega
  have li:=s.ims_len
  have lk:=fun k=>s.run_len k
  have pq:1≤s.c.c - s.c.a∧s.c.c - s.c.a≤100∧1≤s.c.d - s.c.b∧s.c.d - s.c.b≤100:=by omega
  have BI:=s.bits_of
  refine ⟨⟨fun h=>⟨(),rfl,BI.1 h⟩,fun h=>⟨(),rfl,BI.2 h⟩⟩,⟨(),w1,w2,w3,w4⟩,⟨(),w5,w6,w7,w8⟩,zHw _ _ _ _ _ _,⟨zVP _ _ _ ⟨ho1,ho2⟩ hm.1,(),rfl,rfl⟩,⟨⟨0,Nat.zero_le _,rfl,rfl,rfl⟩,fun p hp=>⟨fun h1=>⟨fun h2=>?_,fun h2=>?_⟩,fun h1=>?_⟩⟩,?_⟩
  ·obtain ⟨q0,q1,q2,q3,q4,q5⟩:=hp2 p (by omega)
   refine ⟨⟨by omega,by omega,by omega⟩,⟨q0,q1,q2,q3,q4⟩,jQF _ _ _ _ _ _ _ _ _ _ _ q5 pq,⟨by rw [zZC,s.pics_len],by rw [Im.ds_len],hM _ (by omega),by omega⟩,p+1,by omega,by omega,zXE (by omega),rfl,?_⟩
   rw [s.pics_succ,jXI,jVw]; rfl
  ·have:p=min s.pn 4:=by omega
   subst this
   exact ⟨(),(s.pics_len _).symm,rfl⟩
  ·have:p=min s.pn 4:=by omega
   subst this
   exact ⟨(),(s.pics_len _).symm,rfl⟩
  have lp:=s.pics_len (min s.pn 4)
  refine ⟨⟨hM _ (by omega),fun h=>?_,fun h=>?_⟩,⟨⟨0,Nat.zero_le _,⟨rfl,rfl⟩,rfl,rfl,rfl⟩,fun k hk=>⟨fun h1=>⟨fun h2=>?_,fun h2=>?_⟩,fun h1=>?_⟩⟩,?_⟩
  ·have h0:min s.pn 4=0:=by rw [lp] at h; simpa using h
   have e1:s.ims=[s.solo]:=by unfold Scn.ims; rw [if_pos h0]
   have e2:s.pics (min s.pn 4)=[]:=by rw [h0]; rfl
   rw [e1,e2]
   exact ⟨zYJ s.gw s.gh ⟨_,_,_,_,_⟩,⟨by simp [ims],by simp [Im.ds],hM _ (by simp),by simp⟩,(),rfl,by simp [ims]; rfl⟩
  ·have h0:¬ min s.pn 4=0:=by rw [lp] at h; simpa using h
   have e1:s.ims=s.pics (min s.pn 4):=by unfold Scn.ims; rw [if_neg h0]
   rw [e1]
   exact ⟨(),rfl,rfl⟩
  ·have lk1:=(lk k).1
   have lk2:=(lk k).2
   have ro:=fun i (h:i < 11)=>hr2 (k*11+i) (by omega)
   have wl:0 < (s.run k).2.length→IntKind.wrap .i64 (((s.run k).2.length:Int) - 1)=(((s.run k).2.length - 1:Nat):Int):=fun h=>by rw [IntWalk.i64_in _ ⟨by omega,by omega⟩]; omega
   have ws:IntKind.wrap .i64 ((k:Int)+1)=((k+1:Nat):Int):=zXE (by omega)
   refine ⟨⟨by omega,by omega,by omega⟩,ro 0 (by omega),hM _ (by omega),⟨fun a1=>⟨fun a2=>?_,fun a2=>⟨(),fun h=>a2 (by omega)⟩⟩,fun a1=>⟨(),fun h=>?_⟩⟩,fun hn=>⟨⟨fun a1=>?_,fun a1=>?_⟩,fun fr hfr=>⟨?_,fun o ho=>?_⟩⟩⟩
   ·have a3:0 < (s.run k).2.length:=by omega
    have a4:modS (nAt s.rxs (k*11)) 8=0:=by simpa using a1
    have rp:=Scn.run_pop (s:=s) (k:=k) ⟨a4,a3⟩
    rw [wl a3]
    refine ⟨⟨by rw [zQ6,lk1],rfl,hM _ (by omega),by omega⟩,⟨by omega,by omega⟩,k+1,by omega,by omega,⟨?_,ws⟩,?_,?_,?_⟩
    ·rw [rp]; simp
    ·rw [rp]; simp
    ·rw [rp,Int.toNat_natCast,jZL,List.dropLast_eq_take]
    ·rw [rp,zY3,zWW]; rfl
   ·have a4:¬ modS (nAt s.rxs (k*11)) 8=0:=by simpa using a1
    exact a4 h.1
   ·have a3:0 < (s.run k).2.length:=by
     have:¬ (s.run k).2.length=0:=by simpa using a1
     omega
    have hl:(s.run k).2.length - 1 < (s.run k).2.length:=by omega
    have g10:(ops (s.run k).2)[((s.run k).2.length - 1)*12+10]?=some (.bool (s.run k).2[(s.run k).2.length - 1].iso):=zGQ hl 10 (by omega)
    have g11:(ops (s.run k).2)[((s.run k).2.length - 1)*12+11]?=some (.bool (s.run k).2[(s.run k).2.length - 1].kno):=zGQ hl 11 (by omega)
    have b10:bAt (ops (s.run k).2) (((s.run k).2.length - 1)*12+10)=(s.run k).2[(s.run k).2.length - 1].iso:=by simp only [bAt,g10]
    have b11:bAt (ops (s.run k).2) (((s.run k).2.length - 1)*12+11)=(s.run k).2[(s.run k).2.length - 1].kno:=by simp only [bAt,g11]
    rw [wl a3,Int.toNat_natCast,b10,b11,jJa a3]
    refine ⟨⟨by omega,by omega⟩,g10,fun h=>⟨⟨by omega,by omega⟩,g11,_,rfl,?_⟩,fun h=>⟨_,rfl,?_⟩⟩ <;> simp [h]
   ·have a3:(s.run k).2.length=0:=by simpa using a1
    rw [List.length_eq_zero_iff.1 a3]
    exact ⟨_,rfl,rfl⟩
   ·subst hfr
    refine ⟨⟨by omega,by omega,by omega⟩,⟨ro 0 (by omega),ro 1 (by omega),ro 2 (by omega),ro 3 (by omega),ro 4 (by omega),ro 5 (by omega),ro 6 (by omega),ro 7 (by omega),ro 8 (by omega),ro 9 (by omega),ro 10 (by omega)⟩,hM _ (by omega),jKk (rwAt s.rxs (k*11)) _ _ _ _ _ ⟨⟨by omega,by omega⟩,by omega,by omega⟩ ⟨by omega,by omega⟩,_,rfl,rfl⟩
   ·obtain ⟨r1,r2⟩:=Scn.run_op (s:=s) (k:=k) hn ho
    clear ho
    refine ⟨⟨by rw [zQ6,lk1],rfl,hM _ (by omega),by omega⟩,fun a1=>⟨⟨by rw [zQ6],rfl,hM _ (by omega),by omega⟩,k+1,by omega,by omega,⟨?_,ws⟩,?_,?_,?_⟩,fun a1=>⟨k+1,by omega,by omega,⟨?_,ws⟩,?_,?_,?_⟩⟩
    ·rw [r1 (by simpa using a1)]; simp
    ·rw [r1 (by simpa using a1)]; simp
    ·rw [r1 (by simpa using a1),zY3,zWW]
    ·rw [r1 (by simpa using a1),zY3,zWW]
    ·rw [r2 (by simpa using a1)]
    ·rw [r2 (by simpa using a1)]; simp
    ·rw [r2 (by simpa using a1)]
    ·rw [r2 (by simpa using a1),zY3,zWW]
  ·have:k=min s.rn 9:=by omega
   subst this
   exact ⟨(),rfl,rfl,rfl,rfl⟩
  ·have:k=min s.rn 9:=by omega
   subst this
   exact ⟨(),rfl,rfl,rfl,rfl⟩
  ·have e:s.ops=(s.run (min s.rn 9)).1++List.replicate (s.run (min s.rn 9)).2.length popO:=rfl
   have lr:=lk (min s.rn 9)
   rw [e]
   generalize s.run (min s.rn 9)=z at *
   refine ⟨⟨0,Nat.zero_le _,rfl,by simp,by simp⟩,fun j hj=>⟨hM _ (by omega),fun h=>?_,fun h=>?_⟩⟩
   ·have e2:z.1++List.replicate (j+1) popO=(z.1++List.replicate j popO)++[popO]:=by rw [List.append_assoc,List.replicate_succ']
    refine ⟨⟨by rw [zQ6],rfl,hM _ (by simp; omega),by simp; omega⟩,j+1,by omega,by omega,zXE (by omega),?_,?_⟩
    ·rw [e2]; simp; omega
    ·rw [e2,zY3 _ [popO],zWW]; rfl
   ·have:j=z.2.length:=by omega
    subst this
    exact ⟨⟨rfl,rfl⟩,trivial⟩
structure Scr where
  bits:Int
  c:Rc
  tw:Int
  th:Int
  ord:List Int
  ims:List Im
  ops:List Oq
def Scr.frame (s:Scr):Int:=jYW s.bits s.c s.tw s.th s.ord s.ims.length s.ops.length
def Scr.run (s:Scr):Int × Int:=opsE s.bits s.c s.tw s.th s.ord s.ims.length s.ops
def eR (p:Int × Int):RV:=RV.tup [RV.d (DV.int .i64 p.1),RV.d (DV.int .i64 p.2)]
theorem jKD {n:Nat} {l:List Int} (h:n=l.length):is l=is (ints (is l))∧n=(is l).length:=⟨by rw [zQO],by rw [zZc]; exact h⟩
def fitL (lo hi:Int) (l:List Int):Bool:=l.all fun v=>decide (lo≤v∧v≤hi)
def fitR (size:Int) (sg:Bool) (v:Int):Bool:=if sg then decide (-(2 ^ (8*size - 1).toNat)≤v∧v < 2 ^ (8*size - 1).toNat) else decide (0≤v∧v < 2 ^ (8*size).toNat)
theorem jXk {f:Int→Bool} {l:List Int} {k:Nat} (h:k < l.length):(l.take (k+1)).all f=((l.take k).all f && f l[k]):=by
 rw [List.take_succ_eq_append_getElem h,List.all_append]
 simp
theorem zUy {f:Int→Bool} {l:List Int} {k:Nat} (h:k < l.length) (hf:f l[k]=false):l.all f=false:=by
 rw [List.all_eq_false]
 exact ⟨l[k],List.getElem_mem h,by rw [hf]; simp⟩
theorem jXc (v:Int):fitR 1 false v=decide (0≤v∧v≤255):=by
 have:(2:Int) ^ ((8*1:Int).toNat)=256:=by decide
 unfold fitR
 rw [this]
 simp only [Bool.false_eq_true,if_false,decide_eq_decide]
 omega
theorem jQn (v:Int):fitR 4 false v=decide (0≤v∧v≤4294967295):=by
 have:(2:Int) ^ ((8*4:Int).toNat)=4294967296:=by decide
 unfold fitR
 rw [this]
 simp only [Bool.false_eq_true,if_false,decide_eq_decide]
 omega
theorem jXb (v:Int):fitR 4 true v=decide (-2147483648≤v∧v≤2147483647):=by
 have:(2:Int) ^ ((8*4 - 1:Int).toNat)=2147483648:=by decide
 unfold fitR
 rw [this]
 simp only [if_true,decide_eq_decide]
 omega
def gZ27 (xs:List RV):Option RV:=match xs with | [.d (.int _ v),.d (.int _ size),.d (.bool sg)]=>some (RV.d (dQ (fitR size sg v))) | _=>none
def jXL:Gam where
 pure:=fun f xs=>
  if f=93 then (match xs with | [.d (.int _ low),.d (.int _ high),.d (.sl n xs)]=>some (RV.d (dQ (fitL low high (ints xs)))) | _=>none) else
  if f=87 then gZ27 xs else
  none
 modes:=fun f=>
  none
 proc:=fun f xs bs=>
  none
 iter:=fun f cs=>
  none
theorem zYt (low high:Int) (l:List Int):Ans prog 93 [rJ (low),rJ (high),RV.d (dS l.length (is l))] (RV.d (dQ (fitL low high (ints (is l))))):=
 zQj (Γ:=jXL) (Ann.seq Ann.leaf (Ann.seq (Ann.seq Ann.leaf (Ann.loop ⟨Nat,fun k=>k≤l.length∧fitL low high (l.take k)=true,fun k=>⟨[(0,aJ low),(1,aJ high),(9,AV.one (Cl.d (dS l.length (is l)))),(10,aJ (l.length:Int)),(11,aJ (k:Int))],[]⟩,fun k=>l.length - k⟩ fun k=>Ann.leaf)) Ann.leaf)) zQs Tryz.func93 rfl (nL rfl) fun hwf=>by
  refine Eq.mpr (by kernel_rfl:_=(let a:=(l.length:Int); let d:=fun (k:Nat)=>(k≤l.length∧fitL low high (l.take k)=true); let e:=(dJ low=dJ low); let f:=(dJ high=dJ high); let g:=(dS l.length (is l)=dS l.length (is l)); let h:=(dJ a=dJ a); let c:=(dQ (fitL low high (ints (is l)))); tU4 ((∃ k:Nat,(d k)∧((e∧f∧g∧h∧(dJ 0=dJ (k:Int))∧True)∧True))∧∀ k:Nat,let b:=(nAt (is l) ((k:Int).toNat*1)); (d k)→True∧(((decide ((k:Int) < a))=true→(0≤(k:Int)∧(k:Int) < a∧(k:Int).toNat*1 < (is l).length)∧(((is l)[(k:Int).toNat*1]?=some (dJ b))∧True)∧tU5 (((decide (b < low))=false→tU4 (((decide (b > high))=true→True∧RV.d (dQ false)=RV.d c)∧((decide (b > high))=false→tU2 (∃ k':Nat,(k'≤l.length∧fitL low high (l.take k')=true)∧(l.length - k' < l.length - k)∧((e∧f∧g∧h∧(dJ (wK ((k:Int)+1))=dJ (k':Int))∧True)∧True)))))∧((decide (b < low))=(!false)→tU2 (RV.d (dQ false)=RV.d c))))∧((decide ((k:Int) < a))=false→True∧RV.d (dQ true)=RV.d c))))) ?_
  delta dJ dQ wK dS
  simp only [sS]
  simp only [zQO]
  simp only [RV.wfs,RV.wf,DV.wf,maxLen] at hwf
  refine ⟨⟨0,⟨Nat.zero_le _,rfl⟩,rfl⟩,fun k hk=>⟨fun hlt=>?_,fun hge=>?_⟩⟩
  ·obtain ⟨k1,k2⟩:=hk
   have hk:k < l.length:=by omega
   obtain ⟨q1,q2⟩:=jVp hk
   have w1:IntKind.wrap .i64 ((k:Int)+1)=((k+1:Nat):Int):=by rw [IntWalk.i64_in _ ⟨by omega,by omega⟩]; omega
   simp only [Nat.mul_one,q2,w1]
   refine ⟨⟨by omega,by omega,by rw [zZc]; omega⟩,q1,fun h1=>⟨fun h2=>?_,fun h2=>?_⟩,fun h1=>?_⟩
   ·exact (zUy hk (by simp; omega)).symm
   ·exact ⟨k+1,⟨by omega,by unfold fitL at k2 ⊢; rw [jXk hk,k2]; simp; omega⟩,by omega,rfl⟩
   ·exact (zUy hk (by simp; omega)).symm
  ·obtain ⟨k1,k2⟩:=hk
   have:k=l.length:=by omega
   subst this
   rw [List.take_length] at k2
   exact k2.symm
theorem zJq (l:List Int):Ans prog 51 [RV.d (dS l.length (is l))] (RV.d (dQ (fitL 0 255 (ints (is l))))):=
 zQj (Γ:=jXL) Ann.leaf zQs Tryz.func51 rfl (nL rfl) fun hwf=>by
  refine Eq.mpr (by kernel_rfl:_=(let a:=(dQ (fitL (0:Int) (255:Int) (ints (is l)))); tU2 ((Ans prog 93 [rJ 0,rJ 255,RV.d (dS l.length (is l))] (RV.d a))∧True∧RV.d a=RV.d (dQ (fitL 0 255 (ints (is l))))))) ?_
  delta dQ dS rJ
  simp only [sS]
  simp only [zQO]
  have:=zYt 0 255 l
  simp only [zQO] at this
  exact this
theorem zYs (l:List Int):Ans prog 53 [RV.d (dS l.length (is l))] (RV.d (dQ (fitL 0 4294967295 (ints (is l))))):=
 zQj (Γ:=jXL) Ann.leaf zQs Tryz.func53 rfl (nL rfl) fun hwf=>by
  refine Eq.mpr (by kernel_rfl:_=(let a:=(dQ (fitL (0:Int) (4294967295:Int) (ints (is l)))); tU2 ((Ans prog 93 [rJ 0,rJ 4294967295,RV.d (dS l.length (is l))] (RV.d a))∧True∧RV.d a=RV.d (dQ (fitL 0 4294967295 (ints (is l))))))) ?_
  delta dQ dS rJ
  simp only [sS]
  simp only [zQO]
  have:=zYt 0 4294967295 l
  simp only [zQO] at this
  exact this
theorem zYW (l:List Int):Ans prog 52 [RV.d (dS l.length (is l))] (RV.d (dQ (fitL (-2147483648) 2147483647 (ints (is l))))):=
 zQj (Γ:=jXL) Ann.leaf zQs Tryz.func52 rfl (nL rfl) fun hwf=>by
  refine Eq.mpr (by kernel_rfl:_=(let a:=(dQ (fitL (-2147483648:Int) (2147483647:Int) (ints (is l)))); tU2 ((Ans prog 93 [rJ (-2147483648:Int),rJ 2147483647,RV.d (dS l.length (is l))] (RV.d a))∧True∧RV.d a=RV.d (dQ (fitL (-2147483648) 2147483647 (ints (is l))))))) ?_
  delta dQ dS rJ
  simp only [sS]
  simp only [zQO]
  have:=zYt (-2147483648) 2147483647 l
  simp only [zQO] at this
  exact this
theorem zV7 (v size:Int) (sg:Bool) (hs:(size=1∧sg=false)∨size=4):Ans prog 87 [rJ (v),rJ (size),RV.d (dQ sg)] (RV.d (dQ (fitR size sg v))):=
 zQj (Γ:=jXL) Ann.leaf zQs Tryz.func87 rfl (nL rfl) fun hwf=>by
  refine Eq.mpr (by kernel_rfl:_=(let a:=(dQ (fitR size sg v)); let c:=(RV.d (dQ false)=RV.d a); let b:=(wK ((8:Int)*size)); let d:=(wK (b - 1)); let e:=(0≤IntKind.wrap .u64 d); let f:=(IntKind.wrap .u64 d); let g:=(decide (v≥(wK ((-1:Int)*2 ^ min f.toNat 64)))); tU2 ((sg=true→tU5 (e∧tU2 ((g=true→tU5 (e∧tU3 (RV.d (dQ (decide (v < (wK ((1:Int)*2 ^ min f.toNat 64)))))=RV.d a)))∧(g=(!true)→tU2 c))))∧(sg=false→tU3 (((decide (v≥0))=true→tU4 ((0≤IntKind.wrap .u64 b)∧tU3 (RV.d (dQ (decide (v < (wK ((1:Int)*2 ^ min (IntKind.wrap .u64 b).toNat 64)))))=RV.d a)))∧((decide (v≥0))=(!true)→tU2 c)))))) ?_
  delta dQ wK
  simp only [sS]
  have e1:IntKind.wrap .i64 (8*1)=8:=by decide
  have e2:IntKind.wrap .i64 (8*4)=32:=by decide
  have e3:IntKind.wrap .u64 8=8:=by decide
  have e4:IntKind.wrap .u64 32=32:=by decide
  have e5:IntKind.wrap .u64 (IntKind.wrap .i64 (32 - 1))=31:=by decide
  have e6:IntKind.wrap .i64 (1*2 ^ min (8:Int).toNat 64)=256:=by decide
  have e7:IntKind.wrap .i64 (1*2 ^ min (32:Int).toNat 64)=4294967296:=by decide
  have e8:IntKind.wrap .i64 (1*2 ^ min (31:Int).toNat 64)=2147483648:=by decide
  have e9:IntKind.wrap .i64 (-1*2 ^ min (31:Int).toNat 64) = -2147483648:=by decide
  rcases hs with ⟨rfl,rfl⟩ | rfl
  ·rw [jXc]
   simp only [e1,e3,e6]
   refine ⟨fun h=>(by cases h),fun _=>⟨fun h=>⟨by omega,?_⟩,fun h=>?_⟩⟩
   ·rw [decide_eq_decide]; omega
   ·symm; simp; omega
  ·simp only [e2,e4,e5,e7,e8,e9]
   cases sg
   ·rw [jQn]
    refine ⟨fun h=>(by cases h),fun _=>⟨fun h=>⟨by omega,?_⟩,fun h=>?_⟩⟩
    ·rw [decide_eq_decide]; omega
    ·symm; simp; omega
   ·rw [jXb]
    refine ⟨fun _=>⟨by omega,fun h=>⟨by omega,?_⟩,fun h=>?_⟩,fun h=>(by cases h)⟩
    ·rw [decide_eq_decide]; omega
    ·symm; simp; omega
theorem zYx (size:Int) (sg:Bool) (l:List Int) (hs:(size=1∧sg=false)∨size=4):Ans prog 88 [rJ (size),RV.d (dQ sg),RV.d (dS l.length (is l))] (RV.d (dQ ((ints (is l)).all (fitR size sg)))):=
 zQj (Γ:=jXL) (Ann.seq Ann.leaf (Ann.seq (Ann.seq Ann.leaf (Ann.loop ⟨Nat,fun k=>k≤l.length∧(l.take k).all (fitR size sg)=true,fun k=>⟨[(0,aJ size),(1,AV.one (Cl.d (dQ sg))),(2,AV.one (Cl.d (dS l.length (is l)))),(7,aJ (k:Int))],[]⟩,fun k=>l.length - k⟩ fun k=>Ann.leaf)) Ann.leaf)) zQs Tryz.func88 rfl (nL rfl) fun hwf=>by
  refine Eq.mpr (by kernel_rfl:_=(let b:=fun (k:Nat)=>(k≤l.length∧(l.take k).all (fitR size sg)=true); let c:=(dJ size=dJ size); let d:=(dS l.length (is l)=dS l.length (is l)); let e:=(dQ ((ints (is l)).all (fitR size sg))); tU2 ((∃ k:Nat,(b k)∧((c∧(dQ sg=dQ sg)∧d∧(dJ 0=dJ (k:Int))∧True)∧True))∧∀ k:Nat,let f:=(decide ((k:Int) < (l.length:Int))); let a:=(nAt (is l) ((k:Int).toNat*1)); (b k)→tU4 ((f=true→tU2 ((0≤(k:Int)∧(k:Int) < (l.length:Int)∧(k:Int).toNat*1 < (is l).length)∧(((is l)[(k:Int).toNat*1]?=some (dJ a))∧True)∧tU2 ((Ans prog 87 [rJ a,rJ size,RV.d (dQ sg)] (RV.d (dQ (fitR size sg a))))∧True∧(((!(fitR size sg a))=true→True∧RV.d (dQ false)=RV.d e)∧((!(fitR size sg a))=false→tU3 (∃ k':Nat,(k'≤l.length∧(l.take k').all (fitR size sg)=true)∧(l.length - k' < l.length - k)∧((c∧(dQ sg=dQ sg)∧d∧(dJ (wK ((k:Int)+1))=dJ (k':Int))∧True)∧True)))))))∧(f=false→True∧RV.d (dQ true)=RV.d e))))) ?_
  delta dJ dQ wK dS rJ
  simp only [sS]
  simp only [zQO]
  simp only [RV.wfs,RV.wf,DV.wf,maxLen] at hwf
  refine ⟨⟨0,⟨Nat.zero_le _,rfl⟩,rfl⟩,fun k hk=>⟨fun hlt=>?_,fun hge=>?_⟩⟩
  ·obtain ⟨k1,k2⟩:=hk
   have hk:k < l.length:=by omega
   obtain ⟨q1,q2⟩:=jVp hk
   have w1:IntKind.wrap .i64 ((k:Int)+1)=((k+1:Nat):Int):=by rw [IntWalk.i64_in _ ⟨by omega,by omega⟩]; omega
   simp only [Nat.mul_one,q2,w1]
   refine ⟨⟨by omega,by omega,by rw [zZc]; omega⟩,q1,zV7 _ _ _ hs,fun h1=>(zUy hk h1).symm,fun h1=>⟨k+1,⟨by omega,by rw [jXk hk,k2,h1]; rfl⟩,by omega,rfl⟩⟩
  ·obtain ⟨k1,k2⟩:=hk
   have:k=l.length:=by omega
   subst this
   rw [List.take_length] at k2
   exact k2.symm
end
def imQ (xs:List DV) (i:Nat):Im:=⟨(nAt xs (i)),(nAt xs (i+1)),(bAt xs (i+1+1)),⟨(nAt xs (i+1+1+1)),(nAt xs (i+1+1+1+1)),(nAt xs (i+1+1+1+1+1)),(nAt xs (i+1+1+1+1+1+1)),(nAt xs (i+1+1+1+1+1+1+1))⟩,⟨(nAt xs (i+1+1+1+1+1+1+1+1)),(nAt xs (i+1+1+1+1+1+1+1+1+1)),(nAt xs (i+1+1+1+1+1+1+1+1+1+1)),(lAt xs (i+1+1+1+1+1+1+1+1+1+1+1)),(cAt xs (i+1+1+1+1+1+1+1+1+1+1+1))⟩,⟨(nAt xs (i+1+1+1+1+1+1+1+1+1+1+1+1)),(nAt xs (i+1+1+1+1+1+1+1+1+1+1+1+1+1)),(nAt xs (i+1+1+1+1+1+1+1+1+1+1+1+1+1+1)),(lAt xs (i+1+1+1+1+1+1+1+1+1+1+1+1+1+1+1)),(cAt xs (i+1+1+1+1+1+1+1+1+1+1+1+1+1+1+1))⟩,⟨(nAt xs (i+1+1+1+1+1+1+1+1+1+1+1+1+1+1+1+1)),(nAt xs (i+1+1+1+1+1+1+1+1+1+1+1+1+1+1+1+1+1)),(nAt xs (i+1+1+1+1+1+1+1+1+1+1+1+1+1+1+1+1+1+1)),(lAt xs (i+1+1+1+1+1+1+1+1+1+1+1+1+1+1+1+1+1+1+1)),(cAt xs (i+1+1+1+1+1+1+1+1+1+1+1+1+1+1+1+1+1+1+1))⟩,⟨(nAt xs (i+1+1+1+1+1+1+1+1+1+1+1+1+1+1+1+1+1+1+1+1)),(nAt xs (i+1+1+1+1+1+1+1+1+1+1+1+1+1+1+1+1+1+1+1+1+1)),(nAt xs (i+1+1+1+1+1+1+1+1+1+1+1+1+1+1+1+1+1+1+1+1+1+1)),(lAt xs (i+1+1+1+1+1+1+1+1+1+1+1+1+1+1+1+1+1+1+1+1+1+1+1)),(cAt xs (i+1+1+1+1+1+1+1+1+1+1+1+1+1+1+1+1+1+1+1+1+1+1+1))⟩,⟨(nAt xs (i+1+1+1+1+1+1+1+1+1+1+1+1+1+1+1+1+1+1+1+1+1+1+1+1)),(nAt xs (i+1+1+1+1+1+1+1+1+1+1+1+1+1+1+1+1+1+1+1+1+1+1+1+1+1)),(nAt xs (i+1+1+1+1+1+1+1+1+1+1+1+1+1+1+1+1+1+1+1+1+1+1+1+1+1+1)),(lAt xs (i+1+1+1+1+1+1+1+1+1+1+1+1+1+1+1+1+1+1+1+1+1+1+1+1+1+1+1)),(cAt xs (i+1+1+1+1+1+1+1+1+1+1+1+1+1+1+1+1+1+1+1+1+1+1+1+1+1+1+1))⟩⟩
def imQr (xs:List DV) (i:Nat):Prop:=(xs[i]?=some (DV.int .i64 (nAt xs (i))))∧(xs[i+1]?=some (DV.int .i64 (nAt xs (i+1))))∧(xs[i+1+1]?=some (DV.bool (bAt xs (i+1+1))))∧(xs[i+1+1+1]?=some (DV.int .u16 (nAt xs (i+1+1+1))))∧(xs[i+1+1+1+1]?=some (DV.int .u16 (nAt xs (i+1+1+1+1))))∧(xs[i+1+1+1+1+1]?=some (DV.int .u16 (nAt xs (i+1+1+1+1+1))))∧(xs[i+1+1+1+1+1+1]?=some (DV.int .u16 (nAt xs (i+1+1+1+1+1+1))))∧(xs[i+1+1+1+1+1+1+1]?=some (DV.int .u16 (nAt xs (i+1+1+1+1+1+1+1))))∧(xs[i+1+1+1+1+1+1+1+1]?=some (DV.int .i64 (nAt xs (i+1+1+1+1+1+1+1+1))))∧(xs[i+1+1+1+1+1+1+1+1+1]?=some (DV.int .i64 (nAt xs (i+1+1+1+1+1+1+1+1+1))))∧(xs[i+1+1+1+1+1+1+1+1+1+1]?=some (DV.int .i64 (nAt xs (i+1+1+1+1+1+1+1+1+1+1))))∧(xs[i+1+1+1+1+1+1+1+1+1+1+1]?=some (DV.sl (lAt xs (i+1+1+1+1+1+1+1+1+1+1+1)) (cAt xs (i+1+1+1+1+1+1+1+1+1+1+1))))∧(xs[i+1+1+1+1+1+1+1+1+1+1+1+1]?=some (DV.int .i64 (nAt xs (i+1+1+1+1+1+1+1+1+1+1+1+1))))∧(xs[i+1+1+1+1+1+1+1+1+1+1+1+1+1]?=some (DV.int .i64 (nAt xs (i+1+1+1+1+1+1+1+1+1+1+1+1+1))))∧(xs[i+1+1+1+1+1+1+1+1+1+1+1+1+1+1]?=some (DV.int .i64 (nAt xs (i+1+1+1+1+1+1+1+1+1+1+1+1+1+1))))∧(xs[i+1+1+1+1+1+1+1+1+1+1+1+1+1+1+1]?=some (DV.sl (lAt xs (i+1+1+1+1+1+1+1+1+1+1+1+1+1+1+1)) (cAt xs (i+1+1+1+1+1+1+1+1+1+1+1+1+1+1+1))))∧(xs[i+1+1+1+1+1+1+1+1+1+1+1+1+1+1+1+1]?=some (DV.int .i64 (nAt xs (i+1+1+1+1+1+1+1+1+1+1+1+1+1+1+1+1))))∧(xs[i+1+1+1+1+1+1+1+1+1+1+1+1+1+1+1+1+1]?=some (DV.int .i64 (nAt xs (i+1+1+1+1+1+1+1+1+1+1+1+1+1+1+1+1+1))))∧(xs[i+1+1+1+1+1+1+1+1+1+1+1+1+1+1+1+1+1+1]?=some (DV.int .i64 (nAt xs (i+1+1+1+1+1+1+1+1+1+1+1+1+1+1+1+1+1+1))))∧(xs[i+1+1+1+1+1+1+1+1+1+1+1+1+1+1+1+1+1+1+1]?=some (DV.sl (lAt xs (i+1+1+1+1+1+1+1+1+1+1+1+1+1+1+1+1+1+1+1)) (cAt xs (i+1+1+1+1+1+1+1+1+1+1+1+1+1+1+1+1+1+1+1))))∧(xs[i+1+1+1+1+1+1+1+1+1+1+1+1+1+1+1+1+1+1+1+1]?=some (DV.int .i64 (nAt xs (i+1+1+1+1+1+1+1+1+1+1+1+1+1+1+1+1+1+1+1+1))))∧(xs[i+1+1+1+1+1+1+1+1+1+1+1+1+1+1+1+1+1+1+1+1+1]?=some (DV.int .i64 (nAt xs (i+1+1+1+1+1+1+1+1+1+1+1+1+1+1+1+1+1+1+1+1+1))))∧(xs[i+1+1+1+1+1+1+1+1+1+1+1+1+1+1+1+1+1+1+1+1+1+1]?=some (DV.int .i64 (nAt xs (i+1+1+1+1+1+1+1+1+1+1+1+1+1+1+1+1+1+1+1+1+1+1))))∧(xs[i+1+1+1+1+1+1+1+1+1+1+1+1+1+1+1+1+1+1+1+1+1+1+1]?=some (DV.sl (lAt xs (i+1+1+1+1+1+1+1+1+1+1+1+1+1+1+1+1+1+1+1+1+1+1+1)) (cAt xs (i+1+1+1+1+1+1+1+1+1+1+1+1+1+1+1+1+1+1+1+1+1+1+1))))∧(xs[i+1+1+1+1+1+1+1+1+1+1+1+1+1+1+1+1+1+1+1+1+1+1+1+1]?=some (DV.int .i64 (nAt xs (i+1+1+1+1+1+1+1+1+1+1+1+1+1+1+1+1+1+1+1+1+1+1+1+1))))∧(xs[i+1+1+1+1+1+1+1+1+1+1+1+1+1+1+1+1+1+1+1+1+1+1+1+1+1]?=some (DV.int .i64 (nAt xs (i+1+1+1+1+1+1+1+1+1+1+1+1+1+1+1+1+1+1+1+1+1+1+1+1+1))))∧(xs[i+1+1+1+1+1+1+1+1+1+1+1+1+1+1+1+1+1+1+1+1+1+1+1+1+1+1]?=some (DV.int .i64 (nAt xs (i+1+1+1+1+1+1+1+1+1+1+1+1+1+1+1+1+1+1+1+1+1+1+1+1+1+1))))∧(xs[i+1+1+1+1+1+1+1+1+1+1+1+1+1+1+1+1+1+1+1+1+1+1+1+1+1+1+1]?=some (DV.sl (lAt xs (i+1+1+1+1+1+1+1+1+1+1+1+1+1+1+1+1+1+1+1+1+1+1+1+1+1+1+1)) (cAt xs (i+1+1+1+1+1+1+1+1+1+1+1+1+1+1+1+1+1+1+1+1+1+1+1+1+1+1+1))))∧True
def oqQ (xs:List DV) (i:Nat):Oq:=⟨(nAt xs (i)),(nAt xs (i+1)),(nAt xs (i+1+1)),(nAt xs (i+1+1+1)),(nAt xs (i+1+1+1+1)),(nAt xs (i+1+1+1+1+1)),(nAt xs (i+1+1+1+1+1+1)),(nAt xs (i+1+1+1+1+1+1+1)),(nAt xs (i+1+1+1+1+1+1+1+1)),(nAt xs (i+1+1+1+1+1+1+1+1+1)),(bAt xs (i+1+1+1+1+1+1+1+1+1+1)),(bAt xs (i+1+1+1+1+1+1+1+1+1+1+1))⟩
def oqQr (xs:List DV) (i:Nat):Prop:=(xs[i]?=some (DV.int .i64 (nAt xs (i))))∧(xs[i+1]?=some (DV.int .i64 (nAt xs (i+1))))∧(xs[i+1+1]?=some (DV.int .i64 (nAt xs (i+1+1))))∧(xs[i+1+1+1]?=some (DV.int .i64 (nAt xs (i+1+1+1))))∧(xs[i+1+1+1+1]?=some (DV.int .i64 (nAt xs (i+1+1+1+1))))∧(xs[i+1+1+1+1+1]?=some (DV.int .i64 (nAt xs (i+1+1+1+1+1))))∧(xs[i+1+1+1+1+1+1]?=some (DV.int .i64 (nAt xs (i+1+1+1+1+1+1))))∧(xs[i+1+1+1+1+1+1+1]?=some (DV.int .u16 (nAt xs (i+1+1+1+1+1+1+1))))∧(xs[i+1+1+1+1+1+1+1+1]?=some (DV.int .i64 (nAt xs (i+1+1+1+1+1+1+1+1))))∧(xs[i+1+1+1+1+1+1+1+1+1]?=some (DV.int .i64 (nAt xs (i+1+1+1+1+1+1+1+1+1))))∧(xs[i+1+1+1+1+1+1+1+1+1+1]?=some (DV.bool (bAt xs (i+1+1+1+1+1+1+1+1+1+1))))∧(xs[i+1+1+1+1+1+1+1+1+1+1+1]?=some (DV.bool (bAt xs (i+1+1+1+1+1+1+1+1+1+1+1))))∧True
def pxQ (xs:List DV) (i:Nat):Px:=⟨(nAt xs (i)),(nAt xs (i+1)),(nAt xs (i+1+1)),(nAt xs (i+1+1+1)),(nAt xs (i+1+1+1+1))⟩
def pxQr (xs:List DV) (i:Nat):Prop:=(xs[i]?=some (DV.int .u16 (nAt xs (i))))∧(xs[i+1]?=some (DV.int .u16 (nAt xs (i+1))))∧(xs[i+1+1]?=some (DV.int .u16 (nAt xs (i+1+1))))∧(xs[i+1+1+1]?=some (DV.int .u16 (nAt xs (i+1+1+1))))∧(xs[i+1+1+1+1]?=some (DV.int .u16 (nAt xs (i+1+1+1+1))))∧True
def imC (m:Im):List Cl:=[Cl.d (DV.int .i64 m.w),Cl.d (DV.int .i64 m.h),Cl.d (DV.bool m.so),Cl.d (DV.int .u16 m.c.a),Cl.d (DV.int .u16 m.c.b),Cl.d (DV.int .u16 m.c.c),Cl.d (DV.int .u16 m.c.al),Cl.d (DV.int .u16 m.c.f),Cl.d (DV.int .i64 m.p0.w),Cl.d (DV.int .i64 m.p0.h),Cl.d (DV.int .i64 m.p0.s),Cl.d (DV.sl m.p0.n m.p0.xs),Cl.d (DV.int .i64 m.p1.w),Cl.d (DV.int .i64 m.p1.h),Cl.d (DV.int .i64 m.p1.s),Cl.d (DV.sl m.p1.n m.p1.xs),Cl.d (DV.int .i64 m.p2.w),Cl.d (DV.int .i64 m.p2.h),Cl.d (DV.int .i64 m.p2.s),Cl.d (DV.sl m.p2.n m.p2.xs),Cl.d (DV.int .i64 m.p3.w),Cl.d (DV.int .i64 m.p3.h),Cl.d (DV.int .i64 m.p3.s),Cl.d (DV.sl m.p3.n m.p3.xs),Cl.d (DV.int .i64 m.p4.w),Cl.d (DV.int .i64 m.p4.h),Cl.d (DV.int .i64 m.p4.s),Cl.d (DV.sl m.p4.n m.p4.xs)]
def oqC (m:Oq):List Cl:=[Cl.d (DV.int .i64 m.kind),Cl.d (DV.int .i64 m.image),Cl.d (DV.int .i64 m.x),Cl.d (DV.int .i64 m.y),Cl.d (DV.int .i64 m.mask),Cl.d (DV.int .i64 m.mx),Cl.d (DV.int .i64 m.my),Cl.d (DV.int .u16 m.opac),Cl.d (DV.int .i64 m.oper),Cl.d (DV.int .i64 m.mode),Cl.d (DV.bool m.iso),Cl.d (DV.bool m.kno)]
def oqD (m:Oq):AV:=AV.agg [Cl.d (DV.int .i64 m.kind),Cl.d (DV.int .i64 m.image),Cl.d (DV.int .i64 m.x),Cl.d (DV.int .i64 m.y),Cl.d (DV.int .i64 m.mask),Cl.d (DV.int .i64 m.mx),Cl.d (DV.int .i64 m.my),Cl.d (DV.int .u16 m.opac),Cl.d (DV.int .i64 m.oper),Cl.d (DV.int .i64 m.mode),Cl.d (DV.bool m.iso),Cl.d (DV.bool m.kno)]
def pxC (m:Px):List Cl:=[Cl.d (DV.int .u16 m.a),Cl.d (DV.int .u16 m.b),Cl.d (DV.int .u16 m.c),Cl.d (DV.int .u16 m.al),Cl.d (DV.int .u16 m.f)]
def pxD (m:Px):AV:=AV.agg [Cl.d (DV.int .u16 m.a),Cl.d (DV.int .u16 m.b),Cl.d (DV.int .u16 m.c),Cl.d (DV.int .u16 m.al),Cl.d (DV.int .u16 m.f)]
def zXz (m:Im):Int:=if m.so then 19 else 9+10*(m.w*m.h)
def zZb:List Im→Int
 | []=>0
 | m::l=>zXz m+zZb l
theorem zKC:∀ (l m:List Im),zZb (l++m)=zZb l+zZb m
 | [],m=>by simp [zZb]
 | a::l,m=>by rw [List.cons_append,zZb,zZb,zKC l m]; omega
def opOk (o:Oq):Bool:=fitL 0 255 [o.kind,o.image,o.mask,o.oper,o.mode] && fitL (-2147483648) 2147483647 [o.x,o.y,o.mx,o.my]
def zYl (s:Scr):Bool:=
 fitL 0 255 [s.bits] && fitL (-2147483648) 2147483647 [s.c.a,s.c.b,s.c.c,s.c.d] && fitL 0 4294967295 [s.tw,s.th] && fitL 0 4294967295 s.ord && decide (s.ims.length≤64) && decide (s.ops.length≤4096)
def zXC (s:Scr) (l:List Im):Int:=34+4*(s.ord.length:Int)+24*(s.ops.length:Int)+zZb l
def zZX (s:Scr):Bool:=zYl s && s.ims.all Im.formed && s.ops.all opOk && decide (zXC s s.ims≤67108864)
section
attribute [local irreducible] Ans AnsO AnsG AnsN AnsI
theorem zHD (m:Im):(m.valid 0=0∨m.valid 0=8)↔m.formed=true:=by
 unfold Im.valid Im.formed
 cases zQ8 m.w m.h <;> cases m.inner <;> simp
 repeat' split
 all_goals omega
theorem all_take' {α:Type} {f:α→Bool} {l:List α} {k:Nat} (h:k < l.length):(l.take (k+1)).all f=((l.take k).all f && f l[k]):=by
 rw [List.take_succ_eq_append_getElem h,List.all_append]
 simp
theorem all_false' {α:Type} {f:α→Bool} {l:List α} {k:Nat} (h:k < l.length) (hf:f l[k]=false):l.all f=false:=by
 rw [List.all_eq_false]
 exact ⟨l[k],List.getElem_mem h,by rw [hf]; simp⟩
theorem zWD {m:Im} (h:m.formed=true):19≤zXz m∧zXz m≤167772169∧1≤m.w*m.h∧m.w*m.h≤16777216:=by
 have h1:zQ8 m.w m.h=true:=by unfold Im.formed at h; exact (Bool.and_eq_true_iff.1 h).1
 have h2:1≤m.w*m.h∧m.w*m.h≤16777216:=by
  simp only [zQ8,Bool.and_eq_true,decide_eq_true_eq] at h1
  have:0 < m.w*m.h:=Int.mul_pos (by omega) (by omega)
  omega
 unfold zXz
 split <;> omega
theorem zVQ {l:List Im} {k:Nat} (h:k < l.length):zZb (l.take (k+1))=zZb (l.take k)+zXz l[k]:=by
 rw [List.take_succ_eq_append_getElem h,zKC]
 simp [zZb]
theorem zXT {l:List Im} (h:l.all Im.formed=true):0≤zZb l∧zZb l≤167772169*(l.length:Int):=by
 induction l with
 | nil=>simp [zZb]
 | cons m l ih=>
  simp only [List.all_cons,Bool.and_eq_true] at h
  have:=ih h.2
  have:=zWD h.1
  simp only [zZb,List.length_cons]
  omega
def jWh:Gam where
 pure:=fun f xs=>
  if f=94 then gZ18 xs else
  if f=51 then (match xs with | [.d (.sl n xs)]=>some (RV.d (dQ (fitL 0 255 (ints xs)))) | _=>none) else
  if f=52 then (match xs with | [.d (.sl n xs)]=>some (RV.d (dQ (fitL (-2147483648) 2147483647 (ints xs)))) | _=>none) else
  if f=53 then (match xs with | [.d (.sl n xs)]=>some (RV.d (dQ (fitL 0 4294967295 (ints xs)))) | _=>none) else
  if f=54 then gZ15 xs else
  none
 modes:=fun f=>
  none
 proc:=fun f xs bs=>
  none
 iter:=fun f cs=>
  none
theorem zJF (m:Im) (hu:m.isU):Ans prog 54 [RV.agg [dJ m.w,dJ m.h,dQ m.so,dK m.c.a,dK m.c.b,dK m.c.c,dK m.c.al,dK m.c.f,dJ m.p0.w,dJ m.p0.h,dJ m.p0.s,dS m.p0.n m.p0.xs,dJ m.p1.w,dJ m.p1.h,dJ m.p1.s,dS m.p1.n m.p1.xs,dJ m.p2.w,dJ m.p2.h,dJ m.p2.s,dS m.p2.n m.p2.xs,dJ m.p3.w,dJ m.p3.h,dJ m.p3.s,dS m.p3.n m.p3.xs,dJ m.p4.w,dJ m.p4.h,dJ m.p4.s,dS m.p4.n m.p4.xs]] (RV.d (dQ (Im.formed m))):=
 zQj (Γ:=jWh) Ann.leaf zQs Tryz.func54 rfl (nL rfl) fun hwf=>by
  refine Eq.mpr (by kernel_rfl:_=(let a:=(Im.valid m (0:Int)); let b:=(a==0); tU3 ((Ans prog 94 [(imR m),RV.d (dK 0)] (rJ a))∧tU4 ((b=false→tU4 (RV.d (dQ (a==8))=RV.d (dQ (Im.formed m))))∧(b=(!false)→tU2 (RV.d (dQ true)=RV.d (dQ (Im.formed m)))))))) ?_
  delta dK dQ rJ
  simp only [sS]
  have:=zUO m 0 hu
  have hf:=zHD m
  refine ⟨this,fun q1=>?_,fun q1=>?_⟩
  ·have q1:¬ m.valid 0=0:=by simpa using q1
   by_cases q2:m.valid 0=8
   ·rw [hf.1 (.inr q2),q2]; rfl
   ·cases q3:m.formed with
    | true=>have:=hf.2 q3; omega
    | false=>simp [q2]
  ·have q1:m.valid 0=0:=by simpa using q1
   exact (hf.1 (.inl q1)).symm
theorem zYf (s:Scr) (hM:∀ m∈s.ims,m.isU) (hos:s.ord.length≤17592186044416):Ans prog 24 [RV.agg [dJ s.bits,dJ s.c.a,dJ s.c.b,dJ s.c.c,dJ s.c.d,dJ s.tw,dJ s.th,dS s.ord.length (is s.ord),dS s.ims.length (ims s.ims),dS s.ops.length (ops s.ops)]] (RV.d (dQ (zZX s))):=
 zQj (Γ:=jWh) (let a:=(dS s.ims.length (ims s.ims)); let b:=(dS s.ops.length (ops s.ops)); (Ann.seq Ann.leaf (Ann.seq Ann.leaf (Ann.seq Ann.leaf (Ann.seq (Ann.seq Ann.leaf (Ann.loop ⟨Nat,fun k=>k≤s.ims.length∧(s.ims.take k).all Im.formed=true,fun k=>⟨[(1,AV.one (Cl.ptr 1 0)),(3,aJ (zXC s (s.ims.take k))),(69,AV.one (Cl.d a)),(70,aJ (s.ims.length:Int)),(71,aJ (k:Int))],[(1,bC [cJ s.bits,cJ s.c.a,cJ s.c.b,cJ s.c.c,cJ s.c.d,cJ s.tw,cJ s.th,Cl.d (dS s.ord.length (is s.ord)),Cl.d a,Cl.d b])]⟩,fun k=>s.ims.length - k⟩ fun k=>Ann.leaf)) (Ann.seq (Ann.seq Ann.leaf (Ann.loop ⟨Nat,fun j=>j≤s.ops.length∧(s.ops.take j).all opOk=true,fun j=>⟨[(3,aJ (zXC s s.ims)),(93,AV.one (Cl.d b)),(94,aJ (s.ops.length:Int)),(95,aJ (j:Int))],[]⟩,fun j=>s.ops.length - j⟩ fun j=>Ann.leaf)) Ann.leaf)))))) zQs Tryz.func24 rfl (nL rfl) fun hwf=>by
  refine Eq.mpr (by kernel_rfl:_=(let h:=(ints ([dJ s.bits])); let t:=(!(fitL 0 4294967295 (ints (is s.ord)))); let e:=(zXC s s.ims); let d:=(dQ (zZX s)); let c:=(RV.d (dQ false)=RV.d d); let a:=(s.ops.length:Int); let b:=(s.ims.length:Int); let i:=([dJ s.tw,dJ s.th]); let u:=(!(fitL 0 4294967295 (ints i))); let l:=([dJ s.c.a,dJ s.c.b,dJ s.c.c,dJ s.c.d]); let v:=(!(fitL (-2147483648) 2147483647 (ints l))); let w:=fun (k:Nat)=>(k≤s.ims.length∧(s.ims.take k).all Im.formed=true); let m:=(dS s.ims.length (ims s.ims)=dS s.ims.length (ims s.ims)); let n:=(dJ b=dJ b); let x:=[dJ s.bits,dJ s.c.a,dJ s.c.b,dJ s.c.c,dJ s.c.d,dJ s.tw,dJ s.th,dS s.ord.length (is s.ord),dS s.ims.length (ims s.ims),dS s.ops.length (ops s.ops)]; let o:=((x=x)∧True); let y:=fun (k':Nat)=>(k'≤s.ims.length∧(s.ims.take k').all Im.formed=true); let z:=fun (k:Nat)=>fun (k':Nat)=>(s.ims.length - k' < s.ims.length - k); let A:=fun (k:Nat)=>fun (k':Nat)=>(dJ (wK ((k:Int)+1))=dJ (k':Int)); let B:=fun (j:Nat)=>(j≤s.ops.length∧(s.ops.take j).all opOk=true); let C:=(dS s.ops.length (ops s.ops)=dS s.ops.length (ops s.ops)); let D:=(dJ a=dJ a); tU5 ((Ans prog 51 [RV.d (dS 1 ([dJ s.bits]))] (RV.d (dQ (fitL 0 255 h))))∧tU2 (((!(fitL 0 255 h))=false→tU5 (tU8 ((Ans prog 52 [RV.d (dS 4 l)] (RV.d (dQ (fitL (-2147483648) 2147483647 (ints l)))))∧tU3 ((v=false→tU5 ((Ans prog 53 [RV.d (dS 2 i)] (RV.d (dQ (fitL 0 4294967295 (ints i)))))∧tU3 ((u=false→tU2 ((Ans prog 53 [RV.d (dS s.ord.length (is s.ord))] (RV.d (dQ (fitL 0 4294967295 (ints (is s.ord))))))∧tU3 ((t=false→tU6 (((decide (b > 64))=false→tU5 (((decide (a > 4096))=true→True∧RV.d (dQ false)=RV.d d)∧((decide (a > 4096))=false→tU7 (tU8 ((∃ k:Nat,(w k)∧(((0=0)∧(dJ (wK ((wK ((34:Int)+(wK ((4:Int)*(s.ord.length:Int)))))+(wK ((24:Int)*a))))=dJ (zXC s (s.ims.take k)))∧m∧n∧(dJ 0=dJ (k:Int))∧True)∧o))∧∀ k:Nat,let p:=((k:Int).toNat*28); let E:=(!(bAt (ims s.ims) ((k:Int).toNat*28+1+1))); let q:=(zXC s (s.ims.take k)); let f:=(imQ (ims s.ims) p); (w k)→True∧(((decide ((k:Int) < b))=true→(0≤(k:Int)∧(k:Int) < b∧(k:Int).toNat*28 < (ims s.ims).length)∧(imQr (ims s.ims) p)∧tU3 ((Ans prog 54 [imR f] (RV.d (dQ (Im.formed f))))∧True∧(((!(Im.formed f))=true→True∧RV.d (dQ false)=RV.d d)∧((!(Im.formed f))=false→tU4 ((E=true→tU6 (tU8 (∃ k':Nat,(y k')∧(z k k')∧(((0=0)∧(dJ (wK (q+(wK ((9:Int)+(wK ((10:Int)*(wK ((nAt (ims s.ims) p)*(nAt (ims s.ims) ((k:Int).toNat*28+1))))))))))=dJ (zXC s (s.ims.take k')))∧m∧n∧(A k k')∧True)∧o))))∧(E=false→tU8 (∃ k':Nat,(y k')∧(z k k')∧(((0=0)∧(dJ (wK (q+(wK ((9:Int)+(wK ((10:Int)*1))))))=dJ (zXC s (s.ims.take k')))∧m∧n∧(A k k')∧True)∧o))))))))∧((decide ((k:Int) < b))=false→tU4 ((∃ j:Nat,(B j)∧(((dJ q=dJ e)∧C∧D∧(dJ 0=dJ (j:Int))∧True)∧True))∧∀ j:Nat,let g:=([dJ (nAt (ops s.ops) ((j:Int).toNat*12)),dJ (nAt (ops s.ops) ((j:Int).toNat*12+1)),dJ (nAt (ops s.ops) ((j:Int).toNat*12+1+1+1+1)),dJ (nAt (ops s.ops) ((j:Int).toNat*12+1+1+1+1+1+1+1+1)),dJ (nAt (ops s.ops) ((j:Int).toNat*12+1+1+1+1+1+1+1+1+1))]); let r:=([dJ (nAt (ops s.ops) ((j:Int).toNat*12+1+1)),dJ (nAt (ops s.ops) ((j:Int).toNat*12+1+1+1)),dJ (nAt (ops s.ops) ((j:Int).toNat*12+1+1+1+1+1)),dJ (nAt (ops s.ops) ((j:Int).toNat*12+1+1+1+1+1+1))]); let F:=(!(fitL (-2147483648) 2147483647 (ints r))); (B j)→True∧(((decide ((j:Int) < a))=true→(0≤(j:Int)∧(j:Int) < a∧(j:Int).toNat*12 < (ops s.ops).length)∧(oqQr (ops s.ops) ((j:Int).toNat*12))∧tU5 (tU8 ((Ans prog 51 [RV.d (dS 5 g)] (RV.d (dQ (fitL 0 255 (ints g)))))∧tU2 (((!(fitL 0 255 (ints g)))=false→True∧tU8 ((Ans prog 52 [RV.d (dS 4 r)] (RV.d (dQ (fitL (-2147483648) 2147483647 (ints r)))))∧tU2 ((F=true→True∧RV.d (dQ false)=RV.d d)∧(F=false→tU2 (∃ j':Nat,(j'≤s.ops.length∧(s.ops.take j').all opOk=true)∧(s.ops.length - j' < s.ops.length - j)∧(((dJ e=dJ e)∧C∧D∧(dJ (wK ((j:Int)+1))=dJ (j':Int))∧True)∧True))))))∧((!(fitL 0 255 (ints g)))=(!false)→tU2 c)))))∧((decide ((j:Int) < a))=false→tU3 (RV.d (dQ (decide (e≤67108864)))=RV.d d)))))))))))∧((decide (b > 64))=(!false)→tU2 c)))∧(t=(!false)→tU4 c))))∧(u=(!false)→tU6 c))))∧(v=(!false)→tU8 c)))))∧((!(fitL 0 255 h))=(!false)→tU2 (tU8 c)))))) ?_
  delta dJ dQ wK dS
  simp only [sS,imQ,imQr,oqQr]
  have a1:=zJq [s.bits]
  have a2:=zYW [s.c.a,s.c.b,s.c.c,s.c.d]
  have a3:=zYs [s.tw,s.th]
  have a4:=zYs s.ord
  clear hwf
  have fal:zYl s=false→false=zZX s:=fun h=>by simp [zZX,h]
  simp only [zQO] at a4 ⊢
  refine ⟨a1,fun h1=>⟨a2,fun h2=>⟨a3,fun h3=>⟨a4,fun h4=>⟨fun h5=>⟨fun h6=>?_,fun h6=>?_⟩,fun h5=>?_⟩,fun h4=>?_⟩,fun h3=>?_⟩,fun h2=>?_⟩,fun h1=>?_⟩
  ·exact fal (by simp [zYl]; omega)
  ·have g1:fitL 0 255 [s.bits]=true:=h1
   have g2:fitL (-2147483648) 2147483647 [s.c.a,s.c.b,s.c.c,s.c.d]=true:=h2
   have g3:fitL 0 4294967295 [s.tw,s.th]=true:=h3
   have hd:zYl s=true:=by simp only [zYl,g1,g2,g3,h4,Bool.and_true,Bool.true_and,Bool.and_eq_true,decide_eq_true_eq]; omega
   have w0:∀ n:Int,-1000000000000000≤n→n≤1000000000000000→IntKind.wrap .i64 n=n:=fun n a b=>IntWalk.i64_in _ ⟨by omega,by omega⟩
   have hs0:IntKind.wrap .i64 (IntKind.wrap .i64 (34+IntKind.wrap .i64 (4*(s.ord.length:Int)))+IntKind.wrap .i64 (24*(s.ops.length:Int)))=zXC s []:=by
    rw [w0 (4*(s.ord.length:Int)) (by omega) (by omega),w0 (34+4*(s.ord.length:Int)) (by omega) (by omega),w0 (24*(s.ops.length:Int)) (by omega) (by omega),w0 _ (by omega) (by omega)]
    simp [zXC,zZb]
   refine ⟨⟨0,⟨Nat.zero_le _,by simp⟩,by rw [hs0]; rfl,rfl⟩,fun k hk=>⟨fun hlt=>?_,fun hge=>?_⟩⟩
   ·obtain ⟨k1,k2⟩:=hk
    have hk:k < s.ims.length:=by omega
    have q1:=zVZ hk
    have q2:=zV0 hk
    have w1:IntKind.wrap .i64 ((k:Int)+1)=((k+1:Nat):Int):=by rw [w0 _ (by omega) (by omega)]; omega
    have wf:=zJF s.ims[k] (hM _ (List.getElem_mem hk))
    simp only [q2,w1]
    refine ⟨⟨by omega,by omega,by rw [zZC]; omega⟩,q1,wf,fun h7=>?_,fun h7=>?_⟩
    ·have h7:s.ims[k].formed=false:=h7
     simp [zZX,all_false' hk h7]
    ·have h7:s.ims[k].formed=true:=h7
     have hz:=zWD h7
     have hzl:=zXT k2
     have hl:(s.ims.take k).length≤64:=by rw [List.length_take]; omega
     have hz2:zXC s (s.ims.take (k+1))=zXC s (s.ims.take k)+zXz s.ims[k]:=by simp only [zXC,zVQ hk]; omega
     have hz3:0≤zXC s (s.ims.take k)∧zXC s (s.ims.take k)≤100000000000000:=by simp only [zXC]; omega
     have hin:k+1≤s.ims.length∧(s.ims.take (k+1)).all Im.formed=true:=⟨by omega,by rw [all_take' hk,k2,h7]; rfl⟩
     refine ⟨fun h8=>⟨k+1,hin,by omega,?_,rfl⟩,fun h8=>⟨k+1,hin,by omega,?_,rfl⟩⟩
     ·have hsz:zXz s.ims[k]=9+10*(s.ims[k].w*s.ims[k].h):=by unfold zXz; rw [if_neg (by rw [h8]; simp)]
      rw [hz2,hsz]
      generalize s.ims[k].w*s.ims[k].h=a at *
      rw [w0 a (by omega) (by omega),w0 (10*a) (by omega) (by omega),w0 (9+10*a) (by omega) (by omega),w0 _ (by omega) (by omega)]
     ·have hsz:zXz s.ims[k]=19:=by unfold zXz; rw [if_pos h8]
      rw [hz2,hsz]
      rw [w0 (10*1) (by omega) (by omega),w0 (9+10*1) (by omega) (by omega),w0 _ (by omega) (by omega)]
      omega
   ·obtain ⟨k1,k2⟩:=hk
    have:k=s.ims.length:=by omega
    subst this
    rw [List.take_length] at k2
    refine ⟨⟨0,⟨Nat.zero_le _,by simp⟩,by rw [List.take_length],rfl⟩,fun j hj=>⟨fun hlt=>?_,fun hge=>?_⟩⟩
    ·obtain ⟨j1,j2⟩:=hj
     have hj:j < s.ops.length:=by omega
     have q1:=zKu hj
     have q2:=zKv hj
     have w1:IntKind.wrap .i64 ((j:Int)+1)=((j+1:Nat):Int):=by rw [w0 _ (by omega) (by omega)]; omega
     have b1:=zJq [s.ops[j].kind,s.ops[j].image,s.ops[j].mask,s.ops[j].oper,s.ops[j].mode]
     have b2:=zYW [s.ops[j].x,s.ops[j].y,s.ops[j].mx,s.ops[j].my]
     simp only [q2,w1]
     have bad:opOk s.ops[j]=false→false=zZX s:=fun h=>by simp [zZX,all_false' hj h]
     refine ⟨⟨by omega,by omega,by rw [zQ6]; omega⟩,q1,b1,fun h7=>⟨b2,fun h8=>bad ?_,fun h8=>⟨j+1,⟨by omega,?_⟩,by omega,rfl⟩⟩,fun h7=>bad ?_⟩
     ·have h8:fitL (-2147483648) 2147483647 [s.ops[j].x,s.ops[j].y,s.ops[j].mx,s.ops[j].my]=false:=h8
      simp [opOk,h8]
     ·have h7:fitL 0 255 [s.ops[j].kind,s.ops[j].image,s.ops[j].mask,s.ops[j].oper,s.ops[j].mode]=true:=h7
      have h8:fitL (-2147483648) 2147483647 [s.ops[j].x,s.ops[j].y,s.ops[j].mx,s.ops[j].my]=true:=h8
      rw [all_take' hj,j2]
      simp [opOk,h7,h8]
     ·have h7:fitL 0 255 [s.ops[j].kind,s.ops[j].image,s.ops[j].mask,s.ops[j].oper,s.ops[j].mode]=false:=h7
      simp [opOk,h7]
    ·obtain ⟨j1,j2⟩:=hj
     have:j=s.ops.length:=by omega
     subst this
     rw [List.take_length] at j2
     simp [zZX,hd,k2,j2]
  ·exact fal (by simp [zYl]; omega)
  ·exact fal (by simp [zYl,h4])
  ·have h3:fitL 0 4294967295 [s.tw,s.th]=false:=h3
   exact fal (by simp [zYl,h3])
  ·have h2:fitL (-2147483648) 2147483647 [s.c.a,s.c.b,s.c.c,s.c.d]=false:=h2
   exact fal (by simp [zYl,h2])
  ·have h1:fitL 0 255 [s.bits]=false:=h1
   exact fal (by simp [zYl,h1])
def zXD (s:Scr) (l:List Im):Int:=34+4*min (s.ord.length:Int) 67108864+24*(s.ops.length:Int)+zZb l
def lenR (s:Scr):Int:=if zXD s s.ims≤67108864 then zXD s s.ims else -1
theorem jZ7 {m:Im} (h:m.formed=true):1≤m.w∧m.w≤16777216:=by
 have h1:zQ8 m.w m.h=true:=by unfold Im.formed at h; exact (Bool.and_eq_true_iff.1 h).1
 simp only [zQ8,Bool.and_eq_true,decide_eq_true_eq] at h1
 have:m.w*1≤m.w*m.h:=Int.mul_le_mul_of_nonneg_left (by omega) (by omega)
 omega
theorem zHH {l:List Im} {k:Nat} (h:l.all Im.formed=true):zZb (l.take k)≤zZb l:=by
 have h1:=zKC (l.take k) (l.drop k)
 rw [List.take_append_drop] at h1
 have h2:(l.drop k).all Im.formed=true:=by
  rw [List.all_eq_true] at h ⊢
  exact fun m hm=>h m (List.mem_of_mem_drop hm)
 have:=zXT h2
 omega
def jWg:Gam where
 pure:=fun f xs=>
  if f=66 then gZ15 xs else
  if f=87 then gZ27 xs else
  if f=88 then (match xs with | [.d (.int _ size),.d (.bool sg),.d (.sl n xs)]=>some (RV.d (dQ ((ints xs).all (fitR size sg)))) | _=>none) else
  if f=89 then (match xs with | [.agg [.int _ bits,.int _ cx0,.int _ cy0,.int _ cx1,.int _ cy1,.int _ tw,.int _ th,.sl on oxs,.sl mn mxs,.sl pn pxs]]=>some (rJ (lenR (⟨bits,⟨cx0,cy0,cx1,cy1⟩,tw,th,ints oxs,zQR mxs,zQK pxs⟩:Scr))) | _=>none) else
  none
 modes:=fun f=>
  none
 proc:=fun f xs bs=>
  none
 iter:=fun f cs=>
  none
theorem zUR (s:Scr) (hF:s.ims.all Im.formed=true) (ho:s.ops.length≤4096) (hil0:s.ims.length≤9223372036854775807):Ans prog 89 [RV.agg [dJ s.bits,dJ s.c.a,dJ s.c.b,dJ s.c.c,dJ s.c.d,dJ s.tw,dJ s.th,dS s.ord.length (is s.ord),dS s.ims.length (ims s.ims),dS s.ops.length (ops s.ops)]] (rJ ((lenR s))):=
 zQj (Γ:=jWg) (Ann.seq Ann.leaf (Ann.seq Ann.leaf (Ann.seq (Ann.seq Ann.leaf (Ann.loop ⟨Nat,fun k=>k≤s.ims.length∧zZb (s.ims.take k)≤67108864,fun k=>⟨[(1,AV.one (Cl.ptr 1 0)),(3,aJ (zXD s (s.ims.take k))),(4,aJ (k:Int))],[(1,bC [cJ s.bits,cJ s.c.a,cJ s.c.b,cJ s.c.c,cJ s.c.d,cJ s.tw,cJ s.th,Cl.d (dS s.ord.length (is s.ord)),Cl.d (dS s.ims.length (ims s.ims)),Cl.d (dS s.ops.length (ops s.ops))])]⟩,fun k=>s.ims.length - k⟩ fun k=>Ann.leaf)) Ann.leaf))) zQs Tryz.func89 rfl (nL rfl) fun hwf=>by
  refine Eq.mpr (by kernel_rfl:_=(let c:=(s.ims.length:Int); let d:=fun (k:Nat)=>(k≤s.ims.length∧zZb (s.ims.take k)≤67108864); let e:=[dJ s.bits,dJ s.c.a,dJ s.c.b,dJ s.c.c,dJ s.c.d,dJ s.tw,dJ s.th,dS s.ord.length (is s.ord),dS s.ims.length (ims s.ims),dS s.ops.length (ops s.ops)]; let a:=((e=e)∧True); let b:=fun (k:Nat)=>(wK ((zXD s (s.ims.take k))+19)); let f:=fun (k':Nat)=>(k'≤s.ims.length∧zZb (s.ims.take k')≤67108864); let g:=fun (k:Nat)=>fun (k':Nat)=>(s.ims.length - k' < s.ims.length - k); let h:=fun (k:Nat)=>fun (k':Nat)=>(dJ (wK ((k:Int)+1))=dJ (k':Int)); tU7 (tU8 ((∃ k:Nat,(d k)∧(((0=0)∧(dJ (wK ((wK ((34:Int)+(wK ((4:Int)*(min (s.ord.length:Int) (67108864:Int))))))+(wK ((24:Int)*(s.ops.length:Int)))))=dJ (zXD s (s.ims.take k)))∧(dJ 0=dJ (k:Int))∧True)∧a))∧∀ k:Nat,let i:=(decide ((b k) > 67108864)); let j:=(decide ((k:Int) < c)); let l:=(!(bAt (ims s.ims) ((k:Int).toNat*28+1+1))); let m:=(zXD s (s.ims.take k)); let n:=(decide (m > 67108864)); let o:=(wK ((b k)+(wK ((wK ((wK ((10:Int)*(nAt (ims s.ims) ((k:Int).toNat*28))))*(nAt (ims s.ims) ((k:Int).toNat*28+1)))) - 10)))); let p:=(decide (o > 67108864)); (d k)→tU5 ((j=true→tU3 ((0≤(k:Int)∧(k:Int) < c∧(k:Int).toNat*28 < (ims s.ims).length)∧(imQr (ims s.ims) ((k:Int).toNat*28))∧tU8 ((l=true→tU4 (tU8 ((p=true→True∧rJ (-1:Int)=rJ (lenR s))∧(p=false→tU3 (∃ k':Nat,(f k')∧(g k k')∧(((0=0)∧(dJ o=dJ (zXD s (s.ims.take k')))∧(h k k')∧True)∧a))))))∧(l=false→tU2 ((i=true→True∧rJ (-1:Int)=rJ (lenR s))∧(i=false→tU3 (∃ k':Nat,(f k')∧(g k k')∧(((0=0)∧(dJ (b k)=dJ (zXD s (s.ims.take k')))∧(h k k')∧True)∧a))))))))∧(j=false→tU2 ((n=true→True∧rJ (-1:Int)=rJ (lenR s))∧(n=false→tU2 (rJ m=rJ (lenR s)))))))))) ?_
  delta dJ wK dS rJ
  simp only [sS,imQr]
  clear hwf
  have w0:∀ n:Int,-1000000000000000≤n→n≤1000000000000000→IntKind.wrap .i64 n=n:=fun n a b=>IntWalk.i64_in _ ⟨by omega,by omega⟩
  have hmn:0≤min (s.ord.length:Int) 67108864∧min (s.ord.length:Int) 67108864≤67108864:=by omega
  have hzl:=zXT hF
  have hdr:=fun k=>@zHH s.ims k hF
  have hs0:IntKind.wrap .i64 (IntKind.wrap .i64 (34+IntKind.wrap .i64 (4*min (s.ord.length:Int) 67108864))+IntKind.wrap .i64 (24*(s.ops.length:Int)))=zXD s []:=by
   unfold zXD
   generalize min (s.ord.length:Int) 67108864=M at *
   rw [w0 (4*M) (by omega) (by omega),w0 (34+4*M) (by omega) (by omega),w0 (24*(s.ops.length:Int)) (by omega) (by omega),w0 _ (by omega) (by omega)]
   simp [zZb]
  have hbad:∀ k,67108864 < zXD s (s.ims.take k) → -1=lenR s:=fun k h=>by
   have:=hdr k
   unfold lenR
   rw [if_neg (by unfold zXD at h ⊢; omega)]
  refine ⟨⟨0,⟨Nat.zero_le _,by simp [zZb]⟩,by rw [hs0]; rfl,rfl⟩,fun k hk=>⟨fun hlt=>?_,fun hge=>?_⟩⟩
  ·obtain ⟨hk1,hk2⟩:=hk
   have hk:k < s.ims.length:=by omega
   have q1:=zVZ hk
   have q2:=zV0 hk
   have hil:(k:Int) < 9223372036854775807:=by omega
   have w1:IntKind.wrap .i64 ((k:Int)+1)=((k+1:Nat):Int):=by rw [IntWalk.i64_in _ ⟨by omega,by omega⟩]; omega
   simp only [q2,w1]
   have hm:s.ims[k].formed=true:=by rw [List.all_eq_true] at hF; exact hF _ (List.getElem_mem hk)
   have hz:=zWD hm
   have hw:=jZ7 hm
   have hz2:zXD s (s.ims.take (k+1))=zXD s (s.ims.take k)+zXz s.ims[k]:=by simp only [zXD,zVQ hk]; omega
   have hz3:0≤zXD s (s.ims.take k)∧zXD s (s.ims.take k)≤400000000000:=by
    have h1:(s.ims.take k).all Im.formed=true:=by
     rw [List.all_eq_true] at hF ⊢
     exact fun m hm=>hF m (List.mem_of_mem_take hm)
    have:=zXT h1
    simp only [zXD]; omega
   have e1:IntKind.wrap .i64 (zXD s (s.ims.take k)+19)=zXD s (s.ims.take k)+19:=w0 _ (by omega) (by omega)
   have e2:IntKind.wrap .i64 (IntKind.wrap .i64 (zXD s (s.ims.take k)+19)+IntKind.wrap .i64 (IntKind.wrap .i64 (IntKind.wrap .i64 (10*s.ims[k].w)*s.ims[k].h) - 10))=zXD s (s.ims.take k)+9+10*(s.ims[k].w*s.ims[k].h):=by
    rw [e1,w0 (10*s.ims[k].w) (by omega) (by omega),Int.mul_assoc]
    generalize s.ims[k].w*s.ims[k].h=a at *
    rw [w0 (10*a) (by omega) (by omega),w0 (10*a - 10) (by omega) (by omega),w0 _ (by omega) (by omega)]
    omega
   refine ⟨⟨by omega,by omega,by rw [zZC]; omega⟩,q1,fun h8=>?_,fun h8=>?_⟩
   ·have hsz:zXz s.ims[k]=9+10*(s.ims[k].w*s.ims[k].h):=by unfold zXz; rw [if_neg (by rw [h8]; simp)]
    have e3:zXD s (s.ims.take k)+9+10*(s.ims[k].w*s.ims[k].h)=zXD s (s.ims.take (k+1)):=by rw [hz2,hsz]; omega
    rw [e2,e3]
    exact ⟨fun h9=>hbad _ (by omega),fun h9=>⟨k+1,⟨by omega,by unfold zXD at h9 hz3; omega⟩,by omega,rfl,rfl⟩⟩
   ·have hsz:zXz s.ims[k]=19:=by unfold zXz; rw [if_pos h8]
    have e3:zXD s (s.ims.take k)+19=zXD s (s.ims.take (k+1)):=by rw [hz2,hsz]
    rw [e1,e3]
    exact ⟨fun h9=>hbad _ (by omega),fun h9=>⟨k+1,⟨by omega,by unfold zXD at h9 hz3; omega⟩,by omega,rfl,rfl⟩⟩
  ·have:k=s.ims.length:=by omega
   subst this
   rw [List.take_length]
   refine ⟨fun h=>hbad s.ims.length (by rw [List.take_length]; exact h),fun h=>?_⟩
   unfold lenR
   rw [if_pos (by omega)]
theorem zHz (m:Im):Ans prog 66 [imR m] (RV.d (DV.bool m.formed)):=zQW (m.w) (m.h) (m.so) (m.c.a) (m.c.b) (m.c.c) (m.c.al) (m.c.f) (m.p0.w) (m.p0.h) (m.p0.s) (m.p0.n) (m.p0.xs) (m.p1.w) (m.p1.h) (m.p1.s) (m.p1.n) (m.p1.xs) (m.p2.w) (m.p2.h) (m.p2.s) (m.p2.n) (m.p2.xs) (m.p3.w) (m.p3.h) (m.p3.s) (m.p3.n) (m.p3.xs) (m.p4.w) (m.p4.h) (m.p4.s) (m.p4.n) (m.p4.xs)
def sE (s:Scr):Scr:=⟨s.bits,s.c,s.tw,s.th,ints (is s.ord),zQR (ims s.ims),zQK (ops s.ops)⟩
theorem zY5 (s:Scr):Ans prog 44 [RV.agg [dJ s.bits,dJ s.c.a,dJ s.c.b,dJ s.c.c,dJ s.c.d,dJ s.tw,dJ s.th,dS s.ord.length (is s.ord),dS s.ims.length (ims s.ims),dS s.ops.length (ops s.ops)]] (RV.d (dQ (zZX s))):=
 zQj (Γ:=jWg) (let a:=[(1,bC [cJ s.bits,cJ s.c.a,cJ s.c.b,cJ s.c.c,cJ s.c.d,cJ s.tw,cJ s.th,Cl.d (dS s.ord.length (is s.ord)),Cl.d (dS s.ims.length (ims s.ims)),Cl.d (dS s.ops.length (ops s.ops))])]; (Ann.seq Ann.leaf (Ann.seq Ann.leaf (Ann.seq Ann.leaf (Ann.seq (Ann.seq Ann.leaf (Ann.loop ⟨Nat,fun k=>k≤s.ims.length∧(s.ims.take k).all Im.formed=true,fun k=>⟨[(1,AV.one (Cl.ptr 1 0)),(4,aJ (k:Int))],a⟩,fun k=>s.ims.length - k⟩ fun k=>Ann.leaf)) (Ann.seq (Ann.seq Ann.leaf (Ann.loop ⟨Nat,fun j=>j≤s.ops.length∧(s.ops.take j).all opOk=true,fun j=>⟨[(1,AV.one (Cl.ptr 1 0)),(5,aJ (j:Int))],a⟩,fun j=>s.ops.length - j⟩ fun j=>Ann.leaf)) Ann.leaf)))))) zQs Tryz.func44 rfl (nL rfl) fun hwf=>by
  refine Eq.mpr (by kernel_rfl:_=(let p:=(!(fitR (1:Int) false s.bits)); let q:=(fitR (1:Int) false); let r:=(decide ((s.ord.length:Int) > 67108864)); let b:=(dQ (zZX s)); let i:=([dJ s.tw,dJ s.th]); let c:=(s.ops.length:Int); let d:=(s.ims.length:Int); let e:=(fitR (4:Int) true); let f:=(fitR (4:Int) false); let t:=(!((ints i).all f)); let u:=(!((ints (is s.ord)).all f)); let l:=([dJ s.c.a,dJ s.c.b,dJ s.c.c,dJ s.c.d]); let v:=(!((ints l).all e)); let a:=(RV.d (dQ false)=RV.d b); let w:=fun (k:Nat)=>(k≤s.ims.length∧(s.ims.take k).all Im.formed=true); let m:=[dJ s.bits,dJ s.c.a,dJ s.c.b,dJ s.c.c,dJ s.c.d,dJ s.tw,dJ s.th,dS s.ord.length (is s.ord),dS s.ims.length (ims s.ims),dS s.ops.length (ops s.ops)]; let g:=((m=m)∧True); let x:=fun (j:Nat)=>(j≤s.ops.length∧(s.ops.take j).all opOk=true); tU8 ((Ans prog 87 [rJ s.bits,rJ 1,RV.d (dQ false)] (RV.d (dQ (fitR (1:Int) false s.bits))))∧tU2 ((p=false→True∧tU8 ((Ans prog 88 [rJ 4,RV.d (dQ true),RV.d (dS 4 l)] (RV.d (dQ ((ints l).all e))))∧tU3 ((v=false→tU5 ((Ans prog 88 [rJ 4,RV.d (dQ false),RV.d (dS 2 i)] (RV.d (dQ ((ints i).all f))))∧tU3 ((t=false→tU6 ((r=false→tU2 ((Ans prog 88 [rJ 4,RV.d (dQ false),RV.d (dS s.ord.length (is s.ord))] (RV.d (dQ ((ints (is s.ord)).all f))))∧tU3 ((u=false→tU6 (((decide (d > 64))=false→tU5 (((decide (c > 4096))=true→True∧RV.d (dQ false)=RV.d b)∧((decide (c > 4096))=false→True∧((∃ k:Nat,(w k)∧(((0=0)∧(dJ 0=dJ (k:Int))∧True)∧g))∧∀ k:Nat,let y:=(decide ((k:Int) < d)); let h:=(imQ (ims s.ims) ((k:Int).toNat*28)); (w k)→tU5 ((y=true→tU3 ((0≤(k:Int)∧(k:Int) < d∧(k:Int).toNat*28 < (ims s.ims).length)∧(imQr (ims s.ims) ((k:Int).toNat*28))∧(Ans prog 66 [imR h] (RV.d (dQ (Im.formed h))))∧True∧(((!(Im.formed h))=true→True∧RV.d (dQ false)=RV.d b)∧((!(Im.formed h))=false→tU3 (∃ k':Nat,(k'≤s.ims.length∧(s.ims.take k').all Im.formed=true)∧(s.ims.length - k' < s.ims.length - k)∧(((0=0)∧(dJ (wK ((k:Int)+1))=dJ (k':Int))∧True)∧g))))))∧(y=false→True∧((∃ j:Nat,(x j)∧(((0=0)∧(dJ 0=dJ (j:Int))∧True)∧g))∧∀ j:Nat,let z:=(decide ((j:Int) < c)); let n:=([dJ (nAt (ops s.ops) ((j:Int).toNat*12+1+1)),dJ (nAt (ops s.ops) ((j:Int).toNat*12+1+1+1)),dJ (nAt (ops s.ops) ((j:Int).toNat*12+1+1+1+1+1)),dJ (nAt (ops s.ops) ((j:Int).toNat*12+1+1+1+1+1+1))]); let A:=(!((ints n).all e)); let o:=([dJ (nAt (ops s.ops) ((j:Int).toNat*12)),dJ (nAt (ops s.ops) ((j:Int).toNat*12+1)),dJ (nAt (ops s.ops) ((j:Int).toNat*12+1+1+1+1)),dJ (nAt (ops s.ops) ((j:Int).toNat*12+1+1+1+1+1+1+1+1)),dJ (nAt (ops s.ops) ((j:Int).toNat*12+1+1+1+1+1+1+1+1+1))]); let B:=(!((ints o).all q)); (x j)→tU5 ((z=true→tU3 ((0≤(j:Int)∧(j:Int) < c∧(j:Int).toNat*12 < (ops s.ops).length)∧(oqQr (ops s.ops) ((j:Int).toNat*12))∧tU5 (tU8 ((Ans prog 88 [rJ 1,RV.d (dQ false),RV.d (dS 5 o)] (RV.d (dQ ((ints o).all q))))∧tU2 ((B=false→True∧tU8 ((Ans prog 88 [rJ 4,RV.d (dQ true),RV.d (dS 4 n)] (RV.d (dQ ((ints n).all e))))∧tU2 ((A=true→True∧RV.d (dQ false)=RV.d b)∧(A=false→tU3 (∃ j':Nat,(j'≤s.ops.length∧(s.ops.take j').all opOk=true)∧(s.ops.length - j' < s.ops.length - j)∧(((0=0)∧(dJ (wK ((j:Int)+1))=dJ (j':Int))∧True)∧g))))))∧(B=(!false)→tU2 a))))))∧(z=false→True∧(Ans prog 89 [RV.agg m] (rJ (lenR ((sE s):Scr))))∧tU2 (RV.d (dQ (decide ((lenR ((sE s):Scr))≥0)))=RV.d b))))))))))∧((decide (d > 64))=(!false)→tU2 a)))∧(u=(!false)→tU4 a))))∧(r=(!false)→tU6 a)))∧(t=(!false)→tU8 a))))∧(v=(!false)→tU2 (tU8 a)))))∧(p=(!false)→tU4 (tU8 a)))))) ?_
  delta sE dJ dQ wK dS rJ
  simp only [sS,imQ,imQr,oqQr]
  have a1:=zV7 s.bits 1 false (.inl ⟨rfl,rfl⟩)
  have a2:=zYx 4 true [s.c.a,s.c.b,s.c.c,s.c.d] (.inr rfl)
  have a3:=zYx 4 false [s.tw,s.th] (.inr rfl)
  have a4:=zYx 4 false s.ord (.inr rfl)
  have es:∀ l:List Int,l.all (fitR 4 true)=fitL (-2147483648) 2147483647 l:=fun l=>by unfold fitL; congr; funext v; exact jXb v
  have eu:∀ l:List Int,l.all (fitR 4 false)=fitL 0 4294967295 l:=fun l=>by unfold fitL; congr; funext v; exact jQn v
  have e1:∀ l:List Int,l.all (fitR 1 false)=fitL 0 255 l:=fun l=>by unfold fitL; congr; funext v; exact jXc v
  have eb:fitR 1 false s.bits=fitL 0 255 [s.bits]:=by rw [← e1]; simp
  have hil:s.ims.length≤9223372036854775807∧s.ops.length≤9223372036854775807:=by
   simp only [RV.wfs,RV.wf,DV.wf,DV.wfs,maxLen] at hwf
   omega
  clear hwf
  have fal:zYl s=false→false=zZX s:=fun h=>by simp [zZX,h]
  simp only [zQO,es,eu,eb] at a1 a2 a3 a4 ⊢
  refine ⟨a1,fun h1=>⟨a2,fun h2=>⟨a3,fun h3=>⟨fun h0=>⟨a4,fun h4=>⟨fun h5=>⟨fun h6=>?_,fun h6=>?_⟩,fun h5=>?_⟩,fun h4=>?_⟩,fun h0=>?_⟩,fun h3=>?_⟩,fun h2=>?_⟩,fun h1=>?_⟩
  ·exact fal (by simp [zYl]; omega)
  ·have g1:fitL 0 255 [s.bits]=true:=h1
   have g2:fitL (-2147483648) 2147483647 [s.c.a,s.c.b,s.c.c,s.c.d]=true:=h2
   have g3:fitL 0 4294967295 [s.tw,s.th]=true:=h3
   have hd:zYl s=true:=by simp only [zYl,g1,g2,g3,h4,Bool.and_true,Bool.true_and,Bool.and_eq_true,decide_eq_true_eq]; omega
   refine ⟨⟨0,⟨Nat.zero_le _,by simp⟩,rfl⟩,fun k hk=>⟨fun hlt=>?_,fun hge=>?_⟩⟩
   ·obtain ⟨k1,k2⟩:=hk
    have hk:k < s.ims.length:=by omega
    have q1:=zVZ hk
    have q2:=zV0 hk
    have w1:IntKind.wrap .i64 ((k:Int)+1)=((k+1:Nat):Int):=by rw [IntWalk.i64_in _ ⟨by omega,by omega⟩]; omega
    have wf:=zHz s.ims[k]
    simp only [q2,w1]
    refine ⟨⟨by omega,by omega,by rw [zZC]; omega⟩,q1,wf,fun h7=>?_,fun h7=>?_⟩
    ·have h7:s.ims[k].formed=false:=h7
     simp [zZX,all_false' hk h7]
    ·have h7:s.ims[k].formed=true:=h7
     exact ⟨k+1,⟨by omega,by rw [all_take' hk,k2,h7]; rfl⟩,by omega,rfl⟩
   ·obtain ⟨k1,k2⟩:=hk
    have:k=s.ims.length:=by omega
    subst this
    rw [List.take_length] at k2
    refine ⟨⟨0,⟨Nat.zero_le _,by simp⟩,rfl⟩,fun j hj=>⟨fun hlt=>?_,fun hge=>?_⟩⟩
    ·obtain ⟨j1,j2⟩:=hj
     have hj:j < s.ops.length:=by omega
     have q1:=zKu hj
     have q2:=zKv hj
     have w1:IntKind.wrap .i64 ((j:Int)+1)=((j+1:Nat):Int):=by rw [IntWalk.i64_in _ ⟨by omega,by omega⟩]; omega
     have b1:=zYx 1 false [s.ops[j].kind,s.ops[j].image,s.ops[j].mask,s.ops[j].oper,s.ops[j].mode] (.inl ⟨rfl,rfl⟩)
     have b2:=zYx 4 true [s.ops[j].x,s.ops[j].y,s.ops[j].mx,s.ops[j].my] (.inr rfl)
     simp only [q2,w1,e1] at b1 b2 ⊢
     simp only [es] at b2 ⊢
     have bad:opOk s.ops[j]=false→false=zZX s:=fun h=>by simp [zZX,all_false' hj h]
     refine ⟨⟨by omega,by omega,by rw [zQ6]; omega⟩,q1,b1,fun h7=>⟨b2,fun h8=>bad ?_,fun h8=>⟨j+1,⟨by omega,?_⟩,by omega,rfl⟩⟩,fun h7=>bad ?_⟩
     ·have h8:fitL (-2147483648) 2147483647 [s.ops[j].x,s.ops[j].y,s.ops[j].mx,s.ops[j].my]=false:=h8
      simp [opOk,h8]
     ·have h7:fitL 0 255 [s.ops[j].kind,s.ops[j].image,s.ops[j].mask,s.ops[j].oper,s.ops[j].mode]=true:=h7
      have h8:fitL (-2147483648) 2147483647 [s.ops[j].x,s.ops[j].y,s.ops[j].mx,s.ops[j].my]=true:=h8
      rw [all_take' hj,j2]
      simp [opOk,h7,h8]
     ·have h7:fitL 0 255 [s.ops[j].kind,s.ops[j].image,s.ops[j].mask,s.ops[j].oper,s.ops[j].mode]=false:=h7
      simp [opOk,h7]
    ·obtain ⟨j1,j2⟩:=hj
     have:j=s.ops.length:=by omega
     subst this
     rw [List.take_length] at j2
     have ln:=zUR s k2 (by omega) (by omega)
     simp only [zQ2,zQU]
     refine ⟨ln,?_⟩
     have hmo:min (s.ord.length:Int) 67108864=s.ord.length:=by omega
     have hzl:=zXT k2
     have hsz:zXD s s.ims=zXC s s.ims:=by unfold zXD zXC; rw [hmo]
     have hpos:0≤zXC s s.ims:=by unfold zXC; omega
     have e1:zZX s=decide (zXC s s.ims≤67108864):=by simp only [zZX,hd,k2,j2,Bool.true_and]
     rw [e1]
     unfold lenR
     rw [hsz]
     by_cases hb:zXC s s.ims≤67108864
     ·rw [if_pos hb,decide_eq_true hb]
      exact decide_eq_true hpos
     ·rw [if_neg hb,decide_eq_false hb]
      rfl
  ·exact fal (by simp [zYl]; omega)
  ·exact fal (by simp [zYl,h4])
  ·have:zZX s=false:=by
    cases hc:s.ims.all Im.formed with
    | false=>simp [zZX,hc]
    | true=>
     have:=zXT hc
     have hn:¬ zXC s s.ims≤67108864:=by unfold zXC; omega
     simp [zZX,hn]
   exact this.symm
  ·have h3:fitL 0 4294967295 [s.tw,s.th]=false:=h3
   exact fal (by simp [zYl,h3])
  ·have h2:fitL (-2147483648) 2147483647 [s.c.a,s.c.b,s.c.c,s.c.d]=false:=h2
   exact fal (by simp [zYl,h2])
  ·have h1:fitL 0 255 [s.bits]=false:=h1
   exact fal (by simp [zYl,h1])
end
def Cl.thaw (bx:Nat→Bx):Cl→Option DV
 | .d v=>some v
 | .nil=>some (.sl 0 [])
 | .ref b n=>match zXg (bx b) with
  | some xs=>some (.sl n xs)
  | none=>none
 | _=>none
def jX2 (bx:Nat→Bx):List Cl→Option (List DV)
 | []=>some []
 | c::cs=>match c.thaw bx,jX2 bx cs with
  | some d,some ds=>some (d::ds)
  | _,_=>none
mutual
def AV.thaw (bx:Nat→Bx):AV→Option RV
 | .one c=>match c.thaw bx with
  | some d=>some (.d d)
  | none=>none
 | .agg cs=>match jX2 bx cs with
  | some ds=>some (.agg ds)
  | none=>none
 | .tup vs=>match AV.thawL bx vs with
  | some rs=>some (.tup rs)
  | none=>none
def AV.thawL (bx:Nat→Bx):List AV→Option (List RV)
 | []=>some []
 | x::xs=>match x.thaw bx,AV.thawL bx xs with
  | some r,some rs=>some (r::rs)
  | _,_=>none
end
section
variable {w:World} {V V':Nat→Prop} {ι:zQC} {bx:Nat→Bx}
theorem jX3 (hk:∀ g,V g→V' g) (hb:∀ b,zXp w V ι bx b (bx b)) (ho:∀ b g c,(bx b).live=true→ι b=some (g,c)→V' g) {c:Cl} {d:DV} {v:Value} (h:c.thaw bx=some d) (hr:zQJ w V ι bx c v):RepD w V' d v:=by
 have hkk:zZH w V w V':=fun g off u hV hu=>⟨hk g hV,hu⟩
 cases c with
 | d x=>
  simp only [Cl.thaw,Option.some.injEq] at h
  subst h
  exact RepD.keep hkk hr
 | nil=>
  simp only [Cl.thaw,Option.some.injEq] at h
  subst h
  simp only [zQJ] at hr
  simp only [RepD]
  exact ⟨none,0,hr,Nat.le_refl _,Nat.zero_le _,fun hne=>absurd rfl hne⟩
 | ref b n=>
  simp only [Cl.thaw] at h
  split at h
  ·rename_i xs hin
   simp only [Option.some.injEq] at h
   subst h
   simp only [zQJ] at hr
   have hbb:=hb b
   cases hB:bx b with
   | row e size ys=>
    rw [hB] at hin hbb
    simp only [zXg,Option.some.injEq] at hin
    subst hin
    obtain ⟨_,⟨h1,h2,h3⟩ | ⟨g,cap,h1,h2,h3⟩⟩:=hr
    ·rcases hbb with ⟨h4,h5⟩ | ⟨g,cap,cur,h4,_⟩
     ·subst h5 h2
      simp only [RepD]
      exact ⟨none,0,h3,Nat.le_refl _,Nat.zero_le _,fun hne=>absurd rfl hne⟩
     ·rw [h1] at h4; cases h4
    ·rcases hbb with ⟨h4,h5⟩ | ⟨g',cap',cur,h4,h5,h6,h7,h8⟩
     ·rw [h1] at h4; cases h4
     ·rw [h1] at h4
      injection h4 with h4
      injection h4 with h4 h4'
      subst h4 h4'
      simp only [RepD]
      exact ⟨_,cap,h2,h3,h6,fun hne=>⟨g,0,rfl,ho b g cap (by rw [hB]; rfl) h1,RepCells.of_row h5 (h8.keep hkk)⟩⟩
   | ice ys=>
    rw [hB] at hin hbb
    simp only [zXg,Option.some.injEq] at hin
    subst hin
    obtain ⟨_,⟨h1,h2,h3⟩ | ⟨g,cap,h1,h2,h3⟩⟩:=hr
    ·rcases hbb with ⟨h4,h5⟩ | ⟨g,cap,h4,_⟩
     ·subst h5 h2
      simp only [RepD]
      exact ⟨none,0,h3,Nat.le_refl _,Nat.zero_le _,fun hne=>absurd rfl hne⟩
     ·rw [h1] at h4; cases h4
    ·rcases hbb with ⟨h4,h5⟩ | ⟨g',cap',h4,h5,h6⟩
     ·rw [h1] at h4; cases h4
     ·rw [h1] at h4
      injection h4 with h4
      injection h4 with h4 h4'
      subst h4 h4'
      simp only [RepD]
      refine ⟨_,cap,h2,h3,h6,fun hne=>⟨g,0,rfl,?_⟩⟩
      have h9:=Lies.keep hkk h5
      exact h9 hne
   | fresh=>rw [hB] at hin; cases hin
   | gone=>rw [hB] at hin; cases hin
   | cells cs=>rw [hB] at hin; cases hin
  ·cases h
 | lit u=>cases h
 | ptr b off=>cases h
 | vp cs off=>cases h
 | clo f cs=>cases h
 | dead=>cases h
theorem jZt (hk:∀ g,V g→V' g) (hb:∀ b,zXp w V ι bx b (bx b)) (ho:∀ b g c,(bx b).live=true→ι b=some (g,c)→V' g):∀ {cs:List Cl} {ds:List DV} {vs:List Value},jX2 bx cs=some ds→zQ1 w V ι bx cs vs→zZk w V' ds vs
 | [],ds,vs,h,hr=>by
  simp only [jX2,Option.some.injEq] at h
  subst h
  cases vs with
  | nil=>trivial
  | cons _ _=>exact hr.elim
 | c::cs,ds,vs,h,hr=>by
  simp only [jX2] at h
  split at h
  ·rename_i d ds' h1 h2
   simp only [Option.some.injEq] at h
   subst h
   cases vs with
   | nil=>exact hr.elim
   | cons v vs=>exact ⟨jX3 hk hb ho h1 hr.1,jZt hk hb ho h2 hr.2⟩
  ·cases h
mutual
theorem jX4 (hk:∀ g,V g→V' g) (hb:∀ b,zXp w V ι bx b (bx b)) (ho:∀ b g c,(bx b).live=true→ι b=some (g,c)→V' g):∀ {x:AV} {r:RV} {v:Value},x.thaw bx=some r→zQv w V ι bx x v→RepR w V' r v
 | .one c,r,v,h,hr=>by
  simp only [AV.thaw] at h
  split at h
  ·rename_i d h1
   simp only [Option.some.injEq] at h
   subst h
   simp only [zQv] at hr
   simp only [RepR]
   exact jX3 hk hb ho h1 hr
  ·cases h
 | .agg cs,r,v,h,hr=>by
  simp only [AV.thaw] at h
  split at h
  ·rename_i d h1
   simp only [Option.some.injEq] at h
   subst h
   simp only [zQv] at hr
   obtain ⟨cur,e,hr⟩:=hr
   simp only [RepR]
   exact ⟨cur,e,jZt hk hb ho h1 hr⟩
  ·cases h
 | .tup vs,r,v,h,hr=>by
  simp only [AV.thaw] at h
  split at h
  ·rename_i d h1
   simp only [Option.some.injEq] at h
   subst h
   simp only [zQv] at hr
   obtain ⟨cur,e,hr⟩:=hr
   simp only [RepR]
   exact ⟨cur,e,thaw_avs hk hb ho h1 hr⟩
  ·cases h
theorem thaw_avs (hk:∀ g,V g→V' g) (hb:∀ b,zXp w V ι bx b (bx b)) (ho:∀ b g c,(bx b).live=true→ι b=some (g,c)→V' g):∀ {xs:List AV} {rs:List RV} {vs:List Value},AV.thawL bx xs=some rs→RepAVs w V ι bx xs vs→RepRs w V' rs vs
 | [],rs,vs,h,hr=>by
  simp only [AV.thawL,Option.some.injEq] at h
  subst h
  cases vs with
  | nil=>simp only [RepRs]
  | cons _ _=>simp only [RepAVs] at hr
 | x::xs,rs,vs,h,hr=>by
  simp only [AV.thawL] at h
  split at h
  ·rename_i d ds' h1 h2
   simp only [Option.some.injEq] at h
   subst h
   cases vs with
   | nil=>simp only [RepAVs] at hr
   | cons v vs=>
    simp only [RepAVs] at hr
    simp only [RepRs]
    exact ⟨jX4 hk hb ho h1 hr.1,thaw_avs hk hb ho h2 hr.2⟩
  ·cases h
end
end
theorem AnsG.ans {P:Program} {f:FuncId} {args:List AV} {rs:List RV} {r:Ret} {res:RV} (h:AnsG P f 0 args [] r) (ha:args=RV.avs rs) (hr:r.res.thaw (zQP r.outs)=some res):Ans P f rs res:=by
 subst ha
 intro w S vs hg hrep
 have hno:∀ b,(zQP ([]:List Bx) b)=.fresh:=fun b=>by simp [zQP]
 have hnone:∀ g,¬ OwnB (zQP ([]:List Bx)) (fun _=>none) g:=fun g ⟨b,c,hl,e⟩=>by rw [hno] at hl; cases hl
 have hh:zJ0 w S (fun _=>none) (RV.avs rs) [] vs.toList:=by
  refine ⟨fun b g c hl e=>?_,fun b b' g c c' hl hl' hne e=>?_,fun b=>?_,rep_avs hrep⟩
  ·rw [hno] at hl; cases hl
  ·rw [hno] at hl; cases hl
  ·rw [hno]; trivial
 refine (h w S _ vs hg hh).mono fun ed w' hp=>?_
 obtain ⟨v,ι',rfl,ha⟩:=hp
 refine ⟨v,rfl,jX4 (fun g hV=>?_) ha.bx (fun b g c hl e=>?_) hr ha.rep,ha.bel.below hnone⟩
 ·rcases hV.1 with ⟨_,h⟩ | h | h
  ·exact .inl h
  ·exact .inr h
  ·exact absurd h (hnone g)
 ·rcases (ha.own b g c hl e).1 with h | h
  ·exact .inr h
  ·exact absurd h (hnone g)
set_option maxHeartbeats 4000000
section
attribute [local irreducible] Ans AnsO AnsG AnsN AnsI
open Go.Lib
structure RP where
  s:Scr
  hd:Int
  part:Int
  left:Int
  w:Int
  h:Int
  px:List Px
def iAt (l:List Int) (k:Nat):Int:=(l[k]?).getD 0
def s32 (ws:List Lb):List Int × Bool:=zZB ws (-2147483648) 2147483647
def u32 (ws:List Lb):List Int × Bool:=zZB ws 0 4294967295
def nz (ws:List Lb):List Int × Bool:=zZB ((ws.drop 1).take 2) 1 16777216
def zYc:Lb:=[98,105,116,115]
def zZE:Lb:=[99,97,110,118,97,115]
def zXa:Lb:=[116,105,108,101,115]
def zZy:Lb:=[111,114,100,101,114]
def zQY:Lb:=[115,111,108,105,100]
def zQ0:Lb:=[105,109,97,103,101]
def zQE (p:RP) (ws:List Lb):RP × Bool:=
 if p.hd=1 then (if ws.length=2∧wAt ws 0=zYc then ({ p with s:={ p.s with bits:=(numR (wAt ws 1) 0 255).1 } },(numR (wAt ws 1) 0 255).2) else (p,false))
 else if p.hd=2 then (if (s32 (ws.drop 1)).2=true∧(s32 (ws.drop 1)).1.length=4∧wAt ws 0=zZE then ({ p with s:={ p.s with c:=⟨iAt (s32 (ws.drop 1)).1 0,iAt (s32 (ws.drop 1)).1 1,iAt (s32 (ws.drop 1)).1 2,iAt (s32 (ws.drop 1)).1 3⟩ } },true) else (p,false))
 else (if (u32 (ws.drop 1)).2=true∧(u32 (ws.drop 1)).1.length=2∧wAt ws 0=zXa then ({ p with s:={ p.s with tw:=iAt (u32 (ws.drop 1)).1 0,th:=iAt (u32 (ws.drop 1)).1 1 } },true) else (p,false))
def zQM (p:RP) (ws:List Lb):RP × Bool:=
 if 1 < p.part∨64≤p.s.ims.length∨ws.length < 3 then ({ p with part:=1 },false)
 else if (nz ws).2=false∨16777216 / iAt (nz ws).1 0 < iAt (nz ws).1 1 then ({ p with part:=1 },false)
 else if wAt ws 0=zQY then ({ p with part:=1,s:={ p.s with ims:=p.s.ims++[zQg (iAt (nz ws).1 0) (iAt (nz ws).1 1) (pixW (ws.drop 3)).1] } },(pixW (ws.drop 3)).2)
 else ({ p with part:=1,w:=iAt (nz ws).1 0,h:=iAt (nz ws).1 1,left:=iAt (nz ws).1 0*iAt (nz ws).1 1 },decide (ws.length=3))
def zQX (p:RP) (t:Lb):RP × Bool:=
 if 0 < p.left then
  (if p.left=1 then ({ p with left:=0,s:={ p.s with ims:=p.s.ims++[imOf p.w p.h (p.px++[(pixW (zQo t)).1])] },px:=[] },(pixW (zQo t)).2)
   else ({ p with left:=p.left - 1,px:=p.px++[(pixW (zQo t)).1] },(pixW (zQo t)).2))
 else if p.hd < 3 then zQE { p with hd:=p.hd+1 } (zQo t)
 else if wAt (zQo t) 0=zZy then ({ p with part:=1,s:={ p.s with ord:=(u32 ((zQo t).drop 1)).1 } },(u32 ((zQo t).drop 1)).2 && decide (0 < (u32 ((zQo t).drop 1)).1.length) && decide (p.part=0))
 else if wAt (zQo t) 0=zQY∨wAt (zQo t) 0=zQ0 then zQM p (zQo t)
 else ({ p with part:=2,s:={ p.s with ops:=p.s.ops++[(opR (zQo t)).1] } },(opR (zQo t)).2 && decide (p.s.ops.length < 4096))
theorem R13_ImageOf_dat' (w h:Int) (l:List Px):Ans prog 48 [RV.d (DV.int .i64 w),RV.d (DV.int .i64 h),RV.d (DV.sl l.length (pxs l))] (RV.tup [imR (imOf w h l),RV.d (DV.bool (ofOk w h l.length))]):=by
 have:=zYQ w h l.length (pxs l) (zJP l)
 rw [zQS] at this
 exact this.ans rfl rfl
theorem R18_Number_ans' (w:Lb) (lo hi:Int):Ans prog 118 [RV.d (DV.str (toS w)),RV.d (DV.int .i64 lo),RV.d (DV.int .i64 hi)] (RV.tup [RV.d (DV.int .i64 (numR w lo hi).1),RV.d (DV.bool (numR w lo hi).2)]):=by
 have h:=zX4 w lo hi
 simpa only [zQN] using h
theorem zGH {ws r:List Lb} (i n:Nat) (h:r=ws.drop i) (hn:n=r.length):List.take (n*1) (List.drop (i*1) (strs ws))=strs r:=by
 subst h hn
 unfold strs
 rw [Nat.mul_one,Nat.mul_one,← List.map_drop,List.take_of_length_le (by simp)]
def jVB:Gam where
 pure:=fun f xs=>
  if f=118 then gZ5 xs else
  if f=117 then gZ6 xs else
  if f=119 then gZ7 xs else
  if f=84 then (match xs with | [.d (.sl wn wxs)]=>let a:=(zZB (zQb wxs) 0 4294967295); some (RV.tup [RV.d (dS a.1.length (is a.1)),RV.d (dQ a.2)]) | _=>none) else
  if f=82 then (match xs with | [.d (.sl wn wxs)]=>let a:=(pixW (zQb wxs)); some (RV.tup [RV.agg [dK a.1.a,dK a.1.b,dK a.1.c,dK a.1.al,dK a.1.f],RV.d (dQ a.2)]) | _=>none) else
  if f=86 then (match xs with | [.d (.sl wn wxs)]=>let a:=(opR (zQb wxs)); some (RV.tup [RV.agg [dJ a.1.kind,dJ a.1.image,dJ a.1.x,dJ a.1.y,dJ a.1.mask,dJ a.1.mx,dJ a.1.my,dK a.1.opac,dJ a.1.oper,dJ a.1.mode,dQ a.1.iso,dQ a.1.kno],RV.d (dQ a.2)]) | _=>none) else
  if f=81 then (match xs with | [.d (.str s)]=>some (RV.d (dS (zQo (ofS s)).length (strs (zQo (ofS s))))) | _=>none) else
  if f=22 then (match xs with | [.d (.int _ w),.d (.int _ h),.agg [.int _ c0,.int _ c1,.int _ c2,.int _ ca,.int _ cf]]=>some (RV.agg [dJ (zQg w h ⟨c0,c1,c2,ca,cf⟩).w,dJ (zQg w h ⟨c0,c1,c2,ca,cf⟩).h,dQ (zQg w h ⟨c0,c1,c2,ca,cf⟩).so,dK (zQg w h ⟨c0,c1,c2,ca,cf⟩).c.a,dK (zQg w h ⟨c0,c1,c2,ca,cf⟩).c.b,dK (zQg w h ⟨c0,c1,c2,ca,cf⟩).c.c,dK (zQg w h ⟨c0,c1,c2,ca,cf⟩).c.al,dK (zQg w h ⟨c0,c1,c2,ca,cf⟩).c.f,dJ (zQg w h ⟨c0,c1,c2,ca,cf⟩).p0.w,dJ (zQg w h ⟨c0,c1,c2,ca,cf⟩).p0.h,dJ (zQg w h ⟨c0,c1,c2,ca,cf⟩).p0.s,dS (zQg w h ⟨c0,c1,c2,ca,cf⟩).p0.n (zQg w h ⟨c0,c1,c2,ca,cf⟩).p0.xs,dJ (zQg w h ⟨c0,c1,c2,ca,cf⟩).p1.w,dJ (zQg w h ⟨c0,c1,c2,ca,cf⟩).p1.h,dJ (zQg w h ⟨c0,c1,c2,ca,cf⟩).p1.s,dS (zQg w h ⟨c0,c1,c2,ca,cf⟩).p1.n (zQg w h ⟨c0,c1,c2,ca,cf⟩).p1.xs,dJ (zQg w h ⟨c0,c1,c2,ca,cf⟩).p2.w,dJ (zQg w h ⟨c0,c1,c2,ca,cf⟩).p2.h,dJ (zQg w h ⟨c0,c1,c2,ca,cf⟩).p2.s,dS (zQg w h ⟨c0,c1,c2,ca,cf⟩).p2.n (zQg w h ⟨c0,c1,c2,ca,cf⟩).p2.xs,dJ (zQg w h ⟨c0,c1,c2,ca,cf⟩).p3.w,dJ (zQg w h ⟨c0,c1,c2,ca,cf⟩).p3.h,dJ (zQg w h ⟨c0,c1,c2,ca,cf⟩).p3.s,dS (zQg w h ⟨c0,c1,c2,ca,cf⟩).p3.n (zQg w h ⟨c0,c1,c2,ca,cf⟩).p3.xs,dJ (zQg w h ⟨c0,c1,c2,ca,cf⟩).p4.w,dJ (zQg w h ⟨c0,c1,c2,ca,cf⟩).p4.h,dJ (zQg w h ⟨c0,c1,c2,ca,cf⟩).p4.s,dS (zQg w h ⟨c0,c1,c2,ca,cf⟩).p4.n (zQg w h ⟨c0,c1,c2,ca,cf⟩).p4.xs]) | _=>none) else
  if f=48 then (match xs with | [.d (.int _ w),.d (.int _ h),.d (.sl n xs)]=>let a:=(imOf w h (zQc xs)); some (RV.tup [RV.agg [dJ a.w,dJ a.h,dQ a.so,dK a.c.a,dK a.c.b,dK a.c.c,dK a.c.al,dK a.c.f,dJ a.p0.w,dJ a.p0.h,dJ a.p0.s,dS a.p0.n a.p0.xs,dJ a.p1.w,dJ a.p1.h,dJ a.p1.s,dS a.p1.n a.p1.xs,dJ a.p2.w,dJ a.p2.h,dJ a.p2.s,dS a.p2.n a.p2.xs,dJ a.p3.w,dJ a.p3.h,dJ a.p3.s,dS a.p3.n a.p3.xs,dJ a.p4.w,dJ a.p4.h,dJ a.p4.s,dS a.p4.n a.p4.xs],RV.d (dQ (ofOk w h n))]) | _=>none) else
  none
 modes:=fun f=>
  if f=83 then some ([false,true],1,3) else
  if f=85 then some ([false,true],1,3) else
  none
 proc:=fun f xs bs=>
  if f=83 then (match xs,bs with | [AV.one (Cl.ptr 0 0),AV.one (Cl.d (DV.sl wn wxs))],[Bx.cells [Cl.d (DV.int _ bits),Cl.d (DV.int _ cx0),Cl.d (DV.int _ cy0),Cl.d (DV.int _ cx1),Cl.d (DV.int _ cy1),Cl.d (DV.int _ tw),Cl.d (DV.int _ th),Cl.d (DV.sl on axs),Cl.ref 1 mn,Cl.ref 2 qn,Cl.d (DV.int _ hd),Cl.d (DV.int _ part),Cl.d (DV.int _ left),Cl.d (DV.int _ w),Cl.d (DV.int _ h),Cl.ref 3 ln],Bx.row _ _ mxs,Bx.row _ _ qxs,Bx.row _ _ lxs]=>some ⟨AV.one (Cl.d (dQ (zQE (⟨⟨bits,⟨cx0,cy0,cx1,cy1⟩,tw,th,ints axs,zQR mxs,zQK qxs⟩,hd,part,left,w,h,zQc lxs⟩:RP) (zQb wxs)).2)),[bC [cJ (zQE (⟨⟨bits,⟨cx0,cy0,cx1,cy1⟩,tw,th,ints axs,zQR mxs,zQK qxs⟩,hd,part,left,w,h,zQc lxs⟩:RP) (zQb wxs)).1.s.bits,cJ (zQE (⟨⟨bits,⟨cx0,cy0,cx1,cy1⟩,tw,th,ints axs,zQR mxs,zQK qxs⟩,hd,part,left,w,h,zQc lxs⟩:RP) (zQb wxs)).1.s.c.a,cJ (zQE (⟨⟨bits,⟨cx0,cy0,cx1,cy1⟩,tw,th,ints axs,zQR mxs,zQK qxs⟩,hd,part,left,w,h,zQc lxs⟩:RP) (zQb wxs)).1.s.c.b,cJ (zQE (⟨⟨bits,⟨cx0,cy0,cx1,cy1⟩,tw,th,ints axs,zQR mxs,zQK qxs⟩,hd,part,left,w,h,zQc lxs⟩:RP) (zQb wxs)).1.s.c.c,cJ (zQE (⟨⟨bits,⟨cx0,cy0,cx1,cy1⟩,tw,th,ints axs,zQR mxs,zQK qxs⟩,hd,part,left,w,h,zQc lxs⟩:RP) (zQb wxs)).1.s.c.d,cJ (zQE (⟨⟨bits,⟨cx0,cy0,cx1,cy1⟩,tw,th,ints axs,zQR mxs,zQK qxs⟩,hd,part,left,w,h,zQc lxs⟩:RP) (zQb wxs)).1.s.tw,cJ (zQE (⟨⟨bits,⟨cx0,cy0,cx1,cy1⟩,tw,th,ints axs,zQR mxs,zQK qxs⟩,hd,part,left,w,h,zQc lxs⟩:RP) (zQb wxs)).1.s.th,Cl.d (dS (zQE (⟨⟨bits,⟨cx0,cy0,cx1,cy1⟩,tw,th,ints axs,zQR mxs,zQK qxs⟩,hd,part,left,w,h,zQc lxs⟩:RP) (zQb wxs)).1.s.ord.length (is (zQE (⟨⟨bits,⟨cx0,cy0,cx1,cy1⟩,tw,th,ints axs,zQR mxs,zQK qxs⟩,hd,part,left,w,h,zQc lxs⟩:RP) (zQb wxs)).1.s.ord)),Cl.ref 1 (zQE (⟨⟨bits,⟨cx0,cy0,cx1,cy1⟩,tw,th,ints axs,zQR mxs,zQK qxs⟩,hd,part,left,w,h,zQc lxs⟩:RP) (zQb wxs)).1.s.ims.length,Cl.ref 2 (zQE (⟨⟨bits,⟨cx0,cy0,cx1,cy1⟩,tw,th,ints axs,zQR mxs,zQK qxs⟩,hd,part,left,w,h,zQc lxs⟩:RP) (zQb wxs)).1.s.ops.length,cJ (zQE (⟨⟨bits,⟨cx0,cy0,cx1,cy1⟩,tw,th,ints axs,zQR mxs,zQK qxs⟩,hd,part,left,w,h,zQc lxs⟩:RP) (zQb wxs)).1.hd,cJ (zQE (⟨⟨bits,⟨cx0,cy0,cx1,cy1⟩,tw,th,ints axs,zQR mxs,zQK qxs⟩,hd,part,left,w,h,zQc lxs⟩:RP) (zQb wxs)).1.part,cJ (zQE (⟨⟨bits,⟨cx0,cy0,cx1,cy1⟩,tw,th,ints axs,zQR mxs,zQK qxs⟩,hd,part,left,w,h,zQc lxs⟩:RP) (zQb wxs)).1.left,cJ (zQE (⟨⟨bits,⟨cx0,cy0,cx1,cy1⟩,tw,th,ints axs,zQR mxs,zQK qxs⟩,hd,part,left,w,h,zQc lxs⟩:RP) (zQb wxs)).1.w,cJ (zQE (⟨⟨bits,⟨cx0,cy0,cx1,cy1⟩,tw,th,ints axs,zQR mxs,zQK qxs⟩,hd,part,left,w,h,zQc lxs⟩:RP) (zQb wxs)).1.h,Cl.ref 3 (zQE (⟨⟨bits,⟨cx0,cy0,cx1,cy1⟩,tw,th,ints axs,zQR mxs,zQK qxs⟩,hd,part,left,w,h,zQc lxs⟩:RP) (zQb wxs)).1.px.length],Bx.row 43 28 (ims (zQE (⟨⟨bits,⟨cx0,cy0,cx1,cy1⟩,tw,th,ints axs,zQR mxs,zQK qxs⟩,hd,part,left,w,h,zQc lxs⟩:RP) (zQb wxs)).1.s.ims),Bx.row 51 12 (ops (zQE (⟨⟨bits,⟨cx0,cy0,cx1,cy1⟩,tw,th,ints axs,zQR mxs,zQK qxs⟩,hd,part,left,w,h,zQc lxs⟩:RP) (zQb wxs)).1.s.ops),Bx.row 37 5 (pxs (zQE (⟨⟨bits,⟨cx0,cy0,cx1,cy1⟩,tw,th,ints axs,zQR mxs,zQK qxs⟩,hd,part,left,w,h,zQc lxs⟩:RP) (zQb wxs)).1.px)],false⟩ | _,_=>none) else
  if f=85 then (match xs,bs with | [AV.one (Cl.ptr 0 0),AV.one (Cl.d (DV.sl wn wxs))],[Bx.cells [Cl.d (DV.int _ bits),Cl.d (DV.int _ cx0),Cl.d (DV.int _ cy0),Cl.d (DV.int _ cx1),Cl.d (DV.int _ cy1),Cl.d (DV.int _ tw),Cl.d (DV.int _ th),Cl.d (DV.sl on axs),Cl.ref 1 mn,Cl.ref 2 qn,Cl.d (DV.int _ hd),Cl.d (DV.int _ part),Cl.d (DV.int _ left),Cl.d (DV.int _ w),Cl.d (DV.int _ h),Cl.ref 3 ln],Bx.row _ _ mxs,Bx.row _ _ qxs,Bx.row _ _ lxs]=>some ⟨AV.one (Cl.d (dQ (zQM (⟨⟨bits,⟨cx0,cy0,cx1,cy1⟩,tw,th,ints axs,zQR mxs,zQK qxs⟩,hd,part,left,w,h,zQc lxs⟩:RP) (zQb wxs)).2)),[bC [cJ (zQM (⟨⟨bits,⟨cx0,cy0,cx1,cy1⟩,tw,th,ints axs,zQR mxs,zQK qxs⟩,hd,part,left,w,h,zQc lxs⟩:RP) (zQb wxs)).1.s.bits,cJ (zQM (⟨⟨bits,⟨cx0,cy0,cx1,cy1⟩,tw,th,ints axs,zQR mxs,zQK qxs⟩,hd,part,left,w,h,zQc lxs⟩:RP) (zQb wxs)).1.s.c.a,cJ (zQM (⟨⟨bits,⟨cx0,cy0,cx1,cy1⟩,tw,th,ints axs,zQR mxs,zQK qxs⟩,hd,part,left,w,h,zQc lxs⟩:RP) (zQb wxs)).1.s.c.b,cJ (zQM (⟨⟨bits,⟨cx0,cy0,cx1,cy1⟩,tw,th,ints axs,zQR mxs,zQK qxs⟩,hd,part,left,w,h,zQc lxs⟩:RP) (zQb wxs)).1.s.c.c,cJ (zQM (⟨⟨bits,⟨cx0,cy0,cx1,cy1⟩,tw,th,ints axs,zQR mxs,zQK qxs⟩,hd,part,left,w,h,zQc lxs⟩:RP) (zQb wxs)).1.s.c.d,cJ (zQM (⟨⟨bits,⟨cx0,cy0,cx1,cy1⟩,tw,th,ints axs,zQR mxs,zQK qxs⟩,hd,part,left,w,h,zQc lxs⟩:RP) (zQb wxs)).1.s.tw,cJ (zQM (⟨⟨bits,⟨cx0,cy0,cx1,cy1⟩,tw,th,ints axs,zQR mxs,zQK qxs⟩,hd,part,left,w,h,zQc lxs⟩:RP) (zQb wxs)).1.s.th,Cl.d (dS (zQM (⟨⟨bits,⟨cx0,cy0,cx1,cy1⟩,tw,th,ints axs,zQR mxs,zQK qxs⟩,hd,part,left,w,h,zQc lxs⟩:RP) (zQb wxs)).1.s.ord.length (is (zQM (⟨⟨bits,⟨cx0,cy0,cx1,cy1⟩,tw,th,ints axs,zQR mxs,zQK qxs⟩,hd,part,left,w,h,zQc lxs⟩:RP) (zQb wxs)).1.s.ord)),Cl.ref 1 (zQM (⟨⟨bits,⟨cx0,cy0,cx1,cy1⟩,tw,th,ints axs,zQR mxs,zQK qxs⟩,hd,part,left,w,h,zQc lxs⟩:RP) (zQb wxs)).1.s.ims.length,Cl.ref 2 (zQM (⟨⟨bits,⟨cx0,cy0,cx1,cy1⟩,tw,th,ints axs,zQR mxs,zQK qxs⟩,hd,part,left,w,h,zQc lxs⟩:RP) (zQb wxs)).1.s.ops.length,cJ (zQM (⟨⟨bits,⟨cx0,cy0,cx1,cy1⟩,tw,th,ints axs,zQR mxs,zQK qxs⟩,hd,part,left,w,h,zQc lxs⟩:RP) (zQb wxs)).1.hd,cJ (zQM (⟨⟨bits,⟨cx0,cy0,cx1,cy1⟩,tw,th,ints axs,zQR mxs,zQK qxs⟩,hd,part,left,w,h,zQc lxs⟩:RP) (zQb wxs)).1.part,cJ (zQM (⟨⟨bits,⟨cx0,cy0,cx1,cy1⟩,tw,th,ints axs,zQR mxs,zQK qxs⟩,hd,part,left,w,h,zQc lxs⟩:RP) (zQb wxs)).1.left,cJ (zQM (⟨⟨bits,⟨cx0,cy0,cx1,cy1⟩,tw,th,ints axs,zQR mxs,zQK qxs⟩,hd,part,left,w,h,zQc lxs⟩:RP) (zQb wxs)).1.w,cJ (zQM (⟨⟨bits,⟨cx0,cy0,cx1,cy1⟩,tw,th,ints axs,zQR mxs,zQK qxs⟩,hd,part,left,w,h,zQc lxs⟩:RP) (zQb wxs)).1.h,Cl.ref 3 (zQM (⟨⟨bits,⟨cx0,cy0,cx1,cy1⟩,tw,th,ints axs,zQR mxs,zQK qxs⟩,hd,part,left,w,h,zQc lxs⟩:RP) (zQb wxs)).1.px.length],Bx.row 43 28 (ims (zQM (⟨⟨bits,⟨cx0,cy0,cx1,cy1⟩,tw,th,ints axs,zQR mxs,zQK qxs⟩,hd,part,left,w,h,zQc lxs⟩:RP) (zQb wxs)).1.s.ims),Bx.row 51 12 (ops (zQM (⟨⟨bits,⟨cx0,cy0,cx1,cy1⟩,tw,th,ints axs,zQR mxs,zQK qxs⟩,hd,part,left,w,h,zQc lxs⟩:RP) (zQb wxs)).1.s.ops),Bx.row 37 5 (pxs (zQM (⟨⟨bits,⟨cx0,cy0,cx1,cy1⟩,tw,th,ints axs,zQR mxs,zQK qxs⟩,hd,part,left,w,h,zQc lxs⟩:RP) (zQb wxs)).1.px)],false⟩ | _,_=>none) else
  none
 iter:=fun f cs=>
  none
theorem zKV (p:RP) (ws:List Lb) (hl:ws.length≤68719476736) (h0:ws≠[]):AnsG prog 83 1 [aPz,AV.one (Cl.d (dS ws.length (strs ws)))] [bC [cJ (p.s.bits),cJ (p.s.c.a),cJ (p.s.c.b),cJ (p.s.c.c),cJ (p.s.c.d),cJ (p.s.tw),cJ (p.s.th),Cl.d (dS p.s.ord.length (is p.s.ord)),Cl.ref 1 p.s.ims.length,Cl.ref 2 p.s.ops.length,cJ (p.hd),cJ (p.part),cJ (p.left),cJ (p.w),cJ (p.h),Cl.ref 3 p.px.length],Bx.row 43 28 (ims p.s.ims),Bx.row 51 12 (ops p.s.ops),Bx.row 37 5 (pxs p.px)] ⟨AV.one (Cl.d (dQ ((zQE p (zQb (strs ws))).2))),[bC [cJ ((((zQE p (zQb (strs ws))).1).s.bits)),cJ ((((zQE p (zQb (strs ws))).1).s.c.a)),cJ ((((zQE p (zQb (strs ws))).1).s.c.b)),cJ ((((zQE p (zQb (strs ws))).1).s.c.c)),cJ ((((zQE p (zQb (strs ws))).1).s.c.d)),cJ ((((zQE p (zQb (strs ws))).1).s.tw)),cJ ((((zQE p (zQb (strs ws))).1).s.th)),Cl.d (dS (((zQE p (zQb (strs ws))).1).s.ord.length) (is ((zQE p (zQb (strs ws))).1).s.ord)),Cl.ref 1 (((zQE p (zQb (strs ws))).1).s.ims.length),Cl.ref 2 (((zQE p (zQb (strs ws))).1).s.ops.length),cJ ((((zQE p (zQb (strs ws))).1).hd)),cJ ((((zQE p (zQb (strs ws))).1).part)),cJ ((((zQE p (zQb (strs ws))).1).left)),cJ ((((zQE p (zQb (strs ws))).1).w)),cJ ((((zQE p (zQb (strs ws))).1).h)),Cl.ref 3 (((zQE p (zQb (strs ws))).1).px.length)],Bx.row 43 28 (ims ((zQE p (zQb (strs ws))).1).s.ims),Bx.row 51 12 (ops ((zQE p (zQb (strs ws))).1).s.ops),Bx.row 37 5 (pxs ((zQE p (zQb (strs ws))).1).px)],false⟩:=
 zQy (Γ:=jVB) Ann.leaf zQs Tryz.func83 rfl (nL rfl) rfl fun hwf hbx=>by
  refine Eq.mpr (by kernel_rfl:_=(let z:=(sAt (strs ws) 1); let h:=(sAt (strs ws) 0); let e:=(ws.length:Int); let J:=(List.take ((e - 1).toNat*1) (List.drop ((1:Int).toNat*1) (strs ws))); let a:=(zQE p (zQb (strs ws))); let K:=(zQb J); let i:=(zZB K 0 4294967295); let f:=(is i.1); let O:=(dS a.1.s.ord.length (is a.1.s.ord)); let b:=(zZB K (-2147483648) 2147483647); let j:=(b.1.length:Int); let P:=(dJ a.1.s.bits); let Q:=(dJ a.1.s.c.a); let R:=(dJ a.1.s.c.b); let S:=(dJ a.1.s.c.c); let T:=(dJ a.1.s.c.d); let U:=(dJ a.1.s.tw); let V:=(dJ a.1.s.th); let W:=(dJ a.1.part); let X:=(dJ a.1.left); let Y:=(dJ a.1.hd); let Z:=(dJ a.1.w); let z0:=(dJ a.1.h); let c:=(Cl.d (dQ a.2)); let z1:=a.1.s.ims.length; let z2:=a.1.s.ops.length; let z3:=a.1.px.length; let z4:=(ims a.1.s.ims); let z5:=(ops a.1.s.ops); let z6:=(pxs a.1.px); let d:=[bC [Cl.d P,Cl.d Q,Cl.d R,Cl.d S,Cl.d T,Cl.d U,Cl.d V,Cl.d O,Cl.ref 1 z1,Cl.ref 2 z2,Cl.d Y,Cl.d W,Cl.d X,Cl.d Z,Cl.d z0,Cl.ref 3 z3],Bx.row 43 28 z4,Bx.row 51 12 z5,Bx.row 37 5 z6]; let k:=(numR (ofS z) (0:Int) (255:Int)); let l:=((i.1.length:Nat):Int); let A:=(0≤(0:Int)∧(0:Int) < e∧0 < (strs ws).length); let B:=(((strs ws)[0]?=some (DV.str h))∧True); let C:=(dJ p.s.bits=dJ a.1.s.bits); let D:=(dJ p.s.c.a=dJ a.1.s.c.a); let E:=(dJ p.s.c.b=dJ a.1.s.c.b); let F:=(dJ p.s.c.c=dJ a.1.s.c.c); let G:=(dJ p.s.c.d=dJ a.1.s.c.d); let H:=(dJ p.s.tw=dJ a.1.s.tw); let I:=(dJ p.s.th=dJ a.1.s.th); let m:=(dS p.s.ord.length (is p.s.ord)=dS a.1.s.ord.length (is a.1.s.ord)); let n:=(p.s.ims.length=a.1.s.ims.length); let o:=(p.s.ops.length=a.1.s.ops.length); let q:=(dJ p.hd=dJ a.1.hd); let r:=(dJ p.part=dJ a.1.part); let s:=(dJ p.left=dJ a.1.left); let t:=(dJ p.w=dJ a.1.w); let u:=(dJ p.h=dJ a.1.h); let v:=(p.px.length=a.1.px.length); let w:=(ims p.s.ims=ims a.1.s.ims); let x:=(ops p.s.ops=ops a.1.s.ops); let y:=(pxs p.px=pxs a.1.px); let g:=(((dQ false=dQ a.2)∧True)∧((C∧D∧E∧F∧G∧H∧I∧m∧n∧o∧q∧r∧s∧t∧u∧v∧True)∧w∧x∧y∧True)); let L:=(0≤(1:Int)∧(1:Int)≤e∧e≤e); let M:=[RV.d (dS (e - 1).toNat J)]; let N:=((dQ true=dQ a.2)∧True); tU7 (((p.hd==1)=true→tU4 (((e != 2)=false→True∧A∧B∧tU2 (((!(h.toList==(⟨#[98,105,116,115]⟩:ByteArray).toList))=true→True∧g∧zQm ⟨AV.one c,d,false⟩)∧((!(h.toList==(⟨#[98,105,116,115]⟩:ByteArray).toList))=false→True∧(0≤(1:Int)∧(1:Int) < e∧1 < (strs ws).length)∧(((strs ws)[1]?=some (DV.str z))∧True)∧(Ans prog 118 [RV.d (DV.str z),rJ 0,rJ 255] (RV.tup [rJ k.1,RV.d (dQ k.2)]))∧tU5 (tU8 ((((dQ k.2=dQ a.2)∧True)∧(((dJ k.1=dJ a.1.s.bits)∧D∧E∧F∧G∧H∧I∧m∧n∧o∧q∧r∧s∧t∧u∧v∧True)∧w∧x∧y∧True))∧zQm ⟨AV.one c,d,false⟩)))))∧((e != 2)=(!false)→tU2 (g∧zQm ⟨AV.one c,d,false⟩))))∧((p.hd==1)=false→tU2 (((p.hd==2)=true→True∧L∧(Ans prog 119 M (RV.tup [RV.d (dS b.1.length (is b.1)),RV.d (dQ b.2)]))∧tU8 (((!b.2)=false→tU5 (((j != 4)=false→True∧A∧B∧tU2 (((!(h.toList==(⟨#[99,97,110,118,97,115]⟩:ByteArray).toList))=true→True∧g∧zQm ⟨AV.one c,d,false⟩)∧((!(h.toList==(⟨#[99,97,110,118,97,115]⟩:ByteArray).toList))=false→tU2 ((0≤(0:Int)∧(0:Int) < j∧0 < (is b.1).length)∧(((is b.1)[0]?=some (dJ (nAt (is b.1) 0)))∧True)∧True∧(0≤(1:Int)∧(1:Int) < j∧1 < (is b.1).length)∧(((is b.1)[1]?=some (dJ (nAt (is b.1) 1)))∧True)∧True∧(0≤(2:Int)∧(2:Int) < j∧2 < (is b.1).length)∧(((is b.1)[2]?=some (dJ (nAt (is b.1) 2)))∧True)∧True∧(0≤(3:Int)∧(3:Int) < j∧3 < (is b.1).length)∧(((is b.1)[3]?=some (dJ (nAt (is b.1) 3)))∧True)∧tU5 ((true=true)∧True∧(N∧((C∧(dJ (nAt (is b.1) 0)=dJ a.1.s.c.a)∧(dJ (nAt (is b.1) 1)=dJ a.1.s.c.b)∧(dJ (nAt (is b.1) 2)=dJ a.1.s.c.c)∧(dJ (nAt (is b.1) 3)=dJ a.1.s.c.d)∧H∧I∧m∧n∧o∧q∧r∧s∧t∧u∧v∧True)∧w∧x∧y∧True))∧zQm ⟨AV.one c,d,false⟩)))))∧((j != 4)=(!false)→tU2 (g∧zQm ⟨AV.one c,d,false⟩))))∧((!b.2)=(!false)→tU4 (g∧zQm ⟨AV.one c,d,false⟩))))∧((p.hd==2)=false→True∧L∧(Ans prog 84 M (RV.tup [RV.d (dS i.1.length f),RV.d (dQ i.2)]))∧tU8 (((!i.2)=false→tU5 (((l != 2)=false→True∧A∧B∧tU2 (((!(h.toList==(⟨#[116,105,108,101,115]⟩:ByteArray).toList))=true→True∧g∧zQm ⟨AV.one c,d,false⟩)∧((!(h.toList==(⟨#[116,105,108,101,115]⟩:ByteArray).toList))=false→tU3 ((0≤(0:Int)∧(0:Int) < l∧0 < f.length)∧((f[0]?=some (dJ (nAt f 0)))∧True)∧True∧(0≤(1:Int)∧(1:Int) < l∧1 < f.length)∧((f[1]?=some (dJ (nAt f 1)))∧True)∧tU8 ((true=true)∧True∧(N∧((C∧D∧E∧F∧G∧(dJ (nAt f 0)=dJ a.1.s.tw)∧(dJ (nAt f 1)=dJ a.1.s.th)∧m∧n∧o∧q∧r∧s∧t∧u∧v∧True)∧w∧x∧y∧True))∧zQm ⟨AV.one c,d,false⟩)))))∧((l != 2)=(!false)→tU2 (g∧zQm ⟨AV.one c,d,false⟩))))∧((!i.2)=(!false)→tU4 (g∧zQm ⟨AV.one c,d,false⟩))))))))) ?_
  delta dJ dQ dS rJ bC
  simp only [sS]
  simp only [zQO,zQ2,zQU,zQS,zQw,zQN]
  clear hwf
  match ws,h0,hl with
  | k::r,_,hl=>
  have s0:sAt (strs (k::r)) 0=toS k:=rfl
  have q0:(strs (k::r))[0]?=some (DV.str (toS k)):=rfl
  have w0:wAt (k::r) 0=k:=rfl
  have dr:List.take (r.length*1) (List.drop (Int.toNat 1*1) (strs (k::r)))=strs r:=zGH 1 _ rfl rfl
  have drn:((((k::r).length:Nat):Int) - 1).toNat=r.length:=by simp
  have lb:(⟨#[98,105,116,115]⟩:ByteArray)=toS zYc:=rfl
  have lc:(⟨#[99,97,110,118,97,115]⟩:ByteArray)=toS zZE:=rfl
  have lt:(⟨#[116,105,108,101,115]⟩:ByteArray)=toS zXa:=rfl
  have hr:r.length≤68719476736:=by simp at hl; omega
  have aS:=zYe r hr
  have aU:=zYI r hr
  have d1:(k::r).drop 1=r:=rfl
  have e32:zZB r (-2147483648) 2147483647=s32 r:=rfl
  have f32:zZB r 0 4294967295=u32 r:=rfl
  have hln:(k::r).length=r.length+1:=rfl
  simp only [s0,q0,dr,drn,zQw,lb,lc,lt,zXj,e32,f32,decide_eq_true_eq,decide_eq_false_iff_not] at aS aU ⊢
  refine ⟨fun h1=>⟨fun h2=>⟨⟨by omega,by simp,by simp [zZe]⟩,trivial,fun h3=>?_,fun h3=>?_⟩,fun h2=>?_⟩,fun h1=>⟨fun h2=>⟨⟨by omega,by simp; omega,by omega⟩,aS,fun h3=>⟨fun h4=>⟨⟨by omega,by simp,by simp [zZe]⟩,trivial,fun h5=>?_,fun h5=>?_⟩,fun h4=>?_⟩,fun h3=>?_⟩,fun h2=>⟨⟨by omega,by simp; omega,by omega⟩,aU,fun h3=>⟨fun h4=>⟨⟨by omega,by simp,by simp [zZe]⟩,trivial,fun h5=>?_,fun h5=>?_⟩,fun h4=>?_⟩,fun h3=>?_⟩⟩⟩
  ·have h1:p.hd=1:=by simpa using h1
   have e:zQE p (k::r)=(p,false):=by unfold zQE; rw [if_pos h1,if_neg (fun h=>h3 h.2)]
   rw [e]; ((repeat' apply And.intro) <;> first | rfl | trivial)
  ·have h1:p.hd=1:=by simpa using h1
   have h2:r.length=1:=by simp at h2; omega
   match r,h2 with
   | [c],_=>
   have w1:wAt [k,c] 1=c:=rfl
   have s1:sAt (strs [k,c]) 1=toS c:=rfl
   have e:zQE p [k,c]=({ p with s:={ p.s with bits:=(numR c 0 255).1 } },(numR c 0 255).2):=by unfold zQE; rw [if_pos h1,if_pos ⟨rfl,h3⟩]; rfl
   rw [e,s1,zQN]
   refine ⟨⟨by omega,by simp,by simp [zZe]⟩,rfl,R18_Number_ans' c 0 255,?_⟩
   ((repeat' apply And.intro) <;> first | rfl | trivial)
  ·have h1:p.hd=1:=by simpa using h1
   have h2:¬(k::r).length=2:=by simp at h2 ⊢; omega
   have e:zQE p (k::r)=(p,false):=by unfold zQE; rw [if_pos h1,if_neg (fun h=>h2 h.1)]
   rw [e]; ((repeat' apply And.intro) <;> first | rfl | trivial)
  ·have g1:¬p.hd=1:=by simpa using h1
   have g2:p.hd=2:=by simpa using h2
   have e:zQE p (k::r)=(p,false):=by unfold zQE; rw [if_neg g1,if_pos g2,if_neg (fun h=>h5 h.2.2)]
   rw [e]; ((repeat' apply And.intro) <;> first | rfl | trivial)
  ·have g1:¬p.hd=1:=by simpa using h1
   have g2:p.hd=2:=by simpa using h2
   have h4:(s32 r).1.length=4:=by simp at h4; omega
   have e:zQE p (k::r)=({ p with s:={ p.s with c:=⟨iAt (s32 r).1 0,iAt (s32 r).1 1,iAt (s32 r).1 2,iAt (s32 r).1 3⟩ } },true):=by unfold zQE; rw [if_neg g1,if_pos g2,if_pos ⟨h3,h4,h5⟩]; rfl
   rw [e]
   generalize (s32 r).1=l at h4 ⊢
   match l,h4 with
   | [a,b,c,d],_=>
   refine ⟨⟨by omega,by simp,by simp [is]⟩,rfl,⟨by omega,by simp,by simp [is]⟩,rfl,⟨by omega,by simp,by simp [is]⟩,rfl,⟨by omega,by simp,by simp [is]⟩,rfl,?_⟩
   ((repeat' apply And.intro) <;> first | rfl | trivial)
  ·have g1:¬p.hd=1:=by simpa using h1
   have g2:p.hd=2:=by simpa using h2
   have h4:¬(s32 r).1.length=4:=by simp at h4; omega
   have e:zQE p (k::r)=(p,false):=by unfold zQE; rw [if_neg g1,if_pos g2,if_neg (fun h=>h4 h.2.1)]
   rw [e]; ((repeat' apply And.intro) <;> first | rfl | trivial)
  ·have g1:¬p.hd=1:=by simpa using h1
   have g2:p.hd=2:=by simpa using h2
   have e:zQE p (k::r)=(p,false):=by unfold zQE; rw [if_neg g1,if_pos g2,if_neg (fun h=>absurd h.1 (by rw [d1,h3]; decide))]
   rw [e]; ((repeat' apply And.intro) <;> first | rfl | trivial)
  ·have g1:¬p.hd=1:=by simpa using h1
   have g2:¬p.hd=2:=by simpa using h2
   have e:zQE p (k::r)=(p,false):=by unfold zQE; rw [if_neg g1,if_neg g2,if_neg (fun h=>h5 h.2.2)]
   rw [e]; ((repeat' apply And.intro) <;> first | rfl | trivial)
  ·have g1:¬p.hd=1:=by simpa using h1
   have g2:¬p.hd=2:=by simpa using h2
   have h4:(u32 r).1.length=2:=by simp at h4; omega
   have e:zQE p (k::r)=({ p with s:={ p.s with tw:=iAt (u32 r).1 0,th:=iAt (u32 r).1 1 } },true):=by unfold zQE; rw [if_neg g1,if_neg g2,if_pos ⟨h3,h4,h5⟩]; rfl
   rw [e]
   generalize (u32 r).1=l at h4 ⊢
   match l,h4 with
   | [a,b],_=>
   refine ⟨⟨by omega,by simp,by simp [is]⟩,rfl,⟨by omega,by simp,by simp [is]⟩,rfl,?_⟩
   ((repeat' apply And.intro) <;> first | rfl | trivial)
  ·have g1:¬p.hd=1:=by simpa using h1
   have g2:¬p.hd=2:=by simpa using h2
   have h4:¬(u32 r).1.length=2:=by simp at h4; omega
   have e:zQE p (k::r)=(p,false):=by unfold zQE; rw [if_neg g1,if_neg g2,if_neg (fun h=>h4 h.2.1)]
   rw [e]; ((repeat' apply And.intro) <;> first | rfl | trivial)
  ·have g1:¬p.hd=1:=by simpa using h1
   have g2:¬p.hd=2:=by simpa using h2
   have e:zQE p (k::r)=(p,false):=by unfold zQE; rw [if_neg g1,if_neg g2,if_neg (fun h=>absurd h.1 (by rw [d1,h3]; decide))]
   rw [e]; ((repeat' apply And.intro) <;> first | rfl | trivial)
theorem zKo (p:RP) (ws:List Lb) (hl:ws.length≤68719476736) (hi:p.s.ims.length≤68719476736):AnsG prog 85 1 [aPz,AV.one (Cl.d (dS ws.length (strs ws)))] [bC [cJ (p.s.bits),cJ (p.s.c.a),cJ (p.s.c.b),cJ (p.s.c.c),cJ (p.s.c.d),cJ (p.s.tw),cJ (p.s.th),Cl.d (dS p.s.ord.length (is p.s.ord)),Cl.ref 1 p.s.ims.length,Cl.ref 2 p.s.ops.length,cJ (p.hd),cJ (p.part),cJ (p.left),cJ (p.w),cJ (p.h),Cl.ref 3 p.px.length],Bx.row 43 28 (ims p.s.ims),Bx.row 51 12 (ops p.s.ops),Bx.row 37 5 (pxs p.px)] ⟨AV.one (Cl.d (dQ ((zQM p (zQb (strs ws))).2))),[bC [cJ ((((zQM p (zQb (strs ws))).1).s.bits)),cJ ((((zQM p (zQb (strs ws))).1).s.c.a)),cJ ((((zQM p (zQb (strs ws))).1).s.c.b)),cJ ((((zQM p (zQb (strs ws))).1).s.c.c)),cJ ((((zQM p (zQb (strs ws))).1).s.c.d)),cJ ((((zQM p (zQb (strs ws))).1).s.tw)),cJ ((((zQM p (zQb (strs ws))).1).s.th)),Cl.d (dS (((zQM p (zQb (strs ws))).1).s.ord.length) (is ((zQM p (zQb (strs ws))).1).s.ord)),Cl.ref 1 (((zQM p (zQb (strs ws))).1).s.ims.length),Cl.ref 2 (((zQM p (zQb (strs ws))).1).s.ops.length),cJ ((((zQM p (zQb (strs ws))).1).hd)),cJ ((((zQM p (zQb (strs ws))).1).part)),cJ ((((zQM p (zQb (strs ws))).1).left)),cJ ((((zQM p (zQb (strs ws))).1).w)),cJ ((((zQM p (zQb (strs ws))).1).h)),Cl.ref 3 (((zQM p (zQb (strs ws))).1).px.length)],Bx.row 43 28 (ims ((zQM p (zQb (strs ws))).1).s.ims),Bx.row 51 12 (ops ((zQM p (zQb (strs ws))).1).s.ops),Bx.row 37 5 (pxs ((zQM p (zQb (strs ws))).1).px)],false⟩:=
 zQy (Γ:=jVB) Ann.leaf zQs Tryz.func85 rfl (nL rfl) rfl fun hwf hbx=>by
  refine Eq.mpr (by kernel_rfl:_=(let o:=(sAt (strs ws) 0); let F:=(decide ((p.s.ims.length:Int)≥64)); let b:=(ws.length:Int); let G:=(List.take ((b - 3).toNat*1) (List.drop ((3:Int).toNat*1) (strs ws))); let a:=(zQM p (zQb (strs ws))); let c:=(pixW (zQb G)); let S:=(dS a.1.s.ord.length (is a.1.s.ord)); let T:=(dJ a.1.s.bits); let U:=(dJ a.1.s.c.a); let V:=(dJ a.1.s.c.b); let W:=(dJ a.1.s.c.c); let X:=(dJ a.1.s.c.d); let Y:=(dJ a.1.s.tw); let Z:=(dJ a.1.s.th); let z0:=(dJ a.1.part); let z1:=(dJ a.1.left); let z2:=(dJ a.1.hd); let z3:=(dJ a.1.w); let z4:=(dJ a.1.h); let e:=(Cl.d (dQ a.2)); let z5:=a.1.s.ims.length; let z6:=a.1.s.ops.length; let z7:=a.1.px.length; let z8:=(ims a.1.s.ims); let z9:=(ops a.1.s.ops); let y0:=(pxs a.1.px); let f:=[bC [Cl.d T,Cl.d U,Cl.d V,Cl.d W,Cl.d X,Cl.d Y,Cl.d Z,Cl.d S,Cl.ref 1 z5,Cl.ref 2 z6,Cl.d z2,Cl.d z0,Cl.d z1,Cl.d z3,Cl.d z4,Cl.ref 3 z7],Bx.row 43 28 z8,Bx.row 51 12 z9,Bx.row 37 5 y0]; let q:=(dJ p.s.bits=dJ a.1.s.bits); let r:=(dJ p.s.c.a=dJ a.1.s.c.a); let s:=(dJ p.s.c.b=dJ a.1.s.c.b); let t:=(dJ p.s.c.c=dJ a.1.s.c.c); let u:=(dJ p.s.c.d=dJ a.1.s.c.d); let v:=(dJ p.s.tw=dJ a.1.s.tw); let w:=(dJ p.s.th=dJ a.1.s.th); let x:=(dS p.s.ord.length (is p.s.ord)=dS a.1.s.ord.length (is a.1.s.ord)); let H:=(p.s.ims.length=a.1.s.ims.length); let y:=(p.s.ops.length=a.1.s.ops.length); let z:=(dJ p.hd=dJ a.1.hd); let A:=(dJ 1=dJ a.1.part); let I:=(dJ p.left=dJ a.1.left); let J:=(dJ p.w=dJ a.1.w); let K:=(dJ p.h=dJ a.1.h); let B:=(p.px.length=a.1.px.length); let L:=(ims p.s.ims=ims a.1.s.ims); let C:=(ops p.s.ops=ops a.1.s.ops); let D:=(pxs p.px=pxs a.1.px); let h:=(((dQ false=dQ a.2)∧True)∧((q∧r∧s∧t∧u∧v∧w∧x∧H∧y∧z∧A∧I∧J∧K∧B∧True)∧L∧C∧D∧True)); let M:=(List.take (((3:Int) - 1).toNat*1) (List.drop ((1:Int).toNat*1) (strs ws))); let g:=(zZB (zQb M) (1:Int) (16777216:Int)); let N:=((g.1.length:Nat):Int); let d:=(is g.1); let i:=(nAt d 0); let j:=(nAt d 1); let O:=(decide (j > (wK (Int.tdiv (16777216:Int) i)))); let E:=(zQg i j c.1); let k:=(0≤(1:Int)∧(1:Int) < N∧1 < d.length); let P:=(dJ j); let l:=((d[1]?=some P)∧True); let m:=(0≤(0:Int)∧(0:Int) < N∧0 < d.length); let Q:=(dJ i); let n:=((d[0]?=some Q)∧True); let R:=[dK c.1.a,dK c.1.b,dK c.1.c,dK c.1.al,dK c.1.f]; tU5 (tU8 (((decide (p.part > 1))=false→tU5 ((p.s.ims.length≤maxLen)∧tU3 ((F=false→tU4 (((decide (b < 3))=true→True∧h∧zQm ⟨AV.one e,f,false⟩)∧((decide (b < 3))=false→True∧(0≤(1:Int)∧(1:Int)≤3∧(3:Int)≤b)∧(Ans prog 117 [RV.d (dS ((3:Int) - 1).toNat M),rJ 1,rJ 16777216] (RV.tup [RV.d (dS g.1.length d),RV.d (dQ g.2)]))∧tU8 (((!g.2)=false→True∧k∧l∧True∧m∧n∧(nAt d 0≠0)∧tU2 ((true=true)∧((O=true→True∧h∧zQm ⟨AV.one e,f,false⟩)∧(O=false→True∧(0≤(0:Int)∧(0:Int) < b∧0 < (strs ws).length)∧(((strs ws)[0]?=some (DV.str o))∧True)∧True∧(((o.toList==(⟨#[115,111,108,105,100]⟩:ByteArray).toList)=true→True∧(0≤(3:Int)∧(3:Int)≤b∧b≤b)∧(Ans prog 82 [RV.d (dS (b - 3).toNat G)] (RV.tup [RV.agg R,RV.d (dQ c.2)]))∧tU5 (tU8 (m∧n∧True∧k∧l∧True∧(Ans prog 22 [RV.d Q,RV.d P,RV.agg R] (imR E))∧True∧(zZl 28 272 p.s.ims.length 1 (ims p.s.ims) (Im.ds E))∧tU4 ((true=true)∧tU2 ((((dQ c.2=dQ a.2)∧True)∧((q∧r∧s∧t∧u∧v∧w∧x∧(p.s.ims.length+1=a.1.s.ims.length)∧y∧z∧A∧I∧J∧K∧B∧True)∧((ims p.s.ims)++(Im.ds E)=ims a.1.s.ims)∧C∧D∧True))∧zQm ⟨AV.one e,f,false⟩)))))∧((o.toList==(⟨#[115,111,108,105,100]⟩:ByteArray).toList)=false→tU4 (m∧n∧True∧k∧l∧True∧m∧n∧True∧k∧l∧tU2 (tU8 ((true=true)∧tU4 ((((dQ (b==3)=dQ a.2)∧True)∧((q∧r∧s∧t∧u∧v∧w∧x∧H∧y∧z∧A∧(dJ (wK (i*j))=dJ a.1.left)∧(dJ i=dJ a.1.w)∧(dJ j=dJ a.1.h)∧B∧True)∧L∧C∧D∧True))∧zQm ⟨AV.one e,f,false⟩))))))))))∧((!g.2)=(!false)→True∧(true=true)∧True∧h∧zQm ⟨AV.one e,f,false⟩)))))∧(F=(!false)→tU2 (h∧zQm ⟨AV.one e,f,false⟩)))))∧((decide (p.part > 1))=(!false)→tU4 (h∧zQm ⟨AV.one e,f,false⟩)))))) ?_
  delta dJ dK dQ wK dS rJ bC
  simp only [sS]
  simp only [zQO,zQ2,zQU,zQS,zQw,zQN]
  clear hwf
  have bad:(1 < p.part∨64≤p.s.ims.length∨ws.length < 3)→zQM p ws=({ p with part:=1 },false):=fun h=>by unfold zQM; rw [if_pos h]
  refine ⟨fun h1=>⟨by unfold maxLen; omega,fun h2=>⟨fun h3=>?_,fun h3=>?_⟩,fun h2=>?_⟩,fun h1=>?_⟩
  ·rw [bad (.inr (.inr (by omega)))]; ((repeat' apply And.intro) <;> first | rfl | trivial)
  ·obtain ⟨k,a,b,r,rfl⟩:∃ k a b r,ws=k::a::b::r:=by
    match ws,h3 with
    | [],h3=>exact absurd h3 (by simp)
    | [_],h3=>exact absurd h3 (by simp)
    | [_,_],h3=>exact absurd h3 (by simp)
    | k::a::b::r,_=>exact ⟨_,_,_,_,rfl⟩
   have s0:sAt (strs (k::a::b::r)) 0=toS k:=rfl
   have q0:(strs (k::a::b::r))[0]?=some (DV.str (toS k)):=rfl
   have w0:wAt (k::a::b::r) 0=k:=rfl
   have d1:List.take ((3 - 1:Int).toNat*1) (List.drop (Int.toNat 1*1) (strs (k::a::b::r)))=strs [a,b]:=rfl
   have d3:List.take (r.length*1) (List.drop (Int.toNat 3*1) (strs (k::a::b::r)))=strs r:=zGH 3 _ rfl rfl
   have n3:((((k::a::b::r).length:Nat):Int) - 3).toNat=r.length:=by simp; omega
   have n2:(3 - 1:Int).toNat=[a,b].length:=rfl
   have lso:(⟨#[115,111,108,105,100]⟩:ByteArray)=toS zQY:=rfl
   have aN:=zZZ [a,b] 1 16777216 (by simp)
   have aP:=zJY r (by simp at hl; omega)
   have eN:nz (k::a::b::r)=zZB [a,b] 1 16777216:=rfl
   have g1:¬(1 < p.part∨64≤p.s.ims.length∨(k::a::b::r).length < 3):=by omega
   have go:zQM p (k::a::b::r)=(if (zZB [a,b] 1 16777216).2=false∨16777216 / iAt (zZB [a,b] 1 16777216).1 0 < iAt (zZB [a,b] 1 16777216).1 1 then ({ p with part:=1 },false) else if k=zQY then ({ p with part:=1,s:={ p.s with ims:=p.s.ims++[zQg (iAt (zZB [a,b] 1 16777216).1 0) (iAt (zZB [a,b] 1 16777216).1 1) (pixW r).1] } },(pixW r).2)
    else ({ p with part:=1,w:=iAt (zZB [a,b] 1 16777216).1 0,h:=iAt (zZB [a,b] 1 16777216).1 1,left:=iAt (zZB [a,b] 1 16777216).1 0*iAt (zZB [a,b] 1 16777216).1 1 },decide ((k::a::b::r).length=3))):=by unfold zQM; rw [if_neg g1]; rfl
   simp only [s0,q0,d1,d3,n3,zQw,lso,zXj,decide_eq_true_eq,decide_eq_false_iff_not] at aN aP ⊢
   by_cases hok:[a,b].all (okN 1 16777216)=true
   ·have hab:okN 1 16777216 a=true∧okN 1 16777216 b=true:=by simpa using hok
    have ha:=zKw hab.1
    have hb:=zKw hab.2
    have m2:[a,b].map numV=[numV a,numV b]:=rfl
    rw [zZA hok,m2] at go aN ⊢
    have i0:iAt [numV a,numV b] 0=numV a:=rfl
    have i1:iAt [numV a,numV b] 1=numV b:=rfl
    have j0:nAt (is [numV a,numV b]) 0=numV a:=rfl
    have j1:nAt (is [numV a,numV b]) 1=numV b:=rfl
    simp only [i0,i1,j0,j1,Bool.true_eq_false,false_or] at go ⊢
    generalize numV a=A at *
    generalize numV b=B at *
    have hq:Int.tdiv 16777216 A=16777216 / A:=Int.tdiv_eq_ediv_of_nonneg (by omega)
    have hq1:0≤16777216 / A:=Int.ediv_nonneg (by omega) (by omega)
    have hq2:16777216 / A≤16777216:=Int.ediv_le_self _ (by omega)
    have hw:IntKind.wrap .i64 (Int.tdiv 16777216 A)=16777216 / A:=by rw [hq,IntWalk.i64_in _ ⟨by omega,by omega⟩]
    rw [hw]
    refine ⟨⟨by omega,by simp <;> omega,by simp <;> omega⟩,aN,fun _=>⟨⟨by omega,by simp,by simp [is]⟩,rfl,⟨by omega,by simp,by simp [is]⟩,rfl,by omega,fun h4=>?_,fun h4=>⟨⟨by omega,by simp <;> omega,by simp [zZe]⟩,trivial,fun h5=>⟨⟨by omega,by simp <;> omega,by simp⟩,aP,⟨by omega,by simp,by simp [is]⟩,rfl,⟨by omega,by simp,by simp [is]⟩,rfl,zYJ A B (pixW r).1,⟨zZC _,Im.ds_len _,by unfold maxLen; omega,by omega⟩,?_⟩,fun h5=>⟨⟨by omega,by simp,by simp [is]⟩,rfl,⟨by omega,by simp,by simp [is]⟩,rfl,⟨by omega,by simp,by simp [is]⟩,rfl,⟨by omega,by simp,by simp [is]⟩,rfl,?_⟩⟩⟩,fun h=>absurd h (by decide)⟩
    ·rw [go,if_pos (by omega)]; ((repeat' apply And.intro) <;> first | rfl | trivial)
    ·rw [go,if_neg (by omega),if_pos h5]; ((repeat' apply And.intro) <;> first | rfl | trivial | (simp [ims]; done) | (simp [ops]; done) | (simp [pxs]; done))
    ·have hm:A*B≤16777216:=by
      have h6:B≤16777216 / A:=by omega
      have h7:=Int.mul_le_mul_of_nonneg_left h6 (by omega:0≤A)
      have h8:=Int.mul_ediv_self_le (x:=16777216) (k:=A) (by omega)
      omega
     have hm0:0≤A*B:=Int.mul_nonneg (by omega) (by omega)
     have hl3:((((k::a::b::r).length:Nat):Int)==3)=decide ((k::a::b::r).length=3):=by rw [Bool.eq_iff_iff]; simp only [beq_iff_eq,decide_eq_true_eq]; omega
     rw [go,if_neg (by omega),if_neg h5,IntWalk.i64_in (A*B) ⟨by omega,by omega⟩]; rw [hl3]; ((repeat' apply And.intro) <;> first | rfl | trivial)
   ·have hok:[a,b].all (okN 1 16777216)=false:=by simpa using hok
    rw [zZM hok] at go aN ⊢
    refine ⟨⟨by omega,by simp <;> omega,by simp <;> omega⟩,aN,fun h=>absurd h (by decide),fun _=>?_⟩
    rw [go,if_pos (.inl rfl)]; ((repeat' apply And.intro) <;> first | rfl | trivial)
  ·rw [bad (.inr (.inl (by omega)))]; ((repeat' apply And.intro) <;> first | rfl | trivial)
  ·rw [bad (.inl (by omega))]; ((repeat' apply And.intro) <;> first | rfl | trivial)
def rE (s:RP):RP:=⟨sE s.s,s.hd,s.part,s.left,s.w,s.h,zQc (pxs s.px)⟩
theorem zKU (p:RP) (w:Lb) (hw:w.length≤68719476700) (hi:p.s.ims.length≤68719476736) (hp:p.s.ops.length≤68719476736) (hx:p.px.length≤68719476736) (hf:p.left≤16777216) (hh:0≤p.hd):AnsG prog 43 1 [aPz,AV.one (Cl.d (DV.str (toS w)))] [bC [cJ (p.s.bits),cJ (p.s.c.a),cJ (p.s.c.b),cJ (p.s.c.c),cJ (p.s.c.d),cJ (p.s.tw),cJ (p.s.th),Cl.d (dS p.s.ord.length (is p.s.ord)),Cl.ref 1 p.s.ims.length,Cl.ref 2 p.s.ops.length,cJ (p.hd),cJ (p.part),cJ (p.left),cJ (p.w),cJ (p.h),Cl.ref 3 p.px.length],Bx.row 43 28 (ims p.s.ims),Bx.row 51 12 (ops p.s.ops),Bx.row 37 5 (pxs p.px)] ⟨AV.one (Cl.d (dQ ((zQX p (ofS (toS w))).2))),[bC [cJ ((((zQX p (ofS (toS w))).1).s.bits)),cJ ((((zQX p (ofS (toS w))).1).s.c.a)),cJ ((((zQX p (ofS (toS w))).1).s.c.b)),cJ ((((zQX p (ofS (toS w))).1).s.c.c)),cJ ((((zQX p (ofS (toS w))).1).s.c.d)),cJ ((((zQX p (ofS (toS w))).1).s.tw)),cJ ((((zQX p (ofS (toS w))).1).s.th)),Cl.d (dS (((zQX p (ofS (toS w))).1).s.ord.length) (is ((zQX p (ofS (toS w))).1).s.ord)),Cl.ref 1 (((zQX p (ofS (toS w))).1).s.ims.length),Cl.ref 2 (((zQX p (ofS (toS w))).1).s.ops.length),cJ ((((zQX p (ofS (toS w))).1).hd)),cJ ((((zQX p (ofS (toS w))).1).part)),cJ ((((zQX p (ofS (toS w))).1).left)),cJ ((((zQX p (ofS (toS w))).1).w)),cJ ((((zQX p (ofS (toS w))).1).h)),Cl.ref 3 (((zQX p (ofS (toS w))).1).px.length)],Bx.row 43 28 (ims ((zQX p (ofS (toS w))).1).s.ims),Bx.row 51 12 (ops ((zQX p (ofS (toS w))).1).s.ops),Bx.row 37 5 (pxs ((zQX p (ofS (toS w))).1).px)],false⟩:=
 zQy (Γ:=jVB) Ann.leaf zQs Tryz.func43 rfl (nL rfl) rfl fun hwf hbx=>by
  refine Eq.mpr (by kernel_rfl:_=(let t:=(ops p.s.ops); let u:=(ims p.s.ims); let I:=(zQo (ofS (toS w))); let m:=(strs I); let d:=(zQX p (ofS (toS w))); let e:=(zQb m); let J:=(Oq.cells (opR e).1); let g:=(zQM (rE p) e); let S:=[bC [cJ g.1.s.bits,cJ g.1.s.c.a,cJ g.1.s.c.b,cJ g.1.s.c.c,cJ g.1.s.c.d,cJ g.1.s.tw,cJ g.1.s.th,Cl.d (dS g.1.s.ord.length (is g.1.s.ord)),Cl.ref 1 g.1.s.ims.length,Cl.ref 2 g.1.s.ops.length,cJ g.1.hd,cJ g.1.part,cJ g.1.left,cJ g.1.w,cJ g.1.h,Cl.ref 3 g.1.px.length],Bx.row 43 28 (ims g.1.s.ims),Bx.row 51 12 (ops g.1.s.ops),Bx.row 37 5 (pxs g.1.px)]; let y3:=(dJ d.1.s.bits); let y4:=(dJ d.1.s.c.a); let y5:=(dJ d.1.s.c.b); let y6:=(dJ d.1.s.c.c); let y7:=(dJ d.1.s.c.d); let y8:=(dJ d.1.s.tw); let y9:=(dJ d.1.s.th); let x0:=(dJ d.1.part); let x1:=(dJ d.1.left); let x2:=(dJ d.1.hd); let x3:=(dJ d.1.w); let x4:=(dJ d.1.h); let j:=(Cl.d (dQ d.2)); let x5:=d.1.s.ims.length; let x6:=d.1.s.ops.length; let x7:=d.1.px.length; let x8:=(ims d.1.s.ims); let x9:=(ops d.1.s.ops); let w0:=(pxs d.1.px); let n:=(sAt m 0); let o:=((I.length:Nat):Int); let T:=(List.take ((o - 1).toNat*1) (List.drop ((1:Int).toNat*1) m)); let l:=(zZB (zQb T) 0 4294967295); let U:=(decide ((l.1.length:Int) > 0)); let v:=(n.toList==(⟨#[115,111,108,105,100]⟩:ByteArray).toList); let q:=d.1.s.ord.length; let r:=(is d.1.s.ord); let w1:=(dS q r); let k:=[bC [Cl.d y3,Cl.d y4,Cl.d y5,Cl.d y6,Cl.d y7,Cl.d y8,Cl.d y9,Cl.d w1,Cl.ref 1 x5,Cl.ref 2 x6,Cl.d x2,Cl.d x0,Cl.d x1,Cl.d x3,Cl.d x4,Cl.ref 3 x7],Bx.row 43 28 x8,Bx.row 51 12 x9,Bx.row 37 5 w0]; let K:=(dS I.length m); let V:=[RV.d K]; let x:=[dK (pixW e).1.a,dK (pixW e).1.b,dK (pixW e).1.c,dK (pixW e).1.al,dK (pixW e).1.f]; let W:=(wK (p.left - 1)); let X:=(W==0); let L:=((pxs p.px)++x); let Y:=(Im.ds (imOf p.w p.h (zQc L))); let Z:=((dQ (pixW e).2=dQ d.2)∧True); let y:=(dJ p.s.bits=dJ d.1.s.bits); let z:=(dJ p.s.c.a=dJ d.1.s.c.a); let A:=(dJ p.s.c.b=dJ d.1.s.c.b); let B:=(dJ p.s.c.c=dJ d.1.s.c.c); let C:=(dJ p.s.c.d=dJ d.1.s.c.d); let D:=(dJ p.s.tw=dJ d.1.s.tw); let E:=(dJ p.s.th=dJ d.1.s.th); let M:=(dS p.s.ord.length (is p.s.ord)=dS q r); let N:=(p.s.ops.length=d.1.s.ops.length); let F:=(dJ p.hd=dJ d.1.hd); let z0:=(dJ p.part=dJ d.1.part); let z1:=(dJ W=dJ d.1.left); let G:=(dJ p.w=dJ d.1.w); let H:=(dJ p.h=dJ d.1.h); let O:=(ops p.s.ops=ops d.1.s.ops); let P:=(p.s.ims.length=d.1.s.ims.length); let Q:=(ims p.s.ims=ims d.1.s.ims); let R:=[aPz,AV.one (Cl.d K)]; let z2:=(dS p.s.ord.length (is p.s.ord)); let z3:=[bC [cJ p.s.bits,cJ p.s.c.a,cJ p.s.c.b,cJ p.s.c.c,cJ p.s.c.d,cJ p.s.tw,cJ p.s.th,Cl.d z2,Cl.ref 1 p.s.ims.length,Cl.ref 2 p.s.ops.length,cJ p.hd,cJ p.part,cJ p.left,cJ p.w,cJ p.h,Cl.ref 3 p.px.length],Bx.row 43 28 u,Bx.row 51 12 t,Bx.row 37 5 (pxs p.px)]; let i:=(wK (p.hd+1)); let z4:=(dJ p.left=dJ d.1.left); let z5:=(p.px.length=d.1.px.length); let z6:=(pxs p.px=pxs d.1.px); let z7:=((y∧z∧A∧B∧C∧D∧E∧(dS l.1.length (is l.1)=dS q r)∧P∧N∧F∧(dJ 1=dJ d.1.part)∧z4∧G∧H∧z5∧True)∧Q∧O∧z6∧True); let z8:=((dQ false=dQ d.2)∧True); let z9:=(z8∧z7); let y0:=(((dQ g.2=dQ d.2)∧True)∧(((dJ g.1.s.bits=dJ d.1.s.bits)∧(dJ g.1.s.c.a=dJ d.1.s.c.a)∧(dJ g.1.s.c.b=dJ d.1.s.c.b)∧(dJ g.1.s.c.c=dJ d.1.s.c.c)∧(dJ g.1.s.c.d=dJ d.1.s.c.d)∧(dJ g.1.s.tw=dJ d.1.s.tw)∧(dJ g.1.s.th=dJ d.1.s.th)∧(dS g.1.s.ord.length (is g.1.s.ord)=dS q r)∧(g.1.s.ims.length=d.1.s.ims.length)∧(g.1.s.ops.length=d.1.s.ops.length)∧(dJ g.1.hd=dJ d.1.hd)∧(dJ g.1.part=dJ d.1.part)∧(dJ g.1.left=dJ d.1.left)∧(dJ g.1.w=dJ d.1.w)∧(dJ g.1.h=dJ d.1.h)∧(g.1.px.length=d.1.px.length)∧True)∧(ims g.1.s.ims=ims d.1.s.ims)∧(ops g.1.s.ops=ops d.1.s.ops)∧(pxs g.1.px=pxs d.1.px)∧True)); let w2:=(Ans prog 86 V (RV.tup [RV.agg J,RV.d (dQ (opR e).2)])); let y1:=((y∧z∧A∧B∧C∧D∧E∧M∧P∧(p.s.ops.length+1=d.1.s.ops.length)∧F∧(dJ 2=dJ d.1.part)∧z4∧G∧H∧z5∧True)∧Q∧(t++J=ops d.1.s.ops)∧z6∧True); let w3:=(((opR e).2=true→tU5 ((p.s.ops.length+1≤maxLen)∧tU3 ((((dQ (decide (((p.s.ops.length+1:Nat):Int)≤4096))=dQ d.2)∧True)∧y1)∧zQm ⟨AV.one j,k,false⟩)))∧((opR e).2=(!true)→tU2 ((z8∧y1)∧zQm ⟨AV.one j,k,false⟩))); let y2:=(w2∧tU6 (tU8 ((zZl 12 88 p.s.ops.length 1 t J)∧tU4 ((true=true)∧tU2 w3)))); tU2 ((Ans prog 81 [RV.d (DV.str (toS w))] (RV.d K))∧tU6 (((decide (p.left > 0))=true→True∧(Ans prog 82 V (RV.tup [RV.agg x,RV.d (dQ (pixW e).2)]))∧tU5 (tU8 ((zZl 5 10 p.px.length 1 (pxs p.px) x)∧tU3 ((true=true)∧tU5 (tU8 ((X=true→tU4 (tU8 ((Ans prog 48 [rJ p.w,rJ p.h,RV.d (dS (p.px.length+1) L)] (RV.tup [(imR (imOf p.w p.h (zQc L))),RV.d (dQ (ofOk p.w p.h (p.px.length+1)))]))∧tU6 ((true=true)∧tU8 ((zZl 28 272 p.s.ims.length 1 u Y)∧tU4 ((true=true)∧tU6 ((Z∧((y∧z∧A∧B∧C∧D∧E∧M∧(p.s.ims.length+1=d.1.s.ims.length)∧N∧F∧z0∧z1∧G∧H∧(0=d.1.px.length)∧True)∧(u++Y=ims d.1.s.ims)∧O∧([]=pxs d.1.px)∧True))∧zQm ⟨AV.one j,k,false⟩)))))))∧(X=false→tU2 ((Z∧((y∧z∧A∧B∧C∧D∧E∧M∧P∧N∧F∧z0∧z1∧G∧H∧(p.px.length+1=d.1.px.length)∧True)∧Q∧O∧((pxs p.px)++x=pxs d.1.px)∧True))∧zQm ⟨AV.one j,k,false⟩))))))))∧((decide (p.left > 0))=false→tU5 (((decide (p.hd < 3))=true→tU2 (tU8 ((AnsG prog 83 1 R [bC [cJ p.s.bits,cJ p.s.c.a,cJ p.s.c.b,cJ p.s.c.c,cJ p.s.c.d,cJ p.s.tw,cJ p.s.th,Cl.d z2,Cl.ref 1 p.s.ims.length,Cl.ref 2 p.s.ops.length,cJ i,cJ p.part,cJ p.left,cJ p.w,cJ p.h,Cl.ref 3 p.px.length],Bx.row 43 28 u,Bx.row 51 12 t,Bx.row 37 5 (pxs p.px)] ⟨AV.one (Cl.d (dQ (zQE (⟨(sE p.s),i,p.part,p.left,p.w,p.h,zQc (pxs p.px)⟩:RP) e).2)),[bC [cJ (zQE (⟨(sE p.s),i,p.part,p.left,p.w,p.h,zQc (pxs p.px)⟩:RP) e).1.s.bits,cJ (zQE (⟨(sE p.s),i,p.part,p.left,p.w,p.h,zQc (pxs p.px)⟩:RP) e).1.s.c.a,cJ (zQE (⟨(sE p.s),i,p.part,p.left,p.w,p.h,zQc (pxs p.px)⟩:RP) e).1.s.c.b,cJ (zQE (⟨(sE p.s),i,p.part,p.left,p.w,p.h,zQc (pxs p.px)⟩:RP) e).1.s.c.c,cJ (zQE (⟨(sE p.s),i,p.part,p.left,p.w,p.h,zQc (pxs p.px)⟩:RP) e).1.s.c.d,cJ (zQE (⟨(sE p.s),i,p.part,p.left,p.w,p.h,zQc (pxs p.px)⟩:RP) e).1.s.tw,cJ (zQE (⟨(sE p.s),i,p.part,p.left,p.w,p.h,zQc (pxs p.px)⟩:RP) e).1.s.th,Cl.d (dS (zQE (⟨(sE p.s),i,p.part,p.left,p.w,p.h,zQc (pxs p.px)⟩:RP) e).1.s.ord.length (is (zQE (⟨(sE p.s),i,p.part,p.left,p.w,p.h,zQc (pxs p.px)⟩:RP) e).1.s.ord)),Cl.ref 1 (zQE (⟨(sE p.s),i,p.part,p.left,p.w,p.h,zQc (pxs p.px)⟩:RP) e).1.s.ims.length,Cl.ref 2 (zQE (⟨(sE p.s),i,p.part,p.left,p.w,p.h,zQc (pxs p.px)⟩:RP) e).1.s.ops.length,cJ (zQE (⟨(sE p.s),i,p.part,p.left,p.w,p.h,zQc (pxs p.px)⟩:RP) e).1.hd,cJ (zQE (⟨(sE p.s),i,p.part,p.left,p.w,p.h,zQc (pxs p.px)⟩:RP) e).1.part,cJ (zQE (⟨(sE p.s),i,p.part,p.left,p.w,p.h,zQc (pxs p.px)⟩:RP) e).1.left,cJ (zQE (⟨(sE p.s),i,p.part,p.left,p.w,p.h,zQc (pxs p.px)⟩:RP) e).1.w,cJ (zQE (⟨(sE p.s),i,p.part,p.left,p.w,p.h,zQc (pxs p.px)⟩:RP) e).1.h,Cl.ref 3 (zQE (⟨(sE p.s),i,p.part,p.left,p.w,p.h,zQc (pxs p.px)⟩:RP) e).1.px.length],Bx.row 43 28 (ims (zQE (⟨(sE p.s),i,p.part,p.left,p.w,p.h,zQc (pxs p.px)⟩:RP) e).1.s.ims),Bx.row 51 12 (ops (zQE (⟨(sE p.s),i,p.part,p.left,p.w,p.h,zQc (pxs p.px)⟩:RP) e).1.s.ops),Bx.row 37 5 (pxs (zQE (⟨(sE p.s),i,p.part,p.left,p.w,p.h,zQc (pxs p.px)⟩:RP) e).1.px)],false⟩)∧True∧(((dQ (zQE (⟨(sE p.s),i,p.part,p.left,p.w,p.h,zQc (pxs p.px)⟩:RP) e).2=dQ d.2)∧True)∧(((dJ (zQE (⟨(sE p.s),i,p.part,p.left,p.w,p.h,zQc (pxs p.px)⟩:RP) e).1.s.bits=dJ d.1.s.bits)∧(dJ (zQE (⟨(sE p.s),i,p.part,p.left,p.w,p.h,zQc (pxs p.px)⟩:RP) e).1.s.c.a=dJ d.1.s.c.a)∧(dJ (zQE (⟨(sE p.s),i,p.part,p.left,p.w,p.h,zQc (pxs p.px)⟩:RP) e).1.s.c.b=dJ d.1.s.c.b)∧(dJ (zQE (⟨(sE p.s),i,p.part,p.left,p.w,p.h,zQc (pxs p.px)⟩:RP) e).1.s.c.c=dJ d.1.s.c.c)∧(dJ (zQE (⟨(sE p.s),i,p.part,p.left,p.w,p.h,zQc (pxs p.px)⟩:RP) e).1.s.c.d=dJ d.1.s.c.d)∧(dJ (zQE (⟨(sE p.s),i,p.part,p.left,p.w,p.h,zQc (pxs p.px)⟩:RP) e).1.s.tw=dJ d.1.s.tw)∧(dJ (zQE (⟨(sE p.s),i,p.part,p.left,p.w,p.h,zQc (pxs p.px)⟩:RP) e).1.s.th=dJ d.1.s.th)∧(dS (zQE (⟨(sE p.s),i,p.part,p.left,p.w,p.h,zQc (pxs p.px)⟩:RP) e).1.s.ord.length (is (zQE (⟨(sE p.s),i,p.part,p.left,p.w,p.h,zQc (pxs p.px)⟩:RP) e).1.s.ord)=dS q r)∧((zQE (⟨(sE p.s),i,p.part,p.left,p.w,p.h,zQc (pxs p.px)⟩:RP) e).1.s.ims.length=d.1.s.ims.length)∧((zQE (⟨(sE p.s),i,p.part,p.left,p.w,p.h,zQc (pxs p.px)⟩:RP) e).1.s.ops.length=d.1.s.ops.length)∧(dJ (zQE (⟨(sE p.s),i,p.part,p.left,p.w,p.h,zQc (pxs p.px)⟩:RP) e).1.hd=dJ d.1.hd)∧(dJ (zQE (⟨(sE p.s),i,p.part,p.left,p.w,p.h,zQc (pxs p.px)⟩:RP) e).1.part=dJ d.1.part)∧(dJ (zQE (⟨(sE p.s),i,p.part,p.left,p.w,p.h,zQc (pxs p.px)⟩:RP) e).1.left=dJ d.1.left)∧(dJ (zQE (⟨(sE p.s),i,p.part,p.left,p.w,p.h,zQc (pxs p.px)⟩:RP) e).1.w=dJ d.1.w)∧(dJ (zQE (⟨(sE p.s),i,p.part,p.left,p.w,p.h,zQc (pxs p.px)⟩:RP) e).1.h=dJ d.1.h)∧((zQE (⟨(sE p.s),i,p.part,p.left,p.w,p.h,zQc (pxs p.px)⟩:RP) e).1.px.length=d.1.px.length)∧True)∧(ims (zQE (⟨(sE p.s),i,p.part,p.left,p.w,p.h,zQc (pxs p.px)⟩:RP) e).1.s.ims=ims d.1.s.ims)∧(ops (zQE (⟨(sE p.s),i,p.part,p.left,p.w,p.h,zQc (pxs p.px)⟩:RP) e).1.s.ops=ops d.1.s.ops)∧(pxs (zQE (⟨(sE p.s),i,p.part,p.left,p.w,p.h,zQc (pxs p.px)⟩:RP) e).1.px=pxs d.1.px)∧True))∧zQm ⟨AV.one j,k,false⟩)))∧((decide (p.hd < 3))=false→True∧(0≤(0:Int)∧(0:Int) < o∧0 < m.length)∧((m[0]?=some (DV.str n))∧True)∧tU2 (((n.toList==(⟨#[111,114,100,101,114]⟩:ByteArray).toList)=true→True∧(0≤(1:Int)∧(1:Int)≤o∧o≤o)∧(Ans prog 84 [RV.d (dS (o - 1).toNat T)] (RV.tup [RV.d (dS l.1.length (is l.1)),RV.d (dQ l.2)]))∧tU6 (tU8 (tU8 ((l.2=true→tU5 ((U=true→tU4 ((((dQ (p.part==0)=dQ d.2)∧True)∧z7)∧zQm ⟨AV.one j,k,false⟩))∧(U=(!true)→tU2 (z9∧zQm ⟨AV.one j,k,false⟩))))∧(l.2=(!true)→tU4 (z9∧zQm ⟨AV.one j,k,false⟩))))))∧((n.toList==(⟨#[111,114,100,101,114]⟩:ByteArray).toList)=false→tU2 ((v=true→((v=true→tU2 ((AnsG prog 85 1 R z3 ⟨AV.one (Cl.d (dQ g.2)),S,false⟩)∧True∧y0∧zQm ⟨AV.one j,k,false⟩))∧(v=false→tU5 y2)))∧(v=false→tU2 (((n.toList==(⟨#[105,109,97,103,101]⟩:ByteArray).toList)=true→tU2 ((AnsG prog 85 1 R z3 ⟨AV.one (Cl.d (dQ g.2)),S,false⟩)∧True∧y0∧zQm ⟨AV.one j,k,false⟩))∧((n.toList==(⟨#[105,109,97,103,101]⟩:ByteArray).toList)=false→tU5 y2))))))))))))) ?_
  delta sE rE dJ dK dQ cJ wK dS rJ aPz bC
  simp only [sS]
  simp only [zQO,zQ2,zQU,zQS,zQw,zQN]
  clear hwf
  have hne:=zYV w
  have hsl:=zJ2 w
  have aW:=zHs w (by omega)
  simp only [zQN] at aW
  have lso:(⟨#[115,111,108,105,100]⟩:ByteArray)=toS zQY:=rfl
  have lor:(⟨#[111,114,100,101,114]⟩:ByteArray)=toS zZy:=rfl
  have lim:(⟨#[105,109,97,103,101]⟩:ByteArray)=toS zQ0:=rfl
  have aP:=zJY (zQo w) (by omega)
  have pe:∀ q:Px,pxs p.px++[DV.int .u16 q.a,DV.int .u16 q.b,DV.int .u16 q.c,DV.int .u16 q.al,DV.int .u16 q.f]=pxs (p.px++[q]):=fun q=>by simp [pxs,Px.ds]
  have aI:=R13_ImageOf_dat' p.w p.h (p.px++[(pixW (zQo w)).1])
  have pl:(p.px++[(pixW (zQo w)).1]).length=p.px.length+1:=by simp
  have hl1:0 < p.left→IntKind.wrap .i64 (p.left - 1)=p.left - 1:=fun h=>IntWalk.i64_in _ ⟨by omega,by omega⟩
  simp only [zQw,pe,zQS,lso,lor,lim,zXj,decide_eq_true_eq,decide_eq_false_iff_not] at aP ⊢
  refine ⟨aW,fun h1=>⟨aP,⟨zZs _,rfl,by unfold maxLen; omega,by omega⟩,fun h2=>⟨?_,⟨zZC _,Im.ds_len _,by unfold maxLen; omega,by omega⟩,?_⟩,fun h2=>?_⟩,fun h1=>⟨fun h2=>⟨?_,?_⟩,fun h2=>?_⟩⟩
  ·rw [pl] at aI; exact aI
  ·rw [hl1 h1] at h2 ⊢
   have h2:p.left=1:=by simp at h2; omega
   have e:zQX p w=({ p with left:=0,s:={ p.s with ims:=p.s.ims++[imOf p.w p.h (p.px++[(pixW (zQo w)).1])] },px:=[] },(pixW (zQo w)).2):=by unfold zQX; rw [if_pos h1,if_pos h2]
   rw [e,h2]; ((repeat' apply And.intro) <;> first | rfl | trivial | (simp [ims]; done) | (simp [ops]; done) | (simp [pxs]; done))
  ·rw [hl1 h1] at h2 ⊢
   have h2:¬ p.left=1:=by simp at h2; omega
   have e:zQX p w=({ p with left:=p.left - 1,px:=p.px++[(pixW (zQo w)).1] },(pixW (zQo w)).2):=by unfold zQX; rw [if_pos h1,if_neg h2]
   rw [e]; ((repeat' apply And.intro) <;> first | rfl | trivial | (simp [ims]; done) | (simp [ops]; done) | (simp [pxs]; done))
  ·have w1:IntKind.wrap .i64 (p.hd+1)=p.hd+1:=IntWalk.i64_in _ ⟨by omega,by omega⟩
   have aH:=zKV { p with hd:=p.hd+1 } (zQo w) (by omega) hne
   simp only [zQO,zQ2,zQU,zQS,zQw] at aH
   rw [w1]
   exact aH
  ·have w1:IntKind.wrap .i64 (p.hd+1)=p.hd+1:=IntWalk.i64_in _ ⟨by omega,by omega⟩
   have e:zQX p w=zQE { p with hd:=p.hd+1 } (zQo w):=by unfold zQX; rw [if_neg h1,if_pos h2]
   rw [e,w1]; ((repeat' apply And.intro) <;> first | rfl | trivial | (simp [ims]; done) | (simp [ops]; done) | (simp [pxs]; done))
  ·have go:zQX p w=(if wAt (zQo w) 0=zZy then ({ p with part:=1,s:={ p.s with ord:=(u32 ((zQo w).drop 1)).1 } },(u32 ((zQo w).drop 1)).2 && decide (0 < (u32 ((zQo w).drop 1)).1.length) && decide (p.part=0))
    else if wAt (zQo w) 0=zQY∨wAt (zQo w) 0=zQ0 then zQM p (zQo w)
    else ({ p with part:=2,s:={ p.s with ops:=p.s.ops++[(opR (zQo w)).1] } },(opR (zQo w)).2 && decide (p.s.ops.length < 4096))):=by unfold zQX; rw [if_neg h1,if_neg h2]
   clear aP aI pe pl hl1 aW
   generalize zQo w=ws at *
   match ws,hne with
   | k::r,_=>
   have s0:sAt (strs (k::r)) 0=toS k:=rfl
   have q0:(strs (k::r))[0]?=some (DV.str (toS k)):=rfl
   have w0:wAt (k::r) 0=k:=rfl
   have dr:List.take (r.length*1) (List.drop (Int.toNat 1*1) (strs (k::r)))=strs r:=zGH 1 _ rfl rfl
   have drn:((((k::r).length:Nat):Int) - 1).toNat=r.length:=by simp
   have d1:(k::r).drop 1=r:=rfl
   have aU:=zYI r (by simp at hsl; omega)
   have f32:zZB r 0 4294967295=u32 r:=rfl
   rw [w0,d1] at go
   simp only [s0,q0,dr,drn,zQw,f32,zXj,decide_eq_true_eq,decide_eq_false_iff_not] at aU ⊢
   have aM:=zKo p (k::r) (by simp at hsl ⊢; omega) (by omega)
   have aO:=jQB (k::r) (by simp at hsl ⊢; omega)
   simp only [zQO,zQ2,zQU,zQS,zQw] at aM aO
   have oe:ops p.s.ops++(opR (k::r)).1.cells=ops (p.s.ops++[(opR (k::r)).1]):=by simp [ops]
   refine ⟨⟨by omega,by simp <;> omega,by simp [zZe]⟩,trivial,fun h3=>⟨⟨by omega,by simp <;> omega,by omega⟩,aU,fun h4=>⟨fun h5=>?_,fun h5=>?_⟩,fun h4=>?_⟩,fun h3=>⟨fun h4=>⟨fun h5=>⟨aM,?_⟩,fun h5=>absurd h4 h5⟩,fun h4=>⟨fun h5=>⟨aM,?_⟩,fun h5=>⟨aO,⟨zQ6 _,rfl,by unfold maxLen; omega,by omega⟩,fun h6=>⟨by unfold maxLen; omega,?_⟩,fun h6=>?_⟩⟩⟩⟩
   ·have b1:(p.part==0)=((u32 r).2 && decide (0 < (u32 r).1.length) && decide (p.part=0)):=by rw [h4,decide_eq_true (by omega:0 < (u32 r).1.length),Bool.true_and,Bool.true_and,Bool.eq_iff_iff]; simp only [beq_iff_eq,decide_eq_true_eq]
    rw [go,if_pos h3,b1]; ((repeat' apply And.intro) <;> first | rfl | trivial)
   ·have b1:false=((u32 r).2 && decide (0 < (u32 r).1.length) && decide (p.part=0)):=by rw [decide_eq_false (by omega:¬0 < (u32 r).1.length)]; simp
    rw [go,if_pos h3]; rw [← b1]; ((repeat' apply And.intro) <;> first | rfl | trivial)
   ·have b1:false=((u32 r).2 && decide (0 < (u32 r).1.length) && decide (p.part=0)):=by rw [h4]; rfl
    rw [go,if_pos h3]; rw [← b1]; ((repeat' apply And.intro) <;> first | rfl | trivial)
   ·rw [go,if_neg h3,if_pos (.inl h4)]; ((repeat' apply And.intro) <;> first | rfl | trivial)
   ·rw [go,if_neg h3,if_pos (.inr h5)]; ((repeat' apply And.intro) <;> first | rfl | trivial)
   ·rw [go,if_neg h3,if_neg (fun h=>h.elim h4 h5),oe]
    have b1:decide ((((p.s.ops.length+1:Nat):Int))≤4096)=((opR (k::r)).2 && decide (p.s.ops.length < 4096)):=by rw [h6,Bool.true_and,Bool.eq_iff_iff]; simp only [decide_eq_true_eq]; omega
    rw [b1]; generalize ((opR (k::r)).2 && decide (p.s.ops.length < 4096))=bb; clear b1 go; (repeat' apply And.intro) <;> first | trivial | (simp only [List.length_append,List.length_cons,List.length_nil]; done) | rfl
   ·rw [go,if_neg h3,if_neg (fun h=>h.elim h4 h5),oe]
    have b1:false=((opR (k::r)).2 && decide (p.s.ops.length < 4096)):=by rw [h6,Bool.false_and]
    rw [← b1]; ((repeat' apply And.intro) <;> first | rfl | trivial | (simp [ims]; done) | (simp [ops]; done) | (simp [pxs]; done))
def zScr:Scr:=⟨0,⟨0,0,0,0⟩,0,0,[],[],[]⟩
def zRP:RP:=⟨zScr,0,0,0,0,0,[]⟩
def rGo (p:RP) (n:Int) (acc:Lb):Lb→Scr × Int × Int
 | []=>if acc≠[]∨p.hd < 3∨0 < p.left then (zScr,n+1,19) else if zZX p.s=true then (p.s,0,0) else (zScr,0,19)
 | c::r=>if c=10 then (if (zQX p acc).2=true then rGo (zQX p acc).1 (n+1) [] r else (zScr,n+1,19)) else rGo p n (acc++[c]) r
def zQ7 (t:Lb):Scr × Int × Int:=rGo zRP 0 [] t
structure RP.ok (p:RP) (k:Nat):Prop where
  im:p.s.ims.length≤k
  op:p.s.ops.length≤k
  px:p.px.length≤k
  l0:0≤p.left
  l1:p.left≤16777216
  h0:0≤p.hd
theorem jWt {ws:List Lb} (h:(nz ws).2=true):∀ n∈(nz ws).1,1≤n∧n≤16777216:=by
 intro n hn
 unfold nz at h hn
 by_cases ha:((ws.drop 1).take 2).all (okN 1 16777216)=true
 ·rw [zZA ha] at hn
  obtain ⟨w,hw,rfl⟩:=List.mem_map.1 hn
  exact zKw (List.all_eq_true.1 ha w hw)
 ·rw [zZM (by simpa using ha)] at h
  exact absurd h (by decide)
theorem jJz {p:RP} {k:Nat} (h:p.ok k) (ws:List Lb):(zQE p ws).1.ok k:=by
 obtain ⟨a,b,c,d,e,f⟩:=h
 unfold zQE
 (repeat' split) <;> exact ⟨a,b,c,d,e,f⟩
theorem jYq {p:RP} {k:Nat} (h:p.ok k) (ws:List Lb):(zQM p ws).1.ok (k+1):=by
 obtain ⟨a,b,c,d,e,f⟩:=h
 unfold zQM
 split
 ·exact ⟨by show p.s.ims.length≤k+1; omega,by show p.s.ops.length≤k+1; omega,by show p.px.length≤k+1; omega,d,e,f⟩
 ·rename_i g1
  split
  ·exact ⟨by show p.s.ims.length≤k+1; omega,by show p.s.ops.length≤k+1; omega,by show p.px.length≤k+1; omega,d,e,f⟩
  ·rename_i g2
   split
   ·exact ⟨by simp; omega,by show p.s.ops.length≤k+1; omega,by show p.px.length≤k+1; omega,d,e,f⟩
   ·have g3:(nz ws).2=true:=by
     cases e:(nz ws).2 with
     | true=>rfl
     | false=>exact absurd (.inl e) g2
    have hin:=jWt g3
    have hlen:(nz ws).1.length=2:=by
     have:((ws.drop 1).take 2).length=2:=by rw [List.length_take,List.length_drop]; omega
     unfold nz at g3 ⊢
     by_cases ha:((ws.drop 1).take 2).all (okN 1 16777216)=true
     ·rw [zZA ha,List.length_map,this]
     ·rw [zZM (by simpa using ha)] at g3; exact absurd g3 (by decide)
    have g4:¬ 16777216 / iAt (nz ws).1 0 < iAt (nz ws).1 1:=fun h=>g2 (.inr h)
    generalize (nz ws).1=l at *
    match l,hlen with
    | [A,B],_=>
    have hA:=hin A (by simp)
    have hB:=hin B (by simp)
    have i0:iAt [A,B] 0=A:=rfl
    have i1:iAt [A,B] 1=B:=rfl
    rw [i0,i1] at g4 ⊢
    have hm:A*B≤16777216:=by
     have h7:=Int.mul_le_mul_of_nonneg_left (by omega:B≤16777216 / A) (by omega:0≤A)
     have h8:=Int.mul_ediv_self_le (x:=16777216) (k:=A) (by omega)
     omega
    exact ⟨by show p.s.ims.length≤k+1; omega,by show p.s.ops.length≤k+1; omega,by show p.px.length≤k+1; omega,Int.mul_nonneg (by omega) (by omega),hm,f⟩
theorem RP.ok.mono {p:RP} {k:Nat} (h:p.ok k):p.ok (k+1):=by
 obtain ⟨a,b,c,d,e,f⟩:=h
 exact ⟨by omega,by omega,by omega,d,e,f⟩
theorem jJy {p:RP} {k:Nat} (h:p.ok k) (w:Lb):(zQX p w).1.ok (k+1):=by
 have ⟨a,b,c,d,e,f⟩:=h
 unfold zQX
 split
 ·split
  ·exact ⟨by simp; omega,by show p.s.ops.length≤k+1; omega,by simp,by simp,by simp,f⟩
  ·exact ⟨by show p.s.ims.length≤k+1; omega,by show p.s.ops.length≤k+1; omega,by simp; omega,by simp; omega,by simp; omega,f⟩
 ·split
  ·exact (jJz (p:={ p with hd:=p.hd+1 }) ⟨a,b,c,d,e,by show 0≤p.hd+1; omega⟩ _).mono
  ·split
   ·exact ⟨by show p.s.ims.length≤k+1; omega,by show p.s.ops.length≤k+1; omega,by show p.px.length≤k+1; omega,d,e,f⟩
   ·split
    ·exact jYq h _
    ·exact ⟨by show p.s.ims.length≤k+1; omega,by simp; omega,by show p.px.length≤k+1; omega,d,e,f⟩
structure Rz where
  i:Nat
  fr:Nat
  n:Nat
  p:RP
def Rz.acc (z:Rz) (t:Lb):Lb:=(t.drop z.fr).take (z.i - z.fr)
def rI (t:Lb) (z:Rz):Prop:=z.fr≤z.i∧z.i≤t.length∧z.n≤z.i∧z.p.ok z.n∧rGo z.p z.n (z.acc t) (t.drop z.i)=zQ7 t
theorem Scr.eta_ (s:Scr):(⟨s.bits,s.c,s.tw,s.th,s.ord,s.ims,s.ops⟩:Scr)=s:=rfl
theorem RP.eta_ (p:RP):(⟨p.s,p.hd,p.part,p.left,p.w,p.h,p.px⟩:RP)=p:=rfl
theorem Rz.step {t:Lb} {z:Rz} (h:z.i < t.length):t.drop z.i=(t[z.i]?).getD 0::t.drop (z.i+1):=by
 rw [List.drop_eq_getElem_cons h,List.getElem?_eq_getElem h]; rfl
theorem Rz.acc_step {t:Lb} {z:Rz} (h:z.i < t.length) (hf:z.fr≤z.i):({ z with i:=z.i+1 }:Rz).acc t=z.acc t++[(t[z.i]?).getD 0]:=by
 unfold Rz.acc
 have e:z.i+1 - z.fr=(z.i - z.fr)+1:=by omega
 show (t.drop z.fr).take (z.i+1 - z.fr)=_
 rw [e,List.take_add_one,List.getElem?_drop,show z.fr+(z.i - z.fr)=z.i by omega,List.getElem?_eq_getElem h]
 rfl
theorem jK3 {t:Lb} {z:Rz} (h:rI t z) (hlt:z.i < t.length) (hc:(t[z.i]?).getD 0≠10):rI t { z with i:=z.i+1 }:=by
 obtain ⟨h1,h2,h3,h4,h5⟩:=h
 refine ⟨by show z.fr≤z.i+1; omega,by show z.i+1≤t.length; omega,by show z.n≤z.i+1; omega,h4,?_⟩
 rw [Rz.acc_step hlt h1,← h5,Rz.step hlt]
 conv=>rhs; rw [rGo,if_neg hc]
theorem jK4 {t:Lb} {z:Rz} (h:rI t z) (hlt:z.i < t.length) (hc:(t[z.i]?).getD 0=10) (hg:(zQX z.p (z.acc t)).2=true):rI t ⟨z.i+1,z.i+1,z.n+1,(zQX z.p (z.acc t)).1⟩:=by
 obtain ⟨h1,h2,h3,h4,h5⟩:=h
 refine ⟨Nat.le_refl _,by show z.i+1≤t.length; omega,by show z.n+1≤z.i+1; omega,jJy h4 _,?_⟩
 rw [← h5,Rz.step hlt]
 conv=>rhs; rw [rGo,if_pos hc,if_pos hg]
 have e:(⟨z.i+1,z.i+1,z.n+1,(zQX z.p (z.acc t)).1⟩:Rz).acc t=[]:=by unfold Rz.acc; simp
 rw [e]
 rfl
theorem jV1 {t:Lb} {z:Rz} (h:rI t z) (hlt:z.i < t.length) (hc:(t[z.i]?).getD 0=10) (hg:(zQX z.p (z.acc t)).2=false):zQ7 t=(zScr,(z.n:Int)+1,19):=by
 obtain ⟨h1,h2,h3,h4,h5⟩:=h
 rw [← h5,Rz.step hlt,rGo,if_pos hc,if_neg (by rw [hg]; decide)]
theorem zHW {t:Lb} {z:Rz} (h:rI t z) (hge:¬z.i < t.length):zQ7 t=if z.fr < t.length∨z.p.hd < 3∨0 < z.p.left then (zScr,(z.n:Int)+1,19) else if zZX z.p.s=true then (z.p.s,0,0) else (zScr,0,19):=by
 obtain ⟨h1,h2,h3,h4,h5⟩:=h
 rw [← h5,List.drop_eq_nil_of_le (by omega),rGo]
 have e:z.acc t≠[]↔z.fr < t.length:=by
  unfold Rz.acc
  rw [List.take_of_length_le (by rw [List.length_drop]; omega)]
  simp
 by_cases c:z.fr < t.length∨z.p.hd < 3∨0 < z.p.left
 ·rw [if_pos c,if_pos (c.imp_left e.2)]
 ·rw [if_neg c,if_neg (fun h=>c (h.imp_left e.1))]
def gZ28 (xs:List RV):Option RV:=match xs with | [.agg [.int _ bits,.int _ cx0,.int _ cy0,.int _ cx1,.int _ cy1,.int _ tw,.int _ th,.sl on oxs,.sl mn mxs,.sl pn pxs]]=>some (RV.d (dQ (zZX (⟨bits,⟨cx0,cy0,cx1,cy1⟩,tw,th,ints oxs,zQR mxs,zQK pxs⟩:Scr)))) | _=>none
def jWx:Gam where
 pure:=fun f xs=>
  if f=44 then gZ28 xs else
  none
 modes:=fun f=>
  if f=43 then some ([false,true],1,3) else
  none
 proc:=fun f xs bs=>
  if f=43 then (match xs,bs with | [AV.one (Cl.ptr 0 0),AV.one (Cl.d (DV.str t))],[Bx.cells [Cl.d (DV.int _ bits),Cl.d (DV.int _ cx0),Cl.d (DV.int _ cy0),Cl.d (DV.int _ cx1),Cl.d (DV.int _ cy1),Cl.d (DV.int _ tw),Cl.d (DV.int _ th),Cl.d (DV.sl on axs),Cl.ref 1 mn,Cl.ref 2 qn,Cl.d (DV.int _ hd),Cl.d (DV.int _ part),Cl.d (DV.int _ left),Cl.d (DV.int _ w),Cl.d (DV.int _ h),Cl.ref 3 ln],Bx.row _ _ mxs,Bx.row _ _ qxs,Bx.row _ _ lxs]=>some ⟨AV.one (Cl.d (dQ (zQX (⟨⟨bits,⟨cx0,cy0,cx1,cy1⟩,tw,th,ints axs,zQR mxs,zQK qxs⟩,hd,part,left,w,h,zQc lxs⟩:RP) (ofS t)).2)),[bC [cJ (zQX (⟨⟨bits,⟨cx0,cy0,cx1,cy1⟩,tw,th,ints axs,zQR mxs,zQK qxs⟩,hd,part,left,w,h,zQc lxs⟩:RP) (ofS t)).1.s.bits,cJ (zQX (⟨⟨bits,⟨cx0,cy0,cx1,cy1⟩,tw,th,ints axs,zQR mxs,zQK qxs⟩,hd,part,left,w,h,zQc lxs⟩:RP) (ofS t)).1.s.c.a,cJ (zQX (⟨⟨bits,⟨cx0,cy0,cx1,cy1⟩,tw,th,ints axs,zQR mxs,zQK qxs⟩,hd,part,left,w,h,zQc lxs⟩:RP) (ofS t)).1.s.c.b,cJ (zQX (⟨⟨bits,⟨cx0,cy0,cx1,cy1⟩,tw,th,ints axs,zQR mxs,zQK qxs⟩,hd,part,left,w,h,zQc lxs⟩:RP) (ofS t)).1.s.c.c,cJ (zQX (⟨⟨bits,⟨cx0,cy0,cx1,cy1⟩,tw,th,ints axs,zQR mxs,zQK qxs⟩,hd,part,left,w,h,zQc lxs⟩:RP) (ofS t)).1.s.c.d,cJ (zQX (⟨⟨bits,⟨cx0,cy0,cx1,cy1⟩,tw,th,ints axs,zQR mxs,zQK qxs⟩,hd,part,left,w,h,zQc lxs⟩:RP) (ofS t)).1.s.tw,cJ (zQX (⟨⟨bits,⟨cx0,cy0,cx1,cy1⟩,tw,th,ints axs,zQR mxs,zQK qxs⟩,hd,part,left,w,h,zQc lxs⟩:RP) (ofS t)).1.s.th,Cl.d (dS (zQX (⟨⟨bits,⟨cx0,cy0,cx1,cy1⟩,tw,th,ints axs,zQR mxs,zQK qxs⟩,hd,part,left,w,h,zQc lxs⟩:RP) (ofS t)).1.s.ord.length (is (zQX (⟨⟨bits,⟨cx0,cy0,cx1,cy1⟩,tw,th,ints axs,zQR mxs,zQK qxs⟩,hd,part,left,w,h,zQc lxs⟩:RP) (ofS t)).1.s.ord)),Cl.ref 1 (zQX (⟨⟨bits,⟨cx0,cy0,cx1,cy1⟩,tw,th,ints axs,zQR mxs,zQK qxs⟩,hd,part,left,w,h,zQc lxs⟩:RP) (ofS t)).1.s.ims.length,Cl.ref 2 (zQX (⟨⟨bits,⟨cx0,cy0,cx1,cy1⟩,tw,th,ints axs,zQR mxs,zQK qxs⟩,hd,part,left,w,h,zQc lxs⟩:RP) (ofS t)).1.s.ops.length,cJ (zQX (⟨⟨bits,⟨cx0,cy0,cx1,cy1⟩,tw,th,ints axs,zQR mxs,zQK qxs⟩,hd,part,left,w,h,zQc lxs⟩:RP) (ofS t)).1.hd,cJ (zQX (⟨⟨bits,⟨cx0,cy0,cx1,cy1⟩,tw,th,ints axs,zQR mxs,zQK qxs⟩,hd,part,left,w,h,zQc lxs⟩:RP) (ofS t)).1.part,cJ (zQX (⟨⟨bits,⟨cx0,cy0,cx1,cy1⟩,tw,th,ints axs,zQR mxs,zQK qxs⟩,hd,part,left,w,h,zQc lxs⟩:RP) (ofS t)).1.left,cJ (zQX (⟨⟨bits,⟨cx0,cy0,cx1,cy1⟩,tw,th,ints axs,zQR mxs,zQK qxs⟩,hd,part,left,w,h,zQc lxs⟩:RP) (ofS t)).1.w,cJ (zQX (⟨⟨bits,⟨cx0,cy0,cx1,cy1⟩,tw,th,ints axs,zQR mxs,zQK qxs⟩,hd,part,left,w,h,zQc lxs⟩:RP) (ofS t)).1.h,Cl.ref 3 (zQX (⟨⟨bits,⟨cx0,cy0,cx1,cy1⟩,tw,th,ints axs,zQR mxs,zQK qxs⟩,hd,part,left,w,h,zQc lxs⟩:RP) (ofS t)).1.px.length],Bx.row 43 28 (ims (zQX (⟨⟨bits,⟨cx0,cy0,cx1,cy1⟩,tw,th,ints axs,zQR mxs,zQK qxs⟩,hd,part,left,w,h,zQc lxs⟩:RP) (ofS t)).1.s.ims),Bx.row 51 12 (ops (zQX (⟨⟨bits,⟨cx0,cy0,cx1,cy1⟩,tw,th,ints axs,zQR mxs,zQK qxs⟩,hd,part,left,w,h,zQc lxs⟩:RP) (ofS t)).1.s.ops),Bx.row 37 5 (pxs (zQX (⟨⟨bits,⟨cx0,cy0,cx1,cy1⟩,tw,th,ints axs,zQR mxs,zQK qxs⟩,hd,part,left,w,h,zQc lxs⟩:RP) (ofS t)).1.px)],false⟩ | _,_=>none) else
  none
 iter:=fun f cs=>
  none
theorem zHt (w:Lb) (hw:w.length≤68719476700):Ans prog 17 [RV.d (DV.str (toS w))] (RV.tup [RV.agg [dJ ((zQ7 (ofS (toS w))).1.bits),dJ ((zQ7 (ofS (toS w))).1.c.a),dJ ((zQ7 (ofS (toS w))).1.c.b),dJ ((zQ7 (ofS (toS w))).1.c.c),dJ ((zQ7 (ofS (toS w))).1.c.d),dJ ((zQ7 (ofS (toS w))).1.tw),dJ ((zQ7 (ofS (toS w))).1.th),dS ((zQ7 (ofS (toS w))).1.ord.length) (is (zQ7 (ofS (toS w))).1.ord),dS ((zQ7 (ofS (toS w))).1.ims.length) (ims (zQ7 (ofS (toS w))).1.ims),dS ((zQ7 (ofS (toS w))).1.ops.length) (ops (zQ7 (ofS (toS w))).1.ops)],rJ (((zQ7 (ofS (toS w))).2.1)),rJ (((zQ7 (ofS (toS w))).2.2))]):=
 zQj (Γ:=jWx) (Ann.seq Ann.leaf (Ann.seq Ann.leaf (Ann.seq Ann.leaf (Ann.seq (Ann.seq Ann.leaf (Ann.loop ⟨Rz,fun z:Rz=>rI w z,fun z:Rz=>⟨[(0,AV.one (Cl.d (DV.str (toS w)))),(2,AV.one (Cl.ptr 2 0)),(5,AV.one (Cl.ptr 10 0)),(6,aJ (z.fr:Int)),(7,aJ (z.n:Int)),(8,aJ (z.i:Int))],[(2,bC [cJ 0,cJ 0,cJ 0,cJ 0,cJ 0,cJ 0,cJ 0,Cl.nil,Cl.nil,Cl.nil]),(10,bC [cJ z.p.s.bits,cJ z.p.s.c.a,cJ z.p.s.c.b,cJ z.p.s.c.c,cJ z.p.s.c.d,cJ z.p.s.tw,cJ z.p.s.th,Cl.d (dS z.p.s.ord.length (is z.p.s.ord)),Cl.ref 9001 z.p.s.ims.length,Cl.ref 9002 z.p.s.ops.length,cJ z.p.hd,cJ z.p.part,cJ z.p.left,cJ z.p.w,cJ z.p.h,Cl.ref 9003 z.p.px.length]),(9001,Bx.row 43 28 (ims z.p.s.ims)),(9002,Bx.row 51 12 (ops z.p.s.ops)),(9003,Bx.row 37 5 (pxs z.p.px))]⟩,fun z:Rz=>w.length - z.i⟩ fun z=>Ann.leaf)) Ann.leaf)))) zQs Tryz.func17 rfl (nL rfl) fun hwf=>by
  refine Eq.mpr (by kernel_rfl:_=(let d:=(((toS w).size:Nat):Int); let b:=(zQ7 (ofS (toS w))); let f:=(DV.str (toS w)=DV.str (toS w)); let c:=(dJ 0=dJ 0); let g:=(c∧c∧c∧c∧c∧c∧c∧tU3 True); let j:=fun (z:Rz)=>fun (z':Rz)=>(w.length - z'.i < w.length - z.i); let k:=fun (z:Rz)=>fun (z':Rz)=>(dJ (wK ((z.i:Int)+1))=dJ (z'.i:Int)); let l:=[dJ 0,dJ 0,dJ 0,dJ 0,dJ 0,dJ 0,dJ 0,dS 0 ([]),dS 0 ([]),dS 0 ([])]; let r:=fun (z:Rz)=>[RV.agg l,rJ (wK ((z.n:Int)+1)),rJ 19]; let h:=[RV.agg [dJ b.1.bits,dJ b.1.c.a,dJ b.1.c.b,dJ b.1.c.c,dJ b.1.c.d,dJ b.1.tw,dJ b.1.th,dS b.1.ord.length (is b.1.ord),dS b.1.ims.length (ims b.1.ims),dS b.1.ops.length (ops b.1.ops)],rJ b.2.1,rJ b.2.2]; let m:=fun (z:Rz)=>[dJ z.p.s.bits,dJ z.p.s.c.a,dJ z.p.s.c.b,dJ z.p.s.c.c,dJ z.p.s.c.d,dJ z.p.s.tw,dJ z.p.s.th,dS z.p.s.ord.length (is z.p.s.ord),dS z.p.s.ims.length (ims z.p.s.ims),dS z.p.s.ops.length (ops z.p.s.ops)]; True∧tU8 ((∃ z:Rz,(rI w z)∧((f∧(0=0)∧(0=0)∧(dJ 0=dJ (z.fr:Int))∧(dJ 0=dJ (z.n:Int))∧(dJ 0=dJ (z.i:Int))∧True)∧(g∧((dJ 0=dJ z.p.s.bits)∧(dJ 0=dJ z.p.s.c.a)∧(dJ 0=dJ z.p.s.c.b)∧(dJ 0=dJ z.p.s.c.c)∧(dJ 0=dJ z.p.s.c.d)∧(dJ 0=dJ z.p.s.tw)∧(dJ 0=dJ z.p.s.th)∧(dS 0 []=dS z.p.s.ord.length (is z.p.s.ord))∧(0=z.p.s.ims.length)∧(0=z.p.s.ops.length)∧(dJ 0=dJ z.p.hd)∧(dJ 0=dJ z.p.part)∧(dJ 0=dJ z.p.left)∧(dJ 0=dJ z.p.w)∧(dJ 0=dJ z.p.h)∧(0=z.p.px.length)∧True)∧([]=ims z.p.s.ims)∧([]=ops z.p.s.ops)∧([]=pxs z.p.px)∧True)))∧∀ z:Rz,let i:=((sE z.p.s):Scr); let n:=(decide ((z.i:Int) < d)); let o:=(decide ((z.fr:Int) < d)); let p:=(ByteArray.extract (toS w) (z.fr:Int).toNat (z.i:Int).toNat); let q:=(((((toS w).data.toList[(z.i:Int).toNat]?.getD 0).toNat:Nat):Int) != 10); let e:=(RV.tup (r z)=RV.tup h); let a:=(zQX (rE z.p) (ofS p)); (rI w z)→tU4 ((n=true→tU2 ((0≤(z.i:Int)∧(z.i:Int) < d)∧True∧((q=true→tU3 (∃ z':Rz,(rI w z')∧(j z z')∧((f∧(0=0)∧(0=0)∧(dJ (z.fr:Int)=dJ (z'.fr:Int))∧(dJ (z.n:Int)=dJ (z'.n:Int))∧(k z z')∧True)∧(g∧((dJ z.p.s.bits=dJ z'.p.s.bits)∧(dJ z.p.s.c.a=dJ z'.p.s.c.a)∧(dJ z.p.s.c.b=dJ z'.p.s.c.b)∧(dJ z.p.s.c.c=dJ z'.p.s.c.c)∧(dJ z.p.s.c.d=dJ z'.p.s.c.d)∧(dJ z.p.s.tw=dJ z'.p.s.tw)∧(dJ z.p.s.th=dJ z'.p.s.th)∧(dS z.p.s.ord.length (is z.p.s.ord)=dS z'.p.s.ord.length (is z'.p.s.ord))∧(z.p.s.ims.length=z'.p.s.ims.length)∧(z.p.s.ops.length=z'.p.s.ops.length)∧(dJ z.p.hd=dJ z'.p.hd)∧(dJ z.p.part=dJ z'.p.part)∧(dJ z.p.left=dJ z'.p.left)∧(dJ z.p.w=dJ z'.p.w)∧(dJ z.p.h=dJ z'.p.h)∧(z.p.px.length=z'.p.px.length)∧True)∧(ims z.p.s.ims=ims z'.p.s.ims)∧(ops z.p.s.ops=ops z'.p.s.ops)∧(pxs z.p.px=pxs z'.p.px)∧True))))∧(q=false→tU7 ((0≤(z.fr:Int)∧(z.fr:Int)≤(z.i:Int)∧(z.i:Int)≤d)∧(AnsG prog 43 1 [aPz,AV.one (Cl.d (DV.str p))] [bC [cJ z.p.s.bits,cJ z.p.s.c.a,cJ z.p.s.c.b,cJ z.p.s.c.c,cJ z.p.s.c.d,cJ z.p.s.tw,cJ z.p.s.th,Cl.d (dS z.p.s.ord.length (is z.p.s.ord)),Cl.ref 1 z.p.s.ims.length,Cl.ref 2 z.p.s.ops.length,cJ z.p.hd,cJ z.p.part,cJ z.p.left,cJ z.p.w,cJ z.p.h,Cl.ref 3 z.p.px.length],Bx.row 43 28 (ims z.p.s.ims),Bx.row 51 12 (ops z.p.s.ops),Bx.row 37 5 (pxs z.p.px)] ⟨AV.one (Cl.d (dQ a.2)),[bC [cJ a.1.s.bits,cJ a.1.s.c.a,cJ a.1.s.c.b,cJ a.1.s.c.c,cJ a.1.s.c.d,cJ a.1.s.tw,cJ a.1.s.th,Cl.d (dS a.1.s.ord.length (is a.1.s.ord)),Cl.ref 1 a.1.s.ims.length,Cl.ref 2 a.1.s.ops.length,cJ a.1.hd,cJ a.1.part,cJ a.1.left,cJ a.1.w,cJ a.1.h,Cl.ref 3 a.1.px.length],Bx.row 43 28 (ims a.1.s.ims),Bx.row 51 12 (ops a.1.s.ops),Bx.row 37 5 (pxs a.1.px)],false⟩)∧True∧(((!a.2)=true→tU5 e)∧((!a.2)=false→tU6 (∃ z':Rz,(rI w z')∧(j z z')∧((f∧(0=0)∧(0=0)∧(dJ (wK ((z.i:Int)+1))=dJ (z'.fr:Int))∧(dJ (wK ((z.n:Int)+1))=dJ (z'.n:Int))∧(k z z')∧True)∧(g∧((dJ a.1.s.bits=dJ z'.p.s.bits)∧(dJ a.1.s.c.a=dJ z'.p.s.c.a)∧(dJ a.1.s.c.b=dJ z'.p.s.c.b)∧(dJ a.1.s.c.c=dJ z'.p.s.c.c)∧(dJ a.1.s.c.d=dJ z'.p.s.c.d)∧(dJ a.1.s.tw=dJ z'.p.s.tw)∧(dJ a.1.s.th=dJ z'.p.s.th)∧(dS a.1.s.ord.length (is a.1.s.ord)=dS z'.p.s.ord.length (is z'.p.s.ord))∧(a.1.s.ims.length=z'.p.s.ims.length)∧(a.1.s.ops.length=z'.p.s.ops.length)∧(dJ a.1.hd=dJ z'.p.hd)∧(dJ a.1.part=dJ z'.p.part)∧(dJ a.1.left=dJ z'.p.left)∧(dJ a.1.w=dJ z'.p.w)∧(dJ a.1.h=dJ z'.p.h)∧(a.1.px.length=z'.p.px.length)∧True)∧(ims a.1.s.ims=ims z'.p.s.ims)∧(ops a.1.s.ops=ops z'.p.s.ops)∧(pxs a.1.px=pxs z'.p.px)∧True))))))))))∧(n=false→tU5 ((o=false→tU7 (((decide (z.p.hd < 3))=false→tU6 (((decide (z.p.left > 0))=true→tU6 e)∧((decide (z.p.left > 0))=false→tU4 ((Ans prog 44 [RV.agg (m z)] (RV.d (dQ (zZX i))))∧True∧(((!(zZX i))=true→tU4 (RV.tup [RV.agg l,rJ 0,rJ 19]=RV.tup h))∧((!(zZX i))=false→tU7 (RV.tup [RV.agg (m z),rJ 0,rJ 0]=RV.tup h)))))))∧((decide (z.p.hd < 3))=(!false)→tU7 e)))∧(o=(!false)→True∧tU8 e))))))) ?_
  delta sE rE dJ dQ cJ wK dS rJ aPz bC
  simp only [sS]
  simp only [zQO,zQ2,zQU,zQS,zQw,zQN]
  have hM:∀ k:Nat,k≤1099511627776→k≤maxLen:=fun k h=>by unfold maxLen; omega
  clear hwf
  simp only [Scr.eta_,RP.eta_,zQF,zYG]
  refine ⟨⟨⟨0,0,0,zRP⟩,⟨Nat.le_refl _,Nat.zero_le _,Nat.le_refl _,⟨Nat.le_refl _,Nat.le_refl _,Nat.le_refl _,by decide,by decide,by decide⟩,rfl⟩,⟨rfl,rfl,rfl⟩,(by (repeat' apply And.intro) <;> first | rfl | trivial)⟩,fun z hz=>?_⟩
  have hz':=hz
  obtain ⟨h1,h2,h3,h4,h5⟩:=hz'
  obtain ⟨k1,k2,k3,k4,k5,k6⟩:=h4
  have hx:(toS w).extract z.fr z.i=toS (z.acc w):=zKO w z.fr z.i
  have hal:(z.acc w).length≤w.length:=by unfold Rz.acc; rw [List.length_take,List.length_drop]; omega
  have aL:=zKU z.p (z.acc w) (by omega) (by omega) (by omega) (by omega) k5 k6
  have aE:=zY5 z.p.s
  have wi:IntKind.wrap .i64 ((z.i:Int)+1)=((z.i+1:Nat):Int):=by rw [IntWalk.i64_in _ ⟨by omega,by omega⟩]; omega
  have wn:IntKind.wrap .i64 ((z.n:Int)+1)=((z.n+1:Nat):Int):=by rw [IntWalk.i64_in _ ⟨by omega,by omega⟩]; omega
  have wn':((z.n+1:Nat):Int)=(z.n:Int)+1:=by omega
  simp only [zQO,zQ2,zQU,zQS,zQN,Scr.eta_,RP.eta_] at aL aE
  rw [hx,wi,wn]
  simp only [zQN]
  have hc:∀ c:UInt8,(((c.toNat:Int) != 10)=true→c≠10)∧(((c.toNat:Int) != 10)=false→c=10):=fun c=>⟨fun h e=>by subst e; exact absurd h (by decide),fun h=>by
   have h:c.toNat=10:=by simp at h; omega
   exact UInt8.toNat_inj.1 h⟩
  refine ⟨fun g1=>⟨⟨by omega,g1⟩,fun g2=>?_,fun g2=>⟨⟨by omega,by omega,by omega⟩,aL,fun g3=>?_,fun g3=>?_⟩⟩,fun g1=>⟨fun g2=>⟨fun g3=>⟨fun g4=>?_,fun g4=>⟨aE,fun g5=>?_,fun g5=>?_⟩⟩,fun g3=>?_⟩,fun g2=>?_⟩⟩
  ·exact ⟨_,jK3 hz (by omega) ((hc _).1 g2),by show w.length - (z.i+1) < _; omega,⟨rfl,rfl,rfl⟩,(by (repeat' apply And.intro) <;> first | rfl | trivial)⟩
  ·rw [jV1 hz (by omega) ((hc _).2 g2) g3,wn']; exact (by (repeat' apply And.intro) <;> first | rfl | trivial)
  ·exact ⟨_,jK4 hz (by omega) ((hc _).2 g2) g3,by show w.length - (z.i+1) < _; omega,⟨rfl,rfl,rfl⟩,(by (repeat' apply And.intro) <;> first | rfl | trivial)⟩
  ·rw [zHW hz (by omega),if_pos (.inr (.inr g4)),wn']; exact (by (repeat' apply And.intro) <;> first | rfl | trivial)
  ·rw [zHW hz (by omega),if_neg (by omega),if_neg (by rw [g5]; decide)]; exact (by (repeat' apply And.intro) <;> first | rfl | trivial)
  ·rw [zHW hz (by omega),if_neg (by omega),if_pos g5]; exact (by (repeat' apply And.intro) <;> first | rfl | trivial)
  ·rw [zHW hz (by omega),if_pos (.inr (.inl g3)),wn']; exact (by (repeat' apply And.intro) <;> first | rfl | trivial)
  ·rw [zHW hz (by omega),if_pos (.inl (by omega)),wn']; exact (by (repeat' apply And.intro) <;> first | rfl | trivial)
end
section
attribute [local irreducible] Ans AnsO AnsG AnsN AnsI
theorem sizeIm_le' {m:Im} (h:m.formed=true):m.w*m.h≤16777216:=by
 have h1:zQ8 m.w m.h=true:=by unfold Im.formed at h; exact (Bool.and_eq_true_iff.1 h).1
 simp only [zQ8,Bool.and_eq_true,decide_eq_true_eq] at h1
 omega
structure Enc (s:Scr):Prop where
  fm:s.ims.all Im.formed=true
  sz:zXC s s.ims≤67108864
  bits:0≤s.bits∧s.bits≤255
  il:s.ims.length≤64
  ol:s.ops.length≤4096
def gZ29 (xs:List RV):Option RV:=match xs with | [.d (.bool is_)]=>some (rJ (if is_ then 1 else 0)) | _=>none
def jWB:Gam where
 pure:=fun f xs=>
  if f=70 then gZ29 xs else
  none
 modes:=fun f=>
  none
 proc:=fun f xs bs=>
  none
 iter:=fun f cs=>
  none
theorem zUC (is_:Bool):Ans prog 70 [RV.d (dQ is_)] (rJ ((if is_ then 1 else 0))):=
 zQj (Γ:=jWB) Ann.leaf zQs Tryz.func70 rfl (nL rfl) fun hwf=>by
  refine Eq.mpr (by kernel_rfl:_=(let a:=(dJ (if is_ then 1 else 0)); tU2 ((is_=true→True∧rJ 1=RV.d a)∧(is_=false→True∧rJ 0=RV.d a)))) ?_
  delta dJ rJ
  simp only [sS]
  cases is_ <;> simp
end
section
attribute [local irreducible] Ans AnsO AnsG AnsN AnsI
open Go.Lib
def prtO (o:Oq):Bool:=
 if o.kind=1 then !o.iso && !o.kno && decide (1≤o.oper∧o.oper < 13) && decide (1≤o.mode∧o.mode < 13)
 else if o.kind=2 then decide (o.image=0) && decide (o.x=0) && decide (o.y=0) && decide (1≤o.oper∧o.oper < 13) && decide (1≤o.mode∧o.mode < 13)
 else if o.kind=3 then decide (o=popO) else false
def zYz (s:Scr):Bool:=zZX s && s.ops.all prtO
def smpP (p:Px):List Int:=[p.a,p.b,p.c,p.al,p.f]
def bitN (b:Bool):Int:=if b then 1 else 0
def zYv (o:Oq):Lb:=[32]++ofS (zQn o.oper)++[32]++ofS (zQe o.mode)
def opTx (o:Oq):Lb:=
 if o.kind=1 then zQH zZ0 [o.image,o.x,o.y,o.mask,o.mx,o.my,o.opac]++zYv o
 else if o.kind=2 then zQH zZ1 [o.mask,o.mx,o.my,o.opac]++zQH (zYv o) [bitN o.iso,bitN o.kno]
 else sPop
def pxTx (p:Px):Lb:=zQH [] (smpP p)++[10]
def imTx (m:Im):Lb:=if m.so then zQH (zQH zQY [m.w,m.h]) (smpP m.c)++[10] else zQH zQ0 [m.w,m.h]++[10]++m.pixels.flatMap pxTx
def hdTx (s:Scr):Lb:=zQH zYc [s.bits]++[10]++zQH zZE [s.c.a,s.c.b,s.c.c,s.c.d]++[10]++zQH zXa [s.tw,s.th]++[10]
def orTx (s:Scr):Lb:=if 0 < s.ord.length then zQH zZy s.ord++[10] else []
def opLn (o:Oq):Lb:=opTx o++[10]
def fmtT (s:Scr):Lb:=hdTx s++orTx s++s.ims.flatMap imTx++s.ops.flatMap opLn
theorem zVe {w:Lb} {l:List Int} (h:∀ n∈l,-9223372036854775808≤n∧n≤9223372036854775807):(zQH w l).length≤w.length+22*l.length:=by
 induction l generalizing w with
 | nil=>simp [zQH]
 | cons n l ih=>
  have h1:=zVh n (h n (by simp))
  have h2:=ih (w:=(if w=[] then [] else w++[32])++itoa n) fun m hm=>h m (by simp [hm])
  have h3:zQH w (n::l)=zQH ((if w=[] then [] else w++[32])++itoa n) l:=rfl
  have h4:((if w=[] then [] else w++[32])++itoa n).length≤w.length+1+(itoa n).length:=by
   rw [List.length_append]
   split <;> simp
  rw [h3,List.length_cons]
  omega
theorem zGg (op:Int):(ofS (zQn op)).length≤20:=by
 by_cases h:1≤op∧op < 13
 ·rcases zX0 h with rfl | rfl | rfl | rfl | rfl | rfl | rfl | rfl | rfl | rfl | rfl | rfl <;> decide +kernel
 ·simp [zQn,h,ofS]
theorem zVV (op:Int):(ofS (zQe op)).length≤20:=by
 by_cases h:1≤op∧op < 13
 ·rcases zX0 h with rfl | rfl | rfl | rfl | rfl | rfl | rfl | rfl | rfl | rfl | rfl | rfl <;> decide +kernel
 ·simp [zQe,h,ofS]
theorem jVP (b:Bool):(if b=true then (1:Int) else 0)=bitN b:=rfl
theorem zHm (b:Bool):0≤bitN b∧bitN b≤1:=by cases b <;> simp [bitN]
theorem R18_line_ans' (w:Lb) (l:List Int) (hw:w.length≤1000) (hl:l.length≤68719476736):Ans prog 31 [RV.d (DV.str (toS w)),RV.d (DV.sl l.length (is l))] (RV.d (DV.str (toS (zQH w l)))):=by
 have h:=jQA w l hw hl
 simpa only [zQN,zQO] using h
theorem R18_Encodable_ans' (s:Scr):Ans prog 44 [RV.agg [DV.int .i64 s.bits,DV.int .i64 s.c.a,DV.int .i64 s.c.b,DV.int .i64 s.c.c,DV.int .i64 s.c.d,DV.int .i64 s.tw,DV.int .i64 s.th,DV.sl s.ord.length (is s.ord),DV.sl s.ims.length (ims s.ims),DV.sl s.ops.length (ops s.ops)]] (RV.d (DV.bool (zZX s))):=zY5 s
def fmtR (s:Scr):Lb × Int:=if zYz s=true then (fmtT s,0) else ([],19)
def gZ30 (xs:List RV):Option RV:=match xs with | [.agg [.int _ bits,.int _ cx0,.int _ cy0,.int _ cx1,.int _ cy1,.int _ tw,.int _ th,.sl on oxs,.sl mn mxs,.sl pn pxs]]=>some (RV.d (dQ (zYz (⟨bits,⟨cx0,cy0,cx1,cy1⟩,tw,th,ints oxs,zQR mxs,zQK pxs⟩:Scr)))) | _=>none
def gZ31 (xs:List RV):Option RV:=match xs with | [.d (.str s),.d (.sl ln lxs)]=>some (RV.d (DV.str (toS (zQH (ofS s) (ints lxs))))) | _=>none
def gZ32 (xs:List RV):Option RV:=match xs with | [.agg [.int _ c0,.int _ c1,.int _ c2,.int _ ca,.int _ cf]]=>some (RV.d (dS 5 (is (smpP (⟨c0,c1,c2,ca,cf⟩:Px))))) | _=>none
def gZ33 (xs:List RV):Option RV:=match xs with | [.agg [.int _ okind,.int _ oimage,.int _ ox,.int _ oy,.int _ omask,.int _ omx,.int _ omy,.int _ oopac,.int _ ooper,.int _ omode,.bool oiso,.bool okno]]=>some (RV.d (DV.str (toS (opTx (⟨okind,oimage,ox,oy,omask,omx,omy,oopac,ooper,omode,oiso,okno⟩:Oq))))) | _=>none
def jVA:Gam where
 pure:=fun f xs=>
  if f=44 then gZ28 xs else
  if f=30 then gZ30 xs else
  if f=31 then gZ31 xs else
  if f=32 then gZ32 xs else
  if f=34 then gZ33 xs else
  if f=70 then gZ29 xs else
  if f=63 then gZ2 xs else
  if f=64 then gZ2 xs else
  if f=68 then gZ1 xs else
  if f=69 then gZ3 xs else
  none
 modes:=fun f=>
  none
 proc:=fun f xs bs=>
  none
 iter:=fun f cs=>
  none
theorem zUB (p:Px):Ans prog 32 [RV.agg [dK p.a,dK p.b,dK p.c,dK p.al,dK p.f]] (RV.d (dS 5 (is (smpP p)))):=
 zQj (Γ:=jVA) Ann.leaf zQs Tryz.func32 rfl (nL rfl) fun hwf=>by
  refine Eq.mpr (by kernel_rfl:_=(tU3 ((0≤(0:Int)∧(0:Int) < ((3:Nat):Int))∧tU3 ((0≤(1:Int)∧(1:Int) < ((3:Nat):Int))∧tU3 ((0≤(2:Int)∧(2:Int) < ((3:Nat):Int))∧tU2 (tU8 (RV.d (dS 5 ([dJ (wK p.a),dJ (wK p.b),dJ (wK p.c),dJ (wK p.al),dJ (wK p.f)]))=RV.d (dS 5 (is (smpP p)))))))))) ?_
  delta dJ wK dS
  simp only [sS]
  have hmn:IntKind.min .i64 = -9223372036854775808:=by decide
  have hmx:IntKind.max .i64=9223372036854775807:=by decide
  have hmn6:IntKind.min .u16=0:=by decide
  have hmx6:IntKind.max .u16=65535:=by decide
  simp only [RV.wfs,RV.wf,DV.wf,DV.wfs] at hwf
  have w:∀ n:Int,0≤n∧n≤65535→IntKind.wrap .i64 n=n:=fun n h=>IntWalk.i64_in _ ⟨by omega,by omega⟩
  rw [w p.a (by omega),w p.b (by omega),w p.c (by omega),w p.al (by omega),w p.f (by omega)]
  exact ⟨by decide,by decide,by decide,rfl⟩
theorem zUS (o:Oq):Ans prog 34 [RV.agg [dJ o.kind,dJ o.image,dJ o.x,dJ o.y,dJ o.mask,dJ o.mx,dJ o.my,dK o.opac,dJ o.oper,dJ o.mode,dQ o.iso,dQ o.kno]] (RV.d (DV.str (toS (opTx o)))):=
 zQj (Γ:=jVA) Ann.leaf zQs Tryz.func34 rfl (nL rfl) fun hwf=>by
  refine Eq.mpr (by kernel_rfl:_=(let e:=(zQe o.mode); let f:=(DV.str (toS (opTx o))); let a:=(zQn o.oper); let b:=((((⟨#[32]⟩:ByteArray)++a)++(⟨#[32]⟩:ByteArray))++e); let c:=([dJ o.image,dJ o.x,dJ o.y,dJ o.mask,dJ o.mx,dJ o.my,dJ (wK o.opac)]); let d:=([dJ o.mask,dJ o.mx,dJ o.my,dJ (wK o.opac)]); let h:=([dJ (if o.iso then 1 else 0),dJ (if o.kno then 1 else 0)]); let g:=(toS (zQH (ofS b) (ints h))); tU4 ((Ans prog 68 [rJ o.oper] (RV.d (DV.str a)))∧((⟨#[32]⟩:ByteArray).size+a.size≤maxLen)∧(((⟨#[32]⟩:ByteArray)++a).size+(⟨#[32]⟩:ByteArray).size≤maxLen)∧tU2 ((Ans prog 69 [rJ o.mode] (RV.d (DV.str e)))∧((((⟨#[32]⟩:ByteArray)++a)++(⟨#[32]⟩:ByteArray)).size+e.size≤maxLen)∧True∧(true=true)∧tU4 (((o.kind==1)=true→tU8 (tU8 ((Ans prog 31 [RV.d (DV.str (⟨#[100,114,97,119]⟩:ByteArray)),RV.d (dS 7 c)] (RV.d (DV.str (toS (zQH (ofS (⟨#[100,114,97,119]⟩:ByteArray)) (ints c))))))∧True∧((toS (zQH (ofS (⟨#[100,114,97,119]⟩:ByteArray)) (ints c))).size+b.size≤maxLen)∧True∧RV.d (DV.str ((toS (zQH (ofS (⟨#[100,114,97,119]⟩:ByteArray)) (ints c)))++b))=RV.d f)))∧((o.kind==1)=false→tU2 (((o.kind==2)=true→tU2 (tU8 ((Ans prog 31 [RV.d (DV.str (⟨#[112,117,115,104]⟩:ByteArray)),RV.d (dS 4 d)] (RV.d (DV.str (toS (zQH (ofS (⟨#[112,117,115,104]⟩:ByteArray)) (ints d))))))∧tU3 ((Ans prog 70 [RV.d (dQ o.iso)] (rJ (if o.iso then 1 else 0)))∧tU2 ((Ans prog 70 [RV.d (dQ o.kno)] (rJ (if o.kno then 1 else 0)))∧True∧(Ans prog 31 [RV.d (DV.str b),RV.d (dS 2 h)] (RV.d (DV.str g)))∧((toS (zQH (ofS (⟨#[112,117,115,104]⟩:ByteArray)) (ints d))).size+g.size≤maxLen)∧True∧(true=true)∧RV.d (DV.str ((toS (zQH (ofS (⟨#[112,117,115,104]⟩:ByteArray)) (ints d)))++g))=RV.d f)))))∧((o.kind==2)=false→True∧RV.d (DV.str (⟨#[112,111,112]⟩:ByteArray))=RV.d f)))))))) ?_
  delta dJ dQ wK dS rJ
  simp only [sS]
  have hmn:IntKind.min .i64 = -9223372036854775808:=by decide
  have hmx:IntKind.max .i64=9223372036854775807:=by decide
  have hmn6:IntKind.min .u16=0:=by decide
  have hmx6:IntKind.max .u16=65535:=by decide
  simp only [RV.wfs,RV.wf,DV.wf,DV.wfs] at hwf
  have hM:∀ k:Nat,k≤100000→k≤maxLen:=fun k h=>by unfold maxLen; omega
  have wo:IntKind.wrap .i64 o.opac=o.opac:=IntWalk.i64_in _ ⟨by omega,by omega⟩
  have b1:=zHm o.iso
  have b2:=zHm o.kno
  have aO:=zXq o.oper
  have aM:=zXu o.mode
  have aI:=zUC o.iso
  have aK:=zUC o.kno
  have l1:=zGg o.oper
  have l2:=zVV o.mode
  have ht:zYv o=[32]++ofS (zQn o.oper)++[32]++ofS (zQe o.mode):=rfl
  generalize hn1:ofS (zQn o.oper)=n1 at *
  generalize hn2:ofS (zQe o.mode)=n2 at *
  have e1:zQn o.oper=toS n1:=by rw [← hn1,zY7]
  have e2:zQe o.mode=toS n2:=by rw [← hn2,zY7]
  have e32:(⟨#[32]⟩:ByteArray)=toS [32]:=rfl
  have lt:(⟨#[100,114,97,119]⟩:ByteArray)=toS zZ0:=rfl
  have lp:(⟨#[112,117,115,104]⟩:ByteArray)=toS zZ1:=rfl
  have lq:(⟨#[112,111,112]⟩:ByteArray)=toS sPop:=rfl
  have aD:=R18_line_ans' zZ0 [o.image,o.x,o.y,o.mask,o.mx,o.my,o.opac] (by decide) (by simp)
  have aP:=R18_line_ans' zZ1 [o.mask,o.mx,o.my,o.opac] (by decide) (by simp)
  have aT:=R18_line_ans' (zYv o) [bitN o.iso,bitN o.kno] (by rw [ht]; simp only [List.length_append,List.length_cons,List.length_nil]; omega) (by simp)
  have lD:(zQH zZ0 [o.image,o.x,o.y,o.mask,o.mx,o.my,o.opac]).length≤4+22*7:=zVe fun n hn=>by
   simp only [List.mem_cons,List.not_mem_nil,or_false] at hn
   omega
  have lP:(zQH zZ1 [o.mask,o.mx,o.my,o.opac]).length≤4+22*4:=zVe fun n hn=>by
   simp only [List.mem_cons,List.not_mem_nil,or_false] at hn
   omega
  have lT:(zQH (zYv o) [bitN o.iso,bitN o.kno]).length≤(zYv o).length+22*2:=zVe fun n hn=>by
   simp only [List.mem_cons,List.not_mem_nil,or_false] at hn
   omega
  have ltl:(zYv o).length≤42:=by rw [ht]; simp only [List.length_append,List.length_cons,List.length_nil]; omega
  have i7:ints [DV.int .i64 o.image,DV.int .i64 o.x,DV.int .i64 o.y,DV.int .i64 o.mask,DV.int .i64 o.mx,DV.int .i64 o.my,DV.int .i64 o.opac]=[o.image,o.x,o.y,o.mask,o.mx,o.my,o.opac]:=rfl
  have i4:ints [DV.int .i64 o.mask,DV.int .i64 o.mx,DV.int .i64 o.my,DV.int .i64 o.opac]=[o.mask,o.mx,o.my,o.opac]:=rfl
  have i2:ints [DV.int .i64 (bitN o.iso),DV.int .i64 (bitN o.kno)]=[bitN o.iso,bitN o.kno]:=rfl
  clear hwf
  simp only [jVP,wo,e1,e2,e32,lt,lp,lq,zYw,zQF,zQN,i7,i4,i2,← ht,DV.str.injEq] at aO aM aI aK ⊢
  have k1:(o.kind==1)=decide (o.kind=1):=by rw [Bool.eq_iff_iff]; simp
  have k2:(o.kind==2)=decide (o.kind=2):=by rw [Bool.eq_iff_iff]; simp
  rw [k1,k2]
  simp only [decide_eq_true_eq,decide_eq_false_iff_not]
  have lh:([32]++n1).length≤21:=by simp only [List.length_append,List.length_cons,List.length_nil]; omega
  have lh2:([32]++n1++[32]).length≤22:=by simp only [List.length_append,List.length_cons,List.length_nil]; omega
  have lc:([32]:Lb).length=1:=rfl
  refine ⟨aO,hM _ (by omega),hM _ (by omega),aM,hM _ (by omega),fun h1=>⟨aD,hM _ (by omega),zYa ?_⟩,fun h1=>⟨fun h2=>⟨aP,aI,aK,aT,hM _ (by omega),zYa ?_⟩,fun h2=>zYa ?_⟩⟩
  ·unfold opTx; rw [if_pos h1]
  ·unfold opTx; rw [if_neg h1,if_pos h2]
  ·unfold opTx; rw [if_neg h1,if_neg h2]
theorem zVK (s:Scr):Ans prog 30 [RV.agg [dJ s.bits,dJ s.c.a,dJ s.c.b,dJ s.c.c,dJ s.c.d,dJ s.tw,dJ s.th,dS s.ord.length (is s.ord),dS s.ims.length (ims s.ims),dS s.ops.length (ops s.ops)]] (RV.d (dQ (zYz s))):=
 zQj (Γ:=jVA) (Ann.seq Ann.leaf (Ann.seq Ann.leaf (Ann.seq (Ann.seq Ann.leaf (Ann.loop ⟨Nat,fun k=>k≤s.ops.length∧(s.ops.take k).all prtO=true,fun k=>⟨[(1,AV.one (Cl.ptr 1 0)),(3,aJ (k:Int))],[(1,bC [cJ s.bits,cJ s.c.a,cJ s.c.b,cJ s.c.c,cJ s.c.d,cJ s.tw,cJ s.th,Cl.d (dS s.ord.length (is s.ord)),Cl.d (dS s.ims.length (ims s.ims)),Cl.d (dS s.ops.length (ops s.ops))])]⟩,fun k=>s.ops.length - k⟩ fun k=>Ann.leaf)) Ann.leaf))) zQs Tryz.func30 rfl (nL rfl) fun hwf=>by
  refine Eq.mpr (by kernel_rfl:_=(let t:=(s.ops.length:Int); let b:=(dQ (zYz s)); let c:=(RV.d (dQ false)=RV.d b); let f:=(zZX ((sE s):Scr)); let g:=[dJ s.bits,dJ s.c.a,dJ s.c.b,dJ s.c.c,dJ s.c.d,dJ s.tw,dJ s.th,dS s.ord.length (is s.ord),dS s.ims.length (ims s.ims),dS s.ops.length (ops s.ops)]; let u:=fun (k:Nat)=>(k≤s.ops.length∧(s.ops.take k).all prtO=true); let v:=((g=g)∧True); let h:=fun (k':Nat)=>(k'≤s.ops.length∧(s.ops.take k').all prtO=true); let i:=fun (k:Nat)=>fun (k':Nat)=>(s.ops.length - k' < s.ops.length - k); let j:=fun (k:Nat)=>fun (k':Nat)=>(((0=0)∧(dJ (wK ((k:Int)+1))=dJ (k':Int))∧True)∧v); tU3 ((Ans prog 44 [RV.agg g] (RV.d (dQ f)))∧True∧(((!f)=true→True∧RV.d (dQ false)=RV.d b)∧((!f)=false→True∧((∃ k:Nat,(u k)∧(((0=0)∧(dJ 0=dJ (k:Int))∧True)∧v))∧∀ k:Nat,let w:=(decide ((k:Int) < t)); let l:=(nAt (ops s.ops) ((k:Int).toNat*12+1)); let m:=(nAt (ops s.ops) ((k:Int).toNat*12+1+1)); let n:=(nAt (ops s.ops) ((k:Int).toNat*12+1+1+1)); let o:=(bAt (ops s.ops) ((k:Int).toNat*12+1+1+1+1+1+1+1+1+1+1)); let p:=(bAt (ops s.ops) ((k:Int).toNat*12+1+1+1+1+1+1+1+1+1+1+1)); let a:=(nAt (ops s.ops) ((k:Int).toNat*12)); let d:=(nAt (ops s.ops) ((k:Int).toNat*12+1+1+1+1+1+1+1+1)); let x:=(Ans prog 63 [rJ d] (RV.d (dQ (decide (1≤d∧d < 13))))); let q:=(!(decide (1≤d∧d < 13))); let y:=(q=(!false)→tU2 c); let e:=(nAt (ops s.ops) ((k:Int).toNat*12+1+1+1+1+1+1+1+1+1)); let z:=(Ans prog 64 [rJ e] (RV.d (dQ (decide (1≤e∧e < 13))))); let r:=(!(decide (1≤e∧e < 13))); let A:=(r=true→True∧RV.d (dQ false)=RV.d b); let B:=(!((a==3) && ((l==0) && ((m==0) && ((n==0) && (((nAt (ops s.ops) ((k:Int).toNat*12+1+1+1+1))==0) && (((nAt (ops s.ops) ((k:Int).toNat*12+1+1+1+1+1))==0) && (((nAt (ops s.ops) ((k:Int).toNat*12+1+1+1+1+1+1))==0) && (((nAt (ops s.ops) ((k:Int).toNat*12+1+1+1+1+1+1+1))==0) && ((d==0) && ((e==0) && ((o==false) && ((p==false) && true))))))))))))); (u k)→tU5 ((w=true→tU3 ((0≤(k:Int)∧(k:Int) < t∧(k:Int).toNat*12 < (ops s.ops).length)∧(oqQr (ops s.ops) ((k:Int).toNat*12))∧tU6 (((a==1)=true→tU3 ((o=false→tU4 ((p=false→tU2 (x∧tU3 ((q=false→tU2 (z∧tU2 (A∧(r=false→tU3 (∃ k':Nat,(h k')∧(i k k')∧(j k k'))))))∧y)))∧(p=(!false)→tU4 c)))∧(o=(!false)→tU6 c)))∧((a==1)=false→tU2 (((a==2)=true→tU4 (((l != 0)=false→tU5 (((m != 0)=false→tU5 (((n != 0)=false→tU2 (x∧tU3 ((q=false→tU2 (z∧tU2 (A∧(r=false→tU3 (∃ k':Nat,(h k')∧(i k k')∧(j k k'))))))∧y)))∧((n != 0)=(!false)→tU4 c)))∧((m != 0)=(!false)→tU6 c)))∧((l != 0)=(!false)→tU8 c)))∧((a==2)=false→tU2 (((a==3)=true→tU3 ((B=true→True∧RV.d (dQ false)=RV.d b)∧(B=false→tU3 (∃ k':Nat,(h k')∧(i k k')∧(j k k')))))∧((a==3)=false→True∧RV.d (dQ false)=RV.d b))))))))∧(w=false→True∧RV.d (dQ true)=RV.d b)))))))) ?_
  delta sE dJ dQ wK dS rJ
  simp only [sS,oqQr]
  simp only [zQO,zQ2,zQU,Scr.eta_]
  have hos:s.ops.length≤9223372036854775807:=by
   simp only [RV.wfs,RV.wf,DV.wf,DV.wfs,maxLen] at hwf
   omega
  clear hwf
  have e0:zZX s=false→zYz s=false:=fun h=>by unfold zYz; rw [h]; rfl
  refine ⟨R18_Encodable_ans' s,fun h=>(e0 h).symm,fun h=>⟨⟨0,⟨Nat.zero_le _,rfl⟩,rfl⟩,fun k hk=>⟨fun hlt=>?_,fun hge=>?_⟩⟩⟩
  ·have hkl:k < s.ops.length:=by omega
   have hml:=zQ6 s.ops
   obtain ⟨q0,q1,q2,q3,q4,q5,q6,q7,q8,q9,q10,q11⟩:=zKu hkl
   obtain ⟨r0,r1,r2,r3,r4,r5,r6,r7,r8,r9,r10,r11⟩:=zKv hkl
   have w1:IntKind.wrap .i64 ((k:Int)+1)=((k+1:Nat):Int):=by rw [IntWalk.i64_in _ ⟨by omega,by omega⟩]; omega
   have yes:prtO s.ops[k]=true→∃ k',(k'≤s.ops.length∧(s.ops.take k').all prtO=true)∧s.ops.length - k' < s.ops.length - k∧IntKind.wrap .i64 ((k:Int)+1)=(k':Int):=fun hp=>⟨k+1,⟨by omega,by rw [List.take_succ_eq_append_getElem hkl,List.all_append,hk.2]; simp [hp]⟩,by omega,w1⟩
   have no:prtO s.ops[k]=false→false=zYz s:=fun hp=>by
    have:s.ops.all prtO=false:=List.all_eq_false.2 ⟨_,List.getElem_mem hkl,by rw [hp]; decide⟩
    unfold zYz; rw [this,Bool.and_false]
   have aO:=zV8 s.ops[k].oper
   have aM:=zUU s.ops[k].mode
   simp only [q0,q1,q2,q3,q4,q5,q6,q7,q8,q9,q10,q11,r0,r1,r2,r3,r4,r5,r6,r7,r8,r9,r10,r11,true_and]
   generalize s.ops[k]=o at *
   clear q0 q1 q2 q3 q4 q5 q6 q7 q8 q9 q10 q11 r0 r1 r2 r3 r4 r5 r6 r7 r8 r9 r10 r11
   refine ⟨⟨by omega,by omega,by omega⟩,?_⟩
   have hp:popO=⟨3,0,0,0,0,0,0,0,0,0,false,false⟩:=rfl
   have hpo:o.kind=3→prtO o=(o.kind==3 && (o.image==0 && (o.x==0 && (o.y==0 && (o.mask==0 && (o.mx==0 && (o.my==0 && (o.opac==0 && (o.oper==0 && (o.mode==0 && (o.iso==false && (o.kno==false && true)))))))))))):=fun h=>by
    have h1:¬ o.kind=1:=by omega
    have h2:¬ o.kind=2:=by omega
    unfold prtO
    rw [if_neg h1,if_neg h2,if_pos h,hp,Bool.eq_iff_iff]
    obtain ⟨a,b,c,d,e,f,g,i,j,k,l,m⟩:=o
    simp
   have p1:o.kind=1→prtO o=(!o.iso && !o.kno && decide (1≤o.oper∧o.oper < 13) && decide (1≤o.mode∧o.mode < 13)):=fun h=>by unfold prtO; rw [if_pos h]
   have p2:o.kind=2→prtO o=(decide (o.image=0) && decide (o.x=0) && decide (o.y=0) && decide (1≤o.oper∧o.oper < 13) && decide (1≤o.mode∧o.mode < 13)):=fun h=>by unfold prtO; rw [if_neg (by omega),if_pos h]
   have ne0:∀ {n:Int},(n != 0)=false→n=0:=fun h=>by simpa using h
   have ne1:∀ {n:Int},(n != 0)=true→¬n=0:=fun h=>by simpa using h
   refine ⟨fun h1=>⟨fun a1=>⟨fun a2=>⟨aO,fun a3=>⟨aM,fun a4=>no ?_,fun a4=>yes ?_⟩,fun a3=>no ?_⟩,fun a2=>no ?_⟩,fun a1=>no ?_⟩,fun h1=>⟨fun h2=>⟨fun a1=>⟨fun a2=>⟨fun a3=>⟨aO,fun a4=>⟨aM,fun a5=>no ?_,fun a5=>yes ?_⟩,fun a4=>no ?_⟩,fun a3=>no ?_⟩,fun a2=>no ?_⟩,fun a1=>no ?_⟩,fun h2=>⟨fun h3=>⟨fun a=>no ?_,fun a=>yes ?_⟩,fun h3=>no ?_⟩⟩⟩
   ·rw [p1 (by simpa using h1),a1,a2,decide_eq_true a3,decide_eq_false a4]; rfl
   ·rw [p1 (by simpa using h1),a1,a2,decide_eq_true a3,decide_eq_true a4]; rfl
   ·rw [p1 (by simpa using h1),a1,a2,decide_eq_false a3]; rfl
   ·rw [p1 (by simpa using h1),a1,a2]; rfl
   ·rw [p1 (by simpa using h1),a1]; rfl
   ·rw [p2 (by simpa using h2),decide_eq_true (ne0 a1),decide_eq_true (ne0 a2),decide_eq_true (ne0 a3),decide_eq_true a4,decide_eq_false a5]; rfl
   ·rw [p2 (by simpa using h2),decide_eq_true (ne0 a1),decide_eq_true (ne0 a2),decide_eq_true (ne0 a3),decide_eq_true a4,decide_eq_true a5]; rfl
   ·rw [p2 (by simpa using h2),decide_eq_true (ne0 a1),decide_eq_true (ne0 a2),decide_eq_true (ne0 a3),decide_eq_false a4]; rfl
   ·rw [p2 (by simpa using h2),decide_eq_true (ne0 a1),decide_eq_true (ne0 a2),decide_eq_false (ne1 a3)]; rfl
   ·rw [p2 (by simpa using h2),decide_eq_true (ne0 a1),decide_eq_false (ne1 a2)]; rfl
   ·rw [p2 (by simpa using h2),decide_eq_false (ne1 a1)]; rfl
   ·rw [hpo (by simpa using h3)]; exact a
   ·rw [hpo (by simpa using h3)]; exact a
   ·have g1:¬ o.kind=1:=by simpa using h1
    have g2:¬ o.kind=2:=by simpa using h2
    have g3:¬ o.kind=3:=by simpa using h3
    unfold prtO; rw [if_neg g1,if_neg g2,if_neg g3]
  ·have:k=s.ops.length:=by omega
   subst this
   rw [List.take_length] at hk
   unfold zYz; rw [h,hk.2]; rfl
end
section
attribute [local irreducible] Ans AnsO AnsG AnsN AnsI
end
theorem jYE (v:Int):zUM v=true ↔ -1048576≤v∧v≤1048576:=by simp [zUM]
theorem Im.list_so {m:Im} (hs:m.so=true) (n:Nat):m.list n=List.replicate n m.c:=by
 unfold Im.list
 refine List.ext_getElem (by simp) fun i h1 h2=>?_
 simp [Im.nth,Im.px,hs]
theorem Im.count_pos {m:Im} (hf:m.formed=true):0 < m.w.toNat*m.h.toNat:=by
 obtain ⟨f1,f2,f3,f4,f5⟩:=zXi (Im.formed_of hf).1
 exact Nat.mul_pos (by omega) (by omega)
theorem Im.pixels_so {m:Im} (hf:m.formed=true) (hs:m.so=true):m.pixels=List.replicate (m.w.toNat*m.h.toNat) m.c:=by
 rw [Im.pixels_of hf,Im.list_so hs]
theorem Im.valid_iff {m:Im} (hf:m.formed=true) (most:Int):m.valid most=0↔∀ p∈m.pixels,p.ok most=true:=by
 obtain ⟨h1,h2⟩:=Im.formed_of hf
 unfold Im.valid
 rw [if_neg (by simp [h1]),if_neg (by simp [h2])]
 cases hs:m.so with
 | true=>
  rw [if_pos rfl,Im.pixels_so hf hs]
  have:=Im.count_pos hf
  constructor
  ·intro h p hp
   obtain ⟨_,rfl⟩:=List.mem_replicate.1 hp
   split at h
   ·assumption
   ·cases h
  ·intro h
   rw [if_pos (h m.c (List.mem_replicate.2 ⟨by omega,rfl⟩))]
 | false=>
  rw [if_neg (by simp),Im.pixels_of hf]
  unfold Im.okTo Im.count Im.list
  constructor
  ·intro h p hp
   split at h
   ·rename_i ha
    obtain ⟨k,hk,rfl⟩:=List.mem_map.1 hp
    exact List.all_eq_true.1 ha k hk
   ·cases h
  ·intro h
   rw [if_pos (List.all_eq_true.2 fun k hk=>h _ (List.mem_map.2 ⟨k,hk,rfl⟩))]
theorem zXW (n:Int) {most:Int} (h0:0≤most) (h1:most≤65535):0≤zQ4 n most∧zQ4 n most≤most:=by
 unfold zQ4
 rw [IntWalk.i64_in most ⟨by omega,by omega⟩]
 have a2:=@zZw (IntKind.wrap .i64 (Int.tdiv n 8)) 2 (by omega) (by omega)
 have a4:=@zZw (IntKind.wrap .i64 (Int.tdiv n 8)) 4 (by omega) (by omega)
 split
 ·omega
 ·split
  ·omega
  ·split
   ·rw [IntWalk.i64_in (most+_) ⟨by omega,by omega⟩]
    have e:Int.tdiv (most+modS (IntKind.wrap .i64 (Int.tdiv n 8)) 2) 2=(most+modS (IntKind.wrap .i64 (Int.tdiv n 8)) 2) / 2:=Int.tdiv_eq_ediv_of_nonneg (by omega)
    rw [e,IntWalk.i64_in _ ⟨by omega,by omega⟩,IntWalk.u16_in _ ⟨by omega,by omega⟩]
    omega
   ·split
    ·rw [IntWalk.u16_in _ ⟨by omega,by omega⟩]
     omega
    ·rw [IntWalk.i64_in (most+1) ⟨by omega,by omega⟩]
     have a:=@zZw (IntKind.wrap .i64 (Int.tdiv n 8)) (most+1) (by omega) (by omega)
     rw [IntWalk.u16_in _ ⟨by omega,by omega⟩]
     omega
theorem jYV (n0 n1 n2 n3 n4:Int) {most:Int} (h0:0≤most) (h1:most≤65535):(zZK n0 n1 n2 n3 n4 most).ok most=true∧0≤(zZK n0 n1 n2 n3 n4 most).a∧0≤(zZK n0 n1 n2 n3 n4 most).b∧0≤(zZK n0 n1 n2 n3 n4 most).c∧0≤(zZK n0 n1 n2 n3 n4 most).al:=by
 have hf:=zXW n4 h0 h1
 have key:∀ a f:Int,0≤a→a≤f→f≤most→Px.ok ⟨zQ4 n0 a,zQ4 n1 a,zQ4 n2 a,a,f⟩ most=true∧0≤zQ4 n0 a∧0≤zQ4 n1 a∧0≤zQ4 n2 a∧0≤a:=fun a f k0 k1 k2=>by
  have q0:=zXW n0 k0 (by omega)
  have q1:=zXW n1 k0 (by omega)
  have q2:=zXW n2 k0 (by omega)
  simp [Px.ok]
  omega
 unfold zZK
 simp only
 split
 ·have ha:=zXW (IntKind.wrap .i64 (Int.tdiv n3 3)) hf.1 (by omega)
  exact key _ _ ha.1 ha.2 hf.2
 ·exact key _ _ hf.1 (Int.le_refl _) hf.2
def Px.fine (p:Px) (most:Int):Prop:=p.ok most=true∧0≤p.a∧0≤p.b∧0≤p.c∧0≤p.al
theorem jZ6 (mood:Int) (L:Nat) (xs:List DV) {most:Int} (h0:0≤most) (h1:most≤65535) (k:Nat):(gPx mood L xs most k).fine most:=by
 have hz:Px.zero.fine most:=⟨by simp [Px.ok,Px.zero,h0],by decide,by decide,by decide,by decide⟩
 have hp:∀ k,(gPx1 L xs most k).fine most:=fun k=>jYV _ _ _ _ _ h0 h1
 unfold gPx
 split
 ·exact hz
 ·split
  ·obtain ⟨a,b⟩:=hp k
   refine ⟨?_,b.1,b.2.1,b.2.2.1,h0⟩
   simp [Px.ok] at a ⊢
   omega
  ·split
   ·exact hp 0
   ·exact hp k
theorem zUk (pw ph so mood:Int) (L:Nat) (xs:List DV) (x0 y0 x1 y1:Int) {most:Int} (h0:0≤most) (h1:most≤65535) (hc:1≤x1 - x0∧x1 - x0≤100∧1≤y1 - y0∧y1 - y0≤100):∀ p∈(zQ5 pw ph so mood L xs x0 y0 x1 y1 most).pixels,p.fine most:=by
 have hf:=(zV2 pw ph so mood L xs x0 y0 x1 y1 most hc).1
 intro p hp
 rw [zVn pw ph so mood L xs x0 y0 x1 y1 most _ _ rfl rfl] at hf hp
 split at hf
 ·rename_i hs
  rw [if_pos hs,Im.pixels_so hf rfl] at hp
  obtain ⟨_,rfl⟩:=List.mem_replicate.1 hp
  exact jZ6 _ _ _ h0 h1 _
 ·rename_i hs
  rw [if_neg hs] at hp
  cases hk:ofOk (zYk pw 5 x0 x1 pw) (zYk ph 4 y0 y1 pw) (zQG mood L xs most (IntKind.wrap .i64 (zYk pw 5 x0 x1 pw*zYk ph 4 y0 y1 pw)).toNat).length with
  | true=>
   rw [(jZh hk).2] at hp
   unfold zQG at hp
   obtain ⟨k,_,rfl⟩:=List.mem_map.1 hp
   exact jZ6 _ _ _ h0 h1 _
  | false=>
   rw [zUe hk] at hf
   exact absurd hf (by decide)
def okO (bits:Int) (mn:Nat):List Oq→List Oq→Option (List Oq)
 | [],st=>some st
 | o::r,st=>if errO bits mn o st=0 then okO bits mn r (jQJ o st) else none
theorem zW1 {bits:Int} {mn:Nat}:∀ (l m:List Oq) (st:List Oq),okO bits mn (l++m) st=(okO bits mn l st).bind (okO bits mn m)
 | [],m,st=>rfl
 | o::l,m,st=>by
  simp only [List.cons_append,okO]
  split
  ·exact zW1 l m _
  ·rfl
theorem jXe {bits:Int} {mn:Nat} {st:List Oq} (h:st≠[]):errO bits mn popO st=0:=by
 have h1:popO.kind=3:=rfl
 have h2:popO.fields=true:=by decide
 unfold errO
 rw [if_neg (by rw [h1]; simp),if_neg (by rw [h2]; simp),if_pos h1,if_neg h]
theorem jZQ {bits:Int} {mn:Nat}:∀ (n:Nat) (st:List Oq),n≤st.length→okO bits mn (List.replicate n popO) st=some (st.take (st.length - n))
 | 0,st,_=>by simp [okO]
 | n+1,st,h=>by
  have hne:st≠[]:=by intro e; subst e; simp at h
  have h1:popO.kind=3:=rfl
  rw [List.replicate_succ,okO,if_pos (jXe hne)]
  have e:jQJ popO st=st.dropLast:=by unfold jQJ; rw [if_neg (by rw [h1]; decide),if_pos h1]
  rw [e,jZQ n _ (by simp; omega),List.dropLast_eq_take,List.take_take]
  congr 2
  simp; omega
theorem jQ6 {bits:Int} {mn:Nat} {o:Oq} {st:List Oq} (h:errO bits mn o st=0):okO bits mn [o] st=some (jQJ o st):=by
 simp only [okO]; rw [if_pos h]
theorem zVm {n c:Int} (h : -100≤c∧c≤100) : -200≤gOff n c∧gOff n c≤200:=by
 have b:=@zZw (IntKind.wrap .i64 (Int.tdiv n 3)) 9 (by omega) (by omega)
 unfold gOff
 split <;> omega
theorem jWj {bits:Int} {mn:Nat} {r:Rw} {push:Bool} {c:Rc} {most:Int} {st:List Oq} (hm:1≤mn∧mn≤64) (hc:(-100≤c.a∧c.a≤100) ∧ -100≤c.b∧c.b≤100) (hb:jVk bits=most) (h0:0≤most∧most≤65535) (hl:st.length < 64) :
  errO bits mn (gOp r push mn c (ctxB st) most) st=0:=by
 have b1:=@zZw r.im mn (by omega) (by omega)
 have b2:=@zZw (IntKind.wrap .i64 (Int.tdiv r.ma 4)) mn (by omega) (by omega)
 have b3:=@zZw (IntKind.wrap .i64 (Int.tdiv r.ope 2)) 12 (by omega) (by omega)
 have b4:=@zZw (IntKind.wrap .i64 (Int.tdiv r.mo 2)) 12 (by omega) (by omega)
 have o1:=@zVm r.x c.a hc.1
 have o2:=@zVm r.y c.b hc.2
 have o3:=@zVm r.mx c.a hc.1
 have o4:=@zVm r.my c.b hc.2
 have s1:=zXW (IntKind.wrap .i64 (Int.tdiv r.op 2)) h0.1 h0.2
 unfold errO
 rw [hb]
 rw [if_neg (by simp [gOp]; cases push <;> simp)]
 rw [if_neg (by
  cases push <;> simp only [gOp,Oq.fields] <;> by_cases q:modS r.ma 4=0 <;> simp [q] <;> omega)]
 rw [if_neg (by cases push <;> simp [gOp])]
 rw [if_neg (by
  cases push <;> simp only [gOp] <;> by_cases q:modS r.ma 4=0 <;> simp [q] <;> omega)]
 rw [if_neg (by
  simp only [Decidable.not_not,jYE,gOp]
  refine ⟨?_,?_,?_,?_⟩ <;> split <;> omega)]
 rw [if_neg (by simp only [gOp]; split <;> omega)]
 rw [if_neg (by simp only [gOp]; split <;> omega)]
 rw [if_neg (by simp only [gOp]; split <;> omega)]
 rw [if_neg (by
  simp only [gOp]
  intro ⟨h1,h2⟩
  rw [h2] at h1
  simp at h1)]
 rw [if_neg (by omega)]
theorem Scn.bits_max (s:Scn):jVk s.bits=s.most∧jKI s.bits=true:=by
 have:=s.most_in
 unfold Scn.bits
 rcases this with h | h <;> rw [h] <;> decide
theorem Scn.run_okO (s:Scn) (k:Nat) (hk:k≤9):okO s.bits s.ims.length (s.run k).1 []=some (s.run k).2:=by
 induction k with
 | zero=>rfl
 | succ k ih=>
  have ih:=ih (by omega)
  have hl:=s.run_len k
  have F:=s.c_facts
  have li:=s.ims_len
  have hm:0≤s.most∧s.most≤65535:=by rcases s.most_in with h | h <;> rw [h] <;> omega
  by_cases h:modS (rwAt s.rxs (k*11)).k 8=0∧0 < (s.run k).2.length
  ·rw [Scn.run_pop h,zW1,ih]
   have hne:(s.run k).2≠[]:=by intro e; rw [e] at h; simp at h
   show okO _ _ [popO] _=_
   rw [jQ6 (jXe hne)]
   rfl
  ·obtain ⟨r1,r2⟩:=Scn.run_op h rfl
   have he:=@jWj s.bits s.ims.length (rwAt s.rxs (k*11)) (decide (modS (rwAt s.rxs (k*11)).k 8 < 3)) s.c s.most (s.run k).2 (by omega) (by omega) s.bits_max.1 hm (by omega)
   have hkd:(gOp (rwAt s.rxs (k*11)) (decide (modS (rwAt s.rxs (k*11)).k 8 < 3)) s.ims.length s.c (ctxB (s.run k).2) s.most).kind=if modS (rwAt s.rxs (k*11)).k 8 < 3 then 2 else 1:=by simp [gOp]
   generalize gOp (rwAt s.rxs (k*11)) (decide (modS (rwAt s.rxs (k*11)).k 8 < 3)) s.ims.length s.c (ctxB (s.run k).2) s.most=o at *
   by_cases h2:o.kind=2
   ·rw [r1 h2,zW1,ih]
    show okO _ _ [o] _=_
    rw [jQ6 he]
    unfold jQJ
    rw [if_pos h2]
   ·have h3:o.kind≠3:=by rw [hkd]; split <;> decide
    rw [r2 h2,zW1,ih]
    show okO _ _ [o] _=_
    rw [jQ6 he]
    unfold jQJ
    rw [if_neg h2,if_neg h3]
theorem Scn.ops_ok (s:Scn):okO s.bits s.ims.length s.ops []=some []:=by
 unfold Scn.ops
 rw [zW1,s.run_okO _ (by omega)]
 show okO _ _ _ _=_
 rw [jZQ _ _ (Nat.le_refl _),Nat.sub_self]
 rfl
theorem Scn.ops_len (s:Scn):s.ops.length≤18:=by
 have:=s.run_len (min s.rn 9)
 unfold Scn.ops
 simp; omega
theorem Scn.ord_len (s:Scn):s.ord.length≤64:=by
 have ht:=s.tiles_in
 unfold Scn.ord zJI
 split
 ·simp
 ·have:=(zVw (ints s.oxs) (n:=s.tiles.toNat) (by omega) s.tiles.toNat (Nat.le_refl _)).2
  omega
theorem Scn.fine (s:Scn):∀ m∈s.ims,m.formed=true∧(m.w≤100∧m.h≤100)∧m.valid s.most=0∧∀ more,(zXt m more).valid s.most=0:=by
 have CF:=s.c_facts
 have hq:1≤s.c.c - s.c.a∧s.c.c - s.c.a≤100∧1≤s.c.d - s.c.b∧s.c.d - s.c.b≤100:=by have:=s.facts; omega
 have hm:0≤s.most∧s.most≤65535:=by rcases s.most_in with h | h <;> rw [h] <;> omega
 have key:∀ m:Im,m.formed=true→m.w≤100∧m.h≤100→(∀ p∈m.pixels,p.fine s.most)→m.formed=true∧(m.w≤100∧m.h≤100)∧m.valid s.most=0∧∀ more,(zXt m more).valid s.most=0:=fun m h1 h2 h3=>by
  refine ⟨h1,h2,(Im.valid_iff h1 _).2 fun p hp=>(h3 p hp).1,fun more=>(Im.valid_iff (zJT h1 h2 more) _).2 fun p hp=>?_⟩
  rw [zUj h1 h2 more] at hp
  exact (h3 p hp).1
 intro m hmem
 unfold Scn.ims at hmem
 split at hmem
 ·rw [List.mem_singleton] at hmem
  subst hmem
  have F:=s.facts
  have hf:zQ8 s.gw s.gh=true:=by
   have:=Int.mul_le_mul F.2.2.1.2 F.2.2.2.1.2 (by omega) (by omega)
   simp [zQ8]; omega
  refine key _ (zXl _ hf) ⟨by show s.gw≤100; omega,by show s.gh≤100; omega⟩ fun p hp=>?_
  change p∈(zQg s.gw s.gh ⟨s.most,0,0,s.most,s.most⟩).pixels at hp
  rw [Im.pixels_of (zXl _ hf),Im.list,List.mem_map] at hp
  obtain ⟨k,_,rfl⟩:=hp
  have e:(zQg s.gw s.gh ⟨s.most,0,0,s.most,s.most⟩).nth k=⟨s.most,0,0,s.most,s.most⟩:=by simp [Im.nth,Im.px,zQg]
  change ((zQg s.gw s.gh ⟨s.most,0,0,s.most,s.most⟩).nth k).fine s.most
  rw [e]
  exact ⟨by simp [Px.ok]; omega,by simp only; omega,by simp only; omega,by simp only; omega,by simp only; omega⟩
 ·simp only [Scn.pics,List.mem_map] at hmem
  obtain ⟨k,_,rfl⟩:=hmem
  obtain ⟨gf,g1,g2,g3,g4⟩:=zV2 (nAt s.pxs (k*5)) (nAt s.pxs (k*5+1)) (nAt s.pxs (k*5+2)) (nAt s.pxs (k*5+3)) (lAt s.pxs (k*5+4)) (cAt s.pxs (k*5+4)) s.c.a s.c.b s.c.c s.c.d s.most hq
  exact key _ gf ⟨g2,g4⟩ fun p hp=>zUk _ _ _ _ _ _ _ _ _ _ hm.1 hm.2 hq p hp
theorem zYF {lo hi:Int} {l:List Int}:fitL lo hi l=true↔∀ v∈l,lo≤v∧v≤hi:=by
 unfold fitL
 rw [List.all_eq_true]
 simp
theorem jVe {o:Oq} (h1:0≤o.kind∧o.kind≤255) (h2:0≤o.image∧o.image≤255) (h3:0≤o.mask∧o.mask≤255) (h4:0≤o.oper∧o.oper≤255) (h5:0≤o.mode∧o.mode≤255)
  (h6 : -2147483648≤o.x∧o.x≤2147483647) (h7 : -2147483648≤o.y∧o.y≤2147483647) (h8 : -2147483648≤o.mx∧o.mx≤2147483647) (h9 : -2147483648≤o.my∧o.my≤2147483647):opOk o=true:=by
 unfold opOk
 rw [Bool.and_eq_true,zYF,zYF]
 refine ⟨fun v hv=>?_,fun v hv=>?_⟩ <;> simp only [List.mem_cons,List.not_mem_nil,or_false] at hv
 ·rcases hv with rfl | rfl | rfl | rfl | rfl <;> assumption
 ·rcases hv with rfl | rfl | rfl | rfl <;> assumption
theorem zG4 {v:Int} (h:zUM v=true) : -2147483648≤v∧v≤2147483647:=by
 unfold zUM at h
 have:=of_decide_eq_true h
 omega
theorem jY3 {bits:Int} {mn:Nat} {o:Oq} {st:List Oq} (h:errO bits mn o st=0) (hm:mn≤64):opOk o=true:=by
 unfold errO at h
 split at h
 ·cases h
 rename_i k1
 split at h
 ·cases h
 rename_i k2
 split at h
 ·rename_i k3
  have:o=popO:=by
   unfold Oq.fields at k2
   rw [if_pos k3] at k2
   simpa using k2
  subst this
  decide
 rename_i k3
 split at h
 ·cases h
 rename_i k4
 split at h
 ·cases h
 rename_i k5
 split at h
 ·cases h
 split at h
 ·cases h
 rename_i k7
 split at h
 ·cases h
 rename_i k8
 have k5:=Classical.not_not.1 k5
 have k7:=Classical.not_not.1 k7
 have k8:=Classical.not_not.1 k8
 have k1:=Classical.not_not.1 k1
 have hi:0≤o.image∧o.image≤255:=by
  rcases k1 with k1 | k1 | k1
  ·omega
  ·unfold Oq.fields at k2
   rw [if_neg k3] at k2
   have:o.image=0:=by
    by_cases hz:o.image=0
    ·exact hz
    ·exact absurd (by simp [k1,hz]) k2
   omega
  ·exact absurd k1 k3
 exact jVe (by omega) hi (by omega) (by omega) (by omega) (zG4 k5.1) (zG4 k5.2.1) (zG4 k5.2.2.1) (zG4 k5.2.2.2)
theorem jQ7 {bits:Int} {mn:Nat}:∀ {l st st':List Oq},okO bits mn l st=some st'→∀ o∈l,∃ s',errO bits mn o s'=0
 | a::l,st,st',h,o,ho=>by
  simp only [okO] at h
  split at h
  ·rcases List.mem_cons.1 ho with rfl | ho
   ·exact ⟨st,by assumption⟩
   ·exact jQ7 h o ho
  ·cases h
theorem Scn.ops_fit (s:Scn):s.ops.all opOk=true:=by
 rw [List.all_eq_true]
 intro o ho
 obtain ⟨st,h⟩:=jQ7 s.ops_ok o ho
 exact jY3 h (by have:=s.ims_len; omega)
theorem Scn.ord_fit (s:Scn):∀ v∈s.ord,0≤v∧v≤4294967295:=by
 intro v hv
 have ht:=s.tiles_in
 by_cases hl:(ints s.oxs).length=0
 ·have:s.ord=[]:=by unfold Scn.ord zJI; rw [if_pos (.inl hl)]
  rw [this] at hv; cases hv
 ·have:=((jXz hl (by omega:s.tiles≤64)).mem_iff).1 hv
  simp only [upto,List.mem_map,List.mem_range] at this
  obtain ⟨i,hi,rfl⟩:=this
  show 0≤(i:Int)∧(i:Int)≤4294967295
  omega
theorem Scn.bits_fit (s:Scn):s.bits=8∨s.bits=16:=by
 have:=s.bits_of
 by_cases h:gMax s.b > 255
 ·exact .inr (this.1 h).symm
 ·exact .inl (this.2 h).symm
theorem zK3:∀ {l:List Im},(∀ m∈l,m.formed=true∧m.w≤100∧m.h≤100)→zZb l≤100009*(l.length:Int)
 | [],_=>by simp [zZb]
 | m::l,h=>by
  have h1:=h m (by simp)
  have h2:=zK3 (l:=l) fun m hm=>h m (by simp [hm])
  have h3:=jZ7 h1.1
  have h4:m.w*m.h≤10000:=by
   have:=Int.mul_le_mul_of_nonneg_left h1.2.2 (by omega:0≤m.w)
   omega
  have h5:zXz m≤100009:=by unfold zXz; split <;> omega
  simp only [zZb,List.length_cons]
  omega
theorem Scn.enc (s:Scn) {ms:List Im} {os:List Oq} (h1:ms.length≤64) (h2:∀ m∈ms,m.formed=true∧m.w≤100∧m.h≤100) (h3:os.length≤100) (h4:os.all opOk=true):zZX ⟨s.bits,s.c,s.gtw,s.gth,s.ord,ms,os⟩=true:=by
 obtain ⟨f1,f2,f3,f4,f5,f6⟩:=s.facts
 have CF:=s.c_facts
 have hb:=s.bits_fit
 have ho:=s.ord_len
 have hz:=zK3 h2
 have g1:fitL 0 255 [s.bits]=true:=zYF.2 fun v hv=>by
  simp only [List.mem_cons,List.not_mem_nil,or_false] at hv
  subst hv
  omega
 have g2:fitL (-2147483648) 2147483647 [s.c.a,s.c.b,s.c.c,s.c.d]=true:=zYF.2 fun v hv=>by
  simp only [List.mem_cons,List.not_mem_nil,or_false] at hv
  rcases hv with rfl | rfl | rfl | rfl <;> omega
 have g3:fitL 0 4294967295 [s.gtw,s.gth]=true:=zYF.2 fun v hv=>by
  simp only [List.mem_cons,List.not_mem_nil,or_false] at hv
  rcases hv with rfl | rfl <;> omega
 have g4:fitL 0 4294967295 s.ord=true:=zYF.2 s.ord_fit
 have g5:ms.all Im.formed=true:=List.all_eq_true.2 fun m hm=>(h2 m hm).1
 simp only [zZX,zYl,g1,g2,g3,g4,g5,h4,zXC,Bool.and_true,Bool.true_and,Bool.and_eq_true,decide_eq_true_eq]
 exact ⟨⟨h1,by omega⟩,decide_eq_true (by omega)⟩
theorem formed_of {m:Im} {most:Int} (h:m.valid most=0):m.formed=true:=by
 unfold Im.valid at h
 split at h
 ·cases h
 split at h
 ·cases h
 rename_i a b
 unfold Im.formed
 simp only [Bool.not_eq_false] at a b
 rw [a,b]; rfl
section
attribute [local irreducible] Ans AnsO AnsG AnsN AnsI
theorem jV3 (o p:Oq):(o.kind==p.kind && (o.image==p.image && (o.x==p.x && (o.y==p.y && (o.mask==p.mask && (o.mx==p.mx && (o.my==p.my && (o.opac==p.opac && (o.oper==p.oper && (o.mode==p.mode && (o.iso==p.iso && (o.kno==p.kno && true))))))))))))=decide (o=p):=by
 obtain ⟨_,_,_,_,_,_,_,_,_,_,_,_⟩:=o
 obtain ⟨_,_,_,_,_,_,_,_,_,_,_,_⟩:=p
 rw [Bool.eq_iff_iff]
 simp only [Oq.mk.injEq,Bool.and_eq_true,beq_iff_eq,decide_eq_true_eq,and_true]
def eqI (m r:Im):Bool:=(m.so==r.so) && m.equal r
def imN (l:List Im) (i:Nat):Im:=l[i]?.getD (zQg 0 0 .zero)
theorem jQd {l:List Im} {i:Nat} (h:i < l.length):imN l i=l[i]:=by simp [imN,List.getElem?_eq_getElem h]
def eqTo (a b:List Im) (k:Nat):Bool:=(List.range k).all fun i=>eqI (imN a i) (imN b i)
def zUP (a b:List Im):Bool:=decide (a.length=b.length) && eqTo a b a.length
def eqS (s t:Scr):Bool:=decide (s.bits=t.bits) && decide (s.c=t.c) && decide (s.tw=t.tw) && decide (s.th=t.th) && decide (s.ord=t.ord) && zUP s.ims t.ims && decide (s.ops=t.ops)
theorem jVJ (s t:Scr):eqS s t=((s.bits==t.bits) && (s.c.a==t.c.a && (s.c.b==t.c.b && (s.c.c==t.c.c && (s.c.d==t.c.d && true)))) && (s.tw==t.tw) && (s.th==t.th) && decide (s.ord=t.ord) && zUP s.ims t.ims && decide (s.ops=t.ops)):=by
 have h:decide (s.c=t.c)=(s.c.a==t.c.a && (s.c.b==t.c.b && (s.c.c==t.c.c && (s.c.d==t.c.d && true)))):=by
  obtain ⟨_,⟨_,_,_,_⟩,_,_,_,_,_⟩:=s
  obtain ⟨_,⟨_,_,_,_⟩,_,_,_,_,_⟩:=t
  rw [Bool.eq_iff_iff]
  simp only [Rc.mk.injEq,Bool.and_eq_true,beq_iff_eq,decide_eq_true_eq,and_true]
 unfold eqS
 rw [h]
 rfl
theorem jKT {α:Type} {a b:List α} {k:Nat} (h:k < a.length) (h2:k < b.length) (e:a.take k=b.take k) (ek:a[k]=b[k]):a.take (k+1)=b.take (k+1):=by
 rw [List.take_succ_eq_append_getElem h,List.take_succ_eq_append_getElem h2,e,ek]
theorem jWq {α:Type} {a b:List α} {k:Nat} (h:k < a.length) (h2:k < b.length) (hn:a[k]≠b[k]):a≠b:=by
 intro e; subst e; exact hn rfl
theorem jVU {α:Type} {a b:List α} (he:a.length=b.length) (e:a.take a.length=b.take a.length):a=b:=by
 rw [List.take_length,he,List.take_length] at e
 exact e
theorem jY4 {a b:List Im} {k:Nat} (h:k < a.length) (h2:k < b.length) (e:eqTo a b k=true) (ek:eqI a[k] b[k]=true):eqTo a b (k+1)=true:=by
 unfold eqTo at e ⊢
 rw [List.range_succ,List.all_append,e]
 simp [jQd h,jQd h2,ek]
theorem jJ6 {a b:List Im} {k:Nat} (h:k < a.length) (h2:k < b.length) (ek:eqI a[k] b[k]=false):eqTo a b a.length=false:=by
 unfold eqTo
 rw [List.all_eq_false]
 exact ⟨k,List.mem_range.2 h,by rw [jQd h,jQd h2,ek]; simp⟩
def jWf:Gam where
 pure:=fun f xs=>
  if f=40 then gZ10 xs else
  if f=41 then (match xs with | [.d (.sl n xs),.d (.sl m ys)]=>some (RV.d (dQ (decide (zQK xs=zQK ys)))) | _=>none) else
  if f=42 then gZ20 xs else
  none
 modes:=fun f=>
  none
 proc:=fun f xs bs=>
  none
 iter:=fun f cs=>
  none
theorem zUD (a b:List Oq):Ans prog 41 [RV.d (dS a.length (ops a)),RV.d (dS b.length (ops b))] (RV.d (dQ (decide (zQK (ops a)=zQK (ops b))))):=
 zQj (Γ:=jWf) (Ann.seq Ann.leaf (Ann.seq Ann.leaf (Ann.seq (Ann.seq Ann.leaf (Ann.loop ⟨Nat,fun k=>k≤a.length∧a.take k=b.take k,fun k=>⟨[(0,AV.one (Cl.d (dS a.length (ops a)))),(1,AV.one (Cl.d (dS b.length (ops b)))),(5,aJ (k:Int))],[]⟩,fun k=>a.length - k⟩ fun k=>Ann.leaf)) Ann.leaf))) zQs Tryz.func41 rfl (nL rfl) fun hwf=>by
  refine Eq.mpr (by kernel_rfl:_=(let c:=(a.length:Int); let e:=(dQ (decide (zQK (ops a)=zQK (ops b)))); let f:=fun (k:Nat)=>(k≤a.length∧a.take k=b.take k); let g:=(dS a.length (ops a)=dS a.length (ops a)); let h:=(dS b.length (ops b)=dS b.length (ops b)); tU6 (((c != (b.length:Int))=true→True∧RV.d (dQ false)=RV.d e)∧((c != (b.length:Int))=false→True∧((∃ k:Nat,(f k)∧((g∧h∧(dJ 0=dJ (k:Int))∧True)∧True))∧∀ k:Nat,let i:=(decide ((k:Int) < c)); let d:=((k:Int).toNat*12); let j:=((k:Int).toNat*12+1+1+1+1); let l:=((k:Int).toNat*12+1+1+1); let m:=((k:Int).toNat*12+1+1); let n:=((k:Int).toNat*12+1); let o:=((k:Int).toNat*12+1+1+1+1+1+1+1+1+1+1+1); let p:=((k:Int).toNat*12+1+1+1+1+1+1+1+1+1+1); let q:=((k:Int).toNat*12+1+1+1+1+1+1+1+1+1); let r:=((k:Int).toNat*12+1+1+1+1+1+1+1+1); let s:=((k:Int).toNat*12+1+1+1+1+1+1+1); let t:=((k:Int).toNat*12+1+1+1+1+1+1); let u:=((k:Int).toNat*12+1+1+1+1+1); let v:=(!(((nAt (ops a) d)==(nAt (ops b) d)) && (((nAt (ops a) n)==(nAt (ops b) n)) && (((nAt (ops a) m)==(nAt (ops b) m)) && (((nAt (ops a) l)==(nAt (ops b) l)) && (((nAt (ops a) j)==(nAt (ops b) j)) && (((nAt (ops a) u)==(nAt (ops b) u)) && (((nAt (ops a) t)==(nAt (ops b) t)) && (((nAt (ops a) s)==(nAt (ops b) s)) && (((nAt (ops a) r)==(nAt (ops b) r)) && (((nAt (ops a) q)==(nAt (ops b) q)) && (((bAt (ops a) p)==(bAt (ops b) p)) && (((bAt (ops a) o)==(bAt (ops b) o)) && true))))))))))))); (f k)→tU4 ((i=true→tU2 ((0≤(k:Int)∧(k:Int) < c∧(k:Int).toNat*12 < (ops a).length)∧(oqQr (ops a) d)∧tU2 ((0≤(k:Int)∧(k:Int) < (b.length:Int)∧(k:Int).toNat*12 < (ops b).length)∧(oqQr (ops b) d)∧True∧(true=true)∧((v=true→True∧RV.d (dQ false)=RV.d e)∧(v=false→tU3 (∃ k':Nat,(k'≤a.length∧a.take k'=b.take k')∧(a.length - k' < a.length - k)∧((g∧h∧(dJ (wK ((k:Int)+1))=dJ (k':Int))∧True)∧True)))))))∧(i=false→True∧RV.d (dQ true)=RV.d e))))))) ?_
  delta dJ dQ wK dS
  simp only [sS,oqQr]
  have hil:a.length≤9223372036854775807∧b.length≤9223372036854775807:=by
   simp only [RV.wfs,RV.wf,DV.wf,maxLen] at hwf
   omega
  clear hwf
  simp only [zQU]
  refine ⟨fun h=>?_,fun h=>⟨⟨0,⟨Nat.zero_le _,by simp⟩,rfl⟩,fun k hk=>⟨fun hlt=>?_,fun hge=>?_⟩⟩⟩
  ·have h:a.length≠b.length:=by simp at h; omega
   exact (decide_eq_false (fun e=>h (congrArg List.length e))).symm
  ·obtain ⟨k1,k2⟩:=hk
   have hl:a.length=b.length:=by simp at h; omega
   have ha:k < a.length:=by omega
   have hb:k < b.length:=by omega
   have q1:=zKu ha
   have q2:=zKv ha
   have r1:=zKu hb
   have r2:=zKv hb
   have w1:IntKind.wrap .i64 ((k:Int)+1)=((k+1:Nat):Int):=by rw [IntWalk.i64_in _ ⟨by omega,by omega⟩]; omega
   simp only [q2,r2,w1]
   simp only [jV3]
   refine ⟨⟨by omega,by omega,by rw [zQ6]; omega⟩,q1,⟨by omega,by omega,by rw [zQ6]; omega⟩,r1,fun e=>?_,fun e=>⟨k+1,⟨by omega,jKT ha hb k2 (by simpa using e)⟩,by omega,rfl⟩⟩
   exact (decide_eq_false (jWq ha hb (by simpa using e))).symm
  ·obtain ⟨k1,k2⟩:=hk
   have hl:a.length=b.length:=by simp at h; omega
   have:k=a.length:=by omega
   subst this
   exact (decide_eq_true (jVU hl k2)).symm
theorem zHu (s t:Scr) (hM:∀ m∈s.ims,m.isU) (hN:∀ m∈t.ims,m.isU):Ans prog 16 [RV.agg [dJ s.bits,dJ s.c.a,dJ s.c.b,dJ s.c.c,dJ s.c.d,dJ s.tw,dJ s.th,dS s.ord.length (is s.ord),dS s.ims.length (ims s.ims),dS s.ops.length (ops s.ops)],RV.agg [dJ t.bits,dJ t.c.a,dJ t.c.b,dJ t.c.c,dJ t.c.d,dJ t.tw,dJ t.th,dS t.ord.length (is t.ord),dS t.ims.length (ims t.ims),dS t.ops.length (ops t.ops)]] (RV.d (dQ (eqS s (⟨t.bits,⟨t.c.a,t.c.b,t.c.c,t.c.d⟩,t.tw,t.th,ints (is t.ord),zQR (ims t.ims),zQK (ops t.ops)⟩:Scr)))):=
 zQj (Γ:=jWf) (Ann.seq Ann.leaf (Ann.seq Ann.leaf (Ann.seq (Ann.seq Ann.leaf (Ann.loop ⟨Nat,fun k=>k≤s.ims.length∧eqTo s.ims t.ims k=true,fun k=>⟨[(2,AV.one (Cl.ptr 2 0)),(3,AV.one (Cl.ptr 3 0)),(5,aJ (k:Int))],[(2,bC [cJ s.bits,cJ s.c.a,cJ s.c.b,cJ s.c.c,cJ s.c.d,cJ s.tw,cJ s.th,Cl.d (dS s.ord.length (is s.ord)),Cl.d (dS s.ims.length (ims s.ims)),Cl.d (dS s.ops.length (ops s.ops))]),(3,bC [cJ t.bits,cJ t.c.a,cJ t.c.b,cJ t.c.c,cJ t.c.d,cJ t.tw,cJ t.th,Cl.d (dS t.ord.length (is t.ord)),Cl.d (dS t.ims.length (ims t.ims)),Cl.d (dS t.ops.length (ops t.ops))])]⟩,fun k=>s.ims.length - k⟩ fun k=>Ann.leaf)) Ann.leaf))) zQs Tryz.func16 rfl (nL rfl) fun hwf=>by
  refine Eq.mpr (by kernel_rfl:_=(let f:=(t.ims.length:Int); let g:=(ints (is s.ord)=ints (is t.ord)); let h:=(zQK (ops s.ops)=zQK (ops t.ops)); let j:=(!((s.c.a==t.c.a) && ((s.c.b==t.c.b) && ((s.c.c==t.c.c) && ((s.c.d==t.c.d) && true))))); let c:=(s.ims.length:Int); let d:=(dQ (eqS s ((sE t):Scr))); let a:=(RV.d (dQ false)=RV.d d); let l:=fun (k:Nat)=>(k≤s.ims.length∧eqTo s.ims t.ims k=true); let m:=[dJ s.bits,dJ s.c.a,dJ s.c.b,dJ s.c.c,dJ s.c.d,dJ s.tw,dJ s.th,dS s.ord.length (is s.ord),dS s.ims.length (ims s.ims),dS s.ops.length (ops s.ops)]; let n:=[dJ t.bits,dJ t.c.a,dJ t.c.b,dJ t.c.c,dJ t.c.d,dJ t.tw,dJ t.th,dS t.ord.length (is t.ord),dS t.ims.length (ims t.ims),dS t.ops.length (ops t.ops)]; let o:=((m=m)∧(n=n)∧True); let p:=fun (k:Nat)=>(0≤(k:Int)∧(k:Int) < c∧(k:Int).toNat*28 < (ims s.ims).length); let q:=fun (k:Nat)=>(0≤(k:Int)∧(k:Int) < f∧(k:Int).toNat*28 < (ims t.ims).length); True∧tU8 (((s.bits != t.bits)=false→tU7 ((j=false→tU7 (((s.tw != t.tw)=false→tU7 (((s.th != t.th)=false→tU4 ((Ans prog 40 [RV.d (dS s.ord.length (is s.ord)),RV.d (dS t.ord.length (is t.ord))] (RV.d (dQ (decide g))))∧tU3 (((!(decide g))=false→True∧tU8 (((c != f)=false→tU4 ((Ans prog 41 [RV.d (dS s.ops.length (ops s.ops)),RV.d (dS t.ops.length (ops t.ops))] (RV.d (dQ (decide h))))∧tU2 (((!(decide h))=true→True∧RV.d (dQ false)=RV.d d)∧((!(decide h))=false→True∧((∃ k:Nat,(l k)∧(((0=0)∧(0=0)∧(dJ 0=dJ (k:Int))∧True)∧o))∧∀ k:Nat,let e:=((k:Int).toNat*28+2); let r:=(!((bAt (ims s.ims) e)==(bAt (ims t.ims) e))); let b:=((k:Int).toNat*28); let i:=(Im.equal (imQ (ims s.ims) b) (imQ (ims t.ims) b)); (l k)→tU5 (((decide ((k:Int) < c))=true→tU3 ((p k)∧True∧(((ims s.ims)[(k:Int).toNat*28+2]?=some (dQ (bAt (ims s.ims) e)))∧True)∧tU3 ((q k)∧True∧(((ims t.ims)[(k:Int).toNat*28+2]?=some (dQ (bAt (ims t.ims) e)))∧True)∧tU2 ((r=false→tU3 ((p k)∧(imQr (ims s.ims) b)∧tU3 ((q k)∧(imQr (ims t.ims) b)∧(Ans prog 42 [imR (imQ (ims s.ims) b),imR (imQ (ims t.ims) b)] (RV.d (dQ i)))∧tU2 ((true=true)∧(((!i)=true→True∧RV.d (dQ false)=RV.d d)∧((!i)=false→tU3 (∃ k':Nat,(k'≤s.ims.length∧eqTo s.ims t.ims k'=true)∧(s.ims.length - k' < s.ims.length - k)∧(((0=0)∧(0=0)∧(dJ (wK ((k:Int)+1))=dJ (k':Int))∧True)∧o))))))))∧(r=(!false)→True∧(true=true)∧True∧RV.d (dQ false)=RV.d d)))))∧((decide ((k:Int) < c))=false→True∧RV.d (dQ true)=RV.d d)))))))∧((c != f)=(!false)→tU2 a)))∧((!(decide g))=(!false)→tU4 a))))∧((s.th != t.th)=(!false)→tU6 a)))∧((s.tw != t.tw)=(!false)→tU8 a)))∧(j=(!false)→tU2 (tU8 a))))∧((s.bits != t.bits)=(!false)→tU4 (tU8 a))))) ?_
  delta sE dJ dQ wK dS
  simp only [sS,imQ,imQr]
  have a1:=zWj s.ord.length (is s.ord) t.ord.length (is t.ord) (jKD rfl) (jKD rfl)
  have a3:=zUD s.ops t.ops
  have hil:s.ims.length≤9223372036854775807:=by
   simp only [RV.wfs,RV.wf,DV.wf,DV.wfs,maxLen] at hwf
   omega
  have eS:(⟨t.bits,t.c,t.tw,t.th,t.ord,t.ims,t.ops⟩:Scr)=t:=rfl
  clear hwf
  simp only [zQO,zQ2,zQU,eS] at a1 a3 ⊢
  have E:=jVJ s t
  refine ⟨fun h1=>⟨fun h2=>⟨fun h3=>⟨fun h4=>⟨a1,fun h5=>⟨fun h6=>⟨a3,fun h7=>?_,fun h7=>⟨⟨0,⟨Nat.zero_le _,by simp [eqTo]⟩,rfl⟩,fun k hk=>⟨fun hlt=>?_,fun hge=>?_⟩⟩⟩,fun h6=>?_⟩,fun h5=>?_⟩,fun h4=>?_⟩,fun h3=>?_⟩,fun h2=>?_⟩,fun h1=>?_⟩
  ·rw [E,decide_eq_false h7]; simp
  ·obtain ⟨k1,k2⟩:=hk
   have hl:s.ims.length=t.ims.length:=by simp at h6; omega
   have ha:k < s.ims.length:=by omega
   have hb:k < t.ims.length:=by omega
   have q1:=zVZ ha
   have q2:=zV0 ha
   have r1:=zVZ hb
   have r2:=zV0 hb
   have q3:bAt (ims s.ims) (k*28+2)=s.ims[k].so:=q2.2.2.1
   have r3:bAt (ims t.ims) (k*28+2)=t.ims[k].so:=r2.2.2.1
   have q4:(ims s.ims)[k*28+2]?=some (DV.bool s.ims[k].so):=q1.2.2.1
   have r4:(ims t.ims)[k*28+2]?=some (DV.bool t.ims[k].so):=r1.2.2.1
   have w1:IntKind.wrap .i64 ((k:Int)+1)=((k+1:Nat):Int):=by rw [IntWalk.i64_in _ ⟨by omega,by omega⟩]; omega
   have e1:=zVs s.ims[k] t.ims[k] (hM _ (List.getElem_mem ha)) (hN _ (List.getElem_mem hb))
   have bad:eqI s.ims[k] t.ims[k]=false→false=eqS s t:=fun h=>by
    have:zUP s.ims t.ims=false:=by unfold zUP; rw [jJ6 ha hb h,Bool.and_false]
    rw [E,this]; simp
   simp only [q2,r2,q3,r3,w1]
   have B1:(0:Int)≤(k:Int)∧(k:Int) < (s.ims.length:Int)∧k*28 < (ims s.ims).length:=⟨by omega,by omega,by rw [zZC]; omega⟩
   have B2:(0:Int)≤(k:Int)∧(k:Int) < (t.ims.length:Int)∧k*28 < (ims t.ims).length:=⟨by omega,by omega,by rw [zZC]; omega⟩
   refine ⟨B1,q4,B2,r4,fun h8=>⟨B1,q1,B2,r1,e1,fun h9=>bad ?_,fun h9=>⟨k+1,⟨by omega,jY4 ha hb k2 ?_⟩,by omega,rfl⟩⟩,fun h8=>bad ?_⟩
   ·have h9:s.ims[k].equal t.ims[k]=false:=h9
    unfold eqI; rw [h9,Bool.and_false]
   ·have h9:s.ims[k].equal t.ims[k]=true:=h9
    unfold eqI; rw [h9,h8]; rfl
   ·unfold eqI; rw [h8,Bool.false_and]
  ·obtain ⟨k1,k2⟩:=hk
   have hl:s.ims.length=t.ims.length:=by simp at h6; omega
   have:k=s.ims.length:=by omega
   subst this
   have h8:zUP s.ims t.ims=true:=by unfold zUP; rw [k2,decide_eq_true hl]; rfl
   have h1:(s.bits==t.bits)=true:=by simpa using h1
   have h3:(s.tw==t.tw)=true:=by simpa using h3
   have h4:(s.th==t.th)=true:=by simpa using h4
   rw [E,h1,h2,h3,h4,h8,decide_eq_true h5,decide_eq_true h7]; rfl
  ·have hl:s.ims.length≠t.ims.length:=by simp at h6; omega
   have:zUP s.ims t.ims=false:=by unfold zUP; rw [decide_eq_false hl]; rfl
   rw [E,this]; simp
  ·rw [E,decide_eq_false h5]; simp
  ·have h4:(s.th==t.th)=false:=by simpa using h4
   rw [E,h4]; simp
  ·have h3:(s.tw==t.tw)=false:=by simpa using h3
   rw [E,h3]; simp
  ·rw [E,h2]; simp
  ·have h1:(s.bits==t.bits)=false:=by simpa using h1
   rw [E,h1]; simp
end
section
variable {α:Type} {f:α→List DV} {m:Nat}
end
def pxIn (p:Px):Prop:=(0≤p.a∧p.a≤65535)∧(0≤p.b∧p.b≤65535)∧(0≤p.c∧p.c≤65535)∧(0≤p.al∧p.al≤65535)∧(0≤p.f∧p.f≤65535)
def imIn (m:Im):Prop:=m.formed=true∧pxIn m.c∧∀ p∈m.pixels,pxIn p
def Im.nrm (m:Im):Im:=if m.so then zQg m.w m.h m.c else imOf m.w m.h m.pixels
def Scr.norm (s:Scr):Scr:=⟨s.bits,s.c,s.tw,s.th,s.ord,s.ims.map Im.nrm,s.ops⟩
theorem jK6 {p:Px} {most:Int} (h:p.fine most) (hm:most≤65535):pxIn p:=by
 obtain ⟨h1,h2,h3,h4,h5⟩:=h
 simp [Px.ok] at h1
 exact ⟨by omega,by omega,by omega,by omega,by omega⟩
theorem jYO {m:Im} (hf:m.formed=true) (hp:∀ p∈m.pixels,pxIn p):imIn m:=by
 refine ⟨hf,?_,hp⟩
 by_cases hs:m.so=true
 ·have:=Im.count_pos hf
  refine hp _ ?_
  rw [Im.pixels_so hf hs]
  exact List.mem_replicate.2 ⟨by omega,rfl⟩
 ·rw [(Im.inner_planes (Im.formed_of hf).2 (by simpa using hs)).1]
  exact ⟨⟨by decide,by decide⟩,⟨by decide,by decide⟩,⟨by decide,by decide⟩,⟨by decide,by decide⟩,⟨by decide,by decide⟩⟩
theorem Scn.ims_in (s:Scn):∀ m∈s.ims,imIn m:=by
 have hq:1≤s.c.c - s.c.a∧s.c.c - s.c.a≤100∧1≤s.c.d - s.c.b∧s.c.d - s.c.b≤100:=by have:=s.facts; have CF:=s.c_facts; omega
 have hm:0≤s.most∧s.most≤65535:=by rcases s.most_in with h | h <;> rw [h] <;> omega
 intro m hmem
 refine jYO (s.fine m hmem).1 fun p hp=>jK6 (most:=s.most) ?_ hm.2
 unfold Scn.ims at hmem
 split at hmem
 ·rw [List.mem_singleton] at hmem
  subst hmem
  have F:=s.facts
  have hf:zQ8 s.gw s.gh=true:=by
   have:=Int.mul_le_mul F.2.2.1.2 F.2.2.2.1.2 (by omega) (by omega)
   simp [zQ8]; omega
  change p∈(zQg s.gw s.gh ⟨s.most,0,0,s.most,s.most⟩).pixels at hp
  rw [Im.pixels_of (zXl _ hf),Im.list,List.mem_map] at hp
  obtain ⟨k,_,rfl⟩:=hp
  have e:(zQg s.gw s.gh ⟨s.most,0,0,s.most,s.most⟩).nth k=⟨s.most,0,0,s.most,s.most⟩:=by simp [Im.nth,Im.px,zQg]
  change ((zQg s.gw s.gh ⟨s.most,0,0,s.most,s.most⟩).nth k).fine s.most
  rw [e]
  exact ⟨by simp [Px.ok]; omega,by simp only; omega,by simp only; omega,by simp only; omega,by simp only; omega⟩
 ·simp only [Scn.pics,List.mem_map] at hmem
  obtain ⟨k,_,rfl⟩:=hmem
  exact zUk _ _ _ _ _ _ _ _ _ _ hm.1 hm.2 hq p hp
theorem jJ4 (r:Rw) (push:Bool) (n:Int) (c:Rc) (free:Bool) {most:Int} (h0:0≤most) (h1:most≤65535):0≤(gOp r push n c free most).opac∧(gOp r push n c free most).opac≤65535:=by
 unfold gOp
 simp only
 split
 ·have:=zXW (IntKind.wrap .i64 (Int.tdiv r.op 2)) h0 h1
  omega
 ·omega
theorem Scn.run_opac (s:Scn):∀ k,∀ o∈(s.run k).1,0≤o.opac∧o.opac≤65535
 | 0,o,ho=>by cases ho
 | k+1,o,ho=>by
  have hm:0≤s.most∧s.most≤65535:=by rcases s.most_in with h | h <;> rw [h] <;> omega
  have ih:=s.run_opac k
  have ho:o∈(s.step (rwAt s.rxs (k*11)) (s.run k)).1:=ho
  unfold Scn.step at ho
  split at ho
  ·rcases List.mem_append.1 ho with h | h
   ·exact ih o h
   ·rw [List.mem_singleton] at h
    subst h
    exact ⟨by decide,by decide⟩
  ·rcases List.mem_append.1 ho with h | h
   ·exact ih o h
   ·rw [List.mem_singleton] at h
    subst h
    exact jJ4 _ _ _ _ _ hm.1 hm.2
theorem Scn.ops_opac (s:Scn):∀ o∈s.ops,0≤o.opac∧o.opac≤65535:=fun o ho=>by
 rcases List.mem_append.1 (show o∈(s.run (min s.rn 9)).1++List.replicate (s.run (min s.rn 9)).2.length popO from ho) with h | h
 ·exact s.run_opac _ o h
 ·rw [List.eq_of_mem_replicate h]
  exact ⟨by decide,by decide⟩
def Scn.scr (s:Scn):Scr:=⟨s.bits,s.c,s.gtw,s.gth,s.ord,s.ims,s.ops⟩
theorem jJ8 {m:Im} (h:m.formed=true):eqI m m=true:=by
 unfold eqI Im.equal
 simp [h]
theorem jJ7 {s:Scr} (h:∀ m∈s.ims,m.formed=true):eqS s s=true:=by
 have h1:zUP s.ims s.ims=true:=by
  unfold zUP eqTo
  rw [decide_eq_true rfl,Bool.true_and,List.all_eq_true]
  intro i hi
  have hi:=List.mem_range.1 hi
  rw [jQd hi]
  exact jJ8 (h _ (List.getElem_mem hi))
 unfold eqS
 rw [h1]
 simp
end Go.Proofs.YtheidkkebdhmkaaGreatDoor
