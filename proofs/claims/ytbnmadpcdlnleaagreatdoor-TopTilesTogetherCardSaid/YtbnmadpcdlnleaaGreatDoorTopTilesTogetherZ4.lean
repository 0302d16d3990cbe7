/-
  Part 4 of what TopTilesTogether rests on.
-/
import Derived.Test.YtbnmadpcdlnleaaGreatDoorTopTilesTogetherZ3
import Derived.Lib.Mul64
import Derived.Shelf.Spec.BitsCarry
namespace Go.Proofs.YtbnmadpcdlnleaaGreatDoor
open Go.IntKind (wrap)
open Go.RowKit
set_option linter.unusedVariables false
set_option linter.unusedSimpArgs false
set_option maxRecDepth 20000
open Go.Proofs.Tryz (prog)
section
attribute [local irreducible] Ans AnsO AnsG AnsN AnsI
def jGV:Gam where
 pure:=fun f xs=>
  if f=27 then gZ0 xs else
  if f=30 then gZ18 xs else
  if f=32 then (match xs with | [.agg [.int _ pw,.int _ ph,.int _ so,.int _ mood,.sl L xs],.agg [.int _ x0,.int _ y0,.int _ x1,.int _ y1],.d (.int _ most)]=>let a:=(zQO pw ph so mood L xs x0 y0 x1 y1 most); some (RV.agg [dJ a.w,dJ a.h,dQ a.so,dK a.c.a,dK a.c.b,dK a.c.c,dK a.c.al,dK a.c.f,dJ a.p0.w,dJ a.p0.h,dJ a.p0.s,dS a.p0.n a.p0.xs,dJ a.p1.w,dJ a.p1.h,dJ a.p1.s,dS a.p1.n a.p1.xs,dJ a.p2.w,dJ a.p2.h,dJ a.p2.s,dS a.p2.n a.p2.xs,dJ a.p3.w,dJ a.p3.h,dJ a.p3.s,dS a.p3.n a.p3.xs,dJ a.p4.w,dJ a.p4.h,dJ a.p4.s,dS a.p4.n a.p4.xs]) | _=>none) else
  if f=15 then gZ33 xs else
  if f=31 then gZ1 xs else
  if f=9 then gZ8 xs else
  if f=33 then gZ15 xs else
  none
 modes:=fun f=>
  none
 proc:=fun f xs bs=>
  none
 iter:=fun f cs=>
  none
theorem jXS (s:Scn) (hs:s.ok):AnsG prog 7 0 [AV.agg [cJ (s.b),cJ (s.x),cJ (s.y),cJ (s.w),cJ (s.h),cJ (s.tw),cJ (s.th),cD (dS s.on s.oxs),cD (dS s.pn s.pxs),cD (dS s.rn s.rxs)]] [] ⟨AV.agg [cJ (((s).bits)),cJ (((s).c.a)),cJ (((s).c.b)),cJ (((s).c.c)),cJ (((s).c.d)),cJ (((s).gtw)),cJ (((s).gth)),Cl.ref 0 ((s).ord.length),Cl.ref 1 ((s).ims.length),Cl.ref 2 ((s).ops.length)],[bR 3 1 (is (s).ord),bR 43 28 (ims (s).ims),bR 61 12 (ops (s).ops)],false⟩:=
 zZp (Γ:=jGV) (let d:=(s.run (min s.rn 9)); let e:=(1,aO (Cl.ptr 1 0)); let a:=(4,aO (Cl.ptr 4 0)); let b:=(2,aO (Cl.ptr 2 0)); let f:=(3,aO (cK s.most)); let u:=[e,b,f,a]; let g:=(1,bC [cJ s.b,cJ s.x,cJ s.y,cJ s.w,cJ s.h,cJ s.tw,cJ s.th,cD (dS s.on s.oxs),cD (dS s.pn s.pxs),cD (dS s.rn s.rxs)]); let c:=(2,bC [cJ 0,cJ 0,cJ 0,cJ 0,cJ 0,cJ 0,cJ 0,Cl.nil,Cl.nil,Cl.nil]); let v:=[g,c,(4,bC [cJ s.bits,cJ 0,cJ 0,cJ 0,cJ 0,cJ 0,cJ 0,Cl.nil,Cl.nil,Cl.nil])]; let n:=(7,aJ s.gw); let q:=(8,aJ s.gh); let r:=[e,b,f,a,n,q]; let h:=(7000,bR 3 1 (is s.ord)); let i:=(5000,bR 43 28 (ims s.ims)); let w:=(13,aO (Cl.ref 5002 d.2.length)); let x:=(5002,bR 61 12 (ops d.2)); let l:=fun (k:Nat)=>(13,aO (Cl.ref 5002 (s.run k).2.length)); let m:=fun (k:Nat)=>(14,aJ (k:Int)); let y:=fun (k:Nat)=>(4,bC [cJ s.bits,cJ s.c.a,cJ s.c.b,cJ s.c.c,cJ s.c.d,cJ s.gtw,cJ s.gth,Cl.ref 7000 s.ord.length,Cl.ref 5000 s.ims.length,Cl.ref 5001 (s.run k).1.length]); let z:=fun (k:Nat)=>(5002,bR 61 12 (ops (s.run k).2)); let A:=fun (k:Nat)=>(5001,bR 61 12 (ops (s.run k).1)); let t:=fun (k:Nat)=>[g,c,(y k),(z k),h,i,(A k)]; let B:=fun (k:Nat)=>(15,aJ (modS (nAt s.rxs ((k:Int).toNat*11+0)) (8:Int))); (aQ aL (aQ aL (aQ aL (Ann.cut ⟨Unit,fun u1:Unit=>True,fun u1:Unit=>⟨u,v⟩,fun u1:Unit=>0⟩ aL fun u1=>(aQ aL (Ann.cut ⟨Unit,fun u2:Unit=>True,fun u2:Unit=>⟨[e,b,f,a,(5,aJ s.c.a),(6,aJ s.c.b),n,q],v⟩,fun u2:Unit=>0⟩ aL fun u2=>(aQ aL (Ann.cut ⟨Unit,fun u3:Unit=>True,fun u3:Unit=>⟨r,[g,c,(4,bC [cJ s.bits,cJ s.c.a,cJ s.c.b,cJ s.c.c,cJ s.c.d,cJ s.gtw,cJ s.gth,Cl.nil,Cl.nil,Cl.nil])]⟩,fun u3:Unit=>0⟩ aL fun u3=>(aQ aL (Ann.cut ⟨Unit,fun u4:Unit=>True,fun u4:Unit=>⟨r,[g,c,(4,bC [cJ s.bits,cJ s.c.a,cJ s.c.b,cJ s.c.c,cJ s.c.d,cJ s.gtw,cJ s.gth,Cl.ref 7000 s.ord.length,Cl.nil,Cl.nil]),h]⟩,fun u4:Unit=>0⟩ aL fun u4=>(Ann.cut ⟨Unit,fun u6:Unit=>True,fun u6:Unit=>⟨r,[g,c,(4,bC [cJ s.bits,cJ s.c.a,cJ s.c.b,cJ s.c.c,cJ s.c.d,cJ s.gtw,cJ s.gth,Cl.ref 7000 s.ord.length,Cl.ref 5000 (s.pics (min s.pn 4)).length,Cl.nil]),h,(5000,bR 43 28 (ims (s.pics (min s.pn 4))))]⟩,fun u6:Unit=>0⟩ (aQ aL (Ann.loop ⟨Nat,fun p=>p≤min s.pn 4,fun p=>⟨[e,b,f,a,n,q,(12,aJ (p:Int))],[g,c,(4,bC [cJ s.bits,cJ s.c.a,cJ s.c.b,cJ s.c.c,cJ s.c.d,cJ s.gtw,cJ s.gth,Cl.ref 7000 s.ord.length,Cl.ref 5000 p,Cl.nil]),h,(5000,bR 43 28 (ims (s.pics p)))]⟩,fun p=>min s.pn 4 - p⟩ fun p=>aL)) fun u6=>(Ann.cut ⟨Unit,fun u5:Unit=>True,fun u5:Unit=>⟨u,[g,c,(4,bC [cJ s.bits,cJ s.c.a,cJ s.c.b,cJ s.c.c,cJ s.c.d,cJ s.gtw,cJ s.gth,Cl.ref 7000 s.ord.length,Cl.ref 5000 s.ims.length,Cl.nil]),h,i]⟩,fun u5:Unit=>0⟩ aL fun u5=>(aQ aL (Ann.cut ⟨Unit,fun u7:Unit=>True,fun u7:Unit=>⟨[b,a,w],[c,(4,bC [cJ s.bits,cJ s.c.a,cJ s.c.b,cJ s.c.c,cJ s.c.d,cJ s.gtw,cJ s.gth,Cl.ref 7000 s.ord.length,Cl.ref 5000 s.ims.length,Cl.ref 5001 d.1.length]),x,h,i,(5001,bR 61 12 (ops d.1))]⟩,fun u7:Unit=>0⟩ (aQ aL (Ann.loop ⟨Nat,fun k=>k≤min s.rn 9,fun k=>⟨[e,b,f,a,(l k),(m k)],(t k)⟩,fun k=>min s.rn 9 - k⟩ fun k=>(aQ aL (aQ (aQ aL (aQ aL (Ann.cut ⟨Unit,fun u8:Unit=>¬ (modS (rwAt s.rxs (k*11)).k 8=0∧0 < (s.run k).2.length),fun u8:Unit=>⟨[e,b,f,a,(l k),(m k),(B k),(16,aJ (((s.run k).2.length:Nat):Int))],(t k)⟩,fun u8:Unit=>0⟩ aL fun u8=>(Ann.cut ⟨Bool,fun fr:Bool=>fr=ctxB (s.run k).2,fun fr:Bool=>⟨[e,b,f,a,(l k),(m k),(B k),(17,aO (cD (dQ fr)))],(t k)⟩,fun fr:Bool=>0⟩ aL fun fr=>(Ann.cut ⟨Oq,fun o:Oq=>o=gOp (rwAt s.rxs (k*11)) (decide (modS (rwAt s.rxs (k*11)).k 8 < 3)) s.ims.length s.c (ctxB (s.run k).2) s.most,fun o:Oq=>⟨[e,b,f,a,(l k),(m k),(18,aO (Cl.ptr 18 0))],[g,c,(y k),(z k),(18,bC [cJ o.kind,cJ o.image,cJ o.x,cJ o.y,cJ o.mask,cJ o.mx,cJ o.my,cK o.opac,cJ o.oper,cJ o.mode,cD (dQ o.iso),cD (dQ o.kno)]),h,i,(A k)]⟩,fun o:Oq=>0⟩ aL fun o=>aL))))) aL)))) fun u7=>(aQ (aQ aL (Ann.loop ⟨Nat,fun j=>j≤d.2.length,fun j=>⟨[b,a,w,(19,aJ (j:Int))],[c,(4,bC [cJ s.bits,cJ s.c.a,cJ s.c.b,cJ s.c.c,cJ s.c.d,cJ s.gtw,cJ s.gth,Cl.ref 7000 s.ord.length,Cl.ref 5000 s.ims.length,Cl.ref 5001 (d.1++List.replicate j popO).length]),x,h,i,(5001,bR 61 12 (ops (d.1++List.replicate j popO)))]⟩,fun j=>d.2.length - j⟩ fun j=>aL)) aL)))))))))))))))) zQf Tryz.func7 rfl (nL rfl) rfl fun hwf hbx=>by
  refine Eq.mpr (by kernel_rfl:_=(let T:=(s.ims.length:Int); let A:=(cntS s.c s.gtw s.gth); let t:=(ims s.ims=ims s.ims); let u:=(s.pics (min s.pn 4)); let y3:=(((u.length:Nat):Int)==0); let D:=([dJ 3,dJ 0,dJ 0,dJ 0,dJ 0,dJ 0,dJ 0,dK 0,dJ 0,dJ 0,dQ false,dQ false]); let e:=(is s.ord=is s.ord); let b:=(s.run (min s.rn 9)); let w8:=((b.2.length:Nat):Int); let y4:=((0=0)∧(0=0)∧(dK (gMax s.b)=dK s.most)∧(0=0)∧True); let y5:=[dJ s.b,dJ s.x,dJ s.y,dJ s.w,dJ s.h,dJ s.tw,dJ s.th,dS s.on s.oxs,dS s.pn s.pxs,dS s.rn s.rxs]; let d:=(y5=y5); let a:=(dJ 0=dJ 0); let c:=(a∧a∧a∧a∧a∧a∧a∧tU3 True); let f:=(dK s.most=dK s.most); let g:=(dJ s.bits=dJ s.bits); let U:=(dJ s.gw=dJ s.gw); let V:=(dJ s.gh=dJ s.gh); let W:=((0=0)∧(0=0)∧f∧(0=0)∧U∧V∧True); let h:=(dJ s.c.a=dJ s.c.a); let i:=(dJ s.c.b=dJ s.c.b); let X:=[dJ s.c.a,dJ s.c.b,dJ s.c.c,dJ s.c.d]; let y6:=(wK (A.1*A.2.1)); let E:=(zJL (ints s.oxs) y6); let l:=(dJ s.c.c=dJ s.c.c); let m:=(dJ s.c.d=dJ s.c.d); let n:=(dJ s.gtw=dJ s.gtw); let q:=(dJ s.gth=dJ s.gth); let r:=(s.ord.length=s.ord.length); let y7:=fun (p:Nat)=>(W∧(d∧c∧(g∧h∧i∧l∧m∧n∧q∧r∧(p=u.length)∧True∧True)∧e∧(ims (s.pics p)=ims u)∧True)); let y8:=(Im.ds (zQd s.gw s.gh ⟨s.most,(0:Int),(0:Int),s.most,s.most⟩)); let y9:=((0=0)∧(0=0)∧f∧(0=0)∧True); let y:=(s.ims.length=s.ims.length); let x0:=fun (k:Nat)=>(0≤(k:Int)∧(k:Int) < (s.rn:Int)∧k*11 < s.rxs.length); let Y:=fun (k:Nat)=>fun (k':Nat)=>(min s.rn 9 - k' < min s.rn 9 - k); let Z:=fun (k:Nat)=>fun (k':Nat)=>(dJ (wK ((k:Int)+1))=dJ (k':Int)); let z0:=fun (k:Nat)=>fun (k':Nat)=>(g∧h∧i∧l∧m∧n∧q∧r∧y∧((s.run k).1.length+1=(s.run k').1.length)∧True); let B:=fun (k:Nat)=>((s.run k).2.length=(s.run k).2.length); let C:=fun (k:Nat)=>(dJ (k:Int)=dJ (k:Int)); let F:=fun (k:Nat)=>(dJ (modS (nAt s.rxs (k*11+0)) (8:Int))=dJ (modS (nAt s.rxs (k*11+0)) (8:Int))); let x1:=fun (k:Nat)=>(g∧h∧i∧l∧m∧n∧q∧r∧y∧((s.run k).1.length=(s.run k).1.length)∧True); let x2:=fun (k:Nat)=>(ops (s.run k).2=ops (s.run k).2); let x3:=fun (k:Nat)=>(ops (s.run k).1=ops (s.run k).1); let G:=fun (k:Nat)=>(d∧c∧(x1 k)∧(x2 k)∧e∧t∧(x3 k)∧True); let x4:=fun (k:Nat)=>(((0=0)∧(0=0)∧f∧(0=0)∧(B k)∧(C k)∧(F k)∧(dJ (((s.run k).2.length:Nat):Int)=dJ (((s.run k).2.length:Nat):Int))∧True)∧(G k)); let x5:=fun (k:Nat)=>(0≤wK ((((s.run k).2.length:Nat):Int) - 1)∧wK ((((s.run k).2.length:Nat):Int) - 1) < (((s.run k).2.length:Nat):Int)); let x6:=fun (k:Nat)=>fun (o:Oq)=>(o=gOp (rwAt s.rxs (k*11)) (decide (modS (rwAt s.rxs (k*11)).k 8 < 3)) s.ims.length s.c (ctxB (s.run k).2) s.most); let x7:=fun (k:Nat)=>fun (k':Nat)=>fun (o:Oq)=>((ops (s.run k).1)++(Oq.cells o)=ops (s.run k').1); let x8:=fun (k:Nat)=>(((0=0)∧(0=0)∧((s.run k).2.length=b.2.length)∧True)∧(c∧(g∧h∧i∧l∧m∧n∧q∧r∧y∧((s.run k).1.length=b.1.length)∧True)∧(ops (s.run k).2=ops b.2)∧e∧t∧(ops (s.run k).1=ops b.1)∧True)); let x9:=fun (j:Nat)=>(j≤b.2.length); let w0:=(b.2.length=b.2.length); let w1:=(ops b.2=ops b.2); tU4 ((Ans prog 30 [rJ s.b] (rD (dK (gMax s.b))))∧tU4 ((tU2 (((decide ((gMax s.b) > 255))=true→tU2 (∃ u1:Unit,True∧(y4∧(d∧c∧((dJ 16=dJ s.bits)∧a∧a∧a∧a∧a∧a∧tU3 True)∧True))))∧((decide ((gMax s.b) > 255))=false→∃ u1:Unit,True∧(y4∧(d∧c∧((dJ 8=dJ s.bits)∧a∧a∧a∧a∧a∧a∧tU3 True)∧True)))))∧∀ u1:Unit,True→tU2 ((Ans prog 27 [rJ s.x,rJ 13] (rJ (modS s.x (13:Int))))∧tU3 ((Ans prog 27 [rJ s.y,rJ 13] (rJ (modS s.y (13:Int))))∧tU3 ((true=true)∧(tU2 ((Ans prog 27 [rJ s.w,rJ 5] (rJ (modS s.w (5:Int))))∧tU3 ((Ans prog 27 [rJ s.h,rJ 4] (rJ (modS s.h (4:Int))))∧tU3 ((true=true)∧∃ u2:Unit,True∧(((0=0)∧(0=0)∧f∧(0=0)∧(dJ (wK ((modS s.x (13:Int)) - 6))=dJ s.c.a)∧(dJ (wK ((modS s.y (13:Int)) - 6))=dJ s.c.b)∧(dJ (wK ((1:Int)+(modS s.w (5:Int))))=dJ s.gw)∧(dJ (wK ((1:Int)+(modS s.h (4:Int))))=dJ s.gh)∧True)∧(d∧c∧(g∧a∧a∧a∧a∧a∧a∧tU3 True)∧True))))))∧∀ u2:Unit,True→tU3 (tU8 ((tU3 ((Ans prog 27 [rJ s.tw,rJ s.gw] (rJ (modS s.tw s.gw)))∧tU4 ((Ans prog 27 [rJ s.th,rJ s.gh] (rJ (modS s.th s.gh)))∧tU5 ((true=true)∧∃ u3:Unit,True∧(W∧(d∧c∧(g∧h∧i∧(dJ (wK (s.c.a+s.gw))=dJ s.c.c)∧(dJ (wK (s.c.b+s.gh))=dJ s.c.d)∧(dJ (wK ((1:Int)+(modS s.tw s.gw)))=dJ s.gtw)∧(dJ (wK ((1:Int)+(modS s.th s.gh)))=dJ s.gth)∧tU3 True)∧True))))))∧∀ u3:Unit,True→tU6 ((Ans prog 9 [rA X,rJ s.gtw,rJ s.gth] (rT [rJ A.1,rJ A.2.1,rD (dQ A.2.2)]))∧tU7 ((tU5 ((AnsO prog 31 [rD (dS s.on s.oxs),rJ y6] 3 1 E.length (is E))∧tU2 (∃ u4:Unit,True∧(W∧(d∧c∧(g∧h∧i∧l∧m∧n∧q∧(E.length=s.ord.length)∧tU2 True)∧(is E=is s.ord)∧True)))))∧∀ u4:Unit,True→(True∧((∃ p:Nat,(p≤min s.pn 4)∧(((0=0)∧(0=0)∧f∧(0=0)∧U∧V∧(dJ 0=dJ (p:Int))∧True)∧(d∧c∧(g∧h∧i∧l∧m∧n∧q∧r∧(0=p)∧True∧True)∧e∧([]=ims (s.pics p))∧True)))∧∀ p:Nat,let w2:=(decide ((p:Int) < (s.pn:Int))); let z1:=(nAt s.pxs (p*5)); let z2:=(nAt s.pxs (p*5+1)); let z3:=(nAt s.pxs (p*5+1+1)); let z4:=(nAt s.pxs (p*5+1+1+1)); let w3:=(p*5+1+1+1+1); let z5:=(cAt s.pxs w3); let z6:=(lAt s.pxs w3); let z7:=(zQO z1 z2 z3 z4 z6 z5 s.c.a s.c.b s.c.c s.c.d s.most); (p≤min s.pn 4)→tU6 ((w2=true→tU3 (((decide ((p:Int) < 4))=true→tU5 ((0≤(p:Int)∧(p:Int) < (s.pn:Int)∧p*5 < s.pxs.length)∧((s.pxs[p*5]?=some (dJ z1))∧(s.pxs[p*5+1]?=some (dJ z2))∧(s.pxs[p*5+1+1]?=some (dJ z3))∧(s.pxs[p*5+1+1+1]?=some (dJ z4))∧(s.pxs[p*5+1+1+1+1]?=some (dS z6 z5))∧True)∧tU3 ((Ans prog 32 [rA [dJ z1,dJ z2,dJ z3,dJ z4,dS z6 z5],rA X,rD (dK s.most)] (imR z7))∧True∧(zZL 28 272 p 1 (ims (s.pics p)) (Im.ds z7))∧tU2 ((true=true)∧tU3 (∃ p':Nat,(p'≤min s.pn 4)∧(min s.pn 4 - p' < min s.pn 4 - p)∧(((0=0)∧(0=0)∧f∧(0=0)∧U∧V∧(dJ (wK ((p:Int)+1))=dJ (p':Int))∧True)∧(d∧c∧(g∧h∧i∧l∧m∧n∧q∧r∧(p+1=p')∧True∧True)∧e∧((ims (s.pics p))++(Im.ds z7)=ims (s.pics p'))∧True)))))))∧((decide ((p:Int) < 4))=false→∃ u6:Unit,True∧(y7 p))))∧(w2=(!true)→True∧∃ u6:Unit,True∧(y7 p)))))∧∀ u6:Unit,True→(tU2 ((u.length≤maxLen)∧True∧((y3=true→True∧tU8 ((Ans prog 33 [rJ s.gw,rJ s.gh,rA [dK s.most,dK 0,dK 0,dK s.most,dK s.most]] (imR (zQd s.gw s.gh ⟨s.most,(0:Int),(0:Int),s.most,s.most⟩)))∧True∧(zZL 28 272 u.length 1 (ims u) y8)∧tU2 ((true=true)∧∃ u5:Unit,True∧(y9∧(d∧c∧(g∧h∧i∧l∧m∧n∧q∧r∧(u.length+1=s.ims.length)∧True∧True)∧e∧((ims u)++y8=ims s.ims)∧True)))))∧(y3=false→∃ u5:Unit,True∧(y9∧(d∧c∧(g∧h∧i∧l∧m∧n∧q∧r∧(u.length=s.ims.length)∧True∧True)∧e∧(ims u=ims s.ims)∧True))))))∧∀ u5:Unit,True→True∧(True∧((∃ k:Nat,(k≤min s.rn 9)∧(((0=0)∧(0=0)∧f∧(0=0)∧(0=(s.run k).2.length)∧(dJ 0=dJ (k:Int))∧True)∧(d∧c∧(g∧h∧i∧l∧m∧n∧q∧r∧y∧(0=(s.run k).1.length)∧True)∧([]=ops (s.run k).2)∧e∧t∧([]=ops (s.run k).1)∧True)))∧∀ k:Nat,let w4:=(decide ((k:Int) < (s.rn:Int))); let z8:=(ops (s.run k).1); let z9:=(nAt s.rxs (k*11+0)); let H:=(nAt s.rxs (k*11)); let I:=(nAt s.rxs (k*11+1)); let J:=(nAt s.rxs (k*11+1+1)); let K:=(nAt s.rxs (k*11+1+1+1)); let L:=(nAt s.rxs (k*11+1+1+1+1)); let M:=(nAt s.rxs (k*11+1+1+1+1+1)); let y0:=(¬ (modS (rwAt s.rxs (k*11)).k 8=0∧0 < (s.run k).2.length)); let N:=(nAt s.rxs (k*11+1+1+1+1+1+1)); let O:=(nAt s.rxs (k*11+1+1+1+1+1+1+1)); let P:=(nAt s.rxs (k*11+1+1+1+1+1+1+1+1)); let v:=(ops (s.run k).2); let Q:=(nAt s.rxs (k*11+1+1+1+1+1+1+1+1+1)); let R:=(nAt s.rxs (k*11+1+1+1+1+1+1+1+1+1+1)); let S:=(modS z9 (8:Int)); let y1:=(decide (S < 3)); let w:=(((s.run k).2.length:Nat):Int); let x:=(wK (w - 1)); let y2:=(bAt v (x.toNat*12+10)); (k≤min s.rn 9)→tU6 ((w4=true→tU3 (((decide ((k:Int) < 9))=true→tU3 ((x0 k)∧True∧((s.rxs[k*11+0]?=some (dJ z9))∧True)∧(Ans prog 27 [rJ z9,rJ 8] (rJ S))∧tU2 (((s.run k).2.length≤maxLen)∧True∧(tU3 (((S==0)=true→tU3 (((decide (w > 0))=true→tU4 ((zZL 12 88 (s.run k).1.length 1 z8 D)∧tU5 ((0≤wK (w - 1)∧wK (w - 1)≤w)∧tU4 (∃ k':Nat,(k'≤min s.rn 9)∧(Y k k')∧(((0=0)∧(0=0)∧f∧(0=0)∧(x.toNat=(s.run k').2.length)∧(Z k k')∧True)∧(d∧c∧(z0 k k')∧(List.take (x.toNat*12) v=ops (s.run k').2)∧e∧t∧(z8++D=ops (s.run k').1)∧True))))))∧((decide (w > 0))=false→∃ u8:Unit,y0∧(x4 k))))∧((S==0)=(!true)→True∧∃ u8:Unit,y0∧(x4 k))))∧∀ u8:Unit,y0→(tU3 (((w==0)=false→tU3 ((x5 k)∧True∧((v[x.toNat*12+10]?=some (dQ y2))∧True)∧True∧((y2=true→tU3 ((x5 k)∧True∧((v[x.toNat*12+11]?=some (dQ (bAt v (x.toNat*12+11))))∧True)∧tU4 (∃ fr:Bool,(fr=ctxB (s.run k).2)∧(((0=0)∧(0=0)∧f∧(0=0)∧(B k)∧(C k)∧(F k)∧(dQ (!(bAt v (x.toNat*12+11)))=dQ fr)∧True)∧(G k)))))∧(y2=(!true)→tU3 (∃ fr:Bool,(fr=ctxB (s.run k).2)∧(((0=0)∧(0=0)∧f∧(0=0)∧(B k)∧(C k)∧(F k)∧(dQ false=dQ fr)∧True)∧(G k)))))))∧((w==0)=(!false)→tU2 (∃ fr:Bool,(fr=ctxB (s.run k).2)∧(((0=0)∧(0=0)∧f∧(0=0)∧(B k)∧(C k)∧(F k)∧(dQ true=dQ fr)∧True)∧(G k))))))∧∀ fr:Bool,(fr=ctxB (s.run k).2)→(tU3 ((x0 k)∧((s.rxs[k*11]?=some (dJ H))∧(s.rxs[k*11+1]?=some (dJ I))∧(s.rxs[k*11+1+1]?=some (dJ J))∧(s.rxs[k*11+1+1+1]?=some (dJ K))∧(s.rxs[k*11+1+1+1+1]?=some (dJ L))∧(s.rxs[k*11+1+1+1+1+1]?=some (dJ M))∧(s.rxs[k*11+1+1+1+1+1+1]?=some (dJ N))∧(s.rxs[k*11+1+1+1+1+1+1+1]?=some (dJ O))∧(s.rxs[k*11+1+1+1+1+1+1+1+1]?=some (dJ P))∧(s.rxs[k*11+1+1+1+1+1+1+1+1+1]?=some (dJ Q))∧(s.rxs[k*11+1+1+1+1+1+1+1+1+1+1]?=some (dJ R))∧True)∧tU4 ((s.ims.length≤maxLen)∧tU4 ((Ans prog 15 [rA [dJ H,dJ I,dJ J,dJ K,dJ L,dJ M,dJ N,dJ O,dJ P,dJ Q,dJ R],rD (dQ y1),rJ T,rA X,rD (dQ fr),rD (dK s.most)] (rA (Oq.cells (gOp ⟨H,I,J,K,L,M,N,O,P,Q,R⟩ y1 T s.c fr s.most))))∧tU2 ((true=true)∧∃ o:Oq,(x6 k o)∧(((0=0)∧(0=0)∧f∧(0=0)∧(B k)∧(C k)∧(0=0)∧True)∧(d∧c∧(x1 k)∧(x2 k)∧((Oq.cells (gOp ⟨H,I,J,K,L,M,N,O,P,Q,R⟩ y1 T s.c fr s.most))=(Oq.cells o))∧e∧t∧(x3 k)∧True)))))))∧∀ o:Oq,(x6 k o)→tU4 ((zZL 12 88 (s.run k).1.length 1 z8 (Oq.cells o))∧tU5 (((o.kind==2)=true→tU3 ((zZL 12 88 (s.run k).2.length 1 v (Oq.cells o))∧tU4 (∃ k':Nat,(k'≤min s.rn 9)∧(Y k k')∧(((0=0)∧(0=0)∧f∧(0=0)∧((s.run k).2.length+1=(s.run k').2.length)∧(Z k k')∧True)∧(d∧c∧(z0 k k')∧(v++(Oq.cells o)=ops (s.run k').2)∧e∧t∧(x7 k k' o)∧True)))))∧((o.kind==2)=false→tU3 (∃ k':Nat,(k'≤min s.rn 9)∧(Y k k')∧(((0=0)∧(0=0)∧f∧(0=0)∧((s.run k).2.length=(s.run k').2.length)∧(Z k k')∧True)∧(d∧c∧(z0 k k')∧(ops (s.run k).2=ops (s.run k').2)∧e∧t∧(x7 k k' o)∧True)))))))))∧((decide ((k:Int) < 9))=false→∃ u7:Unit,True∧(x8 k))))∧(w4=(!true)→True∧∃ u7:Unit,True∧(x8 k)))))∧∀ u7:Unit,True→True∧((∃ j:Nat,let w5:=(b.1++List.replicate j popO); (x9 j)∧(((0=0)∧(0=0)∧w0∧(dJ 0=dJ (j:Int))∧True)∧(c∧(g∧h∧i∧l∧m∧n∧q∧r∧y∧(b.1.length=w5.length)∧True)∧w1∧e∧t∧(ops b.1=ops w5)∧True)))∧∀ j:Nat,let w6:=(decide ((j:Int) < w8)); let z:=(b.1++List.replicate j popO); (x9 j)→tU2 ((b.2.length≤maxLen)∧True∧((w6=true→tU4 ((zZL 12 88 z.length 1 (ops z) D)∧tU5 (∃ j':Nat,let w7:=(b.1++List.replicate j' popO); (j'≤b.2.length)∧(b.2.length - j' < b.2.length - j)∧(((0=0)∧(0=0)∧w0∧(dJ (wK ((j:Int)+1))=dJ (j':Int))∧True)∧(c∧(g∧h∧i∧l∧m∧n∧q∧r∧y∧(z.length+1=w7.length)∧True)∧w1∧e∧t∧((ops z)++D=ops w7)∧True)))))∧(w6=false→tU2 (((((dJ s.bits=dJ s.bits)∧(dJ s.c.a=dJ s.c.a)∧(dJ s.c.b=dJ s.c.b)∧(dJ s.c.c=dJ s.c.c)∧(dJ s.c.d=dJ s.c.d)∧(dJ s.gtw=dJ s.gtw)∧(dJ s.gth=dJ s.gth)∧(s.ord.length=s.ord.length)∧(s.ims.length=s.ims.length)∧(z.length=s.ops.length)∧True)∧True)∧(e∧t∧(ops z=ops s.ops)∧True))∧zQC ⟨AV.agg [cJ s.bits,cJ s.c.a,cJ s.c.b,cJ s.c.c,cJ s.c.d,cJ s.gtw,cJ s.gth,Cl.ref 0 s.ord.length,Cl.ref 1 s.ims.length,Cl.ref 2 s.ops.length],[bR 3 1 (is s.ord),bR 43 28 (ims s.ims),bR 61 12 (ops s.ops)],false⟩)))))))))))))))) ?_
  delta dJ dK dQ cJ wK dS rJ
  simp only [sS,zQn,zWD]
  obtain ⟨⟨ho1,ho2⟩,⟨hp1,hp2⟩,⟨hr1,hr2⟩⟩:=hs
  obtain ⟨f1,f2,f3,f4,f5,f6⟩:=s.facts
  have CF:=s.c_facts
  have w1:wrap .i64 (modS s.x 13 - 6)=s.c.a:=IntWalk.i64_in _ ⟨by omega,by omega⟩
  have w2:wrap .i64 (modS s.y 13 - 6)=s.c.b:=IntWalk.i64_in _ ⟨by omega,by omega⟩
  have g1:s.gw=1+modS s.w 5:=rfl
  have g2:s.gh=1+modS s.h 4:=rfl
  have g3:s.gtw=1+modS s.tw s.gw:=rfl
  have g4:s.gth=1+modS s.th s.gh:=rfl
  have w3:wrap .i64 (1+modS s.w 5)=s.gw:=IntWalk.i64_in _ ⟨by omega,by omega⟩
  have w4:wrap .i64 (1+modS s.h 4)=s.gh:=IntWalk.i64_in _ ⟨by omega,by omega⟩
  have w5:wrap .i64 (s.c.a+s.gw)=s.c.c:=by rw [IntWalk.i64_in _ ⟨by omega,by omega⟩]; omega
  have w6:wrap .i64 (s.c.b+s.gh)=s.c.d:=by rw [IntWalk.i64_in _ ⟨by omega,by omega⟩]; omega
  have w7:wrap .i64 (1+modS s.tw s.gw)=s.gtw:=IntWalk.i64_in _ ⟨by omega,by omega⟩
  have w8:wrap .i64 (1+modS s.th s.gh)=s.gth:=IntWalk.i64_in _ ⟨by omega,by omega⟩
  have hm:=s.tiles_in
  have hM:∀ n:Nat,n≤100→n≤maxLen:=fun n h=>by unfold maxLen; omega
  have li:=s.ims_len
  have lk:=fun k=>s.run_len k
  have pq:1≤s.c.c - s.c.a∧s.c.c - s.c.a≤100∧1≤s.c.d - s.c.b∧s.c.d - s.c.b≤100:=by omega
  have BI:=s.bits_of
  refine ⟨⟨fun h=>⟨(),rfl,BI.1 h⟩,fun h=>⟨(),rfl,BI.2 h⟩⟩,⟨(),w1,w2,w3,w4⟩,⟨(),w5,w6,w7,w8⟩,zYV _ _ _ _ _ _,⟨zUf _ _ _ ⟨ho1,ho2⟩ hm.1,(),rfl,rfl⟩,⟨⟨0,Nat.zero_le _,rfl,rfl,rfl⟩,fun p hp=>⟨fun h1=>⟨fun h2=>?_,fun h2=>?_⟩,fun h1=>?_⟩⟩,?_⟩
  ·obtain ⟨q0,q1,q2,q3,q4,q5⟩:=hp2 p (by omega)
   refine ⟨⟨by omega,by omega,by omega⟩,⟨q0,q1,q2,q3,q4⟩,jXT _ _ _ _ _ _ _ _ _ _ _ q5 pq,⟨by rw [zJP,s.pics_len],by rw [Im.ds_len],hM _ (by omega),by omega⟩,p+1,by omega,by omega,zYs (by omega),rfl,?_⟩
   rw [s.pics_succ,jJ9,jUU]; rfl
  ·have:p=min s.pn 4:=by omega
   subst this
   exact ⟨(),(s.pics_len _).symm,rfl⟩
  ·have:p=min s.pn 4:=by omega
   subst this
   exact ⟨(),(s.pics_len _).symm,rfl⟩
  have lp:=s.pics_len (min s.pn 4)
  refine ⟨⟨hM _ (by omega),fun h=>?_,fun h=>?_⟩,⟨⟨0,Nat.zero_le _,⟨rfl,rfl⟩,rfl,rfl,rfl⟩,fun k hk=>⟨fun h1=>⟨fun h2=>?_,fun h2=>?_⟩,fun h1=>?_⟩⟩,?_⟩
  ·have h0:min s.pn 4=0:=by rw [lp] at h; simpa using h
   have e1:s.ims=[s.solo]:=by unfold Scn.ims; rw [if_pos h0]
   have e2:s.pics (min s.pn 4)=[]:=by rw [h0]; rfl
   rw [e1,e2]
   exact ⟨zKW s.gw s.gh ⟨_,_,_,_,_⟩,⟨by simp [ims],by simp [Im.ds],hM _ (by simp),by simp⟩,(),rfl,by simp [ims]; rfl⟩
  ·have h0:¬ min s.pn 4=0:=by rw [lp] at h; simpa using h
   have e1:s.ims=s.pics (min s.pn 4):=by unfold Scn.ims; rw [if_neg h0]
   rw [e1]
   exact ⟨(),rfl,rfl⟩
  ·have lk1:=(lk k).1
   have lk2:=(lk k).2
   have ro:=fun i (h:i < 11)=>hr2 (k*11+i) (by omega)
   have wl:0 < (s.run k).2.length→wrap .i64 (((s.run k).2.length:Int) - 1)=(((s.run k).2.length - 1:Nat):Int):=fun h=>by rw [IntWalk.i64_in _ ⟨by omega,by omega⟩]; omega
   have ws:wrap .i64 ((k:Int)+1)=((k+1:Nat):Int):=zYs (by omega)
   refine ⟨⟨by omega,by omega,by omega⟩,ro 0 (by omega),hM _ (by omega),⟨fun a1=>⟨fun a2=>?_,fun a2=>⟨(),fun h=>a2 (by omega)⟩⟩,fun a1=>⟨(),fun h=>?_⟩⟩,fun hn=>⟨⟨fun a1=>?_,fun a1=>?_⟩,fun fr hfr=>⟨?_,fun o ho=>?_⟩⟩⟩
   ·have a3:0 < (s.run k).2.length:=by omega
    have a4:modS (nAt s.rxs (k*11)) 8=0:=by simpa using a1
    have rp:=Scn.run_pop (s:=s) (k:=k) ⟨a4,a3⟩
    rw [wl a3]
    refine ⟨⟨by rw [zZh,lk1],rfl,hM _ (by omega),by omega⟩,⟨by omega,by omega⟩,k+1,by omega,by omega,⟨?_,ws⟩,?_,?_,?_⟩
    ·rw [rp]; simp
    ·rw [rp]; simp
    ·rw [rp,Int.toNat_natCast,jQP,List.dropLast_eq_take]
    ·rw [rp,zYY,zGA]; rfl
   ·have a4:¬ modS (nAt s.rxs (k*11)) 8=0:=by simpa using a1
    exact a4 h.1
   ·have a3:0 < (s.run k).2.length:=by
     have:¬ (s.run k).2.length=0:=by simpa using a1
     omega
    have hl:(s.run k).2.length - 1 < (s.run k).2.length:=by omega
    have g10:(ops (s.run k).2)[((s.run k).2.length - 1)*12+10]?=some (.bool (s.run k).2[(s.run k).2.length - 1].iso):=jQQ hl 10 (by omega)
    have g11:(ops (s.run k).2)[((s.run k).2.length - 1)*12+11]?=some (.bool (s.run k).2[(s.run k).2.length - 1].kno):=jQQ hl 11 (by omega)
    have b10:bAt (ops (s.run k).2) (((s.run k).2.length - 1)*12+10)=(s.run k).2[(s.run k).2.length - 1].iso:=by simp only [bAt,g10]
    have b11:bAt (ops (s.run k).2) (((s.run k).2.length - 1)*12+11)=(s.run k).2[(s.run k).2.length - 1].kno:=by simp only [bAt,g11]
    rw [wl a3,Int.toNat_natCast,b10,b11,jVN a3]
    refine ⟨⟨by omega,by omega⟩,g10,fun h=>⟨⟨by omega,by omega⟩,g11,_,rfl,?_⟩,fun h=>⟨_,rfl,?_⟩⟩ <;> simp [h]
   ·have a3:(s.run k).2.length=0:=by simpa using a1
    rw [List.length_eq_zero_iff.1 a3]
    exact ⟨_,rfl,rfl⟩
   ·subst hfr
    refine ⟨⟨by omega,by omega,by omega⟩,⟨ro 0 (by omega),ro 1 (by omega),ro 2 (by omega),ro 3 (by omega),ro 4 (by omega),ro 5 (by omega),ro 6 (by omega),ro 7 (by omega),ro 8 (by omega),ro 9 (by omega),ro 10 (by omega)⟩,hM _ (by omega),jW9 (rwAt s.rxs (k*11)) _ _ _ _ _ ⟨⟨by omega,by omega⟩,by omega,by omega⟩ ⟨by omega,by omega⟩,_,rfl,rfl⟩
   ·obtain ⟨r1,r2⟩:=Scn.run_op (s:=s) (k:=k) hn ho
    clear ho
    refine ⟨⟨by rw [zZh,lk1],rfl,hM _ (by omega),by omega⟩,fun a1=>⟨⟨by rw [zZh],rfl,hM _ (by omega),by omega⟩,k+1,by omega,by omega,⟨?_,ws⟩,?_,?_,?_⟩,fun a1=>⟨k+1,by omega,by omega,⟨?_,ws⟩,?_,?_,?_⟩⟩
    ·rw [r1 (by simpa using a1)]; simp
    ·rw [r1 (by simpa using a1)]; simp
    ·rw [r1 (by simpa using a1),zYY,zGA]
    ·rw [r1 (by simpa using a1),zYY,zGA]
    ·rw [r2 (by simpa using a1)]
    ·rw [r2 (by simpa using a1)]; simp
    ·rw [r2 (by simpa using a1)]
    ·rw [r2 (by simpa using a1),zYY,zGA]
  ·have:k=min s.rn 9:=by omega
   subst this
   exact ⟨(),rfl,rfl,rfl,rfl⟩
  ·have:k=min s.rn 9:=by omega
   subst this
   exact ⟨(),rfl,rfl,rfl,rfl⟩
  ·have e:s.ops=(s.run (min s.rn 9)).1++List.replicate (s.run (min s.rn 9)).2.length popO:=rfl
   have lr:=lk (min s.rn 9)
   rw [e]
   generalize s.run (min s.rn 9)=z at *
   refine ⟨⟨0,Nat.zero_le _,rfl,by simp,by simp⟩,fun j hj=>⟨hM _ (by omega),fun h=>?_,fun h=>?_⟩⟩
   ·have e2:z.1++List.replicate (j+1) popO=(z.1++List.replicate j popO)++[popO]:=by rw [List.append_assoc,List.replicate_succ']
    refine ⟨⟨by rw [zZh],rfl,hM _ (by simp; omega),by simp; omega⟩,j+1,by omega,by omega,zYs (by omega),?_,?_⟩
    ·rw [e2]; simp; omega
    ·rw [e2,zYY _ [popO],zGA]; rfl
   ·have:j=z.2.length:=by omega
    subst this
    exact ⟨⟨rfl,rfl⟩,trivial⟩
structure Scr where
  bits:Int
  c:Rc
  tw:Int
  th:Int
  ord:List Int
  ims:List Im
  ops:List Oq
def imsE (most:Int):List Im→Int→Int × Int
 | [],_=>(0,0)
 | m::r,i=>if m.valid most=0 then imsE most r (i+1) else (m.valid most,i)
def Scr.frame (s:Scr):Int:=zXl s.bits s.c s.tw s.th s.ord s.ims.length s.ops.length
def Scr.run (s:Scr):Int × Int:=opsE s.bits s.c s.tw s.th s.ord s.ims.length s.ops
def zYE (s:Scr):Int × Int:=
 if s.frame=0 then (if (imsE (zQP s.bits) s.ims 0).1=0 then s.run else imsE (zQP s.bits) s.ims 0) else (s.frame,0)
def jGT:Gam where
 pure:=fun f xs=>
  if f=75 then gZ31 xs else
  if f=47 then gZ29 xs else
  if f=76 then gZ16 xs else
  if f=46 then gZ32 xs else
  none
 modes:=fun f=>
  none
 proc:=fun f xs bs=>
  none
 iter:=fun f cs=>
  none
theorem zVV (bits cx0 cy0 cx1 cy1 tw th:Int) (on:Nat) (oxs:List DV) (mn:Nat) (mxs:List DV) (pn:Nat) (pxs:List DV) (hP:pxs=ops (zQb pxs)∧pn=(zQb pxs).length) (hO:oxs=is (ints oxs)∧on=oxs.length) (hM:jW8 mn mxs):Ans prog 34 [rA [dJ bits,dJ cx0,dJ cy0,dJ cx1,dJ cy1,dJ tw,dJ th,dS on oxs,dS mn mxs,dS pn pxs]] (rT [rJ (((zYE ⟨bits,⟨cx0,cy0,cx1,cy1⟩,tw,th,ints oxs,zQc mxs,zQb pxs⟩).1)),rJ (((zYE ⟨bits,⟨cx0,cy0,cx1,cy1⟩,tw,th,ints oxs,zQc mxs,zQb pxs⟩).2))]):=
 zQa (Γ:=jGT) (aQ aL (aQ aL (aQ aL (aQ (aQ aL (Ann.loop ⟨Nat,fun k=>k≤mn∧imsE (zQP bits) ((zQc mxs).drop k) (k:Int)=imsE (zQP bits) (zQc mxs) 0,fun k=>⟨[(1,aO (Cl.ptr 1 0)),(5,aO (cK (zQP bits))),(22,aO (cD (dS mn mxs))),(23,aJ (mn:Int)),(24,aJ (k:Int))],[(1,bC [cJ bits,cJ cx0,cJ cy0,cJ cx1,cJ cy1,cJ tw,cJ th,cD (dS on oxs),cD (dS mn mxs),cD (dS pn pxs)])]⟩,fun k=>mn - k⟩ fun k=>aL)) aL)))) zQf Tryz.func34 rfl (nL rfl) fun hwf=>by
  refine Eq.mpr (by kernel_rfl:_=(let a:=(zQP bits); let J:=[dJ bits,dJ cx0,dJ cy0,dJ cx1,dJ cy1,dJ tw,dJ th,dS on oxs,dS mn mxs,dS pn pxs]; let L:=[rA J]; let M:=(dJ (zXl bits ⟨cx0,cy0,cx1,cy1⟩ tw th (ints oxs) mn pn)); let K:=[rJ (zYE ⟨bits,⟨cx0,cy0,cx1,cy1⟩,tw,th,ints oxs,zQc mxs,zQb pxs⟩).1,rJ (zYE ⟨bits,⟨cx0,cy0,cx1,cy1⟩,tw,th,ints oxs,zQc mxs,zQb pxs⟩).2]; let N:=fun (k:Nat)=>(k≤mn∧imsE a ((zQc mxs).drop k) (k:Int)=imsE a (zQc mxs) 0); let O:=(dK a=dK a); let P:=(dS mn mxs=dS mn mxs); let Q:=(dJ (mn:Int)=dJ (mn:Int)); let R:=((J=J)∧True); let S:=[rJ (opsE bits ⟨cx0,cy0,cx1,cy1⟩ tw th (ints oxs) mn (zQb pxs)).1,rJ (opsE bits ⟨cx0,cy0,cx1,cy1⟩ tw th (ints oxs) mn (zQb pxs)).2]; tU4 ((Ans prog 75 L (rD M))∧tU3 ((((zXl bits ⟨cx0,cy0,cx1,cy1⟩ tw th (ints oxs) mn pn) != 0)=true→tU3 (rT [rD M,rJ 0]=rT K))∧(((zXl bits ⟨cx0,cy0,cx1,cy1⟩ tw th (ints oxs) mn pn) != 0)=false→tU2 ((Ans prog 47 [rJ bits] (rT [rD (dK a),rD (dQ (zYL bits))]))∧True∧tU8 ((∃ k:Nat,(N k)∧(((0=0)∧O∧P∧Q∧(dJ 0=dJ (k:Int))∧True)∧R))∧∀ k:Nat,let T:=(decide ((k:Int) < (mn:Int))); let b:=(nAt mxs (k*28)); let c:=(nAt mxs (k*28+1)); let d:=(bAt mxs (k*28+1+1)); let e:=(nAt mxs (k*28+1+1+1)); let f:=(nAt mxs (k*28+1+1+1+1)); let g:=(nAt mxs (k*28+1+1+1+1+1)); let h:=(nAt mxs (k*28+1+1+1+1+1+1)); let i:=(nAt mxs (k*28+1+1+1+1+1+1+1)); let j:=(nAt mxs (k*28+1+1+1+1+1+1+1+1)); let l:=(nAt mxs (k*28+1+1+1+1+1+1+1+1+1)); let m:=(nAt mxs (k*28+1+1+1+1+1+1+1+1+1+1)); let n:=(nAt mxs (k*28+1+1+1+1+1+1+1+1+1+1+1+1)); let o:=(nAt mxs (k*28+1+1+1+1+1+1+1+1+1+1+1+1+1)); let p:=(nAt mxs (k*28+1+1+1+1+1+1+1+1+1+1+1+1+1+1)); let q:=(nAt mxs (k*28+1+1+1+1+1+1+1+1+1+1+1+1+1+1+1+1)); let r:=(nAt mxs (k*28+1+1+1+1+1+1+1+1+1+1+1+1+1+1+1+1+1)); let s:=(nAt mxs (k*28+1+1+1+1+1+1+1+1+1+1+1+1+1+1+1+1+1+1)); let t:=(nAt mxs (k*28+1+1+1+1+1+1+1+1+1+1+1+1+1+1+1+1+1+1+1+1)); let u:=(nAt mxs (k*28+1+1+1+1+1+1+1+1+1+1+1+1+1+1+1+1+1+1+1+1+1)); let v:=(nAt mxs (k*28+1+1+1+1+1+1+1+1+1+1+1+1+1+1+1+1+1+1+1+1+1+1)); let w:=(nAt mxs (k*28+1+1+1+1+1+1+1+1+1+1+1+1+1+1+1+1+1+1+1+1+1+1+1+1)); let x:=(nAt mxs (k*28+1+1+1+1+1+1+1+1+1+1+1+1+1+1+1+1+1+1+1+1+1+1+1+1+1)); let y:=(nAt mxs (k*28+1+1+1+1+1+1+1+1+1+1+1+1+1+1+1+1+1+1+1+1+1+1+1+1+1+1)); let U:=(k*28+1+1+1+1+1+1+1+1+1+1+1); let z:=(cAt mxs U); let A:=(lAt mxs U); let V:=(k*28+1+1+1+1+1+1+1+1+1+1+1+1+1+1+1); let B:=(cAt mxs V); let C:=(lAt mxs V); let W:=(k*28+1+1+1+1+1+1+1+1+1+1+1+1+1+1+1+1+1+1+1); let D:=(cAt mxs W); let E:=(lAt mxs W); let X:=(k*28+1+1+1+1+1+1+1+1+1+1+1+1+1+1+1+1+1+1+1+1+1+1+1); let F:=(cAt mxs X); let G:=(lAt mxs X); let Y:=(k*28+1+1+1+1+1+1+1+1+1+1+1+1+1+1+1+1+1+1+1+1+1+1+1+1+1+1+1); let H:=(cAt mxs Y); let I:=(lAt mxs Y); (N k)→True∧((T=true→True∧(0≤(k:Int)∧(k:Int) < (mn:Int)∧k*28 < mxs.length)∧((mxs[k*28]?=some (dJ b))∧(mxs[k*28+1]?=some (dJ c))∧(mxs[k*28+1+1]?=some (dQ d))∧(mxs[k*28+1+1+1]?=some (dK e))∧(mxs[k*28+1+1+1+1]?=some (dK f))∧(mxs[k*28+1+1+1+1+1]?=some (dK g))∧(mxs[k*28+1+1+1+1+1+1]?=some (dK h))∧(mxs[k*28+1+1+1+1+1+1+1]?=some (dK i))∧(mxs[k*28+1+1+1+1+1+1+1+1]?=some (dJ j))∧(mxs[k*28+1+1+1+1+1+1+1+1+1]?=some (dJ l))∧(mxs[k*28+1+1+1+1+1+1+1+1+1+1]?=some (dJ m))∧(mxs[k*28+1+1+1+1+1+1+1+1+1+1+1]?=some (dS A z))∧(mxs[k*28+1+1+1+1+1+1+1+1+1+1+1+1]?=some (dJ n))∧(mxs[k*28+1+1+1+1+1+1+1+1+1+1+1+1+1]?=some (dJ o))∧(mxs[k*28+1+1+1+1+1+1+1+1+1+1+1+1+1+1]?=some (dJ p))∧(mxs[k*28+1+1+1+1+1+1+1+1+1+1+1+1+1+1+1]?=some (dS C B))∧(mxs[k*28+1+1+1+1+1+1+1+1+1+1+1+1+1+1+1+1]?=some (dJ q))∧(mxs[k*28+1+1+1+1+1+1+1+1+1+1+1+1+1+1+1+1+1]?=some (dJ r))∧(mxs[k*28+1+1+1+1+1+1+1+1+1+1+1+1+1+1+1+1+1+1]?=some (dJ s))∧(mxs[k*28+1+1+1+1+1+1+1+1+1+1+1+1+1+1+1+1+1+1+1]?=some (dS E D))∧(mxs[k*28+1+1+1+1+1+1+1+1+1+1+1+1+1+1+1+1+1+1+1+1]?=some (dJ t))∧(mxs[k*28+1+1+1+1+1+1+1+1+1+1+1+1+1+1+1+1+1+1+1+1+1]?=some (dJ u))∧(mxs[k*28+1+1+1+1+1+1+1+1+1+1+1+1+1+1+1+1+1+1+1+1+1+1]?=some (dJ v))∧(mxs[k*28+1+1+1+1+1+1+1+1+1+1+1+1+1+1+1+1+1+1+1+1+1+1+1]?=some (dS G F))∧(mxs[k*28+1+1+1+1+1+1+1+1+1+1+1+1+1+1+1+1+1+1+1+1+1+1+1+1]?=some (dJ w))∧(mxs[k*28+1+1+1+1+1+1+1+1+1+1+1+1+1+1+1+1+1+1+1+1+1+1+1+1+1]?=some (dJ x))∧(mxs[k*28+1+1+1+1+1+1+1+1+1+1+1+1+1+1+1+1+1+1+1+1+1+1+1+1+1+1]?=some (dJ y))∧(mxs[k*28+1+1+1+1+1+1+1+1+1+1+1+1+1+1+1+1+1+1+1+1+1+1+1+1+1+1+1]?=some (dS I H))∧True)∧tU5 ((Ans prog 76 [rA [dJ b,dJ c,dQ d,dK e,dK f,dK g,dK h,dK i,dJ j,dJ l,dJ m,dS A z,dJ n,dJ o,dJ p,dS C B,dJ q,dJ r,dJ s,dS E D,dJ t,dJ u,dJ v,dS G F,dJ w,dJ x,dJ y,dS I H],rD (dK a)] (rJ (Im.valid ⟨b,c,d,⟨e,f,g,h,i⟩,⟨j,l,m,A,z⟩,⟨n,o,p,C,B⟩,⟨q,r,s,E,D⟩,⟨t,u,v,G,F⟩,⟨w,x,y,I,H⟩⟩ a)))∧tU3 ((((Im.valid ⟨b,c,d,⟨e,f,g,h,i⟩,⟨j,l,m,A,z⟩,⟨n,o,p,C,B⟩,⟨q,r,s,E,D⟩,⟨t,u,v,G,F⟩,⟨w,x,y,I,H⟩⟩ a) != 0)=true→tU4 (rT [rJ (Im.valid ⟨b,c,d,⟨e,f,g,h,i⟩,⟨j,l,m,A,z⟩,⟨n,o,p,C,B⟩,⟨q,r,s,E,D⟩,⟨t,u,v,G,F⟩,⟨w,x,y,I,H⟩⟩ a),rJ (k:Int)]=rT K))∧(((Im.valid ⟨b,c,d,⟨e,f,g,h,i⟩,⟨j,l,m,A,z⟩,⟨n,o,p,C,B⟩,⟨q,r,s,E,D⟩,⟨t,u,v,G,F⟩,⟨w,x,y,I,H⟩⟩ a) != 0)=false→tU2 (∃ k':Nat,(k'≤mn∧imsE a ((zQc mxs).drop k') (k':Int)=imsE a (zQc mxs) 0)∧(mn - k' < mn - k)∧(((0=0)∧O∧P∧Q∧(dJ (wK ((k:Int)+1))=dJ (k':Int))∧True)∧R))))))∧(T=false→True∧(Ans prog 46 L (rT S))∧tU4 (rT S=rT K)))))))))) ?_
  delta dJ dK dQ wK dS rJ
  simp only [sS,zZ2,zKf]
  obtain ⟨ml,hMu,rfl,rfl⟩:=hM.of
  have hfr:=zJf bits cx0 cy0 cx1 cy1 tw th on oxs ml.length (ims ml) pn pxs hO
  have hop:=zKh bits cx0 cy0 cx1 cy1 tw th on oxs ml.length (ims ml) pn pxs hP hO
  obtain ⟨hP,rfl⟩:=hP
  simp only [zZd]
  generalize zQb pxs=ps at *
  subst hP
  simp only [RV.wfs,RV.wf,DV.wf,DV.wfs,maxLen] at hwf
  have hml:ml.length≤9223372036854775807:=by omega
  have hC:zYE ⟨bits,⟨cx0,cy0,cx1,cy1⟩,tw,th,ints oxs,ml,ps⟩=if zXl bits ⟨cx0,cy0,cx1,cy1⟩ tw th (ints oxs) ml.length ps.length=0 then (if (imsE (zQP bits) ml 0).1=0 then opsE bits ⟨cx0,cy0,cx1,cy1⟩ tw th (ints oxs) ml.length ps else imsE (zQP bits) ml 0) else (zXl bits ⟨cx0,cy0,cx1,cy1⟩ tw th (ints oxs) ml.length ps.length,0):=rfl
  rw [hC]
  clear hC hwf
  generalize zXl bits ⟨cx0,cy0,cx1,cy1⟩ tw th (ints oxs) ml.length ps.length=FE at *
  generalize opsE bits ⟨cx0,cy0,cx1,cy1⟩ tw th (ints oxs) ml.length ps=OE at *
  generalize zQP bits=most at *
  refine ⟨hfr,fun hne=>?_,fun he=>⟨⟨0,⟨Nat.zero_le _,by simp⟩,rfl⟩,fun k hk=>⟨fun hlt=>?_,fun hge=>?_⟩⟩⟩
  ·have:FE≠0:=by simpa using hne
   simp [this]
  ·obtain ⟨k1,k2⟩:=hk
   have hk:k < ml.length:=by omega
   have q1:=jJr hk
   have q2:=jJs hk
   have hd:ml.drop k=ml[k]::ml.drop (k+1):=List.drop_eq_getElem_cons hk
   have hF:FE=0:=by simpa using he
   have vI:=zHy ml[k] most (hMu _ (List.getElem_mem hk))
   rw [hd] at k2
   simp only [imsE] at k2
   have w1:wrap .i64 ((k:Int)+1)=((k+1:Nat):Int):=by rw [IntKind.wrap_i64]; omega
   simp only [q2,hF,if_true]
   refine ⟨⟨by omega,by omega,by rw [zJP]; omega⟩,q1,vI,fun hne=>?_,fun h0=>?_⟩
   ·have h0:ml[k].valid most≠0:=by simpa using hne
    rw [if_neg h0] at k2
    rw [← k2,if_neg h0]
    exact ⟨rfl,rfl⟩
   ·have h0:ml[k].valid most=0:=by simpa using h0
    rw [if_pos h0] at k2
    exact ⟨k+1,⟨by omega,by rw [← k2]; rfl⟩,by omega,w1⟩
  ·obtain ⟨k1,k2⟩:=hk
   have hk:k=ml.length:=by omega
   subst hk
   rw [List.drop_length] at k2
   simp only [imsE] at k2
   have hF:FE=0:=by simpa using he
   simp only [hF,if_true,← k2]
   exact ⟨hop,trivial,trivial⟩
def scrR (s:Scr):RV:=RV.agg [DV.int .i64 s.bits,DV.int .i64 s.c.a,DV.int .i64 s.c.b,DV.int .i64 s.c.c,DV.int .i64 s.c.d,DV.int .i64 s.tw,DV.int .i64 s.th,DV.sl s.ord.length (is s.ord),DV.sl s.ims.length (ims s.ims),DV.sl s.ops.length (ops s.ops)]
def eR (p:Int × Int):RV:=RV.tup [RV.d (DV.int .i64 p.1),RV.d (DV.int .i64 p.2)]
theorem zJs (s:Scr):(⟨s.bits,⟨s.c.a,s.c.b,s.c.c,s.c.d⟩,s.tw,s.th,ints (is s.ord),zQc (ims s.ims),zQb (ops s.ops)⟩:Scr)=s:=by
 rw [zZD,zZd,zQG]
theorem jUl {n:Nat} {l:List Int} (h:n=l.length):is l=is (ints (is l))∧n=(is l).length:=⟨by rw [zZD],by rw [zQH]; exact h⟩
theorem jWa (s:Scr):opsE s.bits ⟨s.c.a,s.c.b,s.c.c,s.c.d⟩ s.tw s.th (ints (is s.ord)) s.ims.length (zQb (ops s.ops))=s.run:=by
 rw [zZD,zQG]; rfl
theorem zJg (s:Scr) (h:∀ m∈s.ims,m.isU):Ans prog 34 [scrR s] (eR (zYE s)):=by
 have:=zVV s.bits s.c.a s.c.b s.c.c s.c.d s.tw s.th s.ord.length (is s.ord) s.ims.length (ims s.ims) s.ops.length (ops s.ops) (jXe rfl) (jUl rfl) (jVn rfl h)
 rw [zJs] at this
 exact this
theorem zUz (s:Scr):Ans prog 46 [scrR s] (eR s.run):=by
 have:=zKh s.bits s.c.a s.c.b s.c.c s.c.d s.tw s.th s.ord.length (is s.ord) s.ims.length (ims s.ims) s.ops.length (ops s.ops) (jXe rfl) (jUl rfl)
 rw [jWa] at this
 exact this
end
theorem jVB {bits:Int} {c:Rc} {tw th:Int} {l:List Int} {mn pn:Nat} (hb:zYL bits=true) (he:c.empty=false) (ha:c.area≤16777216) (h1:zXd c.a=true) (h2:zXd c.b=true)
  (h3:(cntS c tw th).2.2=true) (h4:zZC l (wrap .i64 ((cntS c tw th).1*(cntS c tw th).2.1))=true) (h5:mn≤64) (h6:pn≤4096):zXl bits c tw th l mn pn=0:=by
 unfold zXl
 rw [if_neg (by rw [hb]; simp),if_neg (by rw [he,h1,h2]; simp; omega),if_neg (by rw [h3]; simp),if_neg (by rw [h4]; simp),if_neg (by omega)]
theorem zGF (v:Int):zXd v=true ↔ -1048576≤v∧v≤1048576:=by simp [zXd]
theorem Im.list_so {m:Im} (hs:m.so=true) (n:Nat):m.list n=List.replicate n m.c:=by
 unfold Im.list
 refine List.ext_getElem (by simp) fun i h1 h2=>?_
 simp [Im.nth,Im.px,hs]
theorem Im.count_pos {m:Im} (hf:m.formed=true):0 < m.w.toNat*m.h.toNat:=by
 obtain ⟨f1,f2,f3,f4,f5⟩:=zXE (Im.formed_of hf).1
 exact Nat.mul_pos (by omega) (by omega)
theorem Im.pixels_so {m:Im} (hf:m.formed=true) (hs:m.so=true):m.pixels=List.replicate (m.w.toNat*m.h.toNat) m.c:=by
 rw [Im.pixels_of hf,Im.list_so hs]
theorem Im.valid_iff {m:Im} (hf:m.formed=true) (most:Int):m.valid most=0↔∀ p∈m.pixels,p.ok most=true:=by
 obtain ⟨h1,h2⟩:=Im.formed_of hf
 unfold Im.valid
 rw [if_neg (by simp [h1]),if_neg (by simp [h2])]
 cases hs:m.so with
 | true=>
  rw [if_pos rfl,Im.pixels_so hf hs]
  have:=Im.count_pos hf
  constructor
  ·intro h p hp
   obtain ⟨_,rfl⟩:=List.mem_replicate.1 hp
   split at h
   ·assumption
   ·cases h
  ·intro h
   rw [if_pos (h m.c (List.mem_replicate.2 ⟨by omega,rfl⟩))]
 | false=>
  rw [if_neg (by simp),Im.pixels_of hf]
  unfold Im.okTo Im.count Im.list
  constructor
  ·intro h p hp
   split at h
   ·rename_i ha
    obtain ⟨k,hk,rfl⟩:=List.mem_map.1 hp
    exact List.all_eq_true.1 ha k hk
   ·cases h
  ·intro h
   rw [if_pos (List.all_eq_true.2 fun k hk=>h _ (List.mem_map.2 ⟨k,hk,rfl⟩))]
theorem zYh (n:Int) {most:Int} (h0:0≤most) (h1:most≤65535):0≤zQN n most∧zQN n most≤most:=by
 unfold zQN
 rw [IntWalk.i64_in most ⟨by omega,by omega⟩]
 have a2:=@zZK (wrap .i64 (Int.tdiv n 8)) 2 (by omega) (by omega)
 have a4:=@zZK (wrap .i64 (Int.tdiv n 8)) 4 (by omega) (by omega)
 split
 ·omega
 ·split
  ·omega
  ·split
   ·rw [IntWalk.i64_in (most+_) ⟨by omega,by omega⟩]
    have e:Int.tdiv (most+modS (wrap .i64 (Int.tdiv n 8)) 2) 2=(most+modS (wrap .i64 (Int.tdiv n 8)) 2) / 2:=Int.tdiv_eq_ediv_of_nonneg (by omega)
    rw [e,IntWalk.i64_in _ ⟨by omega,by omega⟩,IntWalk.u16_in _ ⟨by omega,by omega⟩]
    omega
   ·split
    ·rw [IntWalk.u16_in _ ⟨by omega,by omega⟩]
     omega
    ·rw [IntWalk.i64_in (most+1) ⟨by omega,by omega⟩]
     have a:=@zZK (wrap .i64 (Int.tdiv n 8)) (most+1) (by omega) (by omega)
     rw [IntWalk.u16_in _ ⟨by omega,by omega⟩]
     omega
theorem jVA (n0 n1 n2 n3 n4:Int) {most:Int} (h0:0≤most) (h1:most≤65535):(zZI n0 n1 n2 n3 n4 most).ok most=true∧0≤(zZI n0 n1 n2 n3 n4 most).a∧0≤(zZI n0 n1 n2 n3 n4 most).b∧0≤(zZI n0 n1 n2 n3 n4 most).c∧0≤(zZI n0 n1 n2 n3 n4 most).al:=by
 have hf:=zYh n4 h0 h1
 have key:∀ a f:Int,0≤a→a≤f→f≤most→Px.ok ⟨zQN n0 a,zQN n1 a,zQN n2 a,a,f⟩ most=true∧0≤zQN n0 a∧0≤zQN n1 a∧0≤zQN n2 a∧0≤a:=fun a f k0 k1 k2=>by
  have q0:=zYh n0 k0 (by omega)
  have q1:=zYh n1 k0 (by omega)
  have q2:=zYh n2 k0 (by omega)
  simp [Px.ok]
  omega
 unfold zZI
 simp only
 split
 ·have ha:=zYh (wrap .i64 (Int.tdiv n3 3)) hf.1 (by omega)
  exact key _ _ ha.1 ha.2 hf.2
 ·exact key _ _ hf.1 (Int.le_refl _) hf.2
def Px.fine (p:Px) (most:Int):Prop:=p.ok most=true∧0≤p.a∧0≤p.b∧0≤p.c∧0≤p.al
theorem jJv (mood:Int) (L:Nat) (xs:List DV) {most:Int} (h0:0≤most) (h1:most≤65535) (k:Nat):(gPx mood L xs most k).fine most:=by
 have hz:Px.zero.fine most:=⟨by simp [Px.ok,Px.zero,h0],by decide,by decide,by decide,by decide⟩
 have hp:∀ k,(gPx1 L xs most k).fine most:=fun k=>jVA _ _ _ _ _ h0 h1
 unfold gPx
 split
 ·exact hz
 ·split
  ·obtain ⟨a,b⟩:=hp k
   refine ⟨?_,b.1,b.2.1,b.2.2.1,h0⟩
   simp [Px.ok] at a ⊢
   omega
  ·split
   ·exact hp 0
   ·exact hp k
theorem zGY (pw ph so mood:Int) (L:Nat) (xs:List DV) (x0 y0 x1 y1:Int) {most:Int} (h0:0≤most) (h1:most≤65535) (hc:1≤x1 - x0∧x1 - x0≤100∧1≤y1 - y0∧y1 - y0≤100):∀ p∈(zQO pw ph so mood L xs x0 y0 x1 y1 most).pixels,p.fine most:=by
 have hf:=(zUr pw ph so mood L xs x0 y0 x1 y1 most hc).1
 intro p hp
 rw [zWr pw ph so mood L xs x0 y0 x1 y1 most _ _ rfl rfl] at hf hp
 split at hf
 ·rename_i hs
  rw [if_pos hs,Im.pixels_so hf rfl] at hp
  obtain ⟨_,rfl⟩:=List.mem_replicate.1 hp
  exact jJv _ _ _ h0 h1 _
 ·rename_i hs
  rw [if_neg hs] at hp
  cases hk:ofOk (zYS pw 5 x0 x1 pw) (zYS ph 4 y0 y1 pw) (zQq mood L xs most (wrap .i64 (zYS pw 5 x0 x1 pw*zYS ph 4 y0 y1 pw)).toNat).length with
  | true=>
   rw [(jYA hk).2] at hp
   unfold zQq at hp
   obtain ⟨k,_,rfl⟩:=List.mem_map.1 hp
   exact jJv _ _ _ h0 h1 _
  | false=>
   rw [zGQ hk] at hf
   exact absurd hf (by decide)
def okO (bits:Int) (mn:Nat):List Oq→List Oq→Option (List Oq)
 | [],st=>some st
 | o::r,st=>if errO bits mn o st=0 then okO bits mn r (zXr o st) else none
theorem zJv {bits:Int} {mn:Nat}:∀ (l m:List Oq) (st:List Oq),okO bits mn (l++m) st=(okO bits mn l st).bind (okO bits mn m)
 | [],m,st=>rfl
 | o::l,m,st=>by
  simp only [List.cons_append,okO]
  split
  ·exact zJv l m _
  ·rfl
theorem jX2 {bits:Int} {mn:Nat}:∀ (l m:List Oq) (i:Int) (st st':List Oq),okO bits mn l st=some st'→runO bits mn (l++m) i st=runO bits mn m (i+l.length) st'
 | [],m,i,st,st',h=>by
  simp only [okO,Option.some.injEq] at h
  subst h
  simp
 | o::l,m,i,st,st',h=>by
  simp only [okO] at h
  split at h
  ·rename_i he
   simp only [List.cons_append,runO]
   rw [if_pos he,jX2 l m _ _ _ h]
   congr 1
   simp only [List.length_cons,Int.natCast_add,Int.natCast_one]
   omega
  ·cases h
theorem jZh {bits:Int} {mn:Nat} {st:List Oq} (h:st≠[]):errO bits mn popO st=0:=by
 have h1:popO.kind=3:=rfl
 have h2:popO.fields=true:=by decide
 unfold errO
 rw [if_neg (by rw [h1]; simp),if_neg (by rw [h2]; simp),if_pos h1,if_neg h]
theorem jJg {bits:Int} {mn:Nat}:∀ (n:Nat) (st:List Oq),n≤st.length→okO bits mn (List.replicate n popO) st=some (st.take (st.length - n))
 | 0,st,_=>by simp [okO]
 | n+1,st,h=>by
  have hne:st≠[]:=by intro e; subst e; simp at h
  have h1:popO.kind=3:=rfl
  rw [List.replicate_succ,okO,if_pos (jZh hne)]
  have e:zXr popO st=st.dropLast:=by unfold zXr; rw [if_neg (by rw [h1]; decide),if_pos h1]
  rw [e,jJg n _ (by simp; omega),List.dropLast_eq_take,List.take_take]
  congr 2
  simp; omega
theorem jQ1 {bits:Int} {mn:Nat} {o:Oq} {st:List Oq} (h:errO bits mn o st=0):okO bits mn [o] st=some (zXr o st):=by
 simp only [okO]; rw [if_pos h]
theorem zWq {n c:Int} (h : -100≤c∧c≤100) : -200≤gOff n c∧gOff n c≤200:=by
 have b:=@zZK (wrap .i64 (Int.tdiv n 3)) 9 (by omega) (by omega)
 unfold gOff
 split <;> omega
theorem jGE {bits:Int} {mn:Nat} {r:Rw} {push:Bool} {c:Rc} {most:Int} {st:List Oq} (hm:1≤mn∧mn≤64) (hc:(-100≤c.a∧c.a≤100) ∧ -100≤c.b∧c.b≤100) (hb:zQP bits=most) (h0:0≤most∧most≤65535) (hl:st.length < 64) :
  errO bits mn (gOp r push mn c (ctxB st) most) st=0:=by
 have b1:=@zZK r.im mn (by omega) (by omega)
 have b2:=@zZK (wrap .i64 (Int.tdiv r.ma 4)) mn (by omega) (by omega)
 have b3:=@zZK (wrap .i64 (Int.tdiv r.ope 2)) 12 (by omega) (by omega)
 have b4:=@zZK (wrap .i64 (Int.tdiv r.mo 2)) 12 (by omega) (by omega)
 have o1:=@zWq r.x c.a hc.1
 have o2:=@zWq r.y c.b hc.2
 have o3:=@zWq r.mx c.a hc.1
 have o4:=@zWq r.my c.b hc.2
 have s1:=zYh (wrap .i64 (Int.tdiv r.op 2)) h0.1 h0.2
 unfold errO
 rw [hb]
 rw [if_neg (by simp [gOp]; cases push <;> simp)]
 rw [if_neg (by
  cases push <;> simp only [gOp,Oq.fields] <;> by_cases q:modS r.ma 4=0 <;> simp [q] <;> omega)]
 rw [if_neg (by cases push <;> simp [gOp])]
 rw [if_neg (by
  cases push <;> simp only [gOp] <;> by_cases q:modS r.ma 4=0 <;> simp [q] <;> omega)]
 rw [if_neg (by
  simp only [Decidable.not_not,zGF,gOp]
  refine ⟨?_,?_,?_,?_⟩ <;> split <;> omega)]
 rw [if_neg (by simp only [gOp]; split <;> omega)]
 rw [if_neg (by simp only [gOp]; split <;> omega)]
 rw [if_neg (by simp only [gOp]; split <;> omega)]
 rw [if_neg (by
  simp only [gOp]
  intro ⟨h1,h2⟩
  rw [h2] at h1
  simp at h1)]
 rw [if_neg (by omega)]
theorem Scn.bits_max (s:Scn):zQP s.bits=s.most∧zYL s.bits=true:=by
 have:=s.most_in
 unfold Scn.bits
 rcases this with h | h <;> rw [h] <;> decide
theorem Scn.run_okO (s:Scn) (k:Nat) (hk:k≤9):okO s.bits s.ims.length (s.run k).1 []=some (s.run k).2:=by
 induction k with
 | zero=>rfl
 | succ k ih=>
  have ih:=ih (by omega)
  have hl:=s.run_len k
  have F:=s.c_facts
  have li:=s.ims_len
  have hm:0≤s.most∧s.most≤65535:=by rcases s.most_in with h | h <;> rw [h] <;> omega
  by_cases h:modS (rwAt s.rxs (k*11)).k 8=0∧0 < (s.run k).2.length
  ·rw [Scn.run_pop h,zJv,ih]
   have hne:(s.run k).2≠[]:=by intro e; rw [e] at h; simp at h
   show okO _ _ [popO] _=_
   rw [jQ1 (jZh hne)]
   rfl
  ·obtain ⟨r1,r2⟩:=Scn.run_op h rfl
   have he:=@jGE s.bits s.ims.length (rwAt s.rxs (k*11)) (decide (modS (rwAt s.rxs (k*11)).k 8 < 3)) s.c s.most (s.run k).2 (by omega) (by omega) s.bits_max.1 hm (by omega)
   have hkd:(gOp (rwAt s.rxs (k*11)) (decide (modS (rwAt s.rxs (k*11)).k 8 < 3)) s.ims.length s.c (ctxB (s.run k).2) s.most).kind=if modS (rwAt s.rxs (k*11)).k 8 < 3 then 2 else 1:=by simp [gOp]
   generalize gOp (rwAt s.rxs (k*11)) (decide (modS (rwAt s.rxs (k*11)).k 8 < 3)) s.ims.length s.c (ctxB (s.run k).2) s.most=o at *
   by_cases h2:o.kind=2
   ·rw [r1 h2,zJv,ih]
    show okO _ _ [o] _=_
    rw [jQ1 he]
    unfold zXr
    rw [if_pos h2]
   ·have h3:o.kind≠3:=by rw [hkd]; split <;> decide
    rw [r2 h2,zJv,ih]
    show okO _ _ [o] _=_
    rw [jQ1 he]
    unfold zXr
    rw [if_neg h2,if_neg h3]
theorem Scn.ops_ok (s:Scn):okO s.bits s.ims.length s.ops []=some []:=by
 unfold Scn.ops
 rw [zJv,s.run_okO _ (by omega)]
 show okO _ _ _ _=_
 rw [jJg _ _ (Nat.le_refl _),Nat.sub_self]
 rfl
theorem Scn.ops_len (s:Scn):s.ops.length≤18:=by
 have:=s.run_len (min s.rn 9)
 unfold Scn.ops
 simp; omega
theorem Scn.ops_run (s:Scn):runO s.bits s.ims.length s.ops 0 []=(0,0):=by
 have:=jX2 s.ops [] 0 [] [] s.ops_ok
 rw [List.append_nil] at this
 rw [this]
 simp [runO]
theorem Scn.frame_ok (s:Scn) {mn pn:Nat} (h1:mn≤64) (h2:pn≤4096):zXl s.bits s.c s.gtw s.gth s.ord mn pn=0:=by
 obtain ⟨c1,c2,c3⟩:=s.cnt
 obtain ⟨f1,f2,f3,f4,f5,f6⟩:=s.facts
 have CF:=s.c_facts
 have he:Rc.empty s.c=false:=by rw [Rc.empty_iff]; omega
 refine jVB s.bits_max.2 he ?_ ((zGF _).2 (by omega)) ((zGF _).2 (by omega)) c1 ?_ h1 h2
 ·unfold Rc.area
  rw [he,CF.1,CF.2.1]
  have:=Int.mul_le_mul f3.2 f4.2 (by omega) (by omega)
  simp; omega
 ·have ht:=s.tiles_in
  exact (jUH (l:=ints s.oxs) ht.1 (by omega)).1
theorem Scn.fine (s:Scn):∀ m∈s.ims,m.formed=true∧(m.w≤100∧m.h≤100)∧m.valid s.most=0∧∀ more,(zXO m more).valid s.most=0:=by
 have CF:=s.c_facts
 have hq:1≤s.c.c - s.c.a∧s.c.c - s.c.a≤100∧1≤s.c.d - s.c.b∧s.c.d - s.c.b≤100:=by have:=s.facts; omega
 have hm:0≤s.most∧s.most≤65535:=by rcases s.most_in with h | h <;> rw [h] <;> omega
 have key:∀ m:Im,m.formed=true→m.w≤100∧m.h≤100→(∀ p∈m.pixels,p.fine s.most)→m.formed=true∧(m.w≤100∧m.h≤100)∧m.valid s.most=0∧∀ more,(zXO m more).valid s.most=0:=fun m h1 h2 h3=>by
  refine ⟨h1,h2,(Im.valid_iff h1 _).2 fun p hp=>(h3 p hp).1,fun more=>(Im.valid_iff (zKR h1 h2 more) _).2 fun p hp=>?_⟩
  rw [zGX h1 h2 more] at hp
  exact (h3 p hp).1
 intro m hmem
 unfold Scn.ims at hmem
 split at hmem
 ·rw [List.mem_singleton] at hmem
  subst hmem
  have F:=s.facts
  have hf:zQ4 s.gw s.gh=true:=by
   have:=Int.mul_le_mul F.2.2.1.2 F.2.2.2.1.2 (by omega) (by omega)
   simp [zQ4]; omega
  refine key _ (zYj _ hf) ⟨by show s.gw≤100; omega,by show s.gh≤100; omega⟩ fun p hp=>?_
  change p∈(zQd s.gw s.gh ⟨s.most,0,0,s.most,s.most⟩).pixels at hp
  rw [Im.pixels_of (zYj _ hf),Im.list,List.mem_map] at hp
  obtain ⟨k,_,rfl⟩:=hp
  have e:(zQd s.gw s.gh ⟨s.most,0,0,s.most,s.most⟩).nth k=⟨s.most,0,0,s.most,s.most⟩:=by simp [Im.nth,Im.px,zQd]
  change ((zQd s.gw s.gh ⟨s.most,0,0,s.most,s.most⟩).nth k).fine s.most
  rw [e]
  exact ⟨by simp [Px.ok]; omega,by simp only; omega,by simp only; omega,by simp only; omega,by simp only; omega⟩
 ·simp only [Scn.pics,List.mem_map] at hmem
  obtain ⟨k,_,rfl⟩:=hmem
  obtain ⟨gf,g1,g2,g3,g4⟩:=zUr (nAt s.pxs (k*5)) (nAt s.pxs (k*5+1)) (nAt s.pxs (k*5+2)) (nAt s.pxs (k*5+3)) (lAt s.pxs (k*5+4)) (cAt s.pxs (k*5+4)) s.c.a s.c.b s.c.c s.c.d s.most hq
  exact key _ gf ⟨g2,g4⟩ fun p hp=>zGY _ _ _ _ _ _ _ _ _ _ hm.1 hm.2 hq p hp
inductive Fo where
  | nil
  | draw (o:Oq) (r:Fo)
  | grp (o:Oq) (k r:Fo)
def Fo.flat:Fo→List Oq
 | .nil=>[]
 | .draw o r=>o::r.flat
 | .grp o k r=>o::(k.flat++popO::r.flat)
def Fo.ok:Fo→Prop
 | .nil=>True
 | .draw o r=>o.kind=1∧r.ok
 | .grp o k r=>o.kind=2∧k.ok∧r.ok
def Fo.size:Fo→Nat
 | .nil=>0
 | .draw _ r=>r.size+1
 | .grp _ k r=>k.size+r.size+2
theorem Fo.flat_len:∀ f:Fo,f.flat.length=f.size
 | .nil=>rfl
 | .draw o r=>by simp [Fo.flat,Fo.size,r.flat_len]
 | .grp o k r=>by simp [Fo.flat,Fo.size,k.flat_len,r.flat_len]; omega
def unfl:Fo→List Fo→List Oq
 | f,[]=>f.flat
 | f,g::fs=>f.flat++popO::unfl g fs
theorem jKw (o:Oq) (f:Fo) (fs:List Fo):unfl (.draw o f) fs=o::unfl f fs:=by
 cases fs <;> simp [unfl,Fo.flat]
theorem jV7 (o:Oq) (f g:Fo) (fs:List Fo):unfl (.grp o f g) fs=o::(f.flat++popO::unfl g fs):=by
 cases fs <;> simp [unfl,Fo.flat]
theorem zJa {bits:Int} {mn:Nat} {o:Oq} {st:List Oq} (h:errO bits mn o st=0):o.kind=1∨o.kind=2∨(o=popO∧st≠[]):=by
 unfold errO at h
 split at h
 ·cases h
 ·rename_i h1
  have h1:=Decidable.not_not.1 h1
  split at h
  ·cases h
  ·rename_i h2
   split at h
   ·rename_i h3
    split at h
    ·cases h
    ·rename_i h4
     refine .inr (.inr ⟨?_,h4⟩)
     have h2:o.fields=true:=by simpa using h2
     unfold Oq.fields at h2
     rw [if_pos h3] at h2
     simpa using h2
   ·rcases h1 with h1 | h1 | h1
    ·exact .inl h1
    ·exact .inr (.inl h1)
    ·exact absurd h1 (by assumption)
theorem jGG {bits:Int} {mn:Nat}:∀ (l st:List Oq),okO bits mn l st=some []→∃ f fs,fs.length=st.length∧l=unfl f fs∧f.ok∧∀ g∈fs,g.ok
 | [],st,h=>by
  simp only [okO,Option.some.injEq] at h
  subst h
  exact ⟨.nil,[],rfl,rfl,trivial,by simp⟩
 | o::l,st,h=>by
  simp only [okO] at h
  split at h
  ·rename_i he
   obtain ⟨f,fs,h1,h2,h3,h4⟩:=jGG l _ h
   rcases zJa he with hk | hk | ⟨rfl,hne⟩
   ·have e:zXr o st=st:=by unfold zXr; rw [if_neg (by omega),if_neg (by omega)]
    rw [e] at h1
    exact ⟨.draw o f,fs,h1,by rw [h2,jKw],⟨hk,h3⟩,h4⟩
   ·have e:zXr o st=st++[o]:=by unfold zXr; rw [if_pos hk]
    rw [e] at h1
    cases fs with
    | nil=>simp at h1
    | cons g fs=>
     refine ⟨.grp o f g,fs,by simpa using h1,by rw [h2,jV7]; rfl,⟨hk,h3,h4 g List.mem_cons_self⟩,fun q hq=>h4 q (List.mem_cons_of_mem _ hq)⟩
   ·have e:zXr popO st=st.dropLast:=by unfold zXr; rw [if_neg (by decide),if_pos (by decide)]
    rw [e,List.length_dropLast] at h1
    have:=List.length_pos_iff.2 hne
    refine ⟨.nil,f::fs,by simp; omega,by rw [h2]; rfl,trivial,fun q hq=>?_⟩
    rcases List.mem_cons.1 hq with rfl | hq
    ·exact h3
    ·exact h4 q hq
  ·cases h
theorem jJw {bits:Int} {mn:Nat} {l:List Oq} (h:okO bits mn l []=some []):∃ f:Fo,f.ok∧l=f.flat:=by
 obtain ⟨f,fs,h1,h2,h3,h4⟩:=jGG l [] h
 cases fs with
 | nil=>exact ⟨f,h3,h2⟩
 | cons g fs=>simp at h1
theorem zH7 {bits:Int} {mn:Nat}:∀ (l:List Oq) (i:Int) (st:List Oq),(runO bits mn l i st).1=0→okO bits mn l st=some []
 | [],i,st,h=>by
  simp only [runO] at h
  split at h
  ·rename_i e; subst e; rfl
  ·cases h
 | o::l,i,st,h=>by
  simp only [runO] at h
  simp only [okO]
  split at h
  ·rename_i he
   rw [if_pos he]
   exact zH7 l _ _ h
  ·rename_i he; exact absurd h he
theorem zYl (s:Scr):(⟨s.bits,s.c,s.tw,s.th,ints (is s.ord),zQc (ims s.ims),zQb (ops s.ops)⟩:Scr)=s:=zJs s
def zZw (op:Int):Bool:=decide (op=3∨op=4∨op=5∨op=9∨op=10∨op=12)
def farB (v:Int):Bool:=decide (v < -1099511627776∨v > 1099511627776)
def zZv (s:Scr) (i x y:Int):Rc:=
 if 0≤i then match s.ims[i.toNat]? with
  | some m=>if farB x || farB y || farB m.w || farB m.h then Rc.zero else Rc.inter ⟨x,y,x+m.w,y+m.h⟩ s.c
  | none=>Rc.zero
 else Rc.zero
def imgR (s:Scr) (o:Oq):Rc:=if o.kind=1 then zZv s o.image o.x o.y else Rc.zero
def zJ6 (s:Scr) (o:Oq):Rc:=if o.mask=0 then s.c.inter s.c else if o.mask < 0 then Rc.zero else zZv s (o.mask - 1) o.mx o.my
def boxF (s:Scr) (o:Oq) (src:Rc):Rc:=if zZw o.oper=false then s.c else if o.opac=0 then Rc.zero else src.inter (zJ6 s o)
theorem zGy {s:Scr} {i:Int} (x y:Int) (h:i < 0∨(s.ims.length:Int)≤i):zZv s i x y=Rc.zero:=by
 unfold zZv
 split
 ·rw [List.getElem?_eq_none (by omega)]
 ·rfl
theorem zH3 {s:Scr} {i:Int} (x y:Int) (h:0≤i) (h2:i.toNat < s.ims.length):zZv s i x y=if farB x || farB y || farB s.ims[i.toNat].w || farB s.ims[i.toNat].h then Rc.zero else Rc.inter ⟨x,y,x+s.ims[i.toNat].w,y+s.ims[i.toNat].h⟩ s.c:=by
 unfold zZv
 rw [if_pos h,List.getElem?_eq_getElem h2]
abbrev Bst:=List Rc × List Int × List Rc
def topB (hs:List Rc) (b:Rc):List Rc:=hs.set (hs.length - 1) (zQX [(hs[hs.length - 1]?).getD Rc.zero,b])
def zUB (s:Scr) (i:Nat) (o:Oq) (z:Bst):Bst:=
 if o.kind=1 then (z.1.set i (boxF s o (imgR s o)),z.2.1,z.2.2)
 else
  let p:=(z.2.1[z.2.1.length - 1]?).getD 0
  let b:=boxF s ((s.ops[p.toNat]?).getD popO) ((z.2.2[z.2.2.length - 1]?).getD Rc.zero)
  ((z.1.set i b).set p.toNat b,z.2.1.dropLast,z.2.2.dropLast)
def zUA (s:Scr) (i:Nat) (o:Oq) (z:Bst):Bst:=
 if o.kind=2 then (z.1,z.2.1++[(i:Int)],z.2.2++[Rc.zero])
 else
  let y:=zUB s i o z
  (y.1,y.2.1,topB y.2.2 ((y.1[i]?).getD Rc.zero))
def runB (s:Scr):Nat→Bst
 | 0=>(List.replicate s.ops.length Rc.zero,[],[Rc.zero])
 | k+1=>zUA s k ((s.ops[k]?).getD popO) (runB s k)
def zZ1 (s:Scr):List Rc × Int:=if s.run.1=0 then ((runB s s.ops.length).1,0) else ([],s.run.1)
theorem zY5 {s:Scr} (h:s.run.1=0):s.frame=0∧okO s.bits s.ims.length s.ops []=some []:=by
 unfold Scr.run opsE at h
 split at h
 ·rename_i h1; exact ⟨h1,zH7 _ _ _ h⟩
 ·rename_i h1; exact absurd h h1
theorem jXw {s:Scr} (h:s.frame=0):s.ims.length≤64∧s.ops.length≤4096:=by
 unfold Scr.frame zXl at h
 split at h
 ·cases h
 ·split at h
  ·cases h
  ·split at h
   ·cases h
   ·split at h
    ·cases h
    ·split at h
     ·cases h
     ·omega
theorem jWv {bits:Int} {mn:Nat} {l:List Oq} (h:okO bits mn l []=some []) (k:Nat):∃ st,okO bits mn (l.take k) []=some st∧okO bits mn (l.drop k) st=some []:=by
 have e:=List.take_append_drop k l
 rw [← e,zJv] at h
 cases hk:okO bits mn (l.take k) [] with
 | none=>rw [hk] at h; cases h
 | some st=>rw [hk] at h; exact ⟨st,rfl,h⟩
theorem jJh {bits:Int} {mn:Nat} {l st:List Oq} {k:Nat} (h1:okO bits mn (l.take k) []=some st) (h2:okO bits mn (l.drop k) st=some []) (hk:k < l.length):errO bits mn l[k] st=0∧okO bits mn (l.take (k+1)) []=some (zXr l[k] st):=by
 rw [List.drop_eq_getElem_cons hk,okO] at h2
 split at h2
 ·rename_i he
  refine ⟨he,?_⟩
  rw [List.take_add_one,List.getElem?_eq_getElem hk,zJv,h1]
  show okO _ _ [l[k]] st=_
  rw [jQ1 he]
 ·cases h2
theorem zHQ {s:Scr} (h:s.run.1=0):∀ k,k≤s.ops.length→∃ st:List Oq,okO s.bits s.ims.length (s.ops.take k) []=some st∧okO s.bits s.ims.length (s.ops.drop k) st=some [] ∧
  (runB s k).1.length=s.ops.length∧(runB s k).2.1.length=st.length∧(runB s k).2.2.length=st.length+1∧st.length≤k∧∀ p∈(runB s k).2.1,0≤p∧p < k
 | 0,_=>⟨[],rfl,by simpa using (zY5 h).2,by simp [runB],rfl,rfl,Nat.le_refl _,by simp [runB]⟩
 | k+1,hk=>by
  obtain ⟨st,h1,h2,h3,h4,h5,h6,h7⟩:=zHQ h k (by omega)
  have hlt:k < s.ops.length:=by omega
  obtain ⟨he,h8⟩:=jJh h1 h2 hlt
  obtain ⟨st',h1',h2'⟩:=jWv (zY5 h).2 (k+1)
  rw [h8] at h1'
  injection h1' with h1'
  subst h1'
  have hr:runB s (k+1)=zUA s k s.ops[k] (runB s k):=by
   rw [runB,List.getElem?_eq_getElem hlt]; rfl
  rw [hr]
  refine ⟨_,h8,h2',?_⟩
  rcases zJa he with hk1 | hk1 | ⟨hk1,hne⟩
  ·have e:zXr s.ops[k] st=st:=by unfold zXr; rw [if_neg (by omega),if_neg (by omega)]
   rw [e]
   unfold zUA zUB
   rw [if_neg (by omega),if_pos hk1]
   refine ⟨by simp [h3],h4,by simp [topB,h5],by omega,fun p hp=>?_⟩
   have:=h7 p hp
   omega
  ·have e:zXr s.ops[k] st=st++[s.ops[k]]:=by unfold zXr; rw [if_pos hk1]
   rw [e]
   unfold zUA
   rw [if_pos hk1]
   refine ⟨h3,by simp [h4],by simp [h5],by simp; omega,fun p hp=>?_⟩
   rcases List.mem_append.1 hp with hp | hp
   ·have:=h7 p hp; omega
   ·rw [List.mem_singleton] at hp; omega
  ·have hk2:s.ops[k].kind=3:=by rw [hk1]; rfl
   have e:zXr s.ops[k] st=st.dropLast:=by unfold zXr; rw [if_neg (by omega),if_pos hk2]
   have:=List.length_pos_iff.2 hne
   rw [e]
   unfold zUA zUB
   rw [if_neg (by omega),if_neg (by omega)]
   refine ⟨by simp [h3],by simp [h4],by simp [topB,h5]; omega,by simp; omega,fun p hp=>?_⟩
   have:=h7 p (List.dropLast_subset _ hp)
   omega
structure Ac where
  a:Int
  b:Int
  c:Int
  al:Int
  own:Int
  f:Int
deriving DecidableEq
def Ac.zero:Ac:=⟨0,0,0,0,0,0⟩
def Px.nn (p:Px):Prop:=0≤p.a∧0≤p.b∧0≤p.c
def Ac.nn (p:Ac):Prop:=0≤p.a∧0≤p.b∧0≤p.c∧0≤p.own
def zZZ (m:Int):Bool:=decide (m=255∨m=65535)
def Ac.ok (x:Ac) (k:Px) (m:Int):Bool:=decide (x.a≤x.al∧x.b≤x.al∧x.c≤x.al) && (zZZ m && (decide (x.own≤x.al∧x.own≤x.f∧x.al≤m∧x.f≤m) && (k.ok m && decide (k.f=k.al))))
def isNm (n:Int):Bool:=decide (1≤n∧n < 13)
def zZN (kno:Bool) (op mode m:Int) (p:Px) (x:Ac) (k:Px):Bool:=isNm op && (isNm mode && (x.ok k m && (p.ok m && !(kno && decide (op≠4)))))
def accS (kno:Bool) (op mode m:Int) (p:Px) (x:Ac) (k:Px):Ac:=
 if kno then ⟨knoC mode m p.a p.al p.f x.a k.a k.al,knoC mode m p.b p.al p.f x.b k.b k.al,knoC mode m p.c p.al p.f x.c k.c k.al,knoA m p.al p.f x.al k.al,knoA m p.al p.f x.own 0,zYu op p.f x.f m⟩
 else ⟨colS op mode m p.a p.al x.a x.al,colS op mode m p.b p.al x.b x.al,colS op mode m p.c p.al x.c x.al,zXA op p.al x.al m,zXA op p.al x.own m,zYu op p.f x.f m⟩
def remS (m c own b:Int):Int:=if m*c > (m - own)*b then min (zQE (m*c - (m - own)*b) m) own else 0
def zZU (x:Ac) (k:Px) (m:Int):Px:=⟨remS m x.a x.own k.a,remS m x.b x.own k.b,remS m x.c x.own k.c,x.own,x.f⟩
def zXz (p:Px) (k m:Int):Px:=⟨zQE (p.a*k) m,zQE (p.b*k) m,zQE (p.c*k) m,zQE (p.al*k) m,zQE (p.f*k) m⟩
def zQB (iso kno:Bool) (x:Ac) (k:Px):Ac × Px:=
 let b:Px:=if iso then .zero else if kno then k else ⟨x.a,x.b,x.c,x.al,x.al⟩
 (⟨b.a,b.b,b.c,b.al,0,0⟩,b)
theorem zZG {m:Int} (h:zZZ m=true):0 < m∧m≤65535:=by
 have:=of_decide_eq_true h
 omega
theorem Px.ok_iff {p:Px} {m:Int}:p.ok m=true↔p.a≤p.al∧p.b≤p.al∧p.c≤p.al∧p.al≤p.f∧p.f≤m:=by
 simp [Px.ok]
theorem Ac.ok_iff {x:Ac} {k:Px} {m:Int}:x.ok k m=true↔(x.a≤x.al∧x.b≤x.al∧x.c≤x.al)∧zZZ m=true∧(x.own≤x.al∧x.own≤x.f∧x.al≤m∧x.f≤m)∧k.ok m=true∧k.f=k.al:=by
 simp [Ac.ok]
theorem jQm {mode d b:Int} (h2:0≤d) (h3:d≤b):(zQr mode 0 0 d b).p=0∧(zQr mode 0 0 d b).q=0:=by
 have hh:zVJ d b 0 0=0:=by unfold zVJ; split <;> simp
 have hh2:zVJ 0 0 d b=0:=by unfold zVJ; simp
 have hs:(zJT 0 0 d b).p=0∧(zJT 0 0 d b).q=0:=by
  unfold zJT
  split
  ·exact ⟨rfl,rfl⟩
  ·simp
 unfold zQr
 rw [hh,hh2]
 by_cases c10:mode=10
 ·subst c10; simpa using hs
 have key:∀ (c:Prop) [Decidable c] (x y:Ex),(x.p=0∧x.q=0)→(¬ c→y.p=0∧y.q=0)→(if c then x else y).p=0∧(if c then x else y).q=0:=fun c _ x y hx hy=>by
  split
  ·exact hx
  ·exact hy (by assumption)
 repeat' (first | (refine key _ _ _ ?_ fun hc=>?_) | (simp [zZl]; done))
theorem zWi {op:Int} (h:zZw op=true):op=3∨op=4∨op=5∨op=9∨op=10∨op=12:=of_decide_eq_true h
theorem zUt {op b m:Int} (h:zZw op=true):facB op 0 b m=m:=by
 rcases zWi h with rfl | rfl | rfl | rfl | rfl | rfl <;> simp [facB]
theorem jZi {op mode m d b:Int} (hm:0 < m) (h:zZw op=true) (h2:0≤d) (h3:d≤b):colS op mode m 0 0 d b=d:=by
 have ⟨e1,e2⟩:=jQm (mode:=mode) h2 h3
 have hd:=(zZx (mode:=mode) (s:=0) (a:=0) (Int.le_refl 0) (Int.le_refl 0) h2 h3).ok.d
 unfold colS
 refine Ex.half_whole ?_ ?_ ?_
 ·exact Int.mul_pos (Int.mul_pos hm hm) hd
 ·simp only [valS,e2,Int.mul_zero]
 ·simp only [valS,e1,zUt h]
  grind
theorem jQo {op b m:Int} (hm:0 < m) (h:zZw op=true):zXA op 0 b m=b:=by
 unfold zXA
 rw [zUt h,Int.mul_zero,Int.zero_add,zKP hm]
theorem shape_zero {op g m:Int} (hm:0 < m) (h:zZw op=true):zYu op 0 g m=g:=by
 have e:m*0+(m - 0)*g=m*g:=by grind
 unfold zYu
 rcases zWi h with rfl | rfl | rfl | rfl | rfl | rfl <;> simp [zKP hm]
theorem zGK {mode m c d b:Int} (hm:0 < m) (h2:0≤d) (h3:d≤b):knoC mode m 0 0 0 c d b=c:=by
 have ⟨e1,e2⟩:=jQm (mode:=mode) h2 h3
 have hd:=(zZx (mode:=mode) (s:=0) (a:=0) (Int.le_refl 0) (Int.le_refl 0) h2 h3).ok.d
 unfold knoC
 refine Ex.half_whole ?_ ?_ ?_
 ·exact Int.mul_pos hm hd
 ·exact e2
 ·simp only [knoX,e1]
  grind
theorem jXc {m acc b:Int} (hm:0 < m):knoA m 0 0 acc b=acc:=by
 unfold knoA
 have e:(m - 0)*acc+(0 - 0)*b+m*0=m*acc:=by grind
 rw [e,zKP hm]
theorem jV3 {kno:Bool} {op mode m:Int} {x:Ac} {k:Px} (h:zZw op=true) (hx:x.nn) (hk:k.nn) (ho:zZN kno op mode m .zero x k=true):accS kno op mode m .zero x k=x:=by
 simp only [zZN,Bool.and_eq_true] at ho
 obtain ⟨_,_,h1,_,_⟩:=ho
 obtain ⟨⟨q1,q2,q3⟩,hf,⟨q4,q5,q6,q7⟩,hk2,hk3⟩:=Ac.ok_iff.1 h1
 obtain ⟨r1,r2,r3,r4,r5⟩:=Px.ok_iff.1 hk2
 have hm:=(zZG hf).1
 obtain ⟨n1,n2,n3,n4⟩:=hx
 obtain ⟨k1,k2,k3⟩:=hk
 obtain ⟨a,b,c,al,own,f⟩:=x
 simp only at *
 unfold accS
 split
 ·simp only [Px.zero]
  rw [zGK hm k1 r1,zGK hm k2 r2,zGK hm k3 r3,jXc hm,jXc hm,shape_zero hm h]
 ·simp only [Px.zero]
  rw [jZi hm h n1 q1,jZi hm h n2 q2,jZi hm h n3 q3,jQo hm h,jQo hm h,shape_zero hm h]
structure LvOk (m:Int) (iso kno:Bool) (x:Ac) (k:Px):Prop where
  ok:x.ok k m=true
  nn:x.nn
  kn:k.nn
  own:iso=true→kno=false→x.own=x.al
theorem jUt {m:Int} {iso kno:Bool} {x:Ac} {k p:Px} {op mode:Int} (h:LvOk m iso kno x k) (hp:p.ok m=true) (hn:p.nn) (h1:isNm op=true) (h2:isNm mode=true) (hop:op=4∨(iso=true∧kno=false)) :
  zZN kno op mode m p x k=true∧LvOk m iso kno (accS kno op mode m p x k) k:=by
 obtain ⟨ok,⟨n1,n2,n3,n4⟩,kn,own⟩:=h
 obtain ⟨⟨q1,q2,q3⟩,hf,⟨q4,q5,q6,q7⟩,hk2,hk3⟩:=Ac.ok_iff.1 ok
 obtain ⟨r1,r2,r3,r4,r5⟩:=Px.ok_iff.1 hk2
 obtain ⟨p1,p2,p3,p4,p5⟩:=Px.ok_iff.1 hp
 obtain ⟨pn1,pn2,pn3⟩:=hn
 have kn':=kn
 obtain ⟨k1,k2,k3⟩:=kn'
 have hm:=(zZG hf).1
 refine ⟨?_,?_⟩
 ·have:(!(kno && decide (op≠4)))=true:=by
   rcases hop with rfl | ⟨_,rfl⟩ <;> simp
  unfold zZN
  rw [h1,h2,ok,hp,this]; rfl
 obtain ⟨xa,xb,xc,al,oo,f⟩:=x
 obtain ⟨pa,pb,pc,pl,pf⟩:=p
 simp only at *
 cases kno with
 | true=>
  have hop:op=4:=hop.elim id fun h=>absurd h.2 (by decide)
  subst hop
  have c1:=jQ6 (mode:=mode) hm pn1 p1 p4 p5 k1 r1 (show k.al≤m by omega) n1 q1
  have c2:=jQ6 (mode:=mode) hm pn2 p2 p4 p5 k2 r2 (show k.al≤m by omega) n2 q2
  have c3:=jQ6 (mode:=mode) hm pn3 p3 p4 p5 k3 r3 (show k.al≤m by omega) n3 q3
  have a1:=jQ7 (acc:=al) (b:=k.al) hm (show 0≤pl by omega) p4 p5 (by omega) q6 (by omega) (by omega)
  have a2:=jQ7 (acc:=oo) (b:=0) hm (show 0≤pl by omega) p4 p5 n4 (by omega) (by omega) (by omega)
  have sh:=zXV (op:=4) (a:=pl) (f:=pf) (b:=oo) (g:=f) hm (by omega) p4 p5 n4 q5 q7
  have o1:knoA m pl pf oo 0≤knoA m pl pf al k.al:=by
   unfold knoA
   apply zZ5 hm
   have:=zQg (x:=m - pf) (y:=oo) (A:=m - pf) (B:=al) (by omega) (Int.le_refl _) n4 q4
   have:=Int.mul_nonneg (show 0≤pf - pl by omega) (show 0≤k.al by omega)
   omega
  have o2:knoA m pl pf oo 0≤zXA 4 pl oo m:=by
   unfold knoA zXA
   apply zZ5 hm
   simp [facA,facB]
   have:=Int.mul_le_mul_of_nonneg_right (show m - pf≤m - pl by omega) n4
   omega
  simp only [accS,if_true]
  exact ⟨Ac.ok_iff.2 ⟨⟨by simp only; omega,by simp only; omega,by simp only; omega⟩,hf,⟨by simp only; omega,by simp only; omega,by simp only; omega,by simp only; omega⟩,hk2,hk3⟩,⟨by simp only; omega,by simp only; omega,by simp only; omega,by simp only; omega⟩,kn,fun _ h=>by cases h⟩
 | false=>
  have c1:=jZj (op:=op) (mode:=mode) hm pn1 p1 (show pl≤m by omega) n1 q1 q6
  have c2:=jZj (op:=op) (mode:=mode) hm pn2 p2 (show pl≤m by omega) n2 q2 q6
  have c3:=jZj (op:=op) (mode:=mode) hm pn3 p3 (show pl≤m by omega) n3 q3 q6
  have top:=zXV (op:=op) (a:=pl) (f:=pf) (b:=al) (g:=m) hm (by omega) p4 p5 (by omega) q6 (Int.le_refl _)
  have sh:=zXV (op:=op) (a:=pl) (f:=pf) (b:=oo) (g:=f) hm (by omega) p4 p5 n4 q5 q7
  have z:=zHh (op:=op) (a:=pl) (b:=oo) hm (by omega) (by omega) n4 (by omega)
  have o1:zXA op pl oo m≤zXA op pl al m:=by
   rcases hop with rfl | ⟨hi,_⟩
   ·unfold zXA
    apply zZ5 hm
    simp [facA,facB]
    exact Int.mul_le_mul_of_nonneg_left q4 (by omega)
   ·rw [own hi rfl]; exact Int.le_refl _
  simp only [accS]
  exact ⟨Ac.ok_iff.2 ⟨⟨by simp; omega,by simp; omega,by simp; omega⟩,hf,⟨by simp; omega,by simp; omega,by simp; omega,by simp; omega⟩,hk2,hk3⟩,⟨by simp; omega,by simp; omega,by simp; omega,by simp; omega⟩,kn,fun hi hk=>by simp [own hi hk]⟩
theorem jYf {m c own b:Int} (hm:0 < m) (h:0≤own):0≤remS m c own b∧remS m c own b≤own:=by
 unfold remS
 split
 ·have:=zYD (n:=m*c - (m - own)*b) hm (by omega)
  omega
 ·omega
theorem zGm {m:Int} {iso kno:Bool} {x:Ac} {k:Px} (h:LvOk m iso kno x k):(zZU x k m).ok m=true∧(zZU x k m).nn:=by
 obtain ⟨ok,⟨n1,n2,n3,n4⟩,kn,own⟩:=h
 obtain ⟨⟨q1,q2,q3⟩,hf,⟨q4,q5,q6,q7⟩,hk2,hk3⟩:=Ac.ok_iff.1 ok
 have hm:=(zZG hf).1
 have a:=jYf (c:=x.a) (b:=k.a) hm n4
 have b:=jYf (c:=x.b) (b:=k.b) hm n4
 have c:=jYf (c:=x.c) (b:=k.c) hm n4
 exact ⟨Px.ok_iff.2 ⟨a.2,b.2,c.2,q5,q7⟩,a.1,b.1,c.1⟩
theorem jQB {m k:Int} {p:Px} (hm:0 < m) (h:p.ok m=true) (hn:p.nn) (h0:0≤k) (h1:k≤m):(zXz p k m).ok m=true∧(zXz p k m).nn:=by
 obtain ⟨p1,p2,p3,p4,p5⟩:=Px.ok_iff.1 h
 obtain ⟨n1,n2,n3⟩:=hn
 have mo:∀ {u v:Int},u≤v→zQE (u*k) m≤zQE (v*k) m:=fun h=>zZ5 hm (Int.mul_le_mul_of_nonneg_right h h0)
 have nn:∀ {u:Int},0≤u→0≤zQE (u*k) m:=fun h=>zYD hm (Int.mul_nonneg h h0)
 have le:zQE (p.f*k) m≤m:=by
  refine Int.le_trans (zXb hm (k:=k) ?_) h1
  exact Int.mul_le_mul_of_nonneg_right p5 h0
 exact ⟨Px.ok_iff.2 ⟨mo p1,mo p2,mo p3,mo p4,le⟩,nn n1,nn n2,nn n3⟩
theorem jXl {m:Int} (hm:0 < m):zQE 0 m=0:=by
 have:=zKP (c:=0) hm
 rwa [Int.mul_zero] at this
theorem zHL {m k:Int} (hm:0 < m):zXz .zero k m=.zero:=by
 simp [zXz,Px.zero,jXl hm]
theorem zV4 {m:Int} {p:Px} (hm:0 < m):zXz p 0 m=.zero:=by
 simp [zXz,Px.zero,jXl hm]
theorem zVA {m:Int} (hm:0≤m):Px.ok .zero m=true∧Px.zero.nn:=⟨Px.ok_iff.2 ⟨by decide,by decide,by decide,by decide,hm⟩,by decide,by decide,by decide⟩
theorem jWY {m:Int} {iso kno iso' kno':Bool} {x:Ac} {k:Px} (h:LvOk m iso kno x k):LvOk m iso' kno' (zQB iso' kno x k).1 (zQB iso' kno x k).2:=by
 obtain ⟨ok,⟨n1,n2,n3,n4⟩,kn,own⟩:=h
 obtain ⟨⟨q1,q2,q3⟩,hf,⟨q4,q5,q6,q7⟩,hk2,hk3⟩:=Ac.ok_iff.1 ok
 obtain ⟨r1,r2,r3,r4,r5⟩:=Px.ok_iff.1 hk2
 obtain ⟨k1,k2,k3⟩:=kn
 have hm:=(zZG hf).1
 unfold zQB
 cases iso' with
 | true=>
  simp only [if_true]
  exact ⟨Ac.ok_iff.2 ⟨⟨by decide,by decide,by decide⟩,hf,⟨by decide,by decide,by simp [Px.zero]; omega,by simp only; omega⟩,(zVA (by omega)).1,rfl⟩,⟨by decide,by decide,by decide,by decide⟩,(zVA (m:=m) (by omega)).2,fun _ _=>rfl⟩
 | false=>
  cases kno with
  | true=>
   simp only [if_true]
   exact ⟨Ac.ok_iff.2 ⟨⟨by simp; omega,by simp; omega,by simp; omega⟩,hf,⟨by simp; omega,by simp,by simp; omega,by simp; omega⟩,by simpa using hk2,by simpa using hk3⟩,⟨by simpa using k1,by simpa using k2,by simpa using k3,Int.le_refl 0⟩,by simpa using ⟨k1,k2,k3⟩,fun h=>by cases h⟩
  | false=>
   simp only
   exact ⟨Ac.ok_iff.2 ⟨⟨by simp; omega,by simp; omega,by simp; omega⟩,hf,⟨by simp; omega,by simp,by simp; omega,by simp; omega⟩,Px.ok_iff.2 ⟨by simp; omega,by simp; omega,by simp; omega,by simp,by simp; omega⟩,by simp⟩,⟨by simpa using n1,by simpa using n2,by simpa using n3,Int.le_refl 0⟩,by simpa using ⟨n1,n2,n3⟩,fun h=>by cases h⟩
theorem jZN {m:Int} {iso kno:Bool} {x:Ac} {k:Px}:zZU (zQB iso kno x k).1 (zQB iso kno x k).2 m=.zero:=by
 have e:∀ c,remS m c 0 c=0:=fun c=>by unfold remS; rw [if_neg (by simp)]
 unfold zQB zZU
 simp only [e]
 rfl
def hiW (n:Int):Int:=n / 18446744073709551616
def loW (n:Int):Int:=n % 18446744073709551616
def wV (h l:Int):Int:=h*18446744073709551616+l
theorem zYN (n:Int):wV (hiW n) (loW n)=n:=by unfold wV hiW loW; omega
theorem zVB (n:Int):wV 0 n=n:=by unfold wV; omega
theorem zYo {n:Int} (h0:0≤n) (h1:n < 18446744073709551616):hiW n=0:=by unfold hiW; omega
theorem zX6 {n:Int} (h0:0≤n) (h1:n < 18446744073709551616):loW n=n:=by unfold loW; omega
def cmpI (a b:Int):Int:=if a=b then 0 else if a < b then -1 else 1
def addW (a b:Int):Int:=if a+b < 340282366920938463463374607431768211456 then a+b else 0
def addK (a b:Int):Bool:=decide (a+b < 340282366920938463463374607431768211456)
def subW (a b:Int):Int:=if a < b then 0 else a - b
def subK (a b:Int):Bool:=decide (b≤a)
def jZF (q r n:Int):Int:=if 18446744073709551616≤n then -1 else cmpI (q*q*r) (n*n)
theorem jU6 {a b:Int}:0≤cmpI a b↔b≤a:=by unfold cmpI; grind
theorem zWz {n:Int} (h0:0≤n) (h1:n < 18446744073709551616):((BitVec.ofInt 64 n &&& BitVec.ofInt 64 4294967295).toNat:Int)=n % 4294967296:=by
 obtain ⟨k,rfl⟩:=Int.eq_ofNat_of_zero_le h0
 have hk:k < 18446744073709551616:=by omega
 have e1:BitVec.ofInt 64 (k:Int)=BitVec.ofNat 64 k:=by simp
 have e2:BitVec.ofInt 64 4294967295=BitVec.ofNat 64 4294967295:=by decide
 rw [e1,e2,BitVec.toNat_and,BitVec.toNat_ofNat,BitVec.toNat_ofNat,Nat.mod_eq_of_lt hk]
 have:k &&& 4294967295=k % 4294967296:=Nat.and_two_pow_sub_one_eq_mod k 32
 rw [show 4294967295 % 2 ^ 64=4294967295 from rfl,this]
 omega
def runE:List Oq→Nat→List Int→List Int→List Int × Int
 | [],_,out,op=>if op=[] then (out,0) else ([],18)
 | o::l,i,out,op=>
  if o.kind=1 then runE l (i+1) (out.set i i) op
  else if o.kind=2 then runE l (i+1) (out.set i i) (op++[(i:Int)])
  else if o.kind=3 then (if op=[] then ([],18) else runE l (i+1) ((out.set i i).set ((op[op.length - 1]?).getD 0).toNat i) op.dropLast)
  else ([],9)
def zQY (l:List Oq):List Int × Int:=runE l 0 (List.replicate l.length 0) []
def endN:Nat→Fo→Nat→Nat
 | _,.nil,p=>p
 | n,.draw _ r,p=>if p=n then n else endN (n+1) r p
 | n,.grp _ k r,p=>if p=n∨p=n+k.size+1 then n+k.size+1 else if p≤n+k.size then endN (n+1) k p else endN (n+k.size+2) r p
def endF (n:Nat) (f:Fo):List Int:=(List.range f.size).map fun j=>((endN n f (n+j):Nat):Int)
theorem zJp (n:Nat) (f:Fo):(endF n f).length=f.size:=by simp [endF]
theorem jVJ (n:Nat) (o:Oq) (r:Fo):endF n (.draw o r)=(n:Int)::endF (n+1) r:=by
 unfold endF
 rw [Fo.size,List.range_succ_eq_map,List.map_cons,List.map_map]
 refine congr (congrArg List.cons (by simp [endN])) (List.map_congr_left fun j _=>?_)
 show ((endN n (.draw o r) (n+(j+1)):Nat):Int)=_
 rw [endN,if_neg (by omega),show n+(j+1)=n+1+j by omega]
theorem jWQ (n:Nat) (o:Oq) (k r:Fo):endF n (.grp o k r)=((n+k.size+1:Nat):Int)::(endF (n+1) k++((n+k.size+1:Nat):Int)::endF (n+k.size+2) r):=by
 refine List.ext_getElem (by simp [zJp,Fo.size]; omega) fun j h1 h2=>?_
 have hj:j < k.size+r.size+2:=by simpa [endF,Fo.size] using h1
 have e:(endF n (.grp o k r))[j]=((endN n (.grp o k r) (n+j):Nat):Int):=by simp [endF]
 rw [e,endN]
 cases j with
 | zero=>simp
 | succ j=>
  rw [List.getElem_cons_succ]
  by_cases c1:j < k.size
  ·rw [List.getElem_append_left (by rw [zJp]; exact c1),if_neg (by omega),if_pos (by omega)]
   simp only [endF,List.getElem_map,List.getElem_range]
   rw [show n+(j+1)=n+1+j by omega]
  ·rw [List.getElem_append_right (by rw [zJp]; omega)]
   by_cases c2:j=k.size
   ·subst c2
    rw [if_pos (by omega)]
    simp [zJp]
   ·rw [if_neg (by omega),if_neg (by omega)]
    obtain ⟨m,rfl⟩:∃ m,j=k.size+1+m:=⟨j - k.size - 1,by omega⟩
    simp only [zJp,show k.size+1+m - k.size=m+1 by omega,List.getElem_cons_succ]
    simp only [endF,List.getElem_map,List.getElem_range]
    rw [show n+(k.size+1+m+1)=n+k.size+2+m by omega]
theorem zKa:∀ (f:Fo) (n p:Nat),n≤p→p < n+f.size→p≤endN n f p∧endN n f p < n+f.size
 | .nil,n,p,_,h=>by simp [Fo.size] at h; omega
 | .draw o r,n,p,h1,h2=>by
  have ih:=zKa r (n+1) p
  simp only [Fo.size] at h2 ⊢
  rw [endN]
  split <;> omega
 | .grp o k r,n,p,h1,h2=>by
  have ik:=zKa k (n+1) p
  have ir:=zKa r (n+k.size+2) p
  simp only [Fo.size] at h2 ⊢
  rw [endN]
  split
  ·omega
  ·split <;> omega
theorem zWv:∀ (f:Fo) (n p q:Nat),n≤p→p < n+f.size→p < q→q≤endN n f p→endN n f q≤endN n f p
 | .nil,n,p,q,_,h,_,_=>by simp [Fo.size] at h; omega
 | .draw o r,n,p,q,h1,h2,h3,h4=>by
  have ih:=zWv r (n+1) p q
  have e:=zKa r (n+1) p
  simp only [Fo.size] at h2
  rw [endN] at h4
  rw [endN,endN]
  split at h4
  ·omega
  ·rw [if_neg (by omega),if_neg (by assumption)]
   exact ih (by omega) (by omega) h3 h4
 | .grp o k r,n,p,q,h1,h2,h3,h4=>by
  have ik:=zWv k (n+1) p q
  have ir:=zWv r (n+k.size+2) p q
  have ek:=zKa k (n+1) p
  have eq:=zKa k (n+1) q
  simp only [Fo.size] at h2
  simp only [endN] at h4 ⊢
  by_cases c:p=n∨p=n+k.size+1
  ·simp only [c,if_true] at h4 ⊢
   split
   ·omega
   ·split <;> omega
  ·simp only [c,if_false] at h4 ⊢
   by_cases c2:p≤n+k.size
   ·simp only [c2,if_true] at h4 ⊢
    rw [if_neg (by omega),if_pos (by omega)]
    exact ik (by omega) (by omega) h3 h4
   ·simp only [c2,if_false] at h4 ⊢
    rw [if_neg (by omega),if_neg (by omega)]
    exact ir (by omega) (by omega) h3 h4
theorem zJ9:∀ (f:Fo) (n p q:Nat),n≤p→p < n+f.size→p < q→q < endN n f p→endN n f q < endN n f p
 | .nil,n,p,q,_,h,_,_=>by simp [Fo.size] at h; omega
 | .draw o r,n,p,q,h1,h2,h3,h4=>by
  have ih:=zJ9 r (n+1) p q
  simp only [Fo.size] at h2
  rw [endN] at h4
  rw [endN,endN]
  split at h4
  ·omega
  ·rw [if_neg (by omega),if_neg (by assumption)]
   exact ih (by omega) (by omega) h3 h4
 | .grp o k r,n,p,q,h1,h2,h3,h4=>by
  have ik:=zJ9 k (n+1) p q
  have ir:=zJ9 r (n+k.size+2) p q
  have ek:=zKa k (n+1) p
  have eq:=zKa k (n+1) q
  simp only [Fo.size] at h2
  simp only [endN] at h4 ⊢
  by_cases c:p=n∨p=n+k.size+1
  ·simp only [c,if_true] at h4 ⊢
   split
   ·omega
   ·split <;> omega
  ·simp only [c,if_false] at h4 ⊢
   by_cases c2:p≤n+k.size
   ·simp only [c2,if_true] at h4 ⊢
    rw [if_neg (by omega),if_pos (by omega)]
    exact ik (by omega) (by omega) h3 h4
   ·simp only [c2,if_false] at h4 ⊢
    rw [if_neg (by omega),if_neg (by omega)]
    exact ir (by omega) (by omega) h3 h4
theorem jUx {α:Type} (A:List α) (x:α) (B:List α) (v:α):(A++x::B).set A.length v=A++v::B:=by
 rw [List.set_append_right _ _ (Nat.le_refl _),Nat.sub_self]; rfl
theorem set_mid' {α:Type} {A:List α} {x:α} {B:List α} (v:α) {n:Nat} (h:n=A.length):(A++x::B).set n v=A++v::B:=by
 subst h; exact jUx A x B v
theorem zJN {α:Type} {X:List α} {n:Nat} (h:X.length=n+1):∃ x Y,X=x::Y∧Y.length=n:=by
 cases X with
 | nil=>simp at h
 | cons x Y=>exact ⟨x,Y,rfl,by simpa using h⟩
theorem jVj {α:Type} {X:List α} {a b:Nat} (h:X.length=a+b):∃ U V,X=U++V∧U.length=a∧V.length=b:=
 ⟨X.take a,X.drop a,(List.take_append_drop a X).symm,by rw [List.length_take]; omega,by rw [List.length_drop]; omega⟩
theorem zGw:popO.kind=3:=rfl
theorem jQC:∀ (f:Fo) (A X B op:List Int) (tail:List Oq) (n:Nat),f.ok→n=A.length→X.length=f.size →
  runE (f.flat++tail) n (A++(X++B)) op=runE tail (n+f.size) (A++(endF n f++B)) op
 | .nil,A,X,B,op,tail,n,_,_,hX=>by
  have:X=[]:=List.length_eq_zero_iff.1 hX
  subst this
  rfl
 | .draw o r,A,X,B,op,tail,n,ho,hn,hX=>by
  obtain ⟨x,X,rfl,hX1⟩:=zJN (n:=r.size) hX
  rw [jVJ,Fo.flat,List.cons_append,runE,if_pos ho.1,List.cons_append,set_mid' _ hn]
  have ih:=jQC r (A++[(n:Int)]) X B op tail (n+1) ho.2 (by simp [hn]) hX1
  simp only [List.append_assoc,List.cons_append,List.nil_append] at ih
  rw [ih,Fo.size,List.cons_append]
  congr 1; omega
 | .grp o k r,A,X,B,op,tail,n,ho,hn,hX=>by
  obtain ⟨x,X,rfl,hX1⟩:=zJN (n:=k.size+r.size+1) hX
  obtain ⟨U,V,rfl,hU,hV⟩:=jVj (a:=k.size) (b:=r.size+1) (by omega:X.length=_)
  obtain ⟨y,V,rfl,hV1⟩:=zJN (n:=r.size) hV
  rw [jWQ,Fo.flat,List.cons_append,runE,if_neg (by rw [ho.1]; decide),if_pos ho.1,List.cons_append,set_mid' _ hn]
  have ik:=jQC k (A++[(n:Int)]) U (y::V++B) (op++[(n:Int)]) (popO::(r.flat++tail)) (n+1) ho.2.1 (by simp [hn]) hU
  simp only [List.append_assoc,List.cons_append,List.nil_append] at ik ⊢
  rw [ik,runE,if_neg (by decide),if_neg (by decide),if_pos zGw,if_neg (by simp)]
  have e1:(A++(n:Int)::(endF (n+1) k++y::(V++B))).set (n+1+k.size) ((n+1+k.size:Nat):Int)=A++(n:Int)::(endF (n+1) k++((n+1+k.size:Nat):Int)::(V++B)):=by
   have:=set_mid' (A:=A++(n:Int)::endF (n+1) k) (x:=y) (B:=V++B) ((n+1+k.size:Nat):Int) (n:=n+1+k.size) (by simp [zJp]; omega)
   simpa only [List.append_assoc,List.cons_append] using this
  rw [e1]
  have e2:(((op++[(n:Int)])[(op++[(n:Int)]).length - 1]?).getD 0).toNat=n:=by simp
  rw [e2,set_mid' _ hn,List.dropLast_concat]
  have ir:=jQC r (A++((n+1+k.size:Nat):Int)::(endF (n+1) k++[((n+1+k.size:Nat):Int)])) V B op tail (n+1+k.size+1) ho.2.2 (by simp [zJp]; omega) hV1
  simp only [List.append_assoc,List.cons_append,List.nil_append] at ir
  rw [ir,Fo.size]
  have a1:n+1+k.size+1+r.size=n+(k.size+r.size+2):=by omega
  have a2:n+1+k.size+1=n+k.size+2:=by omega
  have a3:n+1+k.size=n+k.size+1:=by omega
  rw [a1,a2,a3]
theorem jWP {f:Fo} (h:f.ok):zQY f.flat=(endF 0 f,0):=by
 have:=jQC f [] (List.replicate f.size 0) [] [] [] 0 h rfl (by simp)
 simp only [List.append_nil,List.nil_append] at this
 unfold zQY
 rw [Fo.flat_len,this,runE,if_pos rfl]
theorem zHz {a:Rc} (h:a=Rc.zero∨a.empty=false):Rc.hull Rc.zero a=a:=by
 unfold Rc.hull
 rcases h with rfl | h
 ·rw [if_pos (by decide)]
 ·rw [h,if_neg (by decide),if_pos (by decide)]
theorem jXi {a b:Rc} (h:a=Rc.zero∨a.empty=false):Rc.hull a b=Rc.zero∨(Rc.hull a b).empty=false:=by
 unfold Rc.hull
 split
 ·exact h
 ·rename_i hb
  have hb:b.empty=false:=by simpa using hb
  split
  ·exact .inr hb
  ·rename_i ha
   have ha:a.empty=false:=by simpa using ha
   refine .inr ?_
   rw [Rc.empty_iff] at *
   simp only
   omega
theorem jXj {a b:Rc} (h:a=Rc.zero∨a.empty=false):zQX [a,b]=Rc.hull a b:=by
 show Rc.hull (Rc.hull Rc.zero a) b=_
 rw [zHz h]
def zQQ (s:Scr):Fo→List Rc
 | .nil=>[]
 | .draw o r=>boxF s o (imgR s o)::zQQ s r
 | .grp o k r=>boxF s o (zQX (zQQ s k))::zQQ s r
def boxN (s:Scr):Nat→Fo→Nat→Rc
 | _,.nil,_=>Rc.zero
 | n,.draw o r,p=>if p=n then boxF s o (imgR s o) else boxN s (n+1) r p
 | n,.grp o k r,p=>if p=n∨p=n+k.size+1 then boxF s o (zQX (zQQ s k)) else if p≤n+k.size then boxN s (n+1) k p else boxN s (n+k.size+2) r p
def boxL (s:Scr) (n:Nat) (f:Fo):List Rc:=(List.range f.size).map fun j=>boxN s n f (n+j)
theorem zXP (s:Scr) (n:Nat) (f:Fo):(boxL s n f).length=f.size:=by simp [boxL]
theorem zWx (s:Scr) (n:Nat) (o:Oq) (r:Fo):boxL s n (.draw o r)=boxF s o (imgR s o)::boxL s (n+1) r:=by
 unfold boxL
 rw [Fo.size,List.range_succ_eq_map,List.map_cons,List.map_map]
 refine congr (congrArg List.cons (by simp [boxN])) (List.map_congr_left fun j _=>?_)
 show boxN s n (.draw o r) (n+(j+1))=_
 rw [boxN,if_neg (by omega),show n+(j+1)=n+1+j by omega]
theorem zU0 (s:Scr) (n:Nat) (o:Oq) (k r:Fo):boxL s n (.grp o k r)=boxF s o (zQX (zQQ s k))::(boxL s (n+1) k++boxF s o (zQX (zQQ s k))::boxL s (n+k.size+2) r):=by
 refine List.ext_getElem (by simp [zXP,Fo.size]; omega) fun j h1 h2=>?_
 have hj:j < k.size+r.size+2:=by simpa [boxL,Fo.size] using h1
 have e:(boxL s n (.grp o k r))[j]=boxN s n (.grp o k r) (n+j):=by simp [boxL]
 rw [e,boxN]
 cases j with
 | zero=>simp
 | succ j=>
  rw [List.getElem_cons_succ]
  by_cases c1:j < k.size
  ·rw [List.getElem_append_left (by rw [zXP]; exact c1),if_neg (by omega),if_pos (by omega)]
   simp only [boxL,List.getElem_map,List.getElem_range]
   rw [show n+(j+1)=n+1+j by omega]
  ·rw [List.getElem_append_right (by rw [zXP]; omega)]
   by_cases c2:j=k.size
   ·subst c2
    rw [if_pos (by omega)]
    simp [zXP]
   ·rw [if_neg (by omega),if_neg (by omega)]
    obtain ⟨m,rfl⟩:∃ m,j=k.size+1+m:=⟨j - k.size - 1,by omega⟩
    simp only [zXP,show k.size+1+m - k.size=m+1 by omega,List.getElem_cons_succ]
    simp only [boxL,List.getElem_map,List.getElem_range]
    rw [show n+(k.size+1+m+1)=n+k.size+2+m by omega]
structure Occ (s:Scr) (w:Fo) (n:Nat) (f:Fo):Prop where
  ok:f.ok
  fits:n+f.size≤w.size
  op:∀ j,j < f.size→w.flat[n+j]?=f.flat[j]?
  en:∀ p,n≤p→p < n+f.size→endN 0 w p=endN n f p
  bx:∀ p,n≤p→p < n+f.size→boxN s 0 w p=boxN s n f p
theorem Occ.whole (s:Scr) {w:Fo} (h:w.ok):Occ s w 0 w:=⟨h,by omega,fun j _=>by rw [Nat.zero_add],fun _ _ _=>rfl,fun _ _ _=>rfl⟩
theorem Occ.draw {s:Scr} {w:Fo} {n:Nat} {o:Oq} {r:Fo} (h:Occ s w n (.draw o r)):o.kind=1∧n < w.size∧w.flat[n]?=some o∧endN 0 w n=n∧boxN s 0 w n=boxF s o (imgR s o)∧Occ s w (n+1) r:=by
 obtain ⟨h1,h2,h3,h4,h5⟩:=h
 simp only [Fo.size] at *
 refine ⟨h1.1,by omega,by simpa [Fo.flat] using h3 0 (by omega),by rw [h4 n (Nat.le_refl _) (by omega),endN,if_pos rfl],by rw [h5 n (Nat.le_refl _) (by omega),boxN,if_pos rfl],h1.2,by omega,fun j hj=>?_,fun p p1 p2=>?_,fun p p1 p2=>?_⟩
 ·have:=h3 (j+1) (by omega)
  rw [show n+1+j=n+(j+1) by omega,this]
  simp [Fo.flat]
 ·rw [h4 p (by omega) (by omega),endN,if_neg (by omega)]
 ·rw [h5 p (by omega) (by omega),boxN,if_neg (by omega)]
theorem Occ.grp {s:Scr} {w:Fo} {n:Nat} {o:Oq} {k r:Fo} (h:Occ s w n (.grp o k r)):o.kind=2∧n+k.size+1 < w.size∧w.flat[n]?=some o∧w.flat[n+k.size+1]?=some popO∧endN 0 w n=n+k.size+1∧endN 0 w (n+k.size+1)=n+k.size+1 ∧
  boxN s 0 w n=boxF s o (zQX (zQQ s k))∧boxN s 0 w (n+k.size+1)=boxF s o (zQX (zQQ s k))∧Occ s w (n+1) k∧Occ s w (n+k.size+2) r:=by
 obtain ⟨h1,h2,h3,h4,h5⟩:=h
 simp only [Fo.size] at *
 refine ⟨h1.1,by omega,by simpa [Fo.flat] using h3 0 (by omega),?_,by rw [h4 n (Nat.le_refl _) (by omega),endN,if_pos (.inl rfl)],by rw [h4 _ (by omega) (by omega),endN,if_pos (.inr rfl)],by rw [h5 n (Nat.le_refl _) (by omega),boxN,if_pos (.inl rfl)],by rw [h5 _ (by omega) (by omega),boxN,if_pos (.inr rfl)],
  ⟨h1.2.1,by omega,fun j hj=>?_,fun p p1 p2=>?_,fun p p1 p2=>?_⟩,⟨h1.2.2,by omega,fun j hj=>?_,fun p p1 p2=>?_,fun p p1 p2=>?_⟩⟩
 ·have:=h3 (k.size+1) (by omega)
  rw [← Nat.add_assoc] at this
  rw [this,Fo.flat,List.getElem?_cons_succ,List.getElem?_append_right (by rw [k.flat_len]; omega),k.flat_len]
  simp
 ·have:=h3 (j+1) (by omega)
  rw [show n+1+j=n+(j+1) by omega,this,Fo.flat,List.getElem?_cons_succ,List.getElem?_append_left (by rw [k.flat_len]; omega)]
 ·rw [h4 p (by omega) (by omega),endN,if_neg (by omega),if_pos (by omega)]
 ·rw [h5 p (by omega) (by omega),boxN,if_neg (by omega),if_pos (by omega)]
 ·have:=h3 (k.size+2+j) (by omega)
  rw [show n+k.size+2+j=n+(k.size+2+j) by omega,this,Fo.flat,show k.size+2+j=(k.size+(j+1))+1 by omega,List.getElem?_cons_succ,List.getElem?_append_right (by rw [k.flat_len]; omega),k.flat_len,show k.size+(j+1) - k.size=j+1 by omega,List.getElem?_cons_succ]
 ·rw [h4 p (by omega) (by omega),endN,if_neg (by omega),if_neg (by omega)]
 ·rw [h5 p (by omega) (by omega),boxN,if_neg (by omega),if_neg (by omega)]
theorem Occ.find {s:Scr} {w:Fo}:∀ (f:Fo) (n:Nat),Occ s w n f→∀ p,n≤p→p < n+f.size →
  (∃ o r,Occ s w p (.draw o r))∨(∃ o k r,Occ s w p (.grp o k r))∨(∃ q o k r,Occ s w q (.grp o k r)∧p=q+k.size+1)
 | .nil,n,h,p,h1,h2=>by simp [Fo.size] at h2; omega
 | .draw o r,n,h,p,h1,h2=>by
  simp only [Fo.size] at h2
  by_cases e:p=n
  ·subst e; exact .inl ⟨o,r,h⟩
  ·exact Occ.find r (n+1) h.draw.2.2.2.2.2 p (by omega) (by omega)
 | .grp o k r,n,h,p,h1,h2=>by
  simp only [Fo.size] at h2
  obtain ⟨_,_,_,_,_,_,_,_,hk,hr⟩:=h.grp
  by_cases e:p=n
  ·subst e; exact .inr (.inl ⟨o,k,r,h⟩)
  ·by_cases e2:p≤n+k.size
   ·exact Occ.find k (n+1) hk p (by omega) (by omega)
   ·by_cases e3:p=n+k.size+1
    ·exact .inr (.inr ⟨n,o,k,r,h,e3⟩)
    ·exact Occ.find r (n+k.size+2) hr p (by omega) (by omega)
theorem Occ.at {s:Scr} {w:Fo} (hw:w.ok) {p:Nat} (h:p < w.size) :
  (∃ o r,Occ s w p (.draw o r))∨(∃ o k r,Occ s w p (.grp o k r))∨(∃ q o k r,Occ s w q (.grp o k r)∧p=q+k.size+1):=
 Occ.find w 0 (Occ.whole s hw) p (by omega) (by omega)
theorem jZb {l:List Oq} {n:Nat} {o:Oq} (h:l[n]?=some o):(l[n]?).getD popO=o:=by rw [h]; rfl
theorem zGg (s:Scr) (n:Nat):runB s (n+1)=zUA s n ((s.ops[n]?).getD popO) (runB s n):=rfl
theorem jQD {s:Scr} {w:Fo} (hs:s.ops=w.flat):∀ (f:Fo) (n:Nat),Occ s w n f→∀ (A X B:List Rc) (op:List Int) (hs:List Rc) (h:Rc),n=A.length→X.length=f.size→(h=Rc.zero∨h.empty=false) →
  runB s n=(A++(X++B),op,hs++[h])→runB s (n+f.size)=(A++(boxL s n f++B),op,hs++[(zQQ s f).foldl Rc.hull h])
 | .nil,n,ho,A,X,B,op,hs,h,hn,hX,hh,hr=>by
  have:X=[]:=List.length_eq_zero_iff.1 hX
  subst this
  exact hr
 | .draw o r,n,ho,A,X,B,op,hs',h,hn,hX,hh,hr=>by
  obtain ⟨x,X,rfl,hX1⟩:=zJN (n:=r.size) hX
  obtain ⟨k1,_,k2,k3,k4,k5⟩:=ho.draw
  have e1:runB s (n+1)=((A++[boxF s o (imgR s o)])++(X++B),op,hs'++[Rc.hull h (boxF s o (imgR s o))]):=by
   rw [zGg,hr,hs,jZb k2]
   unfold zUA zUB
   rw [if_neg (by rw [k1]; decide),if_pos k1]
   simp only [List.cons_append,List.append_assoc,List.nil_append]
   rw [set_mid' _ hn]
   have g:(A++boxF s o (imgR s o)::(X++B))[n]?=some (boxF s o (imgR s o)):=by subst hn; simp
   rw [g]
   simp only [Option.getD_some,topB,List.length_append,List.length_cons,List.length_nil,Nat.add_sub_cancel]
   rw [List.getElem?_append_right (Nat.le_refl _),Nat.sub_self,List.getElem?_cons_zero,Option.getD_some,jXj hh,set_mid' (A:=hs') _ (by simp)]
  have ih:=jQD hs r (n+1) k5 _ X B op hs' _ (by simp [hn]) hX1 (jXi hh) e1
  rw [zWx,Fo.size,show n+(r.size+1)=n+1+r.size by omega,ih]
  simp [zQQ]
 | .grp o k r,n,ho,A,X,B,op,hs',h,hn,hX,hh,hr=>by
  obtain ⟨x,X,rfl,hX1⟩:=zJN (n:=k.size+r.size+1) hX
  obtain ⟨U,V,rfl,hU,hV⟩:=jVj (a:=k.size) (b:=r.size+1) (by omega:X.length=_)
  obtain ⟨y,V,rfl,hV1⟩:=zJN (n:=r.size) hV
  obtain ⟨k1,_,k2,k3,k4,k5,k6,k7,k8,k9⟩:=ho.grp
  have e1:runB s (n+1)=((A++[x])++(U++(y::(V++B))),op++[(n:Int)],(hs'++[h])++[Rc.zero]):=by
   rw [zGg,hr,hs,jZb k2]
   unfold zUA
   rw [if_pos k1]
   simp
  have ik:=jQD hs k (n+1) k8 _ U _ _ _ _ (by simp [hn]) hU (.inl rfl) e1
  have e2:runB s (n+1+k.size+1)=((A++boxF s o (zQX (zQQ s k))::(boxL s (n+1) k++[boxF s o (zQX (zQQ s k))]))++(V++B),op,hs'++[Rc.hull h (boxF s o (zQX (zQQ s k)))]):=by
   rw [zGg,ik,hs,show n+1+k.size=n+k.size+1 by omega,jZb k3]
   have ep:(((op++[(n:Int)])[(op++[(n:Int)]).length - 1]?).getD 0).toNat=n:=by simp
   have eh:(((hs'++[h]++[(zQQ s k).foldl Rc.hull Rc.zero])[(hs'++[h]++[(zQQ s k).foldl Rc.hull Rc.zero]).length - 1]?).getD Rc.zero)=zQX (zQQ s k):=by
    simp only [List.length_append,List.length_cons,List.length_nil,Nat.add_sub_cancel]
    rw [List.getElem?_append_right (by simp)]
    simp [zQX]
   unfold zUA zUB
   rw [if_neg (by rw [zGw]; decide),if_neg (by rw [zGw]; decide)]
   simp only [ep,eh,hs,jZb k2,List.dropLast_concat]
   have s1:(A++[x]++(boxL s (n+1) k++y::(V++B))).set (n+k.size+1) (boxF s o (zQX (zQQ s k)))=A++x::(boxL s (n+1) k++boxF s o (zQX (zQQ s k))::(V++B)):=by
    have:=set_mid' (A:=A++[x]++boxL s (n+1) k) (x:=y) (B:=V++B) (boxF s o (zQX (zQQ s k))) (n:=n+k.size+1) (by simp [zXP]; omega)
    simpa only [List.append_assoc,List.cons_append,List.nil_append] using this
   rw [s1,set_mid' _ hn]
   have g:(A++boxF s o (zQX (zQQ s k))::(boxL s (n+1) k++boxF s o (zQX (zQQ s k))::(V++B)))[n+k.size+1]?=some (boxF s o (zQX (zQQ s k))):=by
    have:(A++boxF s o (zQX (zQQ s k))::boxL s (n+1) k++boxF s o (zQX (zQQ s k))::(V++B))[n+k.size+1]?=some (boxF s o (zQX (zQQ s k))):=by
     rw [List.getElem?_append_right (by simp [zXP]; omega)]
     have:n+k.size+1 - (A++boxF s o (zQX (zQQ s k))::boxL s (n+1) k).length=0:=by simp [zXP]; omega
     rw [this]; rfl
    simpa only [List.append_assoc,List.cons_append] using this
   rw [g]
   simp only [Option.getD_some,topB,List.length_append,List.length_cons,List.length_nil,Nat.add_sub_cancel]
   rw [List.getElem?_append_right (Nat.le_refl _),Nat.sub_self,List.getElem?_cons_zero,Option.getD_some,jXj hh,set_mid' (A:=hs') _ (by simp)]
   simp
  have ir:=jQD hs r (n+k.size+2) k9 (A++boxF s o (zQX (zQQ s k))::(boxL s (n+1) k++[boxF s o (zQX (zQQ s k))])) V B op hs' _ (by simp [zXP]; omega) hV1 (jXi hh) (by rw [show n+k.size+2=n+1+k.size+1 by omega]; exact e2)
  rw [zU0,Fo.size,show n+(k.size+r.size+2)=n+k.size+2+r.size by omega,ir]
  simp [zQQ]
theorem jJD {s:Scr} {w:Fo} (hw:w.ok) (hs:s.ops=w.flat):(runB s s.ops.length).1=boxL s 0 w:=by
 have h:=jQD hs w 0 (Occ.whole s hw) [] (List.replicate s.ops.length Rc.zero) [] [] [] Rc.zero rfl (by rw [List.length_replicate,hs,w.flat_len]) (.inl rfl) (by simp [runB])
 rw [hs,w.flat_len]
 rw [Nat.zero_add] at h
 rw [h]
 simp
theorem jGr {s:Scr} (h:s.run.1=0):∃ w:Fo,w.ok∧s.ops=w.flat:=jJw (zY5 h).2
open Classical in
noncomputable def foOf (s:Scr):Fo:=if h:∃ w:Fo,w.ok∧s.ops=w.flat then Classical.choose h else .nil
theorem zXm {s:Scr} (h:s.run.1=0):(foOf s).ok∧s.ops=(foOf s).flat:=by
 have h:=jGr h
 unfold foOf
 rw [dif_pos h]
 exact Classical.choose_spec h
theorem zZF {s:Scr} (h:s.run.1=0):s.ops.length=(foOf s).size:=by
 have e:=congrArg List.length (zXm h).2
 rw [Fo.flat_len] at e
 exact e
theorem jVI {s:Scr} (h:s.run.1=0):zQY s.ops=(endF 0 (foOf s),0):=by
 rw [(zXm h).2]
 have:=jWP (zXm h).1
 generalize foOf s=w at *
 exact this
def enAt (s:Scr) (p:Nat):Nat:=(((zQY s.ops).1[p]?).getD 0).toNat
def bxAt (s:Scr) (p:Nat):Rc:=((zZ1 s).1[p]?).getD Rc.zero
def opAt (s:Scr) (p:Nat):Oq:=(s.ops[p]?).getD popO
theorem jWO {s:Scr} (h:s.run.1=0):(zQY s.ops).1.length=s.ops.length∧(zQY s.ops).2=0:=by
 rw [jVI h,zJp,← zZF h]
 exact ⟨rfl,rfl⟩
theorem zXn {s:Scr} (h:s.run.1=0) {p:Nat} (hp:p < s.ops.length):(zQY s.ops).1[p]?=some ((endN 0 (foOf s) p:Nat):Int)∧enAt s p=endN 0 (foOf s) p:=by
 have e:(zQY s.ops).1[p]?=some ((endN 0 (foOf s) p:Nat):Int):=by
  rw [jVI h]
  simp only [endF,Nat.zero_add]
  rw [List.getElem?_map,List.getElem?_range (by rw [← zZF h]; exact hp)]
  rfl
 exact ⟨e,by unfold enAt; rw [e]; simp⟩
theorem jYI {s:Scr} (h:s.run.1=0) {p:Nat} (hp:p < s.ops.length):(zQY s.ops).1[p]?=some ((enAt s p:Nat):Int):=by
 rw [(zXn h hp).2]
 exact (zXn h hp).1
theorem jJC {s:Scr} (h:s.run.1=0):(zZ1 s).1=boxL s 0 (foOf s)∧(zZ1 s).2=0∧(zZ1 s).1.length=s.ops.length:=by
 have e:=jJD (zXm h).1 (zXm h).2
 unfold zZ1
 rw [if_pos h,e]
 exact ⟨rfl,rfl,by rw [zXP,← zZF h]⟩
theorem zKd {s:Scr} (h:s.run.1=0) {p:Nat} (hp:p < s.ops.length):bxAt s p=boxN s 0 (foOf s) p:=by
 unfold bxAt
 rw [(jJC h).1]
 simp only [boxL,Nat.zero_add]
 rw [List.getElem?_map,List.getElem?_range (by rw [← zZF h]; exact hp)]
 rfl
theorem jVT {s:Scr} (h:s.run.1≠0):zZ1 s=([],s.run.1):=by
 unfold zZ1; rw [if_neg h]
theorem jGc {s:Scr} (h:s.run.1=0) {p:Nat} (hp:p < s.ops.length) :
  (∃ o r,Occ s (foOf s) p (.draw o r)∧opAt s p=o∧o.kind=1∧enAt s p=p∧bxAt s p=boxF s o (imgR s o)) ∨
  (∃ o k r,Occ s (foOf s) p (.grp o k r)∧opAt s p=o∧o.kind=2∧enAt s p=p+k.size+1∧bxAt s p=boxF s o (zQX (zQQ s k))∧p+k.size+1 < s.ops.length) ∨
  (∃ q o k r,Occ s (foOf s) q (.grp o k r)∧p=q+k.size+1∧opAt s p=popO∧enAt s p=p∧opAt s q=o∧o.kind=2∧enAt s q=p∧bxAt s p=bxAt s q):=by
 obtain ⟨hw,hs⟩:=zXm h
 have hz:=zZF h
 have g:∀ {q:Nat} {o:Oq},(foOf s).flat[q]?=some o→opAt s q=o:=fun {q o} hq=>by
  unfold opAt
  have:s.ops[q]?=some o:=by rw [← hq]; exact congrArg (fun l:List Oq=>l[q]?) hs
  rw [this]; rfl
 rcases Occ.at (s:=s) hw (p:=p) (by omega) with ⟨o,r,ho⟩ | ⟨o,k,r,ho⟩ | ⟨q,o,k,r,ho,e⟩
 ·obtain ⟨k1,k0,k2,k3,k4,k5⟩:=ho.draw
  exact .inl ⟨o,r,ho,g k2,k1,by rw [(zXn h hp).2]; exact k3,by rw [zKd h hp]; exact k4⟩
 ·obtain ⟨k1,k0,k2,k3,k4,k5,k6,k7,k8,k9⟩:=ho.grp
  exact .inr (.inl ⟨o,k,r,ho,g k2,k1,by rw [(zXn h hp).2]; exact k4,by rw [zKd h hp]; exact k6,by omega⟩)
 ·obtain ⟨k1,k0,k2,k3,k4,k5,k6,k7,k8,k9⟩:=ho.grp
  subst e
  exact .inr (.inr ⟨q,o,k,r,ho,rfl,g k3,by rw [(zXn h hp).2]; exact k5,g k2,k1,by rw [(zXn h (by omega)).2]; exact k4,by rw [zKd h hp,zKd h (by omega),k7,k6]⟩)
theorem zUa {s:Scr} (h:s.run.1=0) {p:Nat} (hp:p < s.ops.length):p≤enAt s p∧enAt s p < s.ops.length:=by
 have:=zKa (foOf s) 0 p (by omega) (by rw [← zZF h]; omega)
 rw [← zZF h] at this
 rw [(zXn h hp).2]
 omega
theorem zWw {s:Scr} (h:s.run.1=0) {p q:Nat} (hp:p < s.ops.length) (h1:p < q) (h2:q≤enAt s p):enAt s q≤enAt s p:=by
 have he:=zUa h hp
 have:=zWv (foOf s) 0 p q (by omega) (by rw [← zZF h]; omega) h1 (by rw [← (zXn h hp).2]; exact h2)
 rw [(zXn h hp).2,(zXn h (p:=q) (by omega)).2]
 exact this
theorem jZ2 {s:Scr} (h:s.run.1=0) {p:Nat} (hp:p < s.ops.length):(opAt s p).kind=1∨(opAt s p).kind=2∨((opAt s p).kind=3∧∃ q,q < p∧(opAt s q).kind=2∧enAt s q=p∧bxAt s p=bxAt s q):=by
 rcases jGc h hp with ⟨o,r,_,e1,e2,_⟩ | ⟨o,k,r,_,e1,e2,_⟩ | ⟨q,o,k,r,_,e0,e1,_,e2,e3,e4,e5⟩
 ·exact .inl (by rw [e1]; exact e2)
 ·exact .inr (.inl (by rw [e1]; exact e2))
 ·exact .inr (.inr ⟨by rw [e1]; rfl,q,by omega,by rw [e2]; exact e3,e4,e5⟩)
theorem jVK {s:Scr} (h:s.run.1=0) {p:Nat} (hp:p < s.ops.length) (hk:(opAt s p).kind≠2):enAt s p=p:=by
 rcases jGc h hp with ⟨o,r,_,e1,e2,e3,_⟩ | ⟨o,k,r,_,e1,e2,_⟩ | ⟨q,o,k,r,_,e0,e1,e2,_⟩
 ·exact e3
 ·exact absurd (by rw [e1]; exact e2) hk
 ·exact e2
theorem jZU {s:Scr} (h:s.run.1=0) {p:Nat} (hp:p < s.ops.length) (hk:(opAt s p).kind=2):p < enAt s p∧(opAt s (enAt s p)).kind=3∧bxAt s (enAt s p)=bxAt s p∧enAt s (enAt s p)=enAt s p:=by
 rcases jGc h hp with ⟨o,r,_,e1,e2,e3,_⟩ | ⟨o,k,r,ho,e1,e2,e3,e4,e5⟩ | ⟨q,o,k,r,_,e0,e1,e2,_⟩
 ·rw [e1] at hk; omega
 ·obtain ⟨k1,k0,k2,k3,k4,k5,k6,k7,k8,k9⟩:=ho.grp
  rw [e3]
  refine ⟨by omega,?_,?_,by rw [(zXn h (by omega)).2]; exact k5⟩
  ·have:opAt s (p+k.size+1)=popO:=by
    unfold opAt
    have:s.ops[p+k.size+1]?=some popO:=by rw [← k3]; exact congrArg (fun l:List Oq=>l[p+k.size+1]?) (zXm h).2
    rw [this]; rfl
   rw [this]; rfl
  ·rw [zKd h (by omega),zKd h hp,k7,k6]
 ·rw [e1] at hk; exact absurd hk (by decide)
def bs (l:List Bool):List DV:=l.map .bool
theorem zHa (l:List Bool):(bs l).length=l.length:=by simp [bs]
theorem jVR {l:List Bool} {k:Nat} {v:Bool} (h:l[k]?=some v):(bs l)[k]?=some (.bool v):=by simp [bs,h]
theorem jVS {l:List Bool} {k:Nat} {v:Bool} (h:l[k]?=some v):bAt (bs l) k=v:=by simp [bAt,jVR h]
theorem jGJ (l:List Bool) (k:Nat) (v:Bool):(bs l).set k (.bool v)=bs (l.set k v):=by simp [bs]
theorem jU9 (n:Nat):bs (List.replicate n false)=List.replicate n (.bool false):=by simp [bs]
theorem jJp {l:List Int} {k:Nat} {v:Int} (h:l[k]?=some v):(is l)[k]?=some (.int .i64 v):=by simp [is,h]
theorem jVl {l:List Int} {k:Nat} {v:Int} (h:l[k]?=some v):nAt (is l) k=v:=by simp [nAt,jJp h]
def hitB (s:Scr) (r:Rc) (p:Nat):Bool:=!(Rc.inter (bxAt s p) r).empty
def jV2 (s:Scr) (r:Rc) (i k:Nat):Bool:=hitB s r i && (List.range k).all fun j=>!(decide ((opAt s j).kind=2) && decide (i < enAt s j)) || hitB s r j
def zXy (s:Scr) (r:Rc) (i:Nat):Bool:=jV2 s r i i
def zZ0 (s:Scr) (r:Rc):List Bool × Int:=if s.run.1=0 then ((List.range s.ops.length).map (zXy s r),0) else ([],s.run.1)
def zYU (s:Scr) (r:Rc) (k:Nat):List Bool:=(List.range s.ops.length).map fun p=>decide (p < k) && zXy s r p
def Live (s:Scr) (r:Rc) (k:Nat):Prop:=∀ j,j < k→(opAt s j).kind=2→k < enAt s j→hitB s r j=true
theorem jKn (s:Scr) (r:Rc):zYU s r 0=List.replicate s.ops.length false:=by
 refine List.ext_getElem (by simp [zYU]) fun p h1 h2=>?_
 simp [zYU]
theorem jV1 (s:Scr) (r:Rc):zYU s r s.ops.length=(List.range s.ops.length).map (zXy s r):=by
 refine List.map_congr_left fun p hp=>?_
 rw [List.mem_range] at hp
 simp [hp]
theorem jV0 (s:Scr) (r:Rc) (k:Nat):(zYU s r k).length=s.ops.length:=by simp [zYU]
theorem jQq (s:Scr) (r:Rc) (k:Nat):(zYU s r k).set k (zXy s r k)=zYU s r (k+1):=by
 refine List.ext_getElem (by simp [zYU]) fun p h1 h2=>?_
 rw [List.getElem_set]
 simp only [zYU,List.getElem_map,List.getElem_range]
 split
 ·rename_i e; subst e; simp
 ·rename_i e
  have:(p < k)↔(p < k+1):=by omega
  simp [this]
theorem zWj {s:Scr} {r:Rc} {k:Nat} (h:Live s r k):zXy s r k=hitB s r k:=by
 unfold zXy jV2
 have:((List.range k).all fun j=>!(decide ((opAt s j).kind=2) && decide (k < enAt s j)) || hitB s r j)=true:=by
  rw [List.all_eq_true]
  intro j hj
  rw [List.mem_range] at hj
  have:=h j hj
  by_cases c1:(opAt s j).kind=2 <;> by_cases c2:k < enAt s j <;> simp [c1,c2]
  exact this c1 c2
 rw [this,Bool.and_true]
theorem jVg (s:Scr) (r:Rc):Live s r 0:=fun j hj=>by omega
theorem jZ6 {s:Scr} {r:Rc} {k:Nat} (h:Live s r k) (hk:¬ ((opAt s k).kind=2∧hitB s r k=false)):Live s r (k+1):=by
 intro j hj h2 h3
 by_cases e:j=k
 ·subst e
  cases hb:hitB s r j with
  | true=>rfl
  | false=>exact absurd ⟨h2,hb⟩ hk
 ·exact h j (by omega) h2 (by omega)
theorem jVh {s:Scr} {r:Rc} {k:Nat} (hv:s.run.1=0) (hk:k < s.ops.length) (h:Live s r k) (h2:(opAt s k).kind=2) (hb:hitB s r k=false) :
  Live s r (enAt s k+1)∧zYU s r (enAt s k+1)=zYU s r k:=by
 have he:=zUa hv hk
 obtain ⟨p1,p2,p3,p4⟩:=jZU hv hk h2
 refine ⟨fun j hj j2 j3=>?_,?_⟩
 ·rcases Nat.lt_trichotomy j k with c | c | c
  ·exact h j c j2 (by omega)
  ·subst c; omega
  ·by_cases e:j=enAt s k
   ·rw [e] at j2; omega
   ·have:=zWw hv hk c (by omega)
    omega
 ·refine List.ext_getElem (by simp [zYU]) fun p h1 h1'=>?_
  simp only [zYU,List.getElem_map,List.getElem_range]
  by_cases c1:p < k
  ·have:p < enAt s k+1:=by omega
   simp [c1,this]
  ·by_cases c2:p < enAt s k+1
   ·have:zXy s r p=false:=by
     by_cases e1:p=k
     ·rw [e1,zWj h,hb]
     ·by_cases e2:p=enAt s k
      ·have:hitB s r p=false:=by rw [← hb,e2]; unfold hitB; rw [p3]
       unfold zXy jV2
       rw [this,Bool.false_and]
      ·unfold zXy jV2
       have:((List.range p).all fun j=>!(decide ((opAt s j).kind=2) && decide (p < enAt s j)) || hitB s r j)=false:=by
        rw [List.all_eq_false]
        refine ⟨k,List.mem_range.2 (by omega),?_⟩
        have:p < enAt s k:=by omega
        simp [h2,hb,this]
       rw [this,Bool.and_false]
    simp [this]
   ·simp [c1,c2]
structure Lv where
  op:Oq
  acc:Ac
  back:Px
def zXe:Lv:=⟨⟨2,0,0,0,0,0,0,0,0,0,true,false⟩,.zero,.zero⟩
def topL (L:List Lv):Lv:=(L[L.length - 1]?).getD zXe
def zYI (p:Px) (k m:Int):Bool:=zZZ m && (p.ok m && decide (k≤m))
def zZr (p:Px) (k m:Int):Px × Bool:=if zYI p k m then (zXz p k m,true) else (.zero,false)
def zXx (p:Px) (a b m:Int):Px × Bool:=if zYI p a m then zZr (zXz p a m) b m else (.zero,false)
def zXg (m:Int) (o:Oq) (p:Px) (mask:Int):Px × Bool:=zXx p (if o.mask=0 then m else mask) o.opac m
def zUk (m:Int) (L:List Lv) (o:Oq) (p:Px):Bool:=zZN (topL L).op.kno o.oper o.mode m p (topL L).acc (topL L).back
def zKl (m:Int) (L:List Lv) (o:Oq) (p:Px):List Lv:=if zUk m L o p then L.set (L.length - 1) ⟨(topL L).op,accS (topL L).op.kno o.oper o.mode m p (topL L).acc (topL L).back,(topL L).back⟩ else L
def jWT (m:Int) (L:List Lv) (o:Oq) (p:Px) (mask:Int):List Lv:=if o.kind=1∧(zXg m o p mask).2=true then zKl m L o (zXg m o p mask).1 else L
def jJX (L:List Lv) (o:Oq):List Lv:=if o.kind=2∧L.length < 65 then L++[⟨o,(zQB o.iso (topL L).op.kno (topL L).acc (topL L).back).1,(zQB o.iso (topL L).op.kno (topL L).acc (topL L).back).2⟩] else L
def resB (m:Int) (t:Lv):Bool:=t.acc.ok t.back m
def resL (m:Int) (t:Lv):Px:=if resB m t then zZU t.acc t.back m else .zero
def popL (m:Int) (L:List Lv) (mask:Int):List Lv:=
 if L.length≤1 then L
 else if (zXg m (topL L).op (resL m (topL L)) mask).2=false then L
 else if resB m (topL L) && zUk m L.dropLast (topL L).op (zXg m (topL L).op (resL m (topL L)) mask).1 then zKl m L.dropLast (topL L).op (zXg m (topL L).op (resL m (topL L)) mask).1
 else L
def jVd (m:Im) (x y dx dy:Int):Px:=if x < dx∨y < dy∨x - dx≥1099511627776∨y - dy≥1099511627776 then .zero else m.at_ (x - dx) (y - dy)
def zWm (ms:List Im) (i x y dx dy:Int):Px:=if 0≤i then match ms[i.toNat]? with
 | some m=>jVd m x y dx dy
 | none=>.zero
 else .zero
def srcS (ms:List Im) (o:Oq) (x y:Int):Px:=if o.kind=1 then zWm ms o.image x y o.x o.y else .zero
def zKK (ms:List Im) (o:Oq) (x y:Int):Int:=if 1≤o.mask then (zWm ms (o.mask - 1) x y o.mx o.my).al else 0
def zJr (m:Int) (ms:List Im) (x y:Int) (L:List Lv) (o:Oq):List Lv:=
 if o.kind=1 then jWT m L o (srcS ms o x y) (zKK ms o x y)
 else if o.kind=2 then jJX L o
 else if o.kind=3 then popL m L (zKK ms (topL L).op x y)
 else L
def runM (m:Int) (ms:List Im) (x y:Int) (l:List Oq) (L:List Lv):List Lv:=l.foldl (zJr m ms x y) L
theorem zYO (m:Int) (ms:List Im) (x y:Int) (l k:List Oq) (L:List Lv):runM m ms x y (l++k) L=runM m ms x y k (runM m ms x y l L):=List.foldl_append
theorem zZP (m:Int) (ms:List Im) (x y:Int) (o:Oq) (k:List Oq) (L:List Lv):runM m ms x y (o::k) L=runM m ms x y k (zJr m ms x y L o):=rfl
def zKw (m:Int) (ms:List Im) (x y:Int) (l:List Oq):Px:=
 let L:=runM m ms x y l [zXe]
 if 1 < L.length then .zero else resL m ((L[0]?).getD zXe)
def Fo.vf (bits:Int) (mn:Nat):List Oq→Fo→Prop
 | st,.nil=>True
 | st,.draw o r=>o.kind=1∧errO bits mn o st=0∧r.vf bits mn st
 | st,.grp o k r=>o.kind=2∧errO bits mn o st=0∧k.vf bits mn (st++[o])∧r.vf bits mn st
theorem zV2 {o:Oq} {st:List Oq} (h:o.kind=1):zXr o st=st:=by
 unfold zXr; rw [if_neg (by omega),if_neg (by omega)]
theorem zV1 {o:Oq} {st:List Oq} (h:o.kind=2):zXr o st=st++[o]:=by
 unfold zXr; rw [if_pos h]
theorem jYV {st:List Oq}:zXr popO st=st.dropLast:=by
 have h1:popO.kind=3:=rfl
 unfold zXr; rw [if_neg (by rw [h1]; decide),if_pos h1]
theorem zH6 {bits:Int} {mn:Nat}:∀ (f:Fo) (st st':List Oq),f.ok→okO bits mn f.flat st=some st'→f.vf bits mn st∧st'=st
 | .nil,st,st',_,h=>⟨trivial,by simpa [Fo.flat,okO] using h.symm⟩
 | .draw o r,st,st',hf,h=>by
  simp only [Fo.flat,okO] at h
  split at h
  ·rename_i he
   rw [zV2 hf.1] at h
   have ⟨h1,h2⟩:=zH6 r st st' hf.2 h
   exact ⟨⟨hf.1,he,h1⟩,h2⟩
  ·cases h
 | .grp o k r,st,st',hf,h=>by
  simp only [Fo.flat,okO] at h
  split at h
  ·rename_i he
   rw [zV1 hf.1,zJv] at h
   cases hk:okO bits mn k.flat (st++[o]) with
   | none=>rw [hk] at h; cases h
   | some s1=>
    rw [hk] at h
    have ⟨k1,k2⟩:=zH6 k (st++[o]) s1 hf.2.1 hk
    subst k2
    simp only [Option.bind_some,okO] at h
    split at h
    ·rw [jYV,List.dropLast_concat] at h
     have ⟨h1,h2⟩:=zH6 r st st' hf.2.2 h
     exact ⟨⟨hf.1,he,k1,h1⟩,h2⟩
    ·cases h
  ·cases h
theorem zHJ {bits:Int} {mn:Nat}:∀ (f:Fo) (st:List Oq),f.vf bits mn st→f.ok∧okO bits mn f.flat st=some st
 | .nil,st,_=>⟨trivial,rfl⟩
 | .draw o r,st,h=>by
  obtain ⟨h1,h2,h3⟩:=h
  have ⟨i1,i2⟩:=zHJ r st h3
  refine ⟨⟨h1,i1⟩,?_⟩
  simp only [Fo.flat,okO]
  rw [if_pos h2,zV2 h1]; exact i2
 | .grp o k r,st,h=>by
  obtain ⟨h1,h2,h3,h4⟩:=h
  have ⟨k1,k2⟩:=zHJ k (st++[o]) h3
  have ⟨i1,i2⟩:=zHJ r st h4
  refine ⟨⟨h1,k1,i1⟩,?_⟩
  simp only [Fo.flat,okO]
  rw [if_pos h2,zV1 h1,zJv,k2]
  simp only [Option.bind_some,okO]
  rw [if_pos (jZh (by simp)),jYV,List.dropLast_concat]; exact i2
theorem zZm {bits:Int} {mn:Nat} {o:Oq} {st:List Oq} (hk:o.kind=1∨o.kind=2) (h:errO bits mn o st=0) :
  (o.kind=1→0≤o.image∧o.image < mn)∧(0≤o.mask∧o.mask≤mn)∧(zXd o.x=true∧zXd o.y=true∧zXd o.mx=true∧zXd o.my=true)∧o.opac≤zQP bits∧isNm o.oper=true∧isNm o.mode=true∧(o.oper=4∨ctxB st=true)∧(o.kind=2→st.length < 64):=by
 unfold errO at h
 split at h
 ·cases h
 split at h
 ·cases h
 split at h
 ·omega
 split at h
 ·cases h
 rename_i hm
 split at h
 ·cases h
 rename_i hn
 split at h
 ·cases h
 split at h
 ·cases h
 rename_i h1
 split at h
 ·cases h
 rename_i h2
 split at h
 ·cases h
 rename_i h3
 split at h
 ·cases h
 rename_i h4
 refine ⟨fun q=>?_,?_,Decidable.not_not.1 hn,by omega,decide_eq_true (Decidable.not_not.1 h1),decide_eq_true (Decidable.not_not.1 h2),?_,fun q=>?_⟩
 ·omega
 ·omega
 ·by_cases q:o.oper=4
  ·exact .inl q
  ·refine .inr ?_
   cases hc:ctxB st with
   | true=>rfl
   | false=>exact absurd ⟨q,hc⟩ h3
 ·omega
structure zKg (m:Int) (ms:List Im):Prop where
  full:zZZ m=true
  px:∀ i∈ms,∀ x y,(i.at_ x y).ok m=true∧(i.at_ x y).nn
structure StOk (m:Int) (st:List Oq) (L:List Lv):Prop where
  ops:L.map Lv.op=zXe.op::st
  lv:∀ t∈L,LvOk m t.op.iso t.op.kno t.acc t.back
  opac:∀ o∈st,0≤o.opac∧o.opac≤m
theorem StOk.len {m:Int} {st:List Oq} {L:List Lv} (h:StOk m st L):L.length=st.length+1:=by
 have:=congrArg List.length h.ops
 simpa using this
theorem zZY (P:List Lv) (t:Lv):topL (P++[t])=t:=by simp [topL]
theorem StOk.split {m:Int} {st:List Oq} {L:List Lv} (h:StOk m st L):∃ P t,L=P++[t]:=by
 have:=h.len
 have hne:L≠[]:=by intro e; rw [e] at this; simp at this
 exact ⟨L.dropLast,L.getLast hne,(List.dropLast_concat_getLast hne).symm⟩
theorem jU5 {m:Int} {st:List Oq} {P:List Lv} {t:Lv} (h:StOk m st (P++[t])) (hc:ctxB st=true):t.op.iso=true∧t.op.kno=false:=by
 have e:=h.ops
 rw [List.map_append,List.map_cons,List.map_nil] at e
 cases st with
 | nil=>
  have:P.map Lv.op=[]∧t.op=zXe.op:=by
   cases hp:P.map Lv.op with
   | nil=>rw [hp] at e; simpa using e
   | cons a r=>rw [hp] at e; simp at e
  rw [this.2]; exact ⟨rfl,rfl⟩
 | cons a r=>
  have e2:(zXe.op::a::r).getLast?=some t.op:=by rw [← e]; simp
  rw [List.getLast?_cons_cons] at e2
  unfold ctxB at hc
  rw [e2] at hc
  simpa using hc
theorem zWJ (P:List Lv) (t u:Lv):(P++[t]).set ((P++[t]).length - 1) u=P++[u]:=by
 rw [List.length_append,List.length_singleton,Nat.add_sub_cancel,List.set_append_right _ _ (Nat.le_refl _),Nat.sub_self]; rfl
theorem jVb {m:Int} {ms:List Im} (h:zKg m ms) (i x y dx dy:Int):(zWm ms i x y dx dy).ok m=true∧(zWm ms i x y dx dy).nn:=by
 have z:=zVA (m:=m) (by have:=(zZG h.full).1; omega)
 unfold zWm
 split
 ·split
  ·rename_i im hi
   unfold jVd
   split
   ·exact z
   ·exact h.px _ (List.mem_of_getElem? hi) _ _
  ·exact z
 ·exact z
theorem jZz {m:Int} {ms:List Im} (h:zKg m ms) (o:Oq) (x y:Int):(srcS ms o x y).ok m=true∧(srcS ms o x y).nn:=by
 unfold srcS
 split
 ·exact jVb h _ _ _ _ _
 ·exact zVA (by have:=(zZG h.full).1; omega)
theorem zW0 {m:Int} {ms:List Im} (h:zKg m ms) (o:Oq) (x y:Int):0≤zKK ms o x y∧zKK ms o x y≤m:=by
 have hm:=(zZG h.full).1
 unfold zKK
 split
 ·obtain ⟨a,b,c,d⟩:=jVb h (o.mask - 1) x y o.mx o.my
  obtain ⟨q1,q2,q3,q4,q5⟩:=Px.ok_iff.1 a
  omega
 ·omega
theorem zKB {m:Int} {o:Oq} {p:Px} {mask:Int} (hf:zZZ m=true) (hp:p.ok m=true) (hn:p.nn) (h0:0≤mask) (h1:mask≤m) (o0:0≤o.opac) (o1:o.opac≤m) :
  zXg m o p mask=(zXz (zXz p (if o.mask=0 then m else mask) m) o.opac m,true)∧(zXg m o p mask).1.ok m=true∧(zXg m o p mask).1.nn:=by
 have hm:=(zZG hf).1
 have hk:0≤(if o.mask=0 then m else mask)∧(if o.mask=0 then m else mask)≤m:=by split <;> omega
 have ⟨a1,a2⟩:=jQB hm hp hn hk.1 hk.2
 have ⟨b1,b2⟩:=jQB hm a1 a2 o0 o1
 have e:zXg m o p mask=(zXz (zXz p (if o.mask=0 then m else mask) m) o.opac m,true):=by
  unfold zXg zXx zZr zYI
  rw [hf,hp,a1,decide_eq_true hk.2,decide_eq_true o1]
  rfl
 rw [e]
 exact ⟨rfl,b1,b2⟩
theorem zWW {m:Int} {st:List Oq} {P:List Lv} {t:Lv} (h:StOk m st (P++[t])) {o:Oq} {p:Px} (hp:p.ok m=true) (hn:p.nn) (h1:isNm o.oper=true) (h2:isNm o.mode=true) (hop:o.oper=4∨ctxB st=true) :
  zUk m (P++[t]) o p=true∧∃ x,zKl m (P++[t]) o p=P++[⟨t.op,x,t.back⟩]∧StOk m st (P++[⟨t.op,x,t.back⟩]):=by
 have ht:=h.lv t (by simp)
 have hc:o.oper=4∨(t.op.iso=true∧t.op.kno=false):=hop.imp id (jU5 h)
 have ⟨k1,k2⟩:=jUt ht hp hn h1 h2 hc
 have e:zUk m (P++[t]) o p=true:=by unfold zUk; rw [zZY]; exact k1
 refine ⟨e,accS t.op.kno o.oper o.mode m p t.acc t.back,?_,?_⟩
 ·unfold zKl
  rw [if_pos e,zZY,zWJ]
 ·refine ⟨by have:=h.ops; simpa using this,fun u hu=>?_,h.opac⟩
  rcases List.mem_append.1 hu with hu | hu
  ·exact h.lv u (by simp [hu])
  ·rw [List.mem_singleton.1 hu]; exact k2
theorem zH5 {m:Int} {st:List Oq} {P:List Lv} {t:Lv} (h:StOk m st (P++[t])) {o:Oq} (hn:zZw o.oper=true):zKl m (P++[t]) o .zero=P++[t]:=by
 unfold zKl
 split
 ·rename_i hb
  unfold zUk at hb
  rw [zZY] at hb
  have ht:=h.lv t (by simp)
  rw [zZY,jV3 hn ht.nn ht.kn hb,zWJ]
 ·rfl
theorem zG6 {m:Int} {bits:Int} {ms:List Im} {st:List Oq} {P:List Lv} {t:Lv} (hi:zKg m ms) (hb:zQP bits=m) (h:StOk m st (P++[t])) {o:Oq} (hk:o.kind=1) (h0:0≤o.opac) (he:errO bits ms.length o st=0) (x y:Int) :
  ∃ a,zJr m ms x y (P++[t]) o=P++[⟨t.op,a,t.back⟩]∧StOk m st (P++[⟨t.op,a,t.back⟩]):=by
 obtain ⟨_,_,_,f1,f2,f3,f4,_⟩:=zZm (.inl hk) he
 have ⟨s1,s2⟩:=jZz hi o x y
 have ⟨m1,m2⟩:=zW0 hi o x y
 obtain ⟨e,s3,s4⟩:=zKB (o:=o) hi.full s1 s2 m1 m2 h0 (by omega)
 obtain ⟨_,a,ha,hs⟩:=zWW h s3 s4 f2 f3 f4
 refine ⟨a,?_,hs⟩
 unfold zJr jWT
 rw [if_pos hk,if_pos ⟨hk,by rw [e]⟩]
 exact ha
theorem zV8 {m:Int} {bits:Int} {ms:List Im} {st:List Oq} {P:List Lv} {t:Lv} (hb:zQP bits=m) (h:StOk m st (P++[t])) {o:Oq} (hk:o.kind=2) (h0:0≤o.opac) (he:errO bits ms.length o st=0) (x y:Int) :
  zJr m ms x y (P++[t]) o=(P++[t])++[⟨o,(zQB o.iso t.op.kno t.acc t.back).1,(zQB o.iso t.op.kno t.acc t.back).2⟩]∧StOk m (st++[o]) ((P++[t])++[⟨o,(zQB o.iso t.op.kno t.acc t.back).1,(zQB o.iso t.op.kno t.acc t.back).2⟩]):=by
 obtain ⟨_,_,_,f1,f2,f3,f4,f5⟩:=zZm (.inr hk) he
 have hl:=h.len
 have f5:=f5 hk
 constructor
 ·unfold zJr jJX
  rw [if_neg (by omega),if_pos hk,if_pos ⟨hk,by omega⟩,zZY]
 ·refine ⟨?_,fun u hu=>?_,fun q hq=>?_⟩
  ·rw [List.map_append,h.ops]; rfl
  ·rcases List.mem_append.1 hu with hu | hu
   ·exact h.lv u hu
   ·rw [List.mem_singleton.1 hu]; exact jWY (h.lv t (by simp))
  ·rcases List.mem_append.1 hq with hq | hq
   ·exact h.opac q hq
   ·rw [List.mem_singleton.1 hq]; omega
theorem StOk.pre {m:Int} {st:List Oq} {o:Oq} {L:List Lv} {u:Lv} (h:StOk m (st++[o]) (L++[u])):u.op=o∧StOk m st L:=by
 have e:=h.ops
 rw [List.map_append,List.map_cons,List.map_nil,show zXe.op::(st++[o])=(zXe.op::st)++[o] from rfl] at e
 have ⟨e1,e2⟩:=List.append_inj' e rfl
 refine ⟨by simpa using e2,e1,fun t ht=>h.lv t (by simp [ht]),fun q hq=>h.opac q (by simp [hq])⟩
theorem jZW {m:Int} {ms:List Im} {st:List Oq} {o:Oq} {P:List Lv} {t u:Lv} (hi:zKg m ms) (h:StOk m (st++[o]) ((P++[t])++[u])) (h1:isNm o.oper=true) (h2:isNm o.mode=true) (hop:o.oper=4∨ctxB st=true) (x y:Int) :
  zJr m ms x y ((P++[t])++[u]) popO=zKl m (P++[t]) o (zXg m o (zZU u.acc u.back m) (zKK ms o x y)).1∧∃ a,zKl m (P++[t]) o (zXg m o (zZU u.acc u.back m) (zKK ms o x y)).1=P++[⟨t.op,a,t.back⟩]∧StOk m st (P++[⟨t.op,a,t.back⟩]):=by
 obtain ⟨eo,hs⟩:=h.pre
 have hu:=h.lv u (by simp)
 have ⟨r1,r2⟩:=zGm hu
 have ⟨m1,m2⟩:=zW0 hi o x y
 have ⟨o1,o2⟩:=h.opac o (by simp)
 obtain ⟨e,s3,s4⟩:=zKB (o:=o) hi.full r1 r2 m1 m2 o1 o2
 obtain ⟨pb,a,ha,hs2⟩:=zWW hs s3 s4 h1 h2 hop
 have rb:resB m u=true:=hu.ok
 have rl:resL m u=zZU u.acc u.back m:=by unfold resL; rw [if_pos rb]
 refine ⟨?_,a,ha,hs2⟩
 have k3:popO.kind=3:=rfl
 unfold zJr popL
 rw [if_neg (by rw [k3]; decide),if_neg (by rw [k3]; decide),if_pos k3,if_neg (by simp),zZY,eo,rl,if_neg (by rw [e]; simp),List.dropLast_concat,rb,pb]
 rfl
theorem zK0 {m:Int} {bits:Int} {ms:List Im} (hi:zKg m ms) (hb:zQP bits=m) (x y:Int):∀ (f:Fo) (st:List Oq) (P:List Lv) (t:Lv),f.vf bits ms.length st→(∀ o∈f.flat,0≤o.opac)→StOk m st (P++[t]) →
  ∃ a,runM m ms x y f.flat (P++[t])=P++[⟨t.op,a,t.back⟩]∧StOk m st (P++[⟨t.op,a,t.back⟩])
 | .nil,st,P,t,_,_,h=>⟨t.acc,rfl,h⟩
 | .draw o r,st,P,t,hv,ho,h=>by
  obtain ⟨a,e,h1⟩:=zG6 hi hb h hv.1 (ho o (by simp [Fo.flat])) hv.2.1 x y
  obtain ⟨b,e2,h2⟩:=zK0 hi hb x y r st P _ hv.2.2 (fun q hq=>ho q (by simp [Fo.flat,hq])) h1
  exact ⟨b,by rw [Fo.flat,zZP,e,e2],h2⟩
 | .grp o k r,st,P,t,hv,ho,h=>by
  obtain ⟨h1,h2,h3,h4⟩:=hv
  obtain ⟨e1,s1⟩:=zV8 hb h h1 (ho o (by simp [Fo.flat])) h2 x y (ms:=ms)
  obtain ⟨b,e2,s2⟩:=zK0 hi hb x y k (st++[o]) (P++[t]) _ h3 (fun q hq=>ho q (by simp [Fo.flat,hq])) s1
  obtain ⟨_,_,_,_,f2,f3,f4,_⟩:=zZm (.inr h1) h2
  obtain ⟨e3,a,e4,s3⟩:=jZW hi s2 f2 f3 f4 x y
  obtain ⟨c,e5,s4⟩:=zK0 hi hb x y r st P _ h4 (fun q hq=>ho q (by simp [Fo.flat,hq])) s3
  refine ⟨c,?_,s4⟩
  rw [Fo.flat,zZP,e1,zYO,e2,zZP,e3,e4,e5]
theorem jYL {m:Int} (hf:zZZ m=true):StOk m [] ([]++[zXe]):=by
 have hm:=(zZG hf).1
 refine ⟨rfl,fun t ht=>?_,fun o ho=>by simp at ho⟩
 rw [List.nil_append] at ht
 rw [List.mem_singleton.1 ht]
 exact ⟨Ac.ok_iff.2 ⟨⟨by decide,by decide,by decide⟩,hf,⟨by decide,by decide,by show 0≤m; omega,by show 0≤m; omega⟩,(zVA (by omega)).1,rfl⟩,⟨by decide,by decide,by decide,by decide⟩,(zVA (m:=m) (by omega)).2,fun _ _=>rfl⟩
def exOk (ph q r d:Int):Bool:=decide (ph < 4294967296) && (decide (q < 70368744177664) && (decide (r < 8589934592) && decide (1≤d)))
def Ex.zero:Ex:=⟨0,0,0,0⟩
def blK (mode s a d b:Int):Bool:=isNm mode && (decide (s≤a) && decide (d≤b))
def blE (mode s a d b:Int):Ex:=if blK mode s a d b then zQr mode s a d b else .zero
def fcK (op a b m:Int):Bool:=isNm op && (decide (a≤m) && decide (b≤m))
def fcA (op a b m:Int):Int:=if fcK op a b m then facA op a b m else 0
def fcB (op a b m:Int):Int:=if fcK op a b m then facB op a b m else 0
def vlK (op mode m s a d b:Int):Bool:=blK mode s a d b && (fcK op a b m && zZZ m)
def vlE (op mode m s a d b:Int):Ex:=if vlK op mode m s a d b then valS op mode m s a d b else .zero
def zX0 (kno:Bool) (op mode m:Int) (p:Px) (x:Ac) (k:Px):Ac:=if zZN kno op mode m p x k then accS kno op mode m p x k else .zero
def resE (x:Ac) (k:Px) (m:Int):Px:=if x.ok k m then zZU x k m else .zero
def Ac.ds (x:Ac):List DV:=[.int .u16 x.a,.int .u16 x.b,.int .u16 x.c,.int .u16 x.al,.int .u16 x.own,.int .u16 x.f]
def Lv.cells (t:Lv):List DV:=t.op.cells++(t.acc.ds++t.back.ds)
theorem zW8 {m:Int} (h:zZZ m=true):m=255∨m=65535:=of_decide_eq_true h
theorem zVQ {mode s a d b:Int} (h0:0≤s) (h1:s≤a) (h2:0≤d) (h3:d≤b) (ha:a≤65535) (hb:b≤65535) :
  let t:=zQr mode s a d b
  t.ok∧t.d≤4294836225∧t.p≤4294836225*4294836225∧t.q≤65535∧t.r≤4294836225:=by
 have hu:=zZx (mode:=mode) h0 h1 h2 h3
 have small:∀ n:Int,(zZl n).d≤4294836225∧(zZl n).q≤65535∧(zZl n).r≤4294836225:=fun n=>⟨by simp [zZl],by simp [zZl],by simp [zZl]⟩
 have mk:∀ p q r e:Int,e≤65535→q≤65535→r≤4294836225→(⟨p,q,r,e⟩:Ex).d≤4294836225∧(⟨p,q,r,e⟩:Ex).q≤65535∧(⟨p,q,r,e⟩:Ex).r≤4294836225:=fun p q r e x y z=>⟨by simp only; omega,y,z⟩
 have db:=zQg h2 (show d≤65535 by omega) (show 0≤b by omega) hb
 have bb:=zQg (show 0≤b by omega) hb (show 0≤b by omega) hb
 have soft:(zJT s a d b).d≤4294836225∧(zJT s a d b).q≤65535∧(zJT s a d b).r≤4294836225:=by
  unfold zJT
  split
  ·exact mk _ _ _ _ (by omega) (by omega) (by omega)
  split
  ·exact mk _ _ _ _ (by omega) (by omega) (by omega)
  split
  ·exact ⟨by simp only; omega,by simp only; omega,by simp only; omega⟩
  ·exact mk _ _ _ _ (by omega) (by omega) (by omega)
 have key:∀ (c:Prop) [Decidable c] (x y:Ex),(x.d≤4294836225∧x.q≤65535∧x.r≤4294836225)→(y.d≤4294836225∧y.q≤65535∧y.r≤4294836225)→((if c then x else y).d≤4294836225∧(if c then x else y).q≤65535∧(if c then x else y).r≤4294836225):=fun c _ x y hx hy=>by split <;> assumption
 have all:(zQr mode s a d b).d≤4294836225∧(zQr mode s a d b).q≤65535∧(zQr mode s a d b).r≤4294836225:=by
  unfold zQr
  repeat' (first | exact small _ | exact soft | exact mk _ _ _ _ (by omega) (by omega) (by omega) | refine key _ _ _ ?_ ?_)
 have ab:=zQg (show 0≤a by omega) ha (show 0≤b by omega) hb
 have pp:=zQg (x:=a*b) (y:=(zQr mode s a d b).d) (A:=4294836225) (B:=4294836225) ab.1 (by omega) (by have:=hu.ok.d; omega) all.1
 have:=hu.p
 exact ⟨hu.ok,all.1,by omega,all.2.1,all.2.2⟩
theorem jGd {n:Int} (h0:0≤n) (h1:n < 4294967296):((BitVec.ofInt 32 n &&& BitVec.ofInt 32 255).toNat:Int)=n % 256:=by
 obtain ⟨k,rfl⟩:=Int.eq_ofNat_of_zero_le h0
 have hk:k < 4294967296:=by omega
 have e1:BitVec.ofInt 32 (k:Int)=BitVec.ofNat 32 k:=by simp
 have e2:BitVec.ofInt 32 255=BitVec.ofNat 32 255:=by decide
 rw [e1,e2,BitVec.toNat_and,BitVec.toNat_ofNat,BitVec.toNat_ofNat,Nat.mod_eq_of_lt hk]
 have:k &&& 255=k % 256:=Nat.and_two_pow_sub_one_eq_mod k 8
 rw [show 255 % 2 ^ 32=255 from rfl,this]
 omega
theorem jW2 {n:Int} (h0:0≤n) (h1:n < 18446744073709551616):((BitVec.ofInt 64 n &&& BitVec.ofInt 64 65535).toNat:Int)=n % 65536:=by
 obtain ⟨k,rfl⟩:=Int.eq_ofNat_of_zero_le h0
 have hk:k < 18446744073709551616:=by omega
 have e1:BitVec.ofInt 64 (k:Int)=BitVec.ofNat 64 k:=by simp
 have e2:BitVec.ofInt 64 65535=BitVec.ofNat 64 65535:=by decide
 rw [e1,e2,BitVec.toNat_and,BitVec.toNat_ofNat,BitVec.toNat_ofNat,Nat.mod_eq_of_lt hk]
 have:k &&& 65535=k % 65536:=Nat.and_two_pow_sub_one_eq_mod k 16
 rw [show 65535 % 2 ^ 64=65535 from rfl,this]
 omega
theorem jVv {q r:Int} (h0:0≤r) (h1:r≤255):zQE (q*255+r) 255=if 128≤r then q+1 else q:=by
 rw [zJo (by decide)]
 split <;> omega
theorem jXm {q r:Int} (h0:0≤r) (h1:r≤65535):zQE (q*65535+r) 65535=if 32768≤r then q+1 else q:=by
 rw [zJo (by decide)]
 split <;> omega
theorem jWp {m i:Nat} (hi:i < 64) (h:(m+1)*2 ^ (i+1)≤2 ^ 64):(BitVec.ofInt 64 ((m*2 ^ (i+1):Nat):Int) ||| BitVec.ofInt 64 ((2 ^ i:Nat):Int)).toNat=m*2 ^ (i+1)+2 ^ i:=by
 have p0:2 ^ i < 2 ^ 64:=Nat.pow_lt_pow_right (by decide) (by omega)
 have p1:m*2 ^ (i+1) < 2 ^ 64:=by
  have:=Nat.two_pow_pos (i+1)
  rw [Nat.add_mul] at h
  omega
 have e1:∀ k:Nat,BitVec.ofInt 64 (k:Int)=BitVec.ofNat 64 k:=fun k=>by simp
 rw [e1,e1,BitVec.toNat_or,BitVec.toNat_ofNat,BitVec.toNat_ofNat,Nat.mod_eq_of_lt p0,Nat.mod_eq_of_lt p1]
 have:=Nat.two_pow_add_eq_or_of_lt (i:=i+1) (b:=2 ^ i) (Nat.pow_lt_pow_right (by decide) (by omega)) m
 rw [Nat.mul_comm]
 exact this.symm
theorem jYK {f k:Nat} (hf:f < 2 ^ 64) (hk:k < 64) :
  (BitVec.ofInt 64 ((f / 2 ^ (k+1)*2 ^ (k+1):Nat):Int) ||| BitVec.ofInt 64 ((2 ^ k:Nat):Int)).toNat=f / 2 ^ (k+1)*2 ^ (k+1)+2 ^ k∧f / 2 ^ (k+1)*2 ^ (k+1)+2 ^ k < 2 ^ 64 ∧
  (f / 2 ^ (k+1)*2 ^ (k+1)+2 ^ k≤f→f / 2 ^ k*2 ^ k=f / 2 ^ (k+1)*2 ^ (k+1)+2 ^ k)∧(f < f / 2 ^ (k+1)*2 ^ (k+1)+2 ^ k→f / 2 ^ k*2 ^ k=f / 2 ^ (k+1)*2 ^ (k+1)):=by
 have p:=Nat.two_pow_pos k
 have e2:2 ^ (k+1)=2 ^ k*2:=Nat.pow_succ 2 k
 have h64:(f / 2 ^ (k+1)+1)*2 ^ (k+1)≤2 ^ 64:=by
  have e:2 ^ 64=2 ^ (63 - k)*2 ^ (k+1):=by rw [← Nat.pow_add]; congr 1; omega
  rw [e] at hf ⊢
  exact Nat.mul_le_mul_right _ ((Nat.div_lt_iff_lt_mul (Nat.two_pow_pos _)).2 hf)
 have hlt:f / 2 ^ (k+1)*2 ^ (k+1)+2 ^ k < 2 ^ 64:=by
  rw [Nat.add_mul,Nat.one_mul] at h64
  omega
 refine ⟨jWp hk h64,hlt,?_⟩
 clear hlt h64
 rw [e2,← Nat.div_div_eq_div_mul]
 have h1:=Nat.div_add_mod f (2 ^ k)
 have h2:=Nat.mod_lt f p
 have h3:=Nat.div_add_mod (f / 2 ^ k) 2
 have h4:=Nat.mod_lt (f / 2 ^ k) (show 0 < 2 by decide)
 generalize f / 2 ^ k=g at *
 generalize f % 2 ^ k=r at *
 generalize 2 ^ k=P at *
 have e5:g / 2*(P*2)=P*(g / 2)*2:=by grind
 rcases Nat.mod_two_eq_zero_or_one g with h | h
 ·have hg:g=2*(g / 2):=by omega
  have e6:g*P=P*(g / 2)*2:=by rw [hg]; grind
  have e7:P*g=g*P:=Nat.mul_comm _ _
  rw [e5,e6]
  constructor <;> intro q <;> omega
 ·have hg:g=2*(g / 2)+1:=by omega
  have e6:g*P=P*(g / 2)*2+P:=by
   generalize g / 2=c at *
   subst hg; grind
  have e7:P*g=g*P:=Nat.mul_comm _ _
  rw [e5,e6]
  constructor <;> intro q <;> omega
structure DgOk (v1 v0 u w q r:Int):Prop where
  hr:r=u - q*v1
  lo:(u*4294967296+w) / (v1*4294967296+v0)≤q
  hi:q≤4294967297
  r0:0≤r
  r1:r < 4294967296
structure DvOk (v1 v0 u w:Int):Prop where
  a0:2147483648≤v1
  a1:v1 < 4294967296
  b0:0≤v0
  b1:v0 < 4294967296
  u0:0≤u
  u1:u < v1*4294967296+v0
  w0:0≤w
  w1:w < 4294967296
theorem DvOk.dig {v1 v0 u w:Int} (h:DvOk v1 v0 u w):0≤(u*4294967296+w) / (v1*4294967296+v0)∧(u*4294967296+w) / (v1*4294967296+v0) < 4294967296:=by
 obtain ⟨a0,a1,b0,b1,u0,u1,w0,w1⟩:=h
 refine ⟨Int.ediv_nonneg (by omega) (by omega),Int.ediv_lt_of_lt_mul (by omega) (by omega)⟩
theorem DvOk.start {v1 v0 u w:Int} (h:DvOk v1 v0 u w):DgOk v1 v0 u w (u / v1) (u - u / v1*v1):=by
 obtain ⟨a0,a1,b0,b1,u0,u1,w0,w1⟩:=h
 have e1:=Int.emod_add_mul_ediv u v1
 have e2:=Int.emod_nonneg u (b:=v1) (by omega)
 have e3:=Int.emod_lt_of_pos u (show 0 < v1 by omega)
 have e4:u / v1*v1=v1*(u / v1):=Int.mul_comm _ _
 refine ⟨rfl,?_,?_,by omega,by omega⟩
 ·apply Int.le_of_lt_add_one
  apply Int.ediv_lt_of_lt_mul (by omega)
  generalize u / v1=q at *
  generalize u % v1=r at *
  have hq:0≤q:=by
   apply Int.not_lt.1
   intro hlt
   have:v1*q≤v1*(-1):=Int.mul_le_mul_of_nonneg_left (by omega) (by omega)
   omega
  have:0≤q*v0:=Int.mul_nonneg hq b0
  have e5:(q+1)*(v1*4294967296+v0)=v1*q*4294967296+v1*4294967296+q*v0+v0:=by grind
  rw [e5]
  omega
 ·apply Int.le_of_lt_add_one
  apply Int.ediv_lt_of_lt_mul (by omega)
  omega
theorem DgOk.over {v1 v0 u w q r:Int} (hv:DvOk v1 v0 u w) (h:DgOk v1 v0 u w q r):(q*v0 > 4294967296*r+w↔(u*4294967296+w) / (v1*4294967296+v0) < q):=by
 obtain ⟨a0,a1,b0,b1,u0,u1,w0,w1⟩:=hv
 have e:=h.hr
 rw [Int.ediv_lt_iff_lt_mul (by omega)]
 have:q*(v1*4294967296+v0)=q*v1*4294967296+q*v0:=by grind
 rw [this]
 generalize q*v1=A at *
 generalize q*v0=B at *
 omega
theorem DgOk.pos {v1 v0 u w q r:Int} (hv:DvOk v1 v0 u w) (h:DgOk v1 v0 u w q r):0≤q:=by
 have:=hv.dig.1
 have:=h.lo
 omega
theorem DgOk.sizes {v1 v0 u w q r:Int} (hv:DvOk v1 v0 u w) (h:DgOk v1 v0 u w q r):0≤q*v0∧q*v0 < 18446744073709551616∧0≤4294967296*r+w∧4294967296*r+w < 18446744073709551616:=by
 have hq:=h.pos hv
 have h1:=h.hi
 have h2:=h.r0
 have h3:=h.r1
 have:=zQg hq h1 hv.b0 (show v0≤4294967295 by have:=hv.b1; omega)
 have:=hv.w0
 have:=hv.w1
 omega
theorem DgOk.next {v1 v0 u w q r:Int} (hv:DvOk v1 v0 u w) (h:DgOk v1 v0 u w q r) (hc:q≥4294967296∨q*v0 > 4294967296*r+w) (hr:r+v1 < 4294967296):DgOk v1 v0 u w (q - 1) (r+v1):=by
 have hd:=hv.dig
 have ho:=h.over hv
 have hl:=h.lo
 have hh:=h.hi
 have hr0:=h.r0
 have a0:=hv.a0
 refine ⟨by have:=h.hr; grind,?_,by omega,by omega,hr⟩
 rcases hc with hc | hc
 ·omega
 ·have:=ho.1 hc
  omega
theorem DgOk.done {v1 v0 u w q r:Int} (hv:DvOk v1 v0 u w) (h:DgOk v1 v0 u w q r) (hc:¬ (q≥4294967296∨q*v0 > 4294967296*r+w)):q=(u*4294967296+w) / (v1*4294967296+v0):=by
 have ho:=h.over hv
 have hl:=h.lo
 have:=fun h=>hc (.inr (ho.2 h))
 omega
theorem DgOk.last {v1 v0 u w q r:Int} (hv:DvOk v1 v0 u w) (h:DgOk v1 v0 u w q r) (hc:q≥4294967296∨q*v0 > 4294967296*r+w) (hr:r+v1≥4294967296):q - 1=(u*4294967296+w) / (v1*4294967296+v0):=by
 have hd:=hv.dig
 have ho:=h.over hv
 have hl:=h.lo
 have hh:=h.hi
 have hq:=h.pos hv
 have h1:(u*4294967296+w) / (v1*4294967296+v0)≤q - 1:=by
  rcases hc with hc | hc
  ·omega
  ·have:=ho.1 hc
   omega
 have h2:q - 1≤(u*4294967296+w) / (v1*4294967296+v0):=by
  rw [Int.le_ediv_iff_mul_le (by have:=hv.a0; have:=hv.b0; omega)]
  have e:=h.hr
  have e1:(q - 1)*(v1*4294967296+v0)=(q*v1 - v1)*4294967296+(q - 1)*v0:=by grind
  rw [e1]
  have:=zQg (x:=q - 1) (A:=4294967296) (y:=v0) (B:=4294967295) (by omega) (by omega) hv.b0 (by have:=hv.b1; omega)
  have:=hv.w0
  generalize q*v1=A at *
  generalize (q - 1)*v0=B at *
  omega
 omega
theorem jJK {v u a b:Int} (hv:0 < v) :
  (u*4294967296+a) / v*4294967296+(((u*4294967296+a) - (u*4294967296+a) / v*v)*4294967296+b) / v=(u*18446744073709551616+a*4294967296+b) / v ∧
  ((u*4294967296+a) - (u*4294967296+a) / v*v)*4294967296+b - (((u*4294967296+a) - (u*4294967296+a) / v*v)*4294967296+b) / v*v=(u*18446744073709551616+a*4294967296+b) % v:=by
 have e:u*18446744073709551616+a*4294967296+b=((u*4294967296+a) - (u*4294967296+a) / v*v)*4294967296+b+v*((u*4294967296+a) / v*4294967296):=by grind
 have e2:∀ x:Int,x - x / v*v=x % v:=fun x=>by rw [Int.emod_def,Int.mul_comm]
 rw [e,Int.add_mul_ediv_left _ _ (by omega),Int.add_mul_emod_self_left]
 refine ⟨by omega,e2 _⟩
theorem jJO {a y k:Int} (hk:0 < k):(a*k) / (y*k)=a / y∧(a*k) % (y*k) / k=a % y:=by
 refine ⟨Int.mul_ediv_mul_of_pos_left _ _ hk,?_⟩
 rw [Int.emod_def,Int.mul_ediv_mul_of_pos_left _ _ hk,Int.emod_def,show a*k - y*k*(a / y)=(a - y*(a / y))*k by grind,Int.mul_ediv_cancel _ (by omega)]
def lenS (x:Int):Int:=if x≤0 then 0 else (Nat.log2 x.toNat:Int)+1
theorem jZ8 {y:Int} (h0:1≤y) (h1:y < 18446744073709551616):∃ s:Nat,64 - lenS y=s∧s≤63∧9223372036854775808≤y*2 ^ s∧y*2 ^ s < 18446744073709551616:=by
 obtain ⟨n,rfl⟩:=Int.eq_ofNat_of_zero_le (show 0≤y by omega)
 have hn:n≠0:=by omega
 have a1:=Nat.log2_self_le hn
 have a2:=@Nat.lt_log2_self n
 have a3:n.log2 < 64:=(Nat.log2_lt hn).2 (by omega)
 refine ⟨63 - n.log2,?_,by omega,?_,?_⟩
 ·unfold lenS
  rw [if_neg (by omega),Int.toNat_natCast]
  omega
 ·have e:2 ^ n.log2*2 ^ (63 - n.log2)=2 ^ 63:=by rw [← Nat.pow_add]; congr 1; omega
  have:2 ^ n.log2*2 ^ (63 - n.log2)≤n*2 ^ (63 - n.log2):=Nat.mul_le_mul_right _ a1
  rw [e] at this
  have h:((2 ^ 63:Nat):Int)≤((n*2 ^ (63 - n.log2):Nat):Int):=by exact_mod_cast this
  simpa using h
 ·have e:2 ^ (n.log2+1)*2 ^ (63 - n.log2)=2 ^ 64:=by rw [← Nat.pow_add]; congr 1; omega
  have:n*2 ^ (63 - n.log2) < 2 ^ (n.log2+1)*2 ^ (63 - n.log2):=Nat.mul_lt_mul_of_pos_right a2 (Nat.two_pow_pos _)
  rw [e] at this
  have h:((n*2 ^ (63 - n.log2):Nat):Int) < ((2 ^ 64:Nat):Int):=by exact_mod_cast this
  simpa using h
theorem zW1 {x:Int} (k:Nat) (h:2 ^ k≤x):lenS x=k+lenS (x / 2 ^ k):=by
 have hp:(0:Int) < 2 ^ k:=Int.pow_pos (by decide)
 obtain ⟨n,rfl⟩:=Int.eq_ofNat_of_zero_le (show 0≤x by omega)
 have h':2 ^ k≤n:=by exact_mod_cast h
 have hp':=Nat.two_pow_pos k
 have hn:n≠0:=by omega
 have hq:n / 2 ^ k≠0:=by
  have:=Nat.div_pos h' hp'
  omega
 have e:((n:Int) / 2 ^ k)=((n / 2 ^ k:Nat):Int):=by simp
 rw [e]
 have hq2:¬ ((n / 2 ^ k:Nat):Int)≤0:=Int.not_le.2 (Int.natCast_pos.2 (Nat.pos_of_ne_zero hq))
 unfold lenS
 rw [if_neg (by omega),if_neg hq2,Int.toNat_natCast,Int.toNat_natCast]
 have a1:=Nat.log2_self_le hq
 have a2:=@Nat.lt_log2_self (n / 2 ^ k)
 have:n.log2=(n / 2 ^ k).log2+k:=by
  rw [Nat.log2_eq_iff hn]
  refine ⟨?_,?_⟩
  ·rw [Nat.pow_add]
   exact Nat.le_trans (Nat.mul_le_mul_right _ a1) (Nat.div_mul_le_self _ _)
  ·rw [show (n / 2 ^ k).log2+k+1=((n / 2 ^ k).log2+1)+k by omega,Nat.pow_add]
   exact (Nat.div_lt_iff_lt_mul hp').1 a2
 omega
def orI:List DV→Int
 | .int _ a::l=>if a=0 then orI l else a
 | _=>0
theorem jGI {a b c d:Int} (h0:0≤b) (h1:b < 18446744073709551616) (h2:0≤d) (h3:d < 18446744073709551616) (k k':IntKind):orI [.int k (cmpI a c),.int k' (cmpI b d)]=cmpI (wV a b) (wV c d):=by
 unfold orI orI orI cmpI wV
 grind
structure Dv where
  v1:Int
  v0:Int
  u:Int
  w1:Int
  w0:Int
  s:Nat
structure Dv.is (D:Dv) (hi lo y:Int):Prop where
  v:y*2 ^ D.s=D.v1*4294967296+D.v0
  n:wV hi lo*2 ^ D.s=D.u*18446744073709551616+D.w1*4294967296+D.w0
  ok:DvOk D.v1 D.v0 D.u D.w1
  a:0≤D.w0
  b:D.w0 < 4294967296
  s63:D.s≤63
theorem jGt {s:Nat} {a b:Int} (hs:s≤64) (ha:0≤a) (h:a*2 ^ s < 18446744073709551616) (hb:0≤b) (h1:b < 2 ^ s):((BitVec.ofInt 64 (a*2 ^ s) ||| BitVec.ofInt 64 b).toNat:Int)=a*2 ^ s+b∧a*2 ^ s+b < 18446744073709551616:=by
 obtain ⟨m,rfl⟩:=Int.eq_ofNat_of_zero_le ha
 obtain ⟨n,rfl⟩:=Int.eq_ofNat_of_zero_le hb
 have e:(m:Int)*2 ^ s=((m*2 ^ s:Nat):Int):=by simp
 rw [e] at h ⊢
 have h1:n < 2 ^ s:=by exact_mod_cast h1
 have h2:m*2 ^ s < 2 ^ 64:=by
  have:((m*2 ^ s:Nat):Int) < ((2 ^ 64:Nat):Int):=by simpa using h
  exact_mod_cast this
 have h4:m*2 ^ s+n < 2 ^ 64:=by
  have e2:2 ^ 64=2 ^ (64 - s)*2 ^ s:=by rw [← Nat.pow_add]; congr 1; omega
  rw [e2] at h2 ⊢
  have h3:m < 2 ^ (64 - s):=Nat.lt_of_mul_lt_mul_right h2
  have:(m+1)*2 ^ s≤2 ^ (64 - s)*2 ^ s:=Nat.mul_le_mul_right _ h3
  rw [Nat.add_mul] at this
  omega
 have e1:∀ k:Nat,BitVec.ofInt 64 (k:Int)=BitVec.ofNat 64 k:=fun k=>by simp
 rw [e1,e1,BitVec.toNat_or,BitVec.toNat_ofNat,BitVec.toNat_ofNat,Nat.mod_eq_of_lt h2,Nat.mod_eq_of_lt (show n < 2 ^ 64 by omega)]
 have:=Nat.two_pow_add_eq_or_of_lt (i:=s) (b:=n) h1 m
 rw [Nat.mul_comm m,← this,Nat.mul_comm]
 have h4:((m*2 ^ s+n:Nat):Int) < ((2 ^ 64:Nat):Int):=by exact_mod_cast h4
 refine ⟨by simp,by simpa using h4⟩
theorem jWR {hi lo y:Int} {s:Nat} (h0:0≤hi) (h1:hi < y) (l0:0≤lo) (l1:lo < 18446744073709551616) (hs:s≤63) (y1:9223372036854775808≤y*2 ^ s) (y2:y*2 ^ s < 18446744073709551616) :
  0≤lo / 2 ^ (64 - s)∧lo / 2 ^ (64 - s) < 2 ^ s∧hi*2 ^ s < 18446744073709551616∧0≤lo*2 ^ s ∧
  Dv.is ⟨y*2 ^ s / 4294967296,y*2 ^ s % 4294967296,hi*2 ^ s+lo / 2 ^ (64 - s),lo*2 ^ s % 18446744073709551616 / 4294967296,lo*2 ^ s % 18446744073709551616 % 4294967296,s⟩ hi lo y:=by
 have hp:(0:Int) < 2 ^ s:=Int.pow_pos (by decide)
 have hq:(0:Int) < 2 ^ (64 - s):=Int.pow_pos (by decide)
 have e:(2:Int) ^ (64 - s)*2 ^ s=18446744073709551616:=by
  rw [← Int.pow_add,show 64 - s+s=64 by omega]; rfl
 have b1:lo / 2 ^ (64 - s) < 2 ^ s:=Int.ediv_lt_of_lt_mul hq (by rw [Int.mul_comm,e]; exact l1)
 have b0:0≤lo / 2 ^ (64 - s):=Int.ediv_nonneg l0 (by omega)
 have c1:lo*2 ^ s / 18446744073709551616=lo / 2 ^ (64 - s):=by rw [← e]; exact Int.mul_ediv_mul_of_pos_left _ _ hp
 have c2:=Int.emod_add_mul_ediv (lo*2 ^ s) 18446744073709551616
 rw [c1] at c2
 have l2:0≤lo*2 ^ s:=Int.mul_nonneg l0 (by omega)
 have m1:hi*2 ^ s+2 ^ s≤y*2 ^ s:=by
  have:(hi+1)*2 ^ s≤y*2 ^ s:=Int.mul_le_mul_of_nonneg_right (by omega) (by omega)
  rw [Int.add_mul,Int.one_mul] at this
  exact this
 have m0:0≤hi*2 ^ s:=Int.mul_nonneg h0 (by omega)
 have nn:wV hi lo*2 ^ s=hi*2 ^ s*18446744073709551616+lo*2 ^ s:=by unfold wV; grind
 refine ⟨b0,b1,by omega,l2,⟨by simp only; omega,?_,⟨by simp only; omega,by simp only; omega,by simp only; omega,by simp only; omega,by simp only; omega,by simp only; omega,by simp only; omega,by simp only; omega⟩,by simp only; omega,by simp only; omega,hs⟩⟩
 simp only
 rw [nn]
 generalize lo / 2 ^ (64 - s)=L at *
 generalize lo*2 ^ s=X at *
 generalize hi*2 ^ s=H at *
 omega
def upB (x:Ex) (f:Int):Bool:=decide ((2*f+1)*x.d≤x.up 2)
theorem jKu {x:Ex} (h:x.ok) {k:Int} (hk:0≤k):k+2*x.p≤x.up 2↔k*k≤4*(x.q*x.q*x.r):=by
 have hn:0≤x.q*x.q*x.r:=Int.mul_nonneg (zZe _) h.r
 have e2:(2*x.q)*(2*x.q)*x.r=4*(x.q*x.q*x.r):=by grind
 unfold Ex.up
 rw [e2,← jQ3 (by omega) hk]
 omega
theorem jGl {x:Ex} (h:x.ok) {n:Int} (hk:n < 2*x.p):n≤x.up 2:=by
 have hn:0≤x.q*x.q*x.r:=Int.mul_nonneg (zZe _) h.r
 have e2:(2*x.q)*(2*x.q)*x.r=4*(x.q*x.q*x.r):=by grind
 unfold Ex.up
 rw [e2]
 have:=(zYW (n:=4*(x.q*x.q*x.r)) (by omega)).1
 omega
theorem jKv {x:Ex} (h:x.ok) {m:Int} (hm:0≤m):2*m+2*x.p≤x.up 2↔m*m≤x.q*x.q*x.r:=by
 rw [jKu h (by omega)]
 have:2*m*(2*m)=4*(m*m):=by grind
 omega
theorem jGk {x:Ex} (h:x.ok) {m:Int} (hm:0≤m):2*m+1+2*x.p≤x.up 2↔m*m+m < x.q*x.q*x.r:=by
 rw [jKu h (by omega)]
 have:(2*m+1)*(2*m+1)=4*(m*m)+4*m+1:=by grind
 omega
theorem jGm {x:Ex} (h:x.ok) {m:Int} (hm:18446744073709551616≤m) (hs:x.q*x.q*x.r < 340282366920938463463374607431768211456):¬ 2*m+2*x.p≤x.up 2:=by
 rw [jKv h (by omega)]
 have:(18446744073709551616:Int)*18446744073709551616≤m*m:=Int.mul_le_mul hm hm (by decide) (by omega)
 omega
def zKS (s a d b:Int):Ex:=if d=0 then zZl 0 else if d*a≥b*(a - s) then zZl (a*b) else ⟨a*a*d,0,0,a - s⟩
def zUb (s a d b:Int):Ex:=if d=b then zZl (a*b) else if (b - d)*a≥s*b then zZl 0 else ⟨a*b*s - (b - d)*a*a,0,0,s⟩
def zUK (s a d b:Int) (tw:Bool):Int:=if tw then 2*s*d else a*b - 2*(b - d)*(a - s)
theorem jYC (s a d b:Int):zUK s a d b (decide (2*s≤a))=zVJ s a d b:=by
 unfold zUK zVJ
 by_cases h:2*s≤a
 ·rw [if_pos h,if_pos (decide_eq_true h)]
 ·rw [if_neg h,if_neg (by simpa using h)]
theorem jYD (s a d b:Int):zUK s a d b (decide (2*d≤b))=zVJ d b s a:=by
 unfold zUK zVJ
 by_cases h:2*d≤b
 ·rw [if_pos h,if_pos (decide_eq_true h)]; grind
 ·rw [if_neg h,if_neg (by simpa using h)]; grind
def facF (f a m:Int):Int:=if f=1 then m else if f=2 then a else if f=3 then m - a else 0
theorem jGH {op:Int} (h:1≤op∧op < 13) (a b m:Int):facF (zXY op 1) b m=facA op a b m∧facF (zXY op 2) a m=facB op a b m:=by
 rcases zYQ h with rfl | rfl | rfl | rfl | rfl | rfl | rfl | rfl | rfl | rfl | rfl | rfl <;> exact ⟨rfl,rfl⟩
def shpF (r f g m:Int):Int:=if r=1 then f else if r=2 then g else if r=3 then zQE (m*f+(m - f)*g) m else if r=4 then zQE (f*g) m else 0
theorem jGo {op:Int} (h:1≤op∧op < 13) (f g m:Int):shpF (zXY op 3) f g m=zYu op f g m:=by
 rcases zYQ h with rfl | rfl | rfl | rfl | rfl | rfl | rfl | rfl | rfl | rfl | rfl | rfl <;> rfl
section
attribute [local irreducible] Ans AnsO AnsG AnsN AnsI
def gZ34 (xs:List RV):Option RV:=match xs with | [.d (.sl n xs)]=>let a:=(zQX (zXC xs)); some (RV.agg [dJ a.a,dJ a.b,dJ a.c,dJ a.d]) | _=>none
def gamB:Gam where
 pure:=fun f xs=>
  if f=40 then gZ4 xs else
  if f=211 then gZ34 xs else
  none
 modes:=fun f=>
  none
 proc:=fun f xs bs=>
  none
 iter:=fun f cs=>
  none
theorem jQN (n:Nat) (xs:List DV) (hx:jW7 n xs):Ans prog 211 [rD (dS n xs)] (rA [dJ ((zQX (zXC xs)).a),dJ ((zQX (zXC xs)).b),dJ ((zQX (zXC xs)).c),dJ ((zQX (zXC xs)).d)]):=
 zQa (Γ:=gamB) (aQ aL (aQ aL (aQ (aQ aL (Ann.loop ⟨Nat,fun k=>k≤n,fun k=>⟨[(0,aO (cD (dS n xs))),(2,aO (Cl.ptr 2 0)),(3,aO (Cl.ptr 3 0)),(6,aO (cD (dS n xs))),(7,aJ (n:Int)),(8,aJ (k:Int))],[(2,bC [cJ 0,cJ 0,cJ 0,cJ 0]),(3,(let aA:=(zQX ((zXC xs).take k)); bC [cJ aA.a,cJ aA.b,cJ aA.c,cJ aA.d]))]⟩,fun k=>n - k⟩ fun k=>aL)) aL))) zQf Tryz.func211 rfl (nL rfl) fun hwf=>by
  refine Eq.mpr (by kernel_rfl:_=(let i:=(dS n xs=dS n xs); let j:=(zQX (zXC xs)); let t:=(dJ (n:Int)=dJ (n:Int)); let p:=[dJ 0,dJ 0,dJ 0,dJ 0]; let l:=(p=p); let m:=fun (k:Nat)=>(let aA:=(zQX ((zXC xs).take k)); [dJ aA.a,dJ aA.b,dJ aA.c,dJ aA.d]); let u:=fun (k:Nat)=>[dJ (nAt xs (k*4)),dJ (nAt xs (k*4+1)),dJ (nAt xs (k*4+1+1)),dJ (nAt xs (k*4+1+1+1))]; let q:=fun (k:Nat)=>fun (k':Nat)=>(i∧(0=0)∧(0=0)∧i∧t∧(dJ (wK ((k:Int)+1))=dJ (k':Int))∧True); let r:=fun (k':Nat)=>(let aA:=(zQX ((zXC xs).take k')); [dJ aA.a,dJ aA.b,dJ aA.c,dJ aA.d]); let s:=fun (k:Nat)=>(Rc.empty ⟨(zQX ((zXC xs).take k)).a,(zQX ((zXC xs).take k)).b,(zQX ((zXC xs).take k)).c,(zQX ((zXC xs).take k)).d⟩); tU5 ((∃ k:Nat,(k≤n)∧((i∧(0=0)∧(0=0)∧i∧t∧(dJ 0=dJ (k:Int))∧True)∧(l∧(p=(m k))∧True)))∧∀ k:Nat,let o:=(zQX ((zXC xs).take k)); let e:=(nAt xs (k*4)); let f:=(nAt xs (k*4+1)); let g:=(nAt xs (k*4+1+1)); let h:=(nAt xs (k*4+1+1+1)); (k≤n)→True∧(((decide ((k:Int) < (n:Int)))=true→(0≤(k:Int)∧(k:Int) < (n:Int)∧k*4 < xs.length)∧((xs[k*4]?=some (dJ e))∧(xs[k*4+1]?=some (dJ f))∧(xs[k*4+1+1]?=some (dJ g))∧(xs[k*4+1+1+1]?=some (dJ h))∧True)∧tU3 ((Ans prog 40 [rA (u k)] (rD (dQ (Rc.empty ⟨e,f,g,h⟩))))∧True∧(((Rc.empty ⟨e,f,g,h⟩)=true→tU2 (∃ k':Nat,(k'≤n)∧(n - k' < n - k)∧((q k k')∧(l∧((m k)=(r k'))∧True))))∧((Rc.empty ⟨e,f,g,h⟩)=false→True∧(Ans prog 40 [rA (m k)] (rD (dQ (s k))))∧True∧(((s k)=true→tU4 (∃ k':Nat,(k'≤n)∧(n - k' < n - k)∧((q k k')∧(l∧((u k)=(r k'))∧True))))∧((s k)=false→tU8 (tU8 (tU8 (∃ k':Nat,(k'≤n)∧(n - k' < n - k)∧((q k k')∧(l∧([dJ (min o.a e),dJ (min o.b f),dJ (max o.c g),dJ (max o.d h)]=(r k'))∧True)))))))))))∧((decide ((k:Int) < (n:Int)))=false→tU2 (rA (m k)=rA [dJ j.a,dJ j.b,dJ j.c,dJ j.d])))))) ?_
  delta dJ dQ wK dS
  simp only [sS,zQK,zQ1,zQu,zQn]
  obtain ⟨l,rfl,rfl⟩:=hx.of
  simp only [RV.wfs,RV.wf,DV.wf,maxLen] at hwf
  simp only [zKy,zXu]
  refine ⟨⟨0,by omega,rfl,rfl,rfl,rfl,rfl⟩,fun k hk=>⟨fun hlt=>?_,fun hge=>?_⟩⟩
  ·have h:k < l.length:=by omega
   obtain ⟨e1,e2,e3,e4⟩:=zVF h
   obtain ⟨q1,q2,q3,q4⟩:=zVq l k h
   have hs:=jKa h
   have hw:wrap .i64 ((k:Int)+1)=((k+1:Nat):Int):=by rw [IntWalk.i64_in _ ⟨by omega,by omega⟩]; omega
   simp only [e1,e2,e3,e4]
   generalize zQX (l.take k)=H at *
   refine ⟨by omega,⟨q1,q2,q3,q4⟩,fun he=>⟨k+1,by omega,by omega,hw,?_⟩,fun he=>⟨fun h2=>⟨k+1,by omega,by omega,hw,?_⟩,fun h2=>⟨k+1,by omega,by omega,hw,?_⟩⟩⟩
   ·have he:l[k].empty=true:=he
    rw [hs]; simp [Rc.hull,he]
   ·have he:l[k].empty=false:=he
    have h2:H.empty=true:=h2
    rw [hs]; simp [Rc.hull,he,h2]
   ·have he:l[k].empty=false:=he
    have h2:H.empty=false:=h2
    rw [hs]; simp [Rc.hull,he,h2,Int.min_comm,Int.max_comm]
  ·have:k=l.length:=by omega
   subst this
   simp
theorem jY4 {w:World} {S:Nat→Prop} {x y c:Int} {vs:Array Value} (h:RepRs w S [RV.d (DV.int .u64 x),RV.d (DV.int .u64 y),RV.d (DV.int .u64 c)] vs.toList):vs=#[.int .u64 x,.int .u64 y,.int .u64 c]:=by
 obtain ⟨l⟩:=vs
 match l,h with
 | [a,b,d],h=>
  simp only [RepRs,RepR,RepD] at h
  obtain ⟨h1,h2,h3,_⟩:=h
  rw [h1.1,h2.1,h3.1]
theorem jXM (x y c:Int) (hx:0≤x∧x < 18446744073709551616) (hy:0≤y∧y < 18446744073709551616) (hc:0≤c∧c≤1):AnsE prog 286 [RV.d (DV.int .u64 x),RV.d (DV.int .u64 y),RV.d (DV.int .u64 c)] (RV.tup [RV.d (DV.int .u64 ((x+y+c) % 18446744073709551616)),RV.d (DV.int .u64 ((x+y+c) / 18446744073709551616))]):=by
 intro w S vs h
 rw [jY4 h,run_callFunc_extern Tryz.func286 (by kernel_rfl) (by kernel_rfl) (by kernel_rfl) (e:=add64Entry) (by kernel_rfl),run_add64 x y c hx.1 hy.1 hc.1 hc.2]
 refine ⟨_,rfl,?_⟩
 simp only [RepR,RepRs,RepD]
 have mi:IntKind.min .u64=0:=rfl
 have ma:IntKind.max .u64=18446744073709551615:=rfl
 exact ⟨_,rfl,⟨rfl,by rw [zXD,mi,ma]; omega⟩,⟨rfl,by rw [zXD,mi,ma]; omega⟩,trivial⟩
theorem jZx (x y c:Int) (hx:0≤x∧x < 18446744073709551616) (hy:0≤y∧y < 18446744073709551616) (hc:0≤c∧c≤1):AnsE prog 300 [RV.d (DV.int .u64 x),RV.d (DV.int .u64 y),RV.d (DV.int .u64 c)] (RV.tup [RV.d (DV.int .u64 ((x - y - c) % 18446744073709551616)),RV.d (DV.int .u64 (if x < y+c then 1 else 0))]):=by
 intro w S vs h
 obtain ⟨X,rfl⟩:=Int.eq_ofNat_of_zero_le hx.1
 obtain ⟨Y,rfl⟩:=Int.eq_ofNat_of_zero_le hy.1
 obtain ⟨Z,rfl⟩:=Int.eq_ofNat_of_zero_le hc.1
 rw [jY4 h,run_callFunc_extern Tryz.func300 (by kernel_rfl) (by kernel_rfl) (by kernel_rfl) (e:=sub64Entry) (by kernel_rfl),run_sub64 X Y Z (by omega)]
 refine ⟨_,rfl,?_⟩
 simp only [RepR,RepRs,RepD]
 have e1:(((X+18446744073709551616 - Y - Z) % 18446744073709551616:Nat):Int)=((X:Int) - Y - Z) % 18446744073709551616:=by omega
 have e2:((if X < Y+Z then 1 else 0:Nat):Int)=if (X:Int) < Y+Z then 1 else 0:=by split <;> split <;> omega
 have mi:IntKind.min .u64=0:=rfl
 have ma:IntKind.max .u64=18446744073709551615:=rfl
 exact ⟨_,rfl,⟨by rw [e1],by rw [zXD,mi,ma]; omega⟩,⟨by rw [e2],by rw [zXD,mi,ma]; split <;> omega⟩,trivial⟩
def gZ35 (xs:List RV):Option RV:=match xs with | [.d (.int _ x),.d (.int _ y)]=>some (RV.tup [RV.d (DV.int .u64 (hiW (x*y))),RV.d (DV.int .u64 (loW (x*y)))]) | _=>none
def gZ36 (xs:List RV):Option RV:=match xs with | [.d (.int _ n),.d (.int _ d)]=>some (RV.d (DV.int .u64 (zQE n d))) | _=>none
def jGB:Gam where
 pure:=fun f xs=>
  if f=103 then gZ35 xs else
  if f=194 then gZ36 xs else
  none
 modes:=fun f=>
  none
 proc:=fun f xs bs=>
  none
 iter:=fun f cs=>
  none
theorem jXP (n d:Int):Ans prog 194 [rD (DV.int .u64 n),rD (DV.int .u64 d)] (rD (DV.int .u64 (zQE n d))):=
 zQa (Γ:=jGB) aL zQf Tryz.func194 rfl (nL rfl) fun hwf=>by
  refine Eq.mpr (by kernel_rfl:_=(let a:=(DV.int .u64 (zQE n d)); let b:=(decide ((Int.tmod n d)≥(wrap .u64 (d - (Int.tmod n d))))); let c:=(wrap .u64 (Int.tdiv n d)); tU3 (((d==0)=true→True∧rD (DV.int .u64 (0:Int))=rD a)∧((d==0)=false→tU2 ((d≠0)∧tU2 ((d≠0)∧tU2 ((true=true)∧tU5 ((b=true→tU5 (rD (DV.int .u64 (wrap .u64 (c+1)))=rD a))∧(b=false→tU2 (rD (DV.int .u64 c)=rD a)))))))))) ?_
  simp only [sS]
  simp only [RV.wfs,RV.wf,DV.wf] at hwf
  have m1:IntKind.min .u64=0:=rfl
  have m2:IntKind.max .u64=18446744073709551615:=rfl
  rw [m1,m2] at hwf
  have t1:Int.tdiv n d=n / d:=Int.tdiv_eq_ediv_of_nonneg (by omega)
  have t2:Int.tmod n d=n % d:=Int.tmod_eq_emod_of_nonneg (by omega)
  refine ⟨fun q=>by (have q:d=0:=(by simpa using q)); simp [zQE,q],fun q=>?_⟩
  have q:d≠0:=by simpa using q
  have b1:0≤n % d:=Int.emod_nonneg _ q
  have b2:n % d < d:=Int.emod_lt_of_pos _ (by omega)
  have b3:0≤n / d:=Int.ediv_nonneg (by omega) (by omega)
  have b4:n / d≤n:=Int.ediv_le_self _ (by omega)
  simp only [t1,t2]
  rw [IntWalk.u64_in (n / d) ⟨b3,by omega⟩,IntWalk.u64_in (d - n % d) ⟨by omega,by omega⟩]
  refine ⟨q,q,fun q2=>?_,fun q2=>?_⟩
  ·have b5:d≥2∨d=1:=by omega
   have b6:n / d+1≤18446744073709551615:=by
    rcases b5 with b5 | b5
    ·have:n / d < n∨n=0:=by
      by_cases hn:n=0
      ·exact .inr hn
      ·exact .inl (Int.ediv_lt_self_of_pos_of_ne_one (by omega) (by omega))
     rcases this with h | h
     ·omega
     ·subst h; simp
    ·subst b5; omega
   rw [IntWalk.u64_in _ ⟨by omega,b6⟩]
   simp [zQE,q]; omega
  ·simp [zQE,q]; omega
theorem zVu (x y:Int):Ans prog 103 [rD (DV.int .u64 x),rD (DV.int .u64 y)] (rT [rD (DV.int .u64 (hiW (x*y))),rD (DV.int .u64 (loW (x*y)))]):=
 zQa (Γ:=jGB) aL zQf Tryz.func103 rfl (nL rfl) fun hwf=>by
  refine Eq.mpr (by kernel_rfl:_=(let a:=(Int.fdiv y (2 ^ min (32:Int).toNat 64)); let b:=(Int.fdiv x (2 ^ min (32:Int).toNat 64)); let c:=(wrap .u64 (BitVec.ofInt 64 y &&& BitVec.ofInt 64 (4294967295:Int)).toNat); let d:=(wrap .u64 (BitVec.ofInt 64 x &&& BitVec.ofInt 64 (4294967295:Int)).toNat); let e:=(wrap .u64 ((wrap .u64 (b*c))+(Int.fdiv (wrap .u64 (d*c)) (2 ^ min (32:Int).toNat 64)))); tU6 ((0≤(32:Int))∧tU5 ((0≤(32:Int))∧True∧tU8 ((0≤(32:Int))∧tU6 ((0≤(32:Int))∧tU5 (tU8 ((0≤(32:Int))∧tU6 (rT (let aA:=(2 ^ min (32:Int).toNat 64); [rD (DV.int .u64 (wrap .u64 ((wrap .u64 ((wrap .u64 (b*a))+(Int.fdiv e aA)))+(Int.fdiv (wrap .u64 ((wrap .u64 (BitVec.ofInt 64 e &&& BitVec.ofInt 64 (4294967295:Int)).toNat)+(wrap .u64 (d*a)))) aA)))),rD (DV.int .u64 (wrap .u64 (x*y)))])=rT [rD (DV.int .u64 (hiW (x*y))),rD (DV.int .u64 (loW (x*y)))]))))))))) ?_
  simp only [sS,jXP]
  simp only [RV.wfs,RV.wf,DV.wf,DV.wfs] at hwf
  have mi:IntKind.min .u64=0:=rfl
  have ma:IntKind.max .u64=18446744073709551615:=rfl
  have mj:IntKind.min .u16=0:=rfl
  have mb:IntKind.max .u16=65535:=rfl
  simp only [mi,ma,mj,mb] at hwf
  obtain ⟨hx,hy,_⟩:=hwf
  have wr:∀ a:Int,0≤a→a < 18446744073709551616→wrap .u64 a=a:=fun a h1 h2=>IntWalk.u64_in a ⟨h1,by omega⟩
  have f32:∀ a:Int,0≤a→Int.fdiv a (2 ^ min (Int.toNat 32) 64)=a / 4294967296:=fun a ha=>by
   rw [show ((2:Int) ^ min (Int.toNat 32) 64)=4294967296 from by decide]
   exact Int.fdiv_eq_ediv_of_nonneg _ (by omega)
  have ex:x=x / 4294967296*4294967296+x % 4294967296:=by omega
  have ey:y=y / 4294967296*4294967296+y % 4294967296:=by omega
  have bx:0≤x / 4294967296∧x / 4294967296≤4294967295∧0≤x % 4294967296∧x % 4294967296≤4294967295:=by omega
  have by_:0≤y / 4294967296∧y / 4294967296≤4294967295∧0≤y % 4294967296∧y % 4294967296≤4294967295:=by omega
  simp only [zWz hx.1 (by omega),zWz hy.1 (by omega),f32 x hx.1,f32 y hy.1]
  have exy:x*y=(x / 4294967296)*(y / 4294967296)*18446744073709551616+((x / 4294967296)*(y % 4294967296)+(x % 4294967296)*(y / 4294967296))*4294967296+(x % 4294967296)*(y % 4294967296):=by
   generalize x / 4294967296=x1 at *
   generalize x % 4294967296=x0 at *
   generalize y / 4294967296=y1 at *
   generalize y % 4294967296=y0 at *
   subst ex ey
   grind
  rw [exy]
  clear exy ex ey
  generalize x / 4294967296=x1 at *
  generalize x % 4294967296=x0 at *
  generalize y / 4294967296=y1 at *
  generalize y % 4294967296=y0 at *
  obtain ⟨p1,p2,p3,p4⟩:=bx
  obtain ⟨q1,q2,q3,q4⟩:=by_
  have m11:=zQg p1 p2 q1 q2
  have m10:=zQg p1 p2 q3 q4
  have m01:=zQg p3 p4 q1 q2
  have m00:=zQg p3 p4 q3 q4
  rw [wr x0 (by omega) (by omega),wr y0 (by omega) (by omega)]
  generalize x1*y1=A at *
  generalize x1*y0=B at *
  generalize x0*y1=C at *
  generalize x0*y0=D at *
  rw [wr D (by omega) (by omega),f32 D (by omega),wr B (by omega) (by omega),wr (B+D / 4294967296) (by omega) (by omega),zWz (n:=B+D / 4294967296) (by omega) (by omega),wr ((B+D / 4294967296) % 4294967296) (by omega) (by omega),wr C (by omega) (by omega),wr ((B+D / 4294967296) % 4294967296+C) (by omega) (by omega),f32 (B+D / 4294967296) (by omega),f32 ((B+D / 4294967296) % 4294967296+C) (by omega),wr A (by omega) (by omega),wr (A+(B+D / 4294967296) / 4294967296) (by omega) (by omega),wr (A+(B+D / 4294967296) / 4294967296+_) (by omega) (by omega)]
  unfold hiW loW
  rw [IntKind.wrap_u64]
  constructor <;> omega
def gZ37 (xs:List RV):Option RV:=match xs with | [.d (.int _ hi),.d (.int _ lo),.d (.int _ y)]=>some (RV.tup [RV.d (DV.int .u64 (wV hi lo / y)),RV.d (DV.int .u64 (wV hi lo % y))]) | _=>none
def jVz:Gam where
 pure:=fun f xs=>
  if f=313 then (match xs with | [.d (.int _ x)]=>some (rJ (lenS x)) | _=>none) else
  if f=311 then (match xs with | [.d (.int _ x)]=>some (rJ (64 - lenS x)) | _=>none) else
  if f=308 then gZ37 xs else
  none
 modes:=fun f=>
  none
 proc:=fun f xs bs=>
  none
 iter:=fun f cs=>
  none
theorem zXh (n:Int):Ans prog 118 [rD (DV.int .u32 n)] (rD (DV.int .u32 (zQE n 255))):=
 zQa (Γ:=jVz) (aQ aL (aQ aL (aQ (Ann.loop ⟨Int × Int,fun z:Int × Int=>0≤z.1∧0≤z.2∧z.1*255+z.2=n,fun z:Int × Int=>⟨[(0,aO (cD (DV.int .u32 z.2))),(3,aO (cD (DV.int .u32 z.1)))],[]⟩,fun z:Int × Int=>z.2.toNat⟩ fun z=>aL) aL))) zQf Tryz.func118 rfl (nL rfl) fun hwf=>by
  refine Eq.mpr (by kernel_rfl:_=(let a:=fun (z:Int × Int)=>(0≤z.1∧0≤z.2∧z.1*255+z.2=n); tU2 ((∃ z:Int × Int,(a z)∧(((DV.int .u32 n=DV.int .u32 z.2)∧(DV.int .u32 (0:Int)=DV.int .u32 z.1)∧True)∧True))∧∀ z:Int × Int,let b:=(Int.fdiv z.2 (2 ^ min (8:Int).toNat 32)); (a z)→tU2 (((decide (z.2 > 255))=true→tU2 ((0≤(8:Int))∧tU3 ((0≤(8:Int))∧tU4 (∃ z':Int × Int,(0≤z'.1∧0≤z'.2∧z'.1*255+z'.2=n)∧(z'.2.toNat < z.2.toNat)∧(((DV.int .u32 (wrap .u32 (b+(wrap .u32 (BitVec.ofInt 32 z.2 &&& BitVec.ofInt 32 (255:Int)).toNat)))=DV.int .u32 z'.2)∧(DV.int .u32 (wrap .u32 (z.1+b))=DV.int .u32 z'.1)∧True)∧True)))))∧((decide (z.2 > 255))=false→tU2 (((decide (z.2≥128))=true→tU5 (rD (DV.int .u32 (wrap .u32 (z.1+1)))=rD (DV.int .u32 (zQE n 255))))∧((decide (z.2≥128))=false→tU2 (rD (DV.int .u32 z.1)=rD (DV.int .u32 (zQE n 255)))))))))) ?_
  simp only [sS]
  simp only [RV.wfs,RV.wf,DV.wf,DV.wfs] at hwf
  have mi:IntKind.min .u64=0:=rfl
  have ma:IntKind.max .u64=18446744073709551615:=rfl
  have mj:IntKind.min .u32=0:=rfl
  have mb:IntKind.max .u32=4294967295:=rfl
  simp only [mi,ma,mj,mb] at hwf
  have f8:∀ a:Int,0≤a→Int.fdiv a (2 ^ min (Int.toNat 8) 32)=a / 256:=fun a ha=>by
   rw [show ((2:Int) ^ min (Int.toNat 8) 32)=256 from by decide]
   exact Int.fdiv_eq_ediv_of_nonneg _ (by omega)
  refine ⟨⟨(0,n),⟨by omega,by omega,by omega⟩,rfl,rfl⟩,fun z ⟨h0,h1,h2⟩=>⟨fun hc=>?_,fun hc=>⟨fun hd=>?_,fun hd=>?_⟩⟩⟩
  ·obtain ⟨a,b⟩:=z
   simp only at h0 h1 h2 hc ⊢
   rw [f8 b h1,jGd h1 (by omega)]
   rw [IntWalk.u32_in (b % 256) ⟨by omega,by omega⟩,IntWalk.u32_in (a+b / 256) ⟨by omega,by omega⟩,IntWalk.u32_in (b / 256+b % 256) ⟨by omega,by omega⟩]
   exact ⟨by decide,by decide,(a+b / 256,b / 256+b % 256),⟨by simp only; omega,by simp only; omega,by simp only; omega⟩,by simp only; omega,rfl,rfl⟩
  ·obtain ⟨a,b⟩:=z
   simp only at h0 h1 h2 hc hd ⊢
   rw [← h2,jVv h1 (by omega),if_pos (by omega),IntWalk.u32_in _ ⟨by omega,by omega⟩]
  ·obtain ⟨a,b⟩:=z
   simp only at h0 h1 h2 hc hd ⊢
   rw [← h2,jVv h1 (by omega),if_neg (by omega)]
theorem zXs (n:Int):Ans prog 119 [rD (DV.int .u64 n)] (rD (DV.int .u64 (zQE n 65535))):=
 zQa (Γ:=jVz) (aQ aL (aQ aL (aQ (Ann.loop ⟨Int × Int,fun z:Int × Int=>0≤z.1∧0≤z.2∧z.1*65535+z.2=n,fun z:Int × Int=>⟨[(0,aO (cD (DV.int .u64 z.2))),(3,aO (cD (DV.int .u64 z.1)))],[]⟩,fun z:Int × Int=>z.2.toNat⟩ fun z=>aL) aL))) zQf Tryz.func119 rfl (nL rfl) fun hwf=>by
  refine Eq.mpr (by kernel_rfl:_=(let a:=fun (z:Int × Int)=>(0≤z.1∧0≤z.2∧z.1*65535+z.2=n); let b:=(DV.int .u64 (zQE n 65535)); tU2 ((∃ z:Int × Int,(a z)∧(((DV.int .u64 n=DV.int .u64 z.2)∧(DV.int .u64 (0:Int)=DV.int .u64 z.1)∧True)∧True))∧∀ z:Int × Int,let c:=(Int.fdiv z.2 (2 ^ min (16:Int).toNat 64)); (a z)→tU2 (((decide (z.2 > 65535))=true→tU2 ((0≤(16:Int))∧tU3 ((0≤(16:Int))∧tU4 (∃ z':Int × Int,(0≤z'.1∧0≤z'.2∧z'.1*65535+z'.2=n)∧(z'.2.toNat < z.2.toNat)∧(((DV.int .u64 (wrap .u64 (c+(wrap .u64 (BitVec.ofInt 64 z.2 &&& BitVec.ofInt 64 (65535:Int)).toNat)))=DV.int .u64 z'.2)∧(DV.int .u64 (wrap .u64 (z.1+c))=DV.int .u64 z'.1)∧True)∧True)))))∧((decide (z.2 > 65535))=false→tU2 (((decide (z.2≥32768))=true→tU5 (rD (DV.int .u64 (wrap .u64 (z.1+1)))=rD b))∧((decide (z.2≥32768))=false→tU2 (rD (DV.int .u64 z.1)=rD b)))))))) ?_
  simp only [sS,zXh]
  simp only [RV.wfs,RV.wf,DV.wf,DV.wfs] at hwf
  have mi:IntKind.min .u64=0:=rfl
  have ma:IntKind.max .u64=18446744073709551615:=rfl
  have mj:IntKind.min .u32=0:=rfl
  have mb:IntKind.max .u32=4294967295:=rfl
  simp only [mi,ma,mj,mb] at hwf
  have f8:∀ a:Int,0≤a→Int.fdiv a (2 ^ min (Int.toNat 16) 64)=a / 65536:=fun a ha=>by
   rw [show ((2:Int) ^ min (Int.toNat 16) 64)=65536 from by decide]
   exact Int.fdiv_eq_ediv_of_nonneg _ (by omega)
  refine ⟨⟨(0,n),⟨by omega,by omega,by omega⟩,rfl,rfl⟩,fun z ⟨h0,h1,h2⟩=>⟨fun hc=>?_,fun hc=>⟨fun hd=>?_,fun hd=>?_⟩⟩⟩
  ·obtain ⟨a,b⟩:=z
   simp only at h0 h1 h2 hc ⊢
   rw [f8 b h1,jW2 h1 (by omega)]
   rw [IntWalk.u64_in (b % 65536) ⟨by omega,by omega⟩,IntWalk.u64_in (a+b / 65536) ⟨by omega,by omega⟩,IntWalk.u64_in (b / 65536+b % 65536) ⟨by omega,by omega⟩]
   exact ⟨by decide,by decide,(a+b / 65536,b / 65536+b % 65536),⟨by simp only; omega,by simp only; omega,by simp only; omega⟩,by simp only; omega,rfl,rfl⟩
  ·obtain ⟨a,b⟩:=z
   simp only at h0 h1 h2 hc hd ⊢
   rw [← h2,jXm h1 (by omega),if_pos (by omega),IntWalk.u64_in _ ⟨by omega,by omega⟩]
  ·obtain ⟨a,b⟩:=z
   simp only at h0 h1 h2 hc hd ⊢
   rw [← h2,jXm h1 (by omega),if_neg (by omega)]
theorem zVv (x:Int):Ans prog 313 [rD (DV.int .u64 x)] (rJ ((lenS x))):=
 zQa (Γ:=jVz) (aQ aL (Ann.cut ⟨Int × Int,fun p:Int × Int=>0≤p.1∧p.1 < 4294967296∧0≤p.2∧p.2≤32∧p.2+lenS p.1=lenS x,fun p:Int × Int=>⟨[(0,aO (cD (DV.int .u64 p.1))),(2,aJ p.2)],[]⟩,fun p:Int × Int=>0⟩ aL fun p=>(Ann.cut ⟨Int × Int,fun q:Int × Int=>0≤q.1∧q.1 < 65536∧0≤q.2∧q.2≤48∧q.2+lenS q.1=lenS x,fun q:Int × Int=>⟨[(0,aO (cD (DV.int .u64 q.1))),(2,aJ q.2)],[]⟩,fun q:Int × Int=>0⟩ aL fun q=>(Ann.cut ⟨Int × Int,fun r:Int × Int=>0≤r.1∧r.1 < 256∧0≤r.2∧r.2≤56∧r.2+lenS r.1=lenS x,fun r:Int × Int=>⟨[(0,aO (cD (DV.int .u64 r.1))),(2,aJ r.2)],[]⟩,fun r:Int × Int=>0⟩ aL fun r=>aL)))) zQf Tryz.func313 rfl (nL rfl) fun hwf=>by
  refine Eq.mpr (by kernel_rfl:_=(let a:=fun (p:Int × Int)=>(0≤p.1∧p.1 < 4294967296∧0≤p.2∧p.2≤32∧p.2+lenS p.1=lenS x); let b:=fun (q:Int × Int)=>(0≤q.1∧q.1 < 65536∧0≤q.2∧q.2≤48∧q.2+lenS q.1=lenS x); let c:=fun (r:Int × Int)=>(0≤r.1∧r.1 < 256∧0≤r.2∧r.2≤56∧r.2+lenS r.1=lenS x); True∧(tU2 (((decide (x≥4294967296))=true→True∧(0≤(32:Int))∧tU2 (∃ p:Int × Int,(a p)∧(((DV.int .u64 (Int.fdiv x (2 ^ min (32:Int).toNat 64))=DV.int .u64 p.1)∧(dJ 32=dJ p.2)∧True)∧True)))∧((decide (x≥4294967296))=false→∃ p:Int × Int,(a p)∧(((DV.int .u64 x=DV.int .u64 p.1)∧(dJ 0=dJ p.2)∧True)∧True))))∧∀ p:Int × Int,(a p)→(tU2 (((decide (p.1≥65536))=true→True∧(0≤(16:Int))∧tU4 (∃ q:Int × Int,(b q)∧(((DV.int .u64 (Int.fdiv p.1 (2 ^ min (16:Int).toNat 64))=DV.int .u64 q.1)∧(dJ (wK (p.2+16))=dJ q.2)∧True)∧True)))∧((decide (p.1≥65536))=false→∃ q:Int × Int,(b q)∧(((DV.int .u64 p.1=DV.int .u64 q.1)∧(dJ p.2=dJ q.2)∧True)∧True))))∧∀ q:Int × Int,(b q)→(tU2 (((decide (q.1≥256))=true→True∧(0≤(8:Int))∧tU4 (∃ r:Int × Int,(c r)∧(((DV.int .u64 (Int.fdiv q.1 (2 ^ min (8:Int).toNat 64))=DV.int .u64 r.1)∧(dJ (wK (q.2+8))=dJ r.2)∧True)∧True)))∧((decide (q.1≥256))=false→∃ r:Int × Int,(c r)∧(((DV.int .u64 q.1=DV.int .u64 r.1)∧(dJ q.2=dJ r.2)∧True)∧True))))∧∀ r:Int × Int,(c r)→tU3 ((0≤wrap .u8 r.1∧wrap .u8 r.1 < (((⟨#[0,1,2,2,3,3,3,3,4,4,4,4,4,4,4,4,5,5,5,5,5,5,5,5,5,5,5,5,5,5,5,5,6,6,6,6,6,6,6,6,6,6,6,6,6,6,6,6,6,6,6,6,6,6,6,6,6,6,6,6,6,6,6,6,7,7,7,7,7,7,7,7,7,7,7,7,7,7,7,7,7,7,7,7,7,7,7,7,7,7,7,7,7,7,7,7,7,7,7,7,7,7,7,7,7,7,7,7,7,7,7,7,7,7,7,7,7,7,7,7,7,7,7,7,7,7,7,7,8,8,8,8,8,8,8,8,8,8,8,8,8,8,8,8,8,8,8,8,8,8,8,8,8,8,8,8,8,8,8,8,8,8,8,8,8,8,8,8,8,8,8,8,8,8,8,8,8,8,8,8,8,8,8,8,8,8,8,8,8,8,8,8,8,8,8,8,8,8,8,8,8,8,8,8,8,8,8,8,8,8,8,8,8,8,8,8,8,8,8,8,8,8,8,8,8,8,8,8,8,8,8,8,8,8,8,8,8,8,8,8,8,8,8,8,8,8,8,8,8,8,8,8,8,8,8,8]⟩:ByteArray).size:Nat):Int))∧tU3 (rJ (wK (r.2+(wK ((((⟨#[0,1,2,2,3,3,3,3,4,4,4,4,4,4,4,4,5,5,5,5,5,5,5,5,5,5,5,5,5,5,5,5,6,6,6,6,6,6,6,6,6,6,6,6,6,6,6,6,6,6,6,6,6,6,6,6,6,6,6,6,6,6,6,6,7,7,7,7,7,7,7,7,7,7,7,7,7,7,7,7,7,7,7,7,7,7,7,7,7,7,7,7,7,7,7,7,7,7,7,7,7,7,7,7,7,7,7,7,7,7,7,7,7,7,7,7,7,7,7,7,7,7,7,7,7,7,7,7,8,8,8,8,8,8,8,8,8,8,8,8,8,8,8,8,8,8,8,8,8,8,8,8,8,8,8,8,8,8,8,8,8,8,8,8,8,8,8,8,8,8,8,8,8,8,8,8,8,8,8,8,8,8,8,8,8,8,8,8,8,8,8,8,8,8,8,8,8,8,8,8,8,8,8,8,8,8,8,8,8,8,8,8,8,8,8,8,8,8,8,8,8,8,8,8,8,8,8,8,8,8,8,8,8,8,8,8,8,8,8,8,8,8,8,8,8,8,8,8,8,8,8,8,8,8,8,8]⟩:ByteArray).data.toList[(wrap .u8 r.1).toNat]?.getD 0).toNat:Nat):Int))))=rJ (lenS x))))) ?_
  delta dJ wK rJ
  simp only [sS,zXh,zXs]
  simp only [RV.wfs,RV.wf,DV.wf,DV.wfs] at hwf
  have mi:IntKind.min .u64=0:=rfl
  have ma:IntKind.max .u64=18446744073709551615:=rfl
  have mj:IntKind.min .u16=0:=rfl
  have mb:IntKind.max .u16=65535:=rfl
  simp only [mi,ma,mj,mb] at hwf
  have f1:∀ a:Int,0≤a→Int.fdiv a (2 ^ min (Int.toNat 32) 64)=a / 4294967296:=fun a ha=>by
   rw [show ((2:Int) ^ min (Int.toNat 32) 64)=4294967296 from by decide]
   exact Int.fdiv_eq_ediv_of_nonneg _ (by omega)
  have f2:∀ a:Int,0≤a→Int.fdiv a (2 ^ min (Int.toNat 16) 64)=a / 65536:=fun a ha=>by
   rw [show ((2:Int) ^ min (Int.toNat 16) 64)=65536 from by decide]
   exact Int.fdiv_eq_ediv_of_nonneg _ (by omega)
  have f3:∀ a:Int,0≤a→Int.fdiv a (2 ^ min (Int.toNat 8) 64)=a / 256:=fun a ha=>by
   rw [show ((2:Int) ^ min (Int.toNat 8) 64)=256 from by decide]
   exact Int.fdiv_eq_ediv_of_nonneg _ (by omega)
  have q1:((2:Int) ^ 32)=4294967296:=rfl
  have q2:((2:Int) ^ 16)=65536:=rfl
  have q3:((2:Int) ^ 8)=256:=rfl
  have g1:=fun y (h:2 ^ 32≤y)=>zW1 (x:=y) 32 h
  have g2:=fun y (h:2 ^ 16≤y)=>zW1 (x:=y) 16 h
  have g3:=fun y (h:2 ^ 8≤y)=>zW1 (x:=y) 8 h
  simp only [q1,q2,q3] at g1 g2 g3
  refine ⟨⟨fun h=>⟨by decide,(x / 4294967296,32),⟨by simp only; omega,by simp only; omega,by simp only; omega,by simp only; omega,by simp only; have:=g1 x (by omega); omega⟩,f1 x hwf.1.1,rfl⟩,fun h=>⟨(x,0),⟨hwf.1.1,by simp only; omega,by simp only; omega,by simp only; omega,by simp only; omega⟩,rfl,rfl⟩⟩,?_⟩
  intro p ⟨a1,a2,a3,a4,a5⟩
  refine ⟨⟨fun h=>⟨by decide,(p.1 / 65536,p.2+16),⟨by simp only; omega,by simp only; omega,by simp only; omega,by simp only; omega,by simp only; have:=g2 p.1 (by omega); omega⟩,f2 p.1 a1,by rw [IntWalk.i64_in _ ⟨by omega,by omega⟩]⟩,fun h=>⟨p,⟨a1,by omega,a3,by omega,a5⟩,rfl,rfl⟩⟩,?_⟩
  intro q ⟨b1,b2,b3,b4,b5⟩
  refine ⟨⟨fun h=>⟨by decide,(q.1 / 256,q.2+8),⟨by simp only; omega,by simp only; omega,by simp only; omega,by simp only; omega,by simp only; have:=g3 q.1 (by omega); omega⟩,f3 q.1 b1,by rw [IntWalk.i64_in _ ⟨by omega,by omega⟩]⟩,fun h=>⟨q,⟨b1,by omega,b3,by omega,b5⟩,rfl,rfl⟩⟩,?_⟩
  intro r ⟨c1,c2,c3,c4,c5⟩
  rw [IntWalk.u8_in r.1 ⟨c1,by omega⟩]
  have sz:∀ (l:Array UInt8),((⟨l⟩:ByteArray).size:Int)=(l.size:Int):=fun _=>rfl
  obtain ⟨m,hm⟩:=Int.eq_ofNat_of_zero_le c1
  rw [hm] at c2 c5 ⊢
  rw [Int.toNat_natCast]
  have tb:∀ m:Nat,m < 256→(((([0,1,2,2,3,3,3,3,4,4,4,4,4,4,4,4,5,5,5,5,5,5,5,5,5,5,5,5,5,5,5,5,6,6,6,6,6,6,6,6,6,6,6,6,6,6,6,6,6,6,6,6,6,6,6,6,6,6,6,6,6,6,6,6,7,7,7,7,7,7,7,7,7,7,7,7,7,7,7,7,7,7,7,7,7,7,7,7,7,7,7,7,7,7,7,7,7,7,7,7,7,7,7,7,7,7,7,7,7,7,7,7,7,7,7,7,7,7,7,7,7,7,7,7,7,7,7,7,8,8,8,8,8,8,8,8,8,8,8,8,8,8,8,8,8,8,8,8,8,8,8,8,8,8,8,8,8,8,8,8,8,8,8,8,8,8,8,8,8,8,8,8,8,8,8,8,8,8,8,8,8,8,8,8,8,8,8,8,8,8,8,8,8,8,8,8,8,8,8,8,8,8,8,8,8,8,8,8,8,8,8,8,8,8,8,8,8,8,8,8,8,8,8,8,8,8,8,8,8,8,8,8,8,8,8,8,8,8,8,8,8,8,8,8,8,8,8,8,8,8,8,8,8,8,8,8]:List UInt8)[m]?.getD 0).toNat:Nat):Int)=lenS m:=of_decide_eq_true (by decide +kernel)
  have tt:=tb m (by omega)
  refine ⟨⟨by omega,by rw [sz]; simp only [List.size_toArray,List.length_cons,List.length_nil]; omega⟩,?_⟩
  rw [← c5,← tt]
  clear tb tt sz
  generalize Option.getD _ _=w
  have:=UInt8.toNat_lt w
  have h1:wrap .i64 (w.toNat:Int)=(w.toNat:Int):=IntWalk.i64_in _ ⟨by omega,by omega⟩
  rw [h1,IntWalk.i64_in _ ⟨by omega,by omega⟩]
theorem zKe (x:Int) (h0:1≤x):Ans prog 311 [rD (DV.int .u64 x)] (rJ ((64 - lenS x))):=
 zQa (Γ:=jVz) aL zQf Tryz.func311 rfl (nL rfl) fun hwf=>by
  refine Eq.mpr (by kernel_rfl:_=(tU2 ((Ans prog 313 [rD (DV.int .u64 x)] (rJ (lenS x)))∧tU2 (rJ (wK ((64:Int) - (lenS x)))=rJ (64 - lenS x))))) ?_
  delta wK rJ
  simp only [sS,zXh,zXs,zVv]
  have hx:x < 18446744073709551616:=by
   simp only [RV.wfs,RV.wf,DV.wf] at hwf
   have ma:IntKind.max .u64=18446744073709551615:=rfl
   rw [ma] at hwf; omega
  obtain ⟨s,e,hs,_⟩:=jZ8 h0 hx
  rw [e]
  exact IntWalk.i64_in _ ⟨by omega,by omega⟩
theorem zHH (hi lo y:Int) (h0:hi < y):Ans prog 308 [rD (DV.int .u64 hi),rD (DV.int .u64 lo),rD (DV.int .u64 y)] (rT [rD (DV.int .u64 (wV hi lo / y)),rD (DV.int .u64 (wV hi lo % y))]):=
 zQa (Γ:=jVz) (let d:=fun (D:Dv)=>(2,aO (cD (DV.int .u64 (D.v1*4294967296+D.v0)))); let e:=fun (D:Dv)=>(8,aO (cD (DV.int .u64 (D.s:Int)))); let g:=fun (D:Dv)=>(9,aO (cD (DV.int .u64 D.v1))); let h:=fun (D:Dv)=>(10,aO (cD (DV.int .u64 D.v0))); let j:=fun (D:Dv)=>(11,aO (cD (DV.int .u64 D.u))); let k:=fun (D:Dv)=>(13,aO (cD (DV.int .u64 D.w1))); let f:=fun (D:Dv)=>(14,aO (cD (DV.int .u64 D.w0))); let i:=fun (a:Int)=>(15,aO (cD (DV.int .u64 a))); let l:=fun (b:Int)=>(17,aO (cD (DV.int .u64 b))); (aQ aL (aQ aL (aQ aL (aQ aL (aQ aL (aQ aL (aQ aL (aQ aL (aQ aL (aQ aL (aQ aL (Ann.cut ⟨Dv,fun D:Dv=>D.is hi lo y,fun D:Dv=>⟨[(d D),(e D),(g D),(h D),(j D),(k D),(f D)],[]⟩,fun D:Dv=>0⟩ aL fun D=>(aQ aL (aQ aL (Ann.cut ⟨Int,fun a:Int=>a=(D.u*4294967296+D.w1) / (D.v1*4294967296+D.v0),fun a:Int=>⟨[(d D),(e D),(g D),(h D),(j D),(k D),(f D),(i a)],[]⟩,fun a:Int=>0⟩ (Ann.loop ⟨Int × Int,fun p:Int × Int=>DgOk D.v1 D.v0 D.u D.w1 p.1 p.2,fun p:Int × Int=>⟨[(d D),(e D),(g D),(h D),(j D),(k D),(f D),(15,aO (cD (DV.int .u64 p.1))),(16,aO (cD (DV.int .u64 p.2)))],[]⟩,fun p:Int × Int=>p.1.toNat⟩ fun p=>aL) fun a=>(Ann.cut ⟨Int,fun b:Int=>b=D.u*4294967296+D.w1 - a*(D.v1*4294967296+D.v0),fun b:Int=>⟨[(d D),(e D),(g D),(h D),(f D),(i a),(l b)],[]⟩,fun b:Int=>0⟩ aL fun b=>(aQ aL (aQ aL (Ann.cut ⟨Int,fun c:Int=>c=(b*4294967296+D.w0) / (D.v1*4294967296+D.v0),fun c:Int=>⟨[(d D),(e D),(f D),(i a),(l b),(18,aO (cD (DV.int .u64 c)))],[]⟩,fun c:Int=>0⟩ (Ann.loop ⟨Int × Int,fun q:Int × Int=>DgOk D.v1 D.v0 b D.w0 q.1 q.2,fun q:Int × Int=>⟨[(d D),(e D),(g D),(h D),(f D),(i a),(16,aO (cD (DV.int .u64 q.2))),(l b),(18,aO (cD (DV.int .u64 q.1)))],[]⟩,fun q:Int × Int=>q.1.toNat⟩ fun q=>aL) fun c=>aL)))))))))))))))))))) zQf Tryz.func308 rfl (nL rfl) fun hwf=>by
  refine Eq.mpr (by kernel_rfl:_=(let A:=[rD (DV.int .u64 (wV hi lo / y)),rD (DV.int .u64 (wV hi lo % y))]; let v:=(0≤wrap .u64 (64 - lenS y)); let j:=(wrap .u64 (64 - lenS y)); let w:=(wrap .u64 (y*2 ^ min j.toNat 64)); let B:=(wrap .u64 (lo*2 ^ min j.toNat 64)); let d:=fun (D:Dv)=>(DV.int .u64 (D.v1*4294967296+D.v0)=DV.int .u64 (D.v1*4294967296+D.v0)); let e:=fun (D:Dv)=>(DV.int .u64 (D.s:Int)=DV.int .u64 (D.s:Int)); let g:=fun (D:Dv)=>(DV.int .u64 D.v1=DV.int .u64 D.v1); let h:=fun (D:Dv)=>(DV.int .u64 D.v0=DV.int .u64 D.v0); let k:=fun (D:Dv)=>(DV.int .u64 D.u=DV.int .u64 D.u); let l:=fun (D:Dv)=>(DV.int .u64 D.w1=DV.int .u64 D.w1); let f:=fun (D:Dv)=>(DV.int .u64 D.w0=DV.int .u64 D.w0); let C:=fun (D:Dv)=>(wrap .u64 (Int.tdiv D.u D.v1)); let x:=fun (D:Dv)=>fun (p:Int × Int)=>(wrap .u64 (p.2+D.v1)); let n:=fun (D:Dv)=>fun (a:Int)=>(a=(D.u*4294967296+D.w1) / (D.v1*4294967296+D.v0)); let o:=fun (p:Int × Int)=>(wrap .u64 (p.1 - 1)); let E:=fun (D:Dv)=>fun (a:Int)=>fun (b:Int)=>(b=D.u*4294967296+D.w1 - a*(D.v1*4294967296+D.v0)); let i:=fun (a:Int)=>(DV.int .u64 a=DV.int .u64 a); let F:=fun (D:Dv)=>fun (b:Int)=>(wrap .u64 (Int.tdiv b D.v1)); let m:=fun (b:Int)=>(DV.int .u64 b=DV.int .u64 b); let z:=fun (D:Dv)=>fun (q:Int × Int)=>(wrap .u64 (q.2+D.v1)); let r:=fun (D:Dv)=>fun (b:Int)=>fun (c:Int)=>(c=(b*4294967296+D.w0) / (D.v1*4294967296+D.v0)); let s:=fun (q:Int × Int)=>(wrap .u64 (q.1 - 1)); tU4 (((y==0)=true→False)∧((y==0)=false→tU3 (((decide (y≤hi))=true→False)∧((decide (y≤hi))=false→tU2 (((hi==0)=true→tU2 ((y≠0)∧tU2 ((y≠0)∧tU2 ((true=true)∧rT [rD (DV.int .u64 (wrap .u64 (Int.tdiv lo y))),rD (DV.int .u64 (Int.tmod lo y))]=rT A))))∧((hi==0)=false→True∧(Ans prog 311 [rD (DV.int .u64 y)] (rJ (64 - lenS y)))∧tU4 (v∧tU2 ((0≤(32:Int))∧tU6 (v∧tU3 ((0≤wrap .u64 ((64:Int) - j))∧tU4 (v∧tU2 ((0≤(32:Int))∧True∧(tU3 (∃ D:Dv,(D.is hi lo y)∧(((DV.int .u64 w=DV.int .u64 (D.v1*4294967296+D.v0))∧(DV.int .u64 j=DV.int .u64 (D.s:Int))∧(DV.int .u64 (Int.fdiv w (2 ^ min (32:Int).toNat 64))=DV.int .u64 D.v1)∧(DV.int .u64 (wrap .u64 (BitVec.ofInt 64 w &&& BitVec.ofInt 64 (4294967295:Int)).toNat)=DV.int .u64 D.v0)∧(DV.int .u64 (wrap .u64 (BitVec.ofInt 64 (wrap .u64 (hi*2 ^ min j.toNat 64)) ||| BitVec.ofInt 64 (Int.fdiv lo (2 ^ min (wrap .u64 ((64:Int) - j)).toNat 64))).toNat)=DV.int .u64 D.u)∧(DV.int .u64 (Int.fdiv B (2 ^ min (32:Int).toNat 64))=DV.int .u64 D.w1)∧(DV.int .u64 (wrap .u64 (BitVec.ofInt 64 B &&& BitVec.ofInt 64 (4294967295:Int)).toNat)=DV.int .u64 D.w0)∧True)∧True)))∧∀ D:Dv,(D.is hi lo y)→tU2 ((D.v1≠0)∧tU7 (((∃ p:Int × Int,(DgOk D.v1 D.v0 D.u D.w1 p.1 p.2)∧(((d D)∧(e D)∧(g D)∧(h D)∧(k D)∧(l D)∧(f D)∧(DV.int .u64 (C D)=DV.int .u64 p.1)∧(DV.int .u64 (wrap .u64 (D.u - (wrap .u64 ((C D)*D.v1))))=DV.int .u64 p.2)∧True)∧True))∧∀ p:Int × Int,let t:=(decide ((x D p)≥4294967296)); let G:=(decide ((wrap .u64 (p.1*D.v0)) > (wrap .u64 ((wrap .u64 ((4294967296:Int)*p.2))+D.w1)))); (DgOk D.v1 D.v0 D.u D.w1 p.1 p.2)→tU3 (((decide (p.1≥4294967296))=false→True∧tU8 ((G=true→True∧tU8 ((t=true→∃ a:Int,(n D a)∧(((d D)∧(e D)∧(g D)∧(h D)∧(k D)∧(l D)∧(f D)∧(DV.int .u64 (o p)=DV.int .u64 a)∧True)∧True))∧(t=false→∃ p':Int × Int,(DgOk D.v1 D.v0 D.u D.w1 p'.1 p'.2)∧(p'.1.toNat < p.1.toNat)∧(((d D)∧(e D)∧(g D)∧(h D)∧(k D)∧(l D)∧(f D)∧(DV.int .u64 (o p)=DV.int .u64 p'.1)∧(DV.int .u64 (x D p)=DV.int .u64 p'.2)∧True)∧True))))∧(G=false→∃ a:Int,(n D a)∧(((d D)∧(e D)∧(g D)∧(h D)∧(k D)∧(l D)∧(f D)∧(DV.int .u64 p.1=DV.int .u64 a)∧True)∧True))))∧((decide (p.1≥4294967296))=(!false)→tU2 (tU8 ((t=true→∃ a:Int,(n D a)∧(((d D)∧(e D)∧(g D)∧(h D)∧(k D)∧(l D)∧(f D)∧(DV.int .u64 (o p)=DV.int .u64 a)∧True)∧True))∧(t=false→∃ p':Int × Int,(DgOk D.v1 D.v0 D.u D.w1 p'.1 p'.2)∧(p'.1.toNat < p.1.toNat)∧(((d D)∧(e D)∧(g D)∧(h D)∧(k D)∧(l D)∧(f D)∧(DV.int .u64 (o p)=DV.int .u64 p'.1)∧(DV.int .u64 (x D p)=DV.int .u64 p'.2)∧True)∧True)))))))∧∀ a:Int,(n D a)→(True∧tU8 (∃ b:Int,(E D a b)∧(((d D)∧(e D)∧(g D)∧(h D)∧(f D)∧(i a)∧(DV.int .u64 (wrap .u64 ((wrap .u64 ((wrap .u64 (D.u*4294967296))+D.w1)) - (wrap .u64 (a*(D.v1*4294967296+D.v0)))))=DV.int .u64 b)∧True)∧True)))∧∀ b:Int,(E D a b)→tU2 ((D.v1≠0)∧tU7 (((∃ q:Int × Int,(DgOk D.v1 D.v0 b D.w0 q.1 q.2)∧(((d D)∧(e D)∧(g D)∧(h D)∧(f D)∧(i a)∧(DV.int .u64 (wrap .u64 (b - (wrap .u64 ((F D b)*D.v1))))=DV.int .u64 q.2)∧(m b)∧(DV.int .u64 (F D b)=DV.int .u64 q.1)∧True)∧True))∧∀ q:Int × Int,let u:=(decide ((z D q)≥4294967296)); let H:=(decide ((wrap .u64 (q.1*D.v0)) > (wrap .u64 ((wrap .u64 ((4294967296:Int)*q.2))+D.w0)))); (DgOk D.v1 D.v0 b D.w0 q.1 q.2)→tU3 (((decide (q.1≥4294967296))=false→True∧tU8 ((H=true→True∧tU8 ((u=true→∃ c:Int,(r D b c)∧(((d D)∧(e D)∧(f D)∧(i a)∧(m b)∧(DV.int .u64 (s q)=DV.int .u64 c)∧True)∧True))∧(u=false→∃ q':Int × Int,(DgOk D.v1 D.v0 b D.w0 q'.1 q'.2)∧(q'.1.toNat < q.1.toNat)∧(((d D)∧(e D)∧(g D)∧(h D)∧(f D)∧(i a)∧(DV.int .u64 (z D q)=DV.int .u64 q'.2)∧(m b)∧(DV.int .u64 (s q)=DV.int .u64 q'.1)∧True)∧True))))∧(H=false→∃ c:Int,(r D b c)∧(((d D)∧(e D)∧(f D)∧(i a)∧(m b)∧(DV.int .u64 q.1=DV.int .u64 c)∧True)∧True))))∧((decide (q.1≥4294967296))=(!false)→tU2 (tU8 ((u=true→∃ c:Int,(r D b c)∧(((d D)∧(e D)∧(f D)∧(i a)∧(m b)∧(DV.int .u64 (s q)=DV.int .u64 c)∧True)∧True))∧(u=false→∃ q':Int × Int,(DgOk D.v1 D.v0 b D.w0 q'.1 q'.2)∧(q'.1.toNat < q.1.toNat)∧(((d D)∧(e D)∧(g D)∧(h D)∧(f D)∧(i a)∧(DV.int .u64 (z D q)=DV.int .u64 q'.2)∧(m b)∧(DV.int .u64 (s q)=DV.int .u64 q'.1)∧True)∧True)))))))∧∀ c:Int,(r D b c)→tU5 (tU8 ((0≤(D.s:Int))∧tU2 (rT [rD (DV.int .u64 (wrap .u64 ((wrap .u64 (a*4294967296))+c))),rD (DV.int .u64 (Int.fdiv (wrap .u64 ((wrap .u64 ((wrap .u64 (b*4294967296))+D.w0)) - (wrap .u64 (c*(D.v1*4294967296+D.v0))))) (2 ^ min (D.s:Int).toNat 64)))]=rT A))))))))))))))))))))) ?_
  delta rJ
  simp only [sS,zXh,zXs,zVv]
  simp only [RV.wfs,RV.wf,DV.wf,DV.wfs] at hwf
  have mi:IntKind.min .u64=0:=rfl
  have ma:IntKind.max .u64=18446744073709551615:=rfl
  have mj:IntKind.min .u16=0:=rfl
  have mb:IntKind.max .u16=65535:=rfl
  simp only [mi,ma,mj,mb] at hwf
  have f32:∀ a:Int,0≤a→Int.fdiv a (2 ^ min (Int.toNat 32) 64)=a / 4294967296:=fun a ha=>by
   rw [show ((2:Int) ^ min (Int.toNat 32) 64)=4294967296 from by decide]
   exact Int.fdiv_eq_ediv_of_nonneg _ (by omega)
  obtain ⟨⟨a0,a1⟩,⟨l0,l1⟩,⟨y0,y1⟩,_⟩:=hwf
  have hy:1≤y:=by omega
  have hy0:(y==0)=true→y=0:=fun h=>by simpa using h
  refine ⟨fun h=>absurd (hy0 h) (by omega),fun _=>⟨fun h=>absurd h (by omega),fun _=>⟨fun hz=>?_,fun hz=>?_⟩⟩⟩
  ·have hz:hi=0:=by simpa using hz
   subst hz
   rw [zVB,Int.tdiv_eq_ediv_of_nonneg l0,Int.tmod_eq_emod_of_nonneg l0]
   have:=Int.ediv_le_self y l0
   have:=Int.ediv_nonneg l0 y0
   rw [IntWalk.u64_in _ ⟨by omega,by omega⟩]
   exact ⟨by omega,by omega,rfl,rfl⟩
  obtain ⟨s,es,s63,ys1,ys2⟩:=jZ8 hy (by omega)
  have LZ:=zKe y hy
  obtain ⟨p1,p2,p3,p4,hD⟩:=jWR a0 h0 l0 (by omega) s63 ys1 ys2
  have ws:wrap .u64 (s:Int)=s:=IntWalk.u64_in _ ⟨by omega,by omega⟩
  have ws2:wrap .u64 (64 - (s:Int))=((64 - s:Nat):Int):=by rw [IntWalk.u64_in _ ⟨by omega,by omega⟩]; omega
  have ms:min s 64=s:=by omega
  have mt:min (64 - s) 64=64 - s:=by omega
  have wy:wrap .u64 (y*2 ^ s)=y*2 ^ s:=IntWalk.u64_in _ ⟨by omega,by omega⟩
  have hp:(0:Int) < 2 ^ s:=Int.pow_pos (by decide)
  have h0':0≤hi*2 ^ s:=Int.mul_nonneg a0 (by omega)
  have wh:wrap .u64 (hi*2 ^ s)=hi*2 ^ s:=IntWalk.u64_in _ ⟨by omega,by omega⟩
  have fl:Int.fdiv lo (2 ^ (64 - s))=lo / 2 ^ (64 - s):=Int.fdiv_eq_ediv_of_nonneg _ (Int.le_of_lt (Int.pow_pos (by decide)))
  obtain ⟨or1,or2⟩:=jGt (s:=s) (by omega) a0 p3 p1 p2
  have wl:wrap .u64 (lo*2 ^ s)=lo*2 ^ s % 18446744073709551616:=IntKind.wrap_u64 _
  rw [es] at LZ ⊢
  simp only [ws,ws2,Int.toNat_natCast,ms,mt,wy,wh,fl,wl,or1]
  have m0:0≤lo*2 ^ s % 18446744073709551616:=by omega
  have m1:lo*2 ^ s % 18446744073709551616 < 18446744073709551616:=by omega
  rw [zWz (show 0≤y*2 ^ s by omega) ys2,zWz m0 m1,f32 _ (show 0≤y*2 ^ s by omega),f32 _ m0,IntWalk.u64_in (hi*2 ^ s+lo / 2 ^ (64 - s)) ⟨by omega,by omega⟩,IntWalk.u64_in (y*2 ^ s % 4294967296) ⟨by omega,by omega⟩,IntWalk.u64_in (lo*2 ^ s % 18446744073709551616 % 4294967296) ⟨by omega,by omega⟩]
  refine ⟨LZ,by omega,by omega,by omega,by omega,by omega,by omega,⟨_,hD,by simp only; omega,rfl,rfl,rfl,rfl,rfl,rfl⟩,?_⟩
  clear hD or1 or2 wl fl wh wy LZ es p1 p2 p3 p4 m0 m1 ys1 ys2 h0' hp s63 ws ws2 ms mt
  intro D hD
  obtain ⟨k1,k2,ok,w0a,w0b,s63⟩:=hD
  have ok2:=ok
  obtain ⟨va,vb,v0a,v0b,ua,ub,wa,wb⟩:=ok2
  have W:∀ x:Int,0≤x→x < 18446744073709551616→wrap .u64 x=x:=fun x x0 x1=>IntWalk.u64_in x ⟨x0,by omega⟩
  have M:∀ x:Int,wrap .u64 x=x % 18446744073709551616:=fun x=>IntKind.wrap_u64 x
  have st:∀ u w:Int,DvOk D.v1 D.v0 u w→wrap .u64 (Int.tdiv u D.v1)=u / D.v1∧wrap .u64 (u - wrap .u64 (u / D.v1*D.v1))=u - u / D.v1*D.v1:=fun u w o=>by
   have g:=o.start
   have gp:=g.pos o
   have gh:=g.hi
   have g0:=g.r0
   have g1:=g.r1
   have u0:=o.u0
   have u1:=o.u1
   rw [Int.tdiv_eq_ediv_of_nonneg u0,W (u / D.v1) gp (by omega)]
   have e4:0≤u / D.v1*D.v1:=Int.mul_nonneg gp (by omega)
   refine ⟨rfl,?_⟩
   rw [W (u / D.v1*D.v1) e4 (by omega),W _ g0 (by omega)]
  have rd:∀ u w:Int,DvOk D.v1 D.v0 u w→∀ z:Int × Int,DgOk D.v1 D.v0 u w z.1 z.2→wrap .u64 (z.1*D.v0)=z.1*D.v0∧wrap .u64 (wrap .u64 (4294967296*z.2)+w)=4294967296*z.2+w∧wrap .u64 (z.2+D.v1)=z.2+D.v1∧(z.1≥4294967296∨z.1*D.v0 > 4294967296*z.2+w→wrap .u64 (z.1 - 1)=z.1 - 1∧(z.1 - 1).toNat < z.1.toNat):=fun u w o z g=>by
   obtain ⟨s1,s2,s3,s4⟩:=g.sizes o
   have gp:=g.pos o
   have gh:=g.hi
   have g0:=g.r0
   have g1:=g.r1
   have w0:=o.w0
   rw [W _ s1 s2,W (4294967296*z.2) (by omega) (by omega),W _ s3 s4,W _ (show 0≤z.2+D.v1 by omega) (by omega)]
   refine ⟨rfl,rfl,rfl,fun hc=>?_⟩
   have:1≤z.1:=by
    rcases hc with hc | hc
    ·omega
    ·have:=(g.over o).1 hc
     have:=o.dig.1
     omega
   exact ⟨W _ (by omega) (by omega),by omega⟩
  have lp:∀ u w:Int,DvOk D.v1 D.v0 u w→∀ z:Int × Int,DgOk D.v1 D.v0 u w z.1 z.2→(z.1≥4294967296∨z.1*D.v0 > 4294967296*z.2+w)→(z.2+D.v1≥4294967296→∃ a,a=(u*4294967296+w) / (D.v1*4294967296+D.v0)∧z.1 - 1=a)∧(¬ z.2+D.v1≥4294967296→∃ z':Int × Int,DgOk D.v1 D.v0 u w z'.1 z'.2∧z'.1.toNat < z.1.toNat∧z.1 - 1=z'.1∧z.2+D.v1=z'.2):=fun u w o z g hc=>
   ⟨fun h=>⟨_,rfl,g.last o hc h⟩,fun h=>⟨(z.1 - 1,z.2+D.v1),g.next o hc (by omega),((rd u w o z g).2.2.2 hc).2,rfl,rfl⟩⟩
  obtain ⟨t1,t2⟩:=st _ _ ok
  rw [t1,t2]
  refine ⟨by omega,⟨⟨(D.u / D.v1,D.u - D.u / D.v1*D.v1),ok.start,rfl,rfl⟩,?_⟩,?_⟩
  ·intro p g
   obtain ⟨r1,r2,r3,r4⟩:=rd _ _ ok p g
   rw [r1,r2,r3]
   refine ⟨fun h1=>⟨fun h2=>?_,fun h2=>?_⟩,fun h1=>?_⟩
   ·rw [(r4 (.inr h2)).1]
    exact lp _ _ ok p g (.inr h2)
   ·exact ⟨_,rfl,g.done ok (fun h=>h.elim h1 h2)⟩
   ·rw [(r4 (.inl h1)).1]
    exact lp _ _ ok p g (.inl h1)
  intro a ha
  have dg:=ok.dig
  rw [← ha] at dg
  have e1:=Int.emod_add_mul_ediv (D.u*4294967296+D.w1) (D.v1*4294967296+D.v0)
  have e2:=Int.emod_nonneg (D.u*4294967296+D.w1) (b:=D.v1*4294967296+D.v0) (by omega)
  have e3:=Int.emod_lt_of_pos (D.u*4294967296+D.w1) (show 0 < D.v1*4294967296+D.v0 by omega)
  rw [← ha,Int.mul_comm _ a] at e1
  have eb:wrap .u64 (wrap .u64 (wrap .u64 (D.u*4294967296)+D.w1) - wrap .u64 (a*(D.v1*4294967296+D.v0)))=D.u*4294967296+D.w1 - a*(D.v1*4294967296+D.v0):=by
   simp only [M]
   generalize a*(D.v1*4294967296+D.v0)=Y at *
   omega
  refine ⟨⟨_,rfl,eb⟩,?_⟩
  intro b hb
  have okb:DvOk D.v1 D.v0 b D.w0:=⟨va,vb,v0a,v0b,by omega,by omega,w0a,w0b⟩
  obtain ⟨t1,t2⟩:=st _ _ okb
  rw [t1,t2]
  refine ⟨by omega,⟨⟨(b / D.v1,b - b / D.v1*D.v1),okb.start,rfl,rfl⟩,?_⟩,?_⟩
  ·intro p g
   obtain ⟨r1,r2,r3,r4⟩:=rd _ _ okb p g
   rw [r1,r2,r3]
   have sw:∀ X:Prop × Prop,True:=fun _=>trivial
   refine ⟨fun h1=>⟨fun h2=>?_,fun h2=>?_⟩,fun h1=>?_⟩
   ·rw [(r4 (.inr h2)).1]
    obtain ⟨x1,x2⟩:=lp _ _ okb p g (.inr h2)
    exact ⟨x1,fun h=>by obtain ⟨z,y1,y2,y3,y4⟩:=x2 h; exact ⟨z,y1,y2,y4,y3⟩⟩
   ·exact ⟨_,rfl,g.done okb (fun h=>h.elim h1 h2)⟩
   ·rw [(r4 (.inl h1)).1]
    obtain ⟨x1,x2⟩:=lp _ _ okb p g (.inl h1)
    exact ⟨x1,fun h=>by obtain ⟨z,y1,y2,y3,y4⟩:=x2 h; exact ⟨z,y1,y2,y4,y3⟩⟩
  intro c hc
  have dgb:=okb.dig
  rw [← hc] at dgb
  obtain ⟨d1,d2⟩:=jJK (v:=D.v1*4294967296+D.v0) (u:=D.u) (a:=D.w1) (b:=D.w0) (by omega)
  rw [← ha,← hb,← hc] at d1 d2
  obtain ⟨q1,q2⟩:=jJO (a:=wV hi lo) (y:=y) (k:=2 ^ D.s) (Int.pow_pos (by decide))
  rw [k1,k2] at q1 q2
  rw [← d1] at q1
  rw [← d2] at q2
  have e4:0≤b*4294967296+D.w0 - c*(D.v1*4294967296+D.v0)∧b*4294967296+D.w0 - c*(D.v1*4294967296+D.v0) < D.v1*4294967296+D.v0:=by
   rw [d2]
   exact ⟨Int.emod_nonneg _ (by omega),Int.emod_lt_of_pos _ (by omega)⟩
  have er:wrap .u64 (wrap .u64 (wrap .u64 (b*4294967296)+D.w0) - wrap .u64 (c*(D.v1*4294967296+D.v0)))=b*4294967296+D.w0 - c*(D.v1*4294967296+D.v0):=by
   simp only [M]
   generalize c*(D.v1*4294967296+D.v0)=Y at *
   omega
  rw [er,W (a*4294967296) (by omega) (by omega),W _ (show 0≤a*4294967296+c by omega) (by omega),Nat.min_eq_left (by omega),Int.fdiv_eq_ediv_of_nonneg _ (Int.le_of_lt (Int.pow_pos (by decide)))]
  exact ⟨by omega,q1,q2⟩
def gZ38 (xs:List RV):Option RV:=match xs with | [.d (.int _ n)]=>some (RV.agg [DV.int .u64 0,DV.int .u64 n]) | _=>none
def gZ39 (xs:List RV):Option RV:=match xs with | [.d (.int _ a),.d (.int _ b)]=>some (RV.agg [DV.int .u64 (hiW (a*b)),DV.int .u64 (loW (a*b))]) | _=>none
def gZ40 (xs:List RV):Option RV:=match xs with | [.agg [.int _ ah,.int _ al],.agg [.int _ bh,.int _ bl]]=>some (RV.tup [RV.agg [DV.int .u64 (hiW (addW (wV ah al) (wV bh bl))),DV.int .u64 (loW (addW (wV ah al) (wV bh bl)))],RV.d (dQ (addK (wV ah al) (wV bh bl)))]) | _=>none
def gZ41 (xs:List RV):Option RV:=match xs with | [.agg [.int _ ah,.int _ al],.agg [.int _ bh,.int _ bl]]=>some (rJ (cmpI (wV ah al) (wV bh bl))) | _=>none
def zUN:Gam where
 pure:=fun f xs=>
  if f=228 then gZ36 xs else
  if f=308 then gZ37 xs else
  if f=103 then gZ35 xs else
  if f=286 then (match xs with | [.d (.int _ x),.d (.int _ y),.d (.int _ c)]=>some (RV.tup [RV.d (DV.int .u64 ((x+y+c) % 18446744073709551616)),RV.d (DV.int .u64 ((x+y+c) / 18446744073709551616))]) | _=>none) else
  if f=300 then (match xs with | [.d (.int _ x),.d (.int _ y),.d (.int _ c)]=>some (RV.tup [RV.d (DV.int .u64 ((x - y - c) % 18446744073709551616)),RV.d (DV.int .u64 (if x < y+c then 1 else 0))]) | _=>none) else
  if f=312 then (match xs with | [.d (.int _ x)]=>some (RV.d (dQ false)) | _=>none) else
  if f=310 then (match xs with | [.d (.int _ x),.d (.int _ y)]=>some (rJ (cmpI x y)) | _=>none) else
  if f=309 then (match xs with | [.d (.sl n xs)]=>some (rJ (orI xs)) | _=>none) else
  if f=292 then gZ38 xs else
  if f=276 then gZ39 xs else
  if f=275 then gZ40 xs else
  if f=299 then gZ41 xs else
  none
 modes:=fun f=>
  none
 proc:=fun f xs bs=>
  none
 iter:=fun f cs=>
  none
theorem zQF (n d:Int):Ans prog 228 [rD (DV.int .u64 n),rD (DV.int .u64 d)] (rD (DV.int .u64 (zQE n d))):=
 zQa (Γ:=zUN) aL zQf Tryz.func228 rfl (nL rfl) fun hwf=>by
  refine Eq.mpr (by kernel_rfl:_=(let a:=(DV.int .u64 (zQE n d)); let b:=(decide ((Int.tmod n d)≥(wrap .u64 (d - (Int.tmod n d))))); let c:=(wrap .u64 (Int.tdiv n d)); tU3 (((d==0)=true→True∧rD (DV.int .u64 (0:Int))=rD a)∧((d==0)=false→tU2 ((d≠0)∧tU2 ((d≠0)∧tU2 ((true=true)∧tU5 ((b=true→tU5 (rD (DV.int .u64 (wrap .u64 (c+1)))=rD a))∧(b=false→tU2 (rD (DV.int .u64 c)=rD a)))))))))) ?_
  simp only [sS]
  simp only [RV.wfs,RV.wf,DV.wf] at hwf
  have m1:IntKind.min .u64=0:=rfl
  have m2:IntKind.max .u64=18446744073709551615:=rfl
  rw [m1,m2] at hwf
  have t1:Int.tdiv n d=n / d:=Int.tdiv_eq_ediv_of_nonneg (by omega)
  have t2:Int.tmod n d=n % d:=Int.tmod_eq_emod_of_nonneg (by omega)
  refine ⟨fun q=>by (have q:d=0:=(by simpa using q)); simp [zQE,q],fun q=>?_⟩
  have q:d≠0:=by simpa using q
  have b1:0≤n % d:=Int.emod_nonneg _ q
  have b2:n % d < d:=Int.emod_lt_of_pos _ (by omega)
  have b3:0≤n / d:=Int.ediv_nonneg (by omega) (by omega)
  have b4:n / d≤n:=Int.ediv_le_self _ (by omega)
  simp only [t1,t2]
  rw [IntWalk.u64_in (n / d) ⟨b3,by omega⟩,IntWalk.u64_in (d - n % d) ⟨by omega,by omega⟩]
  refine ⟨q,q,fun q2=>?_,fun q2=>?_⟩
  ·have b5:d≥2∨d=1:=by omega
   have b6:n / d+1≤18446744073709551615:=by
    rcases b5 with b5 | b5
    ·have:n / d < n∨n=0:=by
      by_cases hn:n=0
      ·exact .inr hn
      ·exact .inl (Int.ediv_lt_self_of_pos_of_ne_one (by omega) (by omega))
     rcases this with h | h
     ·omega
     ·subst h; simp
    ·subst b5; omega
   rw [IntWalk.u64_in _ ⟨by omega,b6⟩]
   simp [zQE,q]; omega
  ·simp [zQE,q]; omega
theorem zQy (x:Int):Ans prog 312 [rD (DV.int .u64 x)] (rD (dQ false)):=
 zQa (Γ:=zUN) aL zQf Tryz.func312 rfl (nL rfl) fun hwf=>by
  refine Eq.mpr (by kernel_rfl:_=(tU5 (rD (dQ (x != x))=rD (dQ false)))) ?_
  delta dQ
  simp only [sS,zQF]
  simp
theorem zQw (x y:Int):Ans prog 310 [rD (DV.int .u64 x),rD (DV.int .u64 y)] (rJ ((cmpI x y))):=
 zQa (Γ:=zUN) aL zQf Tryz.func310 rfl (nL rfl) fun hwf=>by
  refine Eq.mpr (by kernel_rfl:_=(tU2 ((Ans prog 312 [rD (DV.int .u64 x)] (rD (dQ false)))∧tU2 ((Ans prog 312 [rD (DV.int .u64 y)] (rD (dQ false)))∧tU2 ((false=true→True∧((false=true→True∧rJ 0=rJ (cmpI x y))∧(false=false→True∧rJ (-1:Int)=rJ (cmpI x y))))∧(false=false→True∧((false=true→True∧rJ 1=rJ (cmpI x y))∧(false=false→tU3 (((decide (x < y))=true→True∧rJ (-1:Int)=rJ (cmpI x y))∧((decide (x < y))=false→tU3 (((decide (x > y))=true→True∧rJ 1=rJ (cmpI x y))∧((decide (x > y))=false→True∧rJ 0=rJ (cmpI x y))))))))))))) ?_
  delta dQ rJ
  simp only [sS,zQF,zQy]
  unfold cmpI
  grind
theorem zHB (n:Nat) (xs:List DV) (hx:n=2∧∃ a b,xs=[.int .i64 a,.int .i64 b]):Ans prog 309 [rD (dS n xs)] (rJ ((orI xs))):=
 zQa (Γ:=zUN) (aQ aL (aQ aL (aQ (aQ aL (Ann.loop ⟨Nat,fun j=>j≤2∧orI xs=orI (xs.drop j),fun j=>⟨[(3,aJ 0),(6,aO (cD (dS n xs))),(7,aJ (n:Int)),(8,aJ (j:Int))],[]⟩,fun j=>2 - j⟩ fun j=>aL)) aL))) zQf Tryz.func309 rfl (nL rfl) fun hwf=>by
  refine Eq.mpr (by kernel_rfl:_=(let b:=fun (j:Nat)=>(j≤2∧orI xs=orI (xs.drop j)); let c:=(dJ 0=dJ 0); let d:=(dJ (n:Int)=dJ (n:Int)); tU5 ((∃ j:Nat,(b j)∧((c∧(dS n xs=dS n xs)∧d∧(dJ 0=dJ (j:Int))∧True)∧True))∧∀ j:Nat,let a:=(nAt xs (j*1)); (b j)→True∧(((decide ((j:Int) < (n:Int)))=true→(0≤(j:Int)∧(j:Int) < (n:Int)∧j*1 < xs.length)∧((xs[j*1]?=some (dJ a))∧True)∧tU4 (((a != 0)=true→tU2 (rJ a=rJ (orI xs)))∧((a != 0)=false→tU2 (∃ j':Nat,(j'≤2∧orI xs=orI (xs.drop j'))∧(2 - j' < 2 - j)∧((c∧(dS n xs=dS n xs)∧d∧(dJ (wK ((j:Int)+1))=dJ (j':Int))∧True)∧True)))))∧((decide ((j:Int) < (n:Int)))=false→tU2 (rJ 0=rJ (orI xs))))))) ?_
  delta dJ wK dS rJ
  simp only [sS,zQF,zQy,zQw]
  obtain ⟨rfl,a,b,rfl⟩:=hx
  refine ⟨⟨0,⟨by omega,rfl⟩,rfl⟩,fun j ⟨hj,he⟩=>⟨fun h=>?_,fun h=>?_⟩⟩
  ·have:j=0∨j=1:=by omega
   rcases this with rfl | rfl
   ·have hw:wrap .i64 (((0:Nat):Int)+1)=((1:Nat):Int):=by decide
    refine ⟨⟨by omega,by omega,by simp⟩,rfl,fun q=>?_,fun q=>⟨1,⟨by omega,?_⟩,by omega,hw⟩⟩
    ·have q:a≠0:=bne_iff_ne.1 q
     change a=if a=0 then _ else a
     rw [if_neg q]
    ·have q:a=0:=bne_eq_false_iff_eq.1 q
     subst q; rfl
   ·have hw:wrap .i64 (((1:Nat):Int)+1)=((2:Nat):Int):=by decide
    refine ⟨⟨by omega,by omega,by simp⟩,rfl,fun q=>?_,fun q=>⟨2,⟨by omega,?_⟩,by omega,hw⟩⟩
    ·have q:b≠0:=bne_iff_ne.1 q
     rw [he]
     change b=if b=0 then _ else b
     rw [if_neg q]
    ·have q:b=0:=bne_eq_false_iff_eq.1 q
     rw [he]
     subst q; rfl
  ·have:j=2:=by omega
   subst this
   rw [he]; rfl
theorem zXf (n:Int):Ans prog 292 [rD (DV.int .u64 n)] (rA [DV.int .u64 0,DV.int .u64 n]):=
 zQa (Γ:=zUN) aL zQf Tryz.func292 rfl (nL rfl) fun hwf=>by
  refine Eq.mpr (by kernel_rfl:_=(tU4 (rA [DV.int .u64 (0:Int),DV.int .u64 n]=rA [DV.int .u64 0,DV.int .u64 n]))) ?_
  simp only [sS,zQF,zQy,zQw]
theorem zQW (a b:Int):Ans prog 276 [rD (DV.int .u64 a),rD (DV.int .u64 b)] (rA [DV.int .u64 (hiW (a*b)),DV.int .u64 (loW (a*b))]):=
 zQa (Γ:=zUN) aL zQf Tryz.func276 rfl (nL rfl) fun hwf=>by
  refine Eq.mpr (by kernel_rfl:_=(let c:=[DV.int .u64 (hiW (a*b)),DV.int .u64 (loW (a*b))]; tU3 ((Ans prog 103 [rD (DV.int .u64 a),rD (DV.int .u64 b)] (rT [rD (DV.int .u64 (hiW (a*b))),rD (DV.int .u64 (loW (a*b)))]))∧True∧tU8 (rA c=rA c)))) ?_
  simp only [sS,zVu,zQF,zQy,zQw,zXf]
theorem zQ9 (ah al bh bl:Int):Ans prog 299 [rA [DV.int .u64 ah,DV.int .u64 al],rA [DV.int .u64 bh,DV.int .u64 bl]] (rJ ((cmpI (wV ah al) (wV bh bl)))):=
 zQa (Γ:=zUN) aL zQf Tryz.func299 rfl (nL rfl) fun hwf=>by
  refine Eq.mpr (by kernel_rfl:_=(let a:=([dJ (cmpI ah bh),dJ (cmpI al bl)]); let b:=(dJ (orI a)); tU7 ((Ans prog 310 [rD (DV.int .u64 ah),rD (DV.int .u64 bh)] (rJ (cmpI ah bh)))∧tU4 ((Ans prog 310 [rD (DV.int .u64 al),rD (DV.int .u64 bl)] (rJ (cmpI al bl)))∧True∧(Ans prog 309 [rD (dS 2 a)] (rD b))∧True∧(true=true)∧rD b=rJ (cmpI (wV ah al) (wV bh bl)))))) ?_
  delta dJ dS rJ
  simp only [sS,zQF,zQy,zQw,zXf,zQW]
  simp only [RV.wfs,RV.wf,DV.wf,DV.wfs] at hwf
  have mi:IntKind.min .u64=0:=rfl
  have ma:IntKind.max .u64=18446744073709551615:=rfl
  have mj:IntKind.min .u16=0:=rfl
  have mb:IntKind.max .u16=65535:=rfl
  simp only [mi,ma,mj,mb] at hwf
  obtain ⟨⟨h1,h2,_⟩,⟨h3,h4,_⟩,_⟩:=hwf
  exact ⟨zHB _ _ ⟨rfl,_,_,rfl⟩,jGI h2.1 (by omega) h4.1 (by omega) _ _⟩
theorem zZW (ah al bh bl:Int):Ans prog 275 [rA [DV.int .u64 ah,DV.int .u64 al],rA [DV.int .u64 bh,DV.int .u64 bl]] (rT [rA [DV.int .u64 (hiW (addW (wV ah al) (wV bh bl))),DV.int .u64 (loW (addW (wV ah al) (wV bh bl)))],rD (dQ (addK (wV ah al) (wV bh bl)))]):=
 zQa (Γ:=zUN) aL zQf Tryz.func275 rfl (nL rfl) fun hwf=>by
  refine Eq.mpr (by kernel_rfl:_=(let c:=((al+bl+0) % 18446744073709551616); let a:=((al+bl+0) / 18446744073709551616); let d:=((ah+bh+a) % 18446744073709551616); let b:=((ah+bh+a) / 18446744073709551616); let e:=(DV.int .u64 a); let f:=[(let aA:=(addW (wV ah al) (wV bh bl)); rA [DV.int .u64 (hiW aA),DV.int .u64 (loW aA)]),rD (dQ (addK (wV ah al) (wV bh bl)))]; tU8 ((AnsE prog 286 [rD (DV.int .u64 al),rD (DV.int .u64 bl),rD (DV.int .u64 (0:Int))] (rT [rD (DV.int .u64 c),rD e]))∧tU2 (tU8 ((AnsE prog 286 [rD (DV.int .u64 ah),rD (DV.int .u64 bh),rD e] (rT [rD (DV.int .u64 d),rD (DV.int .u64 b)]))∧tU7 (((b != 0)=true→tU3 (rT [rA [DV.int .u64 (0:Int),DV.int .u64 (0:Int)],rD (dQ false)]=rT f))∧((b != 0)=false→tU5 (rT [rA [DV.int .u64 d,DV.int .u64 c],rD (dQ true)]=rT f)))))))) ?_
  delta dQ
  simp only [sS,zQF,zQy,zQw,zXf,zQW,zQ9]
  simp only [RV.wfs,RV.wf,DV.wf,DV.wfs] at hwf
  have mi:IntKind.min .u64=0:=rfl
  have ma:IntKind.max .u64=18446744073709551615:=rfl
  have mj:IntKind.min .u16=0:=rfl
  have mb:IntKind.max .u16=65535:=rfl
  simp only [mi,ma,mj,mb] at hwf
  obtain ⟨⟨h1,h2,_⟩,⟨h3,h4,_⟩,_⟩:=hwf
  refine ⟨jXM _ _ _ (by omega) (by omega) (by omega),jXM _ _ _ (by omega) (by omega) (by omega),fun h=>?_,fun h=>?_⟩
  ·have h:=bne_iff_ne.1 h
   have e:¬ wV ah al+wV bh bl < 340282366920938463463374607431768211456:=by unfold wV; omega
   unfold addW addK
   rw [if_neg e,decide_eq_false e]
   exact ⟨⟨rfl,rfl⟩,rfl⟩
  ·have h:=bne_eq_false_iff_eq.1 h
   have e:wV ah al+wV bh bl < 340282366920938463463374607431768211456:=by unfold wV; omega
   unfold addW addK
   rw [if_pos e,decide_eq_true e]
   unfold wV hiW loW
   exact ⟨⟨by omega,by omega⟩,rfl⟩
theorem zJe (ah al bh bl:Int):Ans prog 297 [rA [DV.int .u64 ah,DV.int .u64 al],rA [DV.int .u64 bh,DV.int .u64 bl]] (rT [rA [DV.int .u64 (hiW (subW (wV ah al) (wV bh bl))),DV.int .u64 (loW (subW (wV ah al) (wV bh bl)))],rD (dQ (subK (wV ah al) (wV bh bl)))]):=
 zQa (Γ:=zUN) aL zQf Tryz.func297 rfl (nL rfl) fun hwf=>by
  refine Eq.mpr (by kernel_rfl:_=(let c:=((al - bl - 0) % 18446744073709551616); let a:=(if al < bl+0 then 1 else 0); let d:=((ah - bh - a) % 18446744073709551616); let e:=(DV.int .u64 a); let b:=(if ah < bh+a then 1 else 0); let f:=[(let aA:=(subW (wV ah al) (wV bh bl)); rA [DV.int .u64 (hiW aA),DV.int .u64 (loW aA)]),rD (dQ (subK (wV ah al) (wV bh bl)))]; tU8 ((AnsE prog 300 [rD (DV.int .u64 al),rD (DV.int .u64 bl),rD (DV.int .u64 (0:Int))] (rT [rD (DV.int .u64 c),rD e]))∧tU2 (tU8 ((AnsE prog 300 [rD (DV.int .u64 ah),rD (DV.int .u64 bh),rD e] (rT [rD (DV.int .u64 d),rD (DV.int .u64 b)]))∧tU7 (((b != 0)=true→tU3 (rT [rA [DV.int .u64 (0:Int),DV.int .u64 (0:Int)],rD (dQ false)]=rT f))∧((b != 0)=false→tU5 (rT [rA [DV.int .u64 d,DV.int .u64 c],rD (dQ true)]=rT f)))))))) ?_
  delta dQ
  simp only [sS,zQF,zQy,zQw,zXf,zQW,zQ9,zZW]
  simp only [RV.wfs,RV.wf,DV.wf,DV.wfs] at hwf
  have mi:IntKind.min .u64=0:=rfl
  have ma:IntKind.max .u64=18446744073709551615:=rfl
  have mj:IntKind.min .u16=0:=rfl
  have mb:IntKind.max .u16=65535:=rfl
  simp only [mi,ma,mj,mb] at hwf
  obtain ⟨⟨h1,h2,_⟩,⟨h3,h4,_⟩,_⟩:=hwf
  refine ⟨jZx _ _ _ (by omega) (by omega) (by omega),jZx _ _ _ (by omega) (by omega) (by split <;> omega),fun h=>?_,fun h=>?_⟩
  ·have h:=bne_iff_ne.1 h
   have e:wV ah al < wV bh bl:=by unfold wV; split at h <;> split at h <;> omega
   unfold subW subK
   rw [if_pos e,decide_eq_false (by omega)]
   exact ⟨⟨rfl,rfl⟩,rfl⟩
  ·have h:=bne_eq_false_iff_eq.1 h
   have e:¬ wV ah al < wV bh bl:=by unfold wV; split at h <;> split at h <;> omega
   unfold subW subK
   rw [if_neg e,decide_eq_true (by omega)]
   unfold wV at e
   unfold wV hiW loW
   split at h <;> split at h <;> exact ⟨⟨by omega,by omega⟩,rfl⟩
theorem zJy (ah al k:Int) (h:wV ah al*k < 340282366920938463463374607431768211456):Ans prog 296 [rA [DV.int .u64 ah,DV.int .u64 al],rD (DV.int .u64 k)] (rT [rA [DV.int .u64 (hiW (wV ah al*k)),DV.int .u64 (loW (wV ah al*k))],rD (dQ true)]):=
 zQa (Γ:=zUN) aL zQf Tryz.func296 rfl (nL rfl) fun hwf=>by
  refine Eq.mpr (by kernel_rfl:_=(let b:=(wV (hiW (al*k)) (loW (al*k))); let a:=(loW (ah*k)); let c:=(addW (wV a (0:Int)) b); let d:=[rA [DV.int .u64 (hiW (wV ah al*k)),DV.int .u64 (loW (wV ah al*k))],rD (dQ true)]; let e:=[DV.int .u64 (hiW (al*k)),DV.int .u64 (loW (al*k))]; let f:=[rA [DV.int .u64 (hiW c),DV.int .u64 (loW c)],rD (dQ (addK (wV a (0:Int)) b))]; tU6 ((Ans prog 103 [rD (DV.int .u64 ah),rD (DV.int .u64 k)] (rT [rD (DV.int .u64 (hiW (ah*k))),rD (DV.int .u64 a)]))∧tU7 ((((hiW (ah*k)) != 0)=true→tU3 (rT [rA [DV.int .u64 (0:Int),DV.int .u64 (0:Int)],rD (dQ false)]=rT d))∧(((hiW (ah*k)) != 0)=false→tU5 ((Ans prog 276 [rD (DV.int .u64 al),rD (DV.int .u64 k)] (rA e))∧(Ans prog 275 [rA [DV.int .u64 a,DV.int .u64 (0:Int)],rA e] (rT f))∧tU4 (rT f=rT d))))))) ?_
  delta dQ
  simp only [sS,zQF,zQy,zQw,zXf,zQW,zQ9,zZW,zJe]
  simp only [RV.wfs,RV.wf,DV.wf,DV.wfs] at hwf
  have mi:IntKind.min .u64=0:=rfl
  have ma:IntKind.max .u64=18446744073709551615:=rfl
  have mj:IntKind.min .u16=0:=rfl
  have mb:IntKind.max .u16=65535:=rfl
  simp only [mi,ma,mj,mb] at hwf
  obtain ⟨⟨h1,h2,_⟩,h3,_⟩:=hwf
  have e:wV ah al*k=ah*k*18446744073709551616+al*k:=by unfold wV; grind
  rw [e] at h ⊢
  have n1:0≤ah*k:=Int.mul_nonneg h1.1 h3.1
  have n2:0≤al*k:=Int.mul_nonneg h2.1 h3.1
  have ez:hiW (ah*k)=0:=by unfold hiW; omega
  have el:loW (ah*k)=ah*k:=by unfold loW; omega
  rw [ez,el]
  have m64:=zVu ah k
  rw [ez,el] at m64
  refine ⟨m64,fun q=>absurd q (by decide),fun _=>?_⟩
  rw [zYN]
  have ea:wV (ah*k) 0=ah*k*18446744073709551616:=by unfold wV; omega
  unfold addW addK
  rw [ea,if_pos h,decide_eq_true h]
  exact ⟨⟨rfl,rfl⟩,rfl⟩
theorem zKv (ah al d:Int) (h:1≤d):Ans prog 295 [rA [DV.int .u64 ah,DV.int .u64 al],rD (DV.int .u64 d)] (rT [rA [DV.int .u64 (hiW ((wV ah al) / d)),DV.int .u64 (loW ((wV ah al) / d))],rD (DV.int .u64 ((wV ah al) % d)),rD (dQ true)]):=
 zQa (Γ:=zUN) aL zQf Tryz.func295 rfl (nL rfl) fun hwf=>by
  refine Eq.mpr (by kernel_rfl:_=(let a:=(Int.tmod ah d); let b:=[rA [DV.int .u64 (hiW ((wV ah al) / d)),DV.int .u64 (loW ((wV ah al) / d))],rD (DV.int .u64 ((wV ah al) % d)),rD (dQ true)]; let c:=(DV.int .u64 (wV a al % d)); tU6 (((d==0)=true→tU4 (rT [rA [DV.int .u64 (0:Int),DV.int .u64 (0:Int)],rD (DV.int .u64 (0:Int)),rD (dQ false)]=rT b))∧((d==0)=false→tU3 ((d≠0)∧tU3 ((Ans prog 308 [rD (DV.int .u64 a),rD (DV.int .u64 al),rD (DV.int .u64 d)] (rT [rD (DV.int .u64 (wV a al / d)),rD c]))∧tU5 ((true=true)∧tU3 ((d≠0)∧tU6 (rT [rA [DV.int .u64 (wrap .u64 (Int.tdiv ah d)),DV.int .u64 (wV a al / d)],rD c,rD (dQ true)]=rT b))))))))) ?_
  delta dQ
  simp only [sS,zQF,zQy,zQw,zXf,zQW,zQ9,zZW,zJe]
  simp only [RV.wfs,RV.wf,DV.wf,DV.wfs] at hwf
  have mi:IntKind.min .u64=0:=rfl
  have ma:IntKind.max .u64=18446744073709551615:=rfl
  have mj:IntKind.min .u16=0:=rfl
  have mb:IntKind.max .u16=65535:=rfl
  simp only [mi,ma,mj,mb] at hwf
  obtain ⟨⟨h1,h2,_⟩,h3,_⟩:=hwf
  have t1:Int.tmod ah d=ah % d:=Int.tmod_eq_emod_of_nonneg h1.1
  have t2:Int.tdiv ah d=ah / d:=Int.tdiv_eq_ediv_of_nonneg h1.1
  have b1:0≤ah % d:=Int.emod_nonneg _ (by omega)
  have b2:ah % d < d:=Int.emod_lt_of_pos _ (by omega)
  have b3:0≤ah / d:=Int.ediv_nonneg h1.1 (by omega)
  have b4:ah / d≤ah:=Int.ediv_le_self _ h1.1
  have D:=zHH (ah % d) al d b2
  simp only [t1,t2]
  rw [IntWalk.u64_in (ah / d) ⟨b3,by omega⟩]
  have e0:=Int.emod_add_mul_ediv ah d
  have e:wV ah al=wV (ah % d) al+d*(ah / d*18446744073709551616):=by unfold wV; grind
  have c1:0≤wV (ah % d) al:=by unfold wV; omega
  have c2:wV (ah % d) al < d*18446744073709551616:=by unfold wV; omega
  have c3:0≤wV (ah % d) al / d:=Int.ediv_nonneg c1 (by omega)
  have c4:wV (ah % d) al / d < 18446744073709551616:=Int.ediv_lt_of_lt_mul (by omega) (by rw [Int.mul_comm]; exact c2)
  have d1:wV ah al / d=ah / d*18446744073709551616+wV (ah % d) al / d:=by rw [e,Int.add_mul_ediv_left _ _ (by omega)]; omega
  have d2:wV ah al % d=wV (ah % d) al % d:=by rw [e,Int.add_mul_emod_self_left]
  have hd0:(d==0)=true→d=0:=fun q=>by simpa using q
  refine ⟨fun q=>absurd (hd0 q) (by omega),fun _=>⟨by omega,D,by omega,?_⟩⟩
  rw [d1,d2]
  unfold hiW loW
  exact ⟨⟨by omega,by omega⟩,rfl⟩
theorem jQt (ah al:Int):Ans prog 293 [rA [DV.int .u64 ah,DV.int .u64 al]] (rD (DV.int .u64 (zXc (wV ah al)))):=
 zQa (Γ:=zUN) (aQ aL (aQ aL (aQ (aQ aL (Ann.loop ⟨Nat,fun i=>i≤64,fun i=>⟨[(1,aO (Cl.ptr 1 0)),(3,aO (cD (DV.int .u64 (zXc (wV ah al) / 2 ^ i*2 ^ i)))),(4,aO (cD (DV.int .u64 ((2:Int) ^ i / 2))))],[(1,bC [cD (DV.int .u64 ah),cD (DV.int .u64 al)])]⟩,fun i=>i⟩ fun i=>aL)) aL))) zQf Tryz.func293 rfl (nL rfl) fun hwf=>by
  refine Eq.mpr (by kernel_rfl:_=(let c:=[DV.int .u64 ah,DV.int .u64 al]; let d:=((c=c)∧True); let a:=fun (i:Nat)=>(wrap .u64 (BitVec.ofInt 64 (zXc (wV ah al) / 2 ^ i*2 ^ i) ||| BitVec.ofInt 64 ((2:Int) ^ i / 2)).toNat); let f:=fun (i:Nat)=>(DV.int .u64 (a i)); let b:=fun (i:Nat)=>((a i)*(a i)); let g:=fun (i:Nat)=>[DV.int .u64 (hiW (b i)),DV.int .u64 (loW (b i))]; let h:=fun (i:Nat)=>fun (i':Nat)=>(DV.int .u64 (Int.fdiv ((2:Int) ^ i / 2) (2 ^ min (1:Int).toNat 64))=DV.int .u64 ((2:Int) ^ i' / 2)); tU4 ((∃ i:Nat,(i≤64)∧(((0=0)∧(DV.int .u64 (0:Int)=DV.int .u64 (zXc (wV ah al) / 2 ^ i*2 ^ i))∧(DV.int .u64 (9223372036854775808:Int)=DV.int .u64 ((2:Int) ^ i / 2))∧True)∧d))∧∀ i:Nat,let j:=(zXc (wV ah al) / 2 ^ i*2 ^ i); let k:=(decide (((2:Int) ^ i / 2) > 0)); let e:=(cmpI (wV (hiW (b i)) (loW (b i))) (wV ah al)); (i≤64)→tU2 ((k=true→tU6 ((Ans prog 276 [rD (f i),rD (f i)] (rA (g i)))∧True∧(Ans prog 299 [rA (g i),rA c] (rJ e))∧True∧(true=true)∧(((decide (e≤0))=true→tU5 ((0≤(1:Int))∧True∧∃ i':Nat,(i'≤64)∧(i' < i)∧(((0=0)∧(DV.int .u64 (a i)=DV.int .u64 (zXc (wV ah al) / 2 ^ i'*2 ^ i'))∧(h i i')∧True)∧d)))∧((decide (e≤0))=false→True∧(0≤(1:Int))∧True∧∃ i':Nat,(i'≤64)∧(i' < i)∧(((0=0)∧(DV.int .u64 j=DV.int .u64 (zXc (wV ah al) / 2 ^ i'*2 ^ i'))∧(h i i')∧True)∧d)))))∧(k=false→tU2 (rD (DV.int .u64 j)=rD (DV.int .u64 (zXc (wV ah al))))))))) ?_
  delta rJ
  simp only [sS,zQF,zQy,zQw,zXf,zQW,zQ9,zZW,zJe]
  simp only [RV.wfs,RV.wf,DV.wf,DV.wfs] at hwf
  have mi:IntKind.min .u64=0:=rfl
  have ma:IntKind.max .u64=18446744073709551615:=rfl
  have mj:IntKind.min .u16=0:=rfl
  have mb:IntKind.max .u16=65535:=rfl
  simp only [mi,ma,mj,mb] at hwf
  obtain ⟨⟨h1,h2,_⟩,_⟩:=hwf
  have hA:0≤wV ah al∧wV ah al < 340282366920938463463374607431768211456:=by unfold wV; omega
  obtain ⟨r0,r1,r2⟩:=zYW hA.1
  have r3:zXc (wV ah al) < 18446744073709551616:=(jQG hA.1 (by decide)).2 (by omega)
  obtain ⟨f,hf⟩:=Int.eq_ofNat_of_zero_le r0
  have le:=fun k hk=>jQ3 (n:=wV ah al) (k:=k) hA.1 hk
  rw [hf] at le r3 ⊢
  have hf64:f < 2 ^ 64:=by omega
  have M:=fun x=>zQW x x
  have CC:=fun x y=>zQ9 x y ah al
  refine ⟨⟨64,Nat.le_refl _,?_,by decide⟩,fun i hi=>⟨fun h=>?_,fun h=>?_⟩⟩
  ·have:(f:Int) / 2 ^ 64=0:=Int.ediv_eq_zero_of_lt (by omega) (by omega)
   rw [this]; rfl
  ·obtain ⟨k,rfl⟩:∃ k,i=k+1:=⟨i - 1,by
    rcases Nat.eq_zero_or_pos i with h0 | h0
    ·subst h0; exact absurd h (by decide)
    ·omega⟩
   have hk:k < 64:=by omega
   obtain ⟨b1,b2,b3,b4⟩:=jYK hf64 hk
   have p0:(2 ^ k:Nat) < 2 ^ 64:=Nat.pow_lt_pow_right (by decide) (by omega)
   have c2:((2:Int) ^ (k+1) / 2)=((2 ^ k:Nat):Int):=by
    rw [Int.pow_succ,Int.mul_ediv_cancel _ (by decide)]; simp
   have c3:∀ j,(f:Int) / 2 ^ j*2 ^ j=((f / 2 ^ j*2 ^ j:Nat):Int):=fun j=>by simp
   have c4:wrap .u64 ((f / 2 ^ (k+1)*2 ^ (k+1)+2 ^ k:Nat):Int)=((f / 2 ^ (k+1)*2 ^ (k+1)+2 ^ k:Nat):Int):=IntWalk.u64_in _ ⟨by omega,by omega⟩
   have c5:Int.fdiv ((2 ^ k:Nat):Int) (2 ^ min (Int.toNat 1) 64)=(2:Int) ^ k / 2:=by
    rw [show ((2:Int) ^ min (Int.toNat 1) 64)=2 from by decide,Int.fdiv_eq_ediv_of_nonneg _ (by omega)]; simp
   simp only [c2,c3,b1,c4,c5]
   rw [zYN]
   have hs:cmpI (((f / 2 ^ (k+1)*2 ^ (k+1)+2 ^ k:Nat):Int)*((f / 2 ^ (k+1)*2 ^ (k+1)+2 ^ k:Nat):Int)) (wV ah al)≤0↔f / 2 ^ (k+1)*2 ^ (k+1)+2 ^ k≤f:=by
    have l1:=le ((f / 2 ^ (k+1)*2 ^ (k+1)+2 ^ k:Nat):Int) (by omega)
    have:∀ a b:Int,cmpI a b≤0↔a≤b:=fun a b=>by unfold cmpI; grind
    rw [this,← l1]
    omega
   rw [hs]
   refine ⟨fun hq=>⟨by decide,k,by omega,by omega,?_,rfl⟩,fun hq=>⟨by decide,k,by omega,by omega,?_,rfl⟩⟩
   ·rw [b3 hq]
   ·rw [b4 (by omega)]
  ·have:i=0:=by
    rcases Nat.eq_zero_or_pos i with h0 | h0
    ·exact h0
    ·obtain ⟨k,rfl⟩:∃ k,i=k+1:=⟨i - 1,by omega⟩
     exfalso
     have c2:((2:Int) ^ (k+1) / 2)=((2 ^ k:Nat):Int):=by
      rw [Int.pow_succ,Int.mul_ediv_cancel _ (by decide)]; simp
     rw [c2] at h
     have:=Nat.two_pow_pos k
     omega
   subst this
   simp
def jKb:Gam where
 pure:=fun f xs=>
  if f=292 then gZ38 xs else
  if f=276 then gZ39 xs else
  if f=275 then gZ40 xs else
  if f=297 then (match xs with | [.agg [.int _ ah,.int _ al],.agg [.int _ bh,.int _ bl]]=>some (RV.tup [RV.agg [DV.int .u64 (hiW (subW (wV ah al) (wV bh bl))),DV.int .u64 (loW (subW (wV ah al) (wV bh bl)))],RV.d (dQ (subK (wV ah al) (wV bh bl)))]) | _=>none) else
  if f=296 then (match xs with | [.agg [.int _ ah,.int _ al],.d (.int _ k)]=>some (RV.tup [RV.agg [DV.int .u64 (hiW (wV ah al*k)),DV.int .u64 (loW (wV ah al*k))],RV.d (dQ true)]) | _=>none) else
  if f=299 then gZ41 xs else
  if f=295 then (match xs with | [.agg [.int _ ah,.int _ al],.d (.int _ d)]=>some (RV.tup [RV.agg [DV.int .u64 (hiW ((wV ah al) / d)),DV.int .u64 (loW ((wV ah al) / d))],RV.d (DV.int .u64 ((wV ah al) % d)),RV.d (dQ true)]) | _=>none) else
  if f=293 then (match xs with | [.agg [.int _ ah,.int _ al]]=>some (RV.d (DV.int .u64 (zXc (wV ah al)))) | _=>none) else
  if f=291 then (match xs with | [.agg [.int _ ph,.int _ pl,.int _ q,.int _ r,.int _ d]]=>some (RV.d (dQ (exOk ph q r d))) | _=>none) else
  if f=294 then (match xs with | [.agg [.int _ ph,.int _ pl,.int _ q,.int _ r,.int _ d]]=>some (RV.agg [DV.int .u64 (hiW (q*q*r)),DV.int .u64 (loW (q*q*r))]) | _=>none) else
  if f=298 then (match xs with | [.agg [.int _ ph,.int _ pl,.int _ q,.int _ r,.int _ d],.agg [.int _ nh,.int _ nl]]=>some (rJ (jZF q r (wV nh nl))) | _=>none) else
  if f=278 then (match xs with | [.agg [.int _ ph,.int _ pl,.int _ q,.int _ r,.int _ d]]=>some (RV.tup [RV.d (DV.int .u64 (⟨wV ph pl,q,r,d⟩:Ex).floor),RV.d (dQ true)]) | _=>none) else
  if f=279 then (match xs with | [.agg [.int _ ph,.int _ pl,.int _ q,.int _ r,.int _ d],.d (.int _ f)]=>some (RV.d (dQ (upB (⟨wV ph pl,q,r,d⟩:Ex) f))) | _=>none) else
  none
 modes:=fun f=>
  none
 proc:=fun f xs bs=>
  none
 iter:=fun f cs=>
  none
theorem zXH (ph pl q r d:Int):Ans prog 291 [rA [DV.int .u64 ph,DV.int .u64 pl,DV.int .u64 q,DV.int .u64 r,DV.int .u64 d]] (rD (dQ (exOk ph q r d))):=
 zQa (Γ:=jKb) aL zQf Tryz.func291 rfl (nL rfl) fun hwf=>by
  refine Eq.mpr (by kernel_rfl:_=(let b:=(decide (q < 70368744177664)); let a:=(rD (dQ false)=rD (dQ (exOk ph q r d))); tU7 (((decide (ph < 4294967296))=true→tU5 ((b=true→tU5 (((decide (r < 8589934592))=true→tU5 (rD (dQ (decide (d≥1)))=rD (dQ (exOk ph q r d))))∧((decide (r < 8589934592))=(!true)→tU2 a)))∧(b=(!true)→tU4 a)))∧((decide (ph < 4294967296))=(!true)→tU6 a)))) ?_
  delta dQ
  simp only [sS]
  unfold exOk
  grind
theorem zY3 (ph pl q r d:Int) (hp:ph < 4294967296) (hq:q < 70368744177664) (hr:r < 8589934592):Ans prog 294 [rA [DV.int .u64 ph,DV.int .u64 pl,DV.int .u64 q,DV.int .u64 r,DV.int .u64 d]] (rA [DV.int .u64 (hiW (q*q*r)),DV.int .u64 (loW (q*q*r))]):=
 zQa (Γ:=jKb) aL zQf Tryz.func294 rfl (nL rfl) fun hwf=>by
  refine Eq.mpr (by kernel_rfl:_=(let a:=(wV (hiW (q*q)) (loW (q*q))*r); let b:=[DV.int .u64 (hiW (q*q)),DV.int .u64 (loW (q*q))]; let c:=[DV.int .u64 (hiW a),DV.int .u64 (loW a)]; tU6 ((Ans prog 276 [rD (DV.int .u64 q),rD (DV.int .u64 q)] (rA b))∧tU2 ((Ans prog 296 [rA b,rD (DV.int .u64 r)] (rT [rA c,rD (dQ true)]))∧tU6 ((true=true)∧tU2 (rA c=rA [DV.int .u64 (hiW (q*q*r)),DV.int .u64 (loW (q*q*r))])))))) ?_
  delta dQ
  simp only [sS,zXH]
  simp only [RV.wfs,RV.wf,DV.wf,DV.wfs] at hwf
  have mi:IntKind.min .u64=0:=rfl
  have ma:IntKind.max .u64=18446744073709551615:=rfl
  have mj:IntKind.min .u16=0:=rfl
  have mb:IntKind.max .u16=65535:=rfl
  simp only [mi,ma,mj,mb] at hwf
  obtain ⟨⟨w1,w2,w3,w4,w5,_⟩,_⟩:=hwf
  have hP:0≤wV ph pl∧wV ph pl < 79228162514264337593543950336:=by unfold wV; omega
  have x1:=zQg w3.1 (show q≤70368744177664 by omega) w3.1 (show q≤70368744177664 by omega)
  have x2:=zQg x1.1 x1.2 w4.1 (show r≤8589934592 by omega)
  exact ⟨zQW _ _,zJy _ _ _ (by rw [zYN]; omega),by rw [zYN]; exact ⟨rfl,rfl⟩⟩
theorem jQw (ph pl q r d nh nl:Int) (hp:ph < 4294967296) (hq:q < 70368744177664) (hr:r < 8589934592):Ans prog 298 [rA [DV.int .u64 ph,DV.int .u64 pl,DV.int .u64 q,DV.int .u64 r,DV.int .u64 d],rA [DV.int .u64 nh,DV.int .u64 nl]] (rJ ((jZF q r (wV nh nl)))):=
 zQa (Γ:=jKb) aL zQf Tryz.func298 rfl (nL rfl) fun hwf=>by
  refine Eq.mpr (by kernel_rfl:_=(let a:=(dJ (jZF q r (wV nh nl))); let b:=[DV.int .u64 (hiW (q*q*r)),DV.int .u64 (loW (q*q*r))]; let c:=[DV.int .u64 (hiW (nl*nl)),DV.int .u64 (loW (nl*nl))]; let e:=(dJ (cmpI (wV (hiW (q*q*r)) (loW (q*q*r))) (wV (hiW (nl*nl)) (loW (nl*nl))))); tU6 (((decide (nh > 0))=true→True∧rJ (-1:Int)=rD a)∧((decide (nh > 0))=false→True∧(Ans prog 294 [rA [DV.int .u64 ph,DV.int .u64 pl,DV.int .u64 q,DV.int .u64 r,DV.int .u64 d]] (rA b))∧tU4 ((Ans prog 276 [rD (DV.int .u64 nl),rD (DV.int .u64 nl)] (rA c))∧(Ans prog 299 [rA b,rA c] (rD e))∧True∧(true=true)∧rD e=rD a))))) ?_
  delta dJ rJ
  simp only [sS,zXH]
  simp only [RV.wfs,RV.wf,DV.wf,DV.wfs] at hwf
  have mi:IntKind.min .u64=0:=rfl
  have ma:IntKind.max .u64=18446744073709551615:=rfl
  have mj:IntKind.min .u16=0:=rfl
  have mb:IntKind.max .u16=65535:=rfl
  simp only [mi,ma,mj,mb] at hwf
  obtain ⟨⟨w1,w2,w3,w4,w5,_⟩,⟨w6,w7,_⟩,_⟩:=hwf
  have hP:0≤wV ph pl∧wV ph pl < 79228162514264337593543950336:=by unfold wV; omega
  have x1:=zQg w3.1 (show q≤70368744177664 by omega) w3.1 (show q≤70368744177664 by omega)
  have x2:=zQg x1.1 x1.2 w4.1 (show r≤8589934592 by omega)
  have S:=zY3 ph pl q r d hp hq hr
  have M:=zQW nl nl
  have Cc:=zQ9 (hiW (q*q*r)) (loW (q*q*r)) (hiW (nl*nl)) (loW (nl*nl))
  refine ⟨fun h=>?_,fun h=>?_⟩
  ·unfold jZF
   rw [if_pos (by unfold wV; omega)]
  ·have e:nh=0:=by omega
   subst e
   refine ⟨S,M,Cc,?_⟩
   rw [zVB,zYN,zYN]
   unfold jZF
   rw [if_neg (by omega)]
theorem zHr (ph pl q r d:Int) (hp:ph < 4294967296) (hq:q < 70368744177664) (hr:r < 8589934592) (hd:1≤d) (hf:(⟨wV ph pl,q,r,d⟩:Ex).floor < 4611686018427387904):Ans prog 278 [rA [DV.int .u64 ph,DV.int .u64 pl,DV.int .u64 q,DV.int .u64 r,DV.int .u64 d]] (rT [rD (DV.int .u64 ((⟨wV ph pl,q,r,d⟩:Ex).floor)),rD (dQ true)]):=
 zQa (Γ:=jKb) aL zQf Tryz.func278 rfl (nL rfl) fun hwf=>by
  refine Eq.mpr (by kernel_rfl:_=(let b:=(zXc (wV (hiW (q*q*r)) (loW (q*q*r)))); let c:=(addW (wV ph pl) (wV 0 b)); let f:=(wV (hiW c) (loW c)); let a:=(f / d); let g:=(decide ((hiW a) > 0)); let h:=(decide ((loW a)≥9223372036854775808)); let i:=[rA [DV.int .u64 ph,DV.int .u64 pl,DV.int .u64 q,DV.int .u64 r,DV.int .u64 d]]; let o:=[rD (DV.int .u64 (0:Int)),rD (dQ false)]; let j:=[rD (DV.int .u64 (⟨wV ph pl,q,r,d⟩:Ex).floor),rD (dQ true)]; let e:=(rT o=rT j); let k:=[DV.int .u64 (hiW (q*q*r)),DV.int .u64 (loW (q*q*r))]; let l:=(DV.int .u64 b); let m:=[DV.int .u64 0,DV.int .u64 b]; let n:=[DV.int .u64 (hiW c),DV.int .u64 (loW c)]; tU4 ((Ans prog 291 i (rD (dQ (exOk ph q r d))))∧True∧(((!(exOk ph q r d))=true→tU2 e)∧((!(exOk ph q r d))=false→tU3 ((Ans prog 294 i (rA k))∧(Ans prog 293 [rA k] (rD l))∧(Ans prog 292 [rD l] (rA m))∧(Ans prog 275 [rA [DV.int .u64 ph,DV.int .u64 pl],rA m] (rT [rA n,rD (dQ (addK (wV ph pl) (wV 0 b)))]))∧tU6 ((true=true)∧tU3 ((Ans prog 295 [rA n,rD (DV.int .u64 d)] (rT [rA [DV.int .u64 (hiW a),DV.int .u64 (loW a)],rD (DV.int .u64 (f % d)),rD (dQ true)]))∧tU4 (tU8 ((g=false→tU4 ((h=true→tU2 e)∧(h=false→tU4 (rT [rD (DV.int .u64 (loW a)),rD (dQ true)]=rT j))))∧(g=(!false)→tU3 e))))))))))) ?_
  delta dQ
  simp only [sS,zXH]
  simp only [RV.wfs,RV.wf,DV.wf,DV.wfs] at hwf
  have mi:IntKind.min .u64=0:=rfl
  have ma:IntKind.max .u64=18446744073709551615:=rfl
  have mj:IntKind.min .u16=0:=rfl
  have mb:IntKind.max .u16=65535:=rfl
  simp only [mi,ma,mj,mb] at hwf
  obtain ⟨⟨w1,w2,w3,w4,w5,_⟩,_⟩:=hwf
  have hP:0≤wV ph pl∧wV ph pl < 79228162514264337593543950336:=by unfold wV; omega
  have x1:=zQg w3.1 (show q≤70368744177664 by omega) w3.1 (show q≤70368744177664 by omega)
  have x2:=zQg x1.1 x1.2 w4.1 (show r≤8589934592 by omega)
  have eok:(⟨wV ph pl,q,r,d⟩:Ex).ok:=⟨hP.1,w3.1,w4.1,by simp only; omega⟩
  have hok:exOk ph q r d=true:=by simp [exOk]; omega
  have S:=zY3 ph pl q r d hp hq hr
  have up0:=Ex.up_nonneg eok (t:=1) (by omega)
  have e1:(⟨wV ph pl,q,r,d⟩:Ex).up 1=wV ph pl+zXc (q*q*r):=by unfold Ex.up; simp only [Int.one_mul]
  have fl:(⟨wV ph pl,q,r,d⟩:Ex).floor=(wV ph pl+zXc (q*q*r)) / d:=by unfold Ex.floor; rw [e1]
  have F0:0≤(⟨wV ph pl,q,r,d⟩:Ex).floor:=Int.ediv_nonneg up0 w5.1
  obtain ⟨r0,_,_⟩:=zYW (n:=q*q*r) (by omega)
  have r3:zXc (q*q*r) < 18446744073709551616:=(jQG (by omega) (by decide)).2 (by omega)
  have Q:=jQt (hiW (q*q*r)) (loW (q*q*r))
  rw [zYN] at Q
  have A:=zZW ph pl 0 (zXc (q*q*r))
  rw [zVB] at A
  have ad:addW (wV ph pl) (zXc (q*q*r))=wV ph pl+zXc (q*q*r):=by unfold addW; rw [if_pos (by omega)]
  rw [ad] at A
  have D:=zKv (hiW (wV ph pl+zXc (q*q*r))) (loW (wV ph pl+zXc (q*q*r))) d hd
  rw [zYN,← fl] at D
  have h1:hiW (⟨wV ph pl,q,r,d⟩:Ex).floor=0:=zYo F0 (by omega)
  have h2:loW (⟨wV ph pl,q,r,d⟩:Ex).floor=(⟨wV ph pl,q,r,d⟩:Ex).floor:=zX6 F0 (by omega)
  rw [h1,h2] at D
  simp only [hok,zYN,zVB,ad,← fl,h1,h2]
  exact ⟨fun h=>(by cases h),fun _=>⟨S,Q,zXf _,A,D,fun _=>⟨fun h=>(by omega),fun _=>trivial⟩,fun h=>absurd h (by decide)⟩⟩
theorem jXW (ph pl q r d f:Int) (hp:ph < 4294967296) (hq:q < 70368744177664) (hr:r < 8589934592) (hd:1≤d) (hf:f < 4611686018427387904):Ans prog 279 [rA [DV.int .u64 ph,DV.int .u64 pl,DV.int .u64 q,DV.int .u64 r,DV.int .u64 d],rD (DV.int .u64 f)] (rD (dQ (upB (⟨wV ph pl,q,r,d⟩:Ex) f))):=
 zQa (Γ:=jKb) aL zQf Tryz.func279 rfl (nL rfl) fun hwf=>by
  refine Eq.mpr (by kernel_rfl:_=(let c:=(wV ph pl*2); let e:=(wV (hiW c) (loW c)); let s:=[DV.int .u64 (hiW c),DV.int .u64 (loW c)]; let t:=(wrap .u64 ((wrap .u64 ((2:Int)*f))+1)); let g:=(t*d); let h:=(wV (hiW g) (loW g)); let i:=(subW h e); let u:=(wV (hiW i) (loW i)); let n:=(u % (2:Int)); let v:=(u / (2:Int)); let j:=(hiW v); let a:=(loW v); let k:=(wV j a); let l:=(a*a); let w:=(wV (hiW l) (loW l)); let o:=(addK w k); let m:=(addW w k); let x:=(cmpI (wV (hiW (q*q*r)) (loW (q*q*r))) (wV (hiW m) (loW m))); let y:=[DV.int .u64 (hiW g),DV.int .u64 (loW g)]; let z:=[DV.int .u64 (hiW i),DV.int .u64 (loW i)]; let b:=(dQ (upB (⟨wV ph pl,q,r,d⟩:Ex) f)); let p:=[DV.int .u64 j,DV.int .u64 a]; let A:=[DV.int .u64 ph,DV.int .u64 pl,DV.int .u64 q,DV.int .u64 r,DV.int .u64 d]; let B:=(DV.int .u64 a); let C:=[DV.int .u64 (hiW l),DV.int .u64 (loW l)]; let D:=[DV.int .u64 (hiW m),DV.int .u64 (loW m)]; let E:=[DV.int .u64 (hiW (q*q*r)),DV.int .u64 (loW (q*q*r))]; tU4 ((Ans prog 296 [rA [DV.int .u64 ph,DV.int .u64 pl],rD (DV.int .u64 (2:Int))] (rT [rA s,rD (dQ true)]))∧tU3 (tU8 ((Ans prog 276 [rD (DV.int .u64 t),rD (DV.int .u64 d)] (rA y))∧True∧(Ans prog 297 [rA y,rA s] (rT [rA z,rD (dQ (subK h e))]))∧tU6 ((true=true)∧tU2 (((!(subK h e))=true→True∧rD (dQ true)=rD b)∧((!(subK h e))=false→True∧(Ans prog 295 [rA z,rD (DV.int .u64 (2:Int))] (rT [rA p,rD (DV.int .u64 n),rD (dQ true)]))∧tU4 (tU8 (((decide (j > 0))=true→True∧rD (dQ false)=rD b)∧((decide (j > 0))=false→tU3 (((n==0)=true→tU2 ((Ans prog 298 [rA A,rA p] (rJ (jZF q r k)))∧tU2 (rD (dQ (decide ((jZF q r k)≥0)))=rD b)))∧((n==0)=false→tU4 ((Ans prog 276 [rD B,rD B] (rA C))∧True∧(Ans prog 275 [rA C,rA p] (rT [rA D,rD (dQ o)]))∧tU6 ((true=true)∧tU2 ((o=true→True∧(Ans prog 294 [rA A] (rA E))∧True∧(Ans prog 299 [rA E,rA D] (rJ x))∧tU3 ((true=true)∧rD (dQ (decide (x > 0)))=rD b))∧(o=(!true)→tU2 ((true=true)∧rD (dQ false)=rD b)))))))))))))))))) ?_
  delta dQ rJ
  simp only [sS,zXH]
  simp only [RV.wfs,RV.wf,DV.wf,DV.wfs] at hwf
  have mi:IntKind.min .u64=0:=rfl
  have ma:IntKind.max .u64=18446744073709551615:=rfl
  have mj:IntKind.min .u16=0:=rfl
  have mb:IntKind.max .u16=65535:=rfl
  simp only [mi,ma,mj,mb] at hwf
  obtain ⟨⟨w1,w2,w3,w4,w5,_⟩,w6,_⟩:=hwf
  have hP:0≤wV ph pl∧wV ph pl < 79228162514264337593543950336:=by unfold wV; omega
  have x1:=zQg w3.1 (show q≤70368744177664 by omega) w3.1 (show q≤70368744177664 by omega)
  have x2:=zQg x1.1 x1.2 w4.1 (show r≤8589934592 by omega)
  have eok:(⟨wV ph pl,q,r,d⟩:Ex).ok:=⟨hP.1,w3.1,w4.1,by simp only; omega⟩
  have wf1:wrap .u64 (2*f)=2*f:=IntWalk.u64_in _ ⟨by omega,by omega⟩
  have wf2:wrap .u64 (2*f+1)=2*f+1:=IntWalk.u64_in _ ⟨by omega,by omega⟩
  simp only [wf1,wf2,zYN]
  have n0:=zQg (x:=2*f+1) (A:=9223372036854775807) (by omega) (by omega) w5.1 w5.2
  have ub:upB (⟨wV ph pl,q,r,d⟩:Ex) f=decide ((2*f+1)*d≤(⟨wV ph pl,q,r,d⟩:Ex).up 2):=rfl
  have MS:=zJy ph pl 2 (by omega)
  have MU:=zQW (2*f+1) d
  have SB:=zJe (hiW ((2*f+1)*d)) (loW ((2*f+1)*d)) (hiW (wV ph pl*2)) (loW (wV ph pl*2))
  rw [zYN,zYN] at SB
  rw [ub]
  clear ub
  have un:=fun n h=>jGl eok (n:=n) h
  have ue:=fun m h=>jKv eok (m:=m) h
  have uo:=fun m h=>jGk eok (m:=m) h
  have ubg:=fun m h=>jGm eok (m:=m) h (by simp only; omega)
  have SQ:=zY3 ph pl q r d hp hq hr
  simp only at un ue uo ubg
  generalize hN:(2*f+1)*d=N at *
  generalize (⟨wV ph pl,q,r,d⟩:Ex).up 2=V at *
  refine ⟨MS,MU,SB,fun h=>?_,fun h=>?_⟩
  ·have h:¬ wV ph pl*2≤N:=of_decide_eq_false h
   exact (decide_eq_true (un N (by omega))).symm
  have h:wV ph pl*2≤N:=of_decide_eq_true h
  have sw:subW N (wV ph pl*2)=N - wV ph pl*2:=by unfold subW; rw [if_neg (by omega)]
  simp only [sw,zYN]
  obtain ⟨K,hK⟩:∃ K,K=N - wV ph pl*2:=⟨_,rfl⟩
  rw [← hK]
  have DM:=zKv (hiW K) (loW K) 2 (by decide)
  rw [zYN] at DM
  have hN2:N=K+2*wV ph pl:=by omega
  rw [hN2]
  clear hN hN2 sw SB MS MU
  have e2:=Int.emod_add_mul_ediv K 2
  have m0:0≤K / 2:=by omega
  refine ⟨DM,fun h1=>?_,fun h1=>?_⟩
  ·have h1:¬ K / 2 < 18446744073709551616:=by unfold hiW at h1; omega
   have:=ubg (K / 2) (by omega)
   exact (decide_eq_false (by omega)).symm
  have h1:K / 2 < 18446744073709551616:=by unfold hiW at h1; omega
  have z1:hiW (K / 2)=0:=zYo m0 h1
  have z2:loW (K / 2)=K / 2:=zX6 m0 h1
  simp only [z1,z2,zVB,zYN]
  have R:=jQw ph pl q r d 0 (K / 2) hp hq hr
  rw [zVB] at R
  have ME:=zQW (K / 2) (K / 2)
  have AE:=zZW (hiW (K / 2*(K / 2))) (loW (K / 2*(K / 2))) 0 (K / 2)
  rw [zVB,zYN] at AE
  have mm:=zQg m0 (show K / 2≤18446744073709551615 by omega) m0 (show K / 2≤18446744073709551615 by omega)
  have ea:addW (K / 2*(K / 2)) (K / 2)=K / 2*(K / 2)+K / 2:=by unfold addW; rw [if_pos (by omega)]
  have ek:addK (K / 2*(K / 2)) (K / 2)=true:=decide_eq_true (by omega)
  have CE:=zQ9 (hiW (q*q*r)) (loW (q*q*r)) (hiW (K / 2*(K / 2)+K / 2)) (loW (K / 2*(K / 2)+K / 2))
  rw [zYN,zYN] at CE
  rw [ea] at AE ⊢
  have ge:∀ a b:Int,0≤cmpI a b↔b≤a:=fun a b=>jU6
  have gt:∀ a b:Int,cmpI a b > 0↔b < a:=fun a b=>by unfold cmpI; grind
  refine ⟨fun h2=>⟨R,?_⟩,fun h2=>⟨ME,AE,fun _=>⟨SQ,CE,?_⟩,fun h=>(by rw [ek] at h; cases h)⟩⟩
  ·have h2:K % 2=0:=by simpa using h2
   have ev:=ue (K / 2) m0
   rw [decide_eq_decide,show K+2*wV ph pl=2*(K / 2)+2*wV ph pl by omega,ev]
   unfold jZF
   rw [if_neg (by omega)]
   exact ge _ _
  ·have h2:¬ K % 2=0:=by simpa using h2
   have ev:=uo (K / 2) m0
   rw [decide_eq_decide,show K+2*wV ph pl=2*(K / 2)+1+2*wV ph pl by omega,ev]
   exact gt _ _
theorem zV0 (ph pl q r d:Int) (hp:ph < 4294967296) (hq:q < 70368744177664) (hr:r < 8589934592) (hd:1≤d) (hf:(⟨wV ph pl,q,r,d⟩:Ex).floor < 4611686018427387904):Ans prog 263 [rA [DV.int .u64 ph,DV.int .u64 pl,DV.int .u64 q,DV.int .u64 r,DV.int .u64 d]] (rT [rD (DV.int .u64 ((⟨wV ph pl,q,r,d⟩:Ex).half)),rD (dQ true)]):=
 zQa (Γ:=jKb) aL zQf Tryz.func263 rfl (nL rfl) fun hwf=>by
  refine Eq.mpr (by kernel_rfl:_=(let c:=[DV.int .u64 ph,DV.int .u64 pl,DV.int .u64 q,DV.int .u64 r,DV.int .u64 d]; let e:=(DV.int .u64 (⟨wV ph pl,q,r,d⟩:Ex).floor); let f:=[rD e,rD (dQ true)]; let i:=[rD (DV.int .u64 (0:Int)),rD (dQ false)]; let a:=[rD (DV.int .u64 (⟨wV ph pl,q,r,d⟩:Ex).half),rD (dQ true)]; let b:=(rT i=rT a); let g:=(wrap .u64 ((⟨wV ph pl,q,r,d⟩:Ex).floor+1)); let h:=(decide (g≥9223372036854775808)); tU4 ((Ans prog 278 [rA c] (rT f))∧tU7 (((!true)=true→tU2 b)∧((!true)=false→tU2 ((Ans prog 279 [rA c,rD e] (rD (dQ (upB (⟨wV ph pl,q,r,d⟩:Ex) (⟨wV ph pl,q,r,d⟩:Ex).floor))))∧(((upB (⟨wV ph pl,q,r,d⟩:Ex) (⟨wV ph pl,q,r,d⟩:Ex).floor)=true→tU5 ((h=true→tU2 b)∧(h=false→tU3 (rT [rD (DV.int .u64 g),rD (dQ true)]=rT a))))∧((upB (⟨wV ph pl,q,r,d⟩:Ex) (⟨wV ph pl,q,r,d⟩:Ex).floor)=false→tU2 (((decide ((⟨wV ph pl,q,r,d⟩:Ex).floor≥9223372036854775808))=true→tU2 b)∧((decide ((⟨wV ph pl,q,r,d⟩:Ex).floor≥9223372036854775808))=false→tU3 (rT f=rT a))))))))))) ?_
  delta dQ
  simp only [sS,zXH]
  simp only [RV.wfs,RV.wf,DV.wf,DV.wfs] at hwf
  have mi:IntKind.min .u64=0:=rfl
  have ma:IntKind.max .u64=18446744073709551615:=rfl
  have mj:IntKind.min .u16=0:=rfl
  have mb:IntKind.max .u16=65535:=rfl
  simp only [mi,ma,mj,mb] at hwf
  obtain ⟨⟨w1,w2,w3,w4,w5,_⟩,_⟩:=hwf
  have hP:0≤wV ph pl∧wV ph pl < 79228162514264337593543950336:=by unfold wV; omega
  have x1:=zQg w3.1 (show q≤70368744177664 by omega) w3.1 (show q≤70368744177664 by omega)
  have x2:=zQg x1.1 x1.2 w4.1 (show r≤8589934592 by omega)
  have eok:(⟨wV ph pl,q,r,d⟩:Ex).ok:=⟨hP.1,w3.1,w4.1,by simp only; omega⟩
  have F:=zHr ph pl q r d hp hq hr hd hf
  have up0:=Ex.up_nonneg eok (t:=1) (by omega)
  have F0:0≤(⟨wV ph pl,q,r,d⟩:Ex).floor:=Int.ediv_nonneg up0 w5.1
  have U:=jXW ph pl q r d (⟨wV ph pl,q,r,d⟩:Ex).floor hp hq hr hd hf
  have hh:=Ex.half_floor eok
  have ub:upB (⟨wV ph pl,q,r,d⟩:Ex) (⟨wV ph pl,q,r,d⟩:Ex).floor=decide ((2*(⟨wV ph pl,q,r,d⟩:Ex).floor+1)*d≤(⟨wV ph pl,q,r,d⟩:Ex).up 2):=rfl
  rw [IntWalk.u64_in ((⟨wV ph pl,q,r,d⟩:Ex).floor+1) ⟨by omega,by omega⟩]
  generalize (⟨wV ph pl,q,r,d⟩:Ex).floor=fl at *
  refine ⟨F,fun h=>(by cases h),U,fun h=>?_,fun h=>?_⟩
  ·rw [ub] at h
   rw [hh,if_pos (of_decide_eq_true h)]
   exact ⟨fun h=>(by omega),fun _=>rfl⟩
  ·rw [ub] at h
   rw [hh,if_neg (of_decide_eq_false h)]
   exact ⟨fun h=>(by omega),fun _=>rfl⟩
def jYE:Gam where
 pure:=fun f xs=>
  if f=217 then gZ24 xs else
  if f=303 then (match xs with | [.d (.int _ p),.d (.int _ den)]=>some (RV.agg [DV.int .u64 0,DV.int .u64 p,DV.int .u64 0,DV.int .u64 0,DV.int .u64 den]) | _=>none) else
  if f=304 then (match xs with | [.d (.int _ s),.d (.int _ a),.d (.int _ d),.d (.int _ b),.d (.bool tw)]=>some (RV.d (DV.int .u64 (zUK s a d b tw))) | _=>none) else
  if f=307 then (match xs with | [.d (.int _ s),.d (.int _ a),.d (.int _ d),.d (.int _ b)]=>let c:=(zJT s a d b); some (RV.agg [DV.int .u64 (hiW c.p),DV.int .u64 (loW c.p),DV.int .u64 c.q,DV.int .u64 c.r,DV.int .u64 c.d]) | _=>none) else
  if f=305 then (match xs with | [.d (.int _ s),.d (.int _ a),.d (.int _ d),.d (.int _ b)]=>let c:=(zKS s a d b); some (RV.agg [DV.int .u64 (hiW c.p),DV.int .u64 (loW c.p),DV.int .u64 c.q,DV.int .u64 c.r,DV.int .u64 c.d]) | _=>none) else
  if f=306 then (match xs with | [.d (.int _ s),.d (.int _ a),.d (.int _ d),.d (.int _ b)]=>let c:=(zUb s a d b); some (RV.agg [DV.int .u64 (hiW c.p),DV.int .u64 (loW c.p),DV.int .u64 c.q,DV.int .u64 c.r,DV.int .u64 c.d]) | _=>none) else
  if f=290 then (match xs with | [.d (.int _ mode),.d (.int _ s),.d (.int _ a),.d (.int _ d),.d (.int _ b)]=>let c:=(zQr mode s a d b); some (RV.agg [DV.int .u64 (hiW c.p),DV.int .u64 (loW c.p),DV.int .u64 c.q,DV.int .u64 c.r,DV.int .u64 c.d]) | _=>none) else
  none
 modes:=fun f=>
  none
 proc:=fun f xs bs=>
  none
 iter:=fun f cs=>
  none
theorem zZn (p den:Int):Ans prog 303 [rD (DV.int .u64 p),rD (DV.int .u64 den)] (rA [DV.int .u64 0,DV.int .u64 p,DV.int .u64 0,DV.int .u64 0,DV.int .u64 den]):=
 zQa (Γ:=jYE) aL zQf Tryz.func303 rfl (nL rfl) fun hwf=>by
  refine Eq.mpr (by kernel_rfl:_=(tU6 (rA [DV.int .u64 (0:Int),DV.int .u64 p,DV.int .u64 (0:Int),DV.int .u64 (0:Int),DV.int .u64 den]=rA [DV.int .u64 0,DV.int .u64 p,DV.int .u64 0,DV.int .u64 0,DV.int .u64 den]))) ?_
  simp only [sS]
theorem zHF (s a d b:Int) (tw:Bool) (h0:0≤s) (h1:s≤a) (h2:0≤d) (h3:d≤b) (ha:a≤65535) (hb:b≤65535) (h5:0≤zUK s a d b tw):Ans prog 304 [rD (DV.int .u64 s),rD (DV.int .u64 a),rD (DV.int .u64 d),rD (DV.int .u64 b),rD (dQ tw)] (rD (DV.int .u64 (zUK s a d b tw))):=
 zQa (Γ:=jYE) aL zQf Tryz.func304 rfl (nL rfl) fun hwf=>by
  refine Eq.mpr (by kernel_rfl:_=(let c:=(DV.int .u64 (zUK s a d b tw)); tU2 ((tw=true→tU5 (rD (DV.int .u64 (wrap .u64 ((wrap .u64 ((2:Int)*s))*d)))=rD c))∧(tw=false→tU5 (tU8 (rD (DV.int .u64 (wrap .u64 ((wrap .u64 (a*b)) - (wrap .u64 ((wrap .u64 ((2:Int)*(wrap .u64 (b - d))))*(wrap .u64 (a - s)))))))=rD c)))))) ?_
  simp only [sS,zZn]
  have W:∀ x:Int,0≤x→x < 18446744073709551616→wrap .u64 x=x:=fun x x0 x1=>IntWalk.u64_in x ⟨x0,by omega⟩
  have p1:=zQg (x:=2*s) (y:=d) (A:=131070) (B:=65535) (by omega) (by omega) h2 (by omega)
  have p2:=zQg (x:=a) (y:=b) (A:=65535) (B:=65535) (by omega) ha (by omega) hb
  have p3:=zQg (x:=2*(b - d)) (y:=a - s) (A:=131070) (B:=65535) (by omega) (by omega) (by omega) (by omega)
  simp only [W (2*s) (by omega) (by omega),W (b - d) (by omega) (by omega),W (2*(b - d)) (by omega) (by omega),W (a - s) (by omega) (by omega),W (a*b) (by omega) (by omega),W (2*s*d) (by omega) (by omega),W (2*(b - d)*(a - s)) (by omega) (by omega)]
  unfold zUK at h5 ⊢
  refine ⟨fun h=>by rw [h]; rfl,fun h=>?_⟩
  rw [h] at h5 ⊢
  rw [if_neg (by decide)] at h5 ⊢
  exact W _ h5 (by omega)
theorem zHE (s a d b:Int) (h0:0≤s) (h1:s≤a) (h2:0≤d) (h3:d≤b) (ha:a≤65535) (hb:b≤65535):Ans prog 307 [rD (DV.int .u64 s),rD (DV.int .u64 a),rD (DV.int .u64 d),rD (DV.int .u64 b)] (rA [DV.int .u64 (hiW (zJT s a d b).p),DV.int .u64 (loW (zJT s a d b).p),DV.int .u64 ((zJT s a d b).q),DV.int .u64 ((zJT s a d b).r),DV.int .u64 ((zJT s a d b).d)]):=
 zQa (Γ:=jYE) aL zQf Tryz.func307 rfl (nL rfl) fun hwf=>by
  refine Eq.mpr (by kernel_rfl:_=(let h:=(decide ((wrap .u64 ((4:Int)*d))≤b)); let c:=(zJT s a d b); let i:=[DV.int .u64 0,DV.int .u64 (0:Int),DV.int .u64 0,DV.int .u64 0,DV.int .u64 (1:Int)]; let e:=[DV.int .u64 (hiW c.p),DV.int .u64 (loW c.p),DV.int .u64 c.q,DV.int .u64 c.r,DV.int .u64 c.d]; let f:=(wrap .u64 ((2:Int)*s)); let j:=(wrap .u64 ((wrap .u64 (d*a))*b)); let k:=(wrap .u64 (j - (wrap .u64 ((wrap .u64 ((wrap .u64 (a - f))*d))*(wrap .u64 (b - d)))))); let l:=[DV.int .u64 0,DV.int .u64 k,DV.int .u64 0,DV.int .u64 0,DV.int .u64 b]; let m:=(wrap .u64 (f - a)); let n:=(wrap .u64 ((wrap .u64 (j*b))+(wrap .u64 ((wrap .u64 (m*d))*(wrap .u64 ((wrap .u64 ((wrap .u64 ((wrap .u64 ((16:Int)*d))*d))+(wrap .u64 ((wrap .u64 ((3:Int)*b))*b)))) - (wrap .u64 ((wrap .u64 ((12:Int)*d))*b)))))))); let o:=[DV.int .u64 0,DV.int .u64 n,DV.int .u64 0,DV.int .u64 0,DV.int .u64 (wrap .u64 (b*b))]; let g:=(wrap .u64 ((wrap .u64 ((2:Int)*d))*(wrap .u64 (a - s)))); tU4 (((b==0)=true→(Ans prog 303 [rD (DV.int .u64 (0:Int)),rD (DV.int .u64 (1:Int))] (rA i))∧True∧rA i=rA e)∧((b==0)=false→tU5 (((decide (f≤a))=true→True∧tU8 (tU8 ((Ans prog 303 [rD (DV.int .u64 k),rD (DV.int .u64 b)] (rA l))∧True∧rA l=rA e)))∧((decide (f≤a))=false→tU5 ((h=true→tU8 (tU8 (tU8 (tU8 ((Ans prog 303 [rD (DV.int .u64 n),rD (DV.int .u64 (wrap .u64 (b*b)))] (rA o))∧True∧rA o=rA e)))))∧(h=false→tU6 ((Ans prog 303 [rD (DV.int .u64 g),rD (DV.int .u64 (1:Int))] (rA [DV.int .u64 0,DV.int .u64 g,DV.int .u64 0,DV.int .u64 0,DV.int .u64 (1:Int)]))∧tU7 (tU8 (rA [DV.int .u64 0,DV.int .u64 g,DV.int .u64 m,DV.int .u64 (wrap .u64 (d*b)),DV.int .u64 (1:Int)]=rA e))))))))))) ?_
  simp only [sS,zZn]
  have W:∀ x:Int,0≤x→x < 18446744073709551616→wrap .u64 x=x:=fun x x0 x1=>IntWalk.u64_in x ⟨x0,by omega⟩
  have p1:=zQg (x:=d) (y:=a) (A:=65535) (B:=65535) h2 (by omega) (by omega) ha
  have p2:=zQg (x:=b) (y:=b) (A:=65535) (B:=65535) (by omega) hb (by omega) hb
  have p5:=zQg (x:=d) (y:=b) (A:=65535) (B:=65535) h2 (by omega) (by omega) hb
  have p6:=zQg (x:=d*a) (y:=b) (A:=4294836225) (B:=65535) p1.1 (by omega) (by omega) hb
  have su:=zU7 h0 h1 h2 h3
  simp only [W (2*s) (by omega) (by omega),W (d*a) p1.1 (by omega),W (b - d) (by omega) (by omega),W (a - s) (by omega) (by omega),W (b*b) p2.1 (by omega),W (4*d) (by omega) (by omega),W (d*b) p5.1 (by omega),W (16*d) (by omega) (by omega),W (3*b) (by omega) (by omega),W (12*d) (by omega) (by omega),W (2*d) (by omega) (by omega),W (d*a*b) p6.1 (by omega)]
  unfold zJT at su ⊢
  have fx:∀ x:Ex,0≤x.p→x.p < 18446744073709551616→0=hiW x.p∧x.p=loW x.p:=fun x a b=>⟨(zYo a b).symm,(zX6 a b).symm⟩
  refine ⟨fun h=>?_,fun h=>⟨fun c1=>?_,fun c1=>⟨fun c2=>?_,fun c2=>?_⟩⟩⟩
  ·have h:b=0:=by simpa using h
   rw [if_pos h]
   (repeat' (first | exact trivial | rfl | apply And.intro))
  ·have h:¬ b=0:=by simpa using h
   rw [if_neg h,if_pos c1] at su ⊢
   have q1:=zQg (x:=a - 2*s) (y:=d) (A:=65535) (B:=65535) (by omega) (by omega) h2 (by omega)
   have q2:=zQg (x:=(a - 2*s)*d) (y:=b - d) (A:=4294836225) (B:=65535) q1.1 (by omega) (by omega) (by omega)
   have q3:=su.ok.p
   simp only at q3
   simp only [W (a - 2*s) (by omega) (by omega),W ((a - 2*s)*d) q1.1 (by omega),W ((a - 2*s)*d*(b - d)) q2.1 (by omega),W (d*a*b - (a - 2*s)*d*(b - d)) q3 (by omega)]
   obtain ⟨e1,e2⟩:=fx _ su.ok.p (by simp only; omega)
   (repeat' (first | exact e1 | exact e2 | exact trivial | rfl | apply And.intro))
  ·have h:¬ b=0:=by simpa using h
   rw [if_neg h,if_neg c1,if_pos c2] at su ⊢
   have ⟨k1,k2⟩:=jYW h2 c2
   have e16:16*d*d=16*(d*d):=by grind
   have e12:12*d*b=12*(d*b):=by grind
   have e3:3*b*b=3*(b*b):=by grind
   have p7:=zQg (x:=d) (y:=d) (A:=65535) (B:=65535) h2 (by omega) h2 (by omega)
   have q1:=zQg (x:=2*s - a) (y:=d) (A:=65535) (B:=65535) (by omega) (by omega) h2 (by omega)
   have q4:=zQg (x:=d*a) (y:=b*b) (A:=4294836225) (B:=4294836225) p1.1 (by omega) p2.1 (by omega)
   have kk:16*d*d+3*b*b - 12*d*b≤81601888275:=by omega
   have q5:=zQg (x:=(2*s - a)*d) (y:=16*d*d+3*b*b - 12*d*b) (A:=4294836225) (B:=81601888275) q1.1 (by omega) k1 kk
   have ab:=zQg (x:=a) (y:=b) (A:=65535) (B:=65535) (by omega) ha (by omega) hb
   have abb:=zQg (x:=a*b) (y:=b*b) (A:=4294836225) (B:=4294836225) ab.1 (by omega) p2.1 (by omega)
   have up:=su.p
   simp only at up
   have e4:d*a*b*b=d*a*(b*b):=by rw [Int.mul_assoc (d*a)]
   have tot:d*a*(b*b)+(2*s - a)*d*(16*d*d+3*b*b - 12*d*b) < 18446744073709551616:=by omega
   simp only [W (16*d*d) (by omega) (by omega),W (3*b*b) (by omega) (by omega),W (16*d*d+3*b*b) (by omega) (by omega),W (12*d*b) (by omega) (by omega),W (16*d*d+3*b*b - 12*d*b) k1 (by omega),W (2*s - a) (by omega) (by omega),W ((2*s - a)*d) q1.1 (by omega),e4,W (d*a*(b*b)) q4.1 (by omega),W ((2*s - a)*d*(16*d*d+3*b*b - 12*d*b)) q5.1 (by omega),W (d*a*(b*b)+(2*s - a)*d*(16*d*d+3*b*b - 12*d*b)) (by omega) tot]
   obtain ⟨e1,e2⟩:=fx _ su.ok.p (by simp only; omega)
   (repeat' (first | exact e1 | exact e2 | exact trivial | rfl | apply And.intro))
  ·have h:¬ b=0:=by simpa using h
   rw [if_neg h,if_neg c1,if_neg c2]
   have q1:=zQg (x:=2*d) (y:=a - s) (A:=131070) (B:=65535) (by omega) (by omega) (by omega) (by omega)
   simp only [W (2*d*(a - s)) q1.1 (by omega),W (2*s - a) (by omega) (by omega)]
   have e1:=(zYo q1.1 (show 2*d*(a - s) < 18446744073709551616 by omega)).symm
   have e2:=(zX6 q1.1 (show 2*d*(a - s) < 18446744073709551616 by omega)).symm
   (repeat' (first | exact e1 | exact e2 | exact trivial | rfl | apply And.intro))
theorem zHb (s a d b:Int) (h0:0≤s) (h1:s≤a) (h2:0≤d) (h3:d≤b) (ha:a≤65535) (hb:b≤65535):Ans prog 305 [rD (DV.int .u64 s),rD (DV.int .u64 a),rD (DV.int .u64 d),rD (DV.int .u64 b)] (rA [DV.int .u64 (hiW (zKS s a d b).p),DV.int .u64 (loW (zKS s a d b).p),DV.int .u64 ((zKS s a d b).q),DV.int .u64 ((zKS s a d b).r),DV.int .u64 ((zKS s a d b).d)]):=
 zQa (Γ:=jYE) aL zQf Tryz.func305 rfl (nL rfl) fun hwf=>by
  refine Eq.mpr (by kernel_rfl:_=(let e:=(wrap .u64 (a - s)); let c:=(zKS s a d b); let g:=(decide ((wrap .u64 (d*a))≥(wrap .u64 (b*e)))); let h:=[DV.int .u64 0,DV.int .u64 (0:Int),DV.int .u64 0,DV.int .u64 0,DV.int .u64 (1:Int)]; let f:=[DV.int .u64 (hiW c.p),DV.int .u64 (loW c.p),DV.int .u64 c.q,DV.int .u64 c.r,DV.int .u64 c.d]; let i:=[DV.int .u64 0,DV.int .u64 (wrap .u64 (a*b)),DV.int .u64 0,DV.int .u64 0,DV.int .u64 (1:Int)]; let j:=(wrap .u64 ((wrap .u64 (a*a))*d)); let k:=[DV.int .u64 0,DV.int .u64 j,DV.int .u64 0,DV.int .u64 0,DV.int .u64 e]; tU4 (((d==0)=true→(Ans prog 303 [rD (DV.int .u64 (0:Int)),rD (DV.int .u64 (1:Int))] (rA h))∧True∧rA h=rA f)∧((d==0)=false→tU2 (tU8 ((g=true→tU3 ((Ans prog 303 [rD (DV.int .u64 (wrap .u64 (a*b))),rD (DV.int .u64 (1:Int))] (rA i))∧True∧rA i=rA f))∧(g=false→tU8 ((Ans prog 303 [rD (DV.int .u64 j),rD (DV.int .u64 e)] (rA k))∧True∧rA k=rA f)))))))) ?_
  simp only [sS,zZn]
  have W:∀ x:Int,0≤x→x < 18446744073709551616→wrap .u64 x=x:=fun x x0 x1=>IntWalk.u64_in x ⟨x0,by omega⟩
  have fin:∀ (x:Ex) (n X:Int),x=zZl n→0≤n→n < 18446744073709551616→X=n→(0=hiW x.p∧X=loW x.p∧0=x.q∧0=x.r∧1=x.d):=fun x n X e n0 n1 hX=>by
   rw [e,hX]
   exact ⟨(zYo n0 n1).symm,(zX6 n0 n1).symm,rfl,rfl,rfl⟩
  have fin2:∀ (x:Ex) (n e X D:Int),x=⟨n,0,0,e⟩→0≤n→n < 18446744073709551616→X=n→D=e→(0=hiW x.p∧X=loW x.p∧0=x.q∧0=x.r∧D=x.d):=fun x n e X D q n0 n1 hX hD=>by
   rw [q,hX,hD]
   exact ⟨(zYo n0 n1).symm,(zX6 n0 n1).symm,rfl,rfl,rfl⟩
  have a0:0≤a:=by omega
  have b0:0≤b:=by omega
  have sb:=zQg (x:=s) (y:=b) (A:=65535) (B:=65535) h0 (by omega) b0 hb
  have da:=zQg (x:=d) (y:=a) (A:=65535) (B:=65535) h2 (by omega) a0 ha
  have sd:=zQg (x:=s) (y:=d) (A:=65535) (B:=65535) h0 (by omega) h2 (by omega)
  have ab:=zQg (x:=a) (y:=b) (A:=65535) (B:=65535) a0 ha b0 hb
  have aa:=zQg (x:=a) (y:=a) (A:=65535) (B:=65535) a0 ha a0 ha
  have aad:=zQg (x:=a*a) (y:=d) (A:=4294836225) (B:=65535) aa.1 (by omega) h2 (by omega)
  have ba:=zQg (x:=b) (y:=a - s) (A:=65535) (B:=65535) b0 hb (by omega) (by omega)
  have bd:=zQg (x:=b - d) (y:=a) (A:=65535) (B:=65535) (by omega) (by omega) a0 ha
  have bda:=zQg (x:=(b - d)*a) (y:=a) (A:=4294836225) (B:=65535) bd.1 (by omega) a0 ha
  have abs:=zQg (x:=a*b) (y:=s) (A:=4294836225) (B:=65535) ab.1 (by omega) h0 (by omega)
  have s2:=zQg (x:=2*s) (y:=d) (A:=131070) (B:=65535) (by omega) (by omega) h2 (by omega)
  simp only [W (d*a) da.1 (by omega),W (a - s) (by omega) (by omega),W (b*(a - s)) ba.1 (by omega),W (a*b) ab.1 (by omega),W (a*a) aa.1 (by omega),W (a*a*d) aad.1 (by omega)]
  refine ⟨fun k=>?_,fun k=>⟨fun k2=>?_,fun k2=>?_⟩⟩
  ·have k:d=0:=by simpa using k
   exact fin _ 0 0 (by unfold zKS; rw [if_pos k]) (by omega) (by omega) rfl
  ·have k:¬ d=0:=by simpa using k
   exact fin _ (a*b) _ (by unfold zKS; rw [if_neg k,if_pos k2]) ab.1 (by omega) rfl
  ·have k:¬ d=0:=by simpa using k
   exact fin2 _ (a*a*d) (a - s) _ _ (by unfold zKS; rw [if_neg k,if_neg k2]) aad.1 (by omega) rfl rfl
theorem zHG (s a d b:Int) (h0:0≤s) (h1:s≤a) (h2:0≤d) (h3:d≤b) (ha:a≤65535) (hb:b≤65535):Ans prog 306 [rD (DV.int .u64 s),rD (DV.int .u64 a),rD (DV.int .u64 d),rD (DV.int .u64 b)] (rA [DV.int .u64 (hiW (zUb s a d b).p),DV.int .u64 (loW (zUb s a d b).p),DV.int .u64 ((zUb s a d b).q),DV.int .u64 ((zUb s a d b).r),DV.int .u64 ((zUb s a d b).d)]):=
 zQa (Γ:=jYE) aL zQf Tryz.func306 rfl (nL rfl) fun hwf=>by
  refine Eq.mpr (by kernel_rfl:_=(let e:=(wrap .u64 (a*b)); let c:=(zUb s a d b); let g:=[DV.int .u64 0,DV.int .u64 e,DV.int .u64 0,DV.int .u64 0,DV.int .u64 (1:Int)]; let f:=[DV.int .u64 (hiW c.p),DV.int .u64 (loW c.p),DV.int .u64 c.q,DV.int .u64 c.r,DV.int .u64 c.d]; let h:=(wrap .u64 ((wrap .u64 (b - d))*a)); let i:=(decide (h≥(wrap .u64 (s*b)))); let j:=[DV.int .u64 0,DV.int .u64 (0:Int),DV.int .u64 0,DV.int .u64 0,DV.int .u64 (1:Int)]; let k:=(wrap .u64 ((wrap .u64 (e*s)) - (wrap .u64 (h*a)))); let l:=[DV.int .u64 0,DV.int .u64 k,DV.int .u64 0,DV.int .u64 0,DV.int .u64 s]; tU5 (((d==b)=true→tU3 ((Ans prog 303 [rD (DV.int .u64 e),rD (DV.int .u64 (1:Int))] (rA g))∧True∧rA g=rA f))∧((d==b)=false→tU2 (tU8 ((i=true→(Ans prog 303 [rD (DV.int .u64 (0:Int)),rD (DV.int .u64 (1:Int))] (rA j))∧True∧rA j=rA f)∧(i=false→tU6 (tU8 ((Ans prog 303 [rD (DV.int .u64 k),rD (DV.int .u64 s)] (rA l))∧True∧rA l=rA f))))))))) ?_
  simp only [sS,zZn]
  have W:∀ x:Int,0≤x→x < 18446744073709551616→wrap .u64 x=x:=fun x x0 x1=>IntWalk.u64_in x ⟨x0,by omega⟩
  have fin:∀ (x:Ex) (n X:Int),x=zZl n→0≤n→n < 18446744073709551616→X=n→(0=hiW x.p∧X=loW x.p∧0=x.q∧0=x.r∧1=x.d):=fun x n X e n0 n1 hX=>by
   rw [e,hX]
   exact ⟨(zYo n0 n1).symm,(zX6 n0 n1).symm,rfl,rfl,rfl⟩
  have fin2:∀ (x:Ex) (n e X D:Int),x=⟨n,0,0,e⟩→0≤n→n < 18446744073709551616→X=n→D=e→(0=hiW x.p∧X=loW x.p∧0=x.q∧0=x.r∧D=x.d):=fun x n e X D q n0 n1 hX hD=>by
   rw [q,hX,hD]
   exact ⟨(zYo n0 n1).symm,(zX6 n0 n1).symm,rfl,rfl,rfl⟩
  have a0:0≤a:=by omega
  have b0:0≤b:=by omega
  have sb:=zQg (x:=s) (y:=b) (A:=65535) (B:=65535) h0 (by omega) b0 hb
  have da:=zQg (x:=d) (y:=a) (A:=65535) (B:=65535) h2 (by omega) a0 ha
  have sd:=zQg (x:=s) (y:=d) (A:=65535) (B:=65535) h0 (by omega) h2 (by omega)
  have ab:=zQg (x:=a) (y:=b) (A:=65535) (B:=65535) a0 ha b0 hb
  have aa:=zQg (x:=a) (y:=a) (A:=65535) (B:=65535) a0 ha a0 ha
  have aad:=zQg (x:=a*a) (y:=d) (A:=4294836225) (B:=65535) aa.1 (by omega) h2 (by omega)
  have ba:=zQg (x:=b) (y:=a - s) (A:=65535) (B:=65535) b0 hb (by omega) (by omega)
  have bd:=zQg (x:=b - d) (y:=a) (A:=65535) (B:=65535) (by omega) (by omega) a0 ha
  have bda:=zQg (x:=(b - d)*a) (y:=a) (A:=4294836225) (B:=65535) bd.1 (by omega) a0 ha
  have abs:=zQg (x:=a*b) (y:=s) (A:=4294836225) (B:=65535) ab.1 (by omega) h0 (by omega)
  have s2:=zQg (x:=2*s) (y:=d) (A:=131070) (B:=65535) (by omega) (by omega) h2 (by omega)
  have hu:=zZx (mode:=8) h0 h1 h2 h3
  have eb:zQr 8 s a d b=zUb s a d b:=rfl
  rw [eb] at hu
  simp only [W (s*b) sb.1 (by omega),W (b - d) (by omega) (by omega),W ((b - d)*a) bd.1 (by omega),W (a*b) ab.1 (by omega),W (a*b*s) abs.1 (by omega),W ((b - d)*a*a) bda.1 (by omega)]
  refine ⟨fun k=>?_,fun k=>⟨fun k2=>?_,fun k2=>?_⟩⟩
  ·have k:d=b:=by simpa using k
   exact fin _ (a*b) _ (by unfold zUb; rw [if_pos k]) ab.1 (by omega) rfl
  ·have k:¬ d=b:=by simpa using k
   exact fin _ 0 0 (by unfold zUb; rw [if_neg k,if_pos k2]) (by omega) (by omega) rfl
  ·have k:¬ d=b:=by simpa using k
   have e:zUb s a d b=⟨a*b*s - (b - d)*a*a,0,0,s⟩:=by unfold zUb; rw [if_neg k,if_neg k2]
   have q0:=hu.ok.p
   rw [e] at q0
   simp only at q0
   exact fin2 _ _ s _ _ e q0 (by omega) (W _ q0 (by omega)) rfl
theorem zHD (mode s a d b:Int) (h0:0≤s) (h1:s≤a) (h2:0≤d) (h3:d≤b) (ha:a≤65535) (hb:b≤65535):Ans prog 290 [rJ (mode),rD (DV.int .u64 s),rD (DV.int .u64 a),rD (DV.int .u64 d),rD (DV.int .u64 b)] (rA [DV.int .u64 (hiW (zQr mode s a d b).p),DV.int .u64 (loW (zQr mode s a d b).p),DV.int .u64 ((zQr mode s a d b).q),DV.int .u64 ((zQr mode s a d b).r),DV.int .u64 ((zQr mode s a d b).d)]):=
 zQa (Γ:=jYE) aL zQf Tryz.func290 rfl (nL rfl) fun hwf=>by
  refine Eq.mpr (by kernel_rfl:_=(let k:=(wrap .u64 (s*d)); let f:=(zJT s a d b); let g:=(zUb s a d b); let h:=(zKS s a d b); let i:=(zQr mode s a d b); let l:=(decide ((wrap .u64 ((2:Int)*d))≤b)); let m:=(wrap .u64 (d*a)); let e:=(DV.int .u64 (1:Int)); let j:=(wrap .u64 (s*b)); let n:=(max j m); let o:=(min j m); let r:=[DV.int .u64 0,DV.int .u64 j,DV.int .u64 0,DV.int .u64 0,DV.int .u64 (1:Int)]; let c:=[DV.int .u64 (hiW i.p),DV.int .u64 (loW i.p),DV.int .u64 i.q,DV.int .u64 i.r,DV.int .u64 i.d]; let t:=[DV.int .u64 0,DV.int .u64 k,DV.int .u64 0,DV.int .u64 0,DV.int .u64 (1:Int)]; let u:=(wrap .u64 (j+m)); let v:=(wrap .u64 (u - k)); let w:=[DV.int .u64 0,DV.int .u64 v,DV.int .u64 0,DV.int .u64 0,DV.int .u64 (1:Int)]; let x:=(DV.int .u64 (zUK s a d b l)); let y:=[DV.int .u64 0,DV.int .u64 (zUK s a d b l),DV.int .u64 0,DV.int .u64 0,DV.int .u64 (1:Int)]; let z:=[DV.int .u64 0,DV.int .u64 o,DV.int .u64 0,DV.int .u64 0,DV.int .u64 (1:Int)]; let A:=[DV.int .u64 0,DV.int .u64 n,DV.int .u64 0,DV.int .u64 0,DV.int .u64 (1:Int)]; let p:=[rD (DV.int .u64 s),rD (DV.int .u64 a),rD (DV.int .u64 d),rD (DV.int .u64 b)]; let B:=[DV.int .u64 (hiW h.p),DV.int .u64 (loW h.p),DV.int .u64 h.q,DV.int .u64 h.r,DV.int .u64 h.d]; let C:=[DV.int .u64 (hiW g.p),DV.int .u64 (loW g.p),DV.int .u64 g.q,DV.int .u64 g.r,DV.int .u64 g.d]; let q:=(wrap .u64 ((2:Int)*s)); let D:=(zUK s a d b (decide (q≤a))); let E:=(DV.int .u64 D); let F:=[DV.int .u64 0,DV.int .u64 D,DV.int .u64 0,DV.int .u64 0,DV.int .u64 (1:Int)]; let G:=[DV.int .u64 (hiW f.p),DV.int .u64 (loW f.p),DV.int .u64 f.q,DV.int .u64 f.r,DV.int .u64 f.d]; let H:=(wrap .u64 (n - o)); let I:=[DV.int .u64 0,DV.int .u64 H,DV.int .u64 0,DV.int .u64 0,DV.int .u64 (1:Int)]; let J:=(wrap .u64 (u - (wrap .u64 (q*d)))); let K:=[DV.int .u64 0,DV.int .u64 J,DV.int .u64 0,DV.int .u64 0,DV.int .u64 (1:Int)]; tU4 (((mode==1)=true→tU3 ((Ans prog 303 [rD (DV.int .u64 j),rD e] (rA r))∧True∧rA r=rA c))∧((mode==1)=false→tU2 (((mode==2)=true→tU3 ((Ans prog 303 [rD (DV.int .u64 k),rD e] (rA t))∧True∧rA t=rA c))∧((mode==2)=false→tU2 (((mode==3)=true→tU3 (tU8 ((Ans prog 303 [rD (DV.int .u64 v),rD e] (rA w))∧True∧rA w=rA c)))∧((mode==3)=false→tU2 (((mode==4)=true→tU8 ((Ans prog 304 [rD (DV.int .u64 s),rD (DV.int .u64 a),rD (DV.int .u64 d),rD (DV.int .u64 b),rD (dQ l)] (rD x))∧(Ans prog 303 [rD x,rD e] (rA y))∧True∧rA y=rA c))∧((mode==4)=false→tU2 (((mode==5)=true→tU7 ((Ans prog 303 [rD (DV.int .u64 o),rD e] (rA z))∧True∧rA z=rA c))∧((mode==5)=false→tU2 (((mode==6)=true→tU7 ((Ans prog 303 [rD (DV.int .u64 n),rD e] (rA A))∧True∧rA A=rA c))∧((mode==6)=false→tU2 (((mode==7)=true→tU4 ((Ans prog 305 p (rA B))∧True∧rA B=rA c))∧((mode==7)=false→tU2 (((mode==8)=true→tU4 ((Ans prog 306 p (rA C))∧True∧rA C=rA c))∧((mode==8)=false→tU2 (((mode==9)=true→tU8 ((Ans prog 304 [rD (DV.int .u64 s),rD (DV.int .u64 a),rD (DV.int .u64 d),rD (DV.int .u64 b),rD (dQ (decide (q≤a)))] (rD E))∧(Ans prog 303 [rD E,rD e] (rA F))∧True∧rA F=rA c))∧((mode==9)=false→tU2 (((mode==10)=true→tU4 ((Ans prog 307 p (rA G))∧True∧rA G=rA c))∧((mode==10)=false→tU2 (((mode==11)=true→tU7 (tU8 ((Ans prog 303 [rD (DV.int .u64 H),rD e] (rA I))∧True∧rA I=rA c)))∧((mode==11)=false→tU4 (tU8 ((Ans prog 303 [rD (DV.int .u64 J),rD e] (rA K))∧True∧rA K=rA c)))))))))))))))))))))))))) ?_
  delta dQ
  simp only [sS,zZn]
  have W:∀ x:Int,0≤x→x < 18446744073709551616→wrap .u64 x=x:=fun x x0 x1=>IntWalk.u64_in x ⟨x0,by omega⟩
  have fin:∀ (x:Ex) (n X:Int),x=zZl n→0≤n→n < 18446744073709551616→X=n→(0=hiW x.p∧X=loW x.p∧0=x.q∧0=x.r∧1=x.d):=fun x n X e n0 n1 hX=>by
   rw [e,hX]
   exact ⟨(zYo n0 n1).symm,(zX6 n0 n1).symm,rfl,rfl,rfl⟩
  have fin2:∀ (x:Ex) (n e X D:Int),x=⟨n,0,0,e⟩→0≤n→n < 18446744073709551616→X=n→D=e→(0=hiW x.p∧X=loW x.p∧0=x.q∧0=x.r∧D=x.d):=fun x n e X D q n0 n1 hX hD=>by
   rw [q,hX,hD]
   exact ⟨(zYo n0 n1).symm,(zX6 n0 n1).symm,rfl,rfl,rfl⟩
  have a0:0≤a:=by omega
  have b0:0≤b:=by omega
  have sb:=zQg (x:=s) (y:=b) (A:=65535) (B:=65535) h0 (by omega) b0 hb
  have da:=zQg (x:=d) (y:=a) (A:=65535) (B:=65535) h2 (by omega) a0 ha
  have sd:=zQg (x:=s) (y:=d) (A:=65535) (B:=65535) h0 (by omega) h2 (by omega)
  have ab:=zQg (x:=a) (y:=b) (A:=65535) (B:=65535) a0 ha b0 hb
  have aa:=zQg (x:=a) (y:=a) (A:=65535) (B:=65535) a0 ha a0 ha
  have aad:=zQg (x:=a*a) (y:=d) (A:=4294836225) (B:=65535) aa.1 (by omega) h2 (by omega)
  have ba:=zQg (x:=b) (y:=a - s) (A:=65535) (B:=65535) b0 hb (by omega) (by omega)
  have bd:=zQg (x:=b - d) (y:=a) (A:=65535) (B:=65535) (by omega) (by omega) a0 ha
  have bda:=zQg (x:=(b - d)*a) (y:=a) (A:=4294836225) (B:=65535) bd.1 (by omega) a0 ha
  have abs:=zQg (x:=a*b) (y:=s) (A:=4294836225) (B:=65535) ab.1 (by omega) h0 (by omega)
  have s2:=zQg (x:=2*s) (y:=d) (A:=131070) (B:=65535) (by omega) (by omega) h2 (by omega)
  have hu:=zZx (mode:=mode) h0 h1 h2 h3
  simp only [W (s*b) sb.1 (by omega),W (d*a) da.1 (by omega),W (s*d) sd.1 (by omega),W (2*s) (by omega) (by omega),W (2*d) (by omega) (by omega),W (2*s*d) s2.1 (by omega),W (s*b+d*a) (by omega) (by omega),jYC,jYD]
  have fn:∀ n X:Int,zQr mode s a d b=zZl n→(0≤n→n≤a*b→X=n)→(0=hiW (zQr mode s a d b).p∧X=loW (zQr mode s a d b).p∧0=(zQr mode s a d b).q∧0=(zQr mode s a d b).r∧1=(zQr mode s a d b).d):=fun n X e hX=>by
   have u:=hu
   rw [e] at u
   have n0:0≤n:=u.ok.p
   have n1:n≤a*b*1:=u.p
   exact fin _ n X e n0 (by omega) (hX n0 (by omega))
  have fex:∀ x y:Ex,y=x→(hiW x.p=hiW y.p∧loW x.p=loW y.p∧x.q=y.q∧x.r=y.r∧x.d=y.d):=fun x y h=>by rw [h]; exact ⟨rfl,rfl,rfl,rfl,rfl⟩
  have H1:=zUZ h0 h1 h2 h3
  have H2:=zUZ h2 h3 h0 h1
  have hT:=fun tw h=>zHF s a d b tw h0 h1 h2 h3 ha hb h
  refine ⟨fun c=>?_,fun c1=>?_⟩
  ·have c:mode=1:=by simpa using c
   exact fn (s*b) _ (by rw [c]; rfl) fun _ _=>rfl
  refine ⟨fun c=>?_,fun c2=>?_⟩
  ·have c:mode=2:=by simpa using c
   exact fn (s*d) _ (by rw [c]; rfl) fun _ _=>rfl
  refine ⟨fun c=>?_,fun c3=>?_⟩
  ·have c:mode=3:=by simpa using c
   exact fn (s*b+d*a - s*d) _ (by rw [c]; rfl) fun q0 q1=>W _ q0 (by omega)
  refine ⟨fun c=>?_,fun c4=>?_⟩
  ·have c:mode=4:=by simpa using c
   have:=hT (decide (2*d≤b)) (by rw [jYD]; exact H2.1)
   rw [jYD] at this
   exact ⟨this,fn (zVJ d b s a) _ (by rw [c]; rfl) fun _ _=>rfl⟩
  refine ⟨fun c=>?_,fun c5=>?_⟩
  ·have c:mode=5:=by simpa using c
   exact fn (min (s*b) (d*a)) _ (by rw [c]; rfl) fun _ _=>rfl
  refine ⟨fun c=>?_,fun c6=>?_⟩
  ·have c:mode=6:=by simpa using c
   exact fn (max (s*b) (d*a)) _ (by rw [c]; rfl) fun _ _=>rfl
  refine ⟨fun c=>?_,fun c7=>?_⟩
  ·have c:mode=7:=by simpa using c
   exact ⟨zHb s a d b h0 h1 h2 h3 ha hb,fex _ _ (by rw [c]; rfl)⟩
  refine ⟨fun c=>?_,fun c8=>?_⟩
  ·have c:mode=8:=by simpa using c
   exact ⟨zHG s a d b h0 h1 h2 h3 ha hb,fex _ _ (by rw [c]; rfl)⟩
  refine ⟨fun c=>?_,fun c9=>?_⟩
  ·have c:mode=9:=by simpa using c
   have:=hT (decide (2*s≤a)) (by rw [jYC]; exact H1.1)
   rw [jYC] at this
   exact ⟨this,fn (zVJ s a d b) _ (by rw [c]; rfl) fun _ _=>rfl⟩
  refine ⟨fun c=>?_,fun c10=>?_⟩
  ·have c:mode=10:=by simpa using c
   exact ⟨zHE s a d b h0 h1 h2 h3 ha hb,fex _ _ (by rw [c]; rfl)⟩
  refine ⟨fun c=>?_,fun c11=>?_⟩
  ·have c:mode=11:=by simpa using c
   exact fn (max (s*b) (d*a) - min (s*b) (d*a)) _ (by rw [c]; rfl) fun q0 q1=>W _ q0 (by omega)
  ·have n:∀ k:Int,(mode==k)=false→¬ mode=k:=fun k h=>by simpa using h
   exact fn (s*b+d*a - 2*s*d) _ (by unfold zQr; rw [if_neg (n _ c1),if_neg (n _ c2),if_neg (n _ c3),if_neg (n _ c4),if_neg (n _ c5),if_neg (n _ c6),if_neg (n _ c7),if_neg (n _ c8),if_neg (n _ c9),if_neg (n _ c10),if_neg (n _ c11)]) fun q0 q1=>W _ q0 (by omega)
theorem zKU (mode s a d b:Int):Ans prog 273 [rJ (mode),rD (dK s),rD (dK a),rD (dK d),rD (dK b)] (rT [rA [DV.int .u64 (hiW (blE mode s a d b).p),DV.int .u64 (loW (blE mode s a d b).p),DV.int .u64 ((blE mode s a d b).q),DV.int .u64 ((blE mode s a d b).r),DV.int .u64 ((blE mode s a d b).d)],rD (dQ (blK mode s a d b))]):=
 zQa (Γ:=jYE) aL zQf Tryz.func273 rfl (nL rfl) fun hwf=>by
  refine Eq.mpr (by kernel_rfl:_=(let g:=(!(decide (1≤mode∧mode < 13))); let c:=(blE mode s a d b); let e:=(zQr mode (wrap .u64 s) (wrap .u64 a) (wrap .u64 d) (wrap .u64 b)); let j:=[rA [DV.int .u64 (0:Int),DV.int .u64 (0:Int),DV.int .u64 (0:Int),DV.int .u64 (0:Int),DV.int .u64 (0:Int)],rD (dQ false)]; let h:=[rA [DV.int .u64 (hiW c.p),DV.int .u64 (loW c.p),DV.int .u64 c.q,DV.int .u64 c.r,DV.int .u64 c.d],rD (dQ (blK mode s a d b))]; let f:=(rT j=rT h); let i:=[DV.int .u64 (hiW e.p),DV.int .u64 (loW e.p),DV.int .u64 e.q,DV.int .u64 e.r,DV.int .u64 e.d]; tU3 ((Ans prog 217 [rJ mode] (rD (dQ (decide (1≤mode∧mode < 13)))))∧tU2 ((g=false→tU5 (((decide (s > a))=false→tU4 (((decide (d > b))=true→tU3 f)∧((decide (d > b))=false→True∧tU8 ((Ans prog 290 [rJ mode,rD (DV.int .u64 (wrap .u64 s)),rD (DV.int .u64 (wrap .u64 a)),rD (DV.int .u64 (wrap .u64 d)),rD (DV.int .u64 (wrap .u64 b))] (rA i))∧tU2 (rT [rA i,rD (dQ true)]=rT h)))))∧((decide (s > a))=(!false)→tU4 f)))∧(g=(!false)→tU6 f))))) ?_
  delta dQ rJ
  simp only [sS,zZn]
  simp only [RV.wfs,RV.wf,DV.wf,DV.wfs] at hwf
  have mi:IntKind.min .u64=0:=rfl
  have ma:IntKind.max .u64=18446744073709551615:=rfl
  have mj:IntKind.min .u16=0:=rfl
  have mb:IntKind.max .u16=65535:=rfl
  simp only [mi,ma,mj,mb] at hwf
  have W:∀ x:Int,0≤x→x < 18446744073709551616→wrap .u64 x=x:=fun x x0 x1=>IntWalk.u64_in x ⟨x0,by omega⟩
  obtain ⟨_,⟨s0,s1⟩,⟨a0,a1⟩,⟨d0,d1⟩,⟨b0,b1⟩,_⟩:=hwf
  simp only [W s s0 (by omega),W a a0 (by omega),W d d0 (by omega),W b b0 (by omega)]
  have bad:¬ (isNm mode=true∧s≤a∧d≤b)→(0=hiW (blE mode s a d b).p∧0=loW (blE mode s a d b).p∧0=(blE mode s a d b).q∧0=(blE mode s a d b).r∧0=(blE mode s a d b).d)∧false=blK mode s a d b:=fun hn=>by
   have:blK mode s a d b=false:=by
    cases e:blK mode s a d b with
    | false=>rfl
    | true=>
     simp only [blK,Bool.and_eq_true,decide_eq_true_eq] at e
     exact absurd ⟨e.1,e.2.1,e.2.2⟩ hn
   have e2:blE mode s a d b=.zero:=by unfold blE; rw [this]; rfl
   rw [this,e2]; exact ⟨⟨rfl,rfl,rfl,rfl,rfl⟩,rfl⟩
  refine ⟨zQJ _,fun hm=>⟨fun hsa=>⟨fun hdb=>?_,fun hdb=>?_⟩,fun hsa=>?_⟩,fun hm=>?_⟩
  case refine_1=>exact bad fun h=>by omega
  case refine_3=>exact bad fun h=>by omega
  case refine_4=>exact bad fun h=>hm (of_decide_eq_true h.1)
  have h1:s≤a:=by omega
  have h2:d≤b:=by omega
  have k:blK mode s a d b=true:=by unfold blK; rw [show isNm mode=true from decide_eq_true hm,decide_eq_true h1,decide_eq_true h2]; rfl
  have e:blE mode s a d b=zQr mode s a d b:=by unfold blE; rw [if_pos k]
  rw [k,e]
  exact ⟨zHD mode s a d b s0 h1 d0 h2 a1 b1,⟨rfl,rfl,rfl,rfl,rfl⟩,rfl⟩
end
end Go.Proofs.YtbnmadpcdlnleaaGreatDoor
