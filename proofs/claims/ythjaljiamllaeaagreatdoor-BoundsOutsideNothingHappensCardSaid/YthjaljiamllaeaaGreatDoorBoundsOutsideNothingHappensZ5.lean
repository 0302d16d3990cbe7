/-
  Part 5 of what BoundsOutsideNothingHappens rests on.
-/
import Derived.Test.YthjaljiamllaeaaGreatDoorBoundsOutsideNothingHappensZ4
import Derived.Test.YthjaljiamllaeaaGreatDoorRows
import Derived.LaidMore
import Derived.Stop.Joined
import Derived.Shelf.Vars
namespace Go.Proofs.YthjaljiamllaeaaGreatDoor
open Go.RowKit
set_option linter.unusedVariables false
set_option linter.unusedSimpArgs false
set_option maxRecDepth 20000
open Go.Proofs.Tryz (prog)
section
attribute [local irreducible] Ans AnsO AnsG AnsN AnsI
def zYQ (m:Int) (L:List Lv) (o:Oq) (p:Px) (k:Int):Px × Int:=
 if o.kind=1∧(zQe m o p k).2=true then (if zZI m L o (zQe m o p k).1 then ((zQe m o p k).1,0) else (.zero,16)) else (.zero,20)
def zKr (L:List Lv) (o:Oq):Int:=if o.kind=2 then (if L.length < 65 then 0 else 17) else 20
def popR (m:Int) (L:List Lv) (k:Int):Px × Int:=
 if L.length≤1 then (.zero,18)
 else if (zQe m (topL L).op (resL m (topL L)) k).2=false then (.zero,20)
 else if resB m (topL L) && zZI m L.dropLast (topL L).op (zQe m (topL L).op (resL m (topL L)) k).1 then ((zQe m (topL L).op (resL m (topL L)) k).1,0)
 else (.zero,16)
theorem jX5 (most:Int):zQn ⟨AV.tup [AV.one (Cl.ptr 0 0),AV.one (Cl.d (DV.int .i64 0))],[Bx.cells [Cl.d (DV.int .u16 most),Cl.ref 1 1],Bx.row 123 23 (lvs [zXF])],true⟩:=by
 refine ⟨⟨trivial,rfl,trivial⟩,⟨rfl,trivial,trivial⟩,fun d hd=>?_,trivial⟩
 have e:lvs [zXF]=zXF.cells:=by simp [lvs]
 rw [e] at hd
 exact (by decide:∀ d∈zXF.cells,d.flat=true) d hd
def jX0 (m:Int) (L:List Lv) (k:Int):Prop:=(zQe m (topL L).op (resL m (topL L)) k).2=true→resB m (topL L)=true∧zZI m L.dropLast (topL L).op (zQe m (topL L).op (resL m (topL L)) k).1=true
theorem jJd (L:List Lv):List.take ((L.length - 1)*23) (lvs L)=lvs L.dropLast:=by
 rcases List.eq_nil_or_concat L with rfl | ⟨P,t,rfl⟩
 ·rfl
 ·rw [List.concat_eq_append,List.dropLast_concat,← zU0]
  exact List.take_left' (by rw [zYc]; simp)
def resR (m:Int) (L:List Lv):Px × Int:=if 1 < L.length then (.zero,18) else (resL m ((L[0]?).getD zXF),0)
def jXd:Gam where
 pure:=fun f xs=>
  if f=75 then gZ37 xs else
  if f=80 then gZ48 xs else
  if f=54 then gZ50 xs else
  if f=77 then gZ46 xs else
  if f=78 then gZ54 xs else
  none
 modes:=fun f=>
  if f=53 then some ([false],2,1000) else
  if f=56 then some ([false],2,1000) else
  if f=79 then some ([false,true,true],1,1) else
  none
 proc:=fun f xs bs=>
  if f=53 then gZ56 xs bs else
  if f=56 then gZ56 xs bs else
  if f=79 then (match xs,bs with | [AV.one (Cl.ptr 0 0),AV.agg [Cl.d (DV.int _ okind),Cl.d (DV.int _ oimage),Cl.d (DV.int _ ox),Cl.d (DV.int _ oy),Cl.d (DV.int _ omask),Cl.d (DV.int _ omx),Cl.d (DV.int _ omy),Cl.d (DV.int _ oopac),Cl.d (DV.int _ ooper),Cl.d (DV.int _ omode),Cl.d (DV.bool oiso),Cl.d (DV.bool okno)],AV.agg [Cl.d (DV.int _ pa),Cl.d (DV.int _ pb),Cl.d (DV.int _ pc),Cl.d (DV.int _ pal),Cl.d (DV.int _ pf)]],[Bx.cells [Cl.d (DV.int _ most),Cl.ref 1 n],Bx.row _ _ xs]=>some ⟨AV.one (Cl.d (dQ (zZI most (zQw xs) (⟨okind,oimage,ox,oy,omask,omx,omy,oopac,ooper,omode,oiso,okno⟩:Oq) (⟨pa,pb,pc,pal,pf⟩:Px)))),[bC [cK most,Cl.ref 1 (zZf most (zQw xs) (⟨okind,oimage,ox,oy,omask,omx,omy,oopac,ooper,omode,oiso,okno⟩:Oq) (⟨pa,pb,pc,pal,pf⟩:Px)).length],Bx.row 123 23 (lvs (zZf most (zQw xs) (⟨okind,oimage,ox,oy,omask,omx,omy,oopac,ooper,omode,oiso,okno⟩:Oq) (⟨pa,pb,pc,pal,pf⟩:Px)))],false⟩ | _,_=>none) else
  none
 iter:=fun f cs=>
  none
theorem zJ6 (most:Int) (L:List Lv) (o:Oq) (p:Px) (mask:Int) (hn:1≤L.length) (hl:L.length≤66):AnsG prog 50 1 [aPz,AV.agg [cJ (o.kind),cJ (o.image),cJ (o.x),cJ (o.y),cJ (o.mask),cJ (o.mx),cJ (o.my),cK (o.opac),cJ (o.oper),cJ (o.mode),Cl.d (dQ o.iso),Cl.d (dQ o.kno)],AV.agg [cK (p.a),cK (p.b),cK (p.c),cK (p.al),cK (p.f)],AV.one (cK (mask))] [bC [cK (most),Cl.ref 1 L.length],Bx.row 123 23 (lvs L)] ⟨AV.tup [AV.agg [cK ((((zYQ most L o p mask).1).a)),cK ((((zYQ most L o p mask).1).b)),cK ((((zYQ most L o p mask).1).c)),cK ((((zYQ most L o p mask).1).al)),cK ((((zYQ most L o p mask).1).f))],aJ ((((zYQ most L o p mask).2)))],[bC [cK (most),Cl.ref 1 (((zYR most L o p mask)).length)],Bx.row 123 23 (lvs (zYR most L o p mask))],false⟩:=
 zQL (Γ:=jXd) Ann.leaf zQg Tryz.func50 rfl (nL rfl) rfl fun hwf hbx=>by
  refine Eq.mpr (by kernel_rfl:_=(let c:=(zYR most L o p mask); let d:=[bC [cK most,Cl.ref 1 c.length],Bx.row 123 23 (lvs c)]; let a:=(zQe most o p mask); let g:=(!(zZI most (zQw (lvs L)) o a.1)); let e:=(zZf most (zQw (lvs L)) o a.1); let b:=(zYQ most L o p mask); let f:=[AV.agg [cK b.1.a,cK b.1.b,cK b.1.c,cK b.1.al,cK b.1.f],aJ b.2]; let h:=[dK a.1.a,dK a.1.b,dK a.1.c,dK a.1.al,dK a.1.f]; let i:=[dK b.1.a,dK b.1.b,dK b.1.c,dK b.1.al,dK b.1.f]; let j:=([dK 0,dK 0,dK 0,dK 0,dK 0]=i); let k:=(dK most=dK most); let l:=(((j∧(dJ 20=dJ b.2)∧True)∧True)∧((k∧(L.length=c.length)∧True)∧(lvs L=lvs c)∧True)); let m:=((k∧(e.length=c.length)∧True)∧(lvs e=lvs c)∧True); tU3 (tU8 ((Ans prog 78 [RV.agg (Oq.cells o),RV.agg [dK p.a,dK p.b,dK p.c,dK p.al,dK p.f],RV.d (dK mask),RV.d (dK most)] (RV.tup [RV.agg h,RV.d (dQ a.2)]))∧tU6 ((true=true)∧tU4 (((o.kind != 1)=false→tU3 (((!a.2)=true→tU3 (l∧zQn ⟨AV.tup f,d,false⟩))∧((!a.2)=false→tU3 ((AnsG prog 79 1 [aPz,AV.agg [cJ o.kind,cJ o.image,cJ o.x,cJ o.y,cJ o.mask,cJ o.mx,cJ o.my,cK o.opac,cJ o.oper,cJ o.mode,Cl.d (dQ o.iso),Cl.d (dQ o.kno)],AV.agg [cK a.1.a,cK a.1.b,cK a.1.c,cK a.1.al,cK a.1.f]] [bC [cK most,Cl.ref 1 L.length],Bx.row 123 23 (lvs L)] ⟨AV.one (Cl.d (dQ (zZI most (zQw (lvs L)) o a.1))),[bC [cK most,Cl.ref 1 e.length],Bx.row 123 23 (lvs e)],false⟩)∧True∧((g=true→tU3 ((((j∧(dJ 16=dJ b.2)∧True)∧True)∧m)∧zQn ⟨AV.tup f,d,false⟩))∧(g=false→tU3 (((((h=i)∧(dJ 0=dJ b.2)∧True)∧True)∧m)∧zQn ⟨AV.tup f,d,false⟩)))))))∧((o.kind != 1)=(!false)→tU4 (l∧zQn ⟨AV.tup f,d,false⟩)))))))) ?_
  delta dJ dK dQ cJ cK aJ aPz bC
  simp only [sS]
  simp only [zKI]
  clear hwf hbx
  have S:=zKi o p mask most
  have PA:=zXV most L o (zQe most o p mask).1 hn hl
  have bad:¬ (o.kind=1∧(zQe most o p mask).2=true)→zYQ most L o p mask=(.zero,20)∧zYR most L o p mask=L:=fun h=>by
   unfold zYQ zYR; rw [if_neg h,if_neg h]; exact ⟨rfl,rfl⟩
  refine ⟨S,fun hk=>⟨fun hs=>?_,fun hs=>⟨PA,fun hb=>?_,fun hb=>?_⟩⟩,fun hk=>?_⟩
  ·obtain ⟨e1,e2⟩:=bad (fun h=>by rw [hs] at h; exact absurd h.2 (by decide))
   rw [e1,e2]; exact ⟨⟨⟨⟨rfl,rfl,rfl,rfl,rfl⟩,rfl⟩,rfl,rfl⟩,trivial⟩
  ·have hk:o.kind=1:=by simpa using hk
   have e1:zYQ most L o p mask=(.zero,16):=by unfold zYQ; rw [if_pos ⟨hk,hs⟩,if_neg (by rw [hb]; decide)]
   have e2:zYR most L o p mask=zZf most L o (zQe most o p mask).1:=by unfold zYR; rw [if_pos ⟨hk,hs⟩]
   rw [e1,e2]; exact ⟨⟨⟨⟨rfl,rfl,rfl,rfl,rfl⟩,rfl⟩,rfl,rfl⟩,trivial⟩
  ·have hk:o.kind=1:=by simpa using hk
   have e1:zYQ most L o p mask=((zQe most o p mask).1,0):=by unfold zYQ; rw [if_pos ⟨hk,hs⟩,if_pos hb]
   have e2:zYR most L o p mask=zZf most L o (zQe most o p mask).1:=by unfold zYR; rw [if_pos ⟨hk,hs⟩]
   rw [e1,e2]; exact ⟨⟨⟨⟨rfl,rfl,rfl,rfl,rfl⟩,rfl⟩,rfl,rfl⟩,trivial⟩
  ·have hk:o.kind≠1:=by simpa using hk
   obtain ⟨e1,e2⟩:=bad (fun h=>hk h.1)
   rw [e1,e2]; exact ⟨⟨⟨⟨rfl,rfl,rfl,rfl,rfl⟩,rfl⟩,rfl,rfl⟩,trivial⟩
theorem zJ5 (most:Int) (L:List Lv) (o:Oq) (hn:1≤L.length) (hl:L.length≤66):AnsG prog 51 1 [aPz,AV.agg [cJ (o.kind),cJ (o.image),cJ (o.x),cJ (o.y),cJ (o.mask),cJ (o.mx),cJ (o.my),cK (o.opac),cJ (o.oper),cJ (o.mode),Cl.d (dQ o.iso),Cl.d (dQ o.kno)]] [bC [cK (most),Cl.ref 1 L.length],Bx.row 123 23 (lvs L)] ⟨aJ (((zKr L o))),[bC [cK (most),Cl.ref 1 (((zXS L o)).length)],Bx.row 123 23 (lvs (zXS L o))],false⟩:=
 zQL (Γ:=jXd) Ann.leaf zQg Tryz.func51 rfl (nL rfl) rfl fun hwf hbx=>by
  refine Eq.mpr (by kernel_rfl:_=(let t:=(L.length:Int); let u:=[bC [cK most,Cl.ref 1 (zXS L o).length],Bx.row 123 23 (lvs (zXS L o))]; let d:=(t - 1); let r:=(bAt (lvs L) (d.toNat*23+1+1+1+1+1+1+1+1+1+1+1)); let e:=(nAt (lvs L) (d.toNat*23+1+1+1+1+1+1+1+1+1+1+1+1)); let g:=(nAt (lvs L) (d.toNat*23+1+1+1+1+1+1+1+1+1+1+1+1+1)); let h:=(nAt (lvs L) (d.toNat*23+1+1+1+1+1+1+1+1+1+1+1+1+1+1)); let i:=(nAt (lvs L) (d.toNat*23+1+1+1+1+1+1+1+1+1+1+1+1+1+1+1)); let j:=(nAt (lvs L) (d.toNat*23+1+1+1+1+1+1+1+1+1+1+1+1+1+1+1+1)); let k:=(nAt (lvs L) (d.toNat*23+1+1+1+1+1+1+1+1+1+1+1+1+1+1+1+1+1)); let l:=(nAt (lvs L) (d.toNat*23+1+1+1+1+1+1+1+1+1+1+1+1+1+1+1+1+1+1)); let m:=(nAt (lvs L) (d.toNat*23+1+1+1+1+1+1+1+1+1+1+1+1+1+1+1+1+1+1+1)); let n:=(nAt (lvs L) (d.toNat*23+1+1+1+1+1+1+1+1+1+1+1+1+1+1+1+1+1+1+1+1)); let p:=(nAt (lvs L) (d.toNat*23+1+1+1+1+1+1+1+1+1+1+1+1+1+1+1+1+1+1+1+1+1)); let q:=(nAt (lvs L) (d.toNat*23+1+1+1+1+1+1+1+1+1+1+1+1+1+1+1+1+1+1+1+1+1+1)); let v:=(dK most=dK most); let w:=((v∧(L.length=(zXS L o).length)∧True)∧(lvs L=lvs (zXS L o))∧True); let s:=[bC [cK most,Cl.ref 1 L.length],Bx.row 123 23 (lvs L)]; let x:=(dQ r); tU5 (((o.kind != 2)=true→True∧(((dJ 20=dJ (zKr L o))∧True)∧w)∧zQn ⟨aJ (zKr L o),u,false⟩)∧((o.kind != 2)=false→True∧(AnsG prog 56 2 [aPz] s ⟨aJ d,s,false⟩∧s=s)∧True∧(((decide (d≥64))=true→True∧(((dJ 17=dJ (zKr L o))∧True)∧w)∧zQn ⟨aJ (zKr L o),u,false⟩)∧((decide (d≥64))=false→tU5 ((AnsG prog 53 2 [aPz] s ⟨aJ d,s,false⟩∧s=s)∧(0≤t - 1∧t - 1 < t)∧(((lvs L)[d.toNat*23]?=some (dJ (nAt (lvs L) (d.toNat*23))))∧((lvs L)[d.toNat*23+1]?=some (dJ (nAt (lvs L) (d.toNat*23+1))))∧((lvs L)[d.toNat*23+1+1]?=some (dJ (nAt (lvs L) (d.toNat*23+1+1))))∧((lvs L)[d.toNat*23+1+1+1]?=some (dJ (nAt (lvs L) (d.toNat*23+1+1+1))))∧((lvs L)[d.toNat*23+1+1+1+1]?=some (dJ (nAt (lvs L) (d.toNat*23+1+1+1+1))))∧((lvs L)[d.toNat*23+1+1+1+1+1]?=some (dJ (nAt (lvs L) (d.toNat*23+1+1+1+1+1))))∧((lvs L)[d.toNat*23+1+1+1+1+1+1]?=some (dJ (nAt (lvs L) (d.toNat*23+1+1+1+1+1+1))))∧((lvs L)[d.toNat*23+1+1+1+1+1+1+1]?=some (dK (nAt (lvs L) (d.toNat*23+1+1+1+1+1+1+1))))∧((lvs L)[d.toNat*23+1+1+1+1+1+1+1+1]?=some (dJ (nAt (lvs L) (d.toNat*23+1+1+1+1+1+1+1+1))))∧((lvs L)[d.toNat*23+1+1+1+1+1+1+1+1+1]?=some (dJ (nAt (lvs L) (d.toNat*23+1+1+1+1+1+1+1+1+1))))∧((lvs L)[d.toNat*23+1+1+1+1+1+1+1+1+1+1]?=some (dQ (bAt (lvs L) (d.toNat*23+1+1+1+1+1+1+1+1+1+1))))∧((lvs L)[d.toNat*23+1+1+1+1+1+1+1+1+1+1+1]?=some x)∧((lvs L)[d.toNat*23+1+1+1+1+1+1+1+1+1+1+1+1]?=some (dK e))∧((lvs L)[d.toNat*23+1+1+1+1+1+1+1+1+1+1+1+1+1]?=some (dK g))∧((lvs L)[d.toNat*23+1+1+1+1+1+1+1+1+1+1+1+1+1+1]?=some (dK h))∧((lvs L)[d.toNat*23+1+1+1+1+1+1+1+1+1+1+1+1+1+1+1]?=some (dK i))∧((lvs L)[d.toNat*23+1+1+1+1+1+1+1+1+1+1+1+1+1+1+1+1]?=some (dK j))∧((lvs L)[d.toNat*23+1+1+1+1+1+1+1+1+1+1+1+1+1+1+1+1+1]?=some (dK k))∧((lvs L)[d.toNat*23+1+1+1+1+1+1+1+1+1+1+1+1+1+1+1+1+1+1]?=some (dK l))∧((lvs L)[d.toNat*23+1+1+1+1+1+1+1+1+1+1+1+1+1+1+1+1+1+1+1]?=some (dK m))∧((lvs L)[d.toNat*23+1+1+1+1+1+1+1+1+1+1+1+1+1+1+1+1+1+1+1+1]?=some (dK n))∧((lvs L)[d.toNat*23+1+1+1+1+1+1+1+1+1+1+1+1+1+1+1+1+1+1+1+1+1]?=some (dK p))∧((lvs L)[d.toNat*23+1+1+1+1+1+1+1+1+1+1+1+1+1+1+1+1+1+1+1+1+1+1]?=some (dK q))∧True)∧tU2 ((true=true)∧True∧tU8 ((Ans prog 80 [RV.d (dQ o.iso),RV.d x,RV.agg [dK e,dK g,dK h,dK i,dK j,dK k],RV.agg [dK l,dK m,dK n,dK p,dK q]] (RV.tup [RV.agg [dK (zQo o.iso r (⟨e,g,h,i,j,k⟩:Ac) (⟨l,m,n,p,q⟩:Px)).1.a,dK (zQo o.iso r (⟨e,g,h,i,j,k⟩:Ac) (⟨l,m,n,p,q⟩:Px)).1.b,dK (zQo o.iso r (⟨e,g,h,i,j,k⟩:Ac) (⟨l,m,n,p,q⟩:Px)).1.c,dK (zQo o.iso r (⟨e,g,h,i,j,k⟩:Ac) (⟨l,m,n,p,q⟩:Px)).1.al,dK (zQo o.iso r (⟨e,g,h,i,j,k⟩:Ac) (⟨l,m,n,p,q⟩:Px)).1.own,dK (zQo o.iso r (⟨e,g,h,i,j,k⟩:Ac) (⟨l,m,n,p,q⟩:Px)).1.f],RV.agg [dK (zQo o.iso r (⟨e,g,h,i,j,k⟩:Ac) (⟨l,m,n,p,q⟩:Px)).2.a,dK (zQo o.iso r (⟨e,g,h,i,j,k⟩:Ac) (⟨l,m,n,p,q⟩:Px)).2.b,dK (zQo o.iso r (⟨e,g,h,i,j,k⟩:Ac) (⟨l,m,n,p,q⟩:Px)).2.c,dK (zQo o.iso r (⟨e,g,h,i,j,k⟩:Ac) (⟨l,m,n,p,q⟩:Px)).2.al,dK (zQo o.iso r (⟨e,g,h,i,j,k⟩:Ac) (⟨l,m,n,p,q⟩:Px)).2.f]]))∧tU4 (tU8 ((zZe 23 112 0 L.length ([]) (lvs L))∧tU5 ((zZe 23 112 L.length 1 (lvs L) ([dJ o.kind,dJ o.image,dJ o.x,dJ o.y,dJ o.mask,dJ o.mx,dJ o.my,dK o.opac,dJ o.oper,dJ o.mode,dQ o.iso,dQ o.kno,dK (zQo o.iso r (⟨e,g,h,i,j,k⟩:Ac) (⟨l,m,n,p,q⟩:Px)).1.a,dK (zQo o.iso r (⟨e,g,h,i,j,k⟩:Ac) (⟨l,m,n,p,q⟩:Px)).1.b,dK (zQo o.iso r (⟨e,g,h,i,j,k⟩:Ac) (⟨l,m,n,p,q⟩:Px)).1.c,dK (zQo o.iso r (⟨e,g,h,i,j,k⟩:Ac) (⟨l,m,n,p,q⟩:Px)).1.al,dK (zQo o.iso r (⟨e,g,h,i,j,k⟩:Ac) (⟨l,m,n,p,q⟩:Px)).1.own,dK (zQo o.iso r (⟨e,g,h,i,j,k⟩:Ac) (⟨l,m,n,p,q⟩:Px)).1.f,dK (zQo o.iso r (⟨e,g,h,i,j,k⟩:Ac) (⟨l,m,n,p,q⟩:Px)).2.a,dK (zQo o.iso r (⟨e,g,h,i,j,k⟩:Ac) (⟨l,m,n,p,q⟩:Px)).2.b,dK (zQo o.iso r (⟨e,g,h,i,j,k⟩:Ac) (⟨l,m,n,p,q⟩:Px)).2.c,dK (zQo o.iso r (⟨e,g,h,i,j,k⟩:Ac) (⟨l,m,n,p,q⟩:Px)).2.al,dK (zQo o.iso r (⟨e,g,h,i,j,k⟩:Ac) (⟨l,m,n,p,q⟩:Px)).2.f]))∧tU3 ((true=true)∧True∧(((dJ 0=dJ (zKr L o))∧True)∧((v∧(L.length+1=(zXS L o).length)∧True)∧((lvs L)++([dJ o.kind,dJ o.image,dJ o.x,dJ o.y,dJ o.mask,dJ o.mx,dJ o.my,dK o.opac,dJ o.oper,dJ o.mode,dQ o.iso,dQ o.kno,dK (zQo o.iso r (⟨e,g,h,i,j,k⟩:Ac) (⟨l,m,n,p,q⟩:Px)).1.a,dK (zQo o.iso r (⟨e,g,h,i,j,k⟩:Ac) (⟨l,m,n,p,q⟩:Px)).1.b,dK (zQo o.iso r (⟨e,g,h,i,j,k⟩:Ac) (⟨l,m,n,p,q⟩:Px)).1.c,dK (zQo o.iso r (⟨e,g,h,i,j,k⟩:Ac) (⟨l,m,n,p,q⟩:Px)).1.al,dK (zQo o.iso r (⟨e,g,h,i,j,k⟩:Ac) (⟨l,m,n,p,q⟩:Px)).1.own,dK (zQo o.iso r (⟨e,g,h,i,j,k⟩:Ac) (⟨l,m,n,p,q⟩:Px)).1.f,dK (zQo o.iso r (⟨e,g,h,i,j,k⟩:Ac) (⟨l,m,n,p,q⟩:Px)).2.a,dK (zQo o.iso r (⟨e,g,h,i,j,k⟩:Ac) (⟨l,m,n,p,q⟩:Px)).2.b,dK (zQo o.iso r (⟨e,g,h,i,j,k⟩:Ac) (⟨l,m,n,p,q⟩:Px)).2.c,dK (zQo o.iso r (⟨e,g,h,i,j,k⟩:Ac) (⟨l,m,n,p,q⟩:Px)).2.al,dK (zQo o.iso r (⟨e,g,h,i,j,k⟩:Ac) (⟨l,m,n,p,q⟩:Px)).2.f])=lvs (zXS L o))∧True))∧zQn ⟨aJ (zKr L o),u,false⟩))))))))))))) ?_
  delta dJ dK dQ cK aJ aPz bC
  simp only [sS]
  have hk:L.length - 1 < L.length:=by omega
  have hT:L[L.length - 1]=topL L:=(zYo hn).symm
  have ei:((L.length:Int) - 1).toNat=L.length - 1:=by omega
  have bd:0≤(L.length:Int) - 1∧(L.length:Int) - 1 < (L.length:Int):=by omega
  have tp:=zQZ most L hn hl
  have r1:=zK0 (l:=L) (k:=L.length - 1) hk
  have r2:=zK1 (l:=L) (k:=L.length - 1) hk
  rw [hT] at r1 r2
  simp only [Nat.add_zero] at r1 r2
  simp only [ei,Nat.add_assoc,Nat.reduceAdd,Nat.add_zero,Nat.zero_add,r1,r2,and_self,true_and,and_true]
  clear r1 r2 hwf hbx
  have dp:=zZL most L hn hl
  have B:=zHk o.iso (topL L).op.kno (topL L).acc (topL L).back
  refine ⟨fun hk=>?_,fun hk=>⟨dp,fun h=>?_,fun h=>⟨tp,bd,B,⟨rfl,zYc L,by unfold maxLen; omega,by omega⟩,⟨zYc L,rfl,by unfold maxLen; omega,by omega⟩,?_⟩⟩⟩
  ·have hk:o.kind≠2:=by simpa using hk
   have e1:zKr L o=20:=by unfold zKr; rw [if_neg hk]
   have e2:zXS L o=L:=by unfold zXS; rw [if_neg (fun h=>hk h.1)]
   rw [e1,e2]; exact ⟨⟨rfl,rfl,rfl⟩,trivial⟩
  ·have hk:o.kind=2:=by simpa using hk
   have e1:zKr L o=17:=by unfold zKr; rw [if_pos hk,if_neg (by omega)]
   have e2:zXS L o=L:=by unfold zXS; rw [if_neg (fun h=>by omega)]
   rw [e1,e2]; exact ⟨⟨rfl,rfl,rfl⟩,trivial⟩
  ·have hk:o.kind=2:=by simpa using hk
   have e1:zKr L o=0:=by unfold zKr; rw [if_pos hk,if_pos (by omega)]
   have e2:zXS L o=L++[⟨o,(zQo o.iso (topL L).op.kno (topL L).acc (topL L).back).1,(zQo o.iso (topL L).op.kno (topL L).acc (topL L).back).2⟩]:=by unfold zXS; rw [if_pos ⟨hk,by omega⟩]
   rw [e1,e2,← zU0]
   exact ⟨⟨rfl,by simp,rfl⟩,trivial⟩
theorem zJn (most:Int) (L:List Lv) (hn:1≤L.length) (hl:L.length≤66):AnsG prog 28 2 [aPz] [bC [cK (most),Cl.ref 1 L.length],Bx.row 123 23 (lvs L)] ⟨AV.tup [AV.agg [cK ((((resR most L).1).a)),cK ((((resR most L).1).b)),cK ((((resR most L).1).c)),cK ((((resR most L).1).al)),cK ((((resR most L).1).f))],aJ ((((resR most L).2)))],[bC [cK (most),Cl.ref 1 L.length],Bx.row 123 23 (lvs L)],false⟩:=
 zQL (Γ:=jXd) Ann.leaf zQg Tryz.func28 rfl (nL rfl) rfl fun hwf hbx=>by
  refine Eq.mpr (by kernel_rfl:_=(let r:=(L.length:Int); let s:=(decide ((r - 1) > 0)); let e:=(nAt (lvs L) 22); let g:=(nAt (lvs L) 21); let h:=(nAt (lvs L) 20); let i:=(nAt (lvs L) 19); let j:=(nAt (lvs L) 18); let k:=(nAt (lvs L) 17); let l:=(nAt (lvs L) 16); let m:=(nAt (lvs L) 15); let n:=(nAt (lvs L) 14); let o:=(nAt (lvs L) 13); let p:=(nAt (lvs L) 12); let d:=(resR most L); let t:=[AV.agg [cK d.1.a,cK d.1.b,cK d.1.c,cK d.1.al,cK d.1.f],aJ d.2]; let q:=[bC [cK most,Cl.ref 1 L.length],Bx.row 123 23 (lvs L)]; let u:=[dK d.1.a,dK d.1.b,dK d.1.c,dK d.1.al,dK d.1.f]; let v:=(((dK most=dK most)∧(L.length=L.length)∧True)∧(lvs L=lvs L)∧True); let w:=(0≤(0:Int)∧(0:Int) < r); let x:=[dK (resE (⟨p,o,n,m,l,k⟩:Ac) (⟨j,i,h,g,e⟩:Px) most).a,dK (resE (⟨p,o,n,m,l,k⟩:Ac) (⟨j,i,h,g,e⟩:Px) most).b,dK (resE (⟨p,o,n,m,l,k⟩:Ac) (⟨j,i,h,g,e⟩:Px) most).c,dK (resE (⟨p,o,n,m,l,k⟩:Ac) (⟨j,i,h,g,e⟩:Px) most).al,dK (resE (⟨p,o,n,m,l,k⟩:Ac) (⟨j,i,h,g,e⟩:Px) most).f]; tU3 ((AnsG prog 56 2 [aPz] q ⟨aJ (r - 1),q,false⟩∧q=q)∧True∧((s=true→tU3 ((((([dK 0,dK 0,dK 0,dK 0,dK 0]=u)∧(dJ 18=dJ d.2)∧True)∧True)∧v)∧zQn ⟨AV.tup t,q,false⟩))∧(s=false→tU4 (w∧True∧(((lvs L)[12]?=some (dK p))∧((lvs L)[13]?=some (dK o))∧((lvs L)[14]?=some (dK n))∧((lvs L)[15]?=some (dK m))∧((lvs L)[16]?=some (dK l))∧((lvs L)[17]?=some (dK k))∧True)∧tU4 (w∧True∧(((lvs L)[18]?=some (dK j))∧((lvs L)[19]?=some (dK i))∧((lvs L)[20]?=some (dK h))∧((lvs L)[21]?=some (dK g))∧((lvs L)[22]?=some (dK e))∧True)∧tU4 ((Ans prog 54 [RV.agg [dK p,dK o,dK n,dK m,dK l,dK k],RV.agg [dK j,dK i,dK h,dK g,dK e],RV.d (dK most)] (RV.tup [RV.agg x,RV.d (dQ (Ac.ok (⟨p,o,n,m,l,k⟩:Ac) (⟨j,i,h,g,e⟩:Px) most))]))∧tU6 ((true=true)∧tU3 (((((x=u)∧(dJ 0=dJ d.2)∧True)∧True)∧v)∧zQn ⟨AV.tup t,q,false⟩)))))))))) ?_
  delta dJ dK dQ cK aJ aPz bC
  simp only [sS]
  have h0:0 < L.length:=hn
  have dp:=zZL most L hn hl
  have r1:=zK0 (l:=L) (k:=0) h0
  have r2:=zK1 (l:=L) (k:=0) h0
  obtain ⟨t,ht⟩:∃ t,t=L[0]:=⟨_,rfl⟩
  rw [← ht] at r1 r2
  simp only [Nat.zero_mul,Nat.zero_add] at r1 r2
  simp only [r1,r2,and_self,true_and]
  clear r1 r2 hwf hbx
  have R:=zYz t.acc t.back most
  refine ⟨dp,fun h=>?_,fun h=>?_⟩
  ·have e:resR most L=(.zero,18):=by unfold resR; rw [if_pos (by omega)]
   rw [e]; exact ⟨⟨⟨rfl,rfl,rfl,rfl,rfl⟩,rfl⟩,trivial⟩
  ·have e:resR most L=(resE t.acc t.back most,0):=by
    unfold resR; rw [if_neg (by omega),List.getElem?_eq_getElem h0,← ht,← jJG]; rfl
   rw [e]
   exact ⟨⟨by omega,by omega⟩,⟨by omega,by omega⟩,R,⟨⟨rfl,rfl,rfl,rfl,rfl⟩,rfl⟩,trivial⟩
theorem jQ9 (most:Int) (hf:zZj most=true):AnsG prog 45 0 [AV.one (cK (most))] [] ⟨AV.tup [aPz,aJ ((0))],[bC [cK (most),Cl.ref 1 1],Bx.row 123 23 (lvs [zXF])],true⟩:=
 zQL (Γ:=jXd) Ann.leaf zQg Tryz.func45 rfl (nL rfl) rfl fun hwf hbx=>by
  refine Eq.mpr (by kernel_rfl:_=(let a:=[bC [cK most,Cl.ref 1 1],Bx.row 123 23 (lvs [zXF])]; tU3 ((Ans prog 75 [RV.d (dK most)] (RV.d (dQ (zZj most))))∧True∧(((!(zZj most))=true→tU2 (False∧zQn ⟨AV.tup [aPz,aJ 0],a,true⟩))∧((!(zZj most))=false→tU8 (((((0=0)∧(dJ 0=dJ 0)∧True)∧True)∧(((dK most=dK most)∧(1=1)∧True)∧([dJ 2,dJ 0,dJ 0,dJ 0,dJ 0,dJ 0,dJ 0,dK 0,dJ 0,dJ 0,dQ true,dQ false,dK 0,dK 0,dK 0,dK 0,dK 0,dK 0,dK 0,dK 0,dK 0,dK 0,dK 0]=lvs [zXF])∧True))∧zQn ⟨AV.tup [aPz,aJ 0],a,true⟩)))))) ?_
  delta dJ dK dQ cK aJ aPz bC
  simp only [sS]
  clear hwf hbx
  refine ⟨zQX most,fun h=>?_,fun _=>⟨rfl,?_⟩⟩
  ·rw [hf] at h; cases h
  ·exact jX5 most
theorem zJG (l:List Mc) (at_:Int) (o:Oq) (p:Px) (mask most:Int) (hl:l.length≤100000):AnsG prog 47 0 [AV.one (Cl.ref 0 l.length),aJ ((at_)),AV.agg [cJ (o.kind),cJ (o.image),cJ (o.x),cJ (o.y),cJ (o.mask),cJ (o.mx),cJ (o.my),cK (o.opac),cJ (o.oper),cJ (o.mode),Cl.d (dQ o.iso),Cl.d (dQ o.kno)],AV.agg [cK (p.a),cK (p.b),cK (p.c),cK (p.al),cK (p.f)],AV.one (cK (mask)),AV.one (cK (most))] [Bx.row 112 18 (mcs l)] ⟨AV.tup [AV.one (Cl.ref 0 ((zXx l at_ o p mask most).1.length)),AV.agg [cK ((((zXx l at_ o p mask most).2).a)),cK ((((zXx l at_ o p mask most).2).b)),cK ((((zXx l at_ o p mask most).2).c)),cK ((((zXx l at_ o p mask most).2).al)),cK ((((zXx l at_ o p mask most).2).f))]],[Bx.row 112 18 (mcs (zXx l at_ o p mask most).1)],false⟩:=
 zQL (Γ:=jXd) Ann.leaf zQg Tryz.func47 rfl (nL rfl) rfl fun hwf hbx=>by
  refine Eq.mpr (by kernel_rfl:_=(let c:=(zQU p o.opac most); let f:=([dJ at_,dJ 3,dK p.a,dK p.b,dK p.c,dK p.al,dK p.f,dK 0,dK 0,dK 0,dK 0,dK 0,dK o.opac,dK c.1.a,dK c.1.b,dK c.1.c,dK c.1.al,dK c.1.f]); let b:=(zXx l at_ o p mask most); let g:=[Bx.row 112 18 (mcs b.1)]; let h:=[AV.one (Cl.ref 0 b.1.length),AV.agg [cK b.2.a,cK b.2.b,cK b.2.c,cK b.2.al,cK b.2.f]]; let a:=(zQU p mask most); let e:=([dJ at_,dJ 2,dK p.a,dK p.b,dK p.c,dK p.al,dK p.f,dK 0,dK 0,dK 0,dK 0,dK 0,dK mask,dK a.1.a,dK a.1.b,dK a.1.c,dK a.1.al,dK a.1.f]); let d:=(zQU a.1 o.opac most); let i:=([dJ at_,dJ 3,dK a.1.a,dK a.1.b,dK a.1.c,dK a.1.al,dK a.1.f,dK 0,dK 0,dK 0,dK 0,dK 0,dK o.opac,dK d.1.a,dK d.1.b,dK d.1.c,dK d.1.al,dK d.1.f]); let j:=[dK p.a,dK p.b,dK p.c,dK p.al,dK p.f]; let k:=[dK a.1.a,dK a.1.b,dK a.1.c,dK a.1.al,dK a.1.f]; let m:=[dK d.1.a,dK d.1.b,dK d.1.c,dK d.1.al,dK d.1.f]; let n:=[dK b.2.a,dK b.2.b,dK b.2.c,dK b.2.al,dK b.2.f]; let q:=[dK c.1.a,dK c.1.b,dK c.1.c,dK c.1.al,dK c.1.f]; tU7 (((o.mask != 0)=true→tU3 ((Ans prog 77 [RV.agg j,RV.d (dK mask),RV.d (dK most)] (RV.tup [RV.agg k,RV.d (dQ a.2)]))∧tU5 (tU8 ((zZe 18 48 l.length 1 (mcs l) e)∧tU7 ((Ans prog 77 [RV.agg k,RV.d (dK o.opac),RV.d (dK most)] (RV.tup [RV.agg m,RV.d (dQ d.2)]))∧tU6 (tU8 ((zZe 18 48 (l.length+1) 1 ((mcs l)++e) i)∧tU3 ((true=true)∧(((((l.length+1)+1=b.1.length)∧(m=n)∧True)∧True)∧((((mcs l)++e)++i=mcs b.1)∧True))∧zQn ⟨AV.tup h,g,false⟩))))))))∧((o.mask != 0)=false→tU4 ((Ans prog 77 [RV.agg j,RV.d (dK o.opac),RV.d (dK most)] (RV.tup [RV.agg q,RV.d (dQ c.2)]))∧tU6 (tU8 ((zZe 18 48 l.length 1 (mcs l) f)∧tU3 ((true=true)∧((((l.length+1=b.1.length)∧(q=n)∧True)∧True)∧(((mcs l)++f=mcs b.1)∧True))∧zQn ⟨AV.tup h,g,false⟩)))))))) ?_
  delta dJ dK dQ cK
  simp only [sS]
  clear hwf hbx
  have S:=fun q k=>zJd q k most
  refine ⟨fun h=>?_,fun h=>?_⟩
  ·have h:o.mask≠0:=by simpa using h
   unfold zXx
   rw [if_pos h]
   refine ⟨S _ _,⟨zZQ l,rfl,by unfold maxLen; omega,by omega⟩,S _ _,⟨?_,rfl,by unfold maxLen; omega,by omega⟩,⟨⟨by simp,rfl,rfl,rfl,rfl,rfl⟩,?_⟩,trivial⟩
   ·rw [List.length_append,zZQ]; simp only [List.length_cons,List.length_nil]; omega
   ·rw [← zJT,← zJT]; rfl
  ·have h:o.mask=0:=by simpa using h
   unfold zXx
   rw [if_neg (by simp [h])]
   refine ⟨S _ _,⟨zZQ l,rfl,by unfold maxLen; omega,by omega⟩,⟨⟨by simp,rfl,rfl,rfl,rfl,rfl⟩,?_⟩,trivial⟩
   rw [← zJT]; rfl
theorem zKC (most:Int) (L:List Lv) (mask:Int) (hn:1≤L.length) (hl:L.length≤66) (hgo:jX0 most L mask):AnsG prog 55 1 [aPz,AV.one (cK (mask))] [bC [cK (most),Cl.ref 1 L.length],Bx.row 123 23 (lvs L)] ⟨AV.tup [AV.agg [cK ((((popR most L mask).1).a)),cK ((((popR most L mask).1).b)),cK ((((popR most L mask).1).c)),cK ((((popR most L mask).1).al)),cK ((((popR most L mask).1).f))],aJ ((((popR most L mask).2)))],[bC [cK (most),Cl.ref 1 (((popL most L mask)).length)],Bx.row 123 23 (lvs (popL most L mask))],false⟩:=
 zQL (Γ:=jXd) Ann.leaf zQg Tryz.func55 rfl (nL rfl) rfl fun hwf hbx=>by
  refine Eq.mpr (by kernel_rfl:_=(let I:=(L.length:Int); let E:=(popL most L mask); let C:=(popR most L mask); let F:=[bC [cK most,Cl.ref 1 E.length],Bx.row 123 23 (lvs E)]; let G:=[AV.agg [cK C.1.a,cK C.1.b,cK C.1.c,cK C.1.al,cK C.1.f],aJ C.2]; let q:=(I - 1); let J:=(q.toNat*23); let d:=(nAt (lvs L) J); let r:=(nAt (lvs L) (q.toNat*23+1+1+1+1+1+1+1+1+1+1+1+1)); let e:=(nAt (lvs L) (q.toNat*23+1)); let s:=(nAt (lvs L) (q.toNat*23+1+1+1+1+1+1+1+1+1+1+1+1+1)); let t:=(nAt (lvs L) (q.toNat*23+1+1+1+1+1+1+1+1+1+1+1+1+1+1)); let g:=(nAt (lvs L) (q.toNat*23+1+1)); let u:=(nAt (lvs L) (q.toNat*23+1+1+1+1+1+1+1+1+1+1+1+1+1+1+1)); let v:=(nAt (lvs L) (q.toNat*23+1+1+1+1+1+1+1+1+1+1+1+1+1+1+1+1)); let h:=(nAt (lvs L) (q.toNat*23+1+1+1)); let w:=(nAt (lvs L) (q.toNat*23+1+1+1+1+1+1+1+1+1+1+1+1+1+1+1+1+1)); let x:=(nAt (lvs L) (q.toNat*23+1+1+1+1+1+1+1+1+1+1+1+1+1+1+1+1+1+1)); let i:=(nAt (lvs L) (q.toNat*23+1+1+1+1)); let y:=(nAt (lvs L) (q.toNat*23+1+1+1+1+1+1+1+1+1+1+1+1+1+1+1+1+1+1+1)); let j:=(nAt (lvs L) (q.toNat*23+1+1+1+1+1)); let z:=(nAt (lvs L) (q.toNat*23+1+1+1+1+1+1+1+1+1+1+1+1+1+1+1+1+1+1+1+1)); let A:=(nAt (lvs L) (q.toNat*23+1+1+1+1+1+1+1+1+1+1+1+1+1+1+1+1+1+1+1+1+1)); let k:=(nAt (lvs L) (q.toNat*23+1+1+1+1+1+1)); let B:=(nAt (lvs L) (q.toNat*23+1+1+1+1+1+1+1+1+1+1+1+1+1+1+1+1+1+1+1+1+1+1)); let l:=(nAt (lvs L) (q.toNat*23+1+1+1+1+1+1+1)); let m:=(nAt (lvs L) (q.toNat*23+1+1+1+1+1+1+1+1)); let n:=(nAt (lvs L) (q.toNat*23+1+1+1+1+1+1+1+1+1)); let o:=(bAt (lvs L) (q.toNat*23+1+1+1+1+1+1+1+1+1+1)); let p:=(bAt (lvs L) (q.toNat*23+1+1+1+1+1+1+1+1+1+1+1)); let H:=[bC [cK most,Cl.ref 1 L.length],Bx.row 123 23 (lvs L)]; let R:=[dK 0,dK 0,dK 0,dK 0,dK 0]; let K:=[dK C.1.a,dK C.1.b,dK C.1.c,dK C.1.al,dK C.1.f]; let M:=(R=K); let N:=(dK most=dK most); let S:=(N∧(L.length=E.length)∧True); let T:=(S∧(lvs L=lvs E)∧True); let O:=(AnsG prog 53 2 [aPz] H ⟨aJ q,H,false⟩∧H=H); let U:=(dJ d); let V:=(dJ e); let W:=(dJ g); let X:=(dJ h); let Y:=(dJ i); let Z:=(dJ j); let z0:=(dJ k); let z1:=(dK l); let z2:=(dJ m); let z3:=(dJ n); let z4:=(dQ o); let z5:=(dQ p); let z6:=[dK (resE (⟨r,s,t,u,v,w⟩:Ac) (⟨x,y,z,A,B⟩:Px) most).a,dK (resE (⟨r,s,t,u,v,w⟩:Ac) (⟨x,y,z,A,B⟩:Px) most).b,dK (resE (⟨r,s,t,u,v,w⟩:Ac) (⟨x,y,z,A,B⟩:Px) most).c,dK (resE (⟨r,s,t,u,v,w⟩:Ac) (⟨x,y,z,A,B⟩:Px) most).al,dK (resE (⟨r,s,t,u,v,w⟩:Ac) (⟨x,y,z,A,B⟩:Px) most).f]; let z7:=[dJ d,dJ e,dJ g,dJ h,dJ i,dJ j,dJ k,dK l,dJ m,dJ n,dQ o,dQ p]; let z8:=[dK (zQe most (⟨d,e,g,h,i,j,k,l,m,n,o,p⟩:Oq) (⟨(0:Int),(0:Int),(0:Int),(0:Int),(0:Int)⟩:Px) mask).1.a,dK (zQe most (⟨d,e,g,h,i,j,k,l,m,n,o,p⟩:Oq) (⟨(0:Int),(0:Int),(0:Int),(0:Int),(0:Int)⟩:Px) mask).1.b,dK (zQe most (⟨d,e,g,h,i,j,k,l,m,n,o,p⟩:Oq) (⟨(0:Int),(0:Int),(0:Int),(0:Int),(0:Int)⟩:Px) mask).1.c,dK (zQe most (⟨d,e,g,h,i,j,k,l,m,n,o,p⟩:Oq) (⟨(0:Int),(0:Int),(0:Int),(0:Int),(0:Int)⟩:Px) mask).1.al,dK (zQe most (⟨d,e,g,h,i,j,k,l,m,n,o,p⟩:Oq) (⟨(0:Int),(0:Int),(0:Int),(0:Int),(0:Int)⟩:Px) mask).1.f]; let z9:=(((M∧(dJ 20=dJ C.2)∧True)∧True)∧T); let y0:=(0≤I - 1∧I - 1≤I); let P:=(List.take J (lvs L)); let y1:=(zZe 23 112 0 q.toNat ([]) P); let D:=(zQw P); let y2:=[Cl.d U,Cl.d V,Cl.d W,Cl.d X,Cl.d Y,Cl.d Z,Cl.d z0,Cl.d z1,Cl.d z2,Cl.d z3,Cl.d z4,Cl.d z5]; let y3:=[bC [cK most,Cl.ref 1 q.toNat],Bx.row 123 23 P]; let Q:=(((M∧(dJ 16=dJ C.2)∧True)∧True)∧(S∧(List.take J (lvs L)=lvs E)∧True)); let y4:=(dJ 0=dJ C.2); let y5:=((!(Ac.ok (⟨r,s,t,u,v,w⟩:Ac) (⟨x,y,z,A,B⟩:Px) most))=(!false)→tU4 (Q∧zQn ⟨AV.tup G,F,false⟩)); let y6:=[dK (zQe most (⟨d,e,g,h,i,j,k,l,m,n,o,p⟩:Oq) (resE (⟨r,s,t,u,v,w⟩:Ac) (⟨x,y,z,A,B⟩:Px) most) mask).1.a,dK (zQe most (⟨d,e,g,h,i,j,k,l,m,n,o,p⟩:Oq) (resE (⟨r,s,t,u,v,w⟩:Ac) (⟨x,y,z,A,B⟩:Px) most) mask).1.b,dK (zQe most (⟨d,e,g,h,i,j,k,l,m,n,o,p⟩:Oq) (resE (⟨r,s,t,u,v,w⟩:Ac) (⟨x,y,z,A,B⟩:Px) most) mask).1.c,dK (zQe most (⟨d,e,g,h,i,j,k,l,m,n,o,p⟩:Oq) (resE (⟨r,s,t,u,v,w⟩:Ac) (⟨x,y,z,A,B⟩:Px) most) mask).1.al,dK (zQe most (⟨d,e,g,h,i,j,k,l,m,n,o,p⟩:Oq) (resE (⟨r,s,t,u,v,w⟩:Ac) (⟨x,y,z,A,B⟩:Px) most) mask).1.f]; tU3 ((AnsG prog 56 2 [aPz] H ⟨aJ q,H,false⟩∧H=H)∧True∧(((q==0)=true→tU3 ((((M∧(dJ 18=dJ C.2)∧True)∧True)∧T)∧zQn ⟨AV.tup G,F,false⟩))∧((q==0)=false→tU5 (O∧(0≤I - 1∧I - 1 < I)∧(((lvs L)[q.toNat*23]?=some U)∧((lvs L)[q.toNat*23+1]?=some V)∧((lvs L)[q.toNat*23+1+1]?=some W)∧((lvs L)[q.toNat*23+1+1+1]?=some X)∧((lvs L)[q.toNat*23+1+1+1+1]?=some Y)∧((lvs L)[q.toNat*23+1+1+1+1+1]?=some Z)∧((lvs L)[q.toNat*23+1+1+1+1+1+1]?=some z0)∧((lvs L)[q.toNat*23+1+1+1+1+1+1+1]?=some z1)∧((lvs L)[q.toNat*23+1+1+1+1+1+1+1+1]?=some z2)∧((lvs L)[q.toNat*23+1+1+1+1+1+1+1+1+1]?=some z3)∧((lvs L)[q.toNat*23+1+1+1+1+1+1+1+1+1+1]?=some z4)∧((lvs L)[q.toNat*23+1+1+1+1+1+1+1+1+1+1+1]?=some z5)∧((lvs L)[q.toNat*23+1+1+1+1+1+1+1+1+1+1+1+1]?=some (dK r))∧((lvs L)[q.toNat*23+1+1+1+1+1+1+1+1+1+1+1+1+1]?=some (dK s))∧((lvs L)[q.toNat*23+1+1+1+1+1+1+1+1+1+1+1+1+1+1]?=some (dK t))∧((lvs L)[q.toNat*23+1+1+1+1+1+1+1+1+1+1+1+1+1+1+1]?=some (dK u))∧((lvs L)[q.toNat*23+1+1+1+1+1+1+1+1+1+1+1+1+1+1+1+1]?=some (dK v))∧((lvs L)[q.toNat*23+1+1+1+1+1+1+1+1+1+1+1+1+1+1+1+1+1]?=some (dK w))∧((lvs L)[q.toNat*23+1+1+1+1+1+1+1+1+1+1+1+1+1+1+1+1+1+1]?=some (dK x))∧((lvs L)[q.toNat*23+1+1+1+1+1+1+1+1+1+1+1+1+1+1+1+1+1+1+1]?=some (dK y))∧((lvs L)[q.toNat*23+1+1+1+1+1+1+1+1+1+1+1+1+1+1+1+1+1+1+1+1]?=some (dK z))∧((lvs L)[q.toNat*23+1+1+1+1+1+1+1+1+1+1+1+1+1+1+1+1+1+1+1+1+1]?=some (dK A))∧((lvs L)[q.toNat*23+1+1+1+1+1+1+1+1+1+1+1+1+1+1+1+1+1+1+1+1+1+1]?=some (dK B))∧True)∧tU2 ((true=true)∧tU8 ((Ans prog 54 [RV.agg [dK r,dK s,dK t,dK u,dK v,dK w],RV.agg [dK x,dK y,dK z,dK A,dK B],RV.d (dK most)] (RV.tup [RV.agg z6,RV.d (dQ (Ac.ok (⟨r,s,t,u,v,w⟩:Ac) (⟨x,y,z,A,B⟩:Px) most))]))∧tU6 ((true=true)∧tU2 (((!(Ac.ok (⟨r,s,t,u,v,w⟩:Ac) (⟨x,y,z,A,B⟩:Px) most))=true→tU2 (tU8 ((Ans prog 78 [RV.agg z7,RV.agg R,RV.d (dK mask),RV.d (dK most)] (RV.tup [RV.agg z8,RV.d (dQ (zQe most (⟨d,e,g,h,i,j,k,l,m,n,o,p⟩:Oq) (⟨(0:Int),(0:Int),(0:Int),(0:Int),(0:Int)⟩:Px) mask).2)]))∧tU6 ((true=true)∧tU2 (((!(zQe most (⟨d,e,g,h,i,j,k,l,m,n,o,p⟩:Oq) (⟨(0:Int),(0:Int),(0:Int),(0:Int),(0:Int)⟩:Px) mask).2)=true→tU3 (z9∧zQn ⟨AV.tup G,F,false⟩))∧((!(zQe most (⟨d,e,g,h,i,j,k,l,m,n,o,p⟩:Oq) (⟨(0:Int),(0:Int),(0:Int),(0:Int),(0:Int)⟩:Px) mask).2)=false→True∧tU8 (O∧y0∧y1∧tU3 ((true=true)∧tU3 (((!(Ac.ok (⟨r,s,t,u,v,w⟩:Ac) (⟨x,y,z,A,B⟩:Px) most))=false→tU4 ((AnsG prog 79 1 [aPz,AV.agg y2,AV.agg [cK (zQe most (⟨d,e,g,h,i,j,k,l,m,n,o,p⟩:Oq) (⟨(0:Int),(0:Int),(0:Int),(0:Int),(0:Int)⟩:Px) mask).1.a,cK (zQe most (⟨d,e,g,h,i,j,k,l,m,n,o,p⟩:Oq) (⟨(0:Int),(0:Int),(0:Int),(0:Int),(0:Int)⟩:Px) mask).1.b,cK (zQe most (⟨d,e,g,h,i,j,k,l,m,n,o,p⟩:Oq) (⟨(0:Int),(0:Int),(0:Int),(0:Int),(0:Int)⟩:Px) mask).1.c,cK (zQe most (⟨d,e,g,h,i,j,k,l,m,n,o,p⟩:Oq) (⟨(0:Int),(0:Int),(0:Int),(0:Int),(0:Int)⟩:Px) mask).1.al,cK (zQe most (⟨d,e,g,h,i,j,k,l,m,n,o,p⟩:Oq) (⟨(0:Int),(0:Int),(0:Int),(0:Int),(0:Int)⟩:Px) mask).1.f]] y3 ⟨AV.one (Cl.d (dQ (zZI most D (⟨d,e,g,h,i,j,k,l,m,n,o,p⟩:Oq) (zQe most (⟨d,e,g,h,i,j,k,l,m,n,o,p⟩:Oq) (⟨(0:Int),(0:Int),(0:Int),(0:Int),(0:Int)⟩:Px) mask).1))),[bC [cK most,Cl.ref 1 (zZf most D (⟨d,e,g,h,i,j,k,l,m,n,o,p⟩:Oq) (zQe most (⟨d,e,g,h,i,j,k,l,m,n,o,p⟩:Oq) (⟨(0:Int),(0:Int),(0:Int),(0:Int),(0:Int)⟩:Px) mask).1).length],Bx.row 123 23 (lvs (zZf most D (⟨d,e,g,h,i,j,k,l,m,n,o,p⟩:Oq) (zQe most (⟨d,e,g,h,i,j,k,l,m,n,o,p⟩:Oq) (⟨(0:Int),(0:Int),(0:Int),(0:Int),(0:Int)⟩:Px) mask).1))],false⟩)∧tU2 (((!(zZI most D (⟨d,e,g,h,i,j,k,l,m,n,o,p⟩:Oq) (zQe most (⟨d,e,g,h,i,j,k,l,m,n,o,p⟩:Oq) (⟨(0:Int),(0:Int),(0:Int),(0:Int),(0:Int)⟩:Px) mask).1))=true→tU3 (Q∧zQn ⟨AV.tup G,F,false⟩))∧((!(zZI most D (⟨d,e,g,h,i,j,k,l,m,n,o,p⟩:Oq) (zQe most (⟨d,e,g,h,i,j,k,l,m,n,o,p⟩:Oq) (⟨(0:Int),(0:Int),(0:Int),(0:Int),(0:Int)⟩:Px) mask).1))=false→tU3 (tU8 (((((z8=K)∧y4∧True)∧True)∧((N∧((zZf most D (⟨d,e,g,h,i,j,k,l,m,n,o,p⟩:Oq) (zQe most (⟨d,e,g,h,i,j,k,l,m,n,o,p⟩:Oq) (⟨(0:Int),(0:Int),(0:Int),(0:Int),(0:Int)⟩:Px) mask).1).length=E.length)∧True)∧(lvs (zZf most D (⟨d,e,g,h,i,j,k,l,m,n,o,p⟩:Oq) (zQe most (⟨d,e,g,h,i,j,k,l,m,n,o,p⟩:Oq) (⟨(0:Int),(0:Int),(0:Int),(0:Int),(0:Int)⟩:Px) mask).1)=lvs E)∧True))∧zQn ⟨AV.tup G,F,false⟩))))))∧y5)))))))))∧((!(Ac.ok (⟨r,s,t,u,v,w⟩:Ac) (⟨x,y,z,A,B⟩:Px) most))=false→tU8 ((Ans prog 78 [RV.agg z7,RV.agg z6,RV.d (dK mask),RV.d (dK most)] (RV.tup [RV.agg y6,RV.d (dQ (zQe most (⟨d,e,g,h,i,j,k,l,m,n,o,p⟩:Oq) (resE (⟨r,s,t,u,v,w⟩:Ac) (⟨x,y,z,A,B⟩:Px) most) mask).2)]))∧tU6 ((true=true)∧tU2 (((!(zQe most (⟨d,e,g,h,i,j,k,l,m,n,o,p⟩:Oq) (resE (⟨r,s,t,u,v,w⟩:Ac) (⟨x,y,z,A,B⟩:Px) most) mask).2)=true→tU3 (z9∧zQn ⟨AV.tup G,F,false⟩))∧((!(zQe most (⟨d,e,g,h,i,j,k,l,m,n,o,p⟩:Oq) (resE (⟨r,s,t,u,v,w⟩:Ac) (⟨x,y,z,A,B⟩:Px) most) mask).2)=false→True∧tU8 (O∧y0∧y1∧tU3 ((true=true)∧tU3 (((!(Ac.ok (⟨r,s,t,u,v,w⟩:Ac) (⟨x,y,z,A,B⟩:Px) most))=false→tU4 ((AnsG prog 79 1 [aPz,AV.agg y2,AV.agg [cK (zQe most (⟨d,e,g,h,i,j,k,l,m,n,o,p⟩:Oq) (resE (⟨r,s,t,u,v,w⟩:Ac) (⟨x,y,z,A,B⟩:Px) most) mask).1.a,cK (zQe most (⟨d,e,g,h,i,j,k,l,m,n,o,p⟩:Oq) (resE (⟨r,s,t,u,v,w⟩:Ac) (⟨x,y,z,A,B⟩:Px) most) mask).1.b,cK (zQe most (⟨d,e,g,h,i,j,k,l,m,n,o,p⟩:Oq) (resE (⟨r,s,t,u,v,w⟩:Ac) (⟨x,y,z,A,B⟩:Px) most) mask).1.c,cK (zQe most (⟨d,e,g,h,i,j,k,l,m,n,o,p⟩:Oq) (resE (⟨r,s,t,u,v,w⟩:Ac) (⟨x,y,z,A,B⟩:Px) most) mask).1.al,cK (zQe most (⟨d,e,g,h,i,j,k,l,m,n,o,p⟩:Oq) (resE (⟨r,s,t,u,v,w⟩:Ac) (⟨x,y,z,A,B⟩:Px) most) mask).1.f]] y3 ⟨AV.one (Cl.d (dQ (zZI most D (⟨d,e,g,h,i,j,k,l,m,n,o,p⟩:Oq) (zQe most (⟨d,e,g,h,i,j,k,l,m,n,o,p⟩:Oq) (resE (⟨r,s,t,u,v,w⟩:Ac) (⟨x,y,z,A,B⟩:Px) most) mask).1))),[bC [cK most,Cl.ref 1 (zZf most D (⟨d,e,g,h,i,j,k,l,m,n,o,p⟩:Oq) (zQe most (⟨d,e,g,h,i,j,k,l,m,n,o,p⟩:Oq) (resE (⟨r,s,t,u,v,w⟩:Ac) (⟨x,y,z,A,B⟩:Px) most) mask).1).length],Bx.row 123 23 (lvs (zZf most D (⟨d,e,g,h,i,j,k,l,m,n,o,p⟩:Oq) (zQe most (⟨d,e,g,h,i,j,k,l,m,n,o,p⟩:Oq) (resE (⟨r,s,t,u,v,w⟩:Ac) (⟨x,y,z,A,B⟩:Px) most) mask).1))],false⟩)∧tU2 (((!(zZI most D (⟨d,e,g,h,i,j,k,l,m,n,o,p⟩:Oq) (zQe most (⟨d,e,g,h,i,j,k,l,m,n,o,p⟩:Oq) (resE (⟨r,s,t,u,v,w⟩:Ac) (⟨x,y,z,A,B⟩:Px) most) mask).1))=true→tU3 (Q∧zQn ⟨AV.tup G,F,false⟩))∧((!(zZI most D (⟨d,e,g,h,i,j,k,l,m,n,o,p⟩:Oq) (zQe most (⟨d,e,g,h,i,j,k,l,m,n,o,p⟩:Oq) (resE (⟨r,s,t,u,v,w⟩:Ac) (⟨x,y,z,A,B⟩:Px) most) mask).1))=false→tU3 (tU8 (((((y6=K)∧y4∧True)∧True)∧((N∧((zZf most D (⟨d,e,g,h,i,j,k,l,m,n,o,p⟩:Oq) (zQe most (⟨d,e,g,h,i,j,k,l,m,n,o,p⟩:Oq) (resE (⟨r,s,t,u,v,w⟩:Ac) (⟨x,y,z,A,B⟩:Px) most) mask).1).length=E.length)∧True)∧(lvs (zZf most D (⟨d,e,g,h,i,j,k,l,m,n,o,p⟩:Oq) (zQe most (⟨d,e,g,h,i,j,k,l,m,n,o,p⟩:Oq) (resE (⟨r,s,t,u,v,w⟩:Ac) (⟨x,y,z,A,B⟩:Px) most) mask).1)=lvs E)∧True))∧zQn ⟨AV.tup G,F,false⟩))))))∧y5)))))))))))))))))) ?_
  delta dJ dK dQ cK aJ aPz bC
  simp only [sS]
  have hk:L.length - 1 < L.length:=by omega
  have hT:L[L.length - 1]=topL L:=(zYo hn).symm
  have ei:((L.length:Int) - 1).toNat=L.length - 1:=by omega
  have bd:0≤(L.length:Int) - 1∧(L.length:Int) - 1 < (L.length:Int):=by omega
  have tp:=zQZ most L hn hl
  have r1:=zK0 (l:=L) (k:=L.length - 1) hk
  have r2:=zK1 (l:=L) (k:=L.length - 1) hk
  rw [hT] at r1 r2
  simp only [Nat.add_zero] at r1 r2
  simp only [ei,Nat.add_assoc,Nat.reduceAdd,Nat.add_zero,Nat.zero_add,r1,r2,and_self,true_and,and_true]
  clear r1 r2 hwf hbx hT
  have dp:=zZL most L hn hl
  have ea:∀ x:Ac,(⟨x.a,x.b,x.c,x.al,x.own,x.f⟩:Ac)=x:=fun _=>rfl
  have eb:∀ x:Px,(⟨x.a,x.b,x.c,x.al,x.f⟩:Px)=x:=fun _=>rfl
  have eo:∀ o:Oq,(⟨o.kind,o.image,o.x,o.y,o.mask,o.mx,o.my,o.opac,o.oper,o.mode,o.iso,o.kno⟩:Oq)=o:=fun _=>rfl
  have ez:(⟨0,0,0,0,0⟩:Px)=.zero:=rfl
  have tk:List.take ((L.length - 1)*23) (lvs L)=lvs L.dropLast:=jJd L
  simp only [ea,eb,eo,ez,tk,zKI]
  have R:=zYz (topL L).acc (topL L).back most
  have SC:=fun p=>zKi (topL L).op p mask most
  have ln:L.dropLast.length=L.length - 1:=by simp
  have PA:2≤L.length→∀ o p,_:=fun h o p=>zXV most L.dropLast o p (by omega) (by omega)
  simp only [ln] at PA
  have rE:=jJG most (topL L)
  have rB:resB most (topL L)=(topL L).acc.ok (topL L).back most:=rfl
  have ap:zZe 23 112 0 (L.length - 1) [] (lvs L.dropLast):=⟨rfl,by rw [zYc,ln],by unfold maxLen; omega,by omega⟩
  unfold jX0 at hgo
  refine ⟨dp,fun h=>?_,fun h=>⟨tp,bd,R,fun hok=>?_,fun hok=>?_⟩⟩
  ·have h:L.length≤1:=by simp at h; omega
   have e1:popR most L mask=(.zero,18):=by unfold popR; rw [if_pos h]
   have e2:popL most L mask=L:=by unfold popL; rw [if_pos h]
   rw [e1,e2]; exact ⟨⟨⟨⟨rfl,rfl,rfl,rfl,rfl⟩,rfl⟩,rfl,rfl⟩,trivial⟩
  ·have h:¬ L.length≤1:=by simp at h; omega
   rw [← rB] at hok
   have rl:resL most (topL L)=.zero:=by unfold resL; rw [if_neg (by rw [hok]; decide)]
   rw [rl] at hgo
   refine ⟨SC .zero,fun hs=>?_,fun hs=>?_⟩
   ·have e1:popR most L mask=(.zero,20):=by unfold popR; rw [if_neg h,rl,if_pos hs]
    have e2:popL most L mask=L:=by unfold popL; rw [if_neg h,rl,if_pos hs]
    rw [e1,e2]; exact ⟨⟨⟨⟨rfl,rfl,rfl,rfl,rfl⟩,rfl⟩,rfl,rfl⟩,trivial⟩
   ·have:=(hgo hs).1
    rw [hok] at this; cases this
  ·have h:¬ L.length≤1:=by simp at h; omega
   rw [rE] at hgo
   refine ⟨SC _,fun hs=>?_,fun hs=>?_⟩
   ·have e1:popR most L mask=(.zero,20):=by unfold popR; rw [if_neg h,rE,if_pos hs]
    have e2:popL most L mask=L:=by unfold popL; rw [if_neg h,rE,if_pos hs]
    rw [e1,e2]; exact ⟨⟨⟨⟨rfl,rfl,rfl,rfl,rfl⟩,rfl⟩,rfl,rfl⟩,trivial⟩
   ·obtain ⟨g1,g2⟩:=hgo hs
    have hs':¬ (zQe most (topL L).op (resE (topL L).acc (topL L).back most) mask).2=false:=by rw [hs]; decide
    have e1:popR most L mask=((zQe most (topL L).op (resE (topL L).acc (topL L).back most) mask).1,0):=by
     unfold popR; rw [if_neg h,rE,if_neg hs',if_pos (by rw [g1,g2]; rfl)]
    have e2:popL most L mask=zZf most L.dropLast (topL L).op (zQe most (topL L).op (resE (topL L).acc (topL L).back most) mask).1:=by
     unfold popL; rw [if_neg h,rE,if_neg hs',if_pos (by rw [g1,g2]; rfl)]
    refine ⟨tp,⟨by omega,by omega⟩,ap,fun _=>⟨PA (by omega) _ _,fun hb=>?_,fun hb=>?_⟩,fun hb=>?_⟩
    ·rw [g2] at hb; cases hb
    ·rw [e1,e2]; exact ⟨⟨⟨⟨rfl,rfl,rfl,rfl,rfl⟩,rfl⟩,rfl,rfl⟩,trivial⟩
    ·rw [hok] at hb; cases hb
end
set_option maxHeartbeats 4000000
section
attribute [local irreducible] Ans AnsO AnsG AnsN AnsI
theorem zKZ (l:List Mc) (c:Mc):mcs l++c.cells=mcs (l++[c]):=by
 rw [← zJT]; simp [mcs]
def jYT (s:Scr) (x y:Int):Prop:=zZj (zQ1 s.bits)=true∧(∀ m∈s.ims,m.isU)∧s.ops.length≤5000∧∀ (k:Nat) (o:Oq),s.ops[k]?=some o→o.kind=3 →
 2≤(runT (zQ1 s.bits) s.ims x y s.ops k).2.length∧jX0 (zQ1 s.bits) (runT (zQ1 s.bits) s.ims x y s.ops k).2 (zZY s.ims (topL (runT (zQ1 s.bits) s.ims x y s.ops k).2).op x y)
def jVe:Gam where
 pure:=fun f xs=>
  if f=44 then gZ25 xs else
  if f=46 then gZ53 xs else
  if f=48 then gZ55 xs else
  if f=54 then gZ50 xs else
  none
 modes:=fun f=>
  if f=45 then some ([true],0,2) else
  if f=47 then some ([false,true,true,true,true,true],0,1) else
  if f=53 then some ([false],2,1000) else
  if f=49 then some ([false],2,1000) else
  if f=52 then some ([false],2,1000) else
  if f=50 then some ([false,true,true,true],1,1) else
  if f=51 then some ([false,true],1,1) else
  if f=55 then some ([false,true],1,1) else
  none
 proc:=fun f xs bs=>
  if f=45 then (match xs,bs with | [AV.one (Cl.d (DV.int _ most))],[]=>some ⟨AV.tup [aPz,aJ 0],[bC [cK most,Cl.ref 1 1],Bx.row 123 23 (lvs [zXF])],true⟩ | _,_=>none) else
  if f=47 then (match xs,bs with | [AV.one (Cl.ref 0 n),AV.one (Cl.d (DV.int _ at_)),AV.agg [Cl.d (DV.int _ okind),Cl.d (DV.int _ oimage),Cl.d (DV.int _ ox),Cl.d (DV.int _ oy),Cl.d (DV.int _ omask),Cl.d (DV.int _ omx),Cl.d (DV.int _ omy),Cl.d (DV.int _ oopac),Cl.d (DV.int _ ooper),Cl.d (DV.int _ omode),Cl.d (DV.bool oiso),Cl.d (DV.bool okno)],AV.agg [Cl.d (DV.int _ pa),Cl.d (DV.int _ pb),Cl.d (DV.int _ pc),Cl.d (DV.int _ pal),Cl.d (DV.int _ pf)],AV.one (Cl.d (DV.int _ mask)),AV.one (Cl.d (DV.int _ most))],[Bx.row _ _ xs]=>some ⟨AV.tup [AV.one (Cl.ref 0 (zXx (zWg xs) at_ (⟨okind,oimage,ox,oy,omask,omx,omy,oopac,ooper,omode,oiso,okno⟩:Oq) (⟨pa,pb,pc,pal,pf⟩:Px) mask most).1.length),AV.agg [cK (zXx (zWg xs) at_ (⟨okind,oimage,ox,oy,omask,omx,omy,oopac,ooper,omode,oiso,okno⟩:Oq) (⟨pa,pb,pc,pal,pf⟩:Px) mask most).2.a,cK (zXx (zWg xs) at_ (⟨okind,oimage,ox,oy,omask,omx,omy,oopac,ooper,omode,oiso,okno⟩:Oq) (⟨pa,pb,pc,pal,pf⟩:Px) mask most).2.b,cK (zXx (zWg xs) at_ (⟨okind,oimage,ox,oy,omask,omx,omy,oopac,ooper,omode,oiso,okno⟩:Oq) (⟨pa,pb,pc,pal,pf⟩:Px) mask most).2.c,cK (zXx (zWg xs) at_ (⟨okind,oimage,ox,oy,omask,omx,omy,oopac,ooper,omode,oiso,okno⟩:Oq) (⟨pa,pb,pc,pal,pf⟩:Px) mask most).2.al,cK (zXx (zWg xs) at_ (⟨okind,oimage,ox,oy,omask,omx,omy,oopac,ooper,omode,oiso,okno⟩:Oq) (⟨pa,pb,pc,pal,pf⟩:Px) mask most).2.f]],[Bx.row 112 18 (mcs (zXx (zWg xs) at_ (⟨okind,oimage,ox,oy,omask,omx,omy,oopac,ooper,omode,oiso,okno⟩:Oq) (⟨pa,pb,pc,pal,pf⟩:Px) mask most).1)],false⟩ | _,_=>none) else
  if f=53 then gZ56 xs bs else
  if f=49 then (match xs,bs with | [AV.one (Cl.ptr 0 0)],[Bx.cells [Cl.d (DV.int _ most),Cl.ref 1 n],Bx.row _ _ xs]=>some ⟨AV.agg [cK (topL (zQw xs)).acc.a,cK (topL (zQw xs)).acc.b,cK (topL (zQw xs)).acc.c,cK (topL (zQw xs)).acc.al,cK (topL (zQw xs)).acc.own,cK (topL (zQw xs)).acc.f],[bC [cK most,Cl.ref 1 n],Bx.row 123 23 xs],false⟩ | _,_=>none) else
  if f=52 then (match xs,bs with | [AV.one (Cl.ptr 0 0)],[Bx.cells [Cl.d (DV.int _ most),Cl.ref 1 n],Bx.row _ _ xs]=>some ⟨AV.agg [cK (topL (zQw xs)).back.a,cK (topL (zQw xs)).back.b,cK (topL (zQw xs)).back.c,cK (topL (zQw xs)).back.al,cK (topL (zQw xs)).back.f],[bC [cK most,Cl.ref 1 n],Bx.row 123 23 xs],false⟩ | _,_=>none) else
  if f=50 then (match xs,bs with | [AV.one (Cl.ptr 0 0),AV.agg [Cl.d (DV.int _ okind),Cl.d (DV.int _ oimage),Cl.d (DV.int _ ox),Cl.d (DV.int _ oy),Cl.d (DV.int _ omask),Cl.d (DV.int _ omx),Cl.d (DV.int _ omy),Cl.d (DV.int _ oopac),Cl.d (DV.int _ ooper),Cl.d (DV.int _ omode),Cl.d (DV.bool oiso),Cl.d (DV.bool okno)],AV.agg [Cl.d (DV.int _ pa),Cl.d (DV.int _ pb),Cl.d (DV.int _ pc),Cl.d (DV.int _ pal),Cl.d (DV.int _ pf)],AV.one (Cl.d (DV.int _ mask))],[Bx.cells [Cl.d (DV.int _ most),Cl.ref 1 n],Bx.row _ _ xs]=>some ⟨AV.tup [AV.agg [cK (zYQ most (zQw xs) (⟨okind,oimage,ox,oy,omask,omx,omy,oopac,ooper,omode,oiso,okno⟩:Oq) (⟨pa,pb,pc,pal,pf⟩:Px) mask).1.a,cK (zYQ most (zQw xs) (⟨okind,oimage,ox,oy,omask,omx,omy,oopac,ooper,omode,oiso,okno⟩:Oq) (⟨pa,pb,pc,pal,pf⟩:Px) mask).1.b,cK (zYQ most (zQw xs) (⟨okind,oimage,ox,oy,omask,omx,omy,oopac,ooper,omode,oiso,okno⟩:Oq) (⟨pa,pb,pc,pal,pf⟩:Px) mask).1.c,cK (zYQ most (zQw xs) (⟨okind,oimage,ox,oy,omask,omx,omy,oopac,ooper,omode,oiso,okno⟩:Oq) (⟨pa,pb,pc,pal,pf⟩:Px) mask).1.al,cK (zYQ most (zQw xs) (⟨okind,oimage,ox,oy,omask,omx,omy,oopac,ooper,omode,oiso,okno⟩:Oq) (⟨pa,pb,pc,pal,pf⟩:Px) mask).1.f],aJ (zYQ most (zQw xs) (⟨okind,oimage,ox,oy,omask,omx,omy,oopac,ooper,omode,oiso,okno⟩:Oq) (⟨pa,pb,pc,pal,pf⟩:Px) mask).2],[bC [cK most,Cl.ref 1 (zYR most (zQw xs) (⟨okind,oimage,ox,oy,omask,omx,omy,oopac,ooper,omode,oiso,okno⟩:Oq) (⟨pa,pb,pc,pal,pf⟩:Px) mask).length],Bx.row 123 23 (lvs (zYR most (zQw xs) (⟨okind,oimage,ox,oy,omask,omx,omy,oopac,ooper,omode,oiso,okno⟩:Oq) (⟨pa,pb,pc,pal,pf⟩:Px) mask))],false⟩ | _,_=>none) else
  if f=51 then (match xs,bs with | [AV.one (Cl.ptr 0 0),AV.agg [Cl.d (DV.int _ okind),Cl.d (DV.int _ oimage),Cl.d (DV.int _ ox),Cl.d (DV.int _ oy),Cl.d (DV.int _ omask),Cl.d (DV.int _ omx),Cl.d (DV.int _ omy),Cl.d (DV.int _ oopac),Cl.d (DV.int _ ooper),Cl.d (DV.int _ omode),Cl.d (DV.bool oiso),Cl.d (DV.bool okno)]],[Bx.cells [Cl.d (DV.int _ most),Cl.ref 1 n],Bx.row _ _ xs]=>some ⟨aJ (zKr (zQw xs) (⟨okind,oimage,ox,oy,omask,omx,omy,oopac,ooper,omode,oiso,okno⟩:Oq)),[bC [cK most,Cl.ref 1 (zXS (zQw xs) (⟨okind,oimage,ox,oy,omask,omx,omy,oopac,ooper,omode,oiso,okno⟩:Oq)).length],Bx.row 123 23 (lvs (zXS (zQw xs) (⟨okind,oimage,ox,oy,omask,omx,omy,oopac,ooper,omode,oiso,okno⟩:Oq)))],false⟩ | _,_=>none) else
  if f=55 then (match xs,bs with | [AV.one (Cl.ptr 0 0),AV.one (Cl.d (DV.int _ mask))],[Bx.cells [Cl.d (DV.int _ most),Cl.ref 1 n],Bx.row _ _ xs]=>some ⟨AV.tup [AV.agg [cK (popR most (zQw xs) mask).1.a,cK (popR most (zQw xs) mask).1.b,cK (popR most (zQw xs) mask).1.c,cK (popR most (zQw xs) mask).1.al,cK (popR most (zQw xs) mask).1.f],aJ (popR most (zQw xs) mask).2],[bC [cK most,Cl.ref 1 (popL most (zQw xs) mask).length],Bx.row 123 23 (lvs (popL most (zQw xs) mask))],false⟩ | _,_=>none) else
  none
 iter:=fun f cs=>
  none
theorem jQ8 (s:Scr) (x y:Int) (hr:jYT s x y):AnsG prog 27 0 [AV.agg [cJ (s.bits),cJ (s.c.a),cJ (s.c.b),cJ (s.c.c),cJ (s.c.d),cJ (s.tw),cJ (s.th),Cl.d (dS s.ord.length (is s.ord)),Cl.d (dS s.ims.length (ims s.ims)),Cl.d (dS s.ops.length (ops s.ops))],aJ ((x)),aJ ((y))] [] ⟨AV.tup [AV.one (Cl.ref 0 ((runT (zQ1 s.bits) s.ims x y s.ops s.ops.length).1.length)),AV.one (Cl.ptr 1 0)],[Bx.row 112 18 (mcs (runT (zQ1 s.bits) s.ims x y s.ops s.ops.length).1),bC [cK ((zQ1 s.bits)),Cl.ref 2 ((runT (zQ1 s.bits) s.ims x y s.ops s.ops.length).2.length)],Bx.row 123 23 (lvs (runT (zQ1 s.bits) s.ims x y s.ops s.ops.length).2)],false⟩:=
 zQL (Γ:=jVe) (let H:=(15,AV.one (Cl.ptr 15 0)); let B:=(19,AV.one (Cl.ptr 19 0)); let C:=(14,AV.one (Cl.ptr 14 0)); let e:=(3,AV.one (Cl.ptr 3 0)); let d:=(zQ1 s.bits); let h:=(1,aJ x); let i:=(2,aJ y); let I:=(dK d); let j:=(8,AV.one (Cl.d I)); let m:=(10,AV.one (Cl.ptr 9003 0)); let z:=fun (k:Nat)=>(12,AV.one (Cl.ref 9001 (runT d s.ims x y s.ops k).1.length)); let n:=fun (k:Nat)=>(13,aJ (k:Int)); let P:=fun (k:Nat)=>[h,i,e,j,m,(z k),(n k)]; let t:=(3,bC [cJ s.bits,cJ s.c.a,cJ s.c.b,cJ s.c.c,cJ s.c.d,cJ s.tw,cJ s.th,Cl.d (dS s.ord.length (is s.ord)),Cl.d (dS s.ims.length (ims s.ims)),Cl.d (dS s.ops.length (ops s.ops))]); let u:=fun (k:Nat)=>(9003,bC [Cl.d I,Cl.ref 9002 (runT d s.ims x y s.ops k).2.length]); let A:=fun (k:Nat)=>(9001,Bx.row 112 18 (mcs (runT d s.ims x y s.ops k).1)); let v:=fun (k:Nat)=>(9002,Bx.row 123 23 (lvs (runT d s.ims x y s.ops k).2)); let D:=fun (o:Oq)=>(14,bC [cJ o.kind,cJ o.image,cJ o.x,cJ o.y,cJ o.mask,cJ o.mx,cJ o.my,cK o.opac,cJ o.oper,cJ o.mode,Cl.d (dQ o.iso),Cl.d (dQ o.kno)]); let J:=fun (p:Px × Int)=>(16,AV.one (cK p.2)); let K:=fun (p:Px × Int)=>(15,bC [cK p.1.a,cK p.1.b,cK p.1.c,cK p.1.al,cK p.1.f]); let Q:=fun (l:List Mc)=>(12,AV.one (Cl.ref 9001 l.length)); let R:=fun (l:List Mc)=>(9001,Bx.row 112 18 (mcs l)); let E:=fun (q:List Mc × Px)=>(12,AV.one (Cl.ref 9001 q.1.length)); let F:=fun (q:List Mc × Px)=>(9001,Bx.row 112 18 (mcs q.1)); let S:=fun (q:List Mc × Px)=>[cK q.2.a,cK q.2.b,cK q.2.c,cK q.2.al,cK q.2.f]; let T:=fun (q:List Mc × Px)=>(17,Bx.cells (S q)); let M:=fun (L:List Lv)=>(9003,bC [Cl.d I,Cl.ref 9002 L.length]); let N:=fun (L:List Lv)=>(9002,Bx.row 123 23 (lvs L)); let O:=fun (g:Lv)=>(19,bC [cJ g.op.kind,cJ g.op.image,cJ g.op.x,cJ g.op.y,cJ g.op.mask,cJ g.op.mx,cJ g.op.my,cK g.op.opac,cJ g.op.oper,cJ g.op.mode,Cl.d (dQ g.op.iso),Cl.d (dQ g.op.kno),cK g.acc.a,cK g.acc.b,cK g.acc.c,cK g.acc.al,cK g.acc.own,cK g.acc.f,cK g.back.a,cK g.back.b,cK g.back.c,cK g.back.al,cK g.back.f]); let U:=fun (k:Nat)=>fun (g:Lv)=>[t,(u k),(A k),(O g),(v k)]; let G:=fun (w:Int)=>(21,AV.one (cK w)); let V:=fun (r:Px)=>(22,bC [cK r.a,cK r.b,cK r.c,cK r.al,cK r.f]); let W:=fun (q:List Mc × Px)=>(24,Bx.cells (S q)); (Ann.seq Ann.leaf (Ann.seq Ann.leaf (Ann.seq Ann.leaf (Ann.seq Ann.leaf (Ann.seq (Ann.seq Ann.leaf (Ann.loop ⟨Nat,fun k=>k≤s.ops.length,fun k=>⟨(P k),[t,(u k),(A k),(v k)]⟩,fun k=>s.ops.length - k⟩ fun k=>(Ann.seq Ann.leaf (Ann.seq (Ann.seq Ann.leaf (Ann.cut ⟨Oq,fun o:Oq=>s.ops[k]?=some o,fun o:Oq=>⟨[h,i,e,j,m,(z k),(n k),C,(50,aJ o.kind)],[t,(u k),(A k),(D o),(v k)]⟩,fun o:Oq=>0⟩ Ann.leaf fun o=>(Ann.seq Ann.leaf (Ann.seq (Ann.cut ⟨Px × Int,fun p:Px × Int=>p=(srcS s.ims o x y,zZY s.ims o x y),fun p:Px × Int=>⟨[h,i,e,j,m,(z k),(n k),C,H,(J p)],[t,(u k),(A k),(D o),(K p),(v k)]⟩,fun p:Px × Int=>0⟩ Ann.leaf fun p=>(Ann.cut ⟨List Mc,fun l:List Mc=>l=(runT d s.ims x y s.ops k).1++[⟨k,1,.zero,.zero,0,p.1⟩],fun l:List Mc=>⟨[h,i,e,j,m,(Q l),(n k),C,H,(J p)],[t,(u k),(R l),(D o),(K p),(v k)]⟩,fun l:List Mc=>0⟩ Ann.leaf fun l=>(Ann.seq Ann.leaf (Ann.cut ⟨List Mc × Px,fun q:List Mc × Px=>q=zXx l k o p.1 p.2 d,fun q:List Mc × Px=>⟨[h,i,e,j,m,(E q),(n k),C,H,(J p),(17,AV.one (Cl.ptr 17 0))],[t,(u k),(F q),(D o),(K p),(T q),(v k)]⟩,fun q:List Mc × Px=>0⟩ Ann.leaf fun q=>(Ann.seq Ann.leaf (Ann.cut ⟨List Lv,fun L:List Lv=>L=zYR d (runT d s.ims x y s.ops k).2 o p.1 p.2,fun L:List Lv=>⟨[h,i,e,j,m,(E q),(n k),(17,AV.one (Cl.ptr 17 0)),(18,AV.one (Cl.ptr 18 0))],[t,(M L),(F q),(T q),(18,bC [cK (Ac.col (topL (zQw (lvs (runT d s.ims x y s.ops k).2))).acc).a,cK (Ac.col (topL (zQw (lvs (runT d s.ims x y s.ops k).2))).acc).b,cK (Ac.col (topL (zQw (lvs (runT d s.ims x y s.ops k).2))).acc).c,cK (Ac.col (topL (zQw (lvs (runT d s.ims x y s.ops k).2))).acc).al,cK (Ac.col (topL (zQw (lvs (runT d s.ims x y s.ops k).2))).acc).f]),(N L)]⟩,fun L:List Lv=>0⟩ Ann.leaf fun L=>Ann.leaf)))))) (Ann.seq Ann.leaf (Ann.seq (Ann.cut ⟨List Lv,fun L:List Lv=>L=zXS (runT d s.ims x y s.ops k).2 o,fun L:List Lv=>⟨(P k),[t,(M L),(A k),(N L)]⟩,fun L:List Lv=>0⟩ Ann.leaf fun L=>Ann.leaf) (Ann.seq Ann.leaf (Ann.seq (Ann.cut ⟨Lv,fun g:Lv=>g=topL (runT d s.ims x y s.ops k).2,fun g:Lv=>⟨[h,i,e,j,m,(z k),(n k),B],(U k g)⟩,fun g:Lv=>0⟩ Ann.leaf fun g=>(Ann.cut ⟨Int,fun w:Int=>w=zZY s.ims g.op x y,fun w:Int=>⟨[h,i,e,j,m,(z k),(n k),B,(G w)],(U k g)⟩,fun w:Int=>0⟩ Ann.leaf fun w=>(Ann.cut ⟨Px,fun r:Px=>r=resE g.acc g.back d,fun r:Px=>⟨[h,i,e,j,m,(z k),(n k),B,(G w),(22,AV.one (Cl.ptr 22 0))],[t,(u k),(A k),(O g),(V r),(v k)]⟩,fun r:Px=>0⟩ Ann.leaf fun r=>(Ann.cut ⟨List Mc,fun l:List Mc=>l=(runT d s.ims x y s.ops k).1++[⟨k,6,.zero,.zero,0,r⟩],fun l:List Mc=>⟨[h,i,e,j,m,(Q l),(n k),B,(G w),(22,AV.one (Cl.ptr 22 0))],[t,(u k),(R l),(O g),(V r),(v k)]⟩,fun l:List Mc=>0⟩ Ann.leaf fun l=>(Ann.seq Ann.leaf (Ann.cut ⟨List Mc × Px,fun q:List Mc × Px=>q=zXx l k g.op r w d,fun q:List Mc × Px=>⟨[h,i,e,j,m,(E q),(n k),(G w),(24,AV.one (Cl.ptr 24 0))],[t,(u k),(F q),(W q),(v k)]⟩,fun q:List Mc × Px=>0⟩ Ann.leaf fun q=>(Ann.seq Ann.leaf (Ann.cut ⟨List Lv,fun L:List Lv=>L=popL d (runT d s.ims x y s.ops k).2 w,fun L:List Lv=>⟨[h,i,e,j,m,(E q),(n k),(24,AV.one (Cl.ptr 24 0)),(25,AV.one (Cl.ptr 25 0))],[t,(M L),(F q),(W q),(25,bC [cK (Ac.col (⟨(nAt (lvs (runT d s.ims x y s.ops k).2) ((wK ((((runT d s.ims x y s.ops k).2.length:Int) - 1) - 1)).toNat*23+12)),(nAt (lvs (runT d s.ims x y s.ops k).2) ((wK ((((runT d s.ims x y s.ops k).2.length:Int) - 1) - 1)).toNat*23+12+1)),(nAt (lvs (runT d s.ims x y s.ops k).2) ((wK ((((runT d s.ims x y s.ops k).2.length:Int) - 1) - 1)).toNat*23+12+1+1)),(nAt (lvs (runT d s.ims x y s.ops k).2) ((wK ((((runT d s.ims x y s.ops k).2.length:Int) - 1) - 1)).toNat*23+12+1+1+1)),(nAt (lvs (runT d s.ims x y s.ops k).2) ((wK ((((runT d s.ims x y s.ops k).2.length:Int) - 1) - 1)).toNat*23+12+1+1+1+1)),(nAt (lvs (runT d s.ims x y s.ops k).2) ((wK ((((runT d s.ims x y s.ops k).2.length:Int) - 1) - 1)).toNat*23+12+1+1+1+1+1))⟩:Ac)).a,cK (Ac.col (⟨(nAt (lvs (runT d s.ims x y s.ops k).2) ((wK ((((runT d s.ims x y s.ops k).2.length:Int) - 1) - 1)).toNat*23+12)),(nAt (lvs (runT d s.ims x y s.ops k).2) ((wK ((((runT d s.ims x y s.ops k).2.length:Int) - 1) - 1)).toNat*23+12+1)),(nAt (lvs (runT d s.ims x y s.ops k).2) ((wK ((((runT d s.ims x y s.ops k).2.length:Int) - 1) - 1)).toNat*23+12+1+1)),(nAt (lvs (runT d s.ims x y s.ops k).2) ((wK ((((runT d s.ims x y s.ops k).2.length:Int) - 1) - 1)).toNat*23+12+1+1+1)),(nAt (lvs (runT d s.ims x y s.ops k).2) ((wK ((((runT d s.ims x y s.ops k).2.length:Int) - 1) - 1)).toNat*23+12+1+1+1+1)),(nAt (lvs (runT d s.ims x y s.ops k).2) ((wK ((((runT d s.ims x y s.ops k).2.length:Int) - 1) - 1)).toNat*23+12+1+1+1+1+1))⟩:Ac)).b,cK (Ac.col (⟨(nAt (lvs (runT d s.ims x y s.ops k).2) ((wK ((((runT d s.ims x y s.ops k).2.length:Int) - 1) - 1)).toNat*23+12)),(nAt (lvs (runT d s.ims x y s.ops k).2) ((wK ((((runT d s.ims x y s.ops k).2.length:Int) - 1) - 1)).toNat*23+12+1)),(nAt (lvs (runT d s.ims x y s.ops k).2) ((wK ((((runT d s.ims x y s.ops k).2.length:Int) - 1) - 1)).toNat*23+12+1+1)),(nAt (lvs (runT d s.ims x y s.ops k).2) ((wK ((((runT d s.ims x y s.ops k).2.length:Int) - 1) - 1)).toNat*23+12+1+1+1)),(nAt (lvs (runT d s.ims x y s.ops k).2) ((wK ((((runT d s.ims x y s.ops k).2.length:Int) - 1) - 1)).toNat*23+12+1+1+1+1)),(nAt (lvs (runT d s.ims x y s.ops k).2) ((wK ((((runT d s.ims x y s.ops k).2.length:Int) - 1) - 1)).toNat*23+12+1+1+1+1+1))⟩:Ac)).c,cK (Ac.col (⟨(nAt (lvs (runT d s.ims x y s.ops k).2) ((wK ((((runT d s.ims x y s.ops k).2.length:Int) - 1) - 1)).toNat*23+12)),(nAt (lvs (runT d s.ims x y s.ops k).2) ((wK ((((runT d s.ims x y s.ops k).2.length:Int) - 1) - 1)).toNat*23+12+1)),(nAt (lvs (runT d s.ims x y s.ops k).2) ((wK ((((runT d s.ims x y s.ops k).2.length:Int) - 1) - 1)).toNat*23+12+1+1)),(nAt (lvs (runT d s.ims x y s.ops k).2) ((wK ((((runT d s.ims x y s.ops k).2.length:Int) - 1) - 1)).toNat*23+12+1+1+1)),(nAt (lvs (runT d s.ims x y s.ops k).2) ((wK ((((runT d s.ims x y s.ops k).2.length:Int) - 1) - 1)).toNat*23+12+1+1+1+1)),(nAt (lvs (runT d s.ims x y s.ops k).2) ((wK ((((runT d s.ims x y s.ops k).2.length:Int) - 1) - 1)).toNat*23+12+1+1+1+1+1))⟩:Ac)).al,cK (Ac.col (⟨(nAt (lvs (runT d s.ims x y s.ops k).2) ((wK ((((runT d s.ims x y s.ops k).2.length:Int) - 1) - 1)).toNat*23+12)),(nAt (lvs (runT d s.ims x y s.ops k).2) ((wK ((((runT d s.ims x y s.ops k).2.length:Int) - 1) - 1)).toNat*23+12+1)),(nAt (lvs (runT d s.ims x y s.ops k).2) ((wK ((((runT d s.ims x y s.ops k).2.length:Int) - 1) - 1)).toNat*23+12+1+1)),(nAt (lvs (runT d s.ims x y s.ops k).2) ((wK ((((runT d s.ims x y s.ops k).2.length:Int) - 1) - 1)).toNat*23+12+1+1+1)),(nAt (lvs (runT d s.ims x y s.ops k).2) ((wK ((((runT d s.ims x y s.ops k).2.length:Int) - 1) - 1)).toNat*23+12+1+1+1+1)),(nAt (lvs (runT d s.ims x y s.ops k).2) ((wK ((((runT d s.ims x y s.ops k).2.length:Int) - 1) - 1)).toNat*23+12+1+1+1+1+1))⟩:Ac)).f]),(N L)]⟩,fun L:List Lv=>0⟩ Ann.leaf fun L=>Ann.leaf)))))))) Ann.leaf)))))))) Ann.leaf)))) Ann.leaf)))))) zQg Tryz.func27 rfl (nL rfl) rfl fun hwf hbx=>by
  refine Eq.mpr (by kernel_rfl:_=(let x6:=(s.ops.length:Int); let J:=(zQf (ims s.ims)); let d:=(zQ1 s.bits); let Q:=(runT d s.ims x y s.ops s.ops.length); let A:=(dK d); let y1:=(Cl.d A); let n:=(dJ x=dJ x); let t:=(dJ y=dJ y); let i:=(dK d=dK d); let z1:=[dJ s.bits,dJ s.c.a,dJ s.c.b,dJ s.c.c,dJ s.c.d,dJ s.tw,dJ s.th,dS s.ord.length (is s.ord),dS s.ims.length (ims s.ims),dS s.ops.length (ops s.ops)]; let j:=(z1=z1); let S:=fun (k:Nat)=>((runT d s.ims x y s.ops k).1.length=(runT d s.ims x y s.ops k).1.length); let I:=fun (k:Nat)=>(dJ (k:Int)=dJ (k:Int)); let N:=fun (k:Nat)=>(i∧((runT d s.ims x y s.ops k).2.length=(runT d s.ims x y s.ops k).2.length)∧True); let T:=fun (k:Nat)=>(mcs (runT d s.ims x y s.ops k).1=mcs (runT d s.ims x y s.ops k).1); let O:=fun (k:Nat)=>(lvs (runT d s.ims x y s.ops k).2=lvs (runT d s.ims x y s.ops k).2); let x7:=fun (o:Oq)=>[dK (srcS J o x y).a,dK (srcS J o x y).b,dK (srcS J o x y).c,dK (srcS J o x y).al,dK (srcS J o x y).f]; let x8:=fun (o:Oq)=>fun (p:Px × Int)=>(p=(srcS s.ims o x y,zZY s.ims o x y)); let y2:=fun (o:Oq)=>((Oq.cells o)=(Oq.cells o)); let y3:=fun (p:Px × Int)=>[dK p.1.a,dK p.1.b,dK p.1.c,dK p.1.al,dK p.1.f]; let x9:=fun (k:Nat)=>fun (p:Px × Int)=>fun (l:List Mc)=>(l=(runT d s.ims x y s.ops k).1++[⟨k,1,.zero,.zero,0,p.1⟩]); let w0:=fun (k:Nat)=>fun (l:List Mc)=>((runT d s.ims x y s.ops k).1.length+1=l.length); let w1:=fun (p:Px × Int)=>(dK p.2=dK p.2); let w2:=fun (p:Px × Int)=>((y3 p)=(y3 p)); let y4:=fun (o:Oq)=>[cJ o.kind,cJ o.image,cJ o.x,cJ o.y,cJ o.mask,cJ o.mx,cJ o.my,cK o.opac,cJ o.oper,cJ o.mode,Cl.d (dQ o.iso),Cl.d (dQ o.kno)]; let w3:=fun (p:Px × Int)=>[cK p.1.a,cK p.1.b,cK p.1.c,cK p.1.al,cK p.1.f]; let w4:=fun (l:List Mc)=>[Bx.row 112 18 (mcs l)]; let w5:=fun (k:Nat)=>fun (o:Oq)=>fun (p:Px × Int)=>fun (l:List Mc)=>fun (q:List Mc × Px)=>(q=zXx l k o p.1 p.2 d); let z2:=fun (q:List Mc × Px)=>[dK q.2.a,dK q.2.b,dK q.2.c,dK q.2.al,dK q.2.f]; let P:=fun (k:Nat)=>[bC [Cl.d A,Cl.ref 1 (runT d s.ims x y s.ops k).2.length],Bx.row 123 23 (lvs (runT d s.ims x y s.ops k).2)]; let U:=fun (k:Nat)=>[bC [Cl.d A,Cl.ref 9002 (runT d s.ims x y s.ops k).2.length],Bx.row 123 23 (lvs (runT d s.ims x y s.ops k).2)]; let y5:=fun (k:Nat)=>[dK (Ac.col (topL (zQw (lvs (runT d s.ims x y s.ops k).2))).acc).a,dK (Ac.col (topL (zQw (lvs (runT d s.ims x y s.ops k).2))).acc).b,dK (Ac.col (topL (zQw (lvs (runT d s.ims x y s.ops k).2))).acc).c,dK (Ac.col (topL (zQw (lvs (runT d s.ims x y s.ops k).2))).acc).al,dK (Ac.col (topL (zQw (lvs (runT d s.ims x y s.ops k).2))).acc).f]; let w6:=fun (k:Nat)=>fun (o:Oq)=>fun (p:Px × Int)=>fun (L:List Lv)=>(L=zYR d (runT d s.ims x y s.ops k).2 o p.1 p.2); let w7:=fun (k:Nat)=>fun (q:List Mc × Px)=>(n∧t∧(0=0)∧i∧(0=0)∧(q.1.length=q.1.length)∧(I k)∧(0=0)∧(0=0)∧True); let w8:=fun (q:List Mc × Px)=>((z2 q)=(z2 q)); let z3:=fun (L:List Lv)=>[bC [Cl.d A,Cl.ref 1 L.length],Bx.row 123 23 (lvs L)]; let z4:=fun (L:List Lv)=>[bC [Cl.d A,Cl.ref 9002 L.length],Bx.row 123 23 (lvs L)]; let w9:=fun (L:List Lv)=>(AnsG prog 49 2 [aPz] (z3 L) ⟨AV.agg [cK (topL (zQw (lvs L))).acc.a,cK (topL (zQw (lvs L))).acc.b,cK (topL (zQw (lvs L))).acc.c,cK (topL (zQw (lvs L))).acc.al,cK (topL (zQw (lvs L))).acc.own,cK (topL (zQw (lvs L))).acc.f],(z3 L),false⟩∧(z4 L)=(z4 L)); let v0:=fun (L:List Lv)=>(Ans prog 48 [RV.agg [dK (topL (zQw (lvs L))).acc.a,dK (topL (zQw (lvs L))).acc.b,dK (topL (zQw (lvs L))).acc.c,dK (topL (zQw (lvs L))).acc.al,dK (topL (zQw (lvs L))).acc.own,dK (topL (zQw (lvs L))).acc.f]] (RV.agg [dK (Ac.col (topL (zQw (lvs L))).acc).a,dK (Ac.col (topL (zQw (lvs L))).acc).b,dK (Ac.col (topL (zQw (lvs L))).acc).c,dK (Ac.col (topL (zQw (lvs L))).acc).al,dK (Ac.col (topL (zQw (lvs L))).acc).f])); let z5:=fun (k:Nat)=>fun (k':Nat)=>(s.ops.length - k' < s.ops.length - k); let y6:=fun (k:Nat)=>fun (k':Nat)=>(dJ (wK ((k:Int)+1))=dJ (k':Int)); let v1:=fun (k:Nat)=>fun (q:List Mc × Px)=>fun (k':Nat)=>(n∧t∧(0=0)∧i∧(0=0)∧(q.1.length+1=(runT d s.ims x y s.ops k').1.length)∧(y6 k k')∧True); let y7:=fun (L:List Lv)=>fun (k':Nat)=>(i∧(L.length=(runT d s.ims x y s.ops k').2.length)∧True); let y8:=fun (L:List Lv)=>fun (k':Nat)=>(lvs L=lvs (runT d s.ims x y s.ops k').2); let v2:=fun (k:Nat)=>fun (o:Oq)=>fun (L:List Lv)=>(L=zXS (runT d s.ims x y s.ops k).2 o); let v3:=fun (k:Nat)=>fun (g:Lv)=>(g=topL (runT d s.ims x y s.ops k).2); let y9:=fun (g:Lv)=>[dJ g.op.kind,dJ g.op.image,dJ g.op.x,dJ g.op.y,dJ g.op.mask,dJ g.op.mx,dJ g.op.my,dK g.op.opac,dJ g.op.oper,dJ g.op.mode,dQ g.op.iso,dQ g.op.kno,dK g.acc.a,dK g.acc.b,dK g.acc.c,dK g.acc.al,dK g.acc.own,dK g.acc.f,dK g.back.a,dK g.back.b,dK g.back.c,dK g.back.al,dK g.back.f]; let x0:=fun (g:Lv)=>((y9 g)=(y9 g)); let v4:=fun (g:Lv)=>[dK (resE g.acc g.back d).a,dK (resE g.acc g.back d).b,dK (resE g.acc g.back d).c,dK (resE g.acc g.back d).al,dK (resE g.acc g.back d).f]; let v5:=fun (g:Lv)=>fun (r:Px)=>(r=resE g.acc g.back d); let x1:=fun (w:Int)=>(dK w=dK w); let x2:=fun (r:Px)=>[dK r.a,dK r.b,dK r.c,dK r.al,dK r.f]; let v6:=fun (k:Nat)=>fun (l:List Mc)=>fun (r:Px)=>(l=(runT d s.ims x y s.ops k).1++[⟨k,6,.zero,.zero,0,r⟩]); let v7:=fun (k:Nat)=>fun (l:List Mc)=>fun (q:List Mc × Px)=>fun (g:Lv)=>fun (w:Int)=>fun (r:Px)=>(q=zXx l k g.op r w d); let x3:=fun (k:Nat)=>[dK (Ac.col (⟨(nAt (lvs (runT d s.ims x y s.ops k).2) ((wK ((((runT d s.ims x y s.ops k).2.length:Int) - 1) - 1)).toNat*23+12)),(nAt (lvs (runT d s.ims x y s.ops k).2) ((wK ((((runT d s.ims x y s.ops k).2.length:Int) - 1) - 1)).toNat*23+12+1)),(nAt (lvs (runT d s.ims x y s.ops k).2) ((wK ((((runT d s.ims x y s.ops k).2.length:Int) - 1) - 1)).toNat*23+12+1+1)),(nAt (lvs (runT d s.ims x y s.ops k).2) ((wK ((((runT d s.ims x y s.ops k).2.length:Int) - 1) - 1)).toNat*23+12+1+1+1)),(nAt (lvs (runT d s.ims x y s.ops k).2) ((wK ((((runT d s.ims x y s.ops k).2.length:Int) - 1) - 1)).toNat*23+12+1+1+1+1)),(nAt (lvs (runT d s.ims x y s.ops k).2) ((wK ((((runT d s.ims x y s.ops k).2.length:Int) - 1) - 1)).toNat*23+12+1+1+1+1+1))⟩:Ac)).a,dK (Ac.col (⟨(nAt (lvs (runT d s.ims x y s.ops k).2) ((wK ((((runT d s.ims x y s.ops k).2.length:Int) - 1) - 1)).toNat*23+12)),(nAt (lvs (runT d s.ims x y s.ops k).2) ((wK ((((runT d s.ims x y s.ops k).2.length:Int) - 1) - 1)).toNat*23+12+1)),(nAt (lvs (runT d s.ims x y s.ops k).2) ((wK ((((runT d s.ims x y s.ops k).2.length:Int) - 1) - 1)).toNat*23+12+1+1)),(nAt (lvs (runT d s.ims x y s.ops k).2) ((wK ((((runT d s.ims x y s.ops k).2.length:Int) - 1) - 1)).toNat*23+12+1+1+1)),(nAt (lvs (runT d s.ims x y s.ops k).2) ((wK ((((runT d s.ims x y s.ops k).2.length:Int) - 1) - 1)).toNat*23+12+1+1+1+1)),(nAt (lvs (runT d s.ims x y s.ops k).2) ((wK ((((runT d s.ims x y s.ops k).2.length:Int) - 1) - 1)).toNat*23+12+1+1+1+1+1))⟩:Ac)).b,dK (Ac.col (⟨(nAt (lvs (runT d s.ims x y s.ops k).2) ((wK ((((runT d s.ims x y s.ops k).2.length:Int) - 1) - 1)).toNat*23+12)),(nAt (lvs (runT d s.ims x y s.ops k).2) ((wK ((((runT d s.ims x y s.ops k).2.length:Int) - 1) - 1)).toNat*23+12+1)),(nAt (lvs (runT d s.ims x y s.ops k).2) ((wK ((((runT d s.ims x y s.ops k).2.length:Int) - 1) - 1)).toNat*23+12+1+1)),(nAt (lvs (runT d s.ims x y s.ops k).2) ((wK ((((runT d s.ims x y s.ops k).2.length:Int) - 1) - 1)).toNat*23+12+1+1+1)),(nAt (lvs (runT d s.ims x y s.ops k).2) ((wK ((((runT d s.ims x y s.ops k).2.length:Int) - 1) - 1)).toNat*23+12+1+1+1+1)),(nAt (lvs (runT d s.ims x y s.ops k).2) ((wK ((((runT d s.ims x y s.ops k).2.length:Int) - 1) - 1)).toNat*23+12+1+1+1+1+1))⟩:Ac)).c,dK (Ac.col (⟨(nAt (lvs (runT d s.ims x y s.ops k).2) ((wK ((((runT d s.ims x y s.ops k).2.length:Int) - 1) - 1)).toNat*23+12)),(nAt (lvs (runT d s.ims x y s.ops k).2) ((wK ((((runT d s.ims x y s.ops k).2.length:Int) - 1) - 1)).toNat*23+12+1)),(nAt (lvs (runT d s.ims x y s.ops k).2) ((wK ((((runT d s.ims x y s.ops k).2.length:Int) - 1) - 1)).toNat*23+12+1+1)),(nAt (lvs (runT d s.ims x y s.ops k).2) ((wK ((((runT d s.ims x y s.ops k).2.length:Int) - 1) - 1)).toNat*23+12+1+1+1)),(nAt (lvs (runT d s.ims x y s.ops k).2) ((wK ((((runT d s.ims x y s.ops k).2.length:Int) - 1) - 1)).toNat*23+12+1+1+1+1)),(nAt (lvs (runT d s.ims x y s.ops k).2) ((wK ((((runT d s.ims x y s.ops k).2.length:Int) - 1) - 1)).toNat*23+12+1+1+1+1+1))⟩:Ac)).al,dK (Ac.col (⟨(nAt (lvs (runT d s.ims x y s.ops k).2) ((wK ((((runT d s.ims x y s.ops k).2.length:Int) - 1) - 1)).toNat*23+12)),(nAt (lvs (runT d s.ims x y s.ops k).2) ((wK ((((runT d s.ims x y s.ops k).2.length:Int) - 1) - 1)).toNat*23+12+1)),(nAt (lvs (runT d s.ims x y s.ops k).2) ((wK ((((runT d s.ims x y s.ops k).2.length:Int) - 1) - 1)).toNat*23+12+1+1)),(nAt (lvs (runT d s.ims x y s.ops k).2) ((wK ((((runT d s.ims x y s.ops k).2.length:Int) - 1) - 1)).toNat*23+12+1+1+1)),(nAt (lvs (runT d s.ims x y s.ops k).2) ((wK ((((runT d s.ims x y s.ops k).2.length:Int) - 1) - 1)).toNat*23+12+1+1+1+1)),(nAt (lvs (runT d s.ims x y s.ops k).2) ((wK ((((runT d s.ims x y s.ops k).2.length:Int) - 1) - 1)).toNat*23+12+1+1+1+1+1))⟩:Ac)).f]; let v8:=fun (k:Nat)=>fun (L:List Lv)=>fun (w:Int)=>(L=popL d (runT d s.ims x y s.ops k).2 w); tU5 ((Ans prog 44 [rJ s.bits] (RV.tup [RV.d A,RV.d (dQ (zYj s.bits))]))∧tU6 ((AnsG prog 45 0 [AV.one y1] [] ⟨AV.tup [aPz,aJ 0],[bC [Cl.d A,Cl.ref 1 1],Bx.row 123 23 (lvs [zXF])],true⟩)∧tU7 ((∃ k:Nat,let z6:=(runT d s.ims x y s.ops k); (k≤s.ops.length)∧((n∧t∧(0=0)∧i∧(0=0)∧(0=z6.1.length)∧(dJ 0=dJ (k:Int))∧True)∧(j∧(i∧(1=z6.2.length)∧True)∧([]=mcs z6.1)∧(lvs [zXF]=lvs z6.2)∧True)))∧∀ k:Nat,let v9:=(decide ((k:Int) < x6)); let u0:=(nAt (ops s.ops) ((k:Int).toNat*12+1)); let u1:=(nAt (ops s.ops) ((k:Int).toNat*12+1+1)); let u2:=(nAt (ops s.ops) ((k:Int).toNat*12+1+1+1)); let u3:=(nAt (ops s.ops) ((k:Int).toNat*12+1+1+1+1)); let u4:=(nAt (ops s.ops) ((k:Int).toNat*12+1+1+1+1+1)); let u5:=(nAt (ops s.ops) ((k:Int).toNat*12+1+1+1+1+1+1)); let u6:=(nAt (ops s.ops) ((k:Int).toNat*12+1+1+1+1+1+1+1)); let u7:=(nAt (ops s.ops) ((k:Int).toNat*12+1+1+1+1+1+1+1+1)); let u8:=(nAt (ops s.ops) ((k:Int).toNat*12+1+1+1+1+1+1+1+1+1)); let u9:=(bAt (ops s.ops) ((k:Int).toNat*12+1+1+1+1+1+1+1+1+1+1)); let t0:=(bAt (ops s.ops) ((k:Int).toNat*12+1+1+1+1+1+1+1+1+1+1+1)); let x4:=(nAt (ops s.ops) ((k:Int).toNat*12)); let m:=(runT d s.ims x y s.ops k); let t1:=((m.2.length:Nat):Int); let x5:=(m.2.length:Int); let V:=(mcs m.1); let e:=(lvs m.2); let R:=(zQw e); let z:=(topL R); let Y:=(Ac.col z.acc); let h:=(x5 - 1); let t2:=(nAt e (h.toNat*23)); let t3:=(nAt e (h.toNat*23+1)); let t4:=(nAt e (h.toNat*23+1+1)); let t5:=(nAt e (h.toNat*23+1+1+1)); let t6:=(nAt e (h.toNat*23+1+1+1+1)); let t7:=(nAt e (h.toNat*23+1+1+1+1+1)); let t8:=(nAt e (h.toNat*23+1+1+1+1+1+1)); let t9:=(nAt e (h.toNat*23+1+1+1+1+1+1+1)); let s0:=(nAt e (h.toNat*23+1+1+1+1+1+1+1+1)); let s1:=(nAt e (h.toNat*23+1+1+1+1+1+1+1+1+1)); let s2:=(bAt e (h.toNat*23+1+1+1+1+1+1+1+1+1+1)); let s3:=(bAt e (h.toNat*23+1+1+1+1+1+1+1+1+1+1+1)); let s4:=(nAt e (h.toNat*23+1+1+1+1+1+1+1+1+1+1+1+1)); let s5:=(nAt e (h.toNat*23+1+1+1+1+1+1+1+1+1+1+1+1+1)); let s6:=(nAt e (h.toNat*23+1+1+1+1+1+1+1+1+1+1+1+1+1+1)); let s7:=(nAt e (h.toNat*23+1+1+1+1+1+1+1+1+1+1+1+1+1+1+1)); let s8:=(nAt e (h.toNat*23+1+1+1+1+1+1+1+1+1+1+1+1+1+1+1+1)); let s9:=(nAt e (h.toNat*23+1+1+1+1+1+1+1+1+1+1+1+1+1+1+1+1+1)); let r0:=(nAt e (h.toNat*23+1+1+1+1+1+1+1+1+1+1+1+1+1+1+1+1+1+1)); let r1:=(nAt e (h.toNat*23+1+1+1+1+1+1+1+1+1+1+1+1+1+1+1+1+1+1+1)); let r2:=(nAt e (h.toNat*23+1+1+1+1+1+1+1+1+1+1+1+1+1+1+1+1+1+1+1+1)); let r3:=(nAt e (h.toNat*23+1+1+1+1+1+1+1+1+1+1+1+1+1+1+1+1+1+1+1+1+1)); let r4:=(nAt e (h.toNat*23+1+1+1+1+1+1+1+1+1+1+1+1+1+1+1+1+1+1+1+1+1+1)); let B:=(wK (h - 1)); let C:=(nAt e (B.toNat*23+12)); let D:=(nAt e (B.toNat*23+12+1)); let E:=(nAt e (B.toNat*23+12+1+1)); let F:=(nAt e (B.toNat*23+12+1+1+1)); let G:=(nAt e (B.toNat*23+12+1+1+1+1)); let H:=(nAt e (B.toNat*23+12+1+1+1+1+1)); (k≤s.ops.length)→tU5 ((v9=true→tU3 ((0≤(k:Int)∧(k:Int) < x6∧(k:Int).toNat*12 < (ops s.ops).length)∧(((ops s.ops)[(k:Int).toNat*12]?=some (dJ x4))∧((ops s.ops)[(k:Int).toNat*12+1]?=some (dJ u0))∧((ops s.ops)[(k:Int).toNat*12+1+1]?=some (dJ u1))∧((ops s.ops)[(k:Int).toNat*12+1+1+1]?=some (dJ u2))∧((ops s.ops)[(k:Int).toNat*12+1+1+1+1]?=some (dJ u3))∧((ops s.ops)[(k:Int).toNat*12+1+1+1+1+1]?=some (dJ u4))∧((ops s.ops)[(k:Int).toNat*12+1+1+1+1+1+1]?=some (dJ u5))∧((ops s.ops)[(k:Int).toNat*12+1+1+1+1+1+1+1]?=some (dK u6))∧((ops s.ops)[(k:Int).toNat*12+1+1+1+1+1+1+1+1]?=some (dJ u7))∧((ops s.ops)[(k:Int).toNat*12+1+1+1+1+1+1+1+1+1]?=some (dJ u8))∧((ops s.ops)[(k:Int).toNat*12+1+1+1+1+1+1+1+1+1+1]?=some (dQ u9))∧((ops s.ops)[(k:Int).toNat*12+1+1+1+1+1+1+1+1+1+1+1]?=some (dQ t0))∧True)∧tU2 ((tU2 (∃ o:Oq,(s.ops[k]?=some o)∧((n∧t∧(0=0)∧i∧(0=0)∧(S k)∧(I k)∧(0=0)∧(dJ x4=dJ o.kind)∧True)∧(j∧(N k)∧(T k)∧([dJ x4,dJ u0,dJ u1,dJ u2,dJ u3,dJ u4,dJ u5,dK u6,dJ u7,dJ u8,dQ u9,dQ t0]=(Oq.cells o))∧(O k)∧True))))∧∀ o:Oq,let z7:=(zXS R o); (s.ops[k]?=some o)→tU2 (((o.kind==1)=true→(tU4 ((Ans prog 46 [RV.agg z1,RV.agg (Oq.cells o),rJ x,rJ y] (RV.tup [RV.agg (x7 o),RV.d (dK (zZY J o x y))]))∧tU6 (∃ p:Px × Int,(x8 o p)∧((n∧t∧(0=0)∧i∧(0=0)∧(S k)∧(I k)∧(0=0)∧(0=0)∧(dK (zZY J o x y)=dK p.2)∧True)∧(j∧(N k)∧(T k)∧(y2 o)∧((x7 o)=(y3 p))∧(O k)∧True)))))∧∀ p:Px × Int,let z8:=(zYR d R o p.1 p.2); let r5:=([dJ (k:Int),dJ 1,dK 0,dK 0,dK 0,dK 0,dK 0,dK 0,dK 0,dK 0,dK 0,dK 0,dK 0,dK p.1.a,dK p.1.b,dK p.1.c,dK p.1.al,dK p.1.f]); let W:=(zYQ d R o p.1 p.2); (x8 o p)→(tU5 ((zZe 18 48 m.1.length 1 V r5)∧True∧∃ l:List Mc,(x9 k p l)∧((n∧t∧(0=0)∧i∧(0=0)∧(w0 k l)∧(I k)∧(0=0)∧(0=0)∧(w1 p)∧True)∧(j∧(N k)∧(V++r5=mcs l)∧(y2 o)∧(w2 p)∧(O k)∧True))))∧∀ l:List Mc,let u:=(zXx (zWg (mcs l)) (k:Int) o p.1 p.2 d); (x9 k p l)→True∧(tU6 ((AnsG prog 47 0 [AV.one (Cl.ref 0 l.length),aJ (k:Int),AV.agg (y4 o),AV.agg (w3 p),AV.one (cK p.2),AV.one y1] (w4 l) ⟨AV.tup [AV.one (Cl.ref 0 u.1.length),AV.agg [cK u.2.a,cK u.2.b,cK u.2.c,cK u.2.al,cK u.2.f]],[Bx.row 112 18 (mcs u.1)],false⟩)∧tU5 (∃ q:List Mc × Px,(w5 k o p l q)∧((n∧t∧(0=0)∧i∧(0=0)∧(u.1.length=q.1.length)∧(I k)∧(0=0)∧(0=0)∧(w1 p)∧(0=0)∧True)∧(j∧(N k)∧(mcs u.1=mcs q.1)∧(y2 o)∧(w2 p)∧([dK u.2.a,dK u.2.b,dK u.2.c,dK u.2.al,dK u.2.f]=(z2 q))∧(O k)∧True)))))∧∀ q:List Mc × Px,(w5 k o p l q)→True∧(AnsG prog 49 2 [aPz] (P k) ⟨AV.agg [cK z.acc.a,cK z.acc.b,cK z.acc.c,cK z.acc.al,cK z.acc.own,cK z.acc.f],(P k),false⟩∧(U k)=(U k))∧(Ans prog 48 [RV.agg [dK z.acc.a,dK z.acc.b,dK z.acc.c,dK z.acc.al,dK z.acc.own,dK z.acc.f]] (RV.agg (y5 k)))∧tU2 ((tU4 ((AnsG prog 50 1 [aPz,AV.agg (y4 o),AV.agg (w3 p),AV.one (cK p.2)] (P k) ⟨AV.tup [AV.agg [cK W.1.a,cK W.1.b,cK W.1.c,cK W.1.al,cK W.1.f],aJ W.2],[bC [Cl.d A,Cl.ref 1 z8.length],Bx.row 123 23 (lvs z8)],false⟩)∧∃ L:List Lv,(w6 k o p L)∧((w7 k q)∧(j∧(i∧(z8.length=L.length)∧True)∧(mcs q.1=mcs q.1)∧(w8 q)∧((y5 k)=(y5 k))∧(lvs z8=lvs L)∧True))))∧∀ L:List Lv,let Z:=(Ac.col (topL (zQw (lvs L))).acc); let r6:=([dJ (k:Int),dJ 4,dK q.2.a,dK q.2.b,dK q.2.c,dK q.2.al,dK q.2.f,dK Y.a,dK Y.b,dK Y.c,dK Y.al,dK Y.f,dK 0,dK Z.a,dK Z.b,dK Z.c,dK Z.al,dK Z.f]); (w6 k o p L)→tU5 ((w9 L)∧(v0 L)∧tU2 ((zZe 18 48 q.1.length 1 (mcs q.1) r6)∧True∧(true=true)∧tU3 (∃ k':Nat,(k'≤s.ops.length)∧(z5 k k')∧((v1 k q k')∧(j∧(y7 L k')∧((mcs q.1)++r6=mcs (runT d s.ims x y s.ops k').1)∧(y8 L k')∧True)))))))∧((o.kind==1)=false→tU2 (((o.kind==2)=true→(tU2 ((AnsG prog 51 1 [aPz,AV.agg (y4 o)] (P k) ⟨aJ (zKr R o),[bC [Cl.d A,Cl.ref 1 z7.length],Bx.row 123 23 (lvs z7)],false⟩)∧∃ L:List Lv,(v2 k o L)∧((n∧t∧(0=0)∧i∧(0=0)∧(S k)∧(I k)∧True)∧(j∧(i∧(z7.length=L.length)∧True)∧(T k)∧(lvs z7=lvs L)∧True))))∧∀ L:List Lv,let K:=(topL (zQw (lvs L))); let r7:=([dJ (k:Int),dJ 5,dK 0,dK 0,dK 0,dK 0,dK 0,dK 0,dK 0,dK 0,dK 0,dK 0,dK 0,dK K.back.a,dK K.back.b,dK K.back.c,dK K.back.al,dK K.back.f]); (v2 k o L)→tU3 ((AnsG prog 52 2 [aPz] (z3 L) ⟨AV.agg [cK K.back.a,cK K.back.b,cK K.back.c,cK K.back.al,cK K.back.f],(z3 L),false⟩∧(z4 L)=(z4 L))∧tU2 ((zZe 18 48 m.1.length 1 V r7)∧tU4 (∃ k':Nat,let r8:=(runT d s.ims x y s.ops k'); (k'≤s.ops.length)∧(z5 k k')∧((n∧t∧(0=0)∧i∧(0=0)∧(m.1.length+1=r8.1.length)∧(y6 k k')∧True)∧(j∧(y7 L k')∧(V++r7=mcs r8.1)∧(y8 L k')∧True))))))∧((o.kind==2)=false→tU2 (((o.kind==3)=true→(tU5 ((AnsG prog 53 2 [aPz] (P k) ⟨aJ h,(P k),false⟩∧(U k)=(U k))∧(0≤x5 - 1∧x5 - 1 < t1)∧((e[h.toNat*23]?=some (dJ t2))∧(e[h.toNat*23+1]?=some (dJ t3))∧(e[h.toNat*23+1+1]?=some (dJ t4))∧(e[h.toNat*23+1+1+1]?=some (dJ t5))∧(e[h.toNat*23+1+1+1+1]?=some (dJ t6))∧(e[h.toNat*23+1+1+1+1+1]?=some (dJ t7))∧(e[h.toNat*23+1+1+1+1+1+1]?=some (dJ t8))∧(e[h.toNat*23+1+1+1+1+1+1+1]?=some (dK t9))∧(e[h.toNat*23+1+1+1+1+1+1+1+1]?=some (dJ s0))∧(e[h.toNat*23+1+1+1+1+1+1+1+1+1]?=some (dJ s1))∧(e[h.toNat*23+1+1+1+1+1+1+1+1+1+1]?=some (dQ s2))∧(e[h.toNat*23+1+1+1+1+1+1+1+1+1+1+1]?=some (dQ s3))∧(e[h.toNat*23+1+1+1+1+1+1+1+1+1+1+1+1]?=some (dK s4))∧(e[h.toNat*23+1+1+1+1+1+1+1+1+1+1+1+1+1]?=some (dK s5))∧(e[h.toNat*23+1+1+1+1+1+1+1+1+1+1+1+1+1+1]?=some (dK s6))∧(e[h.toNat*23+1+1+1+1+1+1+1+1+1+1+1+1+1+1+1]?=some (dK s7))∧(e[h.toNat*23+1+1+1+1+1+1+1+1+1+1+1+1+1+1+1+1]?=some (dK s8))∧(e[h.toNat*23+1+1+1+1+1+1+1+1+1+1+1+1+1+1+1+1+1]?=some (dK s9))∧(e[h.toNat*23+1+1+1+1+1+1+1+1+1+1+1+1+1+1+1+1+1+1]?=some (dK r0))∧(e[h.toNat*23+1+1+1+1+1+1+1+1+1+1+1+1+1+1+1+1+1+1+1]?=some (dK r1))∧(e[h.toNat*23+1+1+1+1+1+1+1+1+1+1+1+1+1+1+1+1+1+1+1+1]?=some (dK r2))∧(e[h.toNat*23+1+1+1+1+1+1+1+1+1+1+1+1+1+1+1+1+1+1+1+1+1]?=some (dK r3))∧(e[h.toNat*23+1+1+1+1+1+1+1+1+1+1+1+1+1+1+1+1+1+1+1+1+1+1]?=some (dK r4))∧True)∧tU2 ((true=true)∧∃ g:Lv,(v3 k g)∧((n∧t∧(0=0)∧i∧(0=0)∧(S k)∧(I k)∧(0=0)∧True)∧(j∧(N k)∧(T k)∧([dJ t2,dJ t3,dJ t4,dJ t5,dJ t6,dJ t7,dJ t8,dK t9,dJ s0,dJ s1,dQ s2,dQ s3,dK s4,dK s5,dK s6,dK s7,dK s8,dK s9,dK r0,dK r1,dK r2,dK r3,dK r4]=(y9 g))∧(O k)∧True)))))∧∀ g:Lv,let z0:=(srcS J g.op x y); (v3 k g)→(tU5 ((Ans prog 46 [RV.agg z1,RV.agg (Oq.cells g.op),rJ x,rJ y] (RV.tup [RV.agg [dK z0.a,dK z0.b,dK z0.c,dK z0.al,dK z0.f],RV.d (dK (zZY J g.op x y))]))∧tU6 (∃ w:Int,(w=zZY s.ims g.op x y)∧((n∧t∧(0=0)∧i∧(0=0)∧(S k)∧(I k)∧(0=0)∧(dK (zZY J g.op x y)=dK w)∧True)∧(j∧(N k)∧(T k)∧(x0 g)∧(O k)∧True)))))∧∀ w:Int,let z9:=(popL d R w); let X:=(popR d R w); (w=zZY s.ims g.op x y)→(tU5 ((Ans prog 54 [RV.agg [dK g.acc.a,dK g.acc.b,dK g.acc.c,dK g.acc.al,dK g.acc.own,dK g.acc.f],RV.agg [dK g.back.a,dK g.back.b,dK g.back.c,dK g.back.al,dK g.back.f],RV.d A] (RV.tup [RV.agg (v4 g),RV.d (dQ (Ac.ok g.acc g.back d))]))∧tU6 (∃ r:Px,(v5 g r)∧((n∧t∧(0=0)∧i∧(0=0)∧(S k)∧(I k)∧(0=0)∧(x1 w)∧(0=0)∧True)∧(j∧(N k)∧(T k)∧(x0 g)∧((v4 g)=(x2 r))∧(O k)∧True)))))∧∀ r:Px,let r9:=([dJ (k:Int),dJ 6,dK 0,dK 0,dK 0,dK 0,dK 0,dK 0,dK 0,dK 0,dK 0,dK 0,dK 0,dK r.a,dK r.b,dK r.c,dK r.al,dK r.f]); (v5 g r)→(tU5 ((zZe 18 48 m.1.length 1 V r9)∧True∧∃ l:List Mc,(v6 k l r)∧((n∧t∧(0=0)∧i∧(0=0)∧(w0 k l)∧(I k)∧(0=0)∧(x1 w)∧(0=0)∧True)∧(j∧(N k)∧(V++r9=mcs l)∧(x0 g)∧((x2 r)=(x2 r))∧(O k)∧True))))∧∀ l:List Mc,let v:=(zXx (zWg (mcs l)) (k:Int) g.op r w d); (v6 k l r)→True∧(tU7 ((AnsG prog 47 0 [AV.one (Cl.ref 0 l.length),aJ (k:Int),AV.agg [cJ g.op.kind,cJ g.op.image,cJ g.op.x,cJ g.op.y,cJ g.op.mask,cJ g.op.mx,cJ g.op.my,cK g.op.opac,cJ g.op.oper,cJ g.op.mode,Cl.d (dQ g.op.iso),Cl.d (dQ g.op.kno)],AV.agg [cK r.a,cK r.b,cK r.c,cK r.al,cK r.f],AV.one (cK w),AV.one y1] (w4 l) ⟨AV.tup [AV.one (Cl.ref 0 v.1.length),AV.agg [cK v.2.a,cK v.2.b,cK v.2.c,cK v.2.al,cK v.2.f]],[Bx.row 112 18 (mcs v.1)],false⟩)∧tU5 (∃ q:List Mc × Px,(v7 k l q g w r)∧((n∧t∧(0=0)∧i∧(0=0)∧(v.1.length=q.1.length)∧(I k)∧(x1 w)∧(0=0)∧True)∧(j∧(N k)∧(mcs v.1=mcs q.1)∧([dK v.2.a,dK v.2.b,dK v.2.c,dK v.2.al,dK v.2.f]=(z2 q))∧(O k)∧True)))))∧∀ q:List Mc × Px,(v7 k l q g w r)→tU5 ((AnsG prog 53 2 [aPz] (P k) ⟨aJ h,(P k),false⟩∧(U k)=(U k))∧True∧(0≤wK (h - 1)∧wK (h - 1) < t1)∧True∧((e[B.toNat*23+12]?=some (dK C))∧(e[B.toNat*23+12+1]?=some (dK D))∧(e[B.toNat*23+12+1+1]?=some (dK E))∧(e[B.toNat*23+12+1+1+1]?=some (dK F))∧(e[B.toNat*23+12+1+1+1+1]?=some (dK G))∧(e[B.toNat*23+12+1+1+1+1+1]?=some (dK H))∧True)∧(Ans prog 48 [RV.agg [dK C,dK D,dK E,dK F,dK G,dK H]] (RV.agg (x3 k)))∧tU2 ((true=true)∧(tU2 ((AnsG prog 55 1 [aPz,AV.one (cK w)] (P k) ⟨AV.tup [AV.agg [cK X.1.a,cK X.1.b,cK X.1.c,cK X.1.al,cK X.1.f],aJ X.2],[bC [Cl.d A,Cl.ref 1 z9.length],Bx.row 123 23 (lvs z9)],false⟩)∧∃ L:List Lv,(v8 k L w)∧((w7 k q)∧(j∧(i∧(z9.length=L.length)∧True)∧(mcs q.1=mcs q.1)∧(w8 q)∧((x3 k)=(x3 k))∧(lvs z9=lvs L)∧True))))∧∀ L:List Lv,let M:=(Ac.col (topL (zQw (lvs L))).acc); (v8 k L w)→tU5 ((w9 L)∧(v0 L)∧tU2 ((zZe 18 48 q.1.length 1 (mcs q.1) ([dJ (k:Int),dJ 4,dK q.2.a,dK q.2.b,dK q.2.c,dK q.2.al,dK q.2.f,dK (Ac.col (⟨C,D,E,F,G,H⟩:Ac)).a,dK (Ac.col (⟨C,D,E,F,G,H⟩:Ac)).b,dK (Ac.col (⟨C,D,E,F,G,H⟩:Ac)).c,dK (Ac.col (⟨C,D,E,F,G,H⟩:Ac)).al,dK (Ac.col (⟨C,D,E,F,G,H⟩:Ac)).f,dK 0,dK M.a,dK M.b,dK M.c,dK M.al,dK M.f]))∧True∧(true=true)∧tU3 (∃ k':Nat,(k'≤s.ops.length)∧(z5 k k')∧((v1 k q k')∧(j∧(y7 L k')∧((mcs q.1)++([dJ (k:Int),dJ 4,dK q.2.a,dK q.2.b,dK q.2.c,dK q.2.al,dK q.2.f,dK (Ac.col (⟨C,D,E,F,G,H⟩:Ac)).a,dK (Ac.col (⟨C,D,E,F,G,H⟩:Ac)).b,dK (Ac.col (⟨C,D,E,F,G,H⟩:Ac)).c,dK (Ac.col (⟨C,D,E,F,G,H⟩:Ac)).al,dK (Ac.col (⟨C,D,E,F,G,H⟩:Ac)).f,dK 0,dK M.a,dK M.b,dK M.c,dK M.al,dK M.f])=mcs (runT d s.ims x y s.ops k').1)∧(y8 L k')∧True))))))))∧((o.kind==3)=false→tU3 (∃ k':Nat,let y0:=(runT d s.ims x y s.ops k'); (k'≤s.ops.length)∧(z5 k k')∧((n∧t∧(0=0)∧i∧(0=0)∧(m.1.length=y0.1.length)∧(y6 k k')∧True)∧(j∧(i∧(m.2.length=y0.2.length)∧True)∧(mcs m.1=mcs y0.1)∧(lvs m.2=lvs y0.2)∧True))))))))))))∧(v9=false→tU4 (((((m.1.length=Q.1.length)∧(0=0)∧True)∧True)∧((mcs m.1=mcs Q.1)∧(i∧(m.2.length=Q.2.length)∧True)∧(lvs m.2=lvs Q.2)∧True))∧zQn ⟨AV.tup [AV.one (Cl.ref 0 Q.1.length),AV.one (Cl.ptr 1 0)],[Bx.row 112 18 (mcs Q.1),bC [Cl.d A,Cl.ref 2 Q.2.length],Bx.row 123 23 (lvs Q.2)],false⟩)))))))) ?_
  delta dJ dK dQ cJ cK wK dS rJ aJ aPz bC
  simp only [sS]
  clear hwf hbx
  obtain ⟨hf,hu,hl,hm⟩:=hr
  simp only [zKI,zXk,zQG,jXy]
  have mx:=zJg s.bits
  generalize zQ1 s.bits=most at *
  have hT:=zGq most s.ims x y s.ops
  refine ⟨mx,jQ9 most hf,⟨0,Nat.zero_le _,⟨rfl,rfl⟩,rfl,rfl,rfl⟩,fun k hk=>⟨fun hlt=>?_,fun hge=>?_⟩⟩
  ·have hk:k < s.ops.length:=by omega
   obtain ⟨t1,t2,t3⟩:=hT k
   have hm:=hm k
   have q1:=zVG hk
   have q2:=zVH hk
   have lb:0≤(k:Int)∧(k:Int) < (s.ops.length:Int)∧k*12 < (ops s.ops).length:=⟨by omega,by omega,by rw [zQC]; omega⟩
   have w1:IntKind.wrap .i64 ((k:Int)+1)=((k+1:Nat):Int):=zXN (by omega)
   have e1:∀ o,s.ops[k]?=some o→runT most s.ims x y s.ops (k+1)=stT most s.ims x y k (runT most s.ims x y s.ops k) o:=fun o ho=>by rw [runT,ho]; rfl
   simp only [q2,w1]
   refine ⟨lb,q1,⟨s.ops[k],List.getElem?_eq_getElem hk,rfl,rfl⟩,fun o ho=>?_⟩
   clear q1 q2 lb
   have e1:=e1 o ho
   have hm:=hm o ho
   clear ho hT
   generalize runT most s.ims x y s.ops k=z at *
   obtain ⟨tr,L0⟩:=z
   simp only at t1 t2 t3 hm e1 ⊢
   refine ⟨fun h1=>?_,fun h1=>⟨fun h2=>?_,fun h2=>⟨fun h3=>?_,fun h3=>?_⟩⟩⟩
   ·have h1:o.kind=1:=by simpa using h1
    refine ⟨⟨zKj s o x y hu,_,rfl,rfl,rfl,rfl,rfl,rfl,rfl⟩,fun p hp=>⟨⟨⟨zZQ _,rfl,by unfold maxLen; omega,by omega⟩,_,rfl,by simp,(by rw [← zKZ]; rfl)⟩,fun l hl2=>?_⟩⟩
    have ll:l.length=tr.length+1:=by rw [hl2]; simp
    refine ⟨⟨zJG l k o p.1 p.2 most (by omega),_,rfl,rfl,rfl,rfl,rfl,rfl,rfl,rfl⟩,fun q hq=>?_⟩
    have lq:q.1.length≤l.length+2:=by rw [hq]; exact zKM _ _ _ _ _ _
    refine ⟨zXc most L0 t2 (by omega),zXq _,⟨zJ6 most L0 o p.1 p.2 t2 (by omega),_,rfl,rfl,rfl⟩,fun L hL=>?_⟩
    have lL:L.length=L0.length:=by rw [hL]; exact jQh _ _ _ _ _
    have e2:runT most s.ims x y s.ops (k+1)=(q.1++[⟨k,4,q.2,(topL L0).acc.col,0,(topL L).acc.col⟩],L):=by
     rw [e1]; unfold stT; rw [if_pos h1]; subst hp hl2 hq hL; rfl
    refine ⟨zXc most L (by omega) (by omega),zXq _,⟨zZQ _,rfl,by unfold maxLen; omega,by omega⟩,k+1,by omega,by omega,⟨?_,rfl⟩,?_,?_,?_⟩ <;> rw [e2]
    ·simp
    ·rw [← zKZ]; rfl
   ·have h1:¬ o.kind=1:=by simpa using h1
    have h2:o.kind=2:=by simpa using h2
    refine ⟨⟨zJ5 most L0 o t2 (by omega),_,rfl,rfl,rfl⟩,fun L hL=>?_⟩
    have lL:=zHD o ⟨t2,t3⟩
    rw [← hL] at lL
    have e2:runT most s.ims x y s.ops (k+1)=(tr++[⟨k,5,.zero,.zero,0,(topL L).back⟩],L):=by
     rw [e1]; unfold stT; rw [if_neg h1,if_pos h2,hL]
    refine ⟨zJ7 most L lL.1 (by omega),⟨zZQ _,rfl,by unfold maxLen; omega,by omega⟩,k+1,by omega,by omega,⟨?_,rfl⟩,?_,?_,?_⟩ <;> rw [e2]
    ·simp
    ·rw [← zKZ]; rfl
   ·have h1:¬ o.kind=1:=by simpa using h1
    have h2:¬ o.kind=2:=by simpa using h2
    have h3:o.kind=3:=by simpa using h3
    obtain ⟨g1,g2⟩:=hm h3
    have hk2:L0.length - 1 < L0.length:=by omega
    have hT2:L0[L0.length - 1]=topL L0:=(zYo t2).symm
    have ei:((L0.length:Int) - 1).toNat=L0.length - 1:=by omega
    have bd:0≤(L0.length:Int) - 1∧(L0.length:Int) - 1 < (L0.length:Int):=by omega
    have tp:=zQZ most L0 t2 (by omega)
    have r1:=zK0 (l:=L0) (k:=L0.length - 1) hk2
    have r2:=zK1 (l:=L0) (k:=L0.length - 1) hk2
    rw [hT2] at r1 r2
    simp only [Nat.add_zero] at r1 r2
    simp only [ei,Nat.add_assoc,Nat.reduceAdd,Nat.add_zero,Nat.zero_add,r1,r2,and_self,true_and,and_true]
    clear r1 r2
    refine ⟨⟨tp,bd,_,rfl,rfl,rfl,rfl,rfl,rfl,rfl,rfl,rfl,rfl,rfl,rfl,rfl,rfl,rfl,rfl,rfl,rfl,rfl,rfl,rfl,rfl,rfl,rfl⟩,fun g hg=>⟨⟨zKj s g.op x y hu,_,rfl,rfl⟩,fun w hw=>⟨⟨zYz g.acc g.back most,_,rfl,rfl,rfl,rfl,rfl,rfl⟩,fun r hrr=>⟨⟨⟨zZQ _,rfl,by unfold maxLen; omega,by omega⟩,_,rfl,by simp,(by rw [← zKZ]; rfl)⟩,fun l hl2=>?_⟩⟩⟩⟩
    have ll:l.length=tr.length+1:=by rw [hl2]; simp
    refine ⟨⟨zJG l k g.op r w most (by omega),_,rfl,rfl,rfl,rfl,rfl,rfl,rfl,rfl⟩,fun q hq=>?_⟩
    have lq:q.1.length≤l.length+2:=by rw [hq]; exact zKM _ _ _ _ _ _
    have k3:L0.length - 2 < L0.length:=by omega
    have eu:IntKind.wrap .i64 ((L0.length:Int) - 1 - 1)=((L0.length - 2:Nat):Int):=by rw [IntWalk.i64_in _ ⟨by omega,by omega⟩]; omega
    obtain ⟨u,hu2⟩:∃ u,u=L0[L0.length - 2]:=⟨_,rfl⟩
    have hu3:u=topL L0.dropLast:=by
     rw [hu2,zYo (by simp; omega),List.getElem_dropLast]
     congr 1
     simp; omega
    have r1:=zK0 (l:=L0) (k:=L0.length - 2) k3
    have r2:=zK1 (l:=L0) (k:=L0.length - 2) k3
    rw [← hu2] at r1 r2
    have ea:∀ x:Ac,(⟨x.a,x.b,x.c,x.al,x.own,x.f⟩:Ac)=x:=fun _=>rfl
    simp only [eu,Int.toNat_natCast,r1,r2,and_self,true_and,ea]
    clear r1 r2
    refine ⟨tp,⟨by omega,by omega⟩,zXq _,⟨zKC most L0 w t2 (by omega) (by rw [hw,hg]; exact g2),_,rfl,rfl,rfl⟩,fun L hL=>?_⟩
    have lL:=jZp (m:=most) w ⟨t2,t3⟩
    rw [← hL] at lL
    have e2:runT most s.ims x y s.ops (k+1)=(q.1++[⟨k,4,q.2,u.acc.col,0,(topL L).acc.col⟩],L):=by
     rw [e1]; unfold stT; rw [if_neg h1,if_neg h2,if_pos h3,hu3,hL,hq,hl2,hrr,hw,hg]
    refine ⟨zXc most L lL.1 (by omega),zXq _,⟨zZQ _,rfl,by unfold maxLen; omega,by omega⟩,k+1,by omega,by omega,⟨?_,rfl⟩,?_,?_,?_⟩ <;> rw [e2]
    ·simp
    ·rw [← zKZ]; rfl
   ·have h1:¬ o.kind=1:=by simpa using h1
    have h2:¬ o.kind=2:=by simpa using h2
    have h3:¬ o.kind=3:=by simpa using h3
    have e2:runT most s.ims x y s.ops (k+1)=(tr,L0):=by
     rw [e1]; unfold stT; rw [if_neg h1,if_neg h2,if_neg h3]
    refine ⟨k+1,by omega,by omega,⟨?_,rfl⟩,?_,?_,?_⟩ <;> rw [e2]
  ·have:k=s.ops.length:=by omega
   subst this
   exact ⟨⟨rfl,rfl,rfl,rfl⟩,trivial⟩
end
section
variable {α:Type} {f:α→List DV} {m:Nat}
theorem flat_len (hf:∀ a,(f a).length=m) (l:List α):(l.flatMap f).length=l.length*m:=by
 induction l with
 | nil=>simp
 | cons a l ih=>rw [List.flatMap_cons,List.length_append,hf,ih,List.length_cons,Nat.add_mul]; omega
theorem zW8 (hf:∀ a,(f a).length=m):∀ (l:List α) (k:Nat),(l.flatMap f).take (k*m)=(l.take k).flatMap f
 | [],k=>by simp
 | a::l,0=>by simp
 | a::l,k+1=>by
  rw [List.flatMap_cons,List.take_succ_cons,List.flatMap_cons,List.take_append,hf,List.take_of_length_le (by rw [hf,Nat.add_mul]; omega),show (k+1)*m - m=k*m by rw [Nat.add_mul]; omega,zW8 hf l k]
theorem zH5 (hf:∀ a,(f a).length=m):∀ (l:List α) (k:Nat),(l.flatMap f).drop (k*m)=(l.drop k).flatMap f
 | [],k=>by simp
 | a::l,0=>by simp
 | a::l,k+1=>by
  rw [List.flatMap_cons,List.drop_succ_cons,List.drop_append,hf,List.drop_of_length_le (by rw [hf,Nat.add_mul]; omega),show (k+1)*m - m=k*m by rw [Nat.add_mul]; omega,zH5 hf l k,List.nil_append]
theorem jYr (hf:∀ a,(f a).length=m) {l:List α} {k:Nat} (h:k < l.length) (a:α):sets (l.flatMap f) (k*m) (f a)=(l.set k a).flatMap f:=by
 have hle:(k+1)*m≤l.length*m:=Nat.mul_le_mul_right _ (by omega)
 rw [zGm _ _ _ (by rw [flat_len hf,hf]; rw [Nat.add_mul] at hle; omega),hf,zW8 hf,show k*m+m=(k+1)*m by rw [Nat.add_mul]; omega,zH5 hf,List.set_eq_take_append_cons_drop,if_pos h]
 simp
end
section
attribute [local irreducible] Ans AnsO AnsG AnsN AnsI
theorem zV8 {l:List Rc} {k:Nat} (h:k < l.length) (r:Rc):sets (rcs l) (k*4) r.cells=rcs (l.set k r):=jYr (f:=Rc.cells) (m:=4) (fun _=>rfl) h r
theorem jYZ (l:List Rc) (k:Nat):(rcs l).take (k*4)=rcs (l.take k):=zW8 (f:=Rc.cells) (m:=4) (fun _=>rfl) l k
theorem jJ4 (l m:List Rc):rcs (l++m)=rcs l++rcs m:=by simp [rcs]
theorem jJ3 (r:Rc):rcs [r]=r.cells:=by simp [rcs]
theorem jZl:∀ n:Nat,repl n Rc.zero.cells=rcs (List.replicate n Rc.zero)
 | 0=>rfl
 | n+1=>by
  have h:=jZl n
  unfold repl at h ⊢
  rw [List.replicate_succ,List.flatten_cons,h,List.replicate_succ]
  rfl
def jVi:Gam where
 pure:=fun f xs=>
  if f=22 then gZ28 xs else
  if f=24 then gZ51 xs else
  if f=23 then gZ52 xs else
  if f=25 then gZ7 xs else
  none
 modes:=fun f=>
  none
 proc:=fun f xs bs=>
  none
 iter:=fun f cs=>
  none
theorem zJl (s:Scr):Ans prog 7 [RV.agg [dJ s.bits,dJ s.c.a,dJ s.c.b,dJ s.c.c,dJ s.c.d,dJ s.tw,dJ s.th,dS s.ord.length (is s.ord),dS s.ims.length (ims s.ims),dS s.ops.length (ops s.ops)]] (RV.tup [RV.d (dS ((zQc s).1.length) (rcs (zQc s).1)),rJ (((zQc s).2))]):=
 zQa (Γ:=jVi) (let a:=(6,AV.one (Cl.ref 24 (s.ops.length:Int).toNat)); let b:=(dS s.ops.length (ops s.ops)); let c:=(28,AV.one (Cl.d b)); let d:=(29,aJ (s.ops.length:Int)); let e:=fun (k:Nat)=>(30,aJ (k:Int)); let f:=(1,bC [cJ s.bits,cJ s.c.a,cJ s.c.b,cJ s.c.c,cJ s.c.d,cJ s.tw,cJ s.th,Cl.d (dS s.ord.length (is s.ord)),Cl.d (dS s.ims.length (ims s.ims)),Cl.d b]); (Ann.seq Ann.leaf (Ann.seq Ann.leaf (Ann.seq Ann.leaf (Ann.seq Ann.leaf (Ann.seq Ann.leaf (Ann.seq (Ann.seq Ann.leaf (Ann.loop ⟨Nat,fun k=>k≤s.ops.length,fun k=>⟨[(1,AV.one (Cl.ptr 1 0)),a,(7,AV.one (Cl.ref 9001 (runB s k).2.1.length)),(8,AV.one (Cl.ref 9002 (runB s k).2.2.length)),c,d,(e k)],[f,(24,Bx.row 28 4 (rcs (runB s k).1)),(9001,Bx.row 3 1 (is (runB s k).2.1)),(9002,Bx.row 28 4 (rcs (runB s k).2.2))]⟩,fun k=>s.ops.length - k⟩ fun k=>(Ann.seq Ann.leaf (Ann.seq Ann.leaf (Ann.seq (Ann.seq Ann.leaf (Ann.cut ⟨Bst,fun y:Bst=>((s.ops[k]?).getD popO).kind≠2∧y=zV0 s k ((s.ops[k]?).getD popO) (runB s k),fun y:Bst=>⟨[(1,AV.one (Cl.ptr 1 0)),a,(7,AV.one (Cl.ref 9001 y.2.1.length)),(8,AV.one (Cl.ref 9002 y.2.2.length)),(9,aJ (k:Int)),c,d,(e k)],[f,(24,Bx.row 28 4 (rcs y.1)),(9001,Bx.row 3 1 (is y.2.1)),(9002,Bx.row 28 4 (rcs y.2.2))]⟩,fun y:Bst=>0⟩ Ann.leaf fun y=>Ann.leaf)) Ann.leaf))))) Ann.leaf))))))) zQg Tryz.func7 rfl (nL rfl) fun hwf=>by
  refine Eq.mpr (by kernel_rfl:_=(let f:=((sE s):Scr); let z:=(opsE s.bits s.c s.tw s.th (ints (is s.ord)) s.ims.length (zQd (ops s.ops))); let g:=(s.ops.length:Int); let o:=[dJ s.bits,dJ s.c.a,dJ s.c.b,dJ s.c.c,dJ s.c.d,dJ s.tw,dJ s.th,dS s.ord.length (is s.ord),dS s.ims.length (ims s.ims),dS s.ops.length (ops s.ops)]; let M:=(dJ z.1); let N:=[RV.d (dS (zQc s).1.length (rcs (zQc s).1)),rJ (zQc s).2]; let r:=(g.toNat=g.toNat); let t:=(dS s.ops.length (ops s.ops)=dS s.ops.length (ops s.ops)); let u:=(dJ g=dJ g); let v:=(o=o); let A:=[dJ 0,dJ 0,dJ 0,dJ 0]; let O:=fun (k:Nat)=>fun (k':Nat)=>(s.ops.length - k' < s.ops.length - k); let P:=fun (k:Nat)=>fun (k':Nat)=>(dJ (wK ((k:Int)+1))=dJ (k':Int)); let Q:=fun (k:Nat)=>[dJ (nAt (ops s.ops) ((k:Int).toNat*12)),dJ (nAt (ops s.ops) ((k:Int).toNat*12+1)),dJ (nAt (ops s.ops) ((k:Int).toNat*12+1+1)),dJ (nAt (ops s.ops) ((k:Int).toNat*12+1+1+1)),dJ (nAt (ops s.ops) ((k:Int).toNat*12+1+1+1+1)),dJ (nAt (ops s.ops) ((k:Int).toNat*12+1+1+1+1+1)),dJ (nAt (ops s.ops) ((k:Int).toNat*12+1+1+1+1+1+1)),dK (nAt (ops s.ops) ((k:Int).toNat*12+1+1+1+1+1+1+1)),dJ (nAt (ops s.ops) ((k:Int).toNat*12+1+1+1+1+1+1+1+1)),dJ (nAt (ops s.ops) ((k:Int).toNat*12+1+1+1+1+1+1+1+1+1)),dQ (bAt (ops s.ops) ((k:Int).toNat*12+1+1+1+1+1+1+1+1+1+1)),dQ (bAt (ops s.ops) ((k:Int).toNat*12+1+1+1+1+1+1+1+1+1+1+1))]; let R:=fun (k:Nat)=>[dJ (imgR f (⟨(nAt (ops s.ops) ((k:Int).toNat*12)),(nAt (ops s.ops) ((k:Int).toNat*12+1)),(nAt (ops s.ops) ((k:Int).toNat*12+1+1)),(nAt (ops s.ops) ((k:Int).toNat*12+1+1+1)),(nAt (ops s.ops) ((k:Int).toNat*12+1+1+1+1)),(nAt (ops s.ops) ((k:Int).toNat*12+1+1+1+1+1)),(nAt (ops s.ops) ((k:Int).toNat*12+1+1+1+1+1+1)),(nAt (ops s.ops) ((k:Int).toNat*12+1+1+1+1+1+1+1)),(nAt (ops s.ops) ((k:Int).toNat*12+1+1+1+1+1+1+1+1)),(nAt (ops s.ops) ((k:Int).toNat*12+1+1+1+1+1+1+1+1+1)),(bAt (ops s.ops) ((k:Int).toNat*12+1+1+1+1+1+1+1+1+1+1)),(bAt (ops s.ops) ((k:Int).toNat*12+1+1+1+1+1+1+1+1+1+1+1))⟩:Oq)).a,dJ (imgR f (⟨(nAt (ops s.ops) ((k:Int).toNat*12)),(nAt (ops s.ops) ((k:Int).toNat*12+1)),(nAt (ops s.ops) ((k:Int).toNat*12+1+1)),(nAt (ops s.ops) ((k:Int).toNat*12+1+1+1)),(nAt (ops s.ops) ((k:Int).toNat*12+1+1+1+1)),(nAt (ops s.ops) ((k:Int).toNat*12+1+1+1+1+1)),(nAt (ops s.ops) ((k:Int).toNat*12+1+1+1+1+1+1)),(nAt (ops s.ops) ((k:Int).toNat*12+1+1+1+1+1+1+1)),(nAt (ops s.ops) ((k:Int).toNat*12+1+1+1+1+1+1+1+1)),(nAt (ops s.ops) ((k:Int).toNat*12+1+1+1+1+1+1+1+1+1)),(bAt (ops s.ops) ((k:Int).toNat*12+1+1+1+1+1+1+1+1+1+1)),(bAt (ops s.ops) ((k:Int).toNat*12+1+1+1+1+1+1+1+1+1+1+1))⟩:Oq)).b,dJ (imgR f (⟨(nAt (ops s.ops) ((k:Int).toNat*12)),(nAt (ops s.ops) ((k:Int).toNat*12+1)),(nAt (ops s.ops) ((k:Int).toNat*12+1+1)),(nAt (ops s.ops) ((k:Int).toNat*12+1+1+1)),(nAt (ops s.ops) ((k:Int).toNat*12+1+1+1+1)),(nAt (ops s.ops) ((k:Int).toNat*12+1+1+1+1+1)),(nAt (ops s.ops) ((k:Int).toNat*12+1+1+1+1+1+1)),(nAt (ops s.ops) ((k:Int).toNat*12+1+1+1+1+1+1+1)),(nAt (ops s.ops) ((k:Int).toNat*12+1+1+1+1+1+1+1+1)),(nAt (ops s.ops) ((k:Int).toNat*12+1+1+1+1+1+1+1+1+1)),(bAt (ops s.ops) ((k:Int).toNat*12+1+1+1+1+1+1+1+1+1+1)),(bAt (ops s.ops) ((k:Int).toNat*12+1+1+1+1+1+1+1+1+1+1+1))⟩:Oq)).c,dJ (imgR f (⟨(nAt (ops s.ops) ((k:Int).toNat*12)),(nAt (ops s.ops) ((k:Int).toNat*12+1)),(nAt (ops s.ops) ((k:Int).toNat*12+1+1)),(nAt (ops s.ops) ((k:Int).toNat*12+1+1+1)),(nAt (ops s.ops) ((k:Int).toNat*12+1+1+1+1)),(nAt (ops s.ops) ((k:Int).toNat*12+1+1+1+1+1)),(nAt (ops s.ops) ((k:Int).toNat*12+1+1+1+1+1+1)),(nAt (ops s.ops) ((k:Int).toNat*12+1+1+1+1+1+1+1)),(nAt (ops s.ops) ((k:Int).toNat*12+1+1+1+1+1+1+1+1)),(nAt (ops s.ops) ((k:Int).toNat*12+1+1+1+1+1+1+1+1+1)),(bAt (ops s.ops) ((k:Int).toNat*12+1+1+1+1+1+1+1+1+1+1)),(bAt (ops s.ops) ((k:Int).toNat*12+1+1+1+1+1+1+1+1+1+1+1))⟩:Oq)).d]; let S:=fun (k:Nat)=>[dJ (boxF f (⟨(nAt (ops s.ops) ((k:Int).toNat*12)),(nAt (ops s.ops) ((k:Int).toNat*12+1)),(nAt (ops s.ops) ((k:Int).toNat*12+1+1)),(nAt (ops s.ops) ((k:Int).toNat*12+1+1+1)),(nAt (ops s.ops) ((k:Int).toNat*12+1+1+1+1)),(nAt (ops s.ops) ((k:Int).toNat*12+1+1+1+1+1)),(nAt (ops s.ops) ((k:Int).toNat*12+1+1+1+1+1+1)),(nAt (ops s.ops) ((k:Int).toNat*12+1+1+1+1+1+1+1)),(nAt (ops s.ops) ((k:Int).toNat*12+1+1+1+1+1+1+1+1)),(nAt (ops s.ops) ((k:Int).toNat*12+1+1+1+1+1+1+1+1+1)),(bAt (ops s.ops) ((k:Int).toNat*12+1+1+1+1+1+1+1+1+1+1)),(bAt (ops s.ops) ((k:Int).toNat*12+1+1+1+1+1+1+1+1+1+1+1))⟩:Oq) (imgR f (⟨(nAt (ops s.ops) ((k:Int).toNat*12)),(nAt (ops s.ops) ((k:Int).toNat*12+1)),(nAt (ops s.ops) ((k:Int).toNat*12+1+1)),(nAt (ops s.ops) ((k:Int).toNat*12+1+1+1)),(nAt (ops s.ops) ((k:Int).toNat*12+1+1+1+1)),(nAt (ops s.ops) ((k:Int).toNat*12+1+1+1+1+1)),(nAt (ops s.ops) ((k:Int).toNat*12+1+1+1+1+1+1)),(nAt (ops s.ops) ((k:Int).toNat*12+1+1+1+1+1+1+1)),(nAt (ops s.ops) ((k:Int).toNat*12+1+1+1+1+1+1+1+1)),(nAt (ops s.ops) ((k:Int).toNat*12+1+1+1+1+1+1+1+1+1)),(bAt (ops s.ops) ((k:Int).toNat*12+1+1+1+1+1+1+1+1+1+1)),(bAt (ops s.ops) ((k:Int).toNat*12+1+1+1+1+1+1+1+1+1+1+1))⟩:Oq))).a,dJ (boxF f (⟨(nAt (ops s.ops) ((k:Int).toNat*12)),(nAt (ops s.ops) ((k:Int).toNat*12+1)),(nAt (ops s.ops) ((k:Int).toNat*12+1+1)),(nAt (ops s.ops) ((k:Int).toNat*12+1+1+1)),(nAt (ops s.ops) ((k:Int).toNat*12+1+1+1+1)),(nAt (ops s.ops) ((k:Int).toNat*12+1+1+1+1+1)),(nAt (ops s.ops) ((k:Int).toNat*12+1+1+1+1+1+1)),(nAt (ops s.ops) ((k:Int).toNat*12+1+1+1+1+1+1+1)),(nAt (ops s.ops) ((k:Int).toNat*12+1+1+1+1+1+1+1+1)),(nAt (ops s.ops) ((k:Int).toNat*12+1+1+1+1+1+1+1+1+1)),(bAt (ops s.ops) ((k:Int).toNat*12+1+1+1+1+1+1+1+1+1+1)),(bAt (ops s.ops) ((k:Int).toNat*12+1+1+1+1+1+1+1+1+1+1+1))⟩:Oq) (imgR f (⟨(nAt (ops s.ops) ((k:Int).toNat*12)),(nAt (ops s.ops) ((k:Int).toNat*12+1)),(nAt (ops s.ops) ((k:Int).toNat*12+1+1)),(nAt (ops s.ops) ((k:Int).toNat*12+1+1+1)),(nAt (ops s.ops) ((k:Int).toNat*12+1+1+1+1)),(nAt (ops s.ops) ((k:Int).toNat*12+1+1+1+1+1)),(nAt (ops s.ops) ((k:Int).toNat*12+1+1+1+1+1+1)),(nAt (ops s.ops) ((k:Int).toNat*12+1+1+1+1+1+1+1)),(nAt (ops s.ops) ((k:Int).toNat*12+1+1+1+1+1+1+1+1)),(nAt (ops s.ops) ((k:Int).toNat*12+1+1+1+1+1+1+1+1+1)),(bAt (ops s.ops) ((k:Int).toNat*12+1+1+1+1+1+1+1+1+1+1)),(bAt (ops s.ops) ((k:Int).toNat*12+1+1+1+1+1+1+1+1+1+1+1))⟩:Oq))).b,dJ (boxF f (⟨(nAt (ops s.ops) ((k:Int).toNat*12)),(nAt (ops s.ops) ((k:Int).toNat*12+1)),(nAt (ops s.ops) ((k:Int).toNat*12+1+1)),(nAt (ops s.ops) ((k:Int).toNat*12+1+1+1)),(nAt (ops s.ops) ((k:Int).toNat*12+1+1+1+1)),(nAt (ops s.ops) ((k:Int).toNat*12+1+1+1+1+1)),(nAt (ops s.ops) ((k:Int).toNat*12+1+1+1+1+1+1)),(nAt (ops s.ops) ((k:Int).toNat*12+1+1+1+1+1+1+1)),(nAt (ops s.ops) ((k:Int).toNat*12+1+1+1+1+1+1+1+1)),(nAt (ops s.ops) ((k:Int).toNat*12+1+1+1+1+1+1+1+1+1)),(bAt (ops s.ops) ((k:Int).toNat*12+1+1+1+1+1+1+1+1+1+1)),(bAt (ops s.ops) ((k:Int).toNat*12+1+1+1+1+1+1+1+1+1+1+1))⟩:Oq) (imgR f (⟨(nAt (ops s.ops) ((k:Int).toNat*12)),(nAt (ops s.ops) ((k:Int).toNat*12+1)),(nAt (ops s.ops) ((k:Int).toNat*12+1+1)),(nAt (ops s.ops) ((k:Int).toNat*12+1+1+1)),(nAt (ops s.ops) ((k:Int).toNat*12+1+1+1+1)),(nAt (ops s.ops) ((k:Int).toNat*12+1+1+1+1+1)),(nAt (ops s.ops) ((k:Int).toNat*12+1+1+1+1+1+1)),(nAt (ops s.ops) ((k:Int).toNat*12+1+1+1+1+1+1+1)),(nAt (ops s.ops) ((k:Int).toNat*12+1+1+1+1+1+1+1+1)),(nAt (ops s.ops) ((k:Int).toNat*12+1+1+1+1+1+1+1+1+1)),(bAt (ops s.ops) ((k:Int).toNat*12+1+1+1+1+1+1+1+1+1+1)),(bAt (ops s.ops) ((k:Int).toNat*12+1+1+1+1+1+1+1+1+1+1+1))⟩:Oq))).c,dJ (boxF f (⟨(nAt (ops s.ops) ((k:Int).toNat*12)),(nAt (ops s.ops) ((k:Int).toNat*12+1)),(nAt (ops s.ops) ((k:Int).toNat*12+1+1)),(nAt (ops s.ops) ((k:Int).toNat*12+1+1+1)),(nAt (ops s.ops) ((k:Int).toNat*12+1+1+1+1)),(nAt (ops s.ops) ((k:Int).toNat*12+1+1+1+1+1)),(nAt (ops s.ops) ((k:Int).toNat*12+1+1+1+1+1+1)),(nAt (ops s.ops) ((k:Int).toNat*12+1+1+1+1+1+1+1)),(nAt (ops s.ops) ((k:Int).toNat*12+1+1+1+1+1+1+1+1)),(nAt (ops s.ops) ((k:Int).toNat*12+1+1+1+1+1+1+1+1+1)),(bAt (ops s.ops) ((k:Int).toNat*12+1+1+1+1+1+1+1+1+1+1)),(bAt (ops s.ops) ((k:Int).toNat*12+1+1+1+1+1+1+1+1+1+1+1))⟩:Oq) (imgR f (⟨(nAt (ops s.ops) ((k:Int).toNat*12)),(nAt (ops s.ops) ((k:Int).toNat*12+1)),(nAt (ops s.ops) ((k:Int).toNat*12+1+1)),(nAt (ops s.ops) ((k:Int).toNat*12+1+1+1)),(nAt (ops s.ops) ((k:Int).toNat*12+1+1+1+1)),(nAt (ops s.ops) ((k:Int).toNat*12+1+1+1+1+1)),(nAt (ops s.ops) ((k:Int).toNat*12+1+1+1+1+1+1)),(nAt (ops s.ops) ((k:Int).toNat*12+1+1+1+1+1+1+1)),(nAt (ops s.ops) ((k:Int).toNat*12+1+1+1+1+1+1+1+1)),(nAt (ops s.ops) ((k:Int).toNat*12+1+1+1+1+1+1+1+1+1)),(bAt (ops s.ops) ((k:Int).toNat*12+1+1+1+1+1+1+1+1+1+1)),(bAt (ops s.ops) ((k:Int).toNat*12+1+1+1+1+1+1+1+1+1+1+1))⟩:Oq))).d]; let B:=fun (k:Nat)=>(0≤(k:Int)∧(k:Int) < ((g.toNat:Nat):Int)); let T:=fun (k:Nat)=>((k:Int).toNat*4+4≤(rcs (runB s k).1).length); let H:=fun (k:Nat)=>fun (y:Bst)=>(((s.ops[k]?).getD popO).kind≠2∧y=zV0 s k ((s.ops[k]?).getD popO) (runB s k)); let C:=fun (k:Nat)=>(dJ (k:Int)=dJ (k:Int)); let U:=fun (k:Nat)=>((runB s k).2.1.length≤maxLen); let V:=fun (k:Nat)=>((runB s k).2.2.length≤maxLen); let W:=fun (k:Nat)=>[dJ (boxF f (⟨(nAt (ops s.ops) ((nAt (is (runB s k).2.1) ((wK ((((runB s k).2.1.length:Nat):Int) - 1)).toNat*1)).toNat*12)),(nAt (ops s.ops) ((nAt (is (runB s k).2.1) ((wK ((((runB s k).2.1.length:Nat):Int) - 1)).toNat*1)).toNat*12+1)),(nAt (ops s.ops) ((nAt (is (runB s k).2.1) ((wK ((((runB s k).2.1.length:Nat):Int) - 1)).toNat*1)).toNat*12+1+1)),(nAt (ops s.ops) ((nAt (is (runB s k).2.1) ((wK ((((runB s k).2.1.length:Nat):Int) - 1)).toNat*1)).toNat*12+1+1+1)),(nAt (ops s.ops) ((nAt (is (runB s k).2.1) ((wK ((((runB s k).2.1.length:Nat):Int) - 1)).toNat*1)).toNat*12+1+1+1+1)),(nAt (ops s.ops) ((nAt (is (runB s k).2.1) ((wK ((((runB s k).2.1.length:Nat):Int) - 1)).toNat*1)).toNat*12+1+1+1+1+1)),(nAt (ops s.ops) ((nAt (is (runB s k).2.1) ((wK ((((runB s k).2.1.length:Nat):Int) - 1)).toNat*1)).toNat*12+1+1+1+1+1+1)),(nAt (ops s.ops) ((nAt (is (runB s k).2.1) ((wK ((((runB s k).2.1.length:Nat):Int) - 1)).toNat*1)).toNat*12+1+1+1+1+1+1+1)),(nAt (ops s.ops) ((nAt (is (runB s k).2.1) ((wK ((((runB s k).2.1.length:Nat):Int) - 1)).toNat*1)).toNat*12+1+1+1+1+1+1+1+1)),(nAt (ops s.ops) ((nAt (is (runB s k).2.1) ((wK ((((runB s k).2.1.length:Nat):Int) - 1)).toNat*1)).toNat*12+1+1+1+1+1+1+1+1+1)),(bAt (ops s.ops) ((nAt (is (runB s k).2.1) ((wK ((((runB s k).2.1.length:Nat):Int) - 1)).toNat*1)).toNat*12+1+1+1+1+1+1+1+1+1+1)),(bAt (ops s.ops) ((nAt (is (runB s k).2.1) ((wK ((((runB s k).2.1.length:Nat):Int) - 1)).toNat*1)).toNat*12+1+1+1+1+1+1+1+1+1+1+1))⟩:Oq) ⟨(nAt (rcs (runB s k).2.2) ((wK ((((runB s k).2.2.length:Nat):Int) - 1)).toNat*4)),(nAt (rcs (runB s k).2.2) ((wK ((((runB s k).2.2.length:Nat):Int) - 1)).toNat*4+1)),(nAt (rcs (runB s k).2.2) ((wK ((((runB s k).2.2.length:Nat):Int) - 1)).toNat*4+1+1)),(nAt (rcs (runB s k).2.2) ((wK ((((runB s k).2.2.length:Nat):Int) - 1)).toNat*4+1+1+1))⟩).a,dJ (boxF f (⟨(nAt (ops s.ops) ((nAt (is (runB s k).2.1) ((wK ((((runB s k).2.1.length:Nat):Int) - 1)).toNat*1)).toNat*12)),(nAt (ops s.ops) ((nAt (is (runB s k).2.1) ((wK ((((runB s k).2.1.length:Nat):Int) - 1)).toNat*1)).toNat*12+1)),(nAt (ops s.ops) ((nAt (is (runB s k).2.1) ((wK ((((runB s k).2.1.length:Nat):Int) - 1)).toNat*1)).toNat*12+1+1)),(nAt (ops s.ops) ((nAt (is (runB s k).2.1) ((wK ((((runB s k).2.1.length:Nat):Int) - 1)).toNat*1)).toNat*12+1+1+1)),(nAt (ops s.ops) ((nAt (is (runB s k).2.1) ((wK ((((runB s k).2.1.length:Nat):Int) - 1)).toNat*1)).toNat*12+1+1+1+1)),(nAt (ops s.ops) ((nAt (is (runB s k).2.1) ((wK ((((runB s k).2.1.length:Nat):Int) - 1)).toNat*1)).toNat*12+1+1+1+1+1)),(nAt (ops s.ops) ((nAt (is (runB s k).2.1) ((wK ((((runB s k).2.1.length:Nat):Int) - 1)).toNat*1)).toNat*12+1+1+1+1+1+1)),(nAt (ops s.ops) ((nAt (is (runB s k).2.1) ((wK ((((runB s k).2.1.length:Nat):Int) - 1)).toNat*1)).toNat*12+1+1+1+1+1+1+1)),(nAt (ops s.ops) ((nAt (is (runB s k).2.1) ((wK ((((runB s k).2.1.length:Nat):Int) - 1)).toNat*1)).toNat*12+1+1+1+1+1+1+1+1)),(nAt (ops s.ops) ((nAt (is (runB s k).2.1) ((wK ((((runB s k).2.1.length:Nat):Int) - 1)).toNat*1)).toNat*12+1+1+1+1+1+1+1+1+1)),(bAt (ops s.ops) ((nAt (is (runB s k).2.1) ((wK ((((runB s k).2.1.length:Nat):Int) - 1)).toNat*1)).toNat*12+1+1+1+1+1+1+1+1+1+1)),(bAt (ops s.ops) ((nAt (is (runB s k).2.1) ((wK ((((runB s k).2.1.length:Nat):Int) - 1)).toNat*1)).toNat*12+1+1+1+1+1+1+1+1+1+1+1))⟩:Oq) ⟨(nAt (rcs (runB s k).2.2) ((wK ((((runB s k).2.2.length:Nat):Int) - 1)).toNat*4)),(nAt (rcs (runB s k).2.2) ((wK ((((runB s k).2.2.length:Nat):Int) - 1)).toNat*4+1)),(nAt (rcs (runB s k).2.2) ((wK ((((runB s k).2.2.length:Nat):Int) - 1)).toNat*4+1+1)),(nAt (rcs (runB s k).2.2) ((wK ((((runB s k).2.2.length:Nat):Int) - 1)).toNat*4+1+1+1))⟩).b,dJ (boxF f (⟨(nAt (ops s.ops) ((nAt (is (runB s k).2.1) ((wK ((((runB s k).2.1.length:Nat):Int) - 1)).toNat*1)).toNat*12)),(nAt (ops s.ops) ((nAt (is (runB s k).2.1) ((wK ((((runB s k).2.1.length:Nat):Int) - 1)).toNat*1)).toNat*12+1)),(nAt (ops s.ops) ((nAt (is (runB s k).2.1) ((wK ((((runB s k).2.1.length:Nat):Int) - 1)).toNat*1)).toNat*12+1+1)),(nAt (ops s.ops) ((nAt (is (runB s k).2.1) ((wK ((((runB s k).2.1.length:Nat):Int) - 1)).toNat*1)).toNat*12+1+1+1)),(nAt (ops s.ops) ((nAt (is (runB s k).2.1) ((wK ((((runB s k).2.1.length:Nat):Int) - 1)).toNat*1)).toNat*12+1+1+1+1)),(nAt (ops s.ops) ((nAt (is (runB s k).2.1) ((wK ((((runB s k).2.1.length:Nat):Int) - 1)).toNat*1)).toNat*12+1+1+1+1+1)),(nAt (ops s.ops) ((nAt (is (runB s k).2.1) ((wK ((((runB s k).2.1.length:Nat):Int) - 1)).toNat*1)).toNat*12+1+1+1+1+1+1)),(nAt (ops s.ops) ((nAt (is (runB s k).2.1) ((wK ((((runB s k).2.1.length:Nat):Int) - 1)).toNat*1)).toNat*12+1+1+1+1+1+1+1)),(nAt (ops s.ops) ((nAt (is (runB s k).2.1) ((wK ((((runB s k).2.1.length:Nat):Int) - 1)).toNat*1)).toNat*12+1+1+1+1+1+1+1+1)),(nAt (ops s.ops) ((nAt (is (runB s k).2.1) ((wK ((((runB s k).2.1.length:Nat):Int) - 1)).toNat*1)).toNat*12+1+1+1+1+1+1+1+1+1)),(bAt (ops s.ops) ((nAt (is (runB s k).2.1) ((wK ((((runB s k).2.1.length:Nat):Int) - 1)).toNat*1)).toNat*12+1+1+1+1+1+1+1+1+1+1)),(bAt (ops s.ops) ((nAt (is (runB s k).2.1) ((wK ((((runB s k).2.1.length:Nat):Int) - 1)).toNat*1)).toNat*12+1+1+1+1+1+1+1+1+1+1+1))⟩:Oq) ⟨(nAt (rcs (runB s k).2.2) ((wK ((((runB s k).2.2.length:Nat):Int) - 1)).toNat*4)),(nAt (rcs (runB s k).2.2) ((wK ((((runB s k).2.2.length:Nat):Int) - 1)).toNat*4+1)),(nAt (rcs (runB s k).2.2) ((wK ((((runB s k).2.2.length:Nat):Int) - 1)).toNat*4+1+1)),(nAt (rcs (runB s k).2.2) ((wK ((((runB s k).2.2.length:Nat):Int) - 1)).toNat*4+1+1+1))⟩).c,dJ (boxF f (⟨(nAt (ops s.ops) ((nAt (is (runB s k).2.1) ((wK ((((runB s k).2.1.length:Nat):Int) - 1)).toNat*1)).toNat*12)),(nAt (ops s.ops) ((nAt (is (runB s k).2.1) ((wK ((((runB s k).2.1.length:Nat):Int) - 1)).toNat*1)).toNat*12+1)),(nAt (ops s.ops) ((nAt (is (runB s k).2.1) ((wK ((((runB s k).2.1.length:Nat):Int) - 1)).toNat*1)).toNat*12+1+1)),(nAt (ops s.ops) ((nAt (is (runB s k).2.1) ((wK ((((runB s k).2.1.length:Nat):Int) - 1)).toNat*1)).toNat*12+1+1+1)),(nAt (ops s.ops) ((nAt (is (runB s k).2.1) ((wK ((((runB s k).2.1.length:Nat):Int) - 1)).toNat*1)).toNat*12+1+1+1+1)),(nAt (ops s.ops) ((nAt (is (runB s k).2.1) ((wK ((((runB s k).2.1.length:Nat):Int) - 1)).toNat*1)).toNat*12+1+1+1+1+1)),(nAt (ops s.ops) ((nAt (is (runB s k).2.1) ((wK ((((runB s k).2.1.length:Nat):Int) - 1)).toNat*1)).toNat*12+1+1+1+1+1+1)),(nAt (ops s.ops) ((nAt (is (runB s k).2.1) ((wK ((((runB s k).2.1.length:Nat):Int) - 1)).toNat*1)).toNat*12+1+1+1+1+1+1+1)),(nAt (ops s.ops) ((nAt (is (runB s k).2.1) ((wK ((((runB s k).2.1.length:Nat):Int) - 1)).toNat*1)).toNat*12+1+1+1+1+1+1+1+1)),(nAt (ops s.ops) ((nAt (is (runB s k).2.1) ((wK ((((runB s k).2.1.length:Nat):Int) - 1)).toNat*1)).toNat*12+1+1+1+1+1+1+1+1+1)),(bAt (ops s.ops) ((nAt (is (runB s k).2.1) ((wK ((((runB s k).2.1.length:Nat):Int) - 1)).toNat*1)).toNat*12+1+1+1+1+1+1+1+1+1+1)),(bAt (ops s.ops) ((nAt (is (runB s k).2.1) ((wK ((((runB s k).2.1.length:Nat):Int) - 1)).toNat*1)).toNat*12+1+1+1+1+1+1+1+1+1+1+1))⟩:Oq) ⟨(nAt (rcs (runB s k).2.2) ((wK ((((runB s k).2.2.length:Nat):Int) - 1)).toNat*4)),(nAt (rcs (runB s k).2.2) ((wK ((((runB s k).2.2.length:Nat):Int) - 1)).toNat*4+1)),(nAt (rcs (runB s k).2.2) ((wK ((((runB s k).2.2.length:Nat):Int) - 1)).toNat*4+1+1)),(nAt (rcs (runB s k).2.2) ((wK ((((runB s k).2.2.length:Nat):Int) - 1)).toNat*4+1+1+1))⟩).d]; let X:=fun (k:Nat)=>fun (y:Bst)=>[dJ (zQQ (zZW ([dJ (nAt (rcs y.2.2) ((wK ((y.2.2.length:Int) - 1)).toNat*4)),dJ (nAt (rcs y.2.2) ((wK ((y.2.2.length:Int) - 1)).toNat*4+1)),dJ (nAt (rcs y.2.2) ((wK ((y.2.2.length:Int) - 1)).toNat*4+1+1)),dJ (nAt (rcs y.2.2) ((wK ((y.2.2.length:Int) - 1)).toNat*4+1+1+1)),dJ (nAt (rcs y.1) ((k:Int).toNat*4)),dJ (nAt (rcs y.1) ((k:Int).toNat*4+1)),dJ (nAt (rcs y.1) ((k:Int).toNat*4+1+1)),dJ (nAt (rcs y.1) ((k:Int).toNat*4+1+1+1))]))).a,dJ (zQQ (zZW ([dJ (nAt (rcs y.2.2) ((wK ((y.2.2.length:Int) - 1)).toNat*4)),dJ (nAt (rcs y.2.2) ((wK ((y.2.2.length:Int) - 1)).toNat*4+1)),dJ (nAt (rcs y.2.2) ((wK ((y.2.2.length:Int) - 1)).toNat*4+1+1)),dJ (nAt (rcs y.2.2) ((wK ((y.2.2.length:Int) - 1)).toNat*4+1+1+1)),dJ (nAt (rcs y.1) ((k:Int).toNat*4)),dJ (nAt (rcs y.1) ((k:Int).toNat*4+1)),dJ (nAt (rcs y.1) ((k:Int).toNat*4+1+1)),dJ (nAt (rcs y.1) ((k:Int).toNat*4+1+1+1))]))).b,dJ (zQQ (zZW ([dJ (nAt (rcs y.2.2) ((wK ((y.2.2.length:Int) - 1)).toNat*4)),dJ (nAt (rcs y.2.2) ((wK ((y.2.2.length:Int) - 1)).toNat*4+1)),dJ (nAt (rcs y.2.2) ((wK ((y.2.2.length:Int) - 1)).toNat*4+1+1)),dJ (nAt (rcs y.2.2) ((wK ((y.2.2.length:Int) - 1)).toNat*4+1+1+1)),dJ (nAt (rcs y.1) ((k:Int).toNat*4)),dJ (nAt (rcs y.1) ((k:Int).toNat*4+1)),dJ (nAt (rcs y.1) ((k:Int).toNat*4+1+1)),dJ (nAt (rcs y.1) ((k:Int).toNat*4+1+1+1))]))).c,dJ (zQQ (zZW ([dJ (nAt (rcs y.2.2) ((wK ((y.2.2.length:Int) - 1)).toNat*4)),dJ (nAt (rcs y.2.2) ((wK ((y.2.2.length:Int) - 1)).toNat*4+1)),dJ (nAt (rcs y.2.2) ((wK ((y.2.2.length:Int) - 1)).toNat*4+1+1)),dJ (nAt (rcs y.2.2) ((wK ((y.2.2.length:Int) - 1)).toNat*4+1+1+1)),dJ (nAt (rcs y.1) ((k:Int).toNat*4)),dJ (nAt (rcs y.1) ((k:Int).toNat*4+1)),dJ (nAt (rcs y.1) ((k:Int).toNat*4+1+1)),dJ (nAt (rcs y.1) ((k:Int).toNat*4+1+1+1))]))).d]; tU4 ((Ans prog 22 [RV.agg o] (RV.tup [RV.d M,rJ z.2]))∧tU7 (((z.1 != 0)=true→tU3 (RV.tup [RV.d (dS 0 ([])),RV.d M]=RV.tup N))∧((z.1 != 0)=false→tU3 ((0≤g∧g≤g∧g≤(maxLen:Int)∧((32:Nat):Int)*g≤281474976710656)∧True∧tU8 ((∃ k:Nat,(k≤s.ops.length)∧(((0=0)∧r∧(0=(runB s k).2.1.length)∧(1=(runB s k).2.2.length)∧t∧u∧(dJ 0=dJ (k:Int))∧True)∧(v∧(repl g.toNat A=rcs (runB s k).1)∧([]=is (runB s k).2.1)∧(A=rcs (runB s k).2.2)∧True)))∧∀ k:Nat,let Y:=(decide ((k:Int) < g)); let I:=(rcs (runB s k).1); let D:=((k:Int).toNat*4+1); let E:=((k:Int).toNat*4+1+1); let J:=(((runB s k).2.2.length:Nat):Int); let K:=(((runB s k).2.1.length:Nat):Int); let F:=((k:Int).toNat*4+1+1+1); let p:=((k:Int).toNat*4); let w:=(nAt (ops s.ops) ((k:Int).toNat*12)); let l:=(is (runB s k).2.1); let i:=(rcs (runB s k).2.2); let n:=(K - 1); let q:=((wK n).toNat*1); let x:=(J - 1); let m:=(wK x); let L:=(m.toNat*4); let Z:=(nAt i (m.toNat*4+1)); let z0:=(nAt i (m.toNat*4+1+1)); let z1:=(nAt i (m.toNat*4+1+1+1)); let h:=(sets I p (W k)); let e:=(nAt l q); let z2:=(nAt (ops s.ops) (e.toNat*12)); let z3:=(nAt (ops s.ops) (e.toNat*12+1)); let z4:=(nAt (ops s.ops) (e.toNat*12+1+1)); let z5:=(nAt (ops s.ops) (e.toNat*12+1+1+1)); let z6:=(nAt (ops s.ops) (e.toNat*12+1+1+1+1)); let z7:=(nAt (ops s.ops) (e.toNat*12+1+1+1+1+1)); let z8:=(nAt (ops s.ops) (e.toNat*12+1+1+1+1+1+1)); let z9:=(nAt (ops s.ops) (e.toNat*12+1+1+1+1+1+1+1)); let y0:=(nAt (ops s.ops) (e.toNat*12+1+1+1+1+1+1+1+1)); let y1:=(nAt (ops s.ops) (e.toNat*12+1+1+1+1+1+1+1+1+1)); let y2:=(bAt (ops s.ops) (e.toNat*12+1+1+1+1+1+1+1+1+1+1)); let y3:=(bAt (ops s.ops) (e.toNat*12+1+1+1+1+1+1+1+1+1+1+1)); (k≤s.ops.length)→True∧((Y=true→True∧(0≤(k:Int)∧(k:Int) < g∧(k:Int).toNat*12 < (ops s.ops).length)∧(((ops s.ops)[(k:Int).toNat*12]?=some (dJ w))∧((ops s.ops)[(k:Int).toNat*12+1]?=some (dJ (nAt (ops s.ops) ((k:Int).toNat*12+1))))∧((ops s.ops)[(k:Int).toNat*12+1+1]?=some (dJ (nAt (ops s.ops) ((k:Int).toNat*12+1+1))))∧((ops s.ops)[(k:Int).toNat*12+1+1+1]?=some (dJ (nAt (ops s.ops) ((k:Int).toNat*12+1+1+1))))∧((ops s.ops)[(k:Int).toNat*12+1+1+1+1]?=some (dJ (nAt (ops s.ops) ((k:Int).toNat*12+1+1+1+1))))∧((ops s.ops)[(k:Int).toNat*12+1+1+1+1+1]?=some (dJ (nAt (ops s.ops) ((k:Int).toNat*12+1+1+1+1+1))))∧((ops s.ops)[(k:Int).toNat*12+1+1+1+1+1+1]?=some (dJ (nAt (ops s.ops) ((k:Int).toNat*12+1+1+1+1+1+1))))∧((ops s.ops)[(k:Int).toNat*12+1+1+1+1+1+1+1]?=some (dK (nAt (ops s.ops) ((k:Int).toNat*12+1+1+1+1+1+1+1))))∧((ops s.ops)[(k:Int).toNat*12+1+1+1+1+1+1+1+1]?=some (dJ (nAt (ops s.ops) ((k:Int).toNat*12+1+1+1+1+1+1+1+1))))∧((ops s.ops)[(k:Int).toNat*12+1+1+1+1+1+1+1+1+1]?=some (dJ (nAt (ops s.ops) ((k:Int).toNat*12+1+1+1+1+1+1+1+1+1))))∧((ops s.ops)[(k:Int).toNat*12+1+1+1+1+1+1+1+1+1+1]?=some (dQ (bAt (ops s.ops) ((k:Int).toNat*12+1+1+1+1+1+1+1+1+1+1))))∧((ops s.ops)[(k:Int).toNat*12+1+1+1+1+1+1+1+1+1+1+1]?=some (dQ (bAt (ops s.ops) ((k:Int).toNat*12+1+1+1+1+1+1+1+1+1+1+1))))∧True)∧tU3 ((tU4 (((w==2)=true→tU3 ((zZe 1 8 (runB s k).2.1.length 1 l ([dJ (k:Int)]))∧tU3 ((zZe 4 32 (runB s k).2.2.length 1 i A)∧tU4 (∃ k':Nat,(k'≤s.ops.length)∧(O k k')∧(((0=0)∧r∧((runB s k).2.1.length+1=(runB s k').2.1.length)∧((runB s k).2.2.length+1=(runB s k').2.2.length)∧t∧u∧(P k k')∧True)∧(v∧(rcs (runB s k).1=rcs (runB s k').1)∧(l++([dJ (k:Int)])=is (runB s k').2.1)∧(i++A=rcs (runB s k').2.2)∧True))))))∧((w==2)=false→tU2 (((w==1)=true→tU6 ((Ans prog 24 [RV.agg o,RV.agg (Q k)] (RV.agg (R k)))∧(Ans prog 23 [RV.agg o,RV.agg (Q k),RV.agg (R k)] (RV.agg (S k)))∧(B k)∧(T k)∧(true=true)∧∃ y:Bst,(H k y)∧(((0=0)∧r∧((runB s k).2.1.length=y.2.1.length)∧((runB s k).2.2.length=y.2.2.length)∧(C k)∧t∧u∧(C k)∧True)∧(v∧(sets I p (S k)=rcs y.1)∧(is (runB s k).2.1=is y.2.1)∧(rcs (runB s k).2.2=rcs y.2.2)∧True))))∧((w==1)=false→tU2 ((U k)∧True∧(0≤wK n∧wK n < K)∧((l[(wK n).toNat*1]?=some (dJ e))∧True)∧tU7 ((0≤nAt l q∧nAt l q < g∧e.toNat*12 < (ops s.ops).length)∧(((ops s.ops)[e.toNat*12]?=some (dJ z2))∧((ops s.ops)[e.toNat*12+1]?=some (dJ z3))∧((ops s.ops)[e.toNat*12+1+1]?=some (dJ z4))∧((ops s.ops)[e.toNat*12+1+1+1]?=some (dJ z5))∧((ops s.ops)[e.toNat*12+1+1+1+1]?=some (dJ z6))∧((ops s.ops)[e.toNat*12+1+1+1+1+1]?=some (dJ z7))∧((ops s.ops)[e.toNat*12+1+1+1+1+1+1]?=some (dJ z8))∧((ops s.ops)[e.toNat*12+1+1+1+1+1+1+1]?=some (dK z9))∧((ops s.ops)[e.toNat*12+1+1+1+1+1+1+1+1]?=some (dJ y0))∧((ops s.ops)[e.toNat*12+1+1+1+1+1+1+1+1+1]?=some (dJ y1))∧((ops s.ops)[e.toNat*12+1+1+1+1+1+1+1+1+1+1]?=some (dQ y2))∧((ops s.ops)[e.toNat*12+1+1+1+1+1+1+1+1+1+1+1]?=some (dQ y3))∧True)∧tU2 ((V k)∧True∧(0≤wK x∧wK x < J)∧((i[m.toNat*4]?=some (dJ (nAt i L)))∧(i[m.toNat*4+1]?=some (dJ Z))∧(i[m.toNat*4+1+1]?=some (dJ z0))∧(i[m.toNat*4+1+1+1]?=some (dJ z1))∧True)∧(Ans prog 23 [RV.agg o,RV.agg [dJ z2,dJ z3,dJ z4,dJ z5,dJ z6,dJ z7,dJ z8,dK z9,dJ y0,dJ y1,dQ y2,dQ y3],RV.agg [dJ (nAt i L),dJ Z,dJ z0,dJ z1]] (RV.agg (W k)))∧(B k)∧(T k)∧(true=true)∧tU4 ((B k)∧((h[(k:Int).toNat*4]?=some (dJ (nAt h p)))∧(h[(k:Int).toNat*4+1]?=some (dJ (nAt h D)))∧(h[(k:Int).toNat*4+1+1]?=some (dJ (nAt h E)))∧(h[(k:Int).toNat*4+1+1+1]?=some (dJ (nAt h F)))∧True)∧(0≤nAt l q∧nAt l q < ((g.toNat:Nat):Int))∧(e.toNat*4+4≤h.length)∧tU2 ((U k)∧True∧(0≤wK n∧wK n≤K)∧tU2 ((V k)∧True∧(0≤wK x∧wK x≤J)∧tU2 ((true=true)∧∃ y:Bst,(H k y)∧(((0=0)∧r∧((wK n).toNat=y.2.1.length)∧(m.toNat=y.2.2.length)∧(C k)∧t∧u∧(C k)∧True)∧(v∧(sets h (e.toNat*4) ([dJ (nAt h p),dJ (nAt h D),dJ (nAt h E),dJ (nAt h F)])=rcs y.1)∧(List.take q l=is y.2.1)∧(List.take L i=rcs y.2.2)∧True))))))))))))))∧∀ y:Bst,let G:=(y.2.2.length:Int); let j:=(wK (G - 1)); let y4:=(nAt (rcs y.2.2) (j.toNat*4)); let y5:=(nAt (rcs y.2.2) (j.toNat*4+1)); let y6:=(nAt (rcs y.2.2) (j.toNat*4+1+1)); let y7:=(nAt (rcs y.2.2) (j.toNat*4+1+1+1)); (H k y)→tU2 ((y.2.2.length≤maxLen)∧True∧(0≤wK (G - 1)∧wK (G - 1) < G)∧tU4 ((((rcs y.2.2)[j.toNat*4]?=some (dJ y4))∧((rcs y.2.2)[j.toNat*4+1]?=some (dJ y5))∧((rcs y.2.2)[j.toNat*4+1+1]?=some (dJ y6))∧((rcs y.2.2)[j.toNat*4+1+1+1]?=some (dJ y7))∧True)∧tU2 ((B k)∧(((rcs y.1)[(k:Int).toNat*4]?=some (dJ (nAt (rcs y.1) p)))∧((rcs y.1)[(k:Int).toNat*4+1]?=some (dJ (nAt (rcs y.1) D)))∧((rcs y.1)[(k:Int).toNat*4+1+1]?=some (dJ (nAt (rcs y.1) E)))∧((rcs y.1)[(k:Int).toNat*4+1+1+1]?=some (dJ (nAt (rcs y.1) F)))∧True)∧True∧(Ans prog 25 [RV.d (dS 2 ([dJ y4,dJ y5,dJ y6,dJ y7,dJ (nAt (rcs y.1) p),dJ (nAt (rcs y.1) D),dJ (nAt (rcs y.1) E),dJ (nAt (rcs y.1) F)]))] (RV.agg (X k y)))∧True∧(j.toNat*4+4≤(rcs y.2.2).length)∧(true=true)∧tU2 (∃ k':Nat,(k'≤s.ops.length)∧(O k k')∧(((0=0)∧r∧(y.2.1.length=(runB s k').2.1.length)∧(y.2.2.length=(runB s k').2.2.length)∧t∧u∧(P k k')∧True)∧(v∧(rcs y.1=rcs (runB s k').1)∧(is y.2.1=is (runB s k').2.1)∧(sets (rcs y.2.2) (j.toNat*4) (X k y)=rcs (runB s k').2.2)∧True))))))))∧(Y=false→tU3 (RV.tup [RV.d (dS g.toNat I),rJ 0]=RV.tup N)))))))))) ?_
  delta sE dJ dK dQ wK dS rJ
  simp only [sS]
  (try simp only [zKn,zKJ,zZ8,zXk,zQG])
  have hsE:(⟨s.bits,s.c,s.tw,s.th,s.ord,s.ims,s.ops⟩:Scr)=s:=rfl
  (try simp only [hsE])
  clear hsE
  have eB:zQc s=if s.run.1=0 then ((runB s s.ops.length).1,0) else ([],s.run.1):=rfl
  have oA:=zVX s
  have hE:opsE s.bits s.c s.tw s.th s.ord s.ims.length s.ops=s.run:=rfl
  simp only [hE]
  refine ⟨oA,fun h=>?_,fun h=>?_⟩
  ·have h:s.run.1≠0:=by simpa using h
   rw [eB,if_neg h]; exact ⟨⟨rfl,rfl⟩,rfl⟩
  ·have h0:s.run.1=0:=by simpa using h
   have F:=zUI h0
   obtain ⟨fl1,fl2⟩:=jYp (zKP h0).1
   have hM:∀ n:Nat,n≤10000→n≤maxLen:=fun n h=>by unfold maxLen; omega
   rw [eB,if_pos h0]
   clear eB hE oA h hwf
   refine ⟨⟨by omega,Int.le_refl _,by have:=hM s.ops.length (by omega); omega,by omega⟩,⟨0,Nat.zero_le _,⟨rfl,rfl,rfl⟩,jZl _,rfl,rfl⟩,fun k hk=>⟨fun hlt=>?_,fun hge=>?_⟩⟩
   ·have hlt:k < s.ops.length:=by omega
    obtain ⟨st,g1,g2,g3,g4,g5,g6,g7⟩:=F k hk
    have q1:=zVG hlt
    have q2:=zVH hlt
    have eo:(s.ops[k]?).getD popO=s.ops[k]:=by rw [List.getElem?_eq_getElem hlt]; rfl
    obtain ⟨he1,he2⟩:=zGQ g1 g2 hlt
    have w1:IntKind.wrap .i64 ((k:Int)+1)=((k+1:Nat):Int):=zXN (by omega)
    have rS:runB s (k+1)=zVZ s k s.ops[k] (runB s k):=by rw [← eo]; rfl
    have oeta:(⟨s.ops[k].kind,s.ops[k].image,s.ops[k].x,s.ops[k].y,s.ops[k].mask,s.ops[k].mx,s.ops[k].my,s.ops[k].opac,s.ops[k].oper,s.ops[k].mode,s.ops[k].iso,s.ops[k].kno⟩:Oq)=s.ops[k]:=rfl
    simp only [q2,eo,oeta,w1]
    generalize s.ops[k]=o at *
    clear oeta eo
    generalize hz:runB s k=z at *
    obtain ⟨z1,z2,z3⟩:=z
    simp only at *
    refine ⟨⟨by omega,by omega,by rw [zQC]; omega⟩,q1,⟨fun hp=>?_,fun hp=>⟨fun hd=>?_,fun hd=>?_⟩⟩,fun y hy=>?_⟩
    ·have hk2:o.kind=2:=by simpa using hp
     have e:runB s (k+1)=(z1,z2++[(k:Int)],z3++[Rc.zero]):=by rw [rS]; unfold zVZ; rw [if_pos hk2]
     refine ⟨⟨by simp [zQN],rfl,hM _ (by omega),by omega⟩,⟨by simp [zZN],rfl,hM _ (by omega),by omega⟩,k+1,by omega,by omega,⟨?_,?_,rfl⟩,?_,?_,?_⟩
     ·rw [e]; simp
     ·rw [e]; simp
     ·rw [e]
     ·rw [e]; simp [is]
     ·rw [e,jJ4,jJ3]; rfl
    ·have hk1:o.kind=1:=by simpa using hd
     have e:zV0 s k o (z1,z2,z3)=(z1.set k (boxF s o (imgR s o)),z2,z3):=by unfold zV0; rw [if_pos hk1]
     exact ⟨zJ2 s o,zKf s o (imgR s o),⟨by omega,by omega⟩,by rw [zZN]; omega,_,⟨by omega,e.symm⟩,⟨rfl,rfl⟩,zV8 (by omega) _,rfl,rfl⟩
    ·have hk1:o.kind≠1:=by simpa using hd
     have hk2:o.kind≠2:=by simpa using hp
     have hz2:0 < z2.length:=by
      rcases zYP he1 with h | h | ⟨_,h⟩
      ·exact absurd h hk1
      ·exact absurd h hk2
      ·have:=List.length_pos_iff.2 h; omega
     have w2:IntKind.wrap .i64 ((z2.length:Int) - 1)=((z2.length - 1:Nat):Int):=by rw [IntWalk.i64_in _ ⟨by omega,by omega⟩]; omega
     have w3:IntKind.wrap .i64 ((z3.length:Int) - 1)=((z3.length - 1:Nat):Int):=by rw [IntWalk.i64_in _ ⟨by omega,by omega⟩]; omega
     obtain ⟨p,hp2⟩:∃ p,z2[z2.length - 1]?=some p:=⟨_,List.getElem?_eq_getElem (by omega)⟩
     obtain ⟨h,hh2⟩:∃ h,z3[z3.length - 1]?=some h:=⟨_,List.getElem?_eq_getElem (by omega)⟩
     have hpb:=g7 p (List.mem_of_getElem? hp2)
     have hpl:p.toNat < s.ops.length:=by omega
     have n2:nAt (is z2) (z2.length - 1)=p:=by simp [nAt,is,hp2]
     have n2':(is z2)[z2.length - 1]?=some (.int .i64 p):=by simp [is,hp2]
     have hl3:z3.length - 1 < z3.length:=by omega
     have eh:z3[z3.length - 1]=h:=by rw [List.getElem?_eq_getElem hl3] at hh2; exact Option.some.inj hh2
     have r1:=zKS z3 _ hl3
     have r2:=zVs hl3
     rw [eh] at r1 r2
     have q1':=zVG hpl
     have q2':=zVH hpl
     have eop:(s.ops[p.toNat]?).getD popO=s.ops[p.toNat]:=by rw [List.getElem?_eq_getElem hpl]; rfl
     have e:zV0 s k o (z1,z2,z3)=((z1.set k (boxF s s.ops[p.toNat] h)).set p.toNat (boxF s s.ops[p.toNat] h),z2.dropLast,z3.dropLast):=by
      unfold zV0
      rw [if_neg hk1]
      simp only [hp2,hh2,Option.getD_some,eop]
     have oeta:(⟨s.ops[p.toNat].kind,s.ops[p.toNat].image,s.ops[p.toNat].x,s.ops[p.toNat].y,s.ops[p.toNat].mask,s.ops[p.toNat].mx,s.ops[p.toNat].my,s.ops[p.toNat].opac,s.ops[p.toNat].oper,s.ops[p.toNat].mode,s.ops[p.toNat].iso,s.ops[p.toNat].kno⟩:Oq)=s.ops[p.toNat]:=rfl
     have heta:(⟨h.a,h.b,h.c,h.d⟩:Rc)=h:=rfl
     simp only [w2,w3,Int.toNat_natCast,Nat.mul_one,n2,r2,q2',oeta,heta]
     have bx:=zKf s s.ops[p.toNat] h
     generalize s.ops[p.toNat]=q at *
     clear oeta heta eop
     generalize boxF s q h=B at *
     have es:sets (rcs z1) (k*4) [DV.int .i64 B.a,DV.int .i64 B.b,DV.int .i64 B.c,DV.int .i64 B.d]=rcs (z1.set k B):=zV8 (by omega) B
     have hl1:k < (z1.set k B).length:=by simp; omega
     have b1:=zKS (z1.set k B) k hl1
     have b2:=zVs hl1
     rw [List.getElem_set_self] at b1 b2
     simp only [es,b2]
     have es2:sets (rcs (z1.set k B)) (p.toNat*4) [DV.int .i64 B.a,DV.int .i64 B.b,DV.int .i64 B.c,DV.int .i64 B.d]=rcs ((z1.set k B).set p.toNat B):=zV8 (by simp; omega) B
     simp only [es2]
     refine ⟨hM _ (by omega),⟨by omega,by omega⟩,n2',⟨by omega,by omega,by rw [zQC]; omega⟩,q1',hM _ (by omega),⟨by omega,by omega⟩,r1,bx,⟨by omega,by omega⟩,by rw [zZN]; omega,⟨by omega,by omega⟩,b1,⟨by omega,by omega⟩,by rw [zZN,List.length_set]; omega,hM _ (by omega),⟨by omega,by omega⟩,hM _ (by omega),⟨by omega,by omega⟩,_,⟨hk2,e.symm⟩,⟨by simp,by simp⟩,rfl,?_,?_⟩
     ·rw [List.dropLast_eq_take]; simp [is]
     ·show _=rcs z3.dropLast
      rw [List.dropLast_eq_take,jYZ]
    ·obtain ⟨y1,y2,y3⟩:=y
     obtain ⟨hk2,hy⟩:=hy
     simp only at hk2 hy ⊢
     have yl:0 < y3.length∧y3.length≤5000∧y1.length=s.ops.length:=by
      unfold zV0 at hy
      split at hy
      ·simp only [Prod.mk.injEq] at hy
       obtain ⟨rfl,rfl,rfl⟩:=hy
       rw [List.length_set]; omega
      ·rename_i hk1
       simp only [Prod.mk.injEq] at hy
       obtain ⟨rfl,rfl,rfl⟩:=hy
       have hz2:0 < z2.length:=by
        rcases zYP he1 with h | h | ⟨_,h⟩
        ·exact absurd h hk1
        ·exact absurd h hk2
        ·have:=List.length_pos_iff.2 h; omega
       simp; omega
     obtain ⟨yl1,yl2,yl3⟩:=yl
     have w3:IntKind.wrap .i64 ((y3.length:Int) - 1)=((y3.length - 1:Nat):Int):=by rw [IntWalk.i64_in _ ⟨by omega,by omega⟩]; omega
     have hl3:y3.length - 1 < y3.length:=by omega
     have hl1:k < y1.length:=by omega
     have r1:=zKS y3 _ hl3
     have r2:=zVs hl3
     have b1:=zKS y1 _ hl1
     have b2:=zVs hl1
     have e:runB s (k+1)=(y1,y2,y3.set (y3.length - 1) (zQQ [y3[y3.length - 1],y1[k]])):=by
      rw [rS]
      unfold zVZ
      rw [if_neg hk2]
      simp only [← hy,topB]
      rw [List.getElem?_eq_getElem hl3,List.getElem?_eq_getElem hl1]
      rfl
     simp only [w3,Int.toNat_natCast,r2,b2]
     generalize y3[y3.length - 1]=c at *
     generalize y1[k]=B at *
     have hu:=zGA 2 (rcs [c,B]) (jYc [c,B])
     have et:zZW [DV.int .i64 c.a,DV.int .i64 c.b,DV.int .i64 c.c,DV.int .i64 c.d,DV.int .i64 B.a,DV.int .i64 B.b,DV.int .i64 B.c,DV.int .i64 B.d]=[c,B]:=rfl
     simp only [zJq] at hu
     simp only [et]
     refine ⟨hM _ (by omega),⟨by omega,by omega⟩,r1,⟨by omega,by omega⟩,b1,hu,by rw [zZN]; omega,k+1,by omega,by omega,⟨?_,?_,rfl⟩,?_,?_,?_⟩
     ·rw [e]
     ·rw [e]; simp
     ·rw [e]
     ·rw [e]
     ·rw [e]; exact zV8 hl3 _
   ·have:k=s.ops.length:=by omega
    subst this
    exact ⟨⟨by have:=(F _ hk).choose_spec.2.2.1; exact this.symm,rfl⟩,rfl⟩
theorem Occ.next {s:Scr} (hv:s.run.1=0) {k:Nat} {f:Fo} (h:Occ s (foOf s) k f) (hf:0 < f.size):∃ f2,Occ s (foOf s) (enAt s k+1) f2∧enAt s k+1+f2.size=k+f.size∧zQR s f=bxAt s k::zQR s f2∧(opAt s k).kind≠3∧k≤enAt s k∧k < s.ops.length:=by
 have hz:=zVa hv
 have hs:=(zYO hv).2
 have g:∀ {q:Nat} {o:Oq},(foOf s).flat[q]?=some o→opAt s q=o:=fun {q o} hq=>by
  unfold opAt
  have:s.ops[q]?=some o:=by rw [← hq]; exact congrArg (fun l:List Oq=>l[q]?) hs
  rw [this]; rfl
 cases f with
 | nil=>simp [Fo.size] at hf
 | draw o r=>
  obtain ⟨k1,k0,k2,k3,k4,k5⟩:=h.draw
  have hk:k < s.ops.length:=by omega
  have e:enAt s k=k:=by rw [(jYy hv hk).2,k3]
  exact ⟨r,by rw [e]; exact k5,by rw [e]; simp only [Fo.size]; omega,by rw [jYC hv hk,k4]; rfl,by rw [g k2,k1]; decide,by omega,hk⟩
 | grp o kf r=>
  obtain ⟨k1,k0,k2,k3,k4,k5,k6,k7,k8,k9⟩:=h.grp
  have hk:k < s.ops.length:=by omega
  have e:enAt s k=k+kf.size+1:=by rw [(jYy hv hk).2,k4]
  exact ⟨r,by rw [e]; exact k9,by rw [e]; simp only [Fo.size]; omega,by rw [jYC hv hk,k6]; rfl,by rw [g k2,k1]; decide,by omega,hk⟩
end
def Scn.scr (s:Scn):Scr:=⟨s.bits,s.c,s.gtw,s.gth,s.ord,s.ims,s.ops⟩
theorem Scn.scr_run (s:Scn):s.scr.run=(0,0):=by
 have li:=s.ims_len
 have lo:=s.ops_len
 have f:=s.frame_ok (mn:=s.ims.length) (pn:=s.ops.length) (by omega) (by omega)
 show opsE s.bits s.c s.gtw s.gth s.ord s.ims.length s.ops=_
 unfold opsE
 rw [if_pos f]
 exact s.ops_run
section
attribute [local irreducible] Ans AnsO AnsG AnsN AnsI
def awS:Scr:=⟨8,⟨0,0,9,9⟩,9,9,[],[⟨2,2,true,⟨0,0,0,0,0⟩,⟨0,0,0,0,[]⟩,⟨0,0,0,0,[]⟩,⟨0,0,0,0,[]⟩,⟨0,0,0,0,[]⟩,⟨0,0,0,0,[]⟩⟩],[⟨1,0,8,0,0,0,0,255,4,1,false,false⟩,⟨1,0,0,0,0,0,0,255,6,1,false,false⟩]⟩
theorem jYK:zQc awS=([⟨8,0,9,2⟩,⟨0,0,9,9⟩],0):=by kernel_rfl
def gZ57 (xs:List RV):Option RV:=match xs with | [.agg [.int _ bits,.int _ cx0,.int _ cy0,.int _ cx1,.int _ cy1,.int _ tw,.int _ th,.sl on oxs,.sl mn mxs,.sl pn pxs]]=>some (RV.tup [RV.d (dS (zQc (⟨bits,⟨cx0,cy0,cx1,cy1⟩,tw,th,ints oxs,zQf mxs,zQd pxs⟩:Scr)).1.length (rcs (zQc (⟨bits,⟨cx0,cy0,cx1,cy1⟩,tw,th,ints oxs,zQf mxs,zQd pxs⟩:Scr)).1)),rJ (zQc (⟨bits,⟨cx0,cy0,cx1,cy1⟩,tw,th,ints oxs,zQf mxs,zQd pxs⟩:Scr)).2]) | _=>none
def jK1:Gam where
 pure:=fun f xs=>
  if f=7 then gZ57 xs else
  none
 modes:=fun f=>
  none
 proc:=fun f xs bs=>
  none
 iter:=fun f cs=>
  none
def zVj:Ann:=(Ann.seq Ann.leaf (Ann.cut ⟨Unit,fun u:Unit=>True,fun u:Unit=>⟨[(1,AV.one (Cl.ptr 1 0))],[(1,bC [cJ (awS.bits),cJ (awS.c.a),cJ (awS.c.b),cJ (awS.c.c),cJ (awS.c.d),cJ (awS.tw),cJ (awS.th),Cl.ref 7000 awS.ord.length,Cl.ref 7001 awS.ims.length,Cl.ref 7002 awS.ops.length]),(7000,Bx.row 3 1 (is awS.ord)),(7001,Bx.row 69 28 (ims awS.ims)),(7002,Bx.row 44 12 (ops awS.ops))]⟩,fun u:Unit=>0⟩ Ann.leaf fun u=>Ann.leaf))
theorem jQq:vcg prog jK1 38 (zVQ Tryz.f8) (zVj ) kn0 (start []) (post prog Tryz.f8.results.toList (·=RV.d (dQ true))) =
 (let d:=((true=true)∧RV.d (dQ false)=RV.d (dQ true)); let a:=(is awS.ord); let b:=(ops awS.ops); let c:=(ims awS.ims); True∧(True∧tU8 (∃ u:Unit,True∧(((0=0)∧True)∧(((dJ 8=dJ awS.bits)∧(dJ 0=dJ awS.c.a)∧(dJ 0=dJ awS.c.b)∧(dJ 9=dJ awS.c.c)∧(dJ 9=dJ awS.c.d)∧(dJ 9=dJ awS.tw)∧(dJ 9=dJ awS.th)∧(0=awS.ord.length)∧(1=awS.ims.length)∧(2=awS.ops.length)∧True)∧([]=is awS.ord)∧([dJ 2,dJ 2,dQ true,dK 0,dK 0,dK 0,dK 0,dK 0,dJ 0,dJ 0,dJ 0,dS 0 ([]),dJ 0,dJ 0,dJ 0,dS 0 ([]),dJ 0,dJ 0,dJ 0,dS 0 ([]),dJ 0,dJ 0,dJ 0,dS 0 ([]),dJ 0,dJ 0,dJ 0,dS 0 ([])]=ims awS.ims)∧([dJ 1,dJ 0,dJ 8,dJ 0,dJ 0,dJ 0,dJ 0,dK 255,dJ 4,dJ 1,dQ false,dQ false,dJ 1,dJ 0,dJ 0,dJ 0,dJ 0,dJ 0,dJ 0,dK 255,dJ 6,dJ 1,dQ false,dQ false]=ops awS.ops)∧True))))∧∀ u:Unit,True→True∧(Ans prog 7 [RV.agg [dJ awS.bits,dJ awS.c.a,dJ awS.c.b,dJ awS.c.c,dJ awS.c.d,dJ awS.tw,dJ awS.th,dS awS.ord.length a,dS awS.ims.length c,dS awS.ops.length b]] (RV.tup [RV.d (dS (zQc (⟨awS.bits,awS.c,awS.tw,awS.th,ints a,zQf c,zQd b⟩:Scr)).1.length (rcs (zQc (⟨awS.bits,awS.c,awS.tw,awS.th,ints a,zQf c,zQd b⟩:Scr)).1)),rJ (zQc (⟨awS.bits,awS.c,awS.tw,awS.th,ints a,zQf c,zQd b⟩:Scr)).2]))∧tU8 ((((zQc (⟨awS.bits,awS.c,awS.tw,awS.th,ints a,zQf c,zQd b⟩:Scr)).2==0)=true→tU5 ((((((zQc (⟨awS.bits,awS.c,awS.tw,awS.th,ints a,zQf c,zQd b⟩:Scr)).1.length:Nat):Int)==2)=true→True∧(0≤(0:Int)∧(0:Int) < (((zQc (⟨awS.bits,awS.c,awS.tw,awS.th,ints a,zQf c,zQd b⟩:Scr)).1.length:Nat):Int)∧0 < (rcs (zQc (⟨awS.bits,awS.c,awS.tw,awS.th,ints a,zQf c,zQd b⟩:Scr)).1).length)∧(((rcs (zQc (⟨awS.bits,awS.c,awS.tw,awS.th,ints a,zQf c,zQd b⟩:Scr)).1)[0]?=some (dJ (nAt (rcs (zQc (⟨awS.bits,awS.c,awS.tw,awS.th,ints a,zQf c,zQd b⟩:Scr)).1) 0)))∧((rcs (zQc (⟨awS.bits,awS.c,awS.tw,awS.th,ints a,zQf c,zQd b⟩:Scr)).1)[1]?=some (dJ (nAt (rcs (zQc (⟨awS.bits,awS.c,awS.tw,awS.th,ints a,zQf c,zQd b⟩:Scr)).1) 1)))∧((rcs (zQc (⟨awS.bits,awS.c,awS.tw,awS.th,ints a,zQf c,zQd b⟩:Scr)).1)[2]?=some (dJ (nAt (rcs (zQc (⟨awS.bits,awS.c,awS.tw,awS.th,ints a,zQf c,zQd b⟩:Scr)).1) 2)))∧((rcs (zQc (⟨awS.bits,awS.c,awS.tw,awS.th,ints a,zQf c,zQd b⟩:Scr)).1)[3]?=some (dJ (nAt (rcs (zQc (⟨awS.bits,awS.c,awS.tw,awS.th,ints a,zQf c,zQd b⟩:Scr)).1) 3)))∧True)∧tU4 (((((nAt (rcs (zQc (⟨awS.bits,awS.c,awS.tw,awS.th,ints a,zQf c,zQd b⟩:Scr)).1) 0)==8) && (((nAt (rcs (zQc (⟨awS.bits,awS.c,awS.tw,awS.th,ints a,zQf c,zQd b⟩:Scr)).1) 1)==0) && (((nAt (rcs (zQc (⟨awS.bits,awS.c,awS.tw,awS.th,ints a,zQf c,zQd b⟩:Scr)).1) 2)==9) && (((nAt (rcs (zQc (⟨awS.bits,awS.c,awS.tw,awS.th,ints a,zQf c,zQd b⟩:Scr)).1) 3)==2) && true))))=true→True∧(0≤(1:Int)∧(1:Int) < (((zQc (⟨awS.bits,awS.c,awS.tw,awS.th,ints a,zQf c,zQd b⟩:Scr)).1.length:Nat):Int)∧4 < (rcs (zQc (⟨awS.bits,awS.c,awS.tw,awS.th,ints a,zQf c,zQd b⟩:Scr)).1).length)∧(((rcs (zQc (⟨awS.bits,awS.c,awS.tw,awS.th,ints a,zQf c,zQd b⟩:Scr)).1)[4]?=some (dJ (nAt (rcs (zQc (⟨awS.bits,awS.c,awS.tw,awS.th,ints a,zQf c,zQd b⟩:Scr)).1) 4)))∧((rcs (zQc (⟨awS.bits,awS.c,awS.tw,awS.th,ints a,zQf c,zQd b⟩:Scr)).1)[5]?=some (dJ (nAt (rcs (zQc (⟨awS.bits,awS.c,awS.tw,awS.th,ints a,zQf c,zQd b⟩:Scr)).1) 5)))∧((rcs (zQc (⟨awS.bits,awS.c,awS.tw,awS.th,ints a,zQf c,zQd b⟩:Scr)).1)[6]?=some (dJ (nAt (rcs (zQc (⟨awS.bits,awS.c,awS.tw,awS.th,ints a,zQf c,zQd b⟩:Scr)).1) 6)))∧((rcs (zQc (⟨awS.bits,awS.c,awS.tw,awS.th,ints a,zQf c,zQd b⟩:Scr)).1)[7]?=some (dJ (nAt (rcs (zQc (⟨awS.bits,awS.c,awS.tw,awS.th,ints a,zQf c,zQd b⟩:Scr)).1) 7)))∧True)∧tU5 ((true=true)∧RV.d (dQ (((nAt (rcs (zQc (⟨awS.bits,awS.c,awS.tw,awS.th,ints a,zQf c,zQd b⟩:Scr)).1) 4)==awS.c.a) && (((nAt (rcs (zQc (⟨awS.bits,awS.c,awS.tw,awS.th,ints a,zQf c,zQd b⟩:Scr)).1) 5)==awS.c.b) && (((nAt (rcs (zQc (⟨awS.bits,awS.c,awS.tw,awS.th,ints a,zQf c,zQd b⟩:Scr)).1) 6)==awS.c.c) && (((nAt (rcs (zQc (⟨awS.bits,awS.c,awS.tw,awS.th,ints a,zQf c,zQd b⟩:Scr)).1) 7)==awS.c.d) && true)))))=RV.d (dQ true)))∧((((nAt (rcs (zQc (⟨awS.bits,awS.c,awS.tw,awS.th,ints a,zQf c,zQd b⟩:Scr)).1) 0)==8) && (((nAt (rcs (zQc (⟨awS.bits,awS.c,awS.tw,awS.th,ints a,zQf c,zQd b⟩:Scr)).1) 1)==0) && (((nAt (rcs (zQc (⟨awS.bits,awS.c,awS.tw,awS.th,ints a,zQf c,zQd b⟩:Scr)).1) 2)==9) && (((nAt (rcs (zQc (⟨awS.bits,awS.c,awS.tw,awS.th,ints a,zQf c,zQd b⟩:Scr)).1) 3)==2) && true))))=(!true)→tU2 d)))∧(((((zQc (⟨awS.bits,awS.c,awS.tw,awS.th,ints a,zQf c,zQd b⟩:Scr)).1.length:Nat):Int)==2)=(!true)→tU4 d)))∧(((zQc (⟨awS.bits,awS.c,awS.tw,awS.th,ints a,zQf c,zQd b⟩:Scr)).2==0)=(!true)→tU6 d))):=by kernel_rfl
theorem zHl:Ans prog 8 [] (RV.d (dQ true)):=
 zQa (Γ:=jK1) (zVj ) zQg Tryz.func8 rfl (nL rfl) fun hwf=>by
  refine Eq.mpr (jQq ) ?_
  delta dJ dK dQ dS rJ
  simp only [sS,zQs]
  have eS:(⟨awS.bits,awS.c,awS.tw,awS.th,ints (is awS.ord),zQf (ims awS.ims),zQd (ops awS.ops)⟩:Scr)=awS:=zKn awS
  have a:=zJl awS
  simp only [eS,jYK] at a ⊢
  refine ⟨⟨(),⟨rfl,rfl,rfl,rfl,rfl,rfl,rfl,rfl,rfl,rfl⟩,rfl,rfl,rfl⟩,a,?_⟩
  simp [rcs,Rc.cells,nAt,awS]
def ptB (r:Rc) (x y:Int):Int × Int:=(IntKind.wrap .i64 (r.a+modS x (IntKind.wrap .i64 (r.c - r.a))),IntKind.wrap .i64 (r.b+modS y (IntKind.wrap .i64 (r.d - r.b))))
theorem jXu (m:Int) (ms:List Im) (x y:Int) (l:List Oq):(resR m (runT m ms x y l l.length).2).1=zXY m ms x y l:=by
 rw [zGp l.length (Nat.le_refl _),List.take_length]
 unfold resR zXY
 simp only
 split <;> rfl
theorem jKJ {m:Int} {ms:List Im} {st:List Oq} {o:Oq} {P:List Lv} {t u:Lv} (hi:zKE m ms) (h:StOk m (st++[o]) ((P++[t])++[u])) (h1:isNm o.oper=true) (h2:isNm o.mode=true) (hop:o.oper=4∨ctxB st=true) (x y:Int) :
  jX0 m ((P++[t])++[u]) (zZY ms (topL ((P++[t])++[u])).op x y):=by
 obtain ⟨eo,hs⟩:=h.pre
 have hu:=h.lv u (by simp)
 have ⟨r1,r2⟩:=zWw hu
 have ⟨m1,m2⟩:=zGR hi o x y
 have ⟨o1,o2⟩:=h.opac o (by simp)
 obtain ⟨e,s3,s4⟩:=zKK (o:=o) hi.full r1 r2 m1 m2 o1 o2
 obtain ⟨pb,a,ha,hs2⟩:=zVu hs s3 s4 h1 h2 hop
 have rb:resB m u=true:=hu.ok
 have rl:resL m u=zZG u.acc u.back m:=by unfold resL; rw [if_pos rb]
 unfold jX0
 rw [zZ7,eo,rl,List.dropLast_concat]
 exact fun _=>⟨rb,pb⟩
theorem jYS {s:Scr} (hi:zKE (zQ1 s.bits) s.ims) (hu:∀ m∈s.ims,m.isU) (hl:s.ops.length≤5000) (ho:∀ o∈s.ops,0≤o.opac) (h:okO s.bits s.ims.length s.ops []=some []) (x y:Int):jYT s x y:=by
 refine ⟨hi.full,hu,hl,fun k o hk h3=>?_⟩
 have hlt:k < s.ops.length:=by
  rcases Nat.lt_or_ge k s.ops.length with q | q
  ·exact q
  ·rw [List.getElem?_eq_none q] at hk; cases hk
 rw [List.getElem?_eq_getElem hlt] at hk
 simp only [Option.some.injEq] at hk
 subst hk
 rw [zGp k (by omega)]
 obtain ⟨st,h1,h2⟩:=jZw h k
 obtain ⟨he,_⟩:=zGQ h1 h2 hlt
 obtain ⟨hv,hs⟩:=jXN hi rfl x y (s.ops.take k) [] st [zXF] h1 (fun o hq=>ho o (List.mem_of_mem_take hq)) .nil (jYI hi.full)
 generalize runM (zQ1 s.bits) s.ims x y (s.ops.take k) [zXF]=L at *
 have hlen:=hs.len
 rcases zYP he with q | q | ⟨q,hne⟩
 ·omega
 ·omega
 ·rcases List.eq_nil_or_concat st with rfl | ⟨st',g,rfl⟩
  ·exact absurd rfl hne
  ·rw [List.concat_eq_append] at hv hs
   obtain ⟨q1,q2⟩:=hv st' g [] rfl
   obtain ⟨_,_,_,_,f2,f3,f4,_⟩:=zZS (.inr q1) q2
   obtain ⟨P,u,rfl⟩:=hs.split
   obtain ⟨P',t,rfl⟩:=hs.pre.2.split
   exact ⟨by simp,jKJ hi hs f2 f3 f4 x y⟩
theorem jJ5 {r:Rc} (h : -100≤r.a∧r.c≤100 ∧ -100≤r.b∧r.d≤100∧r.a < r.c∧r.b < r.d) (x y:Int):r.has (ptB r x y).1 (ptB r x y).2=true:=by
 obtain ⟨h1,h2,h3,h4,h5,h6⟩:=h
 unfold ptB
 rw [IntWalk.i64_in (r.c - r.a) ⟨by omega,by omega⟩,IntWalk.i64_in (r.d - r.b) ⟨by omega,by omega⟩]
 have a:=@zQ4 x (r.c - r.a) (by omega) (by omega)
 have b:=@zQ4 y (r.d - r.b) (by omega) (by omega)
 rw [IntWalk.i64_in _ ⟨by omega,by omega⟩,IntWalk.i64_in _ ⟨by omega,by omega⟩]
 have he:r.empty=false:=by rw [Rc.empty_iff]; omega
 simp only [Rc.has,he]
 simp
 omega
def gZ58 (xs:List RV):Option RV:=match xs with | [.agg [.int _ bits,.int _ cx0,.int _ cy0,.int _ cx1,.int _ cy1,.int _ tw,.int _ th,.sl on oxs,.sl mn mxs,.sl pn pxs],.d (.int _ x),.d (.int _ y)]=>let a:=(zXY (zQ1 bits) (zQf mxs) x y (zQd pxs)); some (RV.agg [dK a.a,dK a.b,dK a.c,dK a.al,dK a.f]) | _=>none
def jKY:Gam where
 pure:=fun f xs=>
  if f=9 then gZ0 xs else
  if f=11 then gZ58 xs else
  none
 modes:=fun f=>
  if f=27 then some ([true,true,true],0,3) else
  if f=28 then some ([false],2,1000) else
  none
 proc:=fun f xs bs=>
  if f=27 then (match xs,bs with | [AV.agg [Cl.d (DV.int _ bits),Cl.d (DV.int _ cx0),Cl.d (DV.int _ cy0),Cl.d (DV.int _ cx1),Cl.d (DV.int _ cy1),Cl.d (DV.int _ tw),Cl.d (DV.int _ th),Cl.d (DV.sl on oxs),Cl.d (DV.sl mn mxs),Cl.d (DV.sl pn pxs)],AV.one (Cl.d (DV.int _ x)),AV.one (Cl.d (DV.int _ y))],[]=>some ⟨AV.tup [AV.one (Cl.ref 0 (runT (zQ1 bits) (zQf mxs) x y (zQd pxs) (zQd pxs).length).1.length),AV.one (Cl.ptr 1 0)],[Bx.row 112 18 (mcs (runT (zQ1 bits) (zQf mxs) x y (zQd pxs) (zQd pxs).length).1),bC [cK (zQ1 bits),Cl.ref 2 (runT (zQ1 bits) (zQf mxs) x y (zQd pxs) (zQd pxs).length).2.length],Bx.row 123 23 (lvs (runT (zQ1 bits) (zQf mxs) x y (zQd pxs) (zQd pxs).length).2)],false⟩ | _,_=>none) else
  if f=28 then (match xs,bs with | [AV.one (Cl.ptr 0 0)],[Bx.cells [Cl.d (DV.int _ most),Cl.ref 1 n],Bx.row _ _ xs]=>some ⟨AV.tup [AV.agg [cK (resR most (zQw xs)).1.a,cK (resR most (zQw xs)).1.b,cK (resR most (zQw xs)).1.c,cK (resR most (zQw xs)).1.al,cK (resR most (zQw xs)).1.f],aJ (resR most (zQw xs)).2],[bC [cK most,Cl.ref 1 n],Bx.row 123 23 xs],false⟩ | _,_=>none) else
  none
 iter:=fun f cs=>
  none
theorem jZa (r:Rc) (x y:Int):Ans prog 6 [RV.agg [dJ r.a,dJ r.b,dJ r.c,dJ r.d],rJ (x),rJ (y)] (RV.tup [rJ (((ptB r x y).1)),rJ (((ptB r x y).2))]):=
 zQa (Γ:=jKY) Ann.leaf zQg Tryz.func6 rfl (nL rfl) fun hwf=>by
  refine Eq.mpr (by kernel_rfl:_=(let a:=(wK (r.c - r.a)); let b:=(wK (r.d - r.b)); tU3 (tU8 ((Ans prog 9 [rJ x,rJ a] (rJ (modS x a)))∧True∧tU8 ((Ans prog 9 [rJ y,rJ b] (rJ (modS y b)))∧tU3 ((true=true)∧RV.tup [rJ (wK (r.a+(modS x a))),rJ (wK (r.b+(modS y b)))]=RV.tup [rJ (ptB r x y).1,rJ (ptB r x y).2])))))) ?_
  delta wK rJ
  simp only [sS]
  simp [ptB,zQs]
theorem zYa (s:Scr) (x y:Int) (hr:jYT s x y):Ans prog 11 [RV.agg [dJ s.bits,dJ s.c.a,dJ s.c.b,dJ s.c.c,dJ s.c.d,dJ s.tw,dJ s.th,dS s.ord.length (is s.ord),dS s.ims.length (ims s.ims),dS s.ops.length (ops s.ops)],rJ (x),rJ (y)] (RV.agg [dK ((zXY (zQ1 s.bits) s.ims x y s.ops).a),dK ((zXY (zQ1 s.bits) s.ims x y s.ops).b),dK ((zXY (zQ1 s.bits) s.ims x y s.ops).c),dK ((zXY (zQ1 s.bits) s.ims x y s.ops).al),dK ((zXY (zQ1 s.bits) s.ims x y s.ops).f)]):=
 zQa (Γ:=jKY) Ann.leaf zQg Tryz.func11 rfl (nL rfl) fun hwf=>by
  refine Eq.mpr (by kernel_rfl:_=(let d:=(zQ1 s.bits); let c:=(zXY d s.ims x y s.ops); let b:=(runT d (zQf (ims s.ims)) x y (zQd (ops s.ops)) (zQd (ops s.ops)).length); let e:=(lvs b.2); let a:=(resR d (zQw e)); let f:=(dK d); let g:=[bC [Cl.d f,Cl.ref 1 b.2.length],Bx.row 123 23 e]; let h:=[bC [Cl.d f,Cl.ref 3015 b.2.length],Bx.row 123 23 e]; tU5 ((AnsG prog 27 0 [AV.agg [cJ s.bits,cJ s.c.a,cJ s.c.b,cJ s.c.c,cJ s.c.d,cJ s.tw,cJ s.th,Cl.d (dS s.ord.length (is s.ord)),Cl.d (dS s.ims.length (ims s.ims)),Cl.d (dS s.ops.length (ops s.ops))],aJ x,aJ y] [] ⟨AV.tup [AV.one (Cl.ref 0 b.1.length),AV.one (Cl.ptr 1 0)],[Bx.row 112 18 (mcs b.1),bC [Cl.d f,Cl.ref 2 b.2.length],Bx.row 123 23 e],false⟩)∧tU6 ((AnsG prog 28 2 [aPz] g ⟨AV.tup [AV.agg [cK a.1.a,cK a.1.b,cK a.1.c,cK a.1.al,cK a.1.f],aJ a.2],g,false⟩∧h=h)∧tU8 (RV.agg [dK a.1.a,dK a.1.b,dK a.1.c,dK a.1.al,dK a.1.f]=RV.agg [dK c.a,dK c.b,dK c.c,dK c.al,dK c.f]))))) ?_
  delta dK cJ cK dS aJ aPz bC
  simp only [sS]
  simp only [zXk,zQG,zKI]
  have hT:=zGq (zQ1 s.bits) s.ims x y s.ops s.ops.length
  have V:=jXu (zQ1 s.bits) s.ims x y s.ops
  refine ⟨jQ8 s x y hr,zJn _ _ hT.2.1 (by omega),?_⟩
  rw [← V]
  exact ⟨rfl,rfl,rfl,rfl,rfl⟩
end
def jZb (ms:List Im):Prop:=∀ i∈ms,(0≤i.w∧i.w≤16777216)∧0≤i.h∧i.h≤16777216
theorem jX7 {v:Int} (h:zZA v=true) : -1048576≤v∧v≤1048576:=of_decide_eq_true h
theorem at_out {m:Im} {x y:Int} (h:¬ (0≤x∧x < m.w∧0≤y∧y < m.h)):m.at_ x y=.zero:=by
 unfold Im.at_
 rw [if_neg]
 simp
 omega
theorem zUU {s:Scr} (hd:jZb s.ims) {i dx dy x y:Int} (hi:0≤i∧i < s.ims.length) (n1:zZA dx=true) (n2:zZA dy=true) (hc:s.c.has x y=true) (h:(zQ7 s i dx dy).has x y=false):zJA s.ims i x y dx dy=.zero:=by
 have hk:i.toNat < s.ims.length:=by omega
 have a1:=jX7 n1
 have a2:=jX7 n2
 obtain ⟨⟨w0,w1⟩,h0,h1⟩:=hd s.ims[i.toNat] (List.getElem_mem hk)
 rw [zUV dx dy hi.1 hk,if_neg (by simp [farB]; omega),Rc.inter_has,hc,Bool.and_true] at h
 unfold zJA
 rw [if_pos hi.1,List.getElem?_eq_getElem hk]
 simp only
 unfold zZF
 split
 ·rfl
 ·rename_i hn
  apply at_out
  intro q
  have e:Rc.empty ⟨dx,dy,dx+s.ims[i.toNat].w,dy+s.ims[i.toNat].h⟩=false:=by
   rw [Rc.empty_iff]
   simp only
   omega
  have:Rc.has ⟨dx,dy,dx+s.ims[i.toNat].w,dy+s.ims[i.toNat].h⟩ x y=true:=by
   rw [Rc.has_iff]
   refine ⟨e,?_⟩
   simp only
   omega
  rw [this] at h
  cases h
theorem jJX {s:Scr} (hd:jZb s.ims) {bits:Int} {o:Oq} {st:List Oq} (hk:o.kind=1) (he:errO bits s.ims.length o st=0) {x y:Int} (hc:s.c.has x y=true) (h:(imgR s o).has x y=false):srcS s.ims o x y=.zero:=by
 obtain ⟨f1,_,⟨n1,n2,_⟩,_⟩:=zZS (.inl hk) he
 unfold imgR at h
 rw [if_pos hk] at h
 unfold srcS
 rw [if_pos hk]
 exact zUU hd (f1 hk) n1 n2 hc h
theorem jJc {s:Scr} (hd:jZb s.ims) {bits:Int} {o:Oq} {st:List Oq} (hk:o.kind=1∨o.kind=2) (he:errO bits s.ims.length o st=0) {x y:Int} (hc:s.c.has x y=true) (h:(zY7 s o).has x y=false):o.mask≠0∧zZY s.ims o x y=0:=by
 obtain ⟨_,f2,⟨_,_,n1,n2⟩,_⟩:=zZS hk he
 unfold zY7 at h
 by_cases h0:o.mask=0
 ·rw [if_pos h0,Rc.inter_has,hc] at h
  cases h
 ·refine ⟨h0,?_⟩
  rw [if_neg h0,if_neg (by omega)] at h
  unfold zZY
  split
  ·rw [zUU hd (by omega) n1 n2 hc h]; rfl
  ·rfl
theorem zUD {s:Scr} (hd:jZb s.ims) {m bits:Int} (hi:zKE m s.ims) {o:Oq} {st:List Oq} (hk:o.kind=1∨o.kind=2) (he:errO bits s.ims.length o st=0) (hb:zQ1 bits=m) (h0:0≤o.opac) {x y:Int} (hc:s.c.has x y=true) {src:Rc} (h:(boxF s o src).has x y=false) {p:Px} (hp:p.ok m=true) (hn:p.nn) (hs:zQ8 o.oper=true→src.has x y=false→p=.zero) :
  zQ8 o.oper=true∧(zQe m o p (zZY s.ims o x y)).1=.zero:=by
 have hm:=(zZd hi.full).1
 obtain ⟨_,_,_,f1,_⟩:=zZS hk he
 have ⟨m1,m2⟩:=zGR hi o x y
 obtain ⟨e,_⟩:=zKK (o:=o) hi.full hp hn m1 m2 h0 (by omega)
 rw [e]
 unfold boxF at h
 cases hq:zQ8 o.oper with
 | false=>rw [if_pos hq,hc] at h; cases h
 | true=>
  refine ⟨rfl,?_⟩
  rw [if_neg (by rw [hq]; simp)] at h
  split at h
  ·rename_i hz
   rw [hz]; exact zKL hm
  ·rw [Rc.inter_has] at h
   cases h1:src.has x y with
   | false=>
    have:=hs hq h1
    subst this
    simp only [zUE hm]
   | true=>
    rw [h1,Bool.true_and] at h
    have ⟨a,b⟩:=jJc hd hk he hc h
    rw [if_neg a,b,zKL hm]
    exact zUE hm
theorem jJq {s:Scr} (hd:jZb s.ims) {m bits:Int} (hi:zKE m s.ims) (hb:zQ1 bits=m) {st:List Oq} {P:List Lv} {t:Lv} (h:StOk m st (P++[t])) {o:Oq} (hk:o.kind=1) (h0:0≤o.opac) (he:errO bits s.ims.length o st=0) {x y:Int} (hc:s.c.has x y=true) (ho:(boxF s o (imgR s o)).has x y=false) :
  zYW m s.ims x y (P++[t]) o=P++[t]:=by
 have ⟨p1,p2⟩:=jJE hi o x y
 have ⟨n,e⟩:=zUD hd hi (.inl hk) he hb h0 hc ho p1 p2 (fun _ h=>jJX hd hk he hc h)
 unfold zYW zYR
 rw [if_pos hk]
 split
 ·rw [e]; exact zUX h n
 ·rfl
theorem zHW {x y:Int}:∀ (l:List Rc) (a:Rc),(a.has x y=true∨∃ r∈l,r.has x y=true)→(l.foldl Rc.hull a).has x y=true
 | [],a,h=>by
  rcases h with h | ⟨r,hr,_⟩
  ·exact h
  ·simp at hr
 | b::l,a,h=>by
  refine zHW l (a.hull b) ?_
  rcases h with h | ⟨r,hr,h⟩
  ·exact .inl (Rc.hull_has (.inl h))
  ·rcases List.mem_cons.1 hr with rfl | hr
   ·exact .inl (Rc.hull_has (.inr h))
   ·exact .inr ⟨r,hr,h⟩
theorem jJj {x y:Int} {l:List Rc} (h:(zQQ l).has x y=false):∀ r∈l,r.has x y=false:=fun r hr=>by
 cases e:r.has x y with
 | false=>rfl
 | true=>
  have:(zQQ l).has x y=true:=zHW l _ (.inr ⟨r,hr,e⟩)
  rw [this] at h; cases h
theorem zGo {s:Scr} (hd:jZb s.ims) {m bits:Int} (hi:zKE m s.ims) (hb:zQ1 bits=m) {x y:Int} (hc:s.c.has x y=true):∀ (f:Fo) (st:List Oq) (P:List Lv) (t:Lv),f.vf bits s.ims.length st→(∀ o∈f.flat,0≤o.opac)→StOk m st (P++[t]) →
  (∀ r∈zQR s f,r.has x y=false)→runM m s.ims x y f.flat (P++[t])=P++[t]
 | .nil,st,P,t,_,_,h,_=>rfl
 | .draw o r,st,P,t,hv,ho,h,hx=>by
  rw [Fo.flat,zYh,jJq hd hi hb h hv.1 (ho o (by simp [Fo.flat])) hv.2.1 hc (hx _ (by simp [zQR]))]
  exact zGo hd hi hb hc r st P t hv.2.2 (fun q hq=>ho q (by simp [Fo.flat,hq])) h (fun q hq=>hx q (by simp [zQR,hq]))
 | .grp o k r,st,P,t,hv,ho,h,hx=>by
  obtain ⟨h1,h2,h3,h4⟩:=hv
  obtain ⟨e1,s1⟩:=zWC hb h h1 (ho o (by simp [Fo.flat])) h2 x y (ms:=s.ims)
  obtain ⟨_,_,_,_,f2,f3,f4,_⟩:=zZS (.inr h1) h2
  have hok:∀ q∈k.flat,0≤q.opac:=fun q hq=>ho q (by simp [Fo.flat,hq])
  have hbx:=hx (boxF s o (zQQ (zQR s k))) (by simp [zQR])
  obtain ⟨b,e2,s2⟩:=zKO hi hb x y k (st++[o]) (P++[t]) _ h3 hok s1
  have hu:=s2.lv ⟨o,b,(zQo o.iso t.op.kno t.acc t.back).2⟩ (by simp)
  have ⟨r1,r2⟩:=zWw hu
  have ⟨n,e⟩:=zUD hd hi (.inr h1) h2 hb (ho o (by simp [Fo.flat])) hc hbx r1 r2 (fun _ hh=>by
   have e3:=zGo hd hi hb hc k (st++[o]) (P++[t]) _ h3 hok s1 (jJj hh)
   rw [e2] at e3
   have e4:=List.append_cancel_left e3
   simp only [List.cons.injEq,Lv.mk.injEq,and_true,true_and] at e4
   simp only [e4]
   exact zHx)
  obtain ⟨e3,_⟩:=jXZ hi s2 f2 f3 f4 x y
  rw [Fo.flat,zYh,e1,zJL,e2,zYh,e3]
  simp only at e ⊢
  rw [e,zUX h n]
  exact zGo hd hi hb hc r st P t h4 (fun q hq=>ho q (by simp [Fo.flat,hq])) h (fun q hq=>hx q (by simp [zQR,hq]))
def hit (r b:Rc):Bool:=!(b.inter r).empty
theorem jKs (r:Rw) (push:Bool) (n:Int) (c:Rc) (free:Bool) {most:Int} (h0:0≤most) (h1:most≤65535):0≤(gOp r push n c free most).opac:=by
 unfold gOp
 simp only
 split
 ·have:=zXB (IntKind.wrap .i64 (Int.tdiv r.op 2)) h0 h1
  omega
 ·omega
theorem Scn.run_op0 (s:Scn):∀ k,∀ o∈(s.run k).1,0≤o.opac
 | 0,o,ho=>by cases ho
 | k+1,o,ho=>by
  have hm:0≤s.most∧s.most≤65535:=by rcases s.most_in with h | h <;> rw [h] <;> omega
  have ih:=s.run_op0 k
  have ho:o∈(s.step (rwAt s.rxs (k*11)) (s.run k)).1:=ho
  unfold Scn.step at ho
  split at ho
  ·rcases List.mem_append.1 ho with h | h
   ·exact ih o h
   ·rw [List.mem_singleton] at h
    subst h
    decide
  ·rcases List.mem_append.1 ho with h | h
   ·exact ih o h
   ·rw [List.mem_singleton] at h
    subst h
    exact jKs _ _ _ _ _ hm.1 hm.2
theorem Scn.op0 (s:Scn):∀ o∈s.ops,0≤o.opac:=fun o ho=>by
 rcases List.mem_append.1 (show o∈(s.run (min s.rn 9)).1++List.replicate (s.run (min s.rn 9)).2.length popO from ho) with h | h
 ·exact s.run_op0 _ o h
 ·rw [List.eq_of_mem_replicate h]
  decide
theorem Scn.px_fine (s:Scn):∀ m∈s.ims,m.formed=true∧∀ p∈m.pixels,p.fine s.most:=by
 have CF:=s.c_facts
 have hq:1≤s.c.c - s.c.a∧s.c.c - s.c.a≤100∧1≤s.c.d - s.c.b∧s.c.d - s.c.b≤100:=by have:=s.facts; omega
 have hm:0≤s.most∧s.most≤65535:=by rcases s.most_in with h | h <;> rw [h] <;> omega
 intro m hmem
 refine ⟨(s.fine m hmem).1,?_⟩
 unfold Scn.ims at hmem
 split at hmem
 ·rw [List.mem_singleton] at hmem
  subst hmem
  have F:=s.facts
  have hf:zZK s.gw s.gh=true:=by
   have:=Int.mul_le_mul F.2.2.1.2 F.2.2.2.1.2 (by omega) (by omega)
   simp [zZK]; omega
  intro p hp
  change p∈(zQb s.gw s.gh ⟨s.most,0,0,s.most,s.most⟩).pixels at hp
  rw [Im.pixels_of (zXG _ hf),Im.list,List.mem_map] at hp
  obtain ⟨k,_,rfl⟩:=hp
  have e:(zQb s.gw s.gh ⟨s.most,0,0,s.most,s.most⟩).nth k=⟨s.most,0,0,s.most,s.most⟩:=by simp [Im.nth,Im.px,zQb]
  change ((zQb s.gw s.gh ⟨s.most,0,0,s.most,s.most⟩).nth k).fine s.most
  rw [e]
  exact ⟨by simp [Px.ok]; omega,by simp only; omega,by simp only; omega,by simp only; omega,by simp only; omega⟩
 ·simp only [Scn.pics,List.mem_map] at hmem
  obtain ⟨k,_,rfl⟩:=hmem
  exact fun p hp=>zW7 _ _ _ _ _ _ _ _ _ _ hm.1 hm.2 hq p hp
theorem Im.at_mem {m:Im} (hf:m.formed=true) {x y:Int} (hx:0≤x∧x < m.w) (hy:0≤y∧y < m.h):m.at_ x y∈m.pixels:=by
 have h1:=zXC (Im.formed_of hf).1
 rw [Im.at_in hf hx hy,Im.pixels_of hf,Im.list,List.mem_map]
 have hlt:x.toNat < m.w.toNat:=by omega
 refine ⟨y.toNat*m.w.toNat+x.toNat,?_,?_⟩
 ·rw [List.mem_range]
  have:(y.toNat+1)*m.w.toNat≤m.h.toNat*m.w.toNat:=Nat.mul_le_mul_right _ (by omega)
  rw [Nat.mul_comm m.w.toNat]
  rw [Nat.add_mul] at this
  omega
 ·have e1:(y.toNat*m.w.toNat+x.toNat) % m.w.toNat=x.toNat:=by
   rw [Nat.mul_comm,Nat.mul_add_mod,Nat.mod_eq_of_lt hlt]
  have e2:(y.toNat*m.w.toNat+x.toNat) / m.w.toNat=y.toNat:=by
   rw [Nat.mul_comm,Nat.mul_add_div (by omega),Nat.div_eq_of_lt hlt,Nat.add_zero]
  unfold Im.nth
  rw [e1,e2,Int.toNat_of_nonneg hx.1,Int.toNat_of_nonneg hy.1]
theorem Scn.full (s:Scn):zZj s.most=true:=by
 rcases s.most_in with h | h <;> rw [h] <;> rfl
theorem Scn.ims_ok (s:Scn):zKE s.most s.ims:=by
 refine ⟨s.full,fun m hm x y=>?_⟩
 obtain ⟨hf,hp⟩:=s.px_fine m hm
 by_cases h:0≤x∧x < m.w∧0≤y∧y < m.h
 ·have:=hp _ (Im.at_mem hf ⟨h.1,h.2.1⟩ ⟨h.2.2.1,h.2.2.2⟩)
  exact ⟨this.1,this.2.1,this.2.2.1,this.2.2.2.1⟩
 ·rw [at_out h]
  exact zKl (by have:=(zZd s.full).1; omega)
theorem Scn.dim_ok (s:Scn):jZb s.ims:=fun m hm=>by
 obtain ⟨hf,⟨h1,h2⟩,_⟩:=s.fine m hm
 have:=zXC (Im.formed_of hf).1
 omega
theorem Scn.bits_most (s:Scn):zQ1 s.bits=s.most:=s.bits_max.1
theorem Scn.forest (s:Scn):∃ w:Fo,w.vf s.bits s.ims.length []∧s.ops=w.flat:=by
 obtain ⟨w,hw,e⟩:=jZI s.ops_ok
 have h:=s.ops_ok
 rw [e] at h
 exact ⟨w,(jZv w [] [] hw h).1,e⟩
def Fo.app:Fo→Fo→Fo
 | .nil,g=>g
 | .draw o r,g=>.draw o (r.app g)
 | .grp o k r,g=>.grp o k (r.app g)
theorem zZD:∀ f g:Fo,(f.app g).flat=f.flat++g.flat
 | .nil,g=>rfl
 | .draw o r,g=>by simp [Fo.app,Fo.flat,zZD r g]
 | .grp o k r,g=>by simp [Fo.app,Fo.flat,zZD r g]
theorem zXL:∀ f g:Fo,(f.app g).size=f.size+g.size
 | .nil,g=>by simp [Fo.app,Fo.size]
 | .draw o r,g=>by simp [Fo.app,Fo.size,zXL r g]; omega
 | .grp o k r,g=>by simp [Fo.app,Fo.size,zXL r g]; omega
theorem zVR {bits:Int} {mn:Nat} {st:List Oq}:∀ f g:Fo,(f.app g).vf bits mn st↔f.vf bits mn st∧g.vf bits mn st
 | .nil,g=>by simp [Fo.app,Fo.vf]
 | .draw o r,g=>by simp [Fo.app,Fo.vf,zVR r g,and_assoc]
 | .grp o k r,g=>by simp [Fo.app,Fo.vf,zVR r g,and_assoc]
theorem zHb (s:Scr):∀ (f g:Fo) (n:Nat),boxL s n (f.app g)=boxL s n f++boxL s (n+f.size) g
 | .nil,g,n=>by simp [Fo.app,Fo.size,boxL]
 | .draw o r,g,n=>by
  rw [Fo.app,zVd,zVd,zHb s r g]
  simp only [Fo.size,List.cons_append]
  rw [show n+1+r.size=n+(r.size+1) by omega]
 | .grp o k r,g,n=>by
  rw [Fo.app,zWd,zWd,zHb s r g]
  simp only [Fo.size,List.cons_append,List.append_assoc]
  rw [show n+k.size+2+r.size=n+(k.size+r.size+2) by omega]
theorem zUk:∀ f g h:Fo,(f.app g).app h=f.app (g.app h)
 | .nil,g,h=>rfl
 | .draw o r,g,h=>by simp [Fo.app,zUk r g h]
 | .grp o k r,g,h=>by simp [Fo.app,zUk r g h]
def Fo.one:Fo→Fo × Fo
 | .nil=>(.nil,.nil)
 | .draw o r=>(.draw o .nil,r)
 | .grp o k r=>(.grp o k .nil,r)
theorem zVx:∀ f:Fo,f.one.1.app f.one.2=f
 | .nil=>rfl
 | .draw o r=>rfl
 | .grp o k r=>rfl
theorem Scn.outside (s:Scn) {A E B:Fo} (hv:(A.app (E.app B)).vf s.bits s.ims.length []) (he:s.ops=(A.app (E.app B)).flat) {x y:Int} (hc:s.c.has x y=true) (hb:∀ r∈zQR s.scr E,r.has x y=false) :
  zXY s.most s.ims x y (A.flat++B.flat)=zXY s.most s.ims x y s.ops:=by
 rw [zVR,zVR] at hv
 obtain ⟨v1,v2,v3⟩:=hv
 have hop:∀ o∈s.ops,0≤o.opac:=s.op0
 rw [he,zZD,zZD] at hop
 obtain ⟨a,e1,h1⟩:=zKO s.ims_ok s.bits_most x y A [] [] zXF v1 (fun o ho=>hop o (by simp [ho])) (jYI s.full)
 have e2:=zGo (s:=s.scr) s.dim_ok s.ims_ok s.bits_most hc E [] [] _ v2 (fun o ho=>hop o (by simp [ho])) h1 hb
 have key:runM s.most s.ims x y (A.flat++B.flat) [zXF]=runM s.most s.ims x y s.ops [zXF]:=by
  rw [he,zZD,zZD,zJL,zJL,zJL]
  rw [List.nil_append] at e1
  rw [e1]
  change _=runM s.most s.ims x y B.flat (runM s.most s.scr.ims x y E.flat ([]++[_]))
  rw [e2]
 unfold zXY
 rw [key]
def jKU (s:Scr) (r:Rc) (n:Nat):Nat→List Oq
 | 0=>[]
 | k+1=>jKU s r n k++(if jVk s r (n+k) then [opAt s (n+k)] else [])
def Scn.left (s:Scn) (r:Rc):List Oq:=jKU s.scr r 0 s.ops.length
def dlt (o:Oq):Int:=if o.kind=2 then 1 else if o.kind=3 then -1 else 0
def lev:List Oq→Int
 | []=>0
 | o::r=>dlt o+lev r
theorem zWU:∀ a b:List Oq,lev (a++b)=lev a+lev b
 | [],b=>by simp [lev]
 | o::r,b=>by simp [lev,zWU r b]; omega
theorem jJI:∀ l:List Oq,-(l.length:Int)≤lev l∧lev l≤l.length
 | []=>by simp [lev]
 | o::r=>by
  have:=jJI r
  simp only [lev,List.length_cons,dlt]
  split
  ·omega
  ·split <;> omega
theorem jZC:∀ f:Fo,f.ok→lev f.flat=0∧∀ j,0≤lev (f.flat.take j)
 | .nil,_=>⟨rfl,fun j=>by simp [Fo.flat,lev]⟩
 | .draw o r,h=>by
  have ⟨a,b⟩:=jZC r h.2
  have d:dlt o=0:=by unfold dlt; rw [if_neg (by have:=h.1; omega),if_neg (by have:=h.1; omega)]
  refine ⟨by simp [Fo.flat,lev,a,d],fun j=>?_⟩
  cases j with
  | zero=>simp [lev]
  | succ j=>simp only [Fo.flat,List.take_succ_cons,lev,d]; have:=b j; omega
 | .grp o k r,h=>by
  have ⟨a,b⟩:=jZC r h.2.2
  have ⟨c,d⟩:=jZC k h.2.1
  have d1:dlt o=1:=by unfold dlt; rw [if_pos h.1]
  have d2:dlt popO = -1:=rfl
  refine ⟨by simp [Fo.flat,lev,zWU,a,c,d1,d2],fun j=>?_⟩
  cases j with
  | zero=>simp [lev]
  | succ j=>
   simp only [Fo.flat,List.take_succ_cons,lev,d1]
   rw [List.take_append,zWU]
   have e1:=d j
   rcases Nat.lt_or_ge k.flat.length j with hl | hl
   ·obtain ⟨i,hi⟩:∃ i,j - k.flat.length=i+1:=⟨j - k.flat.length - 1,by omega⟩
    rw [hi,List.take_succ_cons,lev,d2]
    have:=b i
    have e3:k.flat.take j=k.flat:=List.take_of_length_le (by omega)
    rw [e3,c]
    omega
   ·rw [show j - k.flat.length=0 by omega,List.take_zero]
    simp only [lev]
    omega
theorem jKg {f:Fo} (h:f.ok) (hn:f≠.nil) {j:Nat} (hj:j < f.one.1.size):lev (f.one.1.flat.take (j+1))=0↔j+1=f.one.1.size:=by
 cases f with
 | nil=>exact absurd rfl hn
 | draw o r=>
  have d:dlt o=0:=by unfold dlt; rw [if_neg (by have:=h.1; omega),if_neg (by have:=h.1; omega)]
  have:j=0:=by simpa [Fo.one,Fo.size] using hj
  subst this
  simp [Fo.one,Fo.size,Fo.flat,lev,d]
 | grp o k r=>
  have ⟨c,d⟩:=jZC k h.2.1
  have d1:dlt o=1:=by unfold dlt; rw [if_pos h.1]
  have d2:dlt popO = -1:=rfl
  have hj:j < k.size+2:=by simpa [Fo.one,Fo.size] using hj
  have kl:=k.flat_len
  simp only [Fo.one,Fo.size,Fo.flat,List.take_succ_cons,lev,d1]
  rw [List.take_append,zWU]
  rcases Nat.lt_or_ge k.flat.length j with hl | hl
  ·have:j=k.size+1:=by omega
   rw [List.take_of_length_le (by omega),c,show j - k.flat.length=1 by omega]
   simp [lev,d2]
   omega
  ·rw [show j - k.flat.length=0 by omega,List.take_zero]
   have:=d j
   simp only [lev]
   omega
def zZ9 (s:Scr):Fo→Rc
 | .nil=>.zero
 | .draw o r=>boxF s o (imgR s o)
 | .grp o k r=>boxF s o (zQQ (zQR s k))
theorem jKA (s:Scr) (f:Fo) (hn:f≠.nil):zQR s f.one.1=[zZ9 s f]:=by
 cases f with
 | nil=>exact absurd rfl hn
 | draw o r=>rfl
 | grp o k r=>rfl
theorem jJt (s:Scr) (f:Fo) (n:Nat) (hn:f≠.nil):(boxL s n f)[0]?=some (zZ9 s f):=by
 cases f with
 | nil=>exact absurd rfl hn
 | draw o r=>rw [zVd]; rfl
 | grp o k r=>rw [zWd]; rfl
abbrev OutZ:=Fo × Fo × Nat
structure zXv (s:Scn) (z:OutZ):Prop where
  vf:(z.1.app z.2.1).vf s.bits s.ims.length []
  ops:s.ops=(z.1.app z.2.1).flat
theorem zXv.box {s:Scn} {z:OutZ} (h:zXv s z) (hn:z.2.1≠.nil):(zQc s.scr).1[z.1.size]?=some (zZ9 s.scr z.2.1):=by
 have hr:s.scr.run.1=0:=by rw [s.scr_run]
 have e:=jZM (s:=s.scr) (zUA _ [] h.vf).1 h.ops
 unfold zQc
 rw [if_pos hr,e,zHb,List.getElem?_append_right (by rw [zZ6]; exact Nat.le_refl _),zZ6,Nat.sub_self]
 exact jJt _ _ _ hn
theorem zXv.len {s:Scn} {z:OutZ} (h:zXv s z):s.ops.length=z.1.size+z.2.1.size:=by
 rw [h.ops,Fo.flat_len,zXL]
theorem zXv.rest {s:Scn} {z:OutZ} (h:zXv s z):s.ops.drop z.1.size=z.2.1.flat:=by
 rw [h.ops,zZD,← z.1.flat_len]; simp
theorem zXv.next {s:Scn} {A F:Fo} {n m:Nat} (h:zXv s (A,F,n)):zXv s (A.app F.one.1,F.one.2,m):=by
 have e:(A.app F.one.1).app F.one.2=A.app F:=by rw [zUk,zVx]
 exact ⟨by simpa only [e] using h.vf,by simpa only [e] using h.ops⟩
theorem zXv.start (s:Scn) (n:Nat):∃ w:Fo,zXv s (.nil,w,n):=by
 obtain ⟨w,h1,h2⟩:=s.forest
 exact ⟨w,h1,h2⟩
theorem zXv.ok {s:Scn} {z:OutZ} (h:zXv s z):z.2.1.ok:=(zUA _ [] ((zVR _ _).1 h.vf).2).1
theorem zXv.op {s:Scn} {z:OutZ} (h:zXv s z) {j:Nat} (hj:j < z.2.1.one.1.size) (hl:z.1.size+j < s.ops.length):s.ops[z.1.size+j]=z.2.1.one.1.flat[j]'(by rw [Fo.flat_len]; exact hj):=by
 have hj2:j < z.2.1.one.1.flat.length:=by rw [Fo.flat_len]; exact hj
 have e2:s.ops[z.1.size+j]?=some (z.2.1.one.1.flat[j]):=by
  rw [h.ops,zZD,List.getElem?_append_right (by rw [Fo.flat_len]; omega),Fo.flat_len,Nat.add_sub_cancel_left]
  have e:z.2.1.flat=z.2.1.one.1.flat++z.2.1.one.2.flat:=by rw [← zZD,zVx]
  rw [e,List.getElem?_append_left hj2,List.getElem?_eq_getElem hj2]
 rw [List.getElem?_eq_getElem hl] at e2
 exact Option.some.inj e2
theorem zGS {l:List Oq} {j:Nat} (h:j < l.length):lev (l.take (j+1))=lev (l.take j)+dlt l[j]:=by
 rw [List.take_add_one,List.getElem?_eq_getElem h,zWU]
 simp [lev]
theorem zXv.value {s:Scn} {z:OutZ} (h:zXv s z) (hn:z.2.1≠.nil) {x y:Int} (hc:s.c.has x y=true) (hb:(zZ9 s.scr z.2.1).has x y=false) :
  zXY s.most s.ims x y (s.ops.take z.1.size++s.ops.drop (z.1.size+z.2.1.one.1.size))=zXY s.most s.ims x y s.ops:=by
 have e:z.2.1=z.2.1.one.1.app z.2.1.one.2:=(zVx _).symm
 have hv:=h.vf
 have ho:=h.ops
 rw [e] at hv ho
 have:=s.outside hv ho hc (fun r hr=>by
  rw [jKA _ _ hn,List.mem_singleton] at hr
  rw [hr]; exact hb)
 rw [← this]
 congr 1
 have l1:=z.1.flat_len
 have l2:=z.2.1.one.1.flat_len
 rw [ho,zZD,zZD,← l1,← l2]
 simp [List.drop_append]
def Scn.withOps (s:Scn) (l:List Oq):Scr:=⟨s.bits,s.c,s.gtw,s.gth,s.ord,s.ims,l⟩
theorem Scn.with_run (s:Scn) (hu:∀ m∈s.ims,m.isU) {l:List Oq} (hl:l.length≤4096) (ho:∀ o∈l,0≤o.opac) (h:okO s.bits s.ims.length l []=some []) (x y:Int):jYT (s.withOps l) x y:=by
 refine jYS (s:=s.withOps l) ?_ hu (by show l.length≤5000; omega) ho h x y
 show zKE (zQ1 s.bits) s.ims
 rw [s.bits_most]
 exact s.ims_ok
section
attribute [local irreducible] Ans AnsO AnsG AnsN AnsI
def cutO (l:List Oq) (i k:Int):List Oq:=l.take i.toNat++l.drop (k+1).toNat
theorem zXv.cut {s:Scn} {z:OutZ} (h:zXv s z):s.ops.take z.1.size++s.ops.drop (z.1.size+z.2.1.one.1.size)=(z.1.app z.2.1.one.2).flat:=by
 have e:z.2.1.flat=z.2.1.one.1.flat++z.2.1.one.2.flat:=by rw [← zZD,zVx]
 rw [h.ops,zZD,zZD,e]
 rw [List.take_left' (z.1.flat_len),← List.append_assoc,List.drop_left' (by rw [List.length_append,z.1.flat_len,Fo.flat_len])]
theorem zXv.cut_ok {s:Scn} {z:OutZ} (h:zXv s z):okO s.bits s.ims.length (s.ops.take z.1.size++s.ops.drop (z.1.size+z.2.1.one.1.size)) []=some []:=by
 have h1:=(zVR _ _).1 h.vf
 have h2:=h1.2
 rw [show z.2.1=z.2.1.one.1.app z.2.1.one.2 from (zVx _).symm] at h2
 have h3:=((zVR _ _).1 h2).2
 rw [h.cut]
 exact (zUA _ [] ((zVR _ _).2 ⟨h1.1,h3⟩)).2
theorem zXW (l:List Oq) (a b:Nat):cutO l a b=l.take a++l.drop (b+1):=by
 unfold cutO
 rw [Int.toNat_natCast,show ((b:Int)+1).toNat=b+1 by omega]
theorem jQP {f:Fo} (h:f≠.nil):0 < f.one.1.size:=by
 cases f with
 | nil=>exact absurd rfl h
 | draw o r=>simp [Fo.one,Fo.size]
 | grp o k r=>simp [Fo.one,Fo.size]
theorem jKM {l:List Oq} {n:Nat} (h:n≤l.length):List.take (n*12) (ops l)=ops (l.take n):=by
 conv=>lhs; rw [← List.take_append_drop n l,zZP]
 exact List.take_left' (by rw [zQC,List.length_take]; omega)
theorem jKN {l:List Oq} {n:Nat} (h:n≤l.length):List.drop (n*12) (ops l)=ops (l.drop n):=by
 conv=>lhs; rw [← List.take_append_drop n l,zZP]
 exact List.drop_left' (by rw [zQC,List.length_take]; omega)
def jVd:Gam where
 pure:=fun f xs=>
  none
 modes:=fun f=>
  none
 proc:=fun f xs bs=>
  none
 iter:=fun f cs=>
  none
theorem zUo (s:Scr) (i k:Int) (h0:0≤i∧i≤k∧k < s.ops.length) (hl:s.ops.length≤5000):Ans prog 12 [RV.agg [dJ s.bits,dJ s.c.a,dJ s.c.b,dJ s.c.c,dJ s.c.d,dJ s.tw,dJ s.th,dS s.ord.length (is s.ord),dS s.ims.length (ims s.ims),dS s.ops.length (ops s.ops)],rJ (i),rJ (k)] (RV.agg [dJ s.bits,dJ s.c.a,dJ s.c.b,dJ s.c.c,dJ s.c.d,dJ s.tw,dJ s.th,dS s.ord.length (is s.ord),dS s.ims.length (ims s.ims),dS ((cutO s.ops i k).length) (ops (cutO s.ops i k))]):=
 zQa (Γ:=jVd) Ann.leaf zQg Tryz.func12 rfl (nL rfl) fun hwf=>by
  refine Eq.mpr (by kernel_rfl:_=(let a:=(s.ops.length:Int); let b:=(a - wK (k+1)); let d:=(List.take (b.toNat*12) (List.drop ((wK (k+1)).toNat*12) (ops s.ops))); let c:=(List.take ((i - 0).toNat*12) (List.drop ((0:Int).toNat*12) (ops s.ops))); tU5 ((0≤(0:Int)∧(0:Int)≤i∧i≤a)∧(zZe 12 88 0 (i - 0).toNat ([]) c)∧tU4 ((0≤wK (k+1)∧wK (k+1)≤a∧a≤a)∧(zZe 12 88 (i - 0).toNat b.toNat c d)∧tU2 ((true=true)∧tU2 (RV.agg [dJ s.bits,dJ s.c.a,dJ s.c.b,dJ s.c.c,dJ s.c.d,dJ s.tw,dJ s.th,dS s.ord.length (is s.ord),dS s.ims.length (ims s.ims),dS ((i - 0).toNat+b.toNat) (c++d)]=RV.agg [dJ s.bits,dJ s.c.a,dJ s.c.b,dJ s.c.c,dJ s.c.d,dJ s.tw,dJ s.th,dS s.ord.length (is s.ord),dS s.ims.length (ims s.ims),dS (cutO s.ops i k).length (ops (cutO s.ops i k))])))))) ?_
  delta dJ wK dS
  simp only [sS]
  clear hwf
  have w:IntKind.wrap .i64 (k+1)=k+1:=IntWalk.i64_in _ ⟨by omega,by omega⟩
  have e1:List.take ((i - 0).toNat*12) (List.drop (Int.toNat 0*12) (ops s.ops))=ops (s.ops.take i.toNat):=by
   rw [show (i - 0).toNat=i.toNat by omega,show Int.toNat 0*12=0 from rfl,List.drop_zero,jKM (by omega)]
  have e2:List.take (((s.ops.length:Int) - (k+1)).toNat*12) (List.drop ((k+1).toNat*12) (ops s.ops))=ops (s.ops.drop (k+1).toNat):=by
   rw [jKN (by omega)]
   exact List.take_of_length_le (by rw [zQC,List.length_drop]; omega)
  simp only [w,e1,e2]
  refine ⟨⟨by omega,by omega,by omega⟩,⟨rfl,?_,by unfold maxLen; omega,by omega⟩,⟨by omega,by omega,by omega⟩,⟨?_,?_,by unfold maxLen; omega,by omega⟩,?_,?_⟩
  ·rw [zQC,List.length_take]; omega
  ·rw [zQC,List.length_take]; omega
  ·rw [zQC,List.length_drop]; omega
  ·unfold cutO; rw [List.length_append,List.length_take,List.length_drop]; omega
  ·unfold cutO; rw [zZP]
end
def zZM (P:Program) (ls:List TypeId) (n:Nat) (xs:List DV):Prop:=
 xs.length=n*ls.length∧∀ (j:Nat) d,xs[j]?=some d→∃ t',ls[j % ls.length]?=some t'∧∃ q,zXe P q t' d
theorem zZM.at_ {P:Program} {ls:List TypeId} {n:Nat} {xs:List DV} (h:zZM P ls n xs) {k r:Nat} {t:TypeId} (hk:k < n) (hr:ls[r]?=some t):∃ d q,xs[k*ls.length+r]?=some d∧zXe P q t d:=by
 obtain ⟨hn,hx⟩:=h
 have hr':r < ls.length:=(List.getElem?_eq_some_iff.1 hr).1
 have hle:(k+1)*ls.length≤n*ls.length:=Nat.mul_le_mul_right _ (by omega)
 rw [Nat.add_mul] at hle
 have hj:k*ls.length+r < xs.length:=by omega
 obtain ⟨t',a,q,b⟩:=hx _ _ (List.getElem?_eq_getElem hj)
 rw [Nat.mul_comm k,Nat.mul_add_mod,Nat.mod_eq_of_lt hr',hr] at a
 injection a with a
 subst a
 exact ⟨_,q,List.getElem?_eq_getElem hj,b⟩
theorem zZM.int {P:Program} {ls:List TypeId} {n:Nat} {xs:List DV} (h:zZM P ls n xs) {k r:Nat} {t:TypeId} {kk:IntKind} (hk:k < n) (hr:ls[r]?=some t) (hu:P.underlying t=some (.int kk)):xs[k*ls.length+r]?=some (.int kk (nAt xs (k*ls.length+r))):=by
 obtain ⟨d,q,e,b⟩:=h.at_ hk hr
 obtain ⟨v,rfl⟩:=b.int hu
 simp only [nAt,e]
theorem zZM.bool {P:Program} {ls:List TypeId} {n:Nat} {xs:List DV} (h:zZM P ls n xs) {k r:Nat} {t:TypeId} (hk:k < n) (hr:ls[r]?=some t) (hu:P.underlying t=some .bool):xs[k*ls.length+r]?=some (.bool (bAt xs (k*ls.length+r))):=by
 obtain ⟨d,q,e,b⟩:=h.at_ hk hr
 obtain ⟨v,rfl⟩:=b.bool hu
 simp only [bAt,e]
theorem zZM.sl {P:Program} {ls:List TypeId} {n:Nat} {xs:List DV} (h:zZM P ls n xs) {k r:Nat} {t e:TypeId} {ms:List TypeId} (hk:k < n) (hr:ls[r]?=some t) (hu:P.underlying t=some (.slice e)) (hl:lv P e=some ms) :
  xs[k*ls.length+r]?=some (.sl (lAt xs (k*ls.length+r)) (cAt xs (k*ls.length+r)))∧zZM P ms (lAt xs (k*ls.length+r)) (cAt xs (k*ls.length+r)):=by
 obtain ⟨d,q,e1,b⟩:=h.at_ hk hr
 obtain ⟨m,ys,rfl,_,h1,h2⟩:=b.slice hu hl
 simp only [lAt,cAt,e1]
 exact ⟨trivial,h1,h2⟩
theorem zZM.ints {P:Program} {t:TypeId} {n:Nat} {xs:List DV} (h:zZM P [t] n xs) (hu:P.underlying t=some (.int .i64)):xs=is (ints xs)∧n=xs.length:=
 jJM (by have:=h.1; simpa using this) fun j d hj=>by obtain ⟨t',a,q,b⟩:=h.2 j d hj; exact jZE hu a b
theorem zZM.five {P:Program} {t:TypeId} {n:Nat} {xs:List DV} (h:zZM P [t,t,t,t,t] n xs) (hu:P.underlying t=some (.int .i64)):Is5 n xs:=
 jKW h.1 fun j d hj=>by obtain ⟨t',a,q,b⟩:=h.2 j d hj; exact jJf hu a b
theorem zZM.pics {P:Program} {t ts e:TypeId} {n:Nat} {xs:List DV} (h:zZM P [t,t,t,t,ts] n xs) (hu:P.underlying t=some (.int .i64)) (hs:P.underlying ts=some (.slice e)) (hl:lv P e=some [t,t,t,t,t]):jJP n xs:=
 ⟨h.1,fun k hk=>⟨h.int (r:=0) hk rfl hu,h.int (r:=1) hk rfl hu,h.int (r:=2) hk rfl hu,h.int (r:=3) hk rfl hu,(h.sl (r:=4) hk rfl hs hl).1,(h.sl (r:=4) hk rfl hs hl).2.five hu⟩⟩
theorem zZM.raws {P:Program} {t:TypeId} {n:Nat} {xs:List DV} (h:zZM P [t,t,t,t,t,t,t,t,t,t,t] n xs) (hu:P.underlying t=some (.int .i64)):jK5 n xs:=by
 refine ⟨h.1,fun i hi=>?_⟩
 have hr:[t,t,t,t,t,t,t,t,t,t,t][i % 11]?=some t:=by
  have h2:i % 11 < 11:=Nat.mod_lt _ (by omega)
  generalize i % 11=r at *
  match r,h2 with
  | 0,_ | 1,_ | 2,_ | 3,_ | 4,_ | 5,_ | 6,_ | 7,_ | 8,_ | 9,_ | 10,_=>rfl
 have:=h.int (k:=i / 11) (r:=i % 11) (by omega) hr hu
 have e:i / 11*[t,t,t,t,t,t,t,t,t,t,t].length+i % 11=i:=by show i / 11*11+i % 11=i; omega
 rw [e] at this
 exact this
theorem jYE {xs ys:List DV} {n m:Nat} (hx:xs.length=n*m) (hy:ys.length=n*m) (h:∀ k,k < n→∀ j,j < m→xs[k*m+j]?=ys[k*m+j]?):xs=ys:=by
 refine List.ext_getElem? fun i=>?_
 by_cases hi:i < n*m
 ·have hm:0 < m:=by
   rcases Nat.eq_zero_or_pos m with h0 | h0
   ·subst h0; simp at hi
   ·exact h0
  have:=h (i / m) (Nat.div_lt_of_lt_mul (by rw [Nat.mul_comm]; exact hi)) (i % m) (Nat.mod_lt _ hm)
  have e:i / m*m+i % m=i:=by rw [Nat.mul_comm]; exact Nat.div_add_mod i m
  rw [e] at this
  exact this
 ·rw [List.getElem?_eq_none (by omega),List.getElem?_eq_none (by omega)]
theorem zZM.ops {P:Program} {t u b:TypeId} {n:Nat} {xs:List DV} (h:zZM P [t,t,t,t,t,t,t,u,t,t,b,b] n xs) (ht:P.underlying t=some (.int .i64)) (hu:P.underlying u=some (.int .u16)) (hb:P.underlying b=some .bool):jK6 n xs:=by
 have hl:xs.length=n*12:=h.1
 have hn:(zQd xs).length=n:=by unfold zQd; rw [List.length_map,List.length_range,hl]; omega
 refine ⟨jYE hl (by rw [zQC,hn]) fun k hk j hj=>?_,hn.symm⟩
 have e:(zQd xs)[k]'(by omega)=oqAt xs (k*12):=by simp [zQd]
 rw [zGE (by omega) j hj,e]
 have key:=fun r (hr:r < 12)=>h.at_ (k:=k) (r:=r) (t:=[t,t,t,t,t,t,t,u,t,t,b,b][r]) hk (List.getElem?_eq_getElem hr)
 match j,hj with
 | 0,_=>exact h.int (r:=0) hk rfl ht
 | 1,_=>exact h.int (r:=1) hk rfl ht
 | 2,_=>exact h.int (r:=2) hk rfl ht
 | 3,_=>exact h.int (r:=3) hk rfl ht
 | 4,_=>exact h.int (r:=4) hk rfl ht
 | 5,_=>exact h.int (r:=5) hk rfl ht
 | 6,_=>exact h.int (r:=6) hk rfl ht
 | 7,_=>exact h.int (r:=7) hk rfl hu
 | 8,_=>exact h.int (r:=8) hk rfl ht
 | 9,_=>exact h.int (r:=9) hk rfl ht
 | 10,_=>exact h.bool (r:=10) hk rfl hb
 | 11,_=>exact h.bool (r:=11) hk rfl hb
def IsBs (n:Nat) (xs:List DV):Prop:=xs.length=n∧∀ i,i < n→xs[i]?=some (.bool (bAt xs i))
theorem zZM.bools {P:Program} {b:TypeId} {n:Nat} {xs:List DV} (h:zZM P [b] n xs) (hb:P.underlying b=some .bool):IsBs n xs:=
 ⟨by have:=h.1; simpa using this,fun i hi=>by
  have:=h.bool (k:=i) (r:=0) hi rfl hb
  simpa using this⟩
section
attribute [local irreducible] Ans AnsO AnsG AnsN AnsI
def zXU:Gam where
 pure:=fun f xs=>
  if f=6 then (match xs with | [.agg [.int _ ra,.int _ rb,.int _ rc_,.int _ rd],.d (.int _ x),.d (.int _ y)]=>some (RV.tup [rJ (ptB ⟨ra,rb,rc_,rd⟩ x y).1,rJ (ptB ⟨ra,rb,rc_,rd⟩ x y).2]) | _=>none) else
  if f=7 then gZ57 xs else
  if f=8 then (match xs with | []=>some (RV.d (dQ true)) | _=>none) else
  if f=9 then gZ0 xs else
  if f=10 then gZ6 xs else
  if f=11 then gZ58 xs else
  if f=12 then (match xs with | [.agg [.int _ bits,.int _ cx0,.int _ cy0,.int _ cx1,.int _ cy1,.int _ tw,.int _ th,.sl on oxs,.sl mn mxs,.sl pn pxs],.d (.int _ i),.d (.int _ k)]=>some (RV.agg [dJ bits,dJ cx0,dJ cy0,dJ cx1,dJ cy1,dJ tw,dJ th,dS on oxs,dS mn mxs,dS (cutO (zQd pxs) i k).length (ops (cutO (zQd pxs) i k))]) | _=>none) else
  if f=11 then gZ58 xs else
  none
 modes:=fun f=>
  if f=5 then some ([true],0,3) else
  none
 proc:=fun f xs bs=>
  if f=5 then (match xs,bs with | [AV.agg [Cl.d (DV.int _ sb),Cl.d (DV.int _ sx),Cl.d (DV.int _ sy),Cl.d (DV.int _ sw),Cl.d (DV.int _ sh),Cl.d (DV.int _ stw),Cl.d (DV.int _ sth),Cl.d (DV.sl son soxs),Cl.d (DV.sl spn spxs),Cl.d (DV.sl srn srxs)]],[]=>some ⟨AV.agg [cJ (⟨sb,sx,sy,sw,sh,stw,sth,son,soxs,spn,spxs,srn,srxs⟩:Scn).bits,cJ (⟨sb,sx,sy,sw,sh,stw,sth,son,soxs,spn,spxs,srn,srxs⟩:Scn).c.a,cJ (⟨sb,sx,sy,sw,sh,stw,sth,son,soxs,spn,spxs,srn,srxs⟩:Scn).c.b,cJ (⟨sb,sx,sy,sw,sh,stw,sth,son,soxs,spn,spxs,srn,srxs⟩:Scn).c.c,cJ (⟨sb,sx,sy,sw,sh,stw,sth,son,soxs,spn,spxs,srn,srxs⟩:Scn).c.d,cJ (⟨sb,sx,sy,sw,sh,stw,sth,son,soxs,spn,spxs,srn,srxs⟩:Scn).gtw,cJ (⟨sb,sx,sy,sw,sh,stw,sth,son,soxs,spn,spxs,srn,srxs⟩:Scn).gth,Cl.ref 0 (⟨sb,sx,sy,sw,sh,stw,sth,son,soxs,spn,spxs,srn,srxs⟩:Scn).ord.length,Cl.ref 1 (⟨sb,sx,sy,sw,sh,stw,sth,son,soxs,spn,spxs,srn,srxs⟩:Scn).ims.length,Cl.ref 2 (⟨sb,sx,sy,sw,sh,stw,sth,son,soxs,spn,spxs,srn,srxs⟩:Scn).ops.length],[Bx.row 3 1 (is (⟨sb,sx,sy,sw,sh,stw,sth,son,soxs,spn,spxs,srn,srxs⟩:Scn).ord),Bx.row 69 28 (ims (⟨sb,sx,sy,sw,sh,stw,sth,son,soxs,spn,spxs,srn,srxs⟩:Scn).ims),Bx.row 44 12 (ops (⟨sb,sx,sy,sw,sh,stw,sth,son,soxs,spn,spxs,srn,srxs⟩:Scn).ops)],false⟩ | _,_=>none) else
  none
 iter:=fun f cs=>
  none
theorem zXf (s:Scn) (at_ x y:Int) (hs:s.ok):Ans prog 3 [RV.agg [dJ s.b,dJ s.x,dJ s.y,dJ s.w,dJ s.h,dJ s.tw,dJ s.th,dS s.on s.oxs,dS s.pn s.pxs,dS s.rn s.rxs],rJ (at_),rJ (x),rJ (y)] (RV.d (dQ true)):=
 zQa (Γ:=zXU) (let a:=(10,aJ (ptB s.c x y).1); let b:=(11,aJ (ptB s.c x y).2); let c:=(12,AV.one (Cl.d (dS (zQc (⟨s.bits,⟨s.c.a,s.c.b,s.c.c,s.c.d⟩,s.gtw,s.gth,ints (is s.ord),zQf (ims s.ims),zQd (ops s.ops)⟩:Scr)).1.length (rcs (zQc (⟨s.bits,⟨s.c.a,s.c.b,s.c.c,s.c.d⟩,s.gtw,s.gth,ints (is s.ord),zQf (ims s.ims),zQd (ops s.ops)⟩:Scr)).1)))); let d:=fun (z:OutZ)=>(14,aJ (z.1.size:Int)); let e:=fun (z:OutZ)=>(15,aJ (z.2.2:Int)); let f:=[(9,bC [cJ s.bits,cJ s.c.a,cJ s.c.b,cJ s.c.c,cJ s.c.d,cJ s.gtw,cJ s.gth,Cl.ref 1019 s.ord.length,Cl.ref 2019 s.ims.length,Cl.ref 3019 s.ops.length]),(1019,Bx.ice (is s.ord)),(2019,Bx.ice (ims s.ims)),(3019,Bx.ice (ops s.ops))]; (Ann.seq Ann.leaf (Ann.seq Ann.leaf (Ann.seq Ann.leaf (Ann.seq Ann.leaf (Ann.seq Ann.leaf (Ann.seq Ann.leaf (Ann.seq (Ann.loop ⟨OutZ,fun z:OutZ=>zXv s z∧z.2.2≤9,fun z:OutZ=>⟨[(9,AV.one (Cl.ptr 9 0)),a,b,c,(d z),(e z)],f⟩,fun z:OutZ=>s.ops.length - z.1.size⟩ fun z=>(Ann.seq Ann.leaf (Ann.seq Ann.leaf (Ann.seq (Ann.loop ⟨Nat,fun j=>j < z.2.1.one.1.size,fun j=>⟨[(9,AV.one (Cl.ptr 9 0)),a,b,c,(d z),(e z),(16,aJ ((z.1.size+j:Nat):Int)),(17,aJ (lev (z.2.1.one.1.flat.take j)))],f⟩,fun j=>z.2.1.one.1.size - j⟩ fun j=>Ann.leaf) Ann.leaf)))) Ann.leaf)))))))) zQg Tryz.func3 rfl (nL rfl) fun hwf=>by
  refine Eq.mpr (by kernel_rfl:_=(let I:=(RV.d (dQ false)=RV.d (dQ true)); let A:=((true=true)∧RV.d (dQ true)=RV.d (dQ true)); let t:=((s.ops.length:Nat):Int); let J:=(zQ1 s.bits); let K:=(zQf (ims s.ims)); let u:=(zQd (ops s.ops)); let b:=(ptB s.c x y); let g:=(zXY J K b.1 b.2 u); let o:=(dJ b.1); let p:=(dJ b.2); let B:=[dJ s.bits,dJ s.c.a,dJ s.c.b,dJ s.c.c,dJ s.c.d,dJ s.gtw,dJ s.gth,dS s.ord.length (is s.ord),dS s.ims.length (ims s.ims),dS s.ops.length (ops s.ops)]; let R:=(Ans prog 11 [RV.agg B,RV.d o,RV.d p] (RV.agg [dK g.a,dK g.b,dK g.c,dK g.al,dK g.f])); let i:=(dJ b.1=dJ b.1); let k:=(dJ b.2=dJ b.2); let l:=(dS (zQc (⟨s.bits,s.c,s.gtw,s.gth,ints (is s.ord),zQf (ims s.ims),zQd (ops s.ops)⟩:Scr)).1.length (rcs (zQc (⟨s.bits,s.c,s.gtw,s.gth,ints (is s.ord),zQf (ims s.ims),zQd (ops s.ops)⟩:Scr)).1)=dS (zQc (⟨s.bits,s.c,s.gtw,s.gth,ints (is s.ord),zQf (ims s.ims),zQd (ops s.ops)⟩:Scr)).1.length (rcs (zQc (⟨s.bits,s.c,s.gtw,s.gth,ints (is s.ord),zQf (ims s.ims),zQd (ops s.ops)⟩:Scr)).1)); let m:=(((dJ s.bits=dJ s.bits)∧(dJ s.c.a=dJ s.c.a)∧(dJ s.c.b=dJ s.c.b)∧(dJ s.c.c=dJ s.c.c)∧(dJ s.c.d=dJ s.c.d)∧(dJ s.gtw=dJ s.gtw)∧(dJ s.gth=dJ s.gth)∧(s.ord.length=s.ord.length)∧(s.ims.length=s.ims.length)∧(s.ops.length=s.ops.length)∧True)∧(is s.ord=is s.ord)∧(ims s.ims=ims s.ims)∧(ops s.ops=ops s.ops)∧True); let v:=fun (z:OutZ)=>(dJ (z.1.size:Int)=dJ (z.1.size:Int)); let w:=fun (z:OutZ)=>(dJ (z.2.2:Int)=dJ (z.2.2:Int)); let L:=fun (z:OutZ)=>fun (j:Nat)=>(wK ((lev (z.2.1.one.1.flat.take j))+1)); let M:=fun (z:OutZ)=>fun (j:Nat)=>((L z j)==0); let N:=fun (z:OutZ)=>fun (j:Nat)=>[dJ s.bits,dJ s.c.a,dJ s.c.b,dJ s.c.c,dJ s.c.d,dJ s.gtw,dJ s.gth,dS s.ord.length (is s.ord),dS s.ims.length (ims s.ims),dS (cutO u (z.1.size:Int) ((z.1.size+j:Nat):Int)).length (ops (cutO u (z.1.size:Int) ((z.1.size+j:Nat):Int)))]; let C:=fun (z:OutZ)=>fun (j:Nat)=>fun (j':Nat)=>(z.2.1.one.1.size - j' < z.2.1.one.1.size - j); let D:=fun (z:OutZ)=>fun (j:Nat)=>fun (j':Nat)=>(dJ (wK (((z.1.size+j:Nat):Int)+1))=dJ ((z.1.size+j':Nat):Int)); let O:=fun (z:OutZ)=>fun (j:Nat)=>(wK ((lev (z.2.1.one.1.flat.take j)) - 1)); let P:=fun (z:OutZ)=>fun (j:Nat)=>((O z j)==0); tU3 ((AnsG prog 5 0 [AV.agg [cJ s.b,cJ s.x,cJ s.y,cJ s.w,cJ s.h,cJ s.tw,cJ s.th,Cl.d (dS s.on s.oxs),Cl.d (dS s.pn s.pxs),Cl.d (dS s.rn s.rxs)]] [] ⟨AV.agg [cJ s.bits,cJ s.c.a,cJ s.c.b,cJ s.c.c,cJ s.c.d,cJ s.gtw,cJ s.gth,Cl.ref 0 s.ord.length,Cl.ref 1 s.ims.length,Cl.ref 2 s.ops.length],[Bx.row 3 1 (is s.ord),Bx.row 69 28 (ims s.ims),Bx.row 44 12 (ops s.ops)],false⟩)∧tU6 ((Ans prog 6 [RV.agg [dJ s.c.a,dJ s.c.b,dJ s.c.c,dJ s.c.d],rJ x,rJ y] (RV.tup [RV.d o,RV.d p]))∧tU6 ((Ans prog 7 [RV.agg B] (RV.tup [RV.d (dS (zQc (⟨s.bits,s.c,s.gtw,s.gth,ints (is s.ord),zQf (ims s.ims),zQd (ops s.ops)⟩:Scr)).1.length (rcs (zQc (⟨s.bits,s.c,s.gtw,s.gth,ints (is s.ord),zQf (ims s.ims),zQd (ops s.ops)⟩:Scr)).1)),rJ (zQc (⟨s.bits,s.c,s.gtw,s.gth,ints (is s.ord),zQf (ims s.ims),zQd (ops s.ops)⟩:Scr)).2]))∧tU5 ((Ans prog 8 [] (RV.d (dQ true)))∧tU2 (((!true)=false→tU4 ((((zQc (⟨s.bits,s.c,s.gtw,s.gth,ints (is s.ord),zQf (ims s.ims),zQd (ops s.ops)⟩:Scr)).2 != 0)=false→tU4 ((s.ops.length≤maxLen)∧tU2 ((((((zQc (⟨s.bits,s.c,s.gtw,s.gth,ints (is s.ord),zQf (ims s.ims),zQd (ops s.ops)⟩:Scr)).1.length:Nat):Int) != t)=true→True∧RV.d (dQ false)=RV.d (dQ true))∧(((((zQc (⟨s.bits,s.c,s.gtw,s.gth,ints (is s.ord),zQf (ims s.ims),zQd (ops s.ops)⟩:Scr)).1.length:Nat):Int) != t)=false→True∧(Ans prog 9 [rJ at_,rJ 9] (rJ (modS at_ (9:Int))))∧tU2 ((∃ z:OutZ,(zXv s z∧z.2.2≤9)∧(((0=0)∧i∧k∧l∧(dJ 0=dJ (z.1.size:Int))∧(dJ (modS at_ (9:Int))=dJ (z.2.2:Int))∧True)∧m))∧∀ z:OutZ,let E:=(wK ((z.2.2:Int) - 1)); let q:=((z.2.2:Int)==0); let a:=(z.1.size:Int); let Q:=(decide (a < t)); let c:=(a.toNat*4); let d:=(a.toNat*4+1); let e:=(a.toNat*4+1+1); let f:=(a.toNat*4+1+1+1); (zXv s z∧z.2.2≤9)→tU3 ((s.ops.length≤maxLen)∧True∧((Q=true→tU3 ((∃ j:Nat,(j < z.2.1.one.1.size)∧(((0=0)∧i∧k∧l∧(v z)∧(w z)∧(dJ a=dJ ((z.1.size+j:Nat):Int))∧(dJ 0=dJ (lev (z.2.1.one.1.flat.take j)))∧True)∧m))∧∀ j:Nat,let F:=(lev (z.2.1.one.1.flat.take j)); let n:=((z.1.size+j:Nat):Int); let G:=(wK (n+1)); let r:=(nAt (ops s.ops) (n.toNat*12+0)); let h:=(zXY J K b.1 b.2 (zQd (ops (cutO u a n)))); let H:=(R∧tU3 ((Ans prog 12 [RV.agg B,rJ a,rJ n] (RV.agg (N z j)))∧tU2 ((Ans prog 11 [RV.agg (N z j),RV.d o,RV.d p] (RV.agg [dK h.a,dK h.b,dK h.c,dK h.al,dK h.f]))∧tU3 ((true=true)∧RV.d (dQ (((g.a==h.a) && ((g.b==h.b) && ((g.c==h.c) && true))) && ((g.al==h.al) && ((g.f==h.f) && true))))=RV.d (dQ true))))); (j < z.2.1.one.1.size)→tU3 ((0≤n∧n < t)∧True∧(((ops s.ops)[n.toNat*12+0]?=some (dJ r))∧True)∧tU2 (((r==2)=true→tU5 (((M z j)=true→tU2 ((q=true→tU2 ((0≤a∧a < (((zQc (⟨s.bits,s.c,s.gtw,s.gth,ints (is s.ord),zQf (ims s.ims),zQd (ops s.ops)⟩:Scr)).1.length:Nat):Int)∧a.toNat*4 < (rcs (zQc (⟨s.bits,s.c,s.gtw,s.gth,ints (is s.ord),zQf (ims s.ims),zQd (ops s.ops)⟩:Scr)).1).length)∧(((rcs (zQc (⟨s.bits,s.c,s.gtw,s.gth,ints (is s.ord),zQf (ims s.ims),zQd (ops s.ops)⟩:Scr)).1)[a.toNat*4]?=some (dJ (nAt (rcs (zQc (⟨s.bits,s.c,s.gtw,s.gth,ints (is s.ord),zQf (ims s.ims),zQd (ops s.ops)⟩:Scr)).1) c)))∧((rcs (zQc (⟨s.bits,s.c,s.gtw,s.gth,ints (is s.ord),zQf (ims s.ims),zQd (ops s.ops)⟩:Scr)).1)[a.toNat*4+1]?=some (dJ (nAt (rcs (zQc (⟨s.bits,s.c,s.gtw,s.gth,ints (is s.ord),zQf (ims s.ims),zQd (ops s.ops)⟩:Scr)).1) d)))∧((rcs (zQc (⟨s.bits,s.c,s.gtw,s.gth,ints (is s.ord),zQf (ims s.ims),zQd (ops s.ops)⟩:Scr)).1)[a.toNat*4+1+1]?=some (dJ (nAt (rcs (zQc (⟨s.bits,s.c,s.gtw,s.gth,ints (is s.ord),zQf (ims s.ims),zQd (ops s.ops)⟩:Scr)).1) e)))∧((rcs (zQc (⟨s.bits,s.c,s.gtw,s.gth,ints (is s.ord),zQf (ims s.ims),zQd (ops s.ops)⟩:Scr)).1)[a.toNat*4+1+1+1]?=some (dJ (nAt (rcs (zQc (⟨s.bits,s.c,s.gtw,s.gth,ints (is s.ord),zQf (ims s.ims),zQd (ops s.ops)⟩:Scr)).1) f)))∧True)∧tU2 ((Ans prog 10 [RV.agg [dJ (nAt (rcs (zQc (⟨s.bits,s.c,s.gtw,s.gth,ints (is s.ord),zQf (ims s.ims),zQd (ops s.ops)⟩:Scr)).1) c),dJ (nAt (rcs (zQc (⟨s.bits,s.c,s.gtw,s.gth,ints (is s.ord),zQf (ims s.ims),zQd (ops s.ops)⟩:Scr)).1) d),dJ (nAt (rcs (zQc (⟨s.bits,s.c,s.gtw,s.gth,ints (is s.ord),zQf (ims s.ims),zQd (ops s.ops)⟩:Scr)).1) e),dJ (nAt (rcs (zQc (⟨s.bits,s.c,s.gtw,s.gth,ints (is s.ord),zQf (ims s.ims),zQd (ops s.ops)⟩:Scr)).1) f)],RV.d o,RV.d p] (RV.d (dQ (Rc.has ⟨(nAt (rcs (zQc (⟨s.bits,s.c,s.gtw,s.gth,ints (is s.ord),zQf (ims s.ims),zQd (ops s.ops)⟩:Scr)).1) c),(nAt (rcs (zQc (⟨s.bits,s.c,s.gtw,s.gth,ints (is s.ord),zQf (ims s.ims),zQd (ops s.ops)⟩:Scr)).1) d),(nAt (rcs (zQc (⟨s.bits,s.c,s.gtw,s.gth,ints (is s.ord),zQf (ims s.ims),zQd (ops s.ops)⟩:Scr)).1) e),(nAt (rcs (zQc (⟨s.bits,s.c,s.gtw,s.gth,ints (is s.ord),zQf (ims s.ims),zQd (ops s.ops)⟩:Scr)).1) f)⟩ b.1 b.2))))∧True∧(((Rc.has ⟨(nAt (rcs (zQc (⟨s.bits,s.c,s.gtw,s.gth,ints (is s.ord),zQf (ims s.ims),zQd (ops s.ops)⟩:Scr)).1) c),(nAt (rcs (zQc (⟨s.bits,s.c,s.gtw,s.gth,ints (is s.ord),zQf (ims s.ims),zQd (ops s.ops)⟩:Scr)).1) d),(nAt (rcs (zQc (⟨s.bits,s.c,s.gtw,s.gth,ints (is s.ord),zQf (ims s.ims),zQd (ops s.ops)⟩:Scr)).1) e),(nAt (rcs (zQc (⟨s.bits,s.c,s.gtw,s.gth,ints (is s.ord),zQf (ims s.ims),zQd (ops s.ops)⟩:Scr)).1) f)⟩ b.1 b.2)=false→tU3 H)∧((Rc.has ⟨(nAt (rcs (zQc (⟨s.bits,s.c,s.gtw,s.gth,ints (is s.ord),zQf (ims s.ims),zQd (ops s.ops)⟩:Scr)).1) c),(nAt (rcs (zQc (⟨s.bits,s.c,s.gtw,s.gth,ints (is s.ord),zQf (ims s.ims),zQd (ops s.ops)⟩:Scr)).1) d),(nAt (rcs (zQc (⟨s.bits,s.c,s.gtw,s.gth,ints (is s.ord),zQf (ims s.ims),zQd (ops s.ops)⟩:Scr)).1) e),(nAt (rcs (zQc (⟨s.bits,s.c,s.gtw,s.gth,ints (is s.ord),zQf (ims s.ims),zQd (ops s.ops)⟩:Scr)).1) f)⟩ b.1 b.2)=(!false)→tU2 A)))))∧(q=false→tU6 (∃ z':OutZ,(zXv s z'∧z'.2.2≤9)∧(s.ops.length - z'.1.size < s.ops.length - z.1.size)∧(((0=0)∧i∧k∧l∧(dJ G=dJ (z'.1.size:Int))∧(dJ E=dJ (z'.2.2:Int))∧True)∧m)))))∧((M z j)=false→tU3 (∃ j':Nat,(j' < z.2.1.one.1.size)∧(C z j j')∧(((0=0)∧i∧k∧l∧(v z)∧(w z)∧(D z j j')∧(dJ (L z j)=dJ (lev (z.2.1.one.1.flat.take j')))∧True)∧m)))))∧((r==2)=false→tU2 (((r==3)=true→tU5 (((P z j)=true→tU2 ((q=true→tU2 ((0≤a∧a < (((zQc (⟨s.bits,s.c,s.gtw,s.gth,ints (is s.ord),zQf (ims s.ims),zQd (ops s.ops)⟩:Scr)).1.length:Nat):Int)∧a.toNat*4 < (rcs (zQc (⟨s.bits,s.c,s.gtw,s.gth,ints (is s.ord),zQf (ims s.ims),zQd (ops s.ops)⟩:Scr)).1).length)∧(((rcs (zQc (⟨s.bits,s.c,s.gtw,s.gth,ints (is s.ord),zQf (ims s.ims),zQd (ops s.ops)⟩:Scr)).1)[a.toNat*4]?=some (dJ (nAt (rcs (zQc (⟨s.bits,s.c,s.gtw,s.gth,ints (is s.ord),zQf (ims s.ims),zQd (ops s.ops)⟩:Scr)).1) c)))∧((rcs (zQc (⟨s.bits,s.c,s.gtw,s.gth,ints (is s.ord),zQf (ims s.ims),zQd (ops s.ops)⟩:Scr)).1)[a.toNat*4+1]?=some (dJ (nAt (rcs (zQc (⟨s.bits,s.c,s.gtw,s.gth,ints (is s.ord),zQf (ims s.ims),zQd (ops s.ops)⟩:Scr)).1) d)))∧((rcs (zQc (⟨s.bits,s.c,s.gtw,s.gth,ints (is s.ord),zQf (ims s.ims),zQd (ops s.ops)⟩:Scr)).1)[a.toNat*4+1+1]?=some (dJ (nAt (rcs (zQc (⟨s.bits,s.c,s.gtw,s.gth,ints (is s.ord),zQf (ims s.ims),zQd (ops s.ops)⟩:Scr)).1) e)))∧((rcs (zQc (⟨s.bits,s.c,s.gtw,s.gth,ints (is s.ord),zQf (ims s.ims),zQd (ops s.ops)⟩:Scr)).1)[a.toNat*4+1+1+1]?=some (dJ (nAt (rcs (zQc (⟨s.bits,s.c,s.gtw,s.gth,ints (is s.ord),zQf (ims s.ims),zQd (ops s.ops)⟩:Scr)).1) f)))∧True)∧tU2 ((Ans prog 10 [RV.agg [dJ (nAt (rcs (zQc (⟨s.bits,s.c,s.gtw,s.gth,ints (is s.ord),zQf (ims s.ims),zQd (ops s.ops)⟩:Scr)).1) c),dJ (nAt (rcs (zQc (⟨s.bits,s.c,s.gtw,s.gth,ints (is s.ord),zQf (ims s.ims),zQd (ops s.ops)⟩:Scr)).1) d),dJ (nAt (rcs (zQc (⟨s.bits,s.c,s.gtw,s.gth,ints (is s.ord),zQf (ims s.ims),zQd (ops s.ops)⟩:Scr)).1) e),dJ (nAt (rcs (zQc (⟨s.bits,s.c,s.gtw,s.gth,ints (is s.ord),zQf (ims s.ims),zQd (ops s.ops)⟩:Scr)).1) f)],RV.d o,RV.d p] (RV.d (dQ (Rc.has ⟨(nAt (rcs (zQc (⟨s.bits,s.c,s.gtw,s.gth,ints (is s.ord),zQf (ims s.ims),zQd (ops s.ops)⟩:Scr)).1) c),(nAt (rcs (zQc (⟨s.bits,s.c,s.gtw,s.gth,ints (is s.ord),zQf (ims s.ims),zQd (ops s.ops)⟩:Scr)).1) d),(nAt (rcs (zQc (⟨s.bits,s.c,s.gtw,s.gth,ints (is s.ord),zQf (ims s.ims),zQd (ops s.ops)⟩:Scr)).1) e),(nAt (rcs (zQc (⟨s.bits,s.c,s.gtw,s.gth,ints (is s.ord),zQf (ims s.ims),zQd (ops s.ops)⟩:Scr)).1) f)⟩ b.1 b.2))))∧True∧(((Rc.has ⟨(nAt (rcs (zQc (⟨s.bits,s.c,s.gtw,s.gth,ints (is s.ord),zQf (ims s.ims),zQd (ops s.ops)⟩:Scr)).1) c),(nAt (rcs (zQc (⟨s.bits,s.c,s.gtw,s.gth,ints (is s.ord),zQf (ims s.ims),zQd (ops s.ops)⟩:Scr)).1) d),(nAt (rcs (zQc (⟨s.bits,s.c,s.gtw,s.gth,ints (is s.ord),zQf (ims s.ims),zQd (ops s.ops)⟩:Scr)).1) e),(nAt (rcs (zQc (⟨s.bits,s.c,s.gtw,s.gth,ints (is s.ord),zQf (ims s.ims),zQd (ops s.ops)⟩:Scr)).1) f)⟩ b.1 b.2)=false→tU3 H)∧((Rc.has ⟨(nAt (rcs (zQc (⟨s.bits,s.c,s.gtw,s.gth,ints (is s.ord),zQf (ims s.ims),zQd (ops s.ops)⟩:Scr)).1) c),(nAt (rcs (zQc (⟨s.bits,s.c,s.gtw,s.gth,ints (is s.ord),zQf (ims s.ims),zQd (ops s.ops)⟩:Scr)).1) d),(nAt (rcs (zQc (⟨s.bits,s.c,s.gtw,s.gth,ints (is s.ord),zQf (ims s.ims),zQd (ops s.ops)⟩:Scr)).1) e),(nAt (rcs (zQc (⟨s.bits,s.c,s.gtw,s.gth,ints (is s.ord),zQf (ims s.ims),zQd (ops s.ops)⟩:Scr)).1) f)⟩ b.1 b.2)=(!false)→tU2 A)))))∧(q=false→tU6 (∃ z':OutZ,(zXv s z'∧z'.2.2≤9)∧(s.ops.length - z'.1.size < s.ops.length - z.1.size)∧(((0=0)∧i∧k∧l∧(dJ G=dJ (z'.1.size:Int))∧(dJ E=dJ (z'.2.2:Int))∧True)∧m)))))∧((P z j)=false→tU3 (∃ j':Nat,(j' < z.2.1.one.1.size)∧(C z j j')∧(((0=0)∧i∧k∧l∧(v z)∧(w z)∧(D z j j')∧(dJ (O z j)=dJ (lev (z.2.1.one.1.flat.take j')))∧True)∧m)))))∧((r==3)=false→tU2 (((F==0)=true→tU2 ((q=true→tU2 ((0≤a∧a < (((zQc (⟨s.bits,s.c,s.gtw,s.gth,ints (is s.ord),zQf (ims s.ims),zQd (ops s.ops)⟩:Scr)).1.length:Nat):Int)∧a.toNat*4 < (rcs (zQc (⟨s.bits,s.c,s.gtw,s.gth,ints (is s.ord),zQf (ims s.ims),zQd (ops s.ops)⟩:Scr)).1).length)∧(((rcs (zQc (⟨s.bits,s.c,s.gtw,s.gth,ints (is s.ord),zQf (ims s.ims),zQd (ops s.ops)⟩:Scr)).1)[a.toNat*4]?=some (dJ (nAt (rcs (zQc (⟨s.bits,s.c,s.gtw,s.gth,ints (is s.ord),zQf (ims s.ims),zQd (ops s.ops)⟩:Scr)).1) c)))∧((rcs (zQc (⟨s.bits,s.c,s.gtw,s.gth,ints (is s.ord),zQf (ims s.ims),zQd (ops s.ops)⟩:Scr)).1)[a.toNat*4+1]?=some (dJ (nAt (rcs (zQc (⟨s.bits,s.c,s.gtw,s.gth,ints (is s.ord),zQf (ims s.ims),zQd (ops s.ops)⟩:Scr)).1) d)))∧((rcs (zQc (⟨s.bits,s.c,s.gtw,s.gth,ints (is s.ord),zQf (ims s.ims),zQd (ops s.ops)⟩:Scr)).1)[a.toNat*4+1+1]?=some (dJ (nAt (rcs (zQc (⟨s.bits,s.c,s.gtw,s.gth,ints (is s.ord),zQf (ims s.ims),zQd (ops s.ops)⟩:Scr)).1) e)))∧((rcs (zQc (⟨s.bits,s.c,s.gtw,s.gth,ints (is s.ord),zQf (ims s.ims),zQd (ops s.ops)⟩:Scr)).1)[a.toNat*4+1+1+1]?=some (dJ (nAt (rcs (zQc (⟨s.bits,s.c,s.gtw,s.gth,ints (is s.ord),zQf (ims s.ims),zQd (ops s.ops)⟩:Scr)).1) f)))∧True)∧tU2 ((Ans prog 10 [RV.agg [dJ (nAt (rcs (zQc (⟨s.bits,s.c,s.gtw,s.gth,ints (is s.ord),zQf (ims s.ims),zQd (ops s.ops)⟩:Scr)).1) c),dJ (nAt (rcs (zQc (⟨s.bits,s.c,s.gtw,s.gth,ints (is s.ord),zQf (ims s.ims),zQd (ops s.ops)⟩:Scr)).1) d),dJ (nAt (rcs (zQc (⟨s.bits,s.c,s.gtw,s.gth,ints (is s.ord),zQf (ims s.ims),zQd (ops s.ops)⟩:Scr)).1) e),dJ (nAt (rcs (zQc (⟨s.bits,s.c,s.gtw,s.gth,ints (is s.ord),zQf (ims s.ims),zQd (ops s.ops)⟩:Scr)).1) f)],RV.d o,RV.d p] (RV.d (dQ (Rc.has ⟨(nAt (rcs (zQc (⟨s.bits,s.c,s.gtw,s.gth,ints (is s.ord),zQf (ims s.ims),zQd (ops s.ops)⟩:Scr)).1) c),(nAt (rcs (zQc (⟨s.bits,s.c,s.gtw,s.gth,ints (is s.ord),zQf (ims s.ims),zQd (ops s.ops)⟩:Scr)).1) d),(nAt (rcs (zQc (⟨s.bits,s.c,s.gtw,s.gth,ints (is s.ord),zQf (ims s.ims),zQd (ops s.ops)⟩:Scr)).1) e),(nAt (rcs (zQc (⟨s.bits,s.c,s.gtw,s.gth,ints (is s.ord),zQf (ims s.ims),zQd (ops s.ops)⟩:Scr)).1) f)⟩ b.1 b.2))))∧True∧(((Rc.has ⟨(nAt (rcs (zQc (⟨s.bits,s.c,s.gtw,s.gth,ints (is s.ord),zQf (ims s.ims),zQd (ops s.ops)⟩:Scr)).1) c),(nAt (rcs (zQc (⟨s.bits,s.c,s.gtw,s.gth,ints (is s.ord),zQf (ims s.ims),zQd (ops s.ops)⟩:Scr)).1) d),(nAt (rcs (zQc (⟨s.bits,s.c,s.gtw,s.gth,ints (is s.ord),zQf (ims s.ims),zQd (ops s.ops)⟩:Scr)).1) e),(nAt (rcs (zQc (⟨s.bits,s.c,s.gtw,s.gth,ints (is s.ord),zQf (ims s.ims),zQd (ops s.ops)⟩:Scr)).1) f)⟩ b.1 b.2)=false→tU3 H)∧((Rc.has ⟨(nAt (rcs (zQc (⟨s.bits,s.c,s.gtw,s.gth,ints (is s.ord),zQf (ims s.ims),zQd (ops s.ops)⟩:Scr)).1) c),(nAt (rcs (zQc (⟨s.bits,s.c,s.gtw,s.gth,ints (is s.ord),zQf (ims s.ims),zQd (ops s.ops)⟩:Scr)).1) d),(nAt (rcs (zQc (⟨s.bits,s.c,s.gtw,s.gth,ints (is s.ord),zQf (ims s.ims),zQd (ops s.ops)⟩:Scr)).1) e),(nAt (rcs (zQc (⟨s.bits,s.c,s.gtw,s.gth,ints (is s.ord),zQf (ims s.ims),zQd (ops s.ops)⟩:Scr)).1) f)⟩ b.1 b.2)=(!false)→tU2 A)))))∧(q=false→tU6 (∃ z':OutZ,(zXv s z'∧z'.2.2≤9)∧(s.ops.length - z'.1.size < s.ops.length - z.1.size)∧(((0=0)∧i∧k∧l∧(dJ G=dJ (z'.1.size:Int))∧(dJ E=dJ (z'.2.2:Int))∧True)∧m)))))∧((F==0)=false→tU3 (∃ j':Nat,(j' < z.2.1.one.1.size)∧(C z j j')∧(((0=0)∧i∧k∧l∧(v z)∧(w z)∧(D z j j')∧(dJ F=dJ (lev (z.2.1.one.1.flat.take j')))∧True)∧m)))))))))))∧(Q=false→True∧RV.d (dQ true)=RV.d (dQ true)))))))))∧(((zQc (⟨s.bits,s.c,s.gtw,s.gth,ints (is s.ord),zQf (ims s.ims),zQd (ops s.ops)⟩:Scr)).2 != 0)=(!false)→tU2 I)))∧((!true)=(!false)→tU4 I)))))))) ?_
  delta dJ dK dQ cJ wK dS rJ
  simp only [sS,zHl,zQs]
  simp only [zZ8,zXk,zQG]
  have hS:(⟨s.bits,s.c,s.gtw,s.gth,s.ord,s.ims,s.ops⟩:Scr)=s.scr:=rfl
  simp only [hS]
  have hr:s.scr.run.1=0:=by rw [s.scr_run]
  have hso:s.scr.ops=s.ops:=rfl
  have lo:=s.ops_len
  have CF:=s.c_facts
  have FF:=s.facts
  have hM:∀ n:Nat,n≤100→n≤maxLen:=fun n h=>by unfold maxLen; omega
  have hq : -100≤s.c.a∧s.c.c≤100 ∧ -100≤s.c.b∧s.c.d≤100∧s.c.a < s.c.c∧s.c.b < s.c.d:=⟨by omega,by omega,by omega,by omega,by omega,by omega⟩
  have hct:=jJ5 hq x y
  have pt:=jZa s.c x y
  generalize ptB s.c x y=q at *
  obtain ⟨U,V⟩:=q
  simp only at hct pt ⊢
  have bx:=zJl s.scr
  have e0:(zQc s.scr).2=0:=(zG9 hr).2.1
  have el:(zQc s.scr).1.length=s.ops.length:=by rw [(zG9 hr).2.2,hso]
  have m9:=@zQ4 at_ 9 (by decide) (by decide)
  have hu:∀ m∈s.ims,m.isU:=s.ims_isU
  have nf:false=true→false=true:=id
  refine ⟨jQr s hs,pt,bx,?_⟩
  clear bx pt
  simp only [e0,el,bne_self_eq_false]
  refine ⟨⟨fun _=>⟨hM _ (by omega),nf,fun _=>⟨?_,fun z ⟨hz,hz9⟩=>⟨hM _ (by omega),fun hlt=>⟨?_,fun j hj=>?_⟩,fun _=>?_⟩⟩⟩,nf⟩,nf⟩
  ·obtain ⟨w,hw⟩:=zXv.start s (modS at_ 9).toNat
   exact ⟨_,⟨hw,by simp only; omega⟩,rfl,by simp only; omega⟩
  ·have hl:=hz.len
   have hn:z.2.1≠.nil:=fun e=>by rw [e] at hl; simp only [Fo.size] at hl; omega
   exact ⟨0,jQP hn,by simp,rfl⟩
  ·have hl:=hz.len
   have hn:z.2.1≠.nil:=fun e=>by rw [e] at hl; simp only [Fo.size] at hl; omega
   have hs1:z.2.1.size=z.2.1.one.1.size+z.2.1.one.2.size:=by rw [← zXL,zVx]
   have hlt2:z.1.size+j < s.ops.length:=by omega
   have oo:=hz.op hj hlt2
   have q1:=zVG hlt2
   have q2:=zVH hlt2
   have hjf:j < z.2.1.one.1.flat.length:=by rw [Fo.flat_len]; exact hj
   have lv:=zGS hjf
   have li:=jJI (z.2.1.one.1.flat.take j)
   have lt:=List.length_take_le j z.2.1.one.1.flat
   have L1:=jKg hz.ok hn hj
   have hb1:(zQc s.scr).1[z.1.size]?=some (zZ9 s.scr z.2.1):=hz.box hn
   have hb2:z.1.size < (zQc s.scr).1.length:=by omega
   have hb3:(zQc s.scr).1[z.1.size]=zZ9 s.scr z.2.1:=by rw [List.getElem?_eq_getElem hb2] at hb1; exact Option.some.inj hb1
   have rc1:=zKS (zQc s.scr).1 z.1.size hb2
   have rc2:=zVs hb2
   rw [hb3] at rc1 rc2
   have ca:=zQ5 (zZ9 s.scr z.2.1).a (zZ9 s.scr z.2.1).b (zZ9 s.scr z.2.1).c (zZ9 s.scr z.2.1).d U V
   have heta:(⟨(zZ9 s.scr z.2.1).a,(zZ9 s.scr z.2.1).b,(zZ9 s.scr z.2.1).c,(zZ9 s.scr z.2.1).d⟩:Rc)=zZ9 s.scr z.2.1:=rfl
   rw [heta] at ca
   have v1:=zYa s.scr U V (s.with_run hu (l:=s.ops) (by omega) s.op0 s.ops_ok U V)
   have wo:=zUo s.scr (z.1.size:Nat) (z.1.size+j:Nat) ⟨by omega,by omega,by rw [hso]; omega⟩ (by rw [hso]; omega)
   simp only [q2,Nat.add_zero,rc2,heta]
   refine ⟨⟨by omega,by omega⟩,q1.1,fun h2=>?_,fun h2=>⟨fun h3=>?_,fun h3=>?_⟩⟩
   ·have h2:s.ops[z.1.size+j].kind=2:=by simpa using h2
    have e:IntKind.wrap .i64 (lev (z.2.1.one.1.flat.take j)+1)=lev (z.2.1.one.1.flat.take (j+1)):=by
     rw [IntWalk.i64_in _ ⟨by omega,by omega⟩,lv,← oo,dlt,if_pos h2]
    simp only [e]
    have v2:lev (z.2.1.one.1.flat.take (j+1))=0→_:=fun h0=>zYa (s.withOps (cutO s.ops (z.1.size:Nat) (z.1.size+j:Nat))) U V (s.with_run hu (l:=cutO s.ops (z.1.size:Nat) (z.1.size+j:Nat)) (by rw [zXW,List.length_append,List.length_take,List.length_drop]; omega) (fun o ho=>s.op0 o (by rw [zXW] at ho; exact (List.mem_append.1 ho).elim List.mem_of_mem_take List.mem_of_mem_drop)) (by rw [zXW,Nat.add_assoc,L1.1 h0]; exact hz.cut_ok) U V)
    refine ⟨fun hz0=>⟨fun hn0=>⟨⟨by omega,by omega,by rw [zZN]; omega⟩,rc1,ca,fun hb=>⟨v1,wo,v2 (by simpa using hz0),?_⟩,fun _=>trivial⟩,fun hn0=>?_⟩,fun hnz=>?_⟩
    ·have hz0:lev (z.2.1.one.1.flat.take (j+1))=0:=by simpa using hz0
     have hj1:=L1.1 hz0
     have:=hz.value hn hct hb
     rw [← hj1,← Nat.add_assoc] at this
     have cu:cutO s.ops (z.1.size:Nat) (z.1.size+j:Nat)=s.ops.take z.1.size++s.ops.drop (z.1.size+j+1):=zXW _ _ _
     rw [cu,s.bits_most,this]
     simp
    ·have hz0:lev (z.2.1.one.1.flat.take (j+1))=0:=by simpa using hz0
     have hj1:=L1.1 hz0
     have hn0:z.2.2≠0:=by intro h; rw [h] at hn0; simp at hn0
     refine ⟨(z.1.app z.2.1.one.1,z.2.1.one.2,z.2.2 - 1),⟨hz.next,by simp only; omega⟩,?_,?_,?_⟩
     ·simp only [zXL]; omega
     ·simp only [zXL]; rw [IntWalk.i64_in _ ⟨by omega,by omega⟩]; omega
     ·simp only; rw [IntWalk.i64_in _ ⟨by omega,by omega⟩]; omega
    ·have hnz:lev (z.2.1.one.1.flat.take (j+1))≠0:=by simpa using hnz
     have hj1:j+1≠z.2.1.one.1.size:=fun h=>hnz (L1.2 h)
     refine ⟨j+1,by omega,by omega,?_,rfl⟩
     rw [IntWalk.i64_in _ ⟨by omega,by omega⟩]; omega
   ·have h2:¬ s.ops[z.1.size+j].kind=2:=by simpa using h2
    have h3:s.ops[z.1.size+j].kind=3:=by simpa using h3
    have e:IntKind.wrap .i64 (lev (z.2.1.one.1.flat.take j) - 1)=lev (z.2.1.one.1.flat.take (j+1)):=by
     rw [IntWalk.i64_in _ ⟨by omega,by omega⟩,lv,← oo,dlt,if_neg h2,if_pos h3]; omega
    simp only [e]
    have v2:lev (z.2.1.one.1.flat.take (j+1))=0→_:=fun h0=>zYa (s.withOps (cutO s.ops (z.1.size:Nat) (z.1.size+j:Nat))) U V (s.with_run hu (l:=cutO s.ops (z.1.size:Nat) (z.1.size+j:Nat)) (by rw [zXW,List.length_append,List.length_take,List.length_drop]; omega) (fun o ho=>s.op0 o (by rw [zXW] at ho; exact (List.mem_append.1 ho).elim List.mem_of_mem_take List.mem_of_mem_drop)) (by rw [zXW,Nat.add_assoc,L1.1 h0]; exact hz.cut_ok) U V)
    refine ⟨fun hz0=>⟨fun hn0=>⟨⟨by omega,by omega,by rw [zZN]; omega⟩,rc1,ca,fun hb=>⟨v1,wo,v2 (by simpa using hz0),?_⟩,fun _=>trivial⟩,fun hn0=>?_⟩,fun hnz=>?_⟩
    ·have hz0:lev (z.2.1.one.1.flat.take (j+1))=0:=by simpa using hz0
     have hj1:=L1.1 hz0
     have:=hz.value hn hct hb
     rw [← hj1,← Nat.add_assoc] at this
     have cu:cutO s.ops (z.1.size:Nat) (z.1.size+j:Nat)=s.ops.take z.1.size++s.ops.drop (z.1.size+j+1):=zXW _ _ _
     rw [cu,s.bits_most,this]
     simp
    ·have hz0:lev (z.2.1.one.1.flat.take (j+1))=0:=by simpa using hz0
     have hj1:=L1.1 hz0
     have hn0:z.2.2≠0:=by intro h; rw [h] at hn0; simp at hn0
     refine ⟨(z.1.app z.2.1.one.1,z.2.1.one.2,z.2.2 - 1),⟨hz.next,by simp only; omega⟩,?_,?_,?_⟩
     ·simp only [zXL]; omega
     ·simp only [zXL]; rw [IntWalk.i64_in _ ⟨by omega,by omega⟩]; omega
     ·simp only; rw [IntWalk.i64_in _ ⟨by omega,by omega⟩]; omega
    ·have hnz:lev (z.2.1.one.1.flat.take (j+1))≠0:=by simpa using hnz
     have hj1:j+1≠z.2.1.one.1.size:=fun h=>hnz (L1.2 h)
     refine ⟨j+1,by omega,by omega,?_,rfl⟩
     rw [IntWalk.i64_in _ ⟨by omega,by omega⟩]; omega
   ·have h2:¬ s.ops[z.1.size+j].kind=2:=by simpa using h2
    have h3:¬ s.ops[z.1.size+j].kind=3:=by simpa using h3
    have e:lev (z.2.1.one.1.flat.take j)=lev (z.2.1.one.1.flat.take (j+1)):=by
     rw [lv,← oo,dlt,if_neg h2,if_neg h3]; omega
    simp only [e]
    have v2:lev (z.2.1.one.1.flat.take (j+1))=0→_:=fun h0=>zYa (s.withOps (cutO s.ops (z.1.size:Nat) (z.1.size+j:Nat))) U V (s.with_run hu (l:=cutO s.ops (z.1.size:Nat) (z.1.size+j:Nat)) (by rw [zXW,List.length_append,List.length_take,List.length_drop]; omega) (fun o ho=>s.op0 o (by rw [zXW] at ho; exact (List.mem_append.1 ho).elim List.mem_of_mem_take List.mem_of_mem_drop)) (by rw [zXW,Nat.add_assoc,L1.1 h0]; exact hz.cut_ok) U V)
    refine ⟨fun hz0=>⟨fun hn0=>⟨⟨by omega,by omega,by rw [zZN]; omega⟩,rc1,ca,fun hb=>⟨v1,wo,v2 (by simpa using hz0),?_⟩,fun _=>trivial⟩,fun hn0=>?_⟩,fun hnz=>?_⟩
    ·have hz0:lev (z.2.1.one.1.flat.take (j+1))=0:=by simpa using hz0
     have hj1:=L1.1 hz0
     have:=hz.value hn hct hb
     rw [← hj1,← Nat.add_assoc] at this
     have cu:cutO s.ops (z.1.size:Nat) (z.1.size+j:Nat)=s.ops.take z.1.size++s.ops.drop (z.1.size+j+1):=zXW _ _ _
     rw [cu,s.bits_most,this]
     simp
    ·have hz0:lev (z.2.1.one.1.flat.take (j+1))=0:=by simpa using hz0
     have hj1:=L1.1 hz0
     have hn0:z.2.2≠0:=by intro h; rw [h] at hn0; simp at hn0
     refine ⟨(z.1.app z.2.1.one.1,z.2.1.one.2,z.2.2 - 1),⟨hz.next,by simp only; omega⟩,?_,?_,?_⟩
     ·simp only [zXL]; omega
     ·simp only [zXL]; rw [IntWalk.i64_in _ ⟨by omega,by omega⟩]; omega
     ·simp only; rw [IntWalk.i64_in _ ⟨by omega,by omega⟩]; omega
    ·have hnz:lev (z.2.1.one.1.flat.take (j+1))≠0:=by simpa using hnz
     have hj1:j+1≠z.2.1.one.1.size:=fun h=>hnz (L1.2 h)
     refine ⟨j+1,by omega,by omega,?_,rfl⟩
     rw [IntWalk.i64_in _ ⟨by omega,by omega⟩]; omega
  ·trivial
end
end Go.Proofs.YthjaljiamllaeaaGreatDoor
namespace Go.Proofs.YthjaljiamllaeaaGreatDoor.closed
open Go
set_option linter.unusedVariables false
set_option linter.unusedSimpArgs false
def headL:List Nat:=[104,97,114,110,101,115,115,32,51,49,50,98,50,102,97,55,100,101,55,97,55,98,53,100,102,99,100,99,98,102,98,57,53,53,49,53,53,100,57,55,53,56,54,101,52,98,56,101,98,49,54,99,57,99,51,54,101,52,97,57,52,57,97,49,48,51,56,50,102,97,97,51,32,99,117,116,32,97,116,32,99,111,109,112,111,115,105,116,111,114,47,99,111,109,112,111,115,105,116,111,114,108,97,119,50,52,46,66,111,117,110,100,115,79,117,116,115,105,100,101,78,111,116,104,105,110,103,72,97,112,112,101,110,115,32,99,111,109,112,111,115,105,116,111,114,47,99,111,109,112,111,115,105,116,111,114,108,97,119,50,52,46,66,111,117,110,100,115,73,110,97,99,116,105,118,101,67,97,110,66,101,76,101,102,116,79,117,116]
set_option maxRecDepth 100000 in
theorem jJk:Tryz.prog.initOrder=String.ofList (headL.map Char.ofNat):=by kernel_rfl
set_option maxRecDepth 100000 in
theorem zW1:Tryz.prog.initOrder.toList=(headL.map Char.ofNat):=by rw [jJk,String.toList_ofList]
set_option maxRecDepth 100000 in
theorem enters:Tryz.prog.mayEnter=true:=by
 unfold Program.mayEnter Program.doorFits
 rw [zW1]
 kernel_rfl
set_option maxRecDepth 100000 in
theorem liftsNot:Tryz.prog.liftsFinal=false:=by
 unfold Program.liftsFinal Program.headLifts
 rw [zW1]
 kernel_rfl
set_option maxRecDepth 100000 in
theorem made:Tryz.prog.make=some .cut:=by
 unfold Program.make
 rw [zW1]
 kernel_rfl
theorem own:ownKnob Tryz.prog.godebug=none:=by kernel_rfl
theorem laidOut:laidOutB Tryz.prog=true:=by kernel_rfl
theorem mapsRow:mapsRowed Tryz.prog=true:=by kernel_rfl
theorem noStops:(Tryz.prog.stops==[])=true:=by kernel_rfl
theorem noKnobs:(Tryz.prog.stopKnobs==[])=true:=by kernel_rfl
theorem plain:Tryz.prog.plainKeys=true:=by kernel_rfl
theorem heard:Tryz.prog.stopsHeard=true:=by kernel_rfl
end Go.Proofs.YthjaljiamllaeaaGreatDoor.closed
namespace Go.Proofs.YthjaljiamllaeaaGreatDoor
open Go.RowKit
set_option linter.unusedVariables false
set_option linter.unusedSimpArgs false
set_option maxRecDepth 20000
section
open Go.ChangeShapes
open Go.WideShapes
def zUg {H:Type} (P:Program):Nat→TypeId→DataW H→Nat→Option DV
 | 0,_,_,_=>none
 | fuel+1,t,d,i=>
  match P.underlying t,d with
  | some (.int k),.lit (.int k' n)=>if i=0∧k'=k then some (.int k n) else none
  | some .bool,.lit (.bool b)=>if i=0 then some (.bool b) else none
  | some .string,.lit (.string s)=>if i=0∧s.length≤maxLen then some (.str ⟨s.toArray⟩) else none
  | some (.struct fs),.agg ds=>(fs.toList.zip ds).findSome? fun x=>if x.1.offset≤i∧i < x.1.offset+P.cellsOf x.1.type then zUg P fuel x.1.type x.2 (i - x.1.offset) else none
  | some (.array _ e),.agg ds=>if P.cellsOf e=0 then none else match ds[i / P.cellsOf e]? with
   | some d=>zUg P fuel e d (i % P.cellsOf e)
   | none=>none
  | _,_=>none
section
variable {H:Type} {enc:TypeId × Value→H} {P:Program} {w:World}
theorem jQi {sp:Nat→Bool} {va:Bool} {V:Nat→Prop}:∀ (fuel:Nat) (t:TypeId) (cs:List Value) (d:DataW H) (ps:List MemPlace) (q i:Nat) (dv:DV),
  DataW.trod enc P w 0 sp va fuel t cs=some (d,ps)→zUg P q t d i=some dv→∃ u,cs[i]?=some u∧RepD w V dv u:=by
 intro fuel
 induction fuel with
 | zero=>intro t cs d ps q i dv h; simp [DataW.trod] at h
 | succ fuel ih=>
  intro t cs d ps q i dv h hq
  cases q with
  | zero=>simp [zUg] at hq
  | succ q=>
  unfold DataW.trod at h
  unfold zUg at hq
  split at h
  ·rename_i b hu
   simp only [Option.some.injEq,Prod.mk.injEq] at h
   obtain ⟨rfl,_⟩:=h
   simp only [hu] at hq
   split at hq
   ·rename_i e; subst e; cases hq; exact ⟨_,rfl,by simp only [RepD]⟩
   ·cases hq
  ·rename_i k k' n hu
   split at h
   ·rename_i hk
    obtain ⟨rfl,hwf⟩:=hk
    simp only [Option.some.injEq,Prod.mk.injEq] at h
    obtain ⟨rfl,_⟩:=h
    simp only [hu] at hq
    split at hq
    ·rename_i e; obtain ⟨rfl,_⟩:=e; cases hq; exact ⟨_,rfl,by simp only [RepD]; exact ⟨trivial,hwf⟩⟩
    ·cases hq
   ·cases h
  ·rename_i hu
   simp only [hu] at hq
   cases hq
  ·rename_i s hu
   split at h
   ·simp only [Option.some.injEq,Prod.mk.injEq] at h
    obtain ⟨rfl,_⟩:=h
    simp only [hu] at hq
    split at hq
    ·rename_i e; obtain ⟨rfl,hl⟩:=e; cases hq
     exact ⟨_,rfl,by simp only [RepD]; exact ⟨by simp,by simpa using hl⟩⟩
    ·cases hq
   ·cases h
  ·rename_i hu; simp only [hu] at hq; cases hq
  ·rename_i hu; simp only [hu] at hq; cases hq
  ·rename_i hu; simp only [hu] at hq; cases hq
  ·rename_i hu; simp only [hu] at hq; cases hq
  ·rename_i fs hu
   split at h
   ·obtain ⟨xs,hxs,h⟩:=Option.map_eq_some_iff.1 h
    simp only [Prod.mk.injEq] at h
    obtain ⟨rfl,_⟩:=h
    simp only [hu] at hq
    obtain ⟨x,hx,hx2⟩:=List.exists_of_findSome?_eq_some hq
    split at hx2
    ·rename_i hr
     obtain ⟨j,hj,e⟩:=List.getElem_of_mem hx
     rw [List.getElem_zip] at e
     simp only [List.length_zip,List.length_map] at hj
     have h1:=mapM_some_get hxs j _ (List.getElem?_eq_getElem (by omega))
     rw [List.getElem?_eq_getElem (show j < xs.length by omega)] at h1
     subst e
     simp only [List.getElem_map] at hx2 hr
     obtain ⟨u,hu1,hu2⟩:=ih _ _ _ _ q _ dv h1 hx2
     refine ⟨u,?_,hu2⟩
     rw [List.getElem?_take,if_pos (by omega),List.getElem?_drop] at hu1
     rwa [show _+(i - _)=i from Nat.add_sub_of_le hr.1] at hu1
    ·cases hx2
   ·cases h
  ·rename_i n e hu
   split at h
   ·obtain ⟨xs,hxs,h⟩:=Option.map_eq_some_iff.1 h
    simp only [Prod.mk.injEq] at h
    obtain ⟨rfl,_⟩:=h
    simp only [hu] at hq
    split at hq
    ·cases hq
    ·rename_i hne
     split at hq
     ·rename_i d hd
      rw [List.getElem?_map] at hd
      obtain ⟨x,hx,rfl⟩:=Option.map_eq_some_iff.1 hd
      have hl:=mapM_some_length hxs
      simp only [List.length_range] at hl
      have hlt:i / P.cellsOf e < xs.length:=(List.getElem?_eq_some_iff.1 hx).1
      have h1:=mapM_some_get hxs (i / P.cellsOf e) (i / P.cellsOf e) (List.getElem?_range (by omega))
      rw [hx] at h1
      obtain ⟨u,hu1,hu2⟩:=ih _ _ _ _ q _ dv h1 hq
      refine ⟨u,?_,hu2⟩
      rw [List.getElem?_take,if_pos (Nat.mod_lt _ (Nat.pos_of_ne_zero hne)),List.getElem?_drop,Nat.mul_comm] at hu1
      rwa [Nat.div_add_mod] at hu1
     ·cases hq
   ·cases h
  all_goals first | (cases h; done) | (clear h ih; simp_all; done) | (clear h ih; split at hq <;> simp_all; done)
end
def jJT (P:Program) (laid:List (String × DataW Unit)) (p:Nat × List DV):Prop:=
 ∃ x t,x∈laid∧P.globalNamed x.1=some p.1∧(P.globals[p.1]?).map (·.type)=some t∧(List.range p.2.length).map (zUg P 6 t x.2)=p.2.map some
def jXK (P:Program) (laid:List (String × DataW Unit)) (g:Nat):Prop:=∃ x,x∈laid∧P.globalNamed x.1=some g∧∃ nm d,x.2=.iface nm d
def jKX (P:Program) (g:Nat):Prop:=∀ w:World,w.ShapedOpen P→∃ m,w.cell? ⟨g,0,none⟩=some (.int .i64 m)
theorem zGX {H:Type} {enc:TypeId × Value→H} {P:Program} {w:World} {sp:Nat→Bool} {va:Bool}:∀ {fuel:Nat} {t:TypeId} {cs:List Value} {nm:String} {d:DataW H} {ps:List MemPlace},DataW.trod enc P w 0 sp va fuel t cs=some (.iface nm d,ps)→∃ u v,cs=[.iface u v]:=by
 intro fuel t cs nm d ps h
 cases fuel with
 | zero=>simp [DataW.trod] at h
 | succ fuel=>
  unfold DataW.trod at h
  split at h
  all_goals first
   | exact ⟨_,_,rfl⟩
   |(simp at h; done)
   |(split at h <;> simp at h; done)
   |(exfalso; obtain ⟨x,_,h⟩:=Option.map_eq_some_iff.1 h; cases h; done)
   |(exfalso; split at h; (obtain ⟨x,_,h⟩:=Option.bind_eq_some_iff.1 h; obtain ⟨y,_,h⟩:=Option.map_eq_some_iff.1 h; cases h); cases h)
   |(exfalso; split at h; (split at h; (obtain ⟨x,_,h⟩:=Option.bind_eq_some_iff.1 h; simp only at h; split at h <;> cases h); cases h); cases h)
theorem zJy {P:Program} {w:World}:∀ {l:List (String × DataW Unit)} {ps:List MemPlace},DataW.LaidVars P w l ps→∀ x∈l,∃ g t cs fuel p,P.globalNamed x.1=some g∧(P.globals[g]?).map (·.type)=some t∧w.var? P x.1=some cs∧DataW.trod (fun _=>()) P w 0 (fun _=>true) false fuel t cs.toList=some (x.2,p)
 | [],_,_,x,hx=>by cases hx
 |(n,d)::r,ps,h,x,hx=>by
  obtain ⟨g,t,cs,fuel,p,q,h1,h2,h3,h4,h5,_⟩:=h
  rcases List.mem_cons.1 hx with rfl | hx
  ·exact ⟨g,t,cs,fuel,p,h1,h2,h3,h4⟩
  ·exact zJy h5 x hx
theorem jYk {P:Program} {laid:List (String × DataW Unit)} {w:World} (hm:laidMetH P laid w) (hp:(laid.all fun x=>x.2.handleName?.isNone)=true) (ht:∀ p∈zKt,jJT P laid p) (hs:∀ g∈zK6,jXK P laid g) (hi:∀ g∈zK7,∃ m,w.cell? ⟨g,0,none⟩=some (.int .i64 m)):zYl w (fun _=>True):=by
 rw [MakeChecks.laidMetH_plain _ _ _ hp] at hm
 obtain ⟨ps,hl,_⟩:=hm
 refine ⟨fun p hp _=>?_,fun g hg=>⟨trivial,?_⟩,fun g hg=>⟨trivial,hi g hg⟩⟩
 rotate_left
 ·obtain ⟨x,hx,h1,nm,d,hd⟩:=hs g hg
  obtain ⟨g',t',cs,fuel,q,g1,g2,g3,g4⟩:=zJy hl x hx
  rw [g1] at h1; injection h1 with h1; subst h1
  rw [hd] at g4
  obtain ⟨u,v,hc⟩:=zGX g4
  refine ⟨u,v,?_⟩
  rw [World.var?_cell g1 g3 0,← Array.getElem?_toList,hc]
  rfl
 obtain ⟨x,t,hx,h1,h2,h3⟩:=ht p hp
 obtain ⟨g,t',cs,fuel,q,g1,g2,g3,g4⟩:=zJy hl x hx
 rw [g1] at h1; injection h1 with h1; subst h1
 rw [g2] at h2; injection h2 with h2; subst h2
 refine ⟨trivial,RepCells.of_at fun i d hi=>?_⟩
 have hlt:i < p.2.length:=(List.getElem?_eq_some_iff.1 hi).1
 have h4:((List.range p.2.length).map (zUg P 6 t' x.2))[i]?=(p.2.map some)[i]?:=by rw [h3]
 rw [List.getElem?_map,List.getElem?_range hlt,List.getElem?_map,hi] at h4
 simp only [Option.map_some,Option.some.injEq] at h4
 obtain ⟨u,hu1,hu2⟩:=jQi (V:=fun _=>True) fuel t' cs.toList x.2 q 6 i d g4 h4
 refine ⟨u,?_,hu2⟩
 rw [Nat.zero_add,World.var?_cell g1 g3 i,← Array.getElem?_toList]
 exact hu1
theorem zGT {H:Type} {enc:TypeId × Value→H} {C:Checked} {os:Os} {f:FuncId} {fn:Func} {s:ChangeSpec} {tb:TypeId} {laid:List (String × DataW Unit)}
  (own:ownKnob C.prog.godebug=none) (started:os.Started) (noInit:C.prog.inits.idxOf? f=none) (hfn:C.prog.funcs[f]?=some fn)
  (witness:∃ (w:World) (tape:Tape) (i:Input),w.os=os∧(w.forCall tape i).Shaped C.prog∧i.vars=[]∧Input.okWide C.prog (w.forCall tape i) .any w.heap.size f i ∧
   ((s.pre enc C.prog fn [] false (w.forCall tape i).memory i.args∧laidMetH C.prog laid (w.forCall tape i).memory)∧sizedMet enc C.prog fn (OpenSpec.ofChange s) false (w.forCall tape i).memory i.args)∧({}:Assume).holds C.prog (lone (Frame.enter C.prog f i.args .normal) [] (w.forCall tape i)))
  (hspec:∀ ds:List (DataW H),ds.length=fn.params.toList.length→s.fn H ds={ results:=[.lit (.bool true)],args:=ds }) (hvars:s.vars=[])
  (hres:fn.resultTypes=#[tb]) (hb:C.prog.underlying tb=some .bool) (laidO:laidOutB C.prog=true)
  (hread:∀ t∈fn.params.toList,C.prog.readableRec t=true∧t < C.prog.types.size)
  (hp:(laid.all fun x=>x.2.handleName?.isNone)=true) (ht:∀ p∈zKt,jJT C.prog laid p) (hsn:∀ g∈zK6,jXK C.prog laid g) (hin:∀ g∈zK7,jKX C.prog g)
  (walk:∀ (W:World) (args:Array Value),zYl W (fun _=>True)→Args C.prog W fn.params.toList args.toList→Calls C.prog f args W fun e W'=>e=.returned (.bool true)∧Below W.heap.size W W') :
  ReturnsInHanded {} C os f .any (fun w args=>(s.pre enc C.prog fn [] false w args∧laidMetH C.prog laid w)∧sizedMet enc C.prog fn (OpenSpec.ofChange s) false w args) (s.post enc C.prog fn false true false false):=by
 refine returnsInHanded_of_calls own started noInit witness ?_
 intro w0 tape i0 _ hshape _ hok hpre _
 obtain ⟨_,_,_,fn',hfn',_,_,_,_,hval⟩:=hok
 have efn:=Option.some.inj (hfn'.symm.trans hfn)
 subst efn
 obtain ⟨⟨⟨ds,gs,before,hW0,_⟩,hlaid0⟩,hz⟩:=hpre
 have hW:=DataW.Whole.of_heap (w':=w0.forCall tape i0) (by rfl) hW0
 have hsz:(DataW.weightsEach C.prog (fn'.params.toList++s.plain.varTypes C.prog) (ds++gs)).all (·≤reachBytes)=true:=hz.weights hW0
 have hlaid:laidMetH C.prog laid (w0.forCall tape i0):=laidMetH.of_heap (w:=(w0.forCall tape i0).memory) (by rfl) hlaid0
 suffices h:Calls C.prog f i0.args (w0.forCall tape i0) fun e W'=>∃ v,e=.returned v∧s.post enc C.prog fn' false true false false (w0.forCall tape i0) i0.args v W' from
  h.mono fun e W' ⟨v,he,hp⟩=>by subst he; exact ChangeSpec.post_blind hp
 generalize w0.forCall tape i0=W at *
 generalize i0.args=args at *
 have hW':=hW
 obtain ⟨p,q,hA,hV,rfl,_,_⟩:=hW
 rw [hvars] at hV
 obtain ⟨rfl,rfl⟩:=trodVars_none hV
 have hvt:s.plain.varTypes C.prog=[]:=by simp [ChangeSpec.plain,DataSpec.varTypes,hvars]
 rw [hvt,List.append_nil,List.append_nil] at hsz
 obtain ⟨ha,hlen⟩:=zJF hA (fun n hn=>by simpa using List.all_eq_true.1 hsz n hn) (fun j t v ht hv=>zUf (hval j t v (by simpa using ht) (by simpa using hv)))
 refine (walk W args (jYk hlaid hp ht hsn fun g hg=>hin g hg W hshape) ha).mono fun e W' ⟨he,bel⟩=>?_
 subst he
 have hs:=hspec ds hlen
 refine ⟨_,rfl,ds,[],p++[],[],p,[],hW',?_,?_,?_,bel.frame _,fun h=>by cases h⟩
 ·rw [List.append_nil,hs,hres]
  exact trodAll_mk1 (shut_bool hb _)
 ·rw [List.append_nil,hs]
  exact zKH laidO bel hread hA
 ·rw [List.append_nil,hs,hvars]
  rfl
end
open Go.Proofs.Tryz (prog)
abbrev jQV:List (String × DataW Unit):=[("compositor/operator.rules", Rows.laid_compositor_operator_rules),("compositor/blend.names", Rows.laid_compositor_blend_names)]
set_option maxRecDepth 100000 in
theorem jKE:∀ p∈zKt,jJT prog jQV p:=by
 intro p hp
 simp only [zKt,List.mem_cons,List.not_mem_nil,or_false] at hp
 rcases hp with rfl | rfl
 ·exact ⟨("compositor/blend.names", Rows.laid_compositor_blend_names),161,(List.mem_cons_of_mem _ List.mem_cons_self),by kernel_rfl,by kernel_rfl,by kernel_rfl⟩
 ·exact ⟨("compositor/operator.rules", Rows.laid_compositor_operator_rules),162,List.mem_cons_self,by kernel_rfl,by kernel_rfl,by kernel_rfl⟩
set_option maxRecDepth 100000 in
theorem jJZ:∀ g∈zK6,jXK prog jQV g:=by
 intro g hg
 simp [zK6] at hg
theorem jKl:∀ g∈zK7,jKX prog g:=by
 intro g hg
 simp only [zK7,List.mem_cons,List.not_mem_nil,or_false] at hg
theorem jZ9:(jQV.all fun x=>x.2.handleName?.isNone)=true:=by kernel_rfl
set_option maxRecDepth 100000 in
theorem jJr (os:Os) (args:Array Value):laidMetH prog jQV ((World.doorLaid prog 400 os).forCall (fun _ _=>0) ⟨#[],args,[]⟩).memory:=
 laidMetH_of_parts3 (fuel:=8) (laidMet_of_run' 8 (by kernel_rfl) (by kernel_rfl)) (by kernel_rfl) (by kernel_rfl)
end Go.Proofs.YthjaljiamllaeaaGreatDoor
