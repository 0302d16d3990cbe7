/-
  Part 3 of what TextParseOfDamage rests on.
-/
import Derived.Test.YtheidkkebdhmkaaGreatDoorTextParseOfDamageZ2
import Derived.ProofKit
import Derived.RangeFuncCalls
import Derived.RegionIn
namespace Go.Proofs.YtheidkkebdhmkaaGreatDoor
open Go.RowKit
set_option linter.unusedVariables false
set_option linter.unusedSimpArgs false
set_option maxRecDepth 20000
set_option maxHeartbeats 4000000
open Go.Proofs.Tryz (prog)
section
attribute [local irreducible] Ans AnsO AnsG AnsN AnsI
open Go.Lib
def wAt (ws:List Lb) (i:Nat):Lb:=(ws[i]?).getD []
def zZu (o:Oq) (a b c:Lb):Oq:={ o with opac:=IntKind.wrap .u16 (numR a 0 65535).1,oper:=(nmR zQn b).1,mode:=(nmR zQe c).1 }
def zJu (a b c:Lb):Bool:=okN 0 65535 a && (nmR zQn b).2 && (nmR zQe c).2
def nilO:Oq:=⟨0,0,0,0,0,0,0,0,0,0,false,false⟩
def zZ0:Lb:=[100,114,97,119]
def zZ1:Lb:=[112,117,115,104]
def sPop:Lb:=[112,111,112]
def opR (ws:List Lb):Oq × Bool:=match ws with
 | [k,i,x,y,m,mx,my,a,b,c]=>if k=zZ0∧[i,m].all (okN 0 255)=true∧[x,y,mx,my].all (okN (-2147483648) 2147483647)=true then (zZu ⟨1,numV i,numV x,numV y,numV m,numV mx,numV my,0,0,0,false,false⟩ a b c,zJu a b c) else (nilO,false)
 | [k,m,mx,my,a,b,c,is,kn]=>if k=zZ1∧okN 0 255 m=true∧[mx,my].all (okN (-2147483648) 2147483647)=true∧[is,kn].all (okN 0 1)=true then (zZu ⟨2,0,0,0,numV m,numV mx,numV my,0,0,0,decide (numV is=1),decide (numV kn=1)⟩ a b c,zJu a b c) else (nilO,false)
 | [k]=>if k=sPop then (popO,true) else (nilO,false)
 | _=>(nilO,false)
theorem jJK {ws:List Lb} (h10:¬ws.length=10) (h9:¬ws.length=9) (h1:¬ws.length=1):opR ws=(nilO,false):=by
 unfold opR
 split
 ·exact absurd rfl h10
 ·exact absurd rfl h9
 ·exact absurd rfl h1
 ·rfl
def gZ7 (xs:List RV):Option RV:=match xs with | [.d (.sl wn wxs)]=>let a:=(zZB (zQb wxs) (-2147483648) 2147483647); some (RV.tup [RV.d (dS a.1.length (is a.1)),RV.d (dQ a.2)]) | _=>none
def gZ8 (xs:List RV):Option RV:=match xs with | [.d (.str s)]=>some (RV.tup [rJ (nmR zQn (ofS s)).1,RV.d (dQ (nmR zQn (ofS s)).2)]) | _=>none
def gZ9 (xs:List RV):Option RV:=match xs with | [.d (.str s)]=>some (RV.tup [rJ (nmR zQe (ofS s)).1,RV.d (dQ (nmR zQe (ofS s)).2)]) | _=>none
def jWd:Gam where
 pure:=fun f xs=>
  if f=118 then gZ5 xs else
  if f=117 then gZ6 xs else
  if f=119 then gZ7 xs else
  if f=143 then gZ8 xs else
  if f=144 then gZ9 xs else
  none
 modes:=fun f=>
  if f=120 then some ([false,true],1,0) else
  none
 proc:=fun f xs bs=>
  if f=120 then (match xs,bs with | [AV.one (Cl.ptr 0 0),AV.one (Cl.d (DV.sl wn wxs))],[Bx.cells [Cl.d (DV.int _ okind),Cl.d (DV.int _ oimage),Cl.d (DV.int _ ox),Cl.d (DV.int _ oy),Cl.d (DV.int _ omask),Cl.d (DV.int _ omx),Cl.d (DV.int _ omy),Cl.d (DV.int _ oopac),Cl.d (DV.int _ ooper),Cl.d (DV.int _ omode),Cl.d (DV.bool oiso),Cl.d (DV.bool okno)]]=>some ⟨AV.one (Cl.d (dQ (zJu (wAt (zQb wxs) 0) (wAt (zQb wxs) 1) (wAt (zQb wxs) 2)))),[bC [cJ (zZu (⟨okind,oimage,ox,oy,omask,omx,omy,oopac,ooper,omode,oiso,okno⟩:Oq) (wAt (zQb wxs) 0) (wAt (zQb wxs) 1) (wAt (zQb wxs) 2)).kind,cJ (zZu (⟨okind,oimage,ox,oy,omask,omx,omy,oopac,ooper,omode,oiso,okno⟩:Oq) (wAt (zQb wxs) 0) (wAt (zQb wxs) 1) (wAt (zQb wxs) 2)).image,cJ (zZu (⟨okind,oimage,ox,oy,omask,omx,omy,oopac,ooper,omode,oiso,okno⟩:Oq) (wAt (zQb wxs) 0) (wAt (zQb wxs) 1) (wAt (zQb wxs) 2)).x,cJ (zZu (⟨okind,oimage,ox,oy,omask,omx,omy,oopac,ooper,omode,oiso,okno⟩:Oq) (wAt (zQb wxs) 0) (wAt (zQb wxs) 1) (wAt (zQb wxs) 2)).y,cJ (zZu (⟨okind,oimage,ox,oy,omask,omx,omy,oopac,ooper,omode,oiso,okno⟩:Oq) (wAt (zQb wxs) 0) (wAt (zQb wxs) 1) (wAt (zQb wxs) 2)).mask,cJ (zZu (⟨okind,oimage,ox,oy,omask,omx,omy,oopac,ooper,omode,oiso,okno⟩:Oq) (wAt (zQb wxs) 0) (wAt (zQb wxs) 1) (wAt (zQb wxs) 2)).mx,cJ (zZu (⟨okind,oimage,ox,oy,omask,omx,omy,oopac,ooper,omode,oiso,okno⟩:Oq) (wAt (zQb wxs) 0) (wAt (zQb wxs) 1) (wAt (zQb wxs) 2)).my,cK (zZu (⟨okind,oimage,ox,oy,omask,omx,omy,oopac,ooper,omode,oiso,okno⟩:Oq) (wAt (zQb wxs) 0) (wAt (zQb wxs) 1) (wAt (zQb wxs) 2)).opac,cJ (zZu (⟨okind,oimage,ox,oy,omask,omx,omy,oopac,ooper,omode,oiso,okno⟩:Oq) (wAt (zQb wxs) 0) (wAt (zQb wxs) 1) (wAt (zQb wxs) 2)).oper,cJ (zZu (⟨okind,oimage,ox,oy,omask,omx,omy,oopac,ooper,omode,oiso,okno⟩:Oq) (wAt (zQb wxs) 0) (wAt (zQb wxs) 1) (wAt (zQb wxs) 2)).mode,Cl.d (dQ (zZu (⟨okind,oimage,ox,oy,omask,omx,omy,oopac,ooper,omode,oiso,okno⟩:Oq) (wAt (zQb wxs) 0) (wAt (zQb wxs) 1) (wAt (zQb wxs) 2)).iso),Cl.d (dQ (zZu (⟨okind,oimage,ox,oy,omask,omx,omy,oopac,ooper,omode,oiso,okno⟩:Oq) (wAt (zQb wxs) 0) (wAt (zQb wxs) 1) (wAt (zQb wxs) 2)).kno)]],false⟩ | _,_=>none) else
  none
 iter:=fun f cs=>
  none
theorem zV6 (o:Oq) (ws:List Lb) (h3:ws.length=3):AnsG prog 120 1 [aPz,AV.one (Cl.d (dS ws.length (strs ws)))] [bC [cJ (o.kind),cJ (o.image),cJ (o.x),cJ (o.y),cJ (o.mask),cJ (o.mx),cJ (o.my),cK (o.opac),cJ (o.oper),cJ (o.mode),Cl.d (dQ o.iso),Cl.d (dQ o.kno)]] ⟨AV.one (Cl.d (dQ (zJu (wAt (zQb (strs ws)) 0) (wAt (zQb (strs ws)) 1) (wAt (zQb (strs ws)) 2)))),[bC [cJ (((zZu (⟨o.kind,o.image,o.x,o.y,o.mask,o.mx,o.my,o.opac,o.oper,o.mode,o.iso,o.kno⟩:Oq) (wAt (zQb (strs ws)) 0) (wAt (zQb (strs ws)) 1) (wAt (zQb (strs ws)) 2)).kind)),cJ (((zZu (⟨o.kind,o.image,o.x,o.y,o.mask,o.mx,o.my,o.opac,o.oper,o.mode,o.iso,o.kno⟩:Oq) (wAt (zQb (strs ws)) 0) (wAt (zQb (strs ws)) 1) (wAt (zQb (strs ws)) 2)).image)),cJ (((zZu (⟨o.kind,o.image,o.x,o.y,o.mask,o.mx,o.my,o.opac,o.oper,o.mode,o.iso,o.kno⟩:Oq) (wAt (zQb (strs ws)) 0) (wAt (zQb (strs ws)) 1) (wAt (zQb (strs ws)) 2)).x)),cJ (((zZu (⟨o.kind,o.image,o.x,o.y,o.mask,o.mx,o.my,o.opac,o.oper,o.mode,o.iso,o.kno⟩:Oq) (wAt (zQb (strs ws)) 0) (wAt (zQb (strs ws)) 1) (wAt (zQb (strs ws)) 2)).y)),cJ (((zZu (⟨o.kind,o.image,o.x,o.y,o.mask,o.mx,o.my,o.opac,o.oper,o.mode,o.iso,o.kno⟩:Oq) (wAt (zQb (strs ws)) 0) (wAt (zQb (strs ws)) 1) (wAt (zQb (strs ws)) 2)).mask)),cJ (((zZu (⟨o.kind,o.image,o.x,o.y,o.mask,o.mx,o.my,o.opac,o.oper,o.mode,o.iso,o.kno⟩:Oq) (wAt (zQb (strs ws)) 0) (wAt (zQb (strs ws)) 1) (wAt (zQb (strs ws)) 2)).mx)),cJ (((zZu (⟨o.kind,o.image,o.x,o.y,o.mask,o.mx,o.my,o.opac,o.oper,o.mode,o.iso,o.kno⟩:Oq) (wAt (zQb (strs ws)) 0) (wAt (zQb (strs ws)) 1) (wAt (zQb (strs ws)) 2)).my)),cK (((zZu (⟨o.kind,o.image,o.x,o.y,o.mask,o.mx,o.my,o.opac,o.oper,o.mode,o.iso,o.kno⟩:Oq) (wAt (zQb (strs ws)) 0) (wAt (zQb (strs ws)) 1) (wAt (zQb (strs ws)) 2)).opac)),cJ (((zZu (⟨o.kind,o.image,o.x,o.y,o.mask,o.mx,o.my,o.opac,o.oper,o.mode,o.iso,o.kno⟩:Oq) (wAt (zQb (strs ws)) 0) (wAt (zQb (strs ws)) 1) (wAt (zQb (strs ws)) 2)).oper)),cJ (((zZu (⟨o.kind,o.image,o.x,o.y,o.mask,o.mx,o.my,o.opac,o.oper,o.mode,o.iso,o.kno⟩:Oq) (wAt (zQb (strs ws)) 0) (wAt (zQb (strs ws)) 1) (wAt (zQb (strs ws)) 2)).mode)),Cl.d (dQ ((zZu (⟨o.kind,o.image,o.x,o.y,o.mask,o.mx,o.my,o.opac,o.oper,o.mode,o.iso,o.kno⟩:Oq) (wAt (zQb (strs ws)) 0) (wAt (zQb (strs ws)) 1) (wAt (zQb (strs ws)) 2)).iso)),Cl.d (dQ ((zZu (⟨o.kind,o.image,o.x,o.y,o.mask,o.mx,o.my,o.opac,o.oper,o.mode,o.iso,o.kno⟩:Oq) (wAt (zQb (strs ws)) 0) (wAt (zQb (strs ws)) 1) (wAt (zQb (strs ws)) 2)).kno))]],false⟩:=
 zQy (Γ:=jWd) Ann.leaf zQs Tryz.func120 rfl (nL rfl) rfl fun hwf hbx=>by
  refine Eq.mpr (by kernel_rfl:_=(let g:=(sAt (strs ws) 1); let h:=(sAt (strs ws) 0); let i:=(sAt (strs ws) 2); let b:=(zQb (strs ws)); let f:=(nmR zQe (ofS i)); let a:=(zZu (⟨o.kind,o.image,o.x,o.y,o.mask,o.mx,o.my,o.opac,o.oper,o.mode,o.iso,o.kno⟩:Oq) (wAt b 0) (wAt b 1) (wAt b 2)); let j:=[bC [cJ a.kind,cJ a.image,cJ a.x,cJ a.y,cJ a.mask,cJ a.mx,cJ a.my,cK a.opac,cJ a.oper,cJ a.mode,Cl.d (dQ a.iso),Cl.d (dQ a.kno)]]; let c:=(zJu (wAt b 0) (wAt b 1) (wAt b 2)); let d:=(numR (ofS h) (0:Int) (65535:Int)); let e:=(nmR zQn (ofS g)); let k:=(([dJ o.kind,dJ o.image,dJ o.x,dJ o.y,dJ o.mask,dJ o.mx,dJ o.my,dK (IntKind.wrap .u16 d.1),dJ e.1,dJ f.1,dQ o.iso,dQ o.kno]=(Oq.cells a))∧True); let l:=(((dQ false=dQ c)∧True)∧k); tU2 ((0≤(0:Int)∧(0:Int) < (ws.length:Int)∧0 < (strs ws).length)∧(((strs ws)[0]?=some (DV.str h))∧True)∧(Ans prog 118 [RV.d (DV.str h),rJ 0,rJ 65535] (RV.tup [rJ d.1,RV.d (dQ d.2)]))∧tU6 ((0≤(1:Int)∧(1:Int) < (ws.length:Int)∧1 < (strs ws).length)∧(((strs ws)[1]?=some (DV.str g))∧True)∧(Ans prog 143 [RV.d (DV.str g)] (RV.tup [rJ e.1,RV.d (dQ e.2)]))∧tU6 ((0≤(2:Int)∧(2:Int) < (ws.length:Int)∧2 < (strs ws).length)∧(((strs ws)[2]?=some (DV.str i))∧True)∧(Ans prog 144 [RV.d (DV.str i)] (RV.tup [rJ f.1,RV.d (dQ f.2)]))∧tU7 (tU8 (tU8 ((d.2=true→tU3 ((e.2=true→tU3 ((((dQ f.2=dQ c)∧True)∧k)∧zQm ⟨AV.one (Cl.d (dQ c)),j,false⟩))∧(e.2=(!true)→tU2 (l∧zQm ⟨AV.one (Cl.d (dQ c)),j,false⟩))))∧(d.2=(!true)→tU4 (l∧zQm ⟨AV.one (Cl.d (dQ c)),j,false⟩)))))))))) ?_
  delta dJ dK dQ cJ cK rJ bC
  simp only [sS]
  match ws,h3 with
  | [a,b,c],_=>
     have s0:sAt (strs [a,b,c]) 0=toS a:=rfl
     have s1:sAt (strs [a,b,c]) 1=toS b:=rfl
     have s2:sAt (strs [a,b,c]) 2=toS c:=rfl
     have wl:zQb (strs [a,b,c])=[a,b,c]:=zQw _
     have w0:wAt [a,b,c] 0=a:=rfl
     have w1:wAt [a,b,c] 1=b:=rfl
     have w2:wAt [a,b,c] 2=c:=rfl
     have aN:=zX4 a 0 65535
     have aO:=zUG b
     have aM:=zVM c
     have h2:(numR a 0 65535).2=okN 0 65535 a:=rfl
     clear hwf hbx
     simp only [s0,s1,s2,wl,w0,w1,w2,zQN,h2,List.length_cons,List.length_nil,zZe] at aN aO aM ⊢
     refine ⟨⟨by omega,by omega,by omega⟩,rfl,aN,⟨by omega,by omega,by omega⟩,rfl,aO,⟨by omega,by omega,by omega⟩,rfl,aM,fun h1=>⟨fun h2=>⟨⟨?_,rfl⟩,trivial⟩,fun h2=>⟨⟨?_,rfl⟩,trivial⟩⟩,fun h1=>⟨⟨?_,rfl⟩,trivial⟩⟩
     ·unfold zJu; rw [h1,h2]; simp
     ·unfold zJu; rw [h1,h2]; rfl
     ·unfold zJu; rw [h1]; rfl
theorem jQB (ws:List Lb) (hl:ws.length≤68719476736):Ans prog 86 [RV.d (dS ws.length (strs ws))] (RV.tup [RV.agg [dJ ((opR (zQb (strs ws))).1.kind),dJ ((opR (zQb (strs ws))).1.image),dJ ((opR (zQb (strs ws))).1.x),dJ ((opR (zQb (strs ws))).1.y),dJ ((opR (zQb (strs ws))).1.mask),dJ ((opR (zQb (strs ws))).1.mx),dJ ((opR (zQb (strs ws))).1.my),dK ((opR (zQb (strs ws))).1.opac),dJ ((opR (zQb (strs ws))).1.oper),dJ ((opR (zQb (strs ws))).1.mode),dQ ((opR (zQb (strs ws))).1.iso),dQ ((opR (zQb (strs ws))).1.kno)],RV.d (dQ ((opR (zQb (strs ws))).2))]):=
 zQj (Γ:=jWd) Ann.leaf zQs Tryz.func86 rfl (nL rfl) fun hwf=>by
  refine Eq.mpr (by kernel_rfl:_=(let s:=(sAt (strs ws) 1); let A:=([DV.str s,DV.str (sAt (strs ws) 4)]); let n:=(sAt (strs ws) 0); let B:=([DV.str (sAt (strs ws) 2),DV.str (sAt (strs ws) 3),DV.str (sAt (strs ws) 5),DV.str (sAt (strs ws) 6)]); let b:=(ws.length:Int); let a:=(zZB (zQb B) (-2147483648) 2147483647); let t:=(a.1.length:Int); let d:=(zZB (zQb A) (0:Int) (255:Int)); let C:=(List.take ((b - 7).toNat*1) (List.drop ((7:Int).toNat*1) (strs ws))); let D:=(dS (b - 7).toNat C); let o:=(zQb C); let E:=(dQ (zJu (wAt o 0) (wAt o 1) (wAt o 2))); let m:=(zZu (⟨(1:Int),(nAt (is d.1) 0),(nAt (is a.1) 0),(nAt (is a.1) 1),(nAt (is d.1) 1),(nAt (is a.1) 2),(nAt (is a.1) 3),(0:Int),(0:Int),(0:Int),false,false⟩:Oq) (wAt o 0) (wAt o 1) (wAt o 2)); let e:=(zZB o (0:Int) (1:Int)); let f:=((nAt (is e.1) 1)==1); let g:=((nAt (is e.1) 0)==1); let c:=(numR (ofS s) (0:Int) (255:Int)); let v:=(0≤(0:Int)∧(0:Int) < b∧0 < (strs ws).length); let w:=(((strs ws)[0]?=some (DV.str n))∧True); let F:=(0≤(1:Int)∧(1:Int) < b∧1 < (strs ws).length); let G:=(((strs ws)[1]?=some (DV.str s))∧True); let X:=[RV.agg [dJ 0,dJ 0,dJ 0,dJ 0,dJ 0,dJ 0,dJ 0,dK 0,dJ 0,dJ 0,dQ false,dQ false],RV.d (dQ false)]; let u:=[RV.agg (Oq.cells (opR (zQb (strs ws))).1),RV.d (dQ (opR (zQb (strs ws))).2)]; let p:=(RV.tup X=RV.tup u); let H:=(dJ (nAt (is d.1) 0)); let I:=(dJ (nAt (is a.1) 0)); let J:=(dJ (nAt (is a.1) 1)); let K:=(dJ (nAt (is d.1) 1)); let L:=(dJ (nAt (is a.1) 2)); let M:=(dJ (nAt (is a.1) 3)); let N:=(0≤(7:Int)∧(7:Int)≤b∧b≤b); let O:=(dJ c.1); let P:=(List.take (((4:Int) - 2).toNat*1) (List.drop ((2:Int).toNat*1) (strs ws))); let r:=(zZB (zQb P) (-2147483648) 2147483647); let Q:=((r.1.length:Nat):Int); let q:=(is r.1); let h:=(nAt q 1); let i:=(nAt q 0); let R:=(dJ i); let S:=(dJ h); let T:=(List.take (((7:Int) - 4).toNat*1) (List.drop ((4:Int).toNat*1) (strs ws))); let z:=(zQb T); let j:=(wAt z 2); let k:=(wAt z 1); let l:=(wAt z 0); let U:=(dQ (zJu l k j)); let V:=(((b==1)=true→True∧v∧w∧tU3 (((n.toList==(⟨#[112,111,112]⟩:ByteArray).toList)=true→tU3 (RV.tup [RV.agg [dJ 3,dJ 0,dJ 0,dJ 0,dJ 0,dJ 0,dJ 0,dK 0,dJ 0,dJ 0,dQ false,dQ false],RV.d (dQ true)]=RV.tup u))∧((n.toList==(⟨#[112,111,112]⟩:ByteArray).toList)=false→tU3 p)))∧((b==1)=(!true)→tU5 p)); let W:=(((b==9)=true→True∧v∧w∧tU3 (((n.toList==(⟨#[112,117,115,104]⟩:ByteArray).toList)=true→True∧F∧G∧(Ans prog 118 [RV.d (DV.str s),rJ 0,rJ 255] (RV.tup [RV.d O,RV.d (dQ c.2)]))∧tU6 ((0≤(2:Int)∧(2:Int)≤4∧(4:Int)≤b)∧(Ans prog 119 [RV.d (dS ((4:Int) - 2).toNat P)] (RV.tup [RV.d (dS r.1.length q),RV.d (dQ r.2)]))∧tU6 (N∧(Ans prog 117 [RV.d D,rJ 0,rJ 1] (RV.tup [RV.d (dS e.1.length (is e.1)),RV.d (dQ e.2)]))∧tU8 (((!c.2)=false→tU4 (((!r.2)=false→tU3 (((!e.2)=true→tU3 p)∧((!e.2)=false→tU2 ((0≤(0:Int)∧(0:Int) < Q∧0 < q.length)∧((q[0]?=some R)∧True)∧True∧(0≤(1:Int)∧(1:Int) < Q∧1 < q.length)∧((q[1]?=some S)∧True)∧True∧(0≤(0:Int)∧(0:Int) < (e.1.length:Int)∧0 < (is e.1).length)∧(((is e.1)[0]?=some (dJ (nAt (is e.1) 0)))∧True)∧tU2 ((0≤(1:Int)∧(1:Int) < (e.1.length:Int)∧1 < (is e.1).length)∧(((is e.1)[1]?=some (dJ (nAt (is e.1) 1)))∧True)∧tU4 ((true=true)∧True∧(0≤(4:Int)∧(4:Int)≤7∧(7:Int)≤b)∧(AnsG prog 120 1 [aPz,AV.one (Cl.d (dS ((7:Int) - 4).toNat T))] [bC [cJ 2,cJ 0,cJ 0,cJ 0,Cl.d O,Cl.d R,Cl.d S,cK 0,cJ 0,cJ 0,Cl.d (dQ g),Cl.d (dQ f)]] ⟨AV.one (Cl.d U),[bC [cJ (zZu (⟨(2:Int),(0:Int),(0:Int),(0:Int),c.1,i,h,(0:Int),(0:Int),(0:Int),g,f⟩:Oq) l k j).kind,cJ (zZu (⟨(2:Int),(0:Int),(0:Int),(0:Int),c.1,i,h,(0:Int),(0:Int),(0:Int),g,f⟩:Oq) l k j).image,cJ (zZu (⟨(2:Int),(0:Int),(0:Int),(0:Int),c.1,i,h,(0:Int),(0:Int),(0:Int),g,f⟩:Oq) l k j).x,cJ (zZu (⟨(2:Int),(0:Int),(0:Int),(0:Int),c.1,i,h,(0:Int),(0:Int),(0:Int),g,f⟩:Oq) l k j).y,cJ (zZu (⟨(2:Int),(0:Int),(0:Int),(0:Int),c.1,i,h,(0:Int),(0:Int),(0:Int),g,f⟩:Oq) l k j).mask,cJ (zZu (⟨(2:Int),(0:Int),(0:Int),(0:Int),c.1,i,h,(0:Int),(0:Int),(0:Int),g,f⟩:Oq) l k j).mx,cJ (zZu (⟨(2:Int),(0:Int),(0:Int),(0:Int),c.1,i,h,(0:Int),(0:Int),(0:Int),g,f⟩:Oq) l k j).my,cK (zZu (⟨(2:Int),(0:Int),(0:Int),(0:Int),c.1,i,h,(0:Int),(0:Int),(0:Int),g,f⟩:Oq) l k j).opac,cJ (zZu (⟨(2:Int),(0:Int),(0:Int),(0:Int),c.1,i,h,(0:Int),(0:Int),(0:Int),g,f⟩:Oq) l k j).oper,cJ (zZu (⟨(2:Int),(0:Int),(0:Int),(0:Int),c.1,i,h,(0:Int),(0:Int),(0:Int),g,f⟩:Oq) l k j).mode,Cl.d (dQ (zZu (⟨(2:Int),(0:Int),(0:Int),(0:Int),c.1,i,h,(0:Int),(0:Int),(0:Int),g,f⟩:Oq) l k j).iso),Cl.d (dQ (zZu (⟨(2:Int),(0:Int),(0:Int),(0:Int),c.1,i,h,(0:Int),(0:Int),(0:Int),g,f⟩:Oq) l k j).kno)]],false⟩)∧tU5 (RV.tup [RV.agg (Oq.cells (zZu (⟨(2:Int),(0:Int),(0:Int),(0:Int),c.1,i,h,(0:Int),(0:Int),(0:Int),g,f⟩:Oq) l k j)),RV.d U]=RV.tup u)))))))∧((!r.2)=(!false)→tU4 p)))∧((!c.2)=(!false)→tU6 p)))))∧((n.toList==(⟨#[112,117,115,104]⟩:ByteArray).toList)=false→tU4 V)))∧((b==9)=(!true)→tU6 V)); tU6 (((b==10)=true→True∧v∧w∧tU3 (((n.toList==(⟨#[100,114,97,119]⟩:ByteArray).toList)=true→True∧F∧G∧True∧(0≤(4:Int)∧(4:Int) < b∧4 < (strs ws).length)∧(((strs ws)[4]?=some (DV.str (sAt (strs ws) 4)))∧True)∧True∧(Ans prog 117 [RV.d (dS 2 A),rJ 0,rJ 255] (RV.tup [RV.d (dS d.1.length (is d.1)),RV.d (dQ d.2)]))∧tU5 ((true=true)∧True∧(0≤(2:Int)∧(2:Int) < b∧2 < (strs ws).length)∧(((strs ws)[2]?=some (DV.str (sAt (strs ws) 2)))∧True)∧True∧(0≤(3:Int)∧(3:Int) < b∧3 < (strs ws).length)∧(((strs ws)[3]?=some (DV.str (sAt (strs ws) 3)))∧True)∧True∧(0≤(5:Int)∧(5:Int) < b∧5 < (strs ws).length)∧(((strs ws)[5]?=some (DV.str (sAt (strs ws) 5)))∧True)∧True∧(0≤(6:Int)∧(6:Int) < b∧6 < (strs ws).length)∧(((strs ws)[6]?=some (DV.str (sAt (strs ws) 6)))∧True)∧True∧(Ans prog 119 [RV.d (dS 4 B)] (RV.tup [RV.d (dS a.1.length (is a.1)),RV.d (dQ a.2)]))∧tU5 ((true=true)∧tU3 (((!d.2)=false→tU3 (((!a.2)=true→tU3 p)∧((!a.2)=false→True∧(0≤(0:Int)∧(0:Int) < (d.1.length:Int)∧0 < (is d.1).length)∧(((is d.1)[0]?=some H)∧True)∧True∧(0≤(0:Int)∧(0:Int) < t∧0 < (is a.1).length)∧(((is a.1)[0]?=some I)∧True)∧True∧(0≤(1:Int)∧(1:Int) < t∧1 < (is a.1).length)∧(((is a.1)[1]?=some J)∧True)∧True∧(0≤(1:Int)∧(1:Int) < (d.1.length:Int)∧1 < (is d.1).length)∧(((is d.1)[1]?=some K)∧True)∧True∧(0≤(2:Int)∧(2:Int) < t∧2 < (is a.1).length)∧(((is a.1)[2]?=some L)∧True)∧True∧(0≤(3:Int)∧(3:Int) < t∧3 < (is a.1).length)∧(((is a.1)[3]?=some M)∧True)∧tU3 ((true=true)∧True∧N∧(AnsG prog 120 1 [aPz,AV.one (Cl.d D)] [bC [cJ 1,Cl.d H,Cl.d I,Cl.d J,Cl.d K,Cl.d L,Cl.d M,cK 0,cJ 0,cJ 0,Cl.d (dQ false),Cl.d (dQ false)]] ⟨AV.one (Cl.d E),[bC [cJ m.kind,cJ m.image,cJ m.x,cJ m.y,cJ m.mask,cJ m.mx,cJ m.my,cK m.opac,cJ m.oper,cJ m.mode,Cl.d (dQ m.iso),Cl.d (dQ m.kno)]],false⟩)∧tU5 (RV.tup [RV.agg (Oq.cells m),RV.d E]=RV.tup u)))))∧((!d.2)=(!false)→tU4 p)))))∧((n.toList==(⟨#[100,114,97,119]⟩:ByteArray).toList)=false→tU4 W)))∧((b==10)=(!true)→tU6 W)))) ?_
  delta dJ dK dQ cJ cK dS rJ aPz bC
  simp only [sS]
  have bz:∀ {p:Prop},(true=false)→p:=fun h=>by cases h
  have bz2:∀ {p:Prop},(false=true)→p:=fun h=>by cases h
  have lt:(⟨#[100,114,97,119]⟩:ByteArray)=toS zZ0:=rfl
  have lp:(⟨#[112,117,115,104]⟩:ByteArray)=toS zZ1:=rfl
  have lq:(⟨#[112,111,112]⟩:ByteArray)=toS sPop:=rfl
  clear hwf
  by_cases h10:ws.length=10
  ·match ws,h10 with
   | [k,i,x,y,m,mx,my,a,b,c],_=>
     have s0:sAt (strs [k,i,x,y,m,mx,my,a,b,c]) 0=toS k:=rfl
     have s1:sAt (strs [k,i,x,y,m,mx,my,a,b,c]) 1=toS i:=rfl
     have s2:sAt (strs [k,i,x,y,m,mx,my,a,b,c]) 2=toS x:=rfl
     have s3:sAt (strs [k,i,x,y,m,mx,my,a,b,c]) 3=toS y:=rfl
     have s4:sAt (strs [k,i,x,y,m,mx,my,a,b,c]) 4=toS m:=rfl
     have s5:sAt (strs [k,i,x,y,m,mx,my,a,b,c]) 5=toS mx:=rfl
     have s6:sAt (strs [k,i,x,y,m,mx,my,a,b,c]) 6=toS my:=rfl
     have s7:sAt (strs [k,i,x,y,m,mx,my,a,b,c]) 7=toS a:=rfl
     have s8:sAt (strs [k,i,x,y,m,mx,my,a,b,c]) 8=toS b:=rfl
     have s9:sAt (strs [k,i,x,y,m,mx,my,a,b,c]) 9=toS c:=rfl
     have wl:zQb (strs [k,i,x,y,m,mx,my,a,b,c])=[k,i,x,y,m,mx,my,a,b,c]:=zQw _
     have hlen:[k,i,x,y,m,mx,my,a,b,c].length=10:=rfl
     have e1:zQb [DV.str (toS i),DV.str (toS m)]=[i,m]:=rfl
     have e2:zQb [DV.str (toS x),DV.str (toS y),DV.str (toS mx),DV.str (toS my)]=[x,y,mx,my]:=rfl
     have a1:=zZZ [i,m] 0 255 (by simp)
     have a2:=zYe [x,y,mx,my] (by simp)
     have aT:=zV6 ⟨1,numV i,numV x,numV y,numV m,numV mx,numV my,0,0,0,false,false⟩ [a,b,c] rfl
     simp only [zQw] at a1 a2
     have hopR:opR [k,i,x,y,m,mx,my,a,b,c]=if k=zZ0∧[i,m].all (okN 0 255)=true∧[x,y,mx,my].all (okN (-2147483648) 2147483647)=true then (zZu ⟨1,numV i,numV x,numV y,numV m,numV mx,numV my,0,0,0,false,false⟩ a b c,zJu a b c) else (nilO,false):=rfl
     have d7:List.take ([a,b,c].length*1) (List.drop (Int.toNat 7*1) (strs [k,i,x,y,m,mx,my,a,b,c]))=strs [a,b,c]:=rfl
     have d7l:(((10:Nat):Int) - 7).toNat=[a,b,c].length:=rfl
     have l1:([i,m].map numV).length=2:=rfl
     have l2:([x,y,mx,my].map numV).length=4:=rfl
     have n10:nAt (is ([i,m].map numV)) 0=numV i:=rfl
     have n11:nAt (is ([i,m].map numV)) 1=numV m:=rfl
     have n20:nAt (is ([x,y,mx,my].map numV)) 0=numV x:=rfl
     have n21:nAt (is ([x,y,mx,my].map numV)) 1=numV y:=rfl
     have n22:nAt (is ([x,y,mx,my].map numV)) 2=numV mx:=rfl
     have n23:nAt (is ([x,y,mx,my].map numV)) 3=numV my:=rfl
     have h109:((((10:Nat):Int))==9)=false:=rfl
     have h101:((((10:Nat):Int))==1)=false:=rfl
     have h1010:((((10:Nat):Int))==10)=true:=rfl
     simp only [s0,s1,s2,s3,s4,s5,s6,s7,s8,s9,wl,e1,e2,lt,zXj,hlen,zZe,hopR,d7,d7l,h1010,h109,h101,Bool.false_eq_true,Bool.true_eq_false,false_implies,true_implies,true_and,and_true] at a1 a2 ⊢
     by_cases hk:k=zZ0
     ·by_cases h1:[i,m].all (okN 0 255)=true
      ·by_cases h2:[x,y,mx,my].all (okN (-2147483648) 2147483647)=true
       ·rw [zZA h1] at a1 ⊢
        rw [zZA h2] at a2 ⊢
        simp only [hk,h1,h2,and_self,if_true,decide_true,Bool.true_eq_false,Bool.false_eq_true,false_implies,true_implies,and_true,true_and,n10,n11,n20,n21,n22,n23,l1,l2,zZc]
        (repeat' (first | apply And.intro | intro _)) <;> first | exact trivial | (rename_i h; first | exact bz h | exact bz2 h) | (clear aT a1 a2; omega) | exact a1 | exact a2 | exact aT | rfl | (exfalso; clear aT a1 a2; simp_all; done)
       ·have h2':[x,y,mx,my].all (okN (-2147483648) 2147483647)=false:=by simpa using h2
        rw [zZA h1] at a1 ⊢
        rw [zZM h2'] at a2 ⊢
        simp only [hk,h1,h2',and_false,Bool.false_eq_true,Bool.true_eq_false,false_implies,true_implies,and_true,true_and,if_false,decide_true]
        (repeat' (first | apply And.intro | intro _)) <;> first | exact trivial | (rename_i h; first | exact bz h | exact bz2 h) | (clear aT a1 a2; omega) | exact a1 | exact a2 | exact aT | rfl | (exfalso; clear aT a1 a2; simp_all; done)
      ·have h1':[i,m].all (okN 0 255)=false:=by simpa using h1
       rw [zZM h1'] at a1 ⊢
       simp only [hk,h1',false_and,and_false,Bool.false_eq_true,Bool.true_eq_false,false_implies,true_implies,and_true,true_and,if_false,decide_true]
       (repeat' (first | apply And.intro | intro _)) <;> first | exact trivial | (rename_i h; first | exact bz h | exact bz2 h) | (clear aT a1 a2; omega) | exact a1 | exact a2 | exact aT | rfl | (exfalso; clear aT a1 a2; simp_all; done)
     ·have hkf:decide (k=zZ0)=false:=decide_eq_false hk
      simp only [hkf,hk,decide_false,false_and,if_false,Bool.true_eq_false,Bool.false_eq_true,false_implies,true_implies,and_true,true_and]
      (repeat' (first | apply And.intro | intro _)) <;> first | exact trivial | (rename_i h; first | exact bz h | exact bz2 h) | (clear aT a1 a2; omega) | exact a1 | exact a2 | exact aT | rfl | (exfalso; clear aT a1 a2; simp_all; done)
  ·by_cases h9:ws.length=9
   ·match ws,h9 with
    | [k,m,mx,my,a,b,c,is_,kn],_=>
     have s0:sAt (strs [k,m,mx,my,a,b,c,is_,kn]) 0=toS k:=rfl
     have s1:sAt (strs [k,m,mx,my,a,b,c,is_,kn]) 1=toS m:=rfl
     have s2:sAt (strs [k,m,mx,my,a,b,c,is_,kn]) 2=toS mx:=rfl
     have s3:sAt (strs [k,m,mx,my,a,b,c,is_,kn]) 3=toS my:=rfl
     have s4:sAt (strs [k,m,mx,my,a,b,c,is_,kn]) 4=toS a:=rfl
     have s5:sAt (strs [k,m,mx,my,a,b,c,is_,kn]) 5=toS b:=rfl
     have s6:sAt (strs [k,m,mx,my,a,b,c,is_,kn]) 6=toS c:=rfl
     have s7:sAt (strs [k,m,mx,my,a,b,c,is_,kn]) 7=toS is_:=rfl
     have s8:sAt (strs [k,m,mx,my,a,b,c,is_,kn]) 8=toS kn:=rfl
     have wl:zQb (strs [k,m,mx,my,a,b,c,is_,kn])=[k,m,mx,my,a,b,c,is_,kn]:=zQw _
     have hlen:[k,m,mx,my,a,b,c,is_,kn].length=9:=rfl
     have a1:=zX4 m 0 255
     have a2:=zYe [mx,my] (by simp)
     have a3:=zZZ [is_,kn] 0 1 (by simp)
     have aT:=zV6 ⟨2,0,0,0,numV m,numV mx,numV my,0,0,0,decide (numV is_=1),decide (numV kn=1)⟩ [a,b,c] rfl
     simp only [zQw,zQN] at a1 a2 a3
     have hopR:opR [k,m,mx,my,a,b,c,is_,kn]=if k=zZ1∧okN 0 255 m=true∧[mx,my].all (okN (-2147483648) 2147483647)=true∧[is_,kn].all (okN 0 1)=true then (zZu ⟨2,0,0,0,numV m,numV mx,numV my,0,0,0,decide (numV is_=1),decide (numV kn=1)⟩ a b c,zJu a b c) else (nilO,false):=rfl
     have d7:List.take ([is_,kn].length*1) (List.drop (Int.toNat 7*1) (strs [k,m,mx,my,a,b,c,is_,kn]))=strs [is_,kn]:=rfl
     have d7l:(((9:Nat):Int) - 7).toNat=[is_,kn].length:=rfl
     have d2:List.take ([mx,my].length*1) (List.drop (Int.toNat 2*1) (strs [k,m,mx,my,a,b,c,is_,kn]))=strs [mx,my]:=rfl
     have d2l:((4:Int) - 2).toNat=[mx,my].length:=rfl
     have d4:List.take ([a,b,c].length*1) (List.drop (Int.toNat 4*1) (strs [k,m,mx,my,a,b,c,is_,kn]))=strs [a,b,c]:=rfl
     have d4l:((7:Int) - 4).toNat=[a,b,c].length:=rfl
     have l1:([mx,my].map numV).length=2:=rfl
     have l2:([is_,kn].map numV).length=2:=rfl
     have n10:nAt (is ([mx,my].map numV)) 0=numV mx:=rfl
     have n11:nAt (is ([mx,my].map numV)) 1=numV my:=rfl
     have n20:nAt (is ([is_,kn].map numV)) 0=numV is_:=rfl
     have n21:nAt (is ([is_,kn].map numV)) 1=numV kn:=rfl
     have hm2:(numR m 0 255).2=okN 0 255 m:=rfl
     have hb:∀ v:Int,(v==1)=decide (v=1):=fun v=>by rw [Bool.eq_iff_iff]; simp
     have h910:((((9:Nat):Int))==10)=false:=rfl
     have h91:((((9:Nat):Int))==1)=false:=rfl
     have h99:((((9:Nat):Int))==9)=true:=rfl
     simp only [s0,s1,s2,s3,s4,s5,s6,s7,s8,wl,lt,lp,zXj,zQN,hlen,zZe,hopR,d7,d7l,d2,d2l,d4,d4l,zQw,hm2,hb,h910,h99,h91,Bool.false_eq_true,Bool.true_eq_false,false_implies,true_implies,true_and,and_true] at a1 a2 a3 ⊢
     by_cases hk:k=zZ1
     ·by_cases h1:okN 0 255 m=true
      ·have hc1:(numR m 0 255).1=numV m:=by
        unfold okN at h1
        simp only [Bool.and_eq_true] at h1
        unfold numR; rw [if_pos h1.1.1]
       rw [h1] at a1
       by_cases h2:[mx,my].all (okN (-2147483648) 2147483647)=true
       ·by_cases h3:[is_,kn].all (okN 0 1)=true
        ·rw [zZA h2] at a2 ⊢
         rw [zZA h3] at a3 ⊢
         rw [hc1] at a1
         simp only [hk,h1,h2,h3,hc1,and_self,if_true,decide_true,Bool.true_eq_false,Bool.false_eq_true,false_implies,true_implies,and_true,true_and,n10,n11,n20,n21,l1,l2,zZc]
         (repeat' (first | apply And.intro | intro _)) <;> first | exact trivial | (rename_i h; first | exact bz h | exact bz2 h) | (clear aT a1 a2 a3; omega) | exact a1 | exact a2 | exact a3 | exact aT | rfl | (exfalso; clear aT a1 a2 a3; simp_all; done)
        ·have h3':[is_,kn].all (okN 0 1)=false:=by simpa using h3
         rw [zZA h2] at a2 ⊢
         rw [zZM h3'] at a3 ⊢
         simp only [hk,h1,h2,h3',and_false,Bool.false_eq_true,Bool.true_eq_false,false_implies,true_implies,and_true,true_and,if_false,decide_true]
         (repeat' (first | apply And.intro | intro _)) <;> first | exact trivial | (rename_i h; first | exact bz h | exact bz2 h) | (clear aT a1 a2 a3; omega) | exact a1 | exact a2 | exact a3 | exact aT | rfl | (exfalso; clear aT a1 a2 a3; simp_all; done)
       ·have h2':[mx,my].all (okN (-2147483648) 2147483647)=false:=by simpa using h2
        rw [zZM h2'] at a2 ⊢
        simp only [hk,h1,h2',false_and,and_false,Bool.false_eq_true,Bool.true_eq_false,false_implies,true_implies,and_true,true_and,if_false,decide_true]
        (repeat' (first | apply And.intro | intro _)) <;> first | exact trivial | (rename_i h; first | exact bz h | exact bz2 h) | (clear aT a1 a2 a3; omega) | exact a1 | exact a2 | exact a3 | exact aT | rfl | (exfalso; clear aT a1 a2 a3; simp_all; done)
      ·have h1':okN 0 255 m=false:=by simpa using h1
       rw [h1'] at a1
       simp only [hk,h1',false_and,and_false,Bool.false_eq_true,Bool.true_eq_false,false_implies,true_implies,and_true,true_and,if_false,decide_true]
       (repeat' (first | apply And.intro | intro _)) <;> first | exact trivial | (rename_i h; first | exact bz h | exact bz2 h) | (clear aT a1 a2 a3; omega) | exact a1 | exact a2 | exact a3 | exact aT | rfl | (exfalso; clear aT a1 a2 a3; simp_all; done)
     ·have hkf:decide (k=zZ1)=false:=decide_eq_false hk
      simp only [hkf,hk,decide_false,false_and,if_false,Bool.true_eq_false,Bool.false_eq_true,false_implies,true_implies,and_true,true_and]
      (repeat' (first | apply And.intro | intro _)) <;> first | exact trivial | (rename_i h; first | exact bz h | exact bz2 h) | (clear aT a1 a2 a3; omega) | exact a1 | exact a2 | exact a3 | exact aT | rfl | (exfalso; clear aT a1 a2 a3; simp_all; done)
   ·have h10f:(((ws.length:Int))==10)=false:=by simp; omega
    have h9f:(((ws.length:Int))==9)=false:=by simp; omega
    simp only [h10f,h9f,Bool.false_eq_true,Bool.true_eq_false,false_implies,true_implies,true_and,and_true,zQw]
    by_cases h1:ws.length=1
    ·match ws,h1 with
     | [k],_=>
      have s0:sAt (strs [k]) 0=toS k:=rfl
      have hlen:[k].length=1:=rfl
      have hopR:opR [k]=if k=sPop then (popO,true) else (nilO,false):=rfl
      simp only [s0,hlen,zZe,lq,zXj,hopR]
      by_cases hk:k=sPop
      ·simp only [hk,if_true,decide_true]
       refine ⟨fun _=>⟨⟨by omega,by omega,by omega⟩,rfl,fun _=>⟨rfl,trivial⟩,fun h=>bz h⟩,fun h=>absurd h (by decide)⟩
      ·simp only [hk,if_false,decide_false]
       refine ⟨fun _=>⟨⟨by omega,by omega,by omega⟩,rfl,fun h=>bz2 h,fun _=>⟨rfl,trivial⟩⟩,fun h=>absurd h (by decide)⟩
    ·have h1f:(((ws.length:Int))==1)=false:=by simp; omega
     simp only [h1f,Bool.false_eq_true,false_implies,true_implies,true_and,and_true]
     rw [jJK h10 h9 h1]
     exact ⟨rfl,rfl⟩
end
def zHJ (p q:Pl):Bool:=jWr p.w p.h p.s p.n p.xs q.w q.h q.s q.n q.xs
def Im.same (m n:Im):Bool:=zHJ m.p0 n.p0 && (zHJ m.p1 n.p1 && (zHJ m.p2 n.p2 && (zHJ m.p3 n.p3 && (zHJ m.p4 n.p4 && (decide (m.w=n.w) && (decide (m.h=n.h) && ((m.so==n.so) && decide (m.c=n.c))))))))
def zQu (l:List Px) (g:Px→Int) (k:Nat):List DV:=us ((l.take k).map g)++List.replicate (l.length - k) (.int .u16 0)
theorem zKe {l:List Px} {g:Px→Int} {k:Nat} (h:k≤l.length):(zQu l g k).length=l.length:=by
 unfold zQu
 rw [List.length_append,zJy,List.length_map,List.length_take,List.length_replicate]; omega
theorem zXx (l:List Px) (g:Px→Int):zQu l g 0=List.replicate l.length (.int .u16 0):=by simp [zQu,us]
theorem zKf (l:List Px) (g:Px→Int):zQu l g l.length=chan l g:=by simp [zQu,chan]
theorem zYp {l:List Px} {g:Px→Int} {k:Nat} (h:k < l.length) {v:Int} (hv:v=g l[k]):(zQu l g k).set k (.int .u16 v)=zQu l g (k+1):=by
 subst hv
 have hl:(us ((l.take k).map g)).length=k:=by rw [zJy,List.length_map,List.length_take]; omega
 unfold zQu
 rw [List.set_append_right _ _ (by omega),hl,Nat.sub_self,show l.length - k=(l.length - (k+1))+1 by omega,List.replicate_succ,List.set_cons_zero,List.take_add_one,List.getElem?_eq_getElem h,Option.toList_some,List.map_append,← jXY]
 simp [us]
theorem zYL {l:List Px} {k j:Nat} (h:k < l.length) (hj:j < 5):(pxs l)[k*5+j]?=some (.int .u16 (nAt (pxs l) (k*5+j))):=by
 obtain ⟨a0,a1,a2,a3,a4⟩:=zWO h
 obtain ⟨b0,b1,b2,b3,b4⟩:=zZr h
 match j,hj with
 | 0,_=>rw [Nat.add_zero,a0,b0]
 | 1,_=>rw [a1,b1]
 | 2,_=>rw [a2,b2]
 | 3,_=>rw [a3,b3]
 | 4,_=>rw [a4,b4]
theorem jZB {l:List Px} {k:Nat} (h:k < l.length):(pxs l)[k*5]?=some (.int .u16 (nAt (pxs l) (k*5))):=zYL (j:=0) h (by omega)
theorem zKx {l:List Px} {g:Px→Int} {k:Nat} (hlt:(k:Int) < (l.length:Int)) (hb:l.length≤16777216) {v:Int} (hv:∀ h:k < l.length,v=g l[k]) :
  ∃ k':Nat,k'≤l.length∧l.length - k' < l.length - k∧IntKind.wrap .i64 ((k:Int)+1)=(k':Int)∧(zQu l g k).set (k*1) (.int .u16 v)=zQu l g k':=
 have h:k < l.length:=by omega
 ⟨k+1,by omega,by omega,zXE (by omega),by rw [Nat.mul_one]; exact zYp h (hv h)⟩
theorem jYB {l:List Px} {k:Nat} (hlt:(k:Int) < (l.length:Int)) (hb:l.length≤16777216) {v1 v2 v3 v4 v5:Int} (h1:∀ h:k < l.length,v1=l[k].a) (h2:∀ h:k < l.length,v2=l[k].b) (h3:∀ h:k < l.length,v3=l[k].c) (h4:∀ h:k < l.length,v4=l[k].al) (h5:∀ h:k < l.length,v5=l[k].f) :
  ∃ k':Nat,k'≤l.length∧l.length - k' < l.length - k∧IntKind.wrap .i64 ((k:Int)+1)=(k':Int)∧(zQu l Px.a k).set (k*1) (.int .u16 v1)=zQu l Px.a k'∧(zQu l Px.b k).set (k*1) (.int .u16 v2)=zQu l Px.b k'∧(zQu l Px.c k).set (k*1) (.int .u16 v3)=zQu l Px.c k'∧(zQu l Px.al k).set (k*1) (.int .u16 v4)=zQu l Px.al k'∧(zQu l Px.f k).set (k*1) (.int .u16 v5)=zQu l Px.f k':=
 have h:k < l.length:=by omega
 ⟨k+1,by omega,by omega,zXE (by omega),by rw [Nat.mul_one]; exact zYp h (h1 h),by rw [Nat.mul_one]; exact zYp h (h2 h),by rw [Nat.mul_one]; exact zYp h (h3 h),by rw [Nat.mul_one]; exact zYp h (h4 h),by rw [Nat.mul_one]; exact zYp h (h5 h)⟩
theorem jJQ {l:List Px} {g:Px→Int} {k:Nat} (hk:k≤l.length) (hge:¬ (k:Int) < (l.length:Int)):zQu l g k=zQu l g l.length:=by
 rw [show k=l.length by omega]
theorem zWx (l:List Int):∀ d∈us l,d.flat=true:=by
 intro d hd
 simp only [us,List.mem_map] at hd
 obtain ⟨v,_,rfl⟩:=hd
 rfl
theorem zKJ {w h:Int} {l:List Px} (hk:ofOk w h l.length=true):imOf w h l=ofIm w h l:=by simp [imOf,hk]
theorem zUe {w h:Int} {l:List Px} (hk:ofOk w h l.length=false):imOf w h l=Im.zero:=by simp [imOf,hk]
theorem jYN (w h:Int) (l:List Px):(∀ d∈(imOf w h l).p0.xs,d.flat=true)∧(∀ d∈(imOf w h l).p1.xs,d.flat=true)∧(∀ d∈(imOf w h l).p2.xs,d.flat=true)∧(∀ d∈(imOf w h l).p3.xs,d.flat=true)∧(∀ d∈(imOf w h l).p4.xs,d.flat=true):=by
 cases hk:ofOk w h l.length with
 | true=>rw [zKJ hk]; exact ⟨zWx _,zWx _,zWx _,zWx _,zWx _⟩
 | false=>rw [zUe hk]; simp [Im.zero,Pl.none]
theorem zGq (w h:Int) (l:List Px):(∀ d∈(imOf w h l).p0.xs,d.flat=true)=True∧(∀ d∈(imOf w h l).p1.xs,d.flat=true)=True∧(∀ d∈(imOf w h l).p2.xs,d.flat=true)=True∧(∀ d∈(imOf w h l).p3.xs,d.flat=true)=True∧(∀ d∈(imOf w h l).p4.xs,d.flat=true)=True:=by
 obtain ⟨a,b,c,d,e⟩:=jYN w h l
 exact ⟨eq_true a,eq_true b,eq_true c,eq_true d,eq_true e⟩
def gMax (n:Int):Int:=if modS n 3=2 then 65535 else 255
def zQ4 (n most:Int):Int:=
 if modS n 8=0 then 0
 else if modS n 8=1∨modS n 8=2 then most
 else if modS n 8=3 then IntKind.wrap .u16 (IntKind.wrap .i64 (Int.tdiv (IntKind.wrap .i64 (IntKind.wrap .i64 most+modS (IntKind.wrap .i64 (Int.tdiv n 8)) 2)) 2))
 else if modS n 8=4 then IntKind.wrap .u16 (min (IntKind.wrap .i64 most) (modS (IntKind.wrap .i64 (Int.tdiv n 8)) 4))
 else IntKind.wrap .u16 (modS (IntKind.wrap .i64 (Int.tdiv n 8)) (IntKind.wrap .i64 (IntKind.wrap .i64 most+1)))
def zZK (n0 n1 n2 n3 n4 most:Int):Px:=
 let f:=zQ4 n4 most
 let a:=if 0 < modS n3 3 then zQ4 (IntKind.wrap .i64 (Int.tdiv n3 3)) f else f
 ⟨zQ4 n0 a,zQ4 n1 a,zQ4 n2 a,a,f⟩
def gNum (L:Nat) (xs:List DV) (k j:Nat):Int:=if 0 < L then nAt xs (k % L*5+j) else 0
def gPx1 (L:Nat) (xs:List DV) (most:Int) (k:Nat):Px:=zZK (gNum L xs k 0) (gNum L xs k 1) (gNum L xs k 2) (gNum L xs k 3) (gNum L xs k 4) most
def gPx (mood:Int) (L:Nat) (xs:List DV) (most:Int) (k:Nat):Px:=
 if modS mood 6=0 then .zero
 else if modS mood 6=1 then let p:=gPx1 L xs most k; ⟨p.a,p.b,p.c,most,most⟩
 else if modS mood 6=2 then gPx1 L xs most 0
 else gPx1 L xs most k
def zQG (mood:Int) (L:Nat) (xs:List DV) (most:Int) (n:Nat):List Px:=(List.range n).map (gPx mood L xs most)
theorem zXd (mood:Int) (L:Nat) (xs:List DV) (most:Int) (n:Nat):(zQG mood L xs most n).length=n:=by simp [zQG]
theorem jQi (mood:Int) (L:Nat) (xs:List DV) (most:Int) (n:Nat):zQG mood L xs most (n+1)=zQG mood L xs most n++[gPx mood L xs most n]:=by simp [zQG,List.range_succ]
theorem jJA (l:List Px) (p:Px):pxs (l++[p])=pxs l++Px.ds p:=by simp [pxs]
def Is5 (L:Nat) (xs:List DV):Prop:=xs.length=L*5∧∀ i,i < L*5→xs[i]?=some (.int .i64 (nAt xs i))
theorem jVD {mood:Int} {L:Nat} {xs:List DV} {most:Int} {n:Nat} (hn:0 < n) (hm:modS mood 6=2):∃ h:0 < (zQG mood L xs most n).length,(zQG mood L xs most n)[0]=gPx1 L xs most 0:=by
 refine ⟨by rw [zXd]; exact hn,?_⟩
 simp [zQG,gPx,hm]
theorem zJs {mood:Int} {L:Nat} {xs:List DV} {most:Int} {k:Nat} (hk:0 < k) (j:Nat) (hj:j < 5):(pxs (zQG mood L xs most k))[j]?=some (.int .u16 (nAt (pxs (zQG mood L xs most k)) j)):=by
 have h:=zYL (l:=zQG mood L xs most k) (k:=0) (j:=j) (by rw [zXd]; exact hk) hj
 rw [Nat.zero_mul,Nat.zero_add] at h
 exact h
theorem zHb {mood:Int} {L:Nat} {xs:List DV} {most:Int} {k:Nat} (hk:0 < k) (hm:modS mood 6=2):nAt (pxs (zQG mood L xs most k)) 0=(gPx1 L xs most 0).a∧nAt (pxs (zQG mood L xs most k)) 1=(gPx1 L xs most 0).b∧nAt (pxs (zQG mood L xs most k)) 2=(gPx1 L xs most 0).c∧nAt (pxs (zQG mood L xs most k)) 3=(gPx1 L xs most 0).al∧nAt (pxs (zQG mood L xs most k)) 4=(gPx1 L xs most 0).f:=by
 obtain ⟨h,e⟩:=jVD (mood:=mood) (L:=L) (xs:=xs) (most:=most) hk hm
 have:=zZr h
 rw [e] at this
 simpa only [Nat.zero_mul,Nat.zero_add] using this
theorem jQh {mood:Int} {L:Nat} {xs:List DV} {most:Int} {n k:Nat} (hk:k < n) (hn:n≤16777216) {cs:List DV} (hc:cs=Px.ds (gPx mood L xs most k)) :
  ∃ k':Nat,k'≤n∧n - k' < n - k∧(k+1=k'∧IntKind.wrap .i64 ((k:Int)+1)=(k':Int))∧pxs (zQG mood L xs most k)++cs=pxs (zQG mood L xs most k'):=
 ⟨k+1,by omega,by omega,⟨rfl,zXE (by omega)⟩,by rw [jQi,jJA,hc]⟩
section
open Go.ChangeShapes
open Go.WideShapes
def Rd (P:Program) (w:World):Nat→TypeId→List Value→Prop
 | 0,_,_=>False
 | fuel+1,t,cs=>
  match P.underlying t with
  | some .bool=>∃ b,cs=[.bool b]
  | some (.int k)=>∃ n,cs=[.int k n]∧(Lit.int k n).wf=true
  | some .string=>∃ s,cs=[.string s]∧s.size≤reachBytes
  | some (.slice e)=>cs=[.slice none 0 0]∨∃ a len cap,cs=[.slice (some a) len cap]∧len≤cap∧cap≤maxLen∧cap*P.bytesOf e≤reachBytes ∧
    ∀ i,i < cap→∃ cs',w.cells? 0 (a.add (i*P.cellsOf e)) (P.cellsOf e)=some cs'∧Rd P w fuel e cs'
  | some (.struct fs)=>cs.length=P.cellsOf t∧∀ f∈fs.toList,Rd P w fuel f.type ((cs.drop f.offset).take (P.cellsOf f.type))
  | some (.array n e)=>cs.length=P.cellsOf t∧∀ i,i < n→Rd P w fuel e ((cs.drop (i*P.cellsOf e)).take (P.cellsOf e))
  | _=>True
section
variable {H:Type} {enc:TypeId × Value→H} {P:Program} {w:World}
theorem zYi {e:TypeId} {n:Nat}:∀ {l:List (DataW H)} {d:DataW H},d∈l→n∈d.weights P e→n∈DataW.weightsAll P e l
 | x::r,d,hd,hn=>by
  simp only [DataW.weightsAll,List.mem_append]
  rcases List.mem_cons.1 hd with rfl | h
  ·exact .inl hn
  ·exact .inr (zYi h hn)
theorem zKq {n:Nat}:∀ {ts:List TypeId} {ds:List (DataW H)} {i:Nat} {t:TypeId} {d:DataW H},ts[i]?=some t→ds[i]?=some d→n∈d.weights P t→n∈DataW.weightsEach P ts ds
 | t::ts,d::ds,0,_,_,ht,hd,hn=>by
  simp at ht hd; subst ht hd
  simp only [DataW.weightsEach,List.mem_append]
  exact .inl hn
 | t::ts,d::ds,i+1,_,_,ht,hd,hn=>by
  simp only [DataW.weightsEach,List.mem_append]
  exact .inr (zKq (by simpa using ht) (by simpa using hd) hn)
 | [],_,_,_,_,ht,_,_=>by simp at ht
 | _::_,[],_,_,_,_,hd,_=>by simp at hd
theorem jXw:∀ (fuel:Nat) (t:TypeId) (cs:List Value) (d:DataW H) (ps:List MemPlace),
  DataW.trod enc P w 0 (fun _=>true) true fuel t cs=some (d,ps)→(∀ n∈d.weights P t,n≤reachBytes)→Rd P w fuel t cs:=by
 intro fuel
 induction fuel with
 | zero=>intro t cs d ps h; simp [DataW.trod] at h
 | succ fuel ih=>
  intro t cs d ps h hw
  unfold DataW.trod at h
  unfold Rd
  split at h
  ·rename_i b hu; simp only [hu]; exact ⟨_,rfl⟩
  ·rename_i k k' n hu
   simp only [hu]
   split at h
   ·rename_i hk; obtain ⟨rfl,hwf⟩:=hk; exact ⟨_,rfl,hwf⟩
   ·cases h
  ·rename_i hu; simp only [hu]
  ·rename_i s hu
   simp only [hu]
   split at h
   ·simp only [Option.some.injEq,Prod.mk.injEq] at h
    obtain ⟨rfl,_⟩:=h
    exact ⟨_,rfl,by have:=hw s.data.toList.length (List.mem_singleton.2 rfl); rw [Array.length_toList] at this; exact this⟩
   ·cases h
  ·rename_i hu; simp only [hu]
  ·rename_i hu; simp only [hu]
  ·rename_i hu; simp only [hu]; exact .inl trivial
  ·rename_i e a len cap hu
   simp only [hu]
   split at h
   ·rename_i hc
    obtain ⟨_,hl,hm⟩:=hc
    simp only [if_true] at h
    obtain ⟨elems,he,h⟩:=Option.bind_eq_some_iff.1 h
    obtain ⟨rest,hr,h⟩:=Option.map_eq_some_iff.1 h
    simp only [Prod.mk.injEq] at h
    obtain ⟨rfl,_⟩:=h
    have le:=mapM_some_length he
    have lr:=mapM_some_length hr
    simp only [List.length_range] at le lr
    have hwt:DataW.weights P t (.slice (elems.map (·.1)) (rest.map (·.1)))=((elems.map (·.1)).length+(rest.map (·.1)).length)*P.bytesOf e::(DataW.weightsAll P e (elems.map (·.1))++DataW.weightsAll P e (rest.map (·.1))):=by
     simp only [DataW.weights,hu]
    rw [hwt] at hw
    refine .inr ⟨a,len,cap,rfl,hl,hm,?_,?_⟩
    ·have:=hw _ (.head _)
     simp only [List.length_map,le,lr] at this
     rwa [show len+(cap - len)=cap from by omega] at this
    ·have key:∀ (i:Nat) (x:DataW H × List MemPlace),((w.cells? 0 (a.add (i*P.cellsOf e)) (P.cellsOf e)).bind (DataW.trod enc P w 0 (fun _=>true) true fuel e))=some x→(∀ n∈x.1.weights P e,n≤reachBytes) →
       ∃ cs',w.cells? 0 (a.add (i*P.cellsOf e)) (P.cellsOf e)=some cs'∧Rd P w fuel e cs':=by
      intro i x hx hxw
      obtain ⟨cs',h1,h2⟩:=Option.bind_eq_some_iff.1 hx
      exact ⟨cs',h1,ih e cs' x.1 x.2 h2 hxw⟩
     intro i hi
     rcases Nat.lt_or_ge i len with hlt | hge
     ·have hx:elems[i]?=some (elems[i]'(by omega)):=List.getElem?_eq_getElem (by omega)
      have h1:=mapM_some_get he i i (by simp [hlt])
      rw [hx] at h1
      refine key i _ h1 fun n hn=>hw n (.tail _ (List.mem_append.2 (.inl (zYi (List.mem_map.2 ⟨_,List.getElem_mem (by omega),rfl⟩) hn))))
     ·have hx:rest[i - len]?=some (rest[i - len]'(by omega)):=List.getElem?_eq_getElem (by omega)
      have h1:=mapM_some_get hr (i - len) (i - len) (List.getElem?_range (by omega))
      rw [hx,show len+(i - len)=i from by omega] at h1
      refine key i _ h1 fun n hn=>hw n (.tail _ (List.mem_append.2 (.inr (zYi (List.mem_map.2 ⟨_,List.getElem_mem (by omega),rfl⟩) hn))))
   ·cases h
  ·rename_i fs hu
   simp only [hu]
   split at h
   ·rename_i hlen
    obtain ⟨xs,hxs,h⟩:=Option.map_eq_some_iff.1 h
    simp only [Prod.mk.injEq] at h
    obtain ⟨rfl,_⟩:=h
    refine ⟨hlen,fun f hf=>?_⟩
    obtain ⟨i,hi,rfl⟩:=List.getElem_of_mem hf
    have hl:=mapM_some_length hxs
    have hx:xs[i]?=some (xs[i]'(by omega)):=List.getElem?_eq_getElem (by omega)
    have h1:=mapM_some_get hxs i _ (List.getElem?_eq_getElem hi)
    rw [hx] at h1
    refine ih _ _ _ _ h1 fun n hn=>hw n ?_
    simp only [DataW.weights,hu]
    exact zKq (i:=i) (by rw [List.getElem?_map,List.getElem?_eq_getElem hi]; rfl) (by rw [List.getElem?_map,hx]; rfl) hn
   ·cases h
  ·rename_i n e hu
   simp only [hu]
   split at h
   ·rename_i hlen
    obtain ⟨xs,hxs,h⟩:=Option.map_eq_some_iff.1 h
    simp only [Prod.mk.injEq] at h
    obtain ⟨rfl,_⟩:=h
    refine ⟨hlen,fun i hi=>?_⟩
    have hl:=mapM_some_length hxs
    simp only [List.length_range] at hl
    have hx:xs[i]?=some (xs[i]'(by omega)):=List.getElem?_eq_getElem (by omega)
    have h1:=mapM_some_get hxs i i (by simp [hi])
    rw [hx] at h1
    refine ih _ _ _ _ h1 fun n hn=>hw n ?_
    simp only [DataW.weights,hu]
    exact zYi (List.mem_map.2 ⟨_,List.getElem_mem (by omega),rfl⟩) hn
   ·cases h
  all_goals first | (cases h; done) | (rename_i hu; simp only [hu])
end
def Arg (P:Program) (w:World) (t:TypeId) (v:Value):Prop:=
 (∃ fuel,Rd P w fuel t v.cells.toList) ∧
  match P.underlying t with
  | some (.struct _) | some (.array _ _)=>∃ cs,v=.agg cs
  | _=>v.cells=#[v]
def Args (P:Program) (w:World):List TypeId→List Value→Prop
 | [],[]=>True
 | t::ts,v::vs=>Arg P w t v∧Args P w ts vs
 | _,_=>False
theorem zUs {P:Program} {w:World} {r:Reach} {base:Nat} {t:TypeId} {v:Value} (h:Value.okWide P w r base t v) :
  match P.underlying t with
  | some (.struct _) | some (.array _ _)=>∃ cs,v=.agg cs
  | _=>v.cells=#[v]:=by
 unfold Value.okWide at h
 split
 ·rename_i hu
  simp only [hu] at h
  obtain ⟨cs,rfl,_⟩:=h
  exact ⟨_,rfl⟩
 ·rename_i hu
  simp only [hu] at h
  obtain ⟨cs,rfl,_⟩:=h
  exact ⟨_,rfl⟩
 ·rename_i h1 h2
  have h':Cell.okWide P w r base t v:=by
   split at h
   ·rename_i hu; exact absurd hu (by intro e; exact h1 _ e)
   ·rename_i hu; exact absurd hu (by intro e; exact h2 _ _ e)
   ·exact h
  cases v with
  | agg cs=>
   exfalso
   unfold Cell.okWide at h'
   split at h' <;> first | (rename_i hv; cases hv; done) | skip
   unfold Cell.ok at h'
   split at h' <;> first | (rename_i hv; cases hv; done) | exact h'
  | _=>rfl
section
variable {H:Type} {enc:TypeId × Value→H}
theorem zJV {P:Program} {w:World}:∀ {ts:List TypeId} {vs:List Value} {ds:List (DataW H)} {ps:List MemPlace},DataW.TrodAll enc P w 0 (fun _=>true) true ts vs ds ps →
  (∀ n∈DataW.weightsEach P ts ds,n≤reachBytes) →
  (∀ (j:Nat) t v,ts[j]?=some t→vs[j]?=some v→match P.underlying t with | some (.struct _) | some (.array _ _)=>∃ cs,v=.agg cs | _=>v.cells=#[v])→Args P w ts vs∧ds.length=ts.length
 | [],[],[],_,_,_,_=>⟨trivial,rfl⟩
 | t::ts,v::vs,d::ds,_,h,hw,hv=>by
  obtain ⟨p,q,⟨fuel,hf⟩,hr,_⟩:=h
  have hrest:=zJV hr (fun n hn=>hw n (by simp only [DataW.weightsEach,List.mem_append]; exact .inr hn)) (fun j t v ht hv'=>hv (j+1) t v (by simpa using ht) (by simpa using hv'))
  exact ⟨⟨⟨⟨fuel,jXw fuel t _ d p hf (fun n hn=>hw n (by simp only [DataW.weightsEach,List.mem_append]; exact .inl hn))⟩,hv 0 t v rfl rfl⟩,hrest.1⟩,by simp [hrest.2]⟩
 | [],[],_::_,_,h,_,_=>h.elim
 | [],_::_,_,_,h,_,_=>h.elim
 | _::_,[],_,_,h,_,_=>h.elim
 | _::_,_::_,[],_,h,_,_=>h.elim
theorem zKY {P:Program} (laid:laidOutB P=true) {W W':World} (hb:Below W.heap.size W W'):∀ {ts:List TypeId} {vs:List Value} {ds:List (DataW H)} {ps:List MemPlace},
  (∀ t∈ts,P.readableRec t=true∧t < P.types.size)→DataW.TrodAll enc P W 0 (fun _=>true) true ts vs ds ps→DataW.TrodAll enc P W' 0 (fun b=>decide (b < W.heap.size)) true ts vs ds ps
 | [],[],[],_,_,h=>h
 | t::ts,v::vs,d::ds,_,hr,h=>by
  obtain ⟨p,q,hd,hrest,rfl⟩:=h
  have hlt:∀ x∈p,x.block < W.heap.size:=by obtain ⟨m,hm⟩:=hd; exact DataW.trod_lt m _ _ _ hm
  exact ⟨p,q,Below.trod laid (hr t (.head _)).1 (hr t (.head _)).2 hd hb hlt,zKY laid hb (fun t' ht'=>hr t' (.tail _ ht')) hrest,rfl⟩
 | [],[],_::_,_,_,h=>h.elim
 | [],_::_,_,_,_,h=>h.elim
 | _::_,[],_,_,_,h=>h.elim
 | _::_,_::_,[],_,_,h=>h.elim
end
section
variable {P:Program} {w:World} {fuel:Nat} {t:TypeId} {cs:List Value}
theorem Rd.int {k:IntKind} (hu:P.underlying t=some (.int k)) (h:Rd P w fuel t cs):∃ n,cs=[.int k n]∧(Lit.int k n).wf=true:=by
 cases fuel with
 | zero=>exact h.elim
 | succ fuel=>unfold Rd at h; simp only [hu] at h; exact h
theorem Rd.bool (hu:P.underlying t=some .bool) (h:Rd P w fuel t cs):∃ b,cs=[.bool b]:=by
 cases fuel with
 | zero=>exact h.elim
 | succ fuel=>unfold Rd at h; simp only [hu] at h; exact h
theorem Rd.str (hu:P.underlying t=some .string) (h:Rd P w fuel t cs):∃ s,cs=[.string s]∧s.size≤reachBytes:=by
 cases fuel with
 | zero=>exact h.elim
 | succ fuel=>unfold Rd at h; simp only [hu] at h; exact h
theorem Rd.slice {e:TypeId} (hu:P.underlying t=some (.slice e)) (h:Rd P w fuel t cs) :
  cs=[.slice none 0 0]∨∃ a len cap,cs=[.slice (some a) len cap]∧len≤cap∧cap≤maxLen∧cap*P.bytesOf e≤reachBytes ∧
    ∀ i,i < cap→∃ cs',w.cells? 0 (a.add (i*P.cellsOf e)) (P.cellsOf e)=some cs'∧∃ fuel,Rd P w fuel e cs':=by
 cases fuel with
 | zero=>exact h.elim
 | succ fuel=>
  unfold Rd at h; simp only [hu] at h
  rcases h with h | ⟨a,len,cap,h1,h2,h3,h4,h5⟩
  ·exact .inl h
  ·exact .inr ⟨a,len,cap,h1,h2,h3,h4,fun i hi=>let ⟨cs',a1,a2⟩:=h5 i hi; ⟨cs',a1,fuel,a2⟩⟩
theorem Rd.struct {fs:Array Field} (hu:P.underlying t=some (.struct fs)) (h:Rd P w fuel t cs) :
  cs.length=P.cellsOf t∧∀ f∈fs.toList,∃ fuel,Rd P w fuel f.type ((cs.drop f.offset).take (P.cellsOf f.type)):=by
 cases fuel with
 | zero=>exact h.elim
 | succ fuel=>
  unfold Rd at h; simp only [hu] at h
  exact ⟨h.1,fun f hf=>⟨fuel,h.2 f hf⟩⟩
theorem Rd.array {e:TypeId} {n:Nat} (hu:P.underlying t=some (.array n e)) (h:Rd P w fuel t cs) :
  cs.length=P.cellsOf t∧∀ i,i < n→∃ fuel,Rd P w fuel e ((cs.drop (i*P.cellsOf e)).take (P.cellsOf e)):=by
 cases fuel with
 | zero=>exact h.elim
 | succ fuel=>
  unfold Rd at h; simp only [hu] at h
  exact ⟨h.1,fun i hi=>⟨fuel,h.2 i hi⟩⟩
end
def zVf (P:Program) (f:TypeId→Option (List TypeId)):List Field→Nat→Option (List TypeId)
 | [],_=>some []
 | fd::r,off=>(f fd.type).bind fun l=>if fd.offset=off∧P.cellsOf fd.type=l.length then (zVf P f r (off+l.length)).map (l++·) else none
def zVX (P:Program):Nat→TypeId→Option (List TypeId)
 | 0,_=>none
 | k+1,t=>
  match P.underlying t with
  | some (.struct fs)=>zVf P (zVX P k) fs.toList 0
  | some (.array n e)=>(zVX P k e).bind fun l=>if P.cellsOf e=l.length then some (List.replicate n l).flatten else none
  | some .bool | some (.int _) | some .string | some (.slice _)=>some [t]
  | _=>none
section
variable {P:Program} {w:World}
theorem zW8 {f:TypeId→Option (List TypeId)} {cs:List Value}
  (hf:∀ (t:TypeId) (ts:List TypeId) (fuel:Nat) (cs:List Value),f t=some ts→Rd P w fuel t cs→∀ (i:Nat) (t':TypeId),ts[i]?=some t'→∃ c g,cs[i]?=some c∧Rd P w g t' [c]) :
  ∀ (fs:List Field) (off:Nat) (ts:List TypeId),zVf P f fs off=some ts→(∀ fd∈fs,∃ fuel,Rd P w fuel fd.type ((cs.drop fd.offset).take (P.cellsOf fd.type))) →
  ∀ (i:Nat) (t':TypeId),ts[i]?=some t'→∃ c g,cs[off+i]?=some c∧Rd P w g t' [c]
 | [],_,ts,h,_,i,t',hi=>by simp [zVf] at h; subst h; simp at hi
 | fd::r,off,ts,h,hr,i,t',hi=>by
  unfold zVf at h
  obtain ⟨l,hl,h⟩:=Option.bind_eq_some_iff.1 h
  split at h
  ·rename_i hc
   obtain ⟨ho,hn⟩:=hc
   obtain ⟨ts',hts,h⟩:=Option.map_eq_some_iff.1 h
   subst h
   rcases Nat.lt_or_ge i l.length with hlt | hge
   ·rw [List.getElem?_append_left hlt] at hi
    obtain ⟨fuel,hrd⟩:=hr fd (.head _)
    obtain ⟨c,g,h1,h2⟩:=hf fd.type l fuel _ hl hrd i t' hi
    refine ⟨c,g,?_,h2⟩
    rw [List.getElem?_take,if_pos (by omega),List.getElem?_drop,ho] at h1
    exact h1
   ·rw [List.getElem?_append_right hge] at hi
    obtain ⟨c,g,h1,h2⟩:=zW8 hf r (off+l.length) ts' hts (fun fd' h'=>hr fd' (.tail _ h')) (i - l.length) t' hi
    exact ⟨c,g,by rw [← h1]; congr 1; omega,h2⟩
  ·cases h
theorem zGu {l:List TypeId} (hl:0 < l.length):∀ (n i:Nat) (t:TypeId),(List.replicate n l).flatten[i]?=some t→i / l.length < n∧l[i % l.length]?=some t
 | 0,i,t,h=>by simp at h
 | n+1,i,t,h=>by
  rw [List.replicate_succ,List.flatten_cons] at h
  rcases Nat.lt_or_ge i l.length with hlt | hge
  ·rw [List.getElem?_append_left hlt] at h
   rw [Nat.div_eq_of_lt hlt,Nat.mod_eq_of_lt hlt]
   exact ⟨by omega,h⟩
  ·rw [List.getElem?_append_right hge] at h
   obtain ⟨h1,h2⟩:=zGu hl n (i - l.length) t h
   have e:i=(i - l.length)+l.length:=by omega
   rw [e,Nat.add_div_right _ hl,Nat.add_mod_right]
   exact ⟨by omega,h2⟩
theorem zJH:∀ (k:Nat) (t:TypeId) (ts:List TypeId) (fuel:Nat) (cs:List Value),zVX P k t=some ts→Rd P w fuel t cs →
  ∀ (i:Nat) (t':TypeId),ts[i]?=some t'→∃ c g,cs[i]?=some c∧Rd P w g t' [c]
 | 0,_,_,_,_,h,_,_,_,_=>by simp [zVX] at h
 | k+1,t,ts,fuel,cs,h,hr,i,t',hi=>by
  unfold zVX at h
  split at h
  ·rename_i fs hu
   obtain ⟨_,hfs⟩:=hr.struct hu
   have:=zW8 (fun t ts fuel cs h hr=>zJH k t ts fuel cs h hr) fs.toList 0 ts h hfs i t' hi
   simpa using this
  ·rename_i n e hu
   obtain ⟨l,hl,h⟩:=Option.bind_eq_some_iff.1 h
   split at h
   ·rename_i hc
    simp only [Option.some.injEq] at h
    subst h
    obtain ⟨_,hel⟩:=hr.array hu
    rcases Nat.eq_zero_or_pos l.length with h0 | hpos
    ·have:l=[]:=List.eq_nil_of_length_eq_zero h0
     subst this; simp at hi
    ·obtain ⟨h1,h2⟩:=zGu hpos n i t' hi
     obtain ⟨fuel',hrd⟩:=hel (i / l.length) h1
     obtain ⟨c,g,h3,h4⟩:=zJH k e l fuel' _ hl hrd (i % l.length) t' h2
     refine ⟨c,g,?_,h4⟩
     rw [List.getElem?_take,if_pos (by rw [hc]; exact Nat.mod_lt _ hpos),List.getElem?_drop,hc,Nat.mul_comm,Nat.div_add_mod] at h3
     exact h3
   ·cases h
  all_goals first | (cases h; done) | skip
  all_goals
   rename_i hu
   simp only [Option.some.injEq] at h
   subst h
   match i,hi with
   | 0,hi=>
    simp only [List.getElem?_cons_zero,Option.some.injEq] at hi
    subst hi
    first
    |(obtain ⟨b,rfl⟩:=hr.bool hu; exact ⟨_,fuel,rfl,hr⟩)
    |(obtain ⟨b,rfl,_⟩:=hr.int hu; exact ⟨_,fuel,rfl,hr⟩)
    |(obtain ⟨b,rfl,_⟩:=hr.str hu; exact ⟨_,fuel,rfl,hr⟩)
    |(rcases hr.slice hu with h | ⟨a,len,cap,h,_⟩
      ·subst h; exact ⟨_,fuel,rfl,hr⟩
      ·subst h; exact ⟨_,fuel,rfl,hr⟩)
   | i+1,hi=>simp at hi
theorem Rd.leaf {k:Nat} {t:TypeId} {ts:List TypeId} {fuel:Nat} {cs:List Value} (h:Rd P w fuel t cs) (hl:zVX P k t=some ts) (i:Nat) {t':TypeId} (ht:ts[i]?=some t') {c:Value} (hc:cs[i]?=some c) :
  ∃ g,Rd P w g t' [c]:=by
 obtain ⟨c',g,h1,h2⟩:=zJH k t ts fuel cs hl h i t' ht
 rw [hc] at h1
 cases h1
 exact ⟨g,h2⟩
theorem Args.cons {t:TypeId} {ts:List TypeId} {vs:List Value} (h:Args P w (t::ts) vs):∃ v vs',vs=v::vs'∧Arg P w t v∧Args P w ts vs':=by
 cases vs with
 | nil=>exact h.elim
 | cons v vs=>exact ⟨v,vs,rfl,h.1,h.2⟩
theorem Args.nil {vs:List Value} (h:Args P w [] vs):vs=[]:=by
 cases vs with
 | nil=>rfl
 | cons v vs=>exact h.elim
theorem Arg.one {t:TypeId} {v:Value} (h:Arg P w t v) (hu:∀ fs,P.underlying t≠some (.struct fs)) (ha:∀ n e,P.underlying t≠some (.array n e)):∃ g,Rd P w g t [v]:=by
 obtain ⟨⟨g,hr⟩,hv⟩:=h
 split at hv
 ·rename_i fs he; exact absurd he (hu fs)
 ·rename_i n e he; exact absurd he (ha n e)
 ·rw [hv] at hr; exact ⟨g,hr⟩
theorem Arg.int {t:TypeId} {v:Value} {k:IntKind} (h:Arg P w t v) (hu:P.underlying t=some (.int k)):∃ n,v=.int k n∧(Lit.int k n).wf=true:=by
 obtain ⟨g,hr⟩:=h.one (by rw [hu]; simp) (by rw [hu]; simp)
 obtain ⟨n,hn,hw⟩:=hr.int hu
 simp only [List.cons.injEq,and_true] at hn
 exact ⟨n,hn,hw⟩
theorem Arg.many {t:TypeId} {v:Value} {n:Nat} (h:Arg P w t v) (hu:(∃ fs,P.underlying t=some (.struct fs))∨∃ n e,P.underlying t=some (.array n e)) (hn:P.cellsOf t=n) :
  ∃ cs:List Value,v=.agg cs.toArray∧cs.length=n∧∃ g,Rd P w g t cs:=by
 obtain ⟨⟨g,hr⟩,hv⟩:=h
 rcases hu with ⟨fs,hu⟩ | ⟨m,e,hu⟩
 ·simp only [hu] at hv
  obtain ⟨⟨l⟩,rfl⟩:=hv
  exact ⟨l,rfl,by rw [← hn]; exact (hr.struct hu).1,g,hr⟩
 ·simp only [hu] at hv
  obtain ⟨⟨l⟩,rfl⟩:=hv
  exact ⟨l,rfl,by rw [← hn]; exact (hr.array hu).1,g,hr⟩
end
def lv (P:Program) (e:TypeId):Option (List TypeId):=
 match zVX P 8 e with
 | some ls=>if ls.length=P.cellsOf e∧0 < ls.length then some ls else none
 | none=>none
def zXr (P:Program):Nat→TypeId→DV→Prop
 | 0,_,_=>False
 | k+1,t,d=>
  match P.underlying t with
  | some .bool=>∃ b,d=.bool b
  | some (.int q)=>∃ n,d=.int q n
  | some .string=>∃ s,d=.str s
  | some (.slice e)=>∃ n xs,d=.sl n xs∧n*P.bytesOf e≤reachBytes∧match lv P e with
   | some ls=>xs.length=n*ls.length∧∀ (j:Nat) d',xs[j]?=some d'→∃ t',ls[j % ls.length]?=some t'∧zXr P k t' d'
   | none=>xs=[]
  | _=>False
def jXQ (P:Program):Nat→TypeId→Bool
 | 0,_=>false
 | k+1,t=>
  match P.underlying t with
  | some .bool | some (.int _) | some .string=>true
  | some (.slice e)=>match lv P e with
   | some ls=>ls.all (jXQ P k)
   | none=>true
  | _=>false
theorem zWV {α:Type} {Q:Nat→α→Prop}:∀ n:Nat,(∀ j,j < n→∃ d,Q j d)→∃ xs:List α,xs.length=n∧∀ (j:Nat) d,xs[j]?=some d→Q j d
 | 0,_=>⟨[],rfl,fun j d h=>by simp at h⟩
 | n+1,h=>by
  obtain ⟨xs,h1,h2⟩:=zWV n fun j hj=>h j (by omega)
  obtain ⟨d,hd⟩:=h n (by omega)
  refine ⟨xs++[d],by simp [h1],fun j d' hj=>?_⟩
  by_cases hlt:j < n
  ·rw [List.getElem?_append_left (by omega)] at hj; exact h2 j d' hj
  ·rw [List.getElem?_append_right (by omega)] at hj
   have:j - xs.length=0:=by
    have:=(List.getElem?_eq_some_iff.1 hj).1
    simp at this; omega
   rw [this] at hj
   simp at hj
   subst hj
   have:j=n:=by omega
   subst this; exact hd
section
variable {P:Program} {w:World}
theorem zH5 {P:Program} {e:TypeId} {ls:List TypeId} (h:lv P e=some ls):zVX P 8 e=some ls∧ls.length=P.cellsOf e∧0 < ls.length:=by
 unfold lv at h
 split at h
 ·rename_i l hl
  split at h
  ·rename_i hc; injection h with h; subst h; exact ⟨hl,hc.1,hc.2⟩
  ·cases h
 ·cases h
theorem addr_add' (a:Addr) (i j:Nat) (h:a.spot=none):(a.add i).add j=⟨a.block,a.off+(i+j),none⟩:=by
 obtain ⟨b,o,sp⟩:=a
 simp only at h
 subst h
 rw [zZP,zZP,Nat.add_assoc]
theorem zGM:∀ (k:Nat) (t:TypeId),jXQ P k t=true→∀ (fuel:Nat) (v:Value),Rd P w fuel t [v]→∃ d,RepD w (fun _=>True) d v∧zXr P k t d
 | 0,_,h,_,_,_=>by cases h
 | k+1,t,ho,fuel,v,h=>by
  unfold jXQ at ho
  unfold zXr
  split at ho
  ·rename_i hu
   obtain ⟨b,hb⟩:=h.bool hu
   simp only [List.cons.injEq,and_true] at hb
   subst hb
   exact ⟨.bool b,by simp only [RepD],b,rfl⟩
  ·rename_i q hu
   obtain ⟨n,hn,hw⟩:=h.int hu
   simp only [List.cons.injEq,and_true] at hn
   subst hn
   exact ⟨.int q n,by simp only [RepD]; exact ⟨trivial,hw⟩,n,rfl⟩
  ·rename_i hu
   obtain ⟨s,hs,hw⟩:=h.str hu
   simp only [List.cons.injEq,and_true] at hs
   subst hs
   refine ⟨.str s,by simp only [RepD,true_and]; unfold reachBytes at hw; unfold maxLen; omega,s,rfl⟩
  ·rename_i e hu
   rcases h.slice hu with h | ⟨a,len,cap,h1,h2,h3,h4,h5⟩
   ·simp only [List.cons.injEq,and_true] at h
    subst h
    refine ⟨.sl 0 [],by simp only [RepD]; exact ⟨none,0,rfl,Nat.le_refl _,Nat.zero_le _,fun e=>absurd rfl e⟩,0,[],rfl,by simp,?_⟩
    split
    ·exact ⟨by simp,fun j d h=>by simp at h⟩
    ·rfl
   ·simp only [List.cons.injEq,and_true] at h1
    subst h1
    have hby:len*P.bytesOf e≤reachBytes:=Nat.le_trans (Nat.mul_le_mul_right _ h2) h4
    cases hl:lv P e with
    | none=>exact ⟨.sl len [],by simp only [RepD]; exact ⟨some a,cap,rfl,h2,h3,fun e=>absurd rfl e⟩,len,[],rfl,hby,rfl⟩
    | some ls=>
     rw [hl] at ho
     simp only [List.all_eq_true] at ho
     obtain ⟨g1,g2,g3⟩:=zH5 hl
     have hcell:∀ j,j < len*ls.length→∃ d,a.spot=none∧(∃ u,w.cell? ⟨a.block,a.off+j,none⟩=some u∧RepD w (fun _=>True) d u)∧∃ t',ls[j % ls.length]?=some t'∧zXr P k t' d:=by
      intro j hj
      have hi:j / ls.length < len:=by rw [Nat.div_lt_iff_lt_mul g3]; exact hj
      obtain ⟨cs',c1,fuel',c2⟩:=h5 (j / ls.length) (by omega)
      have hm:j % ls.length < ls.length:=Nat.mod_lt _ g3
      obtain ⟨c,g,e1,e2⟩:=zJH 8 e ls fuel' cs' g1 c2 (j % ls.length) (ls[j % ls.length]) (by simp [hm])
      obtain ⟨d,f1,f2⟩:=zGM k ls[j % ls.length] (ho _ (List.getElem_mem hm)) g c e2
      obtain ⟨_,c3,c4⟩:=World.cells?_some c1
      have hc:=c4 (j % ls.length) (by omega)
      rw [e1] at hc
      have hpos:0 < cap:=Nat.lt_of_lt_of_le (Nat.lt_of_le_of_lt (Nat.zero_le _) hi) h2
      have hcp:0 < P.cellsOf e:=by omega
      have hs:a.spot=none:=by
       cases hsp:a.spot with
       | none=>rfl
       | some x=>
        exfalso
        obtain ⟨cs0,d0,_⟩:=h5 0 hpos
        obtain ⟨_,hlen,d1⟩:=World.cells?_some d0
        have c0:=d1 0 hcp
        rw [Nat.zero_mul,show a.add 0=a from by simp [Addr.add],show a.add 0=a from by simp [Addr.add]] at c0
        have:w.cell? a=none:=by
         unfold World.cell?
         split
         ·simp [hsp]
         ·rfl
        rw [this] at c0
        have:=List.getElem?_eq_none_iff.1 c0.symm
        omega
      refine ⟨d,hs,⟨c,?_,f1⟩,_,by simp [hm],f2⟩
      rw [addr_add' _ _ _ hs,← g2,Nat.mul_comm,Nat.div_add_mod] at hc
      exact hc
     obtain ⟨xs,x1,x2⟩:=zWV (len*ls.length) hcell
     refine ⟨.sl len xs,?_,len,xs,rfl,hby,x1,fun j d' hj=>(x2 j d' hj).2.2⟩
     simp only [RepD]
     refine ⟨some a,cap,rfl,h2,h3,fun hne=>⟨a.block,a.off,?_,trivial,.of_at fun i d hi=>(x2 i d hi).2.1⟩⟩
     cases xs with
     | nil=>exact absurd rfl hne
     | cons d ds=>
      have hs:=(x2 0 d rfl).1
      obtain ⟨b,o,sp⟩:=a
      simp only at hs
      subst hs
      rfl
  ·cases ho
def zYh (P:Program) (t:TypeId) (r:RV):Prop:=
 match P.underlying t with
 | some (.struct _) | some (.array _ _)=>∃ ds ls,r=.agg ds∧lv P t=some ls∧ds.length=ls.length∧∀ (i:Nat) d,ds[i]?=some d→∃ t',ls[i]?=some t'∧zXr P 6 t' d
 | _=>∃ d,r=.d d∧zXr P 6 t d
def zJZ (P:Program):List TypeId→List RV→Prop
 | [],[]=>True
 | t::ts,r::rs=>zYh P t r∧zJZ P ts rs
 | _,_=>False
def okT (P:Program) (t:TypeId):Bool:=
 match P.underlying t with
 | some (.struct _) | some (.array _ _)=>match lv P t with
  | some ls=>ls.all (jXQ P 6)
  | none=>false
 | _=>jXQ P 6 t
theorem jYv {t:TypeId} {v:Value} (ho:okT P t=true) (h:Arg P w t v):∃ r,RepR w (fun _=>True) r v∧zYh P t r:=by
 have many:((∃ fs,P.underlying t=some (.struct fs))∨∃ n e,P.underlying t=some (.array n e))→(match lv P t with | some ls=>ls.all (jXQ P 6) | none=>false)=true→∃ ds ls,RepR w (fun _=>True) (.agg ds) v∧lv P t=some ls∧ds.length=ls.length∧∀ (i:Nat) d,ds[i]?=some d→∃ t',ls[i]?=some t'∧zXr P 6 t' d:=by
  intro hu hl
  obtain ⟨cs,rfl,hlen,g,hr⟩:=h.many hu (n:=P.cellsOf t) rfl
  cases hlv:lv P t with
  | none=>rw [hlv] at hl; cases hl
  | some ls=>
   rw [hlv] at hl
   simp only [List.all_eq_true] at hl
   obtain ⟨g1,g2,g3⟩:=zH5 hlv
   have hcell:∀ i,i < ls.length→∃ d,(∃ c,cs[i]?=some c∧RepD w (fun _=>True) d c)∧∃ t',ls[i]?=some t'∧zXr P 6 t' d:=by
    intro i hi
    obtain ⟨c,g',e1,e2⟩:=zJH 8 t ls g cs g1 hr i ls[i] (by simp [hi])
    obtain ⟨d,f1,f2⟩:=zGM 6 ls[i] (hl _ (List.getElem_mem hi)) g' c e2
    exact ⟨d,⟨c,e1,f1⟩,_,by simp [hi],f2⟩
   obtain ⟨ds,x1,x2⟩:=zWV ls.length hcell
   refine ⟨ds,ls,?_,rfl,x1,fun i d hi=>(x2 i d hi).2⟩
   simp only [RepR]
   refine ⟨_,rfl,?_⟩
   rw [zU4]
   refine ⟨by simp; omega,fun i d v hd hv=>?_⟩
   obtain ⟨⟨c,e1,e2⟩,_⟩:=x2 i d hd
   have:cs[i]?=some v:=by simpa using hv
   rw [e1] at this
   injection this with this
   subst this
   exact e2
 unfold okT at ho
 unfold zYh
 split at ho
 ·rename_i fs hu
  obtain ⟨ds,ls,h1,h2⟩:=many (.inl ⟨_,hu⟩) ho
  exact ⟨.agg ds,h1,ds,ls,rfl,h2⟩
 ·rename_i n e hu
  obtain ⟨ds,ls,h1,h2⟩:=many (.inr ⟨_,_,hu⟩) ho
  exact ⟨.agg ds,h1,ds,ls,rfl,h2⟩
 ·rename_i h1 h2
  obtain ⟨g,hr⟩:=h.one (fun fs e=>h1 fs e) (fun n e e'=>h2 n e e')
  obtain ⟨d,f1,f2⟩:=zGM 6 t ho g v hr
  exact ⟨.d d,by simp only [RepR]; exact f1,⟨d,rfl,f2⟩⟩
theorem zGf:∀ {ts:List TypeId} {vs:List Value},ts.all (okT P)=true→Args P w ts vs→∃ rs,RepRs w (fun _=>True) rs vs∧zJZ P ts rs
 | [],[],_,_=>⟨[],by simp only [RepRs],trivial⟩
 | t::ts,v::vs,ho,h=>by
  simp only [List.all_cons,Bool.and_eq_true] at ho
  obtain ⟨r,h1,h2⟩:=jYv ho.1 h.1
  obtain ⟨rs,h3,h4⟩:=zGf ho.2 h.2
  exact ⟨r::rs,by simp only [RepRs]; exact ⟨h1,h3⟩,h2,h4⟩
 | [],_::_,_,h=>h.elim
 | _::_,[],_,h=>h.elim
theorem jKR {f:FuncId} {ts:List TypeId} (hok:ts.all (okT P)=true) (h:∀ rs,zJZ P ts rs→RV.wfs rs→Ans P f rs (.d (.bool true))) (W:World) (args:Array Value) (hg:zXS W fun _=>True) (ha:Args P W ts args.toList) :
  Calls P f args W fun e W'=>e=.returned (.bool true)∧Below W.heap.size W W':=by
 obtain ⟨rs,h1,h2⟩:=zGf hok ha
 refine (h rs h2 (RepRs.wf h1) W _ args hg h1).mono fun e w' ⟨v,he,hv,hb⟩=>?_
 simp only [RepR,RepD] at hv
 subst hv
 exact ⟨he,hb⟩
end
theorem zJZ.cons {P:Program} {t:TypeId} {ts:List TypeId} {rs:List RV} (h:zJZ P (t::ts) rs):∃ r rs',rs=r::rs'∧zYh P t r∧zJZ P ts rs':=by
 cases rs with
 | nil=>exact h.elim
 | cons r rs=>exact ⟨r,rs,rfl,h.1,h.2⟩
theorem zJZ.nil {P:Program} {rs:List RV} (h:zJZ P [] rs):rs=[]:=by
 cases rs with
 | nil=>rfl
 | cons r rs=>exact h.elim
theorem zYh.one {P:Program} {t:TypeId} {r:RV} {k:IntKind} (h:zYh P t r) (hu:P.underlying t=some (.int k)):∃ n,r=.d (.int k n):=by
 unfold zYh at h
 simp only [hu] at h
 obtain ⟨d,rfl,h⟩:=h
 unfold zXr at h
 simp only [hu] at h
 obtain ⟨n,rfl⟩:=h
 exact ⟨n,rfl⟩
theorem zYh.many {P:Program} {t:TypeId} {r:RV} {ls:List TypeId} (h:zYh P t r) (hu:(match P.underlying t with | some (.struct _) | some (.array _ _)=>true | _=>false)=true) (hl:lv P t=some ls) :
  ∃ ds,r=.agg ds∧ds.length=ls.length∧∀ (i:Nat) d,ds[i]?=some d→∃ t',ls[i]?=some t'∧zXr P 6 t' d:=by
 unfold zYh at h
 split at hu
 ·rename_i fs he
  simp only [he] at h
  obtain ⟨ds,ls',h1,h2,h3⟩:=h
  rw [hl] at h2; injection h2 with h2; subst h2
  exact ⟨ds,h1,h3⟩
 ·rename_i n e he
  simp only [he] at h
  obtain ⟨ds,ls',h1,h2,h3⟩:=h
  rw [hl] at h2; injection h2 with h2; subst h2
  exact ⟨ds,h1,h3⟩
 ·cases hu
def zVN (P:Program) (q:Nat) (ls:List TypeId) (ds:List DV):Prop:=ds.length=ls.length∧∀ (i:Nat) d,ds[i]?=some d→∃ t',ls[i]?=some t'∧zXr P q t' d
theorem zVN.cons {P:Program} {q:Nat} {t:TypeId} {ts:List TypeId} {ds:List DV} (h:zVN P q (t::ts) ds):∃ d ds',ds=d::ds'∧zXr P q t d∧zVN P q ts ds':=by
 obtain ⟨h1,h2⟩:=h
 cases ds with
 | nil=>simp at h1
 | cons d ds=>
  refine ⟨d,ds,rfl,?_,by simpa using h1,fun i d' hd=>?_⟩
  ·obtain ⟨t',e,h⟩:=h2 0 d rfl
   simp at e; subst e; exact h
  ·obtain ⟨t',e,h⟩:=h2 (i+1) d' (by simpa using hd)
   exact ⟨t',by simpa using e,h⟩
theorem zVN.nil {P:Program} {q:Nat} {ds:List DV} (h:zVN P q [] ds):ds=[]:=by
 have:=h.1
 simpa using this
theorem zXr.int {P:Program} {q:Nat} {t:TypeId} {d:DV} {k:IntKind} (h:zXr P q t d) (hu:P.underlying t=some (.int k)):∃ n,d=.int k n:=by
 cases q with
 | zero=>exact h.elim
 | succ q=>unfold zXr at h; simp only [hu] at h; exact h
theorem zXr.bool {P:Program} {q:Nat} {t:TypeId} {d:DV} (h:zXr P q t d) (hu:P.underlying t=some .bool):∃ n,d=.bool n:=by
 cases q with
 | zero=>exact h.elim
 | succ q=>unfold zXr at h; simp only [hu] at h; exact h
theorem zXr.slice {P:Program} {q:Nat} {t e:TypeId} {d:DV} {ls:List TypeId} (h:zXr P q t d) (hu:P.underlying t=some (.slice e)) (hl:lv P e=some ls) :
  ∃ n xs,d=.sl n xs∧n*P.bytesOf e≤reachBytes∧xs.length=n*ls.length∧∀ (j:Nat) d',xs[j]?=some d'→∃ t',ls[j % ls.length]?=some t'∧∃ q,zXr P q t' d':=by
 cases q with
 | zero=>exact h.elim
 | succ q=>
  unfold zXr at h; simp only [hu,hl] at h
  obtain ⟨n,xs,h1,h2,h3,h4⟩:=h
  exact ⟨n,xs,h1,h2,h3,fun j d' hj=>let ⟨t',a,b⟩:=h4 j d' hj; ⟨t',a,q,b⟩⟩
theorem zXr.str {P:Program} {q:Nat} {t:TypeId} {d:DV} (h:zXr P q t d) (hu:P.underlying t=some .string):∃ n,d=.str n:=by
 cases q with
 | zero=>exact h.elim
 | succ q=>unfold zXr at h; simp only [hu] at h; exact h
theorem zYh.oneS {P:Program} {t:TypeId} {r:RV} (h:zYh P t r) (hu:P.underlying t=some .string):∃ n,r=.d (.str n):=by
 unfold zYh at h
 simp only [hu] at h
 obtain ⟨d,rfl,h⟩:=h
 obtain ⟨n,rfl⟩:=zXr.str h hu
 exact ⟨n,rfl⟩
theorem zYh.slice {P:Program} {t e:TypeId} {r:RV} {ls:List TypeId} (h:zYh P t r) (hu:P.underlying t=some (.slice e)) (hl:lv P e=some ls) :
  ∃ n xs,r=.d (.sl n xs)∧n*P.bytesOf e≤reachBytes∧xs.length=n*ls.length∧∀ (j:Nat) d',xs[j]?=some d'→∃ t',ls[j % ls.length]?=some t'∧∃ q,zXr P q t' d':=by
 unfold zYh at h
 simp only [hu] at h
 obtain ⟨d,rfl,h⟩:=h
 obtain ⟨n,xs,rfl,h2⟩:=zXr.slice h hu hl
 exact ⟨n,xs,rfl,h2⟩
theorem jZ1 {P:Program} {t t':TypeId} {q j:Nat} {d:DV} {k:IntKind} (hu:P.underlying t=some (.int k)) (a:[t][j % [t].length]?=some t') (b:zXr P q t' d):∃ n,d=.int k n:=by
 have:t'=t:=by
  have h:=List.mem_of_getElem? a
  simpa using h
 subst this
 exact b.int hu
end
theorem zUb (l:List Int) {n:Nat} (h:n=l.length):IsU n (us l):=by
 subst h
 exact jKB (zJy l) fun j d hj=>by
  simp only [us,List.getElem?_map] at hj
  obtain ⟨v,_,rfl⟩:=Option.map_eq_some_iff.1 hj
  exact ⟨v,rfl⟩
theorem zYN:IsU 0 []:=jKB rfl fun j d hj=>by simp at hj
theorem jXn:Im.zero.isU:=⟨zYN,zYN,zYN,zYN,zYN⟩
theorem zYr (w h:Int) (c:Px):(zQg w h c).isU:=⟨zYN,zYN,zYN,zYN,zYN⟩
theorem zG9 (w h:Int) (l:List Px):(imOf w h l).isU:=by
 cases hk:ofOk w h l.length with
 | true=>
  rw [zKJ hk]
  refine ⟨zUb _ ?_,zUb _ ?_,zUb _ ?_,zUb _ ?_,zUb _ ?_⟩ <;> exact (List.length_map _).symm
 | false=>rw [zUe hk]; exact jXn
theorem jV9 {n:Nat} {xs:List DV} (hn:xs.length=n*5) (hx:∀ (j:Nat) d,xs[j]?=some d→∃ v,d=.int .i64 v):Is5 n xs:=
 ⟨hn,fun i hi=>by
  have hl:i < xs.length:=by omega
  obtain ⟨v,e⟩:=hx i _ (List.getElem?_eq_getElem hl)
  rw [List.getElem?_eq_getElem hl,e]
  simp [nAt,List.getElem?_eq_getElem hl,e]⟩
theorem jJV {P:Program} {t t':TypeId} {q j:Nat} {d:DV} {k:IntKind} (hu:P.underlying t=some (.int k)) (a:[t,t,t,t,t][j % [t,t,t,t,t].length]?=some t') (b:zXr P q t' d):∃ n,d=.int k n:=by
 have:t'=t:=by
  have h:=List.mem_of_getElem? a
  simpa using h
 subst this
 exact b.int hu
theorem zGs (mood:Int) (L:Nat) (xs:List DV) (most:Int) {n k:Nat} (h:k=n):zUW k (pxs (zQG mood L xs most n)):=by
 subst h
 have:=zJP (zQG mood L xs most k)
 rwa [zXd] at this
theorem zZw {n k:Int} (h1:1≤k) (h2:k≤4611686018427387904):0≤modS n k∧modS n k < k:=by
 rw [jYG h1 h2]
 exact ⟨Int.emod_nonneg _ (by omega),Int.emod_lt_of_pos _ (by omega)⟩
def imR (m:Im):RV:=RV.agg [DV.int .i64 m.w,DV.int .i64 m.h,DV.bool m.so,DV.int .u16 m.c.a,DV.int .u16 m.c.b,DV.int .u16 m.c.c,DV.int .u16 m.c.al,DV.int .u16 m.c.f,DV.int .i64 m.p0.w,DV.int .i64 m.p0.h,DV.int .i64 m.p0.s,DV.sl m.p0.n m.p0.xs,DV.int .i64 m.p1.w,DV.int .i64 m.p1.h,DV.int .i64 m.p1.s,DV.sl m.p1.n m.p1.xs,DV.int .i64 m.p2.w,DV.int .i64 m.p2.h,DV.int .i64 m.p2.s,DV.sl m.p2.n m.p2.xs,DV.int .i64 m.p3.w,DV.int .i64 m.p3.h,DV.int .i64 m.p3.s,DV.sl m.p3.n m.p3.xs,DV.int .i64 m.p4.w,DV.int .i64 m.p4.h,DV.int .i64 m.p4.s,DV.sl m.p4.n m.p4.xs]
def imD (m:Im):AV:=AV.agg [Cl.d (DV.int .i64 m.w),Cl.d (DV.int .i64 m.h),Cl.d (DV.bool m.so),Cl.d (DV.int .u16 m.c.a),Cl.d (DV.int .u16 m.c.b),Cl.d (DV.int .u16 m.c.c),Cl.d (DV.int .u16 m.c.al),Cl.d (DV.int .u16 m.c.f),Cl.d (DV.int .i64 m.p0.w),Cl.d (DV.int .i64 m.p0.h),Cl.d (DV.int .i64 m.p0.s),Cl.d (DV.sl m.p0.n m.p0.xs),Cl.d (DV.int .i64 m.p1.w),Cl.d (DV.int .i64 m.p1.h),Cl.d (DV.int .i64 m.p1.s),Cl.d (DV.sl m.p1.n m.p1.xs),Cl.d (DV.int .i64 m.p2.w),Cl.d (DV.int .i64 m.p2.h),Cl.d (DV.int .i64 m.p2.s),Cl.d (DV.sl m.p2.n m.p2.xs),Cl.d (DV.int .i64 m.p3.w),Cl.d (DV.int .i64 m.p3.h),Cl.d (DV.int .i64 m.p3.s),Cl.d (DV.sl m.p3.n m.p3.xs),Cl.d (DV.int .i64 m.p4.w),Cl.d (DV.int .i64 m.p4.h),Cl.d (DV.int .i64 m.p4.s),Cl.d (DV.sl m.p4.n m.p4.xs)]
def imV (b:Nat) (m:Im):AV:=AV.agg [Cl.d (DV.int .i64 m.w),Cl.d (DV.int .i64 m.h),Cl.d (DV.bool m.so),Cl.d (DV.int .u16 m.c.a),Cl.d (DV.int .u16 m.c.b),Cl.d (DV.int .u16 m.c.c),Cl.d (DV.int .u16 m.c.al),Cl.d (DV.int .u16 m.c.f),Cl.d (DV.int .i64 m.p0.w),Cl.d (DV.int .i64 m.p0.h),Cl.d (DV.int .i64 m.p0.s),Cl.ref (b+0) m.p0.n,Cl.d (DV.int .i64 m.p1.w),Cl.d (DV.int .i64 m.p1.h),Cl.d (DV.int .i64 m.p1.s),Cl.ref (b+1) m.p1.n,Cl.d (DV.int .i64 m.p2.w),Cl.d (DV.int .i64 m.p2.h),Cl.d (DV.int .i64 m.p2.s),Cl.ref (b+2) m.p2.n,Cl.d (DV.int .i64 m.p3.w),Cl.d (DV.int .i64 m.p3.h),Cl.d (DV.int .i64 m.p3.s),Cl.ref (b+3) m.p3.n,Cl.d (DV.int .i64 m.p4.w),Cl.d (DV.int .i64 m.p4.h),Cl.d (DV.int .i64 m.p4.s),Cl.ref (b+4) m.p4.n]
def imB (e:Nat) (m:Im):List Bx:=[Bx.row e 1 m.p0.xs,Bx.row e 1 m.p1.xs,Bx.row e 1 m.p2.xs,Bx.row e 1 m.p3.xs,Bx.row e 1 m.p4.xs]
def zYk (p k a b often:Int):Int:=if modS (IntKind.wrap .i64 (Int.tdiv often 5)) 3=0 then IntKind.wrap .i64 (b - a) else IntKind.wrap .i64 (1+modS p k)
def zQ5 (pw ph so mood:Int) (L:Nat) (xs:List DV) (x0 y0 x1 y1 most:Int):Im:=
 let w:=zYk pw 5 x0 x1 pw
 let h:=zYk ph 4 y0 y1 pw
 let l:=zQG mood L xs most (IntKind.wrap .i64 (w*h)).toNat
 if modS so 2=0 then zQg w h (gPx mood L xs most 0) else imOf w h l
theorem zV1 {mood:Int} {L:Nat} {xs:List DV} {most:Int} {n:Nat} (hn:0 < n):nAt (pxs (zQG mood L xs most n)) 0=(gPx mood L xs most 0).a∧nAt (pxs (zQG mood L xs most n)) 1=(gPx mood L xs most 0).b∧nAt (pxs (zQG mood L xs most n)) 2=(gPx mood L xs most 0).c∧nAt (pxs (zQG mood L xs most n)) 3=(gPx mood L xs most 0).al∧nAt (pxs (zQG mood L xs most n)) 4=(gPx mood L xs most 0).f:=by
 have h:0 < (zQG mood L xs most n).length:=by rw [zXd]; exact hn
 have e:(zQG mood L xs most n)[0]=gPx mood L xs most 0:=by simp [zQG]
 have:=zZr h
 rw [e] at this
 simpa only [Nat.zero_mul,Nat.zero_add] using this
theorem jXM (pw ph so mood:Int) (L:Nat) (xs:List DV) (x0 y0 x1 y1 most:Int):(zQ5 pw ph so mood L xs x0 y0 x1 y1 most).isU:=by
 unfold zQ5
 simp only
 split
 ·exact zYr _ _ _
 ·exact zG9 _ _ _
theorem zVn (pw ph so mood:Int) (L:Nat) (xs:List DV) (x0 y0 x1 y1 most W H:Int) (hW:zYk pw 5 x0 x1 pw=W) (hH:zYk ph 4 y0 y1 pw=H):zQ5 pw ph so mood L xs x0 y0 x1 y1 most=if modS so 2=0 then zQg W H (gPx mood L xs most 0) else imOf W H (zQG mood L xs most (IntKind.wrap .i64 (W*H)).toNat):=by
 unfold zQ5
 simp only [hW,hH]
theorem zHC {W H:Int} (hW:1≤W∧W≤100) (hH:1≤H∧H≤100):1≤IntKind.wrap .i64 (W*H)∧IntKind.wrap .i64 (W*H)≤10000:=by
 have a:=Int.mul_le_mul hW.2 hH.2 (by omega) (by omega)
 have b:=Int.mul_le_mul hW.1 hH.1 (by omega) (by omega)
 rw [IntWalk.i64_in _ ⟨by omega,by omega⟩]
 omega
def strS (p:Pl) (more k:Int):Int:=IntKind.wrap .i64 (p.w+modS (IntKind.wrap .i64 (more+k)) 4)
def strV (p:Pl) (s:Int) (i:Nat):Int:=
 if Int.tmod (i:Int) s < p.w then nAt p.xs (IntKind.wrap .i64 (IntKind.wrap .i64 (IntKind.wrap .i64 (Int.tdiv (i:Int) s)*p.s)+Int.tmod (i:Int) s)).toNat else IntKind.wrap .u16 (IntKind.wrap .i64 (40000+(i:Int)))
def jZv (p:Pl) (s:Int) (n:Nat):List DV:=us ((List.range n).map (strV p s))
def strN (p:Pl) (s:Int):Nat:=(IntKind.wrap .i64 (s*p.h)).toNat
def strP (p:Pl) (more k:Int):Pl:=⟨p.w,p.h,strS p more k,strN p (strS p more k),jZv p (strS p more k) (strN p (strS p more k))⟩
def zXt (m:Im) (more:Int):Im:=if m.so then m else ⟨m.w,m.h,m.so,m.c,strP m.p0 more 0,strP m.p1 more 1,strP m.p2 more 2,strP m.p3 more 3,strP m.p4 more 4⟩
theorem jX6 {p:Pl} {more k:Int} (hw:1≤p.w∧p.w≤100):p.w≤strS p more k∧strS p more k≤103:=by
 have b:=@zZw (IntKind.wrap .i64 (more+k)) 4 (by omega) (by omega)
 unfold strS
 rw [IntWalk.i64_in _ ⟨by omega,by omega⟩]
 omega
theorem jX7 {p:Pl} {s:Int} (hs:1≤s∧s≤103) (hh:1≤p.h∧p.h≤100):IntKind.wrap .i64 (s*p.h)=(strN p s:Int)∧strN p s≤10300∧((strN p s:Nat):Int)=s*p.h:=by
 have a:=Int.mul_le_mul hs.2 hh.2 (by omega) (by omega)
 have b:=Int.mul_nonneg (show 0≤s by omega) (show 0≤p.h by omega)
 unfold strN
 rw [IntWalk.i64_in _ ⟨by omega,by omega⟩]
 omega
theorem jXo (p:Pl) (s:Int) {n i:Nat} (h:i < n):nAt (jZv p s n) i=strV p s i:=by
 unfold jZv
 rw [jXX (by simpa using h)]
 simp
theorem zYU {p:Pl} {more k:Int} (hv:zQZ p.w p.h p.s p.n=true) (hw:p.w≤100) (hh:p.h≤100):zQZ (strP p more k).w (strP p more k).h (strP p more k).s (strP p more k).n=true:=by
 have hf:zQ8 p.w p.h=true:=by unfold zQZ at hv; simp at hv; exact hv.1.1.1
 obtain ⟨f1,f2,f3,f4,f5⟩:=zXi hf
 have S:=@jX6 p more k ⟨f1,hw⟩
 have N:=@jX7 p (strS p more k) ⟨by omega,by omega⟩ ⟨f2,hh⟩
 have L:=jZc hf S.1 (by omega)
 show zQZ p.w p.h (strS p more k) (strN p (strS p more k))=true
 unfold zQZ
 have e:(p.h - 1)*strS p more k=strS p more k*p.h - strS p more k:=by rw [Int.sub_mul,Int.mul_comm]; omega
 simp only [hf,Bool.true_and,Bool.and_eq_true,decide_eq_true_eq]
 exact ⟨⟨S.1,by omega⟩,by omega⟩
theorem zWA {p:Pl} {more k:Int} (hv:zQZ p.w p.h p.s p.n=true) (hw:p.w≤100) (hh:p.h≤100) {x y:Int} (hx:0≤x∧x < p.w) (hy:0≤y∧y < p.h):(strP p more k).at_ x y=p.at_ x y:=by
 have hf:zQ8 p.w p.h=true:=by unfold zQZ at hv; simp at hv; exact hv.1.1.1
 obtain ⟨f1,f2,f3,f4,f5⟩:=zXi hf
 obtain ⟨q1,q2,q3,q4,q5⟩:=place hv hx.1 hx.2 hy.1 hy.2
 obtain ⟨v1,v2,v3,v4,v5,v6,v7,v8,v9⟩:=zKA hv
 have S:=@jX6 p more k ⟨f1,hw⟩
 have N:=@jX7 p (strS p more k) ⟨by omega,by omega⟩ ⟨f2,hh⟩
 show nAt (jZv p (strS p more k) (strN p (strS p more k))) (y*strS p more k+x).toNat=nAt p.xs (y*p.s+x).toNat
 generalize strS p more k=s at *
 have a1:0≤y*s:=Int.mul_nonneg hy.1 (by omega)
 have a2:(y+1)*s≤p.h*s:=Int.mul_le_mul_of_nonneg_right (by omega) (by omega)
 have a3:(y+1)*s=y*s+s:=by rw [Int.add_mul,Int.one_mul]
 have a4:p.h*s=s*p.h:=Int.mul_comm _ _
 have hi:(y*s+x).toNat < strN p s:=by omega
 rw [jXo _ _ hi]
 have ei:((y*s+x).toNat:Int)=y*s+x:=by omega
 unfold strV
 rw [ei,Int.tmod_eq_emod_of_nonneg (by omega),Int.tdiv_eq_ediv_of_nonneg (by omega)]
 have m1:(y*s+x) % s=x:=by rw [Int.add_comm,Int.add_mul_emod_self_right]; exact Int.emod_eq_of_lt hx.1 (by omega)
 have m2:(y*s+x) / s=y:=by rw [Int.add_comm,Int.add_mul_ediv_right _ _ (by omega),Int.ediv_eq_zero_of_lt hx.1 (by omega)]; omega
 rw [m1,m2,if_pos hx.2]
 rw [IntWalk.i64_in y ⟨by omega,by omega⟩,q5.1,q5.2]
theorem jZk (m:Im) (more:Int):(zXt m more).so=m.so∧(zXt m more).w=m.w∧(zXt m more).h=m.h∧(zXt m more).c=m.c:=by
 unfold zXt
 split <;> simp
theorem zJT {m:Im} (hf:m.formed=true) (hm:m.w≤100∧m.h≤100) (more:Int):(zXt m more).formed=true:=by
 unfold zXt
 split
 ·exact hf
 ·rename_i hs
  have hs:m.so=false:=by simpa using hs
  obtain ⟨qf,qi⟩:=Im.formed_of hf
  obtain ⟨qc,z0,z1,z2,z3,z4⟩:=Im.inner_planes qi hs
  have p0:=zYU (more:=more) (k:=0) z0.1 (by omega) (by omega)
  have p1:=zYU (more:=more) (k:=1) z1.1 (by omega) (by omega)
  have p2:=zYU (more:=more) (k:=2) z2.1 (by omega) (by omega)
  have p3:=zYU (more:=more) (k:=3) z3.1 (by omega) (by omega)
  have p4:=zYU (more:=more) (k:=4) z4.1 (by omega) (by omega)
  have e:∀ (p:Pl) k,(strP p more k).w=p.w∧(strP p more k).h=p.h:=fun p k=>⟨rfl,rfl⟩
  simp only [(e _ _).1,(e _ _).2,z0.2,z1.2,z2.2,z3.2,z4.2] at p0 p1 p2 p3 p4
  simp [Im.formed,Im.inner,okPl,hs,qf,qc,p0,p1,p2,p3,p4,e,z0.2,z1.2,z2.2,z3.2,z4.2]
theorem jZl {m:Im} (hf:m.formed=true) (hm:m.w≤100∧m.h≤100) (more:Int) {x y:Int} (hx:0≤x∧x < m.w) (hy:0≤y∧y < m.h):(zXt m more).px x y=m.px x y:=by
 unfold zXt
 split
 ·rfl
 ·rename_i hs
  have hs:m.so=false:=by simpa using hs
  obtain ⟨qf,qi⟩:=Im.formed_of hf
  obtain ⟨qc,z0,z1,z2,z3,z4⟩:=Im.inner_planes qi hs
  unfold Im.px
  simp only [hs]
  rw [zWA z0.1 (by omega) (by omega) (by omega) (by omega),zWA z1.1 (by omega) (by omega) (by omega) (by omega),zWA z2.1 (by omega) (by omega) (by omega) (by omega),zWA z3.1 (by omega) (by omega) (by omega) (by omega),zWA z4.1 (by omega) (by omega) (by omega) (by omega)]
theorem Im.pixels_ext {m r:Im} (hm:m.formed=true) (hr:r.formed=true) (hw:r.w=m.w) (hh:r.h=m.h) (h:∀ x y:Int,(0≤x∧x < m.w)→(0≤y∧y < m.h)→r.px x y=m.px x y):r.pixels=m.pixels:=by
 rw [Im.pixels_of hm,Im.pixels_of hr,hw,hh]
 unfold Im.list
 refine List.map_congr_left fun k hk=>?_
 have hk:=List.mem_range.1 hk
 obtain ⟨a,b⟩:=Im.nth_in (Im.formed_of hm).1 hk
 unfold Im.nth
 rw [hw]
 exact h _ _ a b
theorem zUj {m:Im} (hf:m.formed=true) (hm:m.w≤100∧m.h≤100) (more:Int):(zXt m more).pixels=m.pixels:=
 have g:=jZk m more
 Im.pixels_ext hf (zJT hf hm more) g.2.1 g.2.2.1 (fun x y hx hy=>jZl hf hm more hx hy)
theorem zXl {w h:Int} (c:Px) (hf:zQ8 w h=true):(zQg w h c).formed=true:=by
 simp [Im.formed,Im.inner,okPl,zQg,hf,zJm,Pl.none]
theorem zKI {w h:Int} {l:List Px} (hk:ofOk w h l.length=true):(ofIm w h l).formed=true:=by
 unfold ofOk at hk
 simp at hk
 obtain ⟨hf,hl⟩:=hk
 obtain ⟨f1,f2,f3,f4,f5⟩:=zXi hf
 have L:=jZc hf (Int.le_refl w) f3
 have e:(h - 1)*w=w*h - w:=by rw [Int.sub_mul,Int.mul_comm]; omega
 have hv:zQZ w h w l.length=true:=by
  unfold zQZ
  simp only [hf,Bool.true_and,Bool.and_eq_true,decide_eq_true_eq]
  exact ⟨⟨Int.le_refl _,f3⟩,by omega⟩
 simp [Im.formed,Im.inner,okPl,ofIm,hf,hv]
theorem zV2 (pw ph so mood:Int) (L:Nat) (xs:List DV) (x0 y0 x1 y1 most:Int) (hc:1≤x1 - x0∧x1 - x0≤100∧1≤y1 - y0∧y1 - y0≤100) :
  (zQ5 pw ph so mood L xs x0 y0 x1 y1 most).formed=true∧1≤(zQ5 pw ph so mood L xs x0 y0 x1 y1 most).w∧(zQ5 pw ph so mood L xs x0 y0 x1 y1 most).w≤100∧1≤(zQ5 pw ph so mood L xs x0 y0 x1 y1 most).h∧(zQ5 pw ph so mood L xs x0 y0 x1 y1 most).h≤100:=by
 have b5:=@zZw pw 5 (by omega) (by omega)
 have b4:=@zZw ph 4 (by omega) (by omega)
 have hW:1≤zYk pw 5 x0 x1 pw∧zYk pw 5 x0 x1 pw≤100:=by
  unfold zYk
  split <;> rw [IntWalk.i64_in _ ⟨by omega,by omega⟩] <;> omega
 have hH:1≤zYk ph 4 y0 y1 pw∧zYk ph 4 y0 y1 pw≤100:=by
  unfold zYk
  split <;> rw [IntWalk.i64_in _ ⟨by omega,by omega⟩] <;> omega
 rw [zVn pw ph so mood L xs x0 y0 x1 y1 most _ _ rfl rfl]
 generalize zYk pw 5 x0 x1 pw=W at *
 generalize zYk ph 4 y0 y1 pw=H at *
 have wa:=zHC hW hH
 have hf:zQ8 W H=true:=by
  have:=Int.mul_le_mul hW.2 hH.2 (by omega) (by omega)
  simp [zQ8]; omega
 have hwm:IntKind.wrap .i64 (W*H)=W*H:=IntWalk.i64_in _ (by
  have:=Int.mul_le_mul hW.2 hH.2 (by omega) (by omega)
  have:=Int.mul_nonneg (a:=W) (b:=H) (by omega) (by omega)
  omega)
 split
 ·exact ⟨zXl _ hf,hW.1,hW.2,hH.1,hH.2⟩
 ·have hk:ofOk W H (zQG mood L xs most (IntKind.wrap .i64 (W*H)).toNat).length=true:=by
   simp only [ofOk,hf,Bool.true_and,decide_eq_true_eq,zXd]
   omega
  rw [zKJ hk]
  exact ⟨zKI hk,hW.1,hW.2,hH.1,hH.2⟩
theorem jVM {l:List Px} {g:Px→Int} {k:Nat} (h:k < l.length):nAt (chan l g) k=g l[k]:=by
 unfold chan
 rw [jXX (by simpa using h)]
 simp
theorem jVg {w h:Int} {l:List Px} {x y:Int} (hk:(y*w+x).toNat < l.length):(ofIm w h l).px x y=l[(y*w+x).toNat]:=by
 simp [Im.px,ofIm,Pl.at_,jVM hk]
theorem Im.list_at {m:Im} {n k:Nat} (h:k < n):(m.list n)[k]'(by rw [Im.list_len]; exact h)=m.nth k:=by simp [Im.list]
theorem Im.pixels_len {m:Im} (hf:m.formed=true):(m.pixels.length:Int)=m.w*m.h:=by
 rw [Im.pixels_of hf,Im.list_len]
 exact (Im.count_le (Im.formed_of hf).1).2
theorem Im.pixels_ok {m:Im} (hf:m.formed=true):ofOk m.w m.h m.pixels.length=true:=by
 simp [ofOk,(Im.formed_of hf).1,Im.pixels_len hf]
theorem jZh {w h:Int} {l:List Px} (hk:ofOk w h l.length=true):(imOf w h l).formed=true∧(imOf w h l).pixels=l:=by
 rw [zKJ hk]
 have hf:=zKI hk
 refine ⟨hf,?_⟩
 rw [Im.pixels_of hf]
 obtain ⟨f1,f2,f3,f4,f5⟩:=zXi (Im.formed_of hf).1
 have hl:l.length=w.toNat*h.toNat:=by
  have:=(Im.count_le (Im.formed_of hf).1).2
  simp [ofOk] at hk
  change ((w.toNat*h.toNat:Nat):Int)=w*h at this
  omega
 refine List.ext_getElem (by rw [Im.list_len]; exact hl.symm) fun i h1 h2=>?_
 rw [Im.list_len] at h1
 rw [Im.list_at h1]
 have hw:0 < w.toNat:=by change 1≤w at f1; omega
 have e:i / w.toNat*w.toNat+i % w.toNat=i:=by rw [Nat.mul_comm]; exact Nat.div_add_mod i w.toNat
 have e2:(((i / w.toNat:Nat):Int)*w+((i % w.toNat:Nat):Int)).toNat=i:=by
  rw [idx (by change 1≤w at f1; omega)]; exact e
 show (ofIm w h l).px ((i % w.toNat:Nat):Int) ((i / w.toNat:Nat):Int)=l[i]
 rw [jVg (by rw [e2]; exact h2)]
 simp only [e2]
section
attribute [local irreducible] Ans AnsO AnsG AnsN AnsI
def gZ10 (xs:List RV):Option RV:=match xs with | [.d (.sl n xs),.d (.sl m ys)]=>some (RV.d (dQ (decide (ints xs=ints ys)))) | _=>none
def gZ11 (xs:List RV):Option RV:=match xs with | []=>some (RV.tup [RV.tup [rJ 3,rJ 1]]) | [.d (.sl n xs),.d (.int _ m)]=>some (RV.d (dS (zJI (ints xs) m).length (is (zJI (ints xs) m)))) | _=>none
def gamO:Gam where
 pure:=fun f xs=>
  if f=14 then gZ0 xs else
  if f=46 then (match xs with | [.d (.sl n xs),.d (.int _ i)]=>some (rJ (atS (ints xs) i)) | _=>none) else
  if f=40 then gZ10 xs else
  if f=20 then gZ11 xs else
  none
 modes:=fun f=>
  none
 proc:=fun f xs bs=>
  none
 iter:=fun f cs=>
  none
theorem jKl (n:Nat) (xs:List DV) (i:Int) (hx:xs=is (ints xs)∧n=xs.length):Ans prog 46 [RV.d (dS n xs),rJ (i)] (rJ ((atS (ints xs) i))):=
 zQj (Γ:=gamO) Ann.leaf zQs Tryz.func46 rfl (nL rfl) fun hwf=>by
  refine Eq.mpr (by kernel_rfl:_=(let a:=(dJ (atS (ints xs) i)); let b:=(dJ (nAt xs (i.toNat*1))); tU4 (((decide (i < 0))=false→tU5 (((decide (i≥(n:Int)))=true→True∧rJ 0=RV.d a)∧((decide (i≥(n:Int)))=false→tU2 ((0≤i∧i < (n:Int)∧i.toNat*1 < xs.length)∧((xs[i.toNat*1]?=some b)∧True)∧True∧RV.d b=RV.d a))))∧((decide (i < 0))=(!false)→tU2 (rJ 0=RV.d a))))) ?_
  delta dJ rJ
  simp only [sS,zQI]
  obtain ⟨hx,rfl⟩:=hx
  generalize hl:ints xs=l at *
  subst hx
  simp only [zZc,Nat.mul_one]
  refine ⟨fun h1=>⟨fun h2=>?_,fun h2=>?_⟩,fun h1=>by simp [atS,h1]⟩
  ·have:l[i.toNat]?=none:=List.getElem?_eq_none (by omega)
   simp [atS,h1,this]
  ·have h:i.toNat < l.length:=by omega
   refine ⟨by omega,?_,?_⟩
   ·rw [zH4 h]; exact jYK h
   ·rw [zH4 h]; simp [atS,h1,List.getElem?_eq_getElem h]
theorem zVP (n:Nat) (xs:List DV) (m:Int) (hx:xs=is (ints xs)∧n=xs.length) (hm:0≤m):AnsO prog 20 [RV.d (dS n xs),rJ (m)] 3 1 ((zJI (ints xs) m).length) (is (zJI (ints xs) m)):=
 zX3 (t:=4) (Γ:=gamO) (let a:=(0,AV.one (Cl.d (dS n xs))); let b:=(1,aJ m); (Ann.seq Ann.leaf (Ann.seq Ann.leaf (Ann.seq Ann.leaf (Ann.seq (Ann.seq Ann.leaf (Ann.loop ⟨Nat,fun k=>k≤m.toNat,fun k=>⟨[a,b,(5,AV.one (Cl.ref 1005 m.toNat)),(6,aJ (k:Int))],[(1005,Bx.row 3 1 (is (upto k)++List.replicate (m.toNat - k) (dJ 0)))]⟩,fun k=>m.toNat - k⟩ fun k=>Ann.leaf)) (Ann.seq Ann.leaf (Ann.seq (Ann.seq Ann.leaf (Ann.loop ⟨Nat,fun j=>j≤m.toNat,fun j=>⟨[a,b,(5,AV.one (Cl.d (dS (m.toNat - j) (is (stp (ints xs) m.toNat j).1)))),(7,AV.one (Cl.ref 1007 j)),(8,aJ (j:Int))],[(1007,Bx.row 3 1 (is (stp (ints xs) m.toNat j).2))]⟩,fun j=>m.toNat - j⟩ fun j=>Ann.leaf)) Ann.leaf))))))) zQs Tryz.func20 rfl (nL rfl) rfl fun hwf=>by
  refine Eq.mpr (by kernel_rfl:_=(let g:=(dS n xs=dS n xs); let b:=(zJI (ints xs) m); let h:=(dJ m=dJ m); tU5 ((((n:Int)==0)=false→tU3 (((decide (m > 64))=true→True∧b.length=0∧is b=[])∧((decide (m > 64))=false→True∧(0≤m∧m≤m∧m≤(maxLen:Int)∧((8:Nat):Int)*m≤281474976710656)∧tU2 ((∃ k:Nat,(k≤m.toNat)∧((g∧h∧(m.toNat=m.toNat)∧(dJ 0=dJ (k:Int))∧True)∧((List.replicate m.toNat (dJ 0)=is (upto k)++List.replicate (m.toNat - k) (dJ 0))∧True)))∧∀ k:Nat,let o:=(is (upto k)++List.replicate (m.toNat - k) (dJ 0)); (k≤m.toNat)→tU3 (((decide ((k:Int) < m))=true→tU3 ((0≤(k:Int)∧(k:Int) < (m.toNat:Int))∧((k:Int).toNat*1+1≤o.length)∧tU3 (∃ k':Nat,(k'≤m.toNat)∧(m.toNat - k' < m.toNat - k)∧((g∧h∧(m.toNat=m.toNat)∧(dJ (wK ((k:Int)+1))=dJ (k':Int))∧True)∧((List.set o ((k:Int).toNat*1) (dJ (k:Int))=is (upto k')++List.replicate (m.toNat - k') (dJ 0))∧True)))))∧((decide ((k:Int) < m))=false→tU2 ((∃ j:Nat,(j≤m.toNat)∧((g∧h∧(dS m.toNat o=dS (m.toNat - j) (is (stp (ints xs) m.toNat j).1))∧(0=j)∧(dJ 0=dJ (j:Int))∧True)∧(([]=is (stp (ints xs) m.toNat j).2)∧True)))∧∀ j:Nat,let i:=(stp (ints xs) m.toNat j); let a:=(((m.toNat - j):Nat):Int); let c:=(atS (ints xs) (j:Int)); let l:=(modS c a - 0); let e:=(modS c a); let f:=(is i.1); let p:=(nAt f (e.toNat*1)); let d:=(e+1); let r:=(List.take ((a - wK d).toNat*1) (List.drop ((wK d).toNat*1) f)); let q:=(List.take (l.toNat*1) (List.drop ((0:Int).toNat*1) f)); (j≤m.toNat)→tU3 (((decide (a > 0))=true→tU2 ((Ans prog 46 [RV.d (dS n xs),rJ (j:Int)] (rJ c))∧tU2 ((Ans prog 14 [rJ c,rJ a] (rJ e))∧tU4 ((0≤modS c a∧modS c a < a∧e.toNat*1 < f.length)∧((f[e.toNat*1]?=some (dJ p))∧True)∧True∧(zZl 1 8 j 1 (is i.2) ([dJ p]))∧tU3 ((0≤(0:Int)∧(0:Int)≤modS c a∧modS c a≤a)∧(zZl 1 8 0 l.toNat ([]) q)∧tU3 ((0≤wK d∧wK d≤a∧a≤a)∧(zZl 1 8 l.toNat (a - wK d).toNat q r)∧True∧(true=true)∧tU3 (∃ j':Nat,(j'≤m.toNat)∧(m.toNat - j' < m.toNat - j)∧((g∧h∧(dS (l.toNat+(a - wK d).toNat) (q++r)=dS (m.toNat - j') (is (stp (ints xs) m.toNat j').1))∧(j+1=j')∧(dJ (wK ((j:Int)+1))=dJ (j':Int))∧True)∧(((is i.2)++([dJ p])=is (stp (ints xs) m.toNat j').2)∧True)))))))))∧((decide (a > 0))=false→tU2 ((3=3∧1=1)∧(is b).length=b.length*1∧j=b.length∧is i.2=is b))))))))))∧(((n:Int)==0)=(!false)→tU2 (b.length=0∧is b=[]))))) ?_
  delta dJ wK dS rJ
  simp only [sS,zQI]
  obtain ⟨hx,rfl⟩:=hx
  generalize hl:ints xs=l at *
  subst hx
  have z0:l.length=0→zJI l m=[]:=fun h=>by simp [zJI,h]
  have z1:64 < m→zJI l m=[]:=fun h=>by simp [zJI,h]
  refine ⟨fun hne=>⟨fun hbig=>by rw [z1 hbig]; exact ⟨rfl,rfl⟩,fun hsm=>?_⟩,fun he=>by rw [z0 (by simpa [zZc] using he)]; exact ⟨rfl,rfl⟩⟩
  have hll:l.length≠0:=by simpa [zZc] using hne
  have hp:zJI l m=(stp l m.toNat m.toNat).2:=by unfold zJI; rw [if_neg (by omega)]
  obtain ⟨N,rfl⟩:∃ N:Nat,m=(N:Int):=⟨m.toNat,by omega⟩
  rw [hp]
  simp only [Int.toNat_natCast,Nat.mul_one,maxLen]
  have hN:N≤64:=by omega
  have wr:∀ n:Int,-1000000≤n→n≤1000000→IntKind.wrap .i64 n=n:=fun n h h'=>by rw [IntKind.wrap_i64]; omega
  refine ⟨by omega,⟨0,Nat.zero_le _,rfl,by simp [upto,is]⟩,fun k hk=>⟨fun hlt=>?_,fun hge=>⟨⟨0,Nat.zero_le _,⟨⟨rfl,?_⟩,rfl,rfl⟩,rfl⟩,fun j hj=>⟨fun hlt=>?_,fun hge=>?_⟩⟩⟩⟩
  ·refine ⟨by omega,by rw [List.length_append,zZc,zGE,List.length_replicate]; omega,k+1,by omega,by omega,by rw [wr _ (by omega) (by omega)]; omega,jY1 (by omega)⟩
  ·have:k=N:=by omega
   subst this
   simp [stp]
  ·obtain ⟨h1,h2⟩:=zVw l hN j (by omega)
   have hK:=jZa (v:=atS l j) (m:=(stp l N j).1.length) (by omega) (by omega)
   have e1:(stp l N (j+1)).1=(stp l N j).1.take (modS (atS l j) (stp l N j).1.length).toNat++(stp l N j).1.drop ((modS (atS l j) (stp l N j).1.length).toNat+1):=rfl
   have e2:(stp l N (j+1)).2=(stp l N j).2++[((stp l N j).1[(modS (atS l j) (stp l N j).1.length).toNat]?).getD 0]:=rfl
   have ha:=jKl l.length (is l) (j:Int) ⟨by rw [zQO],by rw [zZc]⟩
   rw [zQO] at ha
   generalize (stp l N j).1=r at *
   generalize (stp l N j).2=o at *
   subst h2
   rw [h1] at hK e1 e2
   generalize hg:modS (atS l (o.length:Int)) ((N - o.length:Nat):Int)=g at *
   obtain ⟨K,rfl⟩:∃ K:Nat,g=(K:Int):=⟨g.toNat,by omega⟩
   simp only [Int.toNat_natCast] at hK e1 e2 ⊢
   have w1:IntKind.wrap .i64 ((K:Int)+1)=((K+1:Nat):Int):=by rw [wr _ (by omega) (by omega)]; omega
   have t1:((K:Int) - 0).toNat=K:=by omega
   have t2:(((N - o.length:Nat):Int) - ((K+1:Nat):Int)).toNat=N - o.length - (K+1):=by omega
   have t3:Int.toNat 0=0:=rfl
   have hKr:K < r.length:=by omega
   have d1:List.take (N - o.length - (K+1)) (List.drop (K+1) (is r))=is (r.drop (K+1)):=by rw [jVq,List.take_of_length_le (by rw [zZc,List.length_drop]; omega)]
   simp only [w1,t1,t2,t3,Int.toNat_natCast,List.drop_zero,d1,jVo,zZc,zZl,Nat.mul_one,zUa,zH4 hKr,List.getElem?_eq_getElem hKr,Option.getD_some,maxLen] at e2 ⊢
   refine ⟨ha,⟨by omega,by omega,hKr⟩,jYK hKr,⟨trivial,rfl,by omega,by omega⟩,by omega,⟨rfl,?_,by omega,by omega⟩,by omega,⟨?_,?_,by omega,by omega⟩,o.length+1,by omega,by omega,⟨⟨by omega,by rw [e1]⟩,rfl,by rw [wr _ (by omega) (by omega)]; omega⟩,by rw [e2,← zUa]; rfl⟩
   all_goals simp
   all_goals omega
  ·have:j=N:=by omega
   subst this
   have h2:=(zVw l hN j (Nat.le_refl _)).2
   rw [zZc,h2]
   exact ⟨rfl,rfl,rfl⟩
theorem zWj (n:Nat) (xs:List DV) (m:Nat) (ys:List DV) (hx:xs=is (ints xs)∧n=xs.length) (hy:ys=is (ints ys)∧m=ys.length):Ans prog 40 [RV.d (dS n xs),RV.d (dS m ys)] (RV.d (dQ (decide (ints xs=ints ys)))):=
 zQj (Γ:=gamO) (Ann.seq Ann.leaf (Ann.seq Ann.leaf (Ann.seq (Ann.seq Ann.leaf (Ann.loop ⟨Nat,fun k=>k≤n∧(ints xs).take k=(ints ys).take k,fun k=>⟨[(0,AV.one (Cl.d (dS n xs))),(1,AV.one (Cl.d (dS m ys))),(5,aJ (k:Int)),(6,AV.one (Cl.d (dS n xs))),(7,aJ (n:Int)),(8,AV.one (Cl.d (dS m ys))),(9,aJ (m:Int)),(10,AV.one (Cl.d (dQ ((n:Int) != (m:Int)))))],[]⟩,fun k=>n - k⟩ fun k=>Ann.leaf)) Ann.leaf))) zQs Tryz.func40 rfl (nL rfl) fun hwf=>by
  refine Eq.mpr (by kernel_rfl:_=(let b:=(dS m ys=dS m ys); let c:=(dS n xs=dS n xs); let d:=((n:Int) != (m:Int)); let e:=(dQ (decide (ints xs=ints ys))); let f:=fun (k:Nat)=>(k≤n∧(ints xs).take k=(ints ys).take k); let g:=(dJ (n:Int)=dJ (n:Int)); let h:=(dJ (m:Int)=dJ (m:Int)); let i:=(dQ d=dQ d); tU6 ((d=true→True∧RV.d (dQ false)=RV.d e)∧(d=false→True∧((∃ k:Nat,(f k)∧((c∧b∧(dJ 0=dJ (k:Int))∧c∧g∧b∧h∧i∧True)∧True))∧∀ k:Nat,let a:=((k:Int).toNat*1); (f k)→tU4 (((decide ((k:Int) < (n:Int)))=true→tU2 ((0≤(k:Int)∧(k:Int) < (n:Int)∧(k:Int).toNat*1 < xs.length)∧((xs[(k:Int).toNat*1]?=some (dJ (nAt xs a)))∧True)∧tU2 ((0≤(k:Int)∧(k:Int) < (m:Int)∧(k:Int).toNat*1 < ys.length)∧((ys[(k:Int).toNat*1]?=some (dJ (nAt ys a)))∧True)∧True∧(true=true)∧((((nAt xs a) != (nAt ys a))=true→True∧RV.d (dQ false)=RV.d e)∧(((nAt xs a) != (nAt ys a))=false→tU3 (∃ k':Nat,(k'≤n∧(ints xs).take k'=(ints ys).take k')∧(n - k' < n - k)∧((c∧b∧(dJ (wK ((k:Int)+1))=dJ (k':Int))∧c∧g∧b∧h∧i∧True)∧True)))))))∧((decide ((k:Int) < (n:Int)))=false→True∧RV.d (dQ true)=RV.d e))))))) ?_
  delta dJ dQ wK dS
  simp only [sS,zQI]
  obtain ⟨hx,rfl⟩:=hx
  obtain ⟨hy,rfl⟩:=hy
  generalize ints xs=l at *
  generalize ints ys=l' at *
  subst hx
  subst hy
  simp only [RV.wfs,RV.wf,DV.wf,maxLen,zZc] at hwf
  simp only [zZc]
  refine ⟨fun hne=>?_,fun he=>jJ5 (by simp at he; omega) (by omega) rfl⟩
  have:l≠l':=fun h=>by rw [h] at hne; simp at hne
  simp [this]
end
def gZ12 (xs:List RV):Option RV:=match xs with | [.agg [.int _ a,.int _ b,.int _ c,.int _ d]]=>some (RV.d (dQ (Rc.empty ⟨a,b,c,d⟩))) | _=>none
def gam:Gam where
 pure:=fun f xs=>
  if f=90 then (match xs with | [.agg [.int _ a,.int _ b,.int _ c,.int _ d]]=>some (RV.d (dQ (Rc.valid ⟨a,b,c,d⟩))) | _=>none) else
  if f=45 then gZ12 xs else
  none
 modes:=fun f=>
  none
 proc:=fun f xs bs=>
  none
 iter:=fun f cs=>
  none
theorem zVL (a b c d:Int):Ans prog 90 [RV.agg [dJ a,dJ b,dJ c,dJ d]] (RV.d (dQ (Rc.valid ⟨a,b,c,d⟩))):=
 zQj (Γ:=gam) Ann.leaf zQs Tryz.func90 rfl (nL rfl) fun hwf=>by
  refine Eq.mpr (by kernel_rfl:_=(let f:=(decide (d≥(-1073741824:Int))); let g:=(decide (c≥(-1073741824:Int))); let h:=(decide (b≥(-1073741824:Int))); let i:=(decide (a≥(-1073741824:Int))); let e:=(dQ (Rc.valid ⟨a,b,c,d⟩)); True∧True∧True∧True∧True∧True∧((i=true→True∧True∧True∧True∧True∧(((decide (a≤1073741824))=true→True∧True∧True∧True∧True∧((h=true→True∧True∧True∧True∧True∧(((decide (b≤1073741824))=true→True∧True∧True∧True∧True∧((g=true→True∧True∧True∧True∧True∧(((decide (c≤1073741824))=true→True∧True∧True∧True∧True∧((f=true→True∧True∧True∧True∧True∧RV.d (dQ (decide (d≤1073741824)))=RV.d e)∧(f=(!true)→True∧True∧RV.d (dQ false)=RV.d e)))∧((decide (c≤1073741824))=(!true)→True∧True∧True∧True∧RV.d (dQ false)=RV.d e)))∧(g=(!true)→True∧True∧True∧True∧True∧True∧RV.d (dQ false)=RV.d e)))∧((decide (b≤1073741824))=(!true)→True∧True∧True∧True∧True∧True∧True∧True∧RV.d (dQ false)=RV.d e)))∧(h=(!true)→True∧True∧True∧True∧True∧True∧True∧True∧True∧True∧RV.d (dQ false)=RV.d e)))∧((decide (a≤1073741824))=(!true)→True∧True∧True∧True∧True∧True∧True∧True∧True∧True∧True∧True∧RV.d (dQ false)=RV.d e)))∧(i=(!true)→True∧True∧True∧True∧True∧True∧True∧True∧True∧True∧True∧True∧True∧True∧RV.d (dQ false)=RV.d e)))) ?_
  delta dQ
  simp only [true_and,and_true,RV.d.injEq,RV.agg.injEq,RV.tup.injEq,DV.bool.injEq,DV.int.injEq,List.cons.injEq,forall_const,Bool.not_false,Bool.not_true,Bool.not_eq_true',Bool.not_eq_false']
  grind [Rc.valid,okC]
theorem zHA (a b c d:Int):Ans prog 45 [RV.agg [dJ a,dJ b,dJ c,dJ d]] (RV.d (dQ (Rc.empty ⟨a,b,c,d⟩))):=
 zQj (Γ:=gam) Ann.leaf zQs Tryz.func45 rfl (nL rfl) fun hwf=>by
  refine Eq.mpr (by kernel_rfl:_=(let e:=(dQ (Rc.empty ⟨a,b,c,d⟩)); True∧True∧True∧(Ans prog 90 [RV.agg [dJ a,dJ b,dJ c,dJ d]] (RV.d (dQ (Rc.valid ⟨a,b,c,d⟩))))∧True∧True∧(((!(Rc.valid ⟨a,b,c,d⟩))=false→True∧True∧True∧True∧True∧True∧True∧(((decide (a≥c))=false→True∧True∧True∧True∧True∧True∧True∧RV.d (dQ (decide (b≥d)))=RV.d e)∧((decide (a≥c))=(!false)→True∧True∧RV.d (dQ true)=RV.d e)))∧((!(Rc.valid ⟨a,b,c,d⟩))=(!false)→True∧True∧True∧True∧RV.d (dQ true)=RV.d e)))) ?_
  delta dJ dQ
  simp only [true_and,and_true,RV.d.injEq,RV.agg.injEq,RV.tup.injEq,DV.bool.injEq,DV.int.injEq,List.cons.injEq,forall_const,Bool.not_false,Bool.not_true,Bool.not_eq_true',Bool.not_eq_false',zVL,zQI]
  grind [Rc.empty]
section
attribute [local irreducible] Ans AnsO AnsG AnsN AnsI
def cntS (r:Rc) (w h:Int):Int × Int × Bool:=
 if r.empty then (0,0,false)
 else if w < 1∨IntKind.wrap .i64 (r.c - r.a) < w∨h < 1∨IntKind.wrap .i64 (r.d - r.b) < h then (0,0,false)
 else (IntKind.wrap .i64 (Int.tdiv (IntKind.wrap .i64 (IntKind.wrap .i64 (IntKind.wrap .i64 (r.c - r.a)+w) - 1)) w),IntKind.wrap .i64 (Int.tdiv (IntKind.wrap .i64 (IntKind.wrap .i64 (IntKind.wrap .i64 (r.d - r.b)+h) - 1)) h),true)
end
def Im.ds (m:Im):List DV:=[.int .i64 m.w,.int .i64 m.h,.bool m.so,.int .u16 m.c.a,.int .u16 m.c.b,.int .u16 m.c.c,.int .u16 m.c.al,.int .u16 m.c.f,.int .i64 m.p0.w,.int .i64 m.p0.h,.int .i64 m.p0.s,.sl m.p0.n m.p0.xs,.int .i64 m.p1.w,.int .i64 m.p1.h,.int .i64 m.p1.s,.sl m.p1.n m.p1.xs,.int .i64 m.p2.w,.int .i64 m.p2.h,.int .i64 m.p2.s,.sl m.p2.n m.p2.xs,.int .i64 m.p3.w,.int .i64 m.p3.h,.int .i64 m.p3.s,.sl m.p3.n m.p3.xs,.int .i64 m.p4.w,.int .i64 m.p4.h,.int .i64 m.p4.s,.sl m.p4.n m.p4.xs]
theorem Im.ds_len (m:Im):m.ds.length=28:=rfl
def ims (l:List Im):List DV:=l.flatMap Im.ds
theorem zZC (l:List Im):(ims l).length=l.length*28:=by
 induction l with
 | nil=>rfl
 | cons o l ih=>simp only [ims,List.flatMap_cons,List.length_append,List.length_cons] at ih ⊢; rw [ih,Im.ds_len]; omega
theorem jXI (l m:List Im):ims (l++m)=ims l++ims m:=by simp [ims]
theorem jJW (m:Im) (l:List Im):ims (m::l)=m.ds++ims l:=by simp [ims]
theorem jVw (m:Im):ims [m]=m.ds:=by simp [ims]
theorem jVx {l:List Im} {k:Nat} (h:k < l.length) (j:Nat) (hj:j < 28):(ims l)[k*28+j]?=l[k].ds[j]?:=by
 induction l generalizing k with
 | nil=>simp at h
 | cons o l ih=>
  rw [jJW]
  cases k with
  | zero=>simp only [List.getElem_cons_zero]; rw [List.getElem?_append_left (by rw [Im.ds_len]; omega)]; simp
  | succ k=>
   rw [List.getElem?_append_right (by rw [Im.ds_len]; omega)]
   have:=ih (k:=k) (by simpa using h)
   simp only [List.getElem_cons_succ]
   rw [← this]
   congr 1
   rw [Im.ds_len]; omega
theorem zVZ {l:List Im} {k:Nat} (h:k < l.length):(ims l)[k*28]?=some (.int .i64 l[k].w)∧(ims l)[k*28+1]?=some (.int .i64 l[k].h)∧(ims l)[k*28+1+1]?=some (.bool l[k].so)∧(ims l)[k*28+1+1+1]?=some (.int .u16 l[k].c.a)∧(ims l)[k*28+1+1+1+1]?=some (.int .u16 l[k].c.b)∧(ims l)[k*28+1+1+1+1+1]?=some (.int .u16 l[k].c.c)∧(ims l)[k*28+1+1+1+1+1+1]?=some (.int .u16 l[k].c.al)∧(ims l)[k*28+1+1+1+1+1+1+1]?=some (.int .u16 l[k].c.f)∧(ims l)[k*28+1+1+1+1+1+1+1+1]?=some (.int .i64 l[k].p0.w)∧(ims l)[k*28+1+1+1+1+1+1+1+1+1]?=some (.int .i64 l[k].p0.h)∧(ims l)[k*28+1+1+1+1+1+1+1+1+1+1]?=some (.int .i64 l[k].p0.s)∧(ims l)[k*28+1+1+1+1+1+1+1+1+1+1+1]?=some (.sl l[k].p0.n l[k].p0.xs)∧(ims l)[k*28+1+1+1+1+1+1+1+1+1+1+1+1]?=some (.int .i64 l[k].p1.w)∧(ims l)[k*28+1+1+1+1+1+1+1+1+1+1+1+1+1]?=some (.int .i64 l[k].p1.h)∧(ims l)[k*28+1+1+1+1+1+1+1+1+1+1+1+1+1+1]?=some (.int .i64 l[k].p1.s)∧(ims l)[k*28+1+1+1+1+1+1+1+1+1+1+1+1+1+1+1]?=some (.sl l[k].p1.n l[k].p1.xs)∧(ims l)[k*28+1+1+1+1+1+1+1+1+1+1+1+1+1+1+1+1]?=some (.int .i64 l[k].p2.w)∧(ims l)[k*28+1+1+1+1+1+1+1+1+1+1+1+1+1+1+1+1+1]?=some (.int .i64 l[k].p2.h)∧(ims l)[k*28+1+1+1+1+1+1+1+1+1+1+1+1+1+1+1+1+1+1]?=some (.int .i64 l[k].p2.s)∧(ims l)[k*28+1+1+1+1+1+1+1+1+1+1+1+1+1+1+1+1+1+1+1]?=some (.sl l[k].p2.n l[k].p2.xs)∧(ims l)[k*28+1+1+1+1+1+1+1+1+1+1+1+1+1+1+1+1+1+1+1+1]?=some (.int .i64 l[k].p3.w)∧(ims l)[k*28+1+1+1+1+1+1+1+1+1+1+1+1+1+1+1+1+1+1+1+1+1]?=some (.int .i64 l[k].p3.h)∧(ims l)[k*28+1+1+1+1+1+1+1+1+1+1+1+1+1+1+1+1+1+1+1+1+1+1]?=some (.int .i64 l[k].p3.s)∧(ims l)[k*28+1+1+1+1+1+1+1+1+1+1+1+1+1+1+1+1+1+1+1+1+1+1+1]?=some (.sl l[k].p3.n l[k].p3.xs)∧(ims l)[k*28+1+1+1+1+1+1+1+1+1+1+1+1+1+1+1+1+1+1+1+1+1+1+1+1]?=some (.int .i64 l[k].p4.w)∧(ims l)[k*28+1+1+1+1+1+1+1+1+1+1+1+1+1+1+1+1+1+1+1+1+1+1+1+1+1]?=some (.int .i64 l[k].p4.h)∧(ims l)[k*28+1+1+1+1+1+1+1+1+1+1+1+1+1+1+1+1+1+1+1+1+1+1+1+1+1+1]?=some (.int .i64 l[k].p4.s)∧(ims l)[k*28+1+1+1+1+1+1+1+1+1+1+1+1+1+1+1+1+1+1+1+1+1+1+1+1+1+1+1]?=some (.sl l[k].p4.n l[k].p4.xs):=by
 have g:=fun j hj=>jVx h j hj
 exact ⟨g 0 (by omega),g 1 (by omega),g 2 (by omega),g 3 (by omega),g 4 (by omega),g 5 (by omega),g 6 (by omega),g 7 (by omega),g 8 (by omega),g 9 (by omega),g 10 (by omega),g 11 (by omega),g 12 (by omega),g 13 (by omega),g 14 (by omega),g 15 (by omega),g 16 (by omega),g 17 (by omega),g 18 (by omega),g 19 (by omega),g 20 (by omega),g 21 (by omega),g 22 (by omega),g 23 (by omega),g 24 (by omega),g 25 (by omega),g 26 (by omega),g 27 (by omega)⟩
theorem zV0 {l:List Im} {k:Nat} (h:k < l.length):nAt (ims l) (k*28)=l[k].w∧nAt (ims l) (k*28+1)=l[k].h∧bAt (ims l) (k*28+1+1)=l[k].so∧nAt (ims l) (k*28+1+1+1)=l[k].c.a∧nAt (ims l) (k*28+1+1+1+1)=l[k].c.b∧nAt (ims l) (k*28+1+1+1+1+1)=l[k].c.c∧nAt (ims l) (k*28+1+1+1+1+1+1)=l[k].c.al∧nAt (ims l) (k*28+1+1+1+1+1+1+1)=l[k].c.f∧nAt (ims l) (k*28+1+1+1+1+1+1+1+1)=l[k].p0.w∧nAt (ims l) (k*28+1+1+1+1+1+1+1+1+1)=l[k].p0.h∧nAt (ims l) (k*28+1+1+1+1+1+1+1+1+1+1)=l[k].p0.s∧lAt (ims l) (k*28+1+1+1+1+1+1+1+1+1+1+1)=l[k].p0.n∧cAt (ims l) (k*28+1+1+1+1+1+1+1+1+1+1+1)=l[k].p0.xs∧nAt (ims l) (k*28+1+1+1+1+1+1+1+1+1+1+1+1)=l[k].p1.w∧nAt (ims l) (k*28+1+1+1+1+1+1+1+1+1+1+1+1+1)=l[k].p1.h∧nAt (ims l) (k*28+1+1+1+1+1+1+1+1+1+1+1+1+1+1)=l[k].p1.s∧lAt (ims l) (k*28+1+1+1+1+1+1+1+1+1+1+1+1+1+1+1)=l[k].p1.n∧cAt (ims l) (k*28+1+1+1+1+1+1+1+1+1+1+1+1+1+1+1)=l[k].p1.xs∧nAt (ims l) (k*28+1+1+1+1+1+1+1+1+1+1+1+1+1+1+1+1)=l[k].p2.w∧nAt (ims l) (k*28+1+1+1+1+1+1+1+1+1+1+1+1+1+1+1+1+1)=l[k].p2.h∧nAt (ims l) (k*28+1+1+1+1+1+1+1+1+1+1+1+1+1+1+1+1+1+1)=l[k].p2.s∧lAt (ims l) (k*28+1+1+1+1+1+1+1+1+1+1+1+1+1+1+1+1+1+1+1)=l[k].p2.n∧cAt (ims l) (k*28+1+1+1+1+1+1+1+1+1+1+1+1+1+1+1+1+1+1+1)=l[k].p2.xs∧nAt (ims l) (k*28+1+1+1+1+1+1+1+1+1+1+1+1+1+1+1+1+1+1+1+1)=l[k].p3.w∧nAt (ims l) (k*28+1+1+1+1+1+1+1+1+1+1+1+1+1+1+1+1+1+1+1+1+1)=l[k].p3.h∧nAt (ims l) (k*28+1+1+1+1+1+1+1+1+1+1+1+1+1+1+1+1+1+1+1+1+1+1)=l[k].p3.s∧lAt (ims l) (k*28+1+1+1+1+1+1+1+1+1+1+1+1+1+1+1+1+1+1+1+1+1+1+1)=l[k].p3.n∧cAt (ims l) (k*28+1+1+1+1+1+1+1+1+1+1+1+1+1+1+1+1+1+1+1+1+1+1+1)=l[k].p3.xs∧nAt (ims l) (k*28+1+1+1+1+1+1+1+1+1+1+1+1+1+1+1+1+1+1+1+1+1+1+1+1)=l[k].p4.w∧nAt (ims l) (k*28+1+1+1+1+1+1+1+1+1+1+1+1+1+1+1+1+1+1+1+1+1+1+1+1+1)=l[k].p4.h∧nAt (ims l) (k*28+1+1+1+1+1+1+1+1+1+1+1+1+1+1+1+1+1+1+1+1+1+1+1+1+1+1)=l[k].p4.s∧lAt (ims l) (k*28+1+1+1+1+1+1+1+1+1+1+1+1+1+1+1+1+1+1+1+1+1+1+1+1+1+1+1)=l[k].p4.n∧cAt (ims l) (k*28+1+1+1+1+1+1+1+1+1+1+1+1+1+1+1+1+1+1+1+1+1+1+1+1+1+1+1)=l[k].p4.xs:=by
 obtain ⟨e0,e1,e2,e3,e4,e5,e6,e7,e8,e9,e10,e11,e12,e13,e14,e15,e16,e17,e18,e19,e20,e21,e22,e23,e24,e25,e26,e27⟩:=zVZ h
 simp only [nAt,bAt,lAt,cAt,e0,e1,e2,e3,e4,e5,e6,e7,e8,e9,e10,e11,e12,e13,e14,e15,e16,e17,e18,e19,e20,e21,e22,e23,e24,e25,e26,e27,and_self]
def imAt (xs:List DV) (i:Nat):Im:=⟨nAt xs i,nAt xs (i+1),bAt xs (i+2),⟨nAt xs (i+3),nAt xs (i+4),nAt xs (i+5),nAt xs (i+6),nAt xs (i+7)⟩,⟨nAt xs (i+8),nAt xs (i+9),nAt xs (i+10),lAt xs (i+11),cAt xs (i+11)⟩,⟨nAt xs (i+12),nAt xs (i+13),nAt xs (i+14),lAt xs (i+15),cAt xs (i+15)⟩,⟨nAt xs (i+16),nAt xs (i+17),nAt xs (i+18),lAt xs (i+19),cAt xs (i+19)⟩,⟨nAt xs (i+20),nAt xs (i+21),nAt xs (i+22),lAt xs (i+23),cAt xs (i+23)⟩,⟨nAt xs (i+24),nAt xs (i+25),nAt xs (i+26),lAt xs (i+27),cAt xs (i+27)⟩⟩
theorem jJY {l:List Im} {k:Nat} (h:k < l.length):imAt (ims l) (k*28)=l[k]:=by
 have e:=zV0 h
 simp only [imAt,show k*28+2=k*28+1+1 from rfl,show k*28+3=k*28+1+1+1 from rfl,show k*28+4=k*28+1+1+1+1 from rfl,show k*28+5=k*28+1+1+1+1+1 from rfl,show k*28+6=k*28+1+1+1+1+1+1 from rfl,show k*28+7=k*28+1+1+1+1+1+1+1 from rfl,show k*28+8=k*28+1+1+1+1+1+1+1+1 from rfl,show k*28+9=k*28+1+1+1+1+1+1+1+1+1 from rfl,show k*28+10=k*28+1+1+1+1+1+1+1+1+1+1 from rfl,show k*28+11=k*28+1+1+1+1+1+1+1+1+1+1+1 from rfl,show k*28+12=k*28+1+1+1+1+1+1+1+1+1+1+1+1 from rfl,show k*28+13=k*28+1+1+1+1+1+1+1+1+1+1+1+1+1 from rfl,show k*28+14=k*28+1+1+1+1+1+1+1+1+1+1+1+1+1+1 from rfl,show k*28+15=k*28+1+1+1+1+1+1+1+1+1+1+1+1+1+1+1 from rfl,show k*28+16=k*28+1+1+1+1+1+1+1+1+1+1+1+1+1+1+1+1 from rfl,show k*28+17=k*28+1+1+1+1+1+1+1+1+1+1+1+1+1+1+1+1+1 from rfl,show k*28+18=k*28+1+1+1+1+1+1+1+1+1+1+1+1+1+1+1+1+1+1 from rfl,show k*28+19=k*28+1+1+1+1+1+1+1+1+1+1+1+1+1+1+1+1+1+1+1 from rfl,show k*28+20=k*28+1+1+1+1+1+1+1+1+1+1+1+1+1+1+1+1+1+1+1+1 from rfl,show k*28+21=k*28+1+1+1+1+1+1+1+1+1+1+1+1+1+1+1+1+1+1+1+1+1 from rfl,show k*28+22=k*28+1+1+1+1+1+1+1+1+1+1+1+1+1+1+1+1+1+1+1+1+1+1 from rfl,show k*28+23=k*28+1+1+1+1+1+1+1+1+1+1+1+1+1+1+1+1+1+1+1+1+1+1+1 from rfl,show k*28+24=k*28+1+1+1+1+1+1+1+1+1+1+1+1+1+1+1+1+1+1+1+1+1+1+1+1 from rfl,show k*28+25=k*28+1+1+1+1+1+1+1+1+1+1+1+1+1+1+1+1+1+1+1+1+1+1+1+1+1 from rfl,show k*28+26=k*28+1+1+1+1+1+1+1+1+1+1+1+1+1+1+1+1+1+1+1+1+1+1+1+1+1+1 from rfl,show k*28+27=k*28+1+1+1+1+1+1+1+1+1+1+1+1+1+1+1+1+1+1+1+1+1+1+1+1+1+1+1 from rfl,e]
def zQR (xs:List DV):List Im:=(List.range (xs.length / 28)).map fun k=>imAt xs (k*28)
theorem zQ2 (l:List Im):zQR (ims l)=l:=by
 have e:(ims l).length / 28=l.length:=by rw [zZC]; omega
 unfold zQR
 rw [e]
 refine List.ext_getElem (by simp) fun i h1 h2=>?_
 simp only [List.getElem_map,List.getElem_range]
 exact jJY h2
def jWp (n:Nat) (xs:List DV):Prop:=(xs=ims (zQR xs)∧n=(zQR xs).length)∧∀ m∈zQR xs,m.isU
theorem jWp.of {n:Nat} {xs:List DV} (h:jWp n xs):∃ l:List Im,(∀ m∈l,m.isU)∧xs=ims l∧n=l.length:=⟨zQR xs,h.2,h.1.1,h.1.2⟩
def jWD (n:Nat) (xs:List DV):Prop:=xs=ops (zQK xs)∧n=(zQK xs).length
theorem zWW (o:Oq):ops [o]=o.cells:=by simp [ops]
def gOff (n c:Int):Int:=if modS n 3=0 then c else c+modS (IntKind.wrap .i64 (Int.tdiv n 3)) 9 - 4
structure Rw where
  k:Int
  im:Int
  x:Int
  y:Int
  ma:Int
  mx:Int
  my:Int
  op:Int
  ope:Int
  mo:Int
  fl:Int
def gOp (r:Rw) (push:Bool) (n:Int) (c:Rc) (free:Bool) (most:Int):Oq:=
 let m:=decide (modS r.ma 4=0)
 ⟨if push then 2 else 1,if push then 0 else modS r.im n,if push then 0 else gOff r.x c.a,if push then 0 else gOff r.y c.b,
  if m then 1+modS (IntKind.wrap .i64 (Int.tdiv r.ma 4)) n else 0,if m then gOff r.mx c.a else 0,if m then gOff r.my c.b else 0,
  if modS r.op 2=0 then zQ4 (IntKind.wrap .i64 (Int.tdiv r.op 2)) most else most,
  if free && decide (modS r.ope 2=0) then 1+modS (IntKind.wrap .i64 (Int.tdiv r.ope 2)) 12 else 4,
  if modS r.mo 2=0 then 1+modS (IntKind.wrap .i64 (Int.tdiv r.mo 2)) 12 else 1,
  push && decide (modS r.fl 2=0),push && decide (modS (IntKind.wrap .i64 (Int.tdiv r.fl 2)) 3=0)⟩
def rwAt (xs:List DV) (i:Nat):Rw:=⟨nAt xs i,nAt xs (i+1),nAt xs (i+2),nAt xs (i+3),nAt xs (i+4),nAt xs (i+5),nAt xs (i+6),nAt xs (i+7),nAt xs (i+8),nAt xs (i+9),nAt xs (i+10)⟩
structure Scn where
  b:Int
  x:Int
  y:Int
  w:Int
  h:Int
  tw:Int
  th:Int
  on:Nat
  oxs:List DV
  pn:Nat
  pxs:List DV
  rn:Nat
  rxs:List DV
def Scn.c (s:Scn):Rc:=⟨modS s.x 13 - 6,modS s.y 13 - 6,modS s.x 13 - 6+(1+modS s.w 5),modS s.y 13 - 6+(1+modS s.h 4)⟩
def Scn.gw (s:Scn):Int:=1+modS s.w 5
def Scn.gh (s:Scn):Int:=1+modS s.h 4
def Scn.gtw (s:Scn):Int:=1+modS s.tw s.gw
def Scn.gth (s:Scn):Int:=1+modS s.th s.gh
def Scn.most (s:Scn):Int:=gMax s.b
def Scn.bits (s:Scn):Int:=if s.most > 255 then 16 else 8
def Scn.tiles (s:Scn):Int:=IntKind.wrap .i64 ((cntS s.c s.gtw s.gth).1*(cntS s.c s.gtw s.gth).2.1)
def Scn.ord (s:Scn):List Int:=zJI (ints s.oxs) s.tiles
def Scn.pic (s:Scn) (k:Nat):Im:=zQ5 (nAt s.pxs (k*5)) (nAt s.pxs (k*5+1)) (nAt s.pxs (k*5+2)) (nAt s.pxs (k*5+3)) (lAt s.pxs (k*5+4)) (cAt s.pxs (k*5+4)) s.c.a s.c.b s.c.c s.c.d s.most
def Scn.pics (s:Scn) (k:Nat):List Im:=(List.range k).map s.pic
def Scn.solo (s:Scn):Im:=zQg s.gw s.gh ⟨s.most,0,0,s.most,s.most⟩
def Scn.ims (s:Scn):List Im:=if min s.pn 4=0 then [s.solo] else s.pics (min s.pn 4)
def Scn.step (s:Scn) (r:Rw) (z:List Oq × List Oq):List Oq × List Oq:=
 if modS r.k 8=0∧0 < z.2.length then (z.1++[popO],z.2.dropLast)
 else
  let o:=gOp r (decide (modS r.k 8 < 3)) s.ims.length s.c (ctxB z.2) s.most
  (z.1++[o],if modS r.k 8 < 3 then z.2++[o] else z.2)
def Scn.run (s:Scn):Nat→List Oq × List Oq
 | 0=>([],[])
 | k+1=>s.step (rwAt s.rxs (k*11)) (s.run k)
def Scn.ops (s:Scn):List Oq:=(s.run (min s.rn 9)).1++List.replicate (s.run (min s.rn 9)).2.length popO
def jKO (n:Nat) (xs:List DV):Prop:=xs.length=n*5∧∀ k,k < n→xs[k*5]?=some (.int .i64 (nAt xs (k*5)))∧xs[k*5+1]?=some (.int .i64 (nAt xs (k*5+1)))∧xs[k*5+1+1]?=some (.int .i64 (nAt xs (k*5+1+1)))∧xs[k*5+1+1+1]?=some (.int .i64 (nAt xs (k*5+1+1+1)))∧xs[k*5+1+1+1+1]?=some (.sl (lAt xs (k*5+1+1+1+1)) (cAt xs (k*5+1+1+1+1)))∧Is5 (lAt xs (k*5+1+1+1+1)) (cAt xs (k*5+1+1+1+1))
def jWn (n:Nat) (xs:List DV):Prop:=xs.length=n*11∧∀ i,i < n*11→xs[i]?=some (.int .i64 (nAt xs i))
def Scn.ok (s:Scn):Prop:=(s.oxs=is (ints s.oxs)∧s.on=s.oxs.length)∧jKO s.pn s.pxs∧jWn s.rn s.rxs
theorem Scn.facts (s:Scn):(0≤modS s.x 13∧modS s.x 13 < 13)∧(0≤modS s.y 13∧modS s.y 13 < 13)∧(1≤s.gw∧s.gw≤5)∧(1≤s.gh∧s.gh≤4)∧(1≤s.gtw∧s.gtw≤s.gw)∧(1≤s.gth∧s.gth≤s.gh):=by
 have a:=@zZw s.x 13 (by omega) (by omega)
 have b:=@zZw s.y 13 (by omega) (by omega)
 have c:=@zZw s.w 5 (by omega) (by omega)
 have d:=@zZw s.h 4 (by omega) (by omega)
 have e:1≤s.gw∧s.gw≤5:=by unfold Scn.gw; omega
 have f:1≤s.gh∧s.gh≤4:=by unfold Scn.gh; omega
 have g:=@zZw s.tw s.gw (by omega) (by omega)
 have h:=@zZw s.th s.gh (by omega) (by omega)
 exact ⟨a,b,e,f,by unfold Scn.gtw; omega,by unfold Scn.gth; omega⟩
theorem Scn.pics_succ (s:Scn) (k:Nat):s.pics (k+1)=s.pics k++[s.pic k]:=by simp [Scn.pics,List.range_succ]
theorem Scn.pics_len (s:Scn) (k:Nat):(s.pics k).length=k:=by simp [Scn.pics]
theorem Scn.ims_len (s:Scn):1≤s.ims.length∧s.ims.length≤4:=by
 unfold Scn.ims
 split
 ·simp
 ·rw [Scn.pics_len]; omega
theorem Scn.run_len (s:Scn) (k:Nat):(s.run k).1.length=k∧(s.run k).2.length≤k:=by
 induction k with
 | zero=>simp [Scn.run]
 | succ k ih=>
  simp only [Scn.run,Scn.step]
  split
  ·simp; omega
  ·simp only []
   split <;> simp <;> omega
theorem Scn.most_in (s:Scn):s.most=255∨s.most=65535:=by
 unfold Scn.most gMax
 split <;> simp
theorem Scn.ims_isU (s:Scn):∀ m∈s.ims,m.isU:=by
 intro m hm
 unfold Scn.ims at hm
 split at hm
 ·rw [List.mem_singleton] at hm; subst hm; exact zYr _ _ _
 ·simp only [Scn.pics,List.mem_map] at hm
  obtain ⟨k,_,rfl⟩:=hm
  exact jXM _ _ _ _ _ _ _ _ _ _ _
theorem Scn.c_facts (s:Scn):s.c.c - s.c.a=s.gw∧s.c.d - s.c.b=s.gh ∧ -6≤s.c.a∧s.c.a≤6 ∧ -6≤s.c.b∧s.c.b≤6:=by
 have:=s.facts
 simp only [Scn.c,Scn.gw,Scn.gh] at this ⊢
 omega
theorem Scn.bits_of (s:Scn):(gMax s.b > 255→16=s.bits)∧(¬ gMax s.b > 255→8=s.bits):=by
 unfold Scn.bits Scn.most
 exact ⟨fun h=>by rw [if_pos h],fun h=>by rw [if_neg h]⟩
theorem cnt1 {n w:Int} (h:1≤w) (hw:w≤n) (hn:n≤5):1≤IntKind.wrap .i64 (Int.tdiv (IntKind.wrap .i64 (IntKind.wrap .i64 (IntKind.wrap .i64 n+w) - 1)) w)∧IntKind.wrap .i64 (Int.tdiv (IntKind.wrap .i64 (IntKind.wrap .i64 (IntKind.wrap .i64 n+w) - 1)) w)≤n:=by
 rw [IntWalk.i64_in n ⟨by omega,by omega⟩,IntWalk.i64_in (n+w) ⟨by omega,by omega⟩,IntWalk.i64_in (n+w - 1) ⟨by omega,by omega⟩,Int.tdiv_eq_ediv_of_nonneg (by omega)]
 have:1≤(n+w - 1) / w∧(n+w - 1) / w≤n:=by
  rcases (show w=1∨w=2∨w=3∨w=4∨w=5 by omega) with rfl | rfl | rfl | rfl | rfl <;> omega
 rw [IntWalk.i64_in _ ⟨by omega,by omega⟩]
 exact this
theorem Scn.cnt (s:Scn):(cntS s.c s.gtw s.gth).2.2=true∧(1≤(cntS s.c s.gtw s.gth).1∧(cntS s.c s.gtw s.gth).1≤5)∧1≤(cntS s.c s.gtw s.gth).2.1∧(cntS s.c s.gtw s.gth).2.1≤4:=by
 obtain ⟨f1,f2,f3,f4,f5,f6⟩:=s.facts
 have CF:=s.c_facts
 have he:Rc.empty s.c=false:=by
  rw [Rc.empty_iff]; omega
 unfold cntS
 rw [he,if_neg (by simp),CF.1,CF.2.1,if_neg (by rw [IntWalk.i64_in _ ⟨by omega,by omega⟩,IntWalk.i64_in _ ⟨by omega,by omega⟩]; omega)]
 have a:=cnt1 f5.1 f5.2 (by omega)
 have b:=cnt1 f6.1 f6.2 (by omega)
 exact ⟨rfl,⟨a.1,Int.le_trans a.2 (by omega)⟩,b.1,Int.le_trans b.2 (by omega)⟩
theorem Scn.tiles_in (s:Scn):0≤s.tiles∧s.tiles≤20:=by
 obtain ⟨_,a,b⟩:=s.cnt
 unfold Scn.tiles
 generalize (cntS s.c s.gtw s.gth).1=x at *
 generalize (cntS s.c s.gtw s.gth).2.1=y at *
 have h1:0≤x*y:=Int.mul_nonneg (by omega) (by omega)
 have h2:x*y≤5*4:=Int.mul_le_mul a.2 b.2 (by omega) (by omega)
 rw [IntWalk.i64_in _ ⟨by omega,by omega⟩]
 omega
theorem Scn.run_pop {s:Scn} {k:Nat} (h:modS (rwAt s.rxs (k*11)).k 8=0∧0 < (s.run k).2.length):s.run (k+1)=((s.run k).1++[popO],(s.run k).2.dropLast):=by
 simp only [Scn.run,Scn.step]
 rw [if_pos h]
theorem Scn.run_op {s:Scn} {k:Nat} (h:¬ (modS (rwAt s.rxs (k*11)).k 8=0∧0 < (s.run k).2.length)) {o:Oq} (ho:o=gOp (rwAt s.rxs (k*11)) (decide (modS (rwAt s.rxs (k*11)).k 8 < 3)) s.ims.length s.c (ctxB (s.run k).2) s.most) :
  (o.kind=2→s.run (k+1)=((s.run k).1++[o],(s.run k).2++[o]))∧(o.kind≠2→s.run (k+1)=((s.run k).1++[o],(s.run k).2)):=by
 have e:s.run (k+1)=((s.run k).1++[o],if modS (rwAt s.rxs (k*11)).k 8 < 3 then (s.run k).2++[o] else (s.run k).2):=by
  simp only [Scn.run,Scn.step]
  rw [if_neg h,← ho]
 have hk:o.kind=if modS (rwAt s.rxs (k*11)).k 8 < 3 then 2 else 1:=by
  rw [ho]
  simp [gOp]
 rw [e,hk]
 split <;> simp
theorem jJa {l:List Oq} (h:0 < l.length):ctxB l=(l[l.length - 1].iso && !l[l.length - 1].kno):=by
 unfold ctxB
 rw [List.getLast?_eq_getElem?,List.getElem?_eq_getElem (by omega)]
def gZ13 (xs:List RV):Option RV:=match xs with | [.d (.int _ w),.d (.int _ h)]=>some (RV.d (dQ (zQ8 w h))) | _=>none
def gZ14 (xs:List RV):Option RV:=match xs with | [.agg [.int _ w,.int _ h,.int _ s,.sl n xs]]=>some (RV.d (dQ (zQZ w h s n))) | _=>none
def gZ15 (xs:List RV):Option RV:=match xs with | [.agg [.int _ w,.int _ h,.bool so,.int _ c0,.int _ c1,.int _ c2,.int _ ca,.int _ cf,.int _ w0,.int _ h0,.int _ s0,.sl n0 xs0,.int _ w1,.int _ h1,.int _ s1,.sl n1 xs1,.int _ w2,.int _ h2,.int _ s2,.sl n2 xs2,.int _ w3,.int _ h3,.int _ s3,.sl n3 xs3,.int _ w4,.int _ h4,.int _ s4,.sl n4 xs4]]=>some (RV.d (dQ (Im.formed ⟨w,h,so,⟨c0,c1,c2,ca,cf⟩,⟨w0,h0,s0,n0,xs0⟩,⟨w1,h1,s1,n1,xs1⟩,⟨w2,h2,s2,n2,xs2⟩,⟨w3,h3,s3,n3,xs3⟩,⟨w4,h4,s4,n4,xs4⟩⟩))) | _=>none
def gZ16 (xs:List RV):Option RV:=match xs with | [.agg [.int _ w,.int _ h,.bool so,.int _ c0,.int _ c1,.int _ c2,.int _ ca,.int _ cf,.int _ w0,.int _ h0,.int _ s0,.sl n0 xs0,.int _ w1,.int _ h1,.int _ s1,.sl n1 xs1,.int _ w2,.int _ h2,.int _ s2,.sl n2 xs2,.int _ w3,.int _ h3,.int _ s3,.sl n3 xs3,.int _ w4,.int _ h4,.int _ s4,.sl n4 xs4],.d (.int _ x),.d (.int _ y)]=>let a:=(Im.px ⟨w,h,so,⟨c0,c1,c2,ca,cf⟩,⟨w0,h0,s0,n0,xs0⟩,⟨w1,h1,s1,n1,xs1⟩,⟨w2,h2,s2,n2,xs2⟩,⟨w3,h3,s3,n3,xs3⟩,⟨w4,h4,s4,n4,xs4⟩⟩ x y); some (RV.agg [DV.int .u16 a.a,DV.int .u16 a.b,DV.int .u16 a.c,DV.int .u16 a.al,DV.int .u16 a.f]) | _=>none
def gZ17 (xs:List RV):Option RV:=match xs with | [.d (.int _ w),.d (.int _ h),.agg [.int _ c0,.int _ c1,.int _ c2,.int _ ca,.int _ cf]]=>let a:=(zQg w h ⟨c0,c1,c2,ca,cf⟩); some (RV.agg [DV.int .i64 a.w,DV.int .i64 a.h,DV.bool a.so,DV.int .u16 a.c.a,DV.int .u16 a.c.b,DV.int .u16 a.c.c,DV.int .u16 a.c.al,DV.int .u16 a.c.f,DV.int .i64 a.p0.w,DV.int .i64 a.p0.h,DV.int .i64 a.p0.s,DV.sl a.p0.n a.p0.xs,DV.int .i64 a.p1.w,DV.int .i64 a.p1.h,DV.int .i64 a.p1.s,DV.sl a.p1.n a.p1.xs,DV.int .i64 a.p2.w,DV.int .i64 a.p2.h,DV.int .i64 a.p2.s,DV.sl a.p2.n a.p2.xs,DV.int .i64 a.p3.w,DV.int .i64 a.p3.h,DV.int .i64 a.p3.s,DV.sl a.p3.n a.p3.xs,DV.int .i64 a.p4.w,DV.int .i64 a.p4.h,DV.int .i64 a.p4.s,DV.sl a.p4.n a.p4.xs]) | _=>none
def gZ18 (xs:List RV):Option RV:=match xs with | [.agg [.int _ w,.int _ h,.bool so,.int _ c0,.int _ c1,.int _ c2,.int _ ca,.int _ cf,.int _ w0,.int _ h0,.int _ s0,.sl n0 xs0,.int _ w1,.int _ h1,.int _ s1,.sl n1 xs1,.int _ w2,.int _ h2,.int _ s2,.sl n2 xs2,.int _ w3,.int _ h3,.int _ s3,.sl n3 xs3,.int _ w4,.int _ h4,.int _ s4,.sl n4 xs4],.d (.int _ most)]=>some (rJ (Im.valid ⟨w,h,so,⟨c0,c1,c2,ca,cf⟩,⟨w0,h0,s0,n0,xs0⟩,⟨w1,h1,s1,n1,xs1⟩,⟨w2,h2,s2,n2,xs2⟩,⟨w3,h3,s3,n3,xs3⟩,⟨w4,h4,s4,n4,xs4⟩⟩ most)) | _=>none
def gZ19 (xs:List RV):Option RV:=match xs with | []=>some (RV.tup [RV.tup [rJ 37,rJ 5]]) | [.agg [.int _ w,.int _ h,.bool so,.int _ c0,.int _ c1,.int _ c2,.int _ ca,.int _ cf,.int _ w0,.int _ h0,.int _ s0,.sl n0 xs0,.int _ w1,.int _ h1,.int _ s1,.sl n1 xs1,.int _ w2,.int _ h2,.int _ s2,.sl n2 xs2,.int _ w3,.int _ h3,.int _ s3,.sl n3 xs3,.int _ w4,.int _ h4,.int _ s4,.sl n4 xs4]]=>some (RV.d (dS (Im.pixels ⟨w,h,so,⟨c0,c1,c2,ca,cf⟩,⟨w0,h0,s0,n0,xs0⟩,⟨w1,h1,s1,n1,xs1⟩,⟨w2,h2,s2,n2,xs2⟩,⟨w3,h3,s3,n3,xs3⟩,⟨w4,h4,s4,n4,xs4⟩⟩).length (pxs (Im.pixels ⟨w,h,so,⟨c0,c1,c2,ca,cf⟩,⟨w0,h0,s0,n0,xs0⟩,⟨w1,h1,s1,n1,xs1⟩,⟨w2,h2,s2,n2,xs2⟩,⟨w3,h3,s3,n3,xs3⟩,⟨w4,h4,s4,n4,xs4⟩⟩)))) | _=>none
def gZ20 (xs:List RV):Option RV:=match xs with | [.agg [.int _ w,.int _ h,.bool so,.int _ c0,.int _ c1,.int _ c2,.int _ ca,.int _ cf,.int _ w0,.int _ h0,.int _ s0,.sl n0 xs0,.int _ w1,.int _ h1,.int _ s1,.sl n1 xs1,.int _ w2,.int _ h2,.int _ s2,.sl n2 xs2,.int _ w3,.int _ h3,.int _ s3,.sl n3 xs3,.int _ w4,.int _ h4,.int _ s4,.sl n4 xs4],.agg [.int _ w',.int _ h',.bool so',.int _ c0',.int _ c1',.int _ c2',.int _ ca',.int _ cf',.int _ w0',.int _ h0',.int _ s0',.sl n0' xs0',.int _ w1',.int _ h1',.int _ s1',.sl n1' xs1',.int _ w2',.int _ h2',.int _ s2',.sl n2' xs2',.int _ w3',.int _ h3',.int _ s3',.sl n3' xs3',.int _ w4',.int _ h4',.int _ s4',.sl n4' xs4']]=>some (RV.d (dQ (Im.equal ⟨w,h,so,⟨c0,c1,c2,ca,cf⟩,⟨w0,h0,s0,n0,xs0⟩,⟨w1,h1,s1,n1,xs1⟩,⟨w2,h2,s2,n2,xs2⟩,⟨w3,h3,s3,n3,xs3⟩,⟨w4,h4,s4,n4,xs4⟩⟩ ⟨w',h',so',⟨c0',c1',c2',ca',cf'⟩,⟨w0',h0',s0',n0',xs0'⟩,⟨w1',h1',s1',n1',xs1'⟩,⟨w2',h2',s2',n2',xs2'⟩,⟨w3',h3',s3',n3',xs3'⟩,⟨w4',h4',s4',n4',xs4'⟩⟩))) | _=>none
def gZ21 (xs:List RV):Option RV:=match xs with | [.d (.int _ n)]=>some (RV.d (dK (gMax n))) | _=>none
def gZ22 (xs:List RV):Option RV:=match xs with | [.d (.int _ n),.d (.int _ most)]=>some (RV.d (dK (zQ4 n most))) | _=>none
def gZ23 (xs:List RV):Option RV:=match xs with | []=>some (RV.tup [RV.tup [rJ 37,rJ 5]]) | [.agg [.int _ mood,.sl L xs],.d (.int _ n),.d (.int _ most)]=>some (RV.d (dS n.toNat (pxs (zQG mood L xs most n.toNat)))) | _=>none
def gZ24 (xs:List AV) (bs:List Bx):Option Ret:=match xs,bs with | [AV.one (Cl.d (DV.int _ w)),AV.one (Cl.d (DV.int _ h)),AV.one (Cl.d (DV.sl n xs))],[]=>some ⟨AV.tup [AV.agg [cJ (imOf w h (zQc xs)).w,cJ (imOf w h (zQc xs)).h,Cl.d (dQ (imOf w h (zQc xs)).so),cK (imOf w h (zQc xs)).c.a,cK (imOf w h (zQc xs)).c.b,cK (imOf w h (zQc xs)).c.c,cK (imOf w h (zQc xs)).c.al,cK (imOf w h (zQc xs)).c.f,cJ (imOf w h (zQc xs)).p0.w,cJ (imOf w h (zQc xs)).p0.h,cJ (imOf w h (zQc xs)).p0.s,Cl.ref 0 (imOf w h (zQc xs)).p0.n,cJ (imOf w h (zQc xs)).p1.w,cJ (imOf w h (zQc xs)).p1.h,cJ (imOf w h (zQc xs)).p1.s,Cl.ref 1 (imOf w h (zQc xs)).p1.n,cJ (imOf w h (zQc xs)).p2.w,cJ (imOf w h (zQc xs)).p2.h,cJ (imOf w h (zQc xs)).p2.s,Cl.ref 2 (imOf w h (zQc xs)).p2.n,cJ (imOf w h (zQc xs)).p3.w,cJ (imOf w h (zQc xs)).p3.h,cJ (imOf w h (zQc xs)).p3.s,Cl.ref 3 (imOf w h (zQc xs)).p3.n,cJ (imOf w h (zQc xs)).p4.w,cJ (imOf w h (zQc xs)).p4.h,cJ (imOf w h (zQc xs)).p4.s,Cl.ref 4 (imOf w h (zQc xs)).p4.n],AV.one (Cl.d (dQ (ofOk w h n)))],[Bx.row 34 1 (imOf w h (zQc xs)).p0.xs,Bx.row 34 1 (imOf w h (zQc xs)).p1.xs,Bx.row 34 1 (imOf w h (zQc xs)).p2.xs,Bx.row 34 1 (imOf w h (zQc xs)).p3.xs,Bx.row 34 1 (imOf w h (zQc xs)).p4.xs],true⟩ | _,_=>none
def gamI:Gam where
 pure:=fun f xs=>
  if f=14 then gZ0 xs else
  if f=125 then gZ13 xs else
  if f=92 then gZ13 xs else
  if f=146 then gZ13 xs else
  if f=126 then (match xs with | [.agg [.int _ w,.int _ h,.int _ s,.sl n xs]]=>some (RV.d (dQ (zJm ⟨w,h,s,n,xs⟩))) | _=>none) else
  if f=147 then (match xs with | [.d (.int _ w),.d (.int _ h),.d (.int _ s)]=>some (rJ (lenW w h s)) | _=>none) else
  if f=127 then gZ14 xs else
  if f=129 then gZ14 xs else
  if f=122 then (match xs with | [.agg [.int _ c0,.int _ c1,.int _ c2,.int _ ca,.int _ cf],.d (.int _ most)]=>some (RV.d (dQ (Px.ok ⟨c0,c1,c2,ca,cf⟩ most))) | _=>none) else
  if f=99 then gZ15 xs else
  if f=102 then (match xs with | [.agg [.int _ w,.int _ h,.bool so,.int _ c0,.int _ c1,.int _ c2,.int _ ca,.int _ cf,.int _ w0,.int _ h0,.int _ s0,.sl n0 xs0,.int _ w1,.int _ h1,.int _ s1,.sl n1 xs1,.int _ w2,.int _ h2,.int _ s2,.sl n2 xs2,.int _ w3,.int _ h3,.int _ s3,.sl n3 xs3,.int _ w4,.int _ h4,.int _ s4,.sl n4 xs4]]=>some (RV.d (dQ (Im.inner ⟨w,h,so,⟨c0,c1,c2,ca,cf⟩,⟨w0,h0,s0,n0,xs0⟩,⟨w1,h1,s1,n1,xs1⟩,⟨w2,h2,s2,n2,xs2⟩,⟨w3,h3,s3,n3,xs3⟩,⟨w4,h4,s4,n4,xs4⟩⟩))) | _=>none) else
  if f=66 then gZ15 xs else
  if f=101 then gZ16 xs else
  if f=67 then gZ16 xs else
  if f=121 then (match xs with | [.agg [.int _ w,.int _ h,.bool so,.int _ c0,.int _ c1,.int _ c2,.int _ ca,.int _ cf,.int _ w0,.int _ h0,.int _ s0,.sl n0 xs0,.int _ w1,.int _ h1,.int _ s1,.sl n1 xs1,.int _ w2,.int _ h2,.int _ s2,.sl n2 xs2,.int _ w3,.int _ h3,.int _ s3,.sl n3 xs3,.int _ w4,.int _ h4,.int _ s4,.sl n4 xs4]]=>some (rJ (Im.shape ⟨w,h,so,⟨c0,c1,c2,ca,cf⟩,⟨w0,h0,s0,n0,xs0⟩,⟨w1,h1,s1,n1,xs1⟩,⟨w2,h2,s2,n2,xs2⟩,⟨w3,h3,s3,n3,xs3⟩,⟨w4,h4,s4,n4,xs4⟩⟩)) | _=>none) else
  if f=114 then gZ17 xs else
  if f=22 then gZ17 xs else
  if f=94 then gZ18 xs else
  if f=61 then gZ19 xs else
  if f=33 then gZ19 xs else
  if f=42 then gZ20 xs else
  if f=80 then (match xs with | [.d (.sl n xs),.d (.sl m ys)]=>some (RV.d (dQ (decide (zQc xs=zQc ys)))) | _=>none) else
  if f=18 then gZ21 xs else
  if f=50 then gZ22 xs else
  if f=91 then (match xs with | [.agg [.int _ n0,.int _ n1,.int _ n2,.int _ n3,.int _ n4],.d (.int _ most)]=>let a:=(zZK n0 n1 n2 n3 n4 most); some (RV.agg [dK a.a,dK a.b,dK a.c,dK a.al,dK a.f]) | _=>none) else
  if f=47 then gZ23 xs else
  none
 modes:=fun f=>
  if f=100 then some ([true,true],0,2) else
  if f=108 then some ([true,true,true],0,5) else
  if f=48 then some ([true,true,true],0,5) else
  none
 proc:=fun f xs bs=>
  if f=100 then (match xs,bs with | [AV.one (Cl.d (DV.int _ w)),AV.one (Cl.d (DV.int _ h))],[]=>some ⟨AV.one (Cl.clo 128 [Cap.ptr 0 0,Cap.ptr 1 0]),[bC [cJ h],bC [cJ w]],false⟩ | _,_=>none) else
  if f=108 then gZ24 xs bs else
  if f=48 then gZ24 xs bs else
  none
 iter:=fun f cs=>
  if f=128 then (match cs with | [(true,[DV.int _ h]),(true,[DV.int _ w])]=>some ((w.toNat*h.toNat),fun _k=>[dJ ((_k % w.toNat:Nat):Int),dJ ((_k / w.toNat:Nat):Int)]) | _=>none) else
  none
section
attribute [local irreducible] Ans AnsO AnsG AnsN AnsI
theorem zVu (n:Int):Ans prog 18 [rJ (n)] (RV.d (dK (gMax n))):=
 zQj (Γ:=gamI) Ann.leaf zQs Tryz.func18 rfl (nL rfl) fun hwf=>by
  refine Eq.mpr (by kernel_rfl:_=(let a:=(modS n (3:Int)); tU2 ((Ans prog 14 [rJ n,rJ 3] (rJ a))∧True∧(((a==2)=true→True∧RV.d (dK 65535)=RV.d (dK (gMax n)))∧((a==2)=false→True∧RV.d (dK 255)=RV.d (dK (gMax n))))))) ?_
  delta dK rJ
  simp only [sS,zQI]
  unfold gMax; grind
theorem zXB (n most:Int):Ans prog 50 [rJ (n),RV.d (dK most)] (RV.d (dK (zQ4 n most))):=
 zQj (Γ:=gamI) Ann.leaf zQs Tryz.func50 rfl (nL rfl) fun hwf=>by
  refine Eq.mpr (by kernel_rfl:_=(let a:=(modS n (8:Int)); let d:=(a==1); let c:=(dK (zQ4 n most)); let b:=(wK (Int.tdiv n (8:Int))); let e:=(dJ b); let f:=(wK ((wK most)+1)); let g:=(((a==3)=true→tU2 (((8:Int)≠0)∧(Ans prog 14 [RV.d e,rJ 2] (rJ (modS b (2:Int))))∧True∧((2:Int)≠0)∧tU2 (RV.d (dK (IntKind.wrap .u16 (wK (Int.tdiv (wK ((wK most)+(modS b (2:Int)))) (2:Int)))))=RV.d c)))∧((a==3)=false→tU2 (((a==4)=true→tU2 (((8:Int)≠0)∧(Ans prog 14 [RV.d e,rJ 4] (rJ (modS b (4:Int))))∧tU3 (RV.d (dK (IntKind.wrap .u16 (min (wK most) (modS b (4:Int)))))=RV.d c)))∧((a==4)=false→True∧((8:Int)≠0)∧tU2 ((Ans prog 14 [RV.d e,rJ f] (rJ (modS b f)))∧tU2 (RV.d (dK (IntKind.wrap .u16 (modS b f)))=RV.d c)))))); tU5 ((Ans prog 14 [rJ n,rJ 8] (rJ a))∧tU2 (((a==0)=true→True∧RV.d (dK 0)=RV.d c)∧((a==0)=false→tU2 ((d=true→((d=true→tU2 (RV.d (dK most)=RV.d c))∧(d=false→tU2 g)))∧(d=false→tU2 (((a==2)=true→tU2 (RV.d (dK most)=RV.d c))∧((a==2)=false→tU2 g))))))))) ?_
  delta dJ dK wK rJ
  simp only [sS,zQI,zVu]
  unfold zQ4; grind
theorem zUH (n0 n1 n2 n3 n4 most:Int):Ans prog 91 [RV.agg [dJ n0,dJ n1,dJ n2,dJ n3,dJ n4],RV.d (dK most)] (RV.agg [dK ((zZK n0 n1 n2 n3 n4 most).a),dK ((zZK n0 n1 n2 n3 n4 most).b),dK ((zZK n0 n1 n2 n3 n4 most).c),dK ((zZK n0 n1 n2 n3 n4 most).al),dK ((zZK n0 n1 n2 n3 n4 most).f)]):=
 zQj (Γ:=gamI) Ann.leaf zQs Tryz.func91 rfl (nL rfl) fun hwf=>by
  refine Eq.mpr (by kernel_rfl:_=(let g:=(modS n3 (3:Int)); let c:=((5:Nat):Int); let a:=(zQ4 n4 most); let d:=(zZK n0 n1 n2 n3 n4 most); let e:=(dK a); let h:=(0≤(3:Int)∧(3:Int) < c); let i:=(wK (Int.tdiv n3 (3:Int))); let b:=(zQ4 i a); let f:=(dK b); let j:=(0≤(0:Int)∧(0:Int) < c); let k:=(0≤(1:Int)∧(1:Int) < c); let l:=(0≤(2:Int)∧(2:Int) < c); let m:=[dK d.a,dK d.b,dK d.c,dK d.al,dK d.f]; tU2 ((0≤(4:Int)∧(4:Int) < c)∧tU2 ((Ans prog 50 [rJ n4,RV.d (dK most)] (RV.d e))∧tU3 (h∧True∧(Ans prog 14 [rJ n3,rJ 3] (rJ g))∧True∧(((decide (g > 0))=true→h∧True∧((3:Int)≠0)∧True∧(Ans prog 50 [rJ i,RV.d e] (RV.d f))∧True∧j∧tU2 ((Ans prog 50 [rJ n0,RV.d f] (RV.d (dK (zQ4 n0 b))))∧k∧tU2 ((Ans prog 50 [rJ n1,RV.d f] (RV.d (dK (zQ4 n1 b))))∧l∧tU2 ((Ans prog 50 [rJ n2,RV.d f] (RV.d (dK (zQ4 n2 b))))∧tU5 ((true=true)∧RV.agg [dK (zQ4 n0 b),dK (zQ4 n1 b),dK (zQ4 n2 b),dK b,dK a]=RV.agg m)))))∧((decide (g > 0))=false→j∧tU2 ((Ans prog 50 [rJ n0,RV.d e] (RV.d (dK (zQ4 n0 a))))∧k∧tU2 ((Ans prog 50 [rJ n1,RV.d e] (RV.d (dK (zQ4 n1 a))))∧l∧tU2 ((Ans prog 50 [rJ n2,RV.d e] (RV.d (dK (zQ4 n2 a))))∧tU5 ((true=true)∧RV.agg [dK (zQ4 n0 a),dK (zQ4 n1 a),dK (zQ4 n2 a),dK a,dK a]=RV.agg m))))))))))) ?_
  delta dK wK rJ
  simp only [sS,zQI,zVu,zXB,zXB]
  simp [zZK]; grind
theorem zWa (mood:Int) (L:Nat) (xs:List DV) (n most:Int) (hx:Is5 L xs) (hn:n≤16777216):AnsO prog 47 [RV.agg [dJ mood,dS L xs],rJ (n),RV.d (dK most)] 37 5 n.toNat (pxs (zQG mood L xs most n.toNat)):=
 zX3 (t:=6) (Γ:=gamI) (Ann.seq Ann.leaf (Ann.seq Ann.leaf (Ann.seq (Ann.seq Ann.leaf (Ann.loop ⟨Nat,fun k=>k≤n.toNat,fun k=>⟨[(1,aJ n),(2,AV.one (cK most)),(3,AV.one (Cl.ptr 3 0)),(7,AV.one (Cl.ref 5000 k)),(8,aJ (k:Int))],[(3,bC [cJ mood,Cl.d (dS L xs)]),(5000,Bx.row 37 5 (pxs (zQG mood L xs most k)))]⟩,fun k=>n.toNat - k⟩ fun k=>Ann.leaf)) Ann.leaf))) zQs Tryz.func47 rfl (nL rfl) rfl fun hwf=>by
  refine Eq.mpr (by kernel_rfl:_=(let Q:=(zQG mood L xs most n.toNat); let s:=(modS mood (6:Int)); let j:=(zZK (0:Int) (0:Int) (0:Int) (0:Int) (0:Int) most); let q:=([dK 0,dK 0,dK 0,dK 0,dK 0]); let t:=([dK j.a,dK j.b,dK j.c,dK most,dK most]); let l:=(s==0); let m:=(s==1); let o:=(s==2); let R:=(dJ n=dJ n); let S:=(dK most=dK most); let T:=[dJ mood,dS L xs]; let g:=(T=T); let A:=fun (k:Nat)=>[dK (zZK (nAt xs ((Int.tmod (k:Int) (L:Int)).toNat*5)) (nAt xs ((Int.tmod (k:Int) (L:Int)).toNat*5+1)) (nAt xs ((Int.tmod (k:Int) (L:Int)).toNat*5+1+1)) (nAt xs ((Int.tmod (k:Int) (L:Int)).toNat*5+1+1+1)) (nAt xs ((Int.tmod (k:Int) (L:Int)).toNat*5+1+1+1+1)) most).a,dK (zZK (nAt xs ((Int.tmod (k:Int) (L:Int)).toNat*5)) (nAt xs ((Int.tmod (k:Int) (L:Int)).toNat*5+1)) (nAt xs ((Int.tmod (k:Int) (L:Int)).toNat*5+1+1)) (nAt xs ((Int.tmod (k:Int) (L:Int)).toNat*5+1+1+1)) (nAt xs ((Int.tmod (k:Int) (L:Int)).toNat*5+1+1+1+1)) most).b,dK (zZK (nAt xs ((Int.tmod (k:Int) (L:Int)).toNat*5)) (nAt xs ((Int.tmod (k:Int) (L:Int)).toNat*5+1)) (nAt xs ((Int.tmod (k:Int) (L:Int)).toNat*5+1+1)) (nAt xs ((Int.tmod (k:Int) (L:Int)).toNat*5+1+1+1)) (nAt xs ((Int.tmod (k:Int) (L:Int)).toNat*5+1+1+1+1)) most).c,dK (zZK (nAt xs ((Int.tmod (k:Int) (L:Int)).toNat*5)) (nAt xs ((Int.tmod (k:Int) (L:Int)).toNat*5+1)) (nAt xs ((Int.tmod (k:Int) (L:Int)).toNat*5+1+1)) (nAt xs ((Int.tmod (k:Int) (L:Int)).toNat*5+1+1+1)) (nAt xs ((Int.tmod (k:Int) (L:Int)).toNat*5+1+1+1+1)) most).al,dK (zZK (nAt xs ((Int.tmod (k:Int) (L:Int)).toNat*5)) (nAt xs ((Int.tmod (k:Int) (L:Int)).toNat*5+1)) (nAt xs ((Int.tmod (k:Int) (L:Int)).toNat*5+1+1)) (nAt xs ((Int.tmod (k:Int) (L:Int)).toNat*5+1+1+1)) (nAt xs ((Int.tmod (k:Int) (L:Int)).toNat*5+1+1+1+1)) most).f]; let u:=(Ans prog 14 [rJ mood,rJ 6] (rJ s)); let d:=fun (k:Nat)=>(pxs (zQG mood L xs most k)); let e:=fun (k:Nat)=>fun (k':Nat)=>(n.toNat - k' < n.toNat - k); let h:=fun (k:Nat)=>fun (k':Nat)=>(R∧S∧(0=0)∧(k+1=k')∧(dJ (wK ((k:Int)+1))=dJ (k':Int))∧True); let U:=fun (k:Nat)=>fun (k':Nat)=>((h k k')∧(g∧((d k)++(A k)=pxs (zQG mood L xs most k'))∧True)); let B:=[dK j.a,dK j.b,dK j.c,dK j.al,dK j.f]; let V:=(Ans prog 91 [RV.agg [dJ 0,dJ 0,dJ 0,dJ 0,dJ 0],RV.d (dK most)] (RV.agg B)); let v:=fun (k:Nat)=>fun (k':Nat)=>((h k k')∧(g∧((d k)++B=pxs (zQG mood L xs most k'))∧True)); let C:=fun (k:Nat)=>[dK (zZK (nAt xs ((k:Int).toNat*5)) (nAt xs ((k:Int).toNat*5+1)) (nAt xs ((k:Int).toNat*5+1+1)) (nAt xs ((k:Int).toNat*5+1+1+1)) (nAt xs ((k:Int).toNat*5+1+1+1+1)) most).a,dK (zZK (nAt xs ((k:Int).toNat*5)) (nAt xs ((k:Int).toNat*5+1)) (nAt xs ((k:Int).toNat*5+1+1)) (nAt xs ((k:Int).toNat*5+1+1+1)) (nAt xs ((k:Int).toNat*5+1+1+1+1)) most).b,dK (zZK (nAt xs ((k:Int).toNat*5)) (nAt xs ((k:Int).toNat*5+1)) (nAt xs ((k:Int).toNat*5+1+1)) (nAt xs ((k:Int).toNat*5+1+1+1)) (nAt xs ((k:Int).toNat*5+1+1+1+1)) most).c,dK (zZK (nAt xs ((k:Int).toNat*5)) (nAt xs ((k:Int).toNat*5+1)) (nAt xs ((k:Int).toNat*5+1+1)) (nAt xs ((k:Int).toNat*5+1+1+1)) (nAt xs ((k:Int).toNat*5+1+1+1+1)) most).al,dK (zZK (nAt xs ((k:Int).toNat*5)) (nAt xs ((k:Int).toNat*5+1)) (nAt xs ((k:Int).toNat*5+1+1)) (nAt xs ((k:Int).toNat*5+1+1+1)) (nAt xs ((k:Int).toNat*5+1+1+1+1)) most).f]; let W:=fun (k:Nat)=>fun (k':Nat)=>((h k k')∧(g∧((d k)++(C k)=pxs (zQG mood L xs most k'))∧True)); tU4 ((∃ k:Nat,(k≤n.toNat)∧((R∧S∧(0=0)∧(0=k)∧(dJ 0=dJ (k:Int))∧True)∧(g∧([]=pxs (zQG mood L xs most k))∧True)))∧∀ k:Nat,let X:=(zZl 5 10 k 1 (d k) (A k)); let Y:=(zZl 5 10 k 1 (d k) (C k)); let D:=(nAt xs ((k:Int).toNat*5)); let E:=(nAt xs ((k:Int).toNat*5+1)); let F:=(nAt xs ((k:Int).toNat*5+1+1)); let G:=(nAt xs ((k:Int).toNat*5+1+1+1)); let H:=(nAt xs ((k:Int).toNat*5+1+1+1+1)); let w:=(zZl 5 10 k 1 (d k) q); let x:=(zZl 5 10 k 1 (d k) B); let p:=(decide ((k:Int) > 0)); let y:=(((d k)[0]?=some (dK (nAt (d k) 0)))∧((d k)[1]?=some (dK (nAt (d k) 1)))∧((d k)[2]?=some (dK (nAt (d k) 2)))∧((d k)[3]?=some (dK (nAt (d k) 3)))∧((d k)[4]?=some (dK (nAt (d k) 4)))∧True); let i:=(Int.tmod (k:Int) (L:Int)); let I:=(nAt xs (i.toNat*5)); let J:=(nAt xs (i.toNat*5+1)); let K:=(nAt xs (i.toNat*5+1+1)); let M:=(nAt xs (i.toNat*5+1+1+1)); let N:=(nAt xs (i.toNat*5+1+1+1+1)); let O:=(zZK D E F G H most); let Z:=([dK O.a,dK O.b,dK O.c,dK most,dK most]); let r:=([dK (nAt (d k) 0),dK (nAt (d k) 1),dK (nAt (d k) 2),dK (nAt (d k) 3),dK (nAt (d k) 4)]); let z:=(zZl 5 10 k 1 (d k) r); let P:=(zZK I J K M N most); let z0:=([dK P.a,dK P.b,dK P.c,dK most,dK most]); (k≤n.toNat)→tU3 (((decide ((k:Int) < n))=true→tU6 (((decide ((L:Int) > 0))=true→tU4 (((L:Int)≠0)∧tU7 (((decide (i < (L:Int)))=true→tU3 ((0≤Int.tmod (k:Int) (L:Int)∧Int.tmod (k:Int) (L:Int) < (L:Int)∧i.toNat*5 < xs.length)∧((xs[i.toNat*5]?=some (dJ I))∧(xs[i.toNat*5+1]?=some (dJ J))∧(xs[i.toNat*5+1+1]?=some (dJ K))∧(xs[i.toNat*5+1+1+1]?=some (dJ M))∧(xs[i.toNat*5+1+1+1+1]?=some (dJ N))∧True)∧tU3 ((Ans prog 91 [RV.agg [dJ I,dJ J,dJ K,dJ M,dJ N],RV.d (dK most)] (RV.agg (A k)))∧tU4 (u∧tU2 ((l=true→tU5 (w∧tU4 (∃ k':Nat,(k'≤n.toNat)∧(e k k')∧((h k k')∧(g∧((d k)++q=pxs (zQG mood L xs most k'))∧True)))))∧(l=false→tU2 ((m=true→True∧tU8 ((zZl 5 10 k 1 (d k) z0)∧tU4 (∃ k':Nat,(k'≤n.toNat)∧(e k k')∧((h k k')∧(g∧((d k)++z0=pxs (zQG mood L xs most k'))∧True)))))∧(m=false→tU2 ((o=true→True∧(k≤maxLen)∧True∧((p=true→True∧(0≤(0:Int)∧(0:Int) < (k:Int))∧y∧tU4 (z∧tU4 (∃ k':Nat,(k'≤n.toNat)∧(e k k')∧((h k k')∧(g∧((d k)++r=pxs (zQG mood L xs most k'))∧True)))))∧(p=false→tU3 (X∧tU4 (∃ k':Nat,(k'≤n.toNat)∧(e k k')∧(U k k'))))))∧(o=false→tU3 (X∧tU4 (∃ k':Nat,(k'≤n.toNat)∧(e k k')∧(U k k')))))))))))))∧((decide (i < (L:Int)))=false→tU2 (V∧tU4 (u∧tU2 ((l=true→tU5 (w∧tU4 (∃ k':Nat,(k'≤n.toNat)∧(e k k')∧((h k k')∧(g∧((d k)++q=pxs (zQG mood L xs most k'))∧True)))))∧(l=false→tU2 ((m=true→True∧tU8 ((zZl 5 10 k 1 (d k) t)∧tU4 (∃ k':Nat,(k'≤n.toNat)∧(e k k')∧((h k k')∧(g∧((d k)++t=pxs (zQG mood L xs most k'))∧True)))))∧(m=false→tU2 ((o=true→True∧(k≤maxLen)∧True∧((p=true→True∧(0≤(0:Int)∧(0:Int) < (k:Int))∧y∧tU4 (z∧tU4 (∃ k':Nat,(k'≤n.toNat)∧(e k k')∧((h k k')∧(g∧((d k)++r=pxs (zQG mood L xs most k'))∧True)))))∧(p=false→tU3 (x∧tU4 (∃ k':Nat,(k'≤n.toNat)∧(e k k')∧(v k k'))))))∧(o=false→tU3 (x∧tU4 (∃ k':Nat,(k'≤n.toNat)∧(e k k')∧(v k k')))))))))))))))∧((decide ((L:Int) > 0))=false→tU6 (((decide ((k:Int) < (L:Int)))=true→tU3 ((0≤(k:Int)∧(k:Int) < (L:Int)∧(k:Int).toNat*5 < xs.length)∧((xs[(k:Int).toNat*5]?=some (dJ D))∧(xs[(k:Int).toNat*5+1]?=some (dJ E))∧(xs[(k:Int).toNat*5+1+1]?=some (dJ F))∧(xs[(k:Int).toNat*5+1+1+1]?=some (dJ G))∧(xs[(k:Int).toNat*5+1+1+1+1]?=some (dJ H))∧True)∧tU3 ((Ans prog 91 [RV.agg [dJ D,dJ E,dJ F,dJ G,dJ H],RV.d (dK most)] (RV.agg (C k)))∧tU4 (u∧tU2 ((l=true→tU5 (w∧tU4 (∃ k':Nat,(k'≤n.toNat)∧(e k k')∧((h k k')∧(g∧((d k)++q=pxs (zQG mood L xs most k'))∧True)))))∧(l=false→tU2 ((m=true→True∧tU8 ((zZl 5 10 k 1 (d k) Z)∧tU4 (∃ k':Nat,(k'≤n.toNat)∧(e k k')∧((h k k')∧(g∧((d k)++Z=pxs (zQG mood L xs most k'))∧True)))))∧(m=false→tU2 ((o=true→True∧(k≤maxLen)∧True∧((p=true→True∧(0≤(0:Int)∧(0:Int) < (k:Int))∧y∧tU4 (z∧tU4 (∃ k':Nat,(k'≤n.toNat)∧(e k k')∧((h k k')∧(g∧((d k)++r=pxs (zQG mood L xs most k'))∧True)))))∧(p=false→tU3 (Y∧tU4 (∃ k':Nat,(k'≤n.toNat)∧(e k k')∧(W k k'))))))∧(o=false→tU3 (Y∧tU4 (∃ k':Nat,(k'≤n.toNat)∧(e k k')∧(W k k')))))))))))))∧((decide ((k:Int) < (L:Int)))=false→tU2 (V∧tU4 (u∧tU2 ((l=true→tU5 (w∧tU4 (∃ k':Nat,(k'≤n.toNat)∧(e k k')∧((h k k')∧(g∧((d k)++q=pxs (zQG mood L xs most k'))∧True)))))∧(l=false→tU2 ((m=true→True∧tU8 ((zZl 5 10 k 1 (d k) t)∧tU4 (∃ k':Nat,(k'≤n.toNat)∧(e k k')∧((h k k')∧(g∧((d k)++t=pxs (zQG mood L xs most k'))∧True)))))∧(m=false→tU2 ((o=true→True∧(k≤maxLen)∧True∧((p=true→True∧(0≤(0:Int)∧(0:Int) < (k:Int))∧y∧tU4 (z∧tU4 (∃ k':Nat,(k'≤n.toNat)∧(e k k')∧((h k k')∧(g∧((d k)++r=pxs (zQG mood L xs most k'))∧True)))))∧(p=false→tU3 (x∧tU4 (∃ k':Nat,(k'≤n.toNat)∧(e k k')∧(v k k'))))))∧(o=false→tU3 (x∧tU4 (∃ k':Nat,(k'≤n.toNat)∧(e k k')∧(v k k'))))))))))))))))∧((decide ((k:Int) < n))=false→tU2 ((37=37∧5=5)∧(pxs Q).length=n.toNat*5∧k=n.toNat∧pxs (zQG mood L xs most k)=pxs Q)))))) ?_
  delta dJ dK wK dS rJ
  simp only [sS,zQI,zVu,zXB,zXB,zUH,zUH]
  refine ⟨⟨0,Nat.zero_le _,⟨rfl,rfl⟩,rfl⟩,fun k hk=>⟨fun hlt=>?_,fun hge=>?_⟩⟩
  ·have hkn:k < n.toNat:=by omega
   have hnn:n.toNat≤16777216:=by omega
   have tm:Int.tmod (k:Int) (L:Int)=((k % L:Nat):Int):=rfl
   simp only [tm,Int.toNat_natCast,Nat.add_assoc,Nat.reduceAdd]
   rcases Nat.eq_zero_or_pos L with hL | hL
   ·subst hL
    have P1:zZK 0 0 0 0 0 most=gPx1 0 xs most k:=by simp [gPx1,gNum]
    have P0:gPx1 0 xs most 0=gPx1 0 xs most k:=by simp [gPx1,gNum]
    simp only [P1]
    (repeat' (first | apply And.intro | intro)) <;> (first | assumption | omega | exact A _ (by omega) | rfl | (rw [zZs,zXd]; done) | (unfold maxLen; omega) | exact zJs (by omega) _ (by omega) | (apply jQh hkn hnn; simp_all [gPx,Px.ds,Px.zero]; done) | (obtain ⟨v0,v1,v2,v3,v4⟩:=zHb (mood:=mood) (L:=L) (xs:=xs) (most:=most) (k:=k) (by omega) (eq_of_beq (by assumption)); apply jQh hkn hnn; simp_all [gPx,Px.ds]; done) | (obtain ⟨v0,v1,v2,v3,v4⟩:=zHb (mood:=mood) (L:=0) (xs:=xs) (most:=most) (k:=k) (by omega) (eq_of_beq (by assumption)); apply jQh hkn hnn; simp_all [gPx,Px.ds]; done) | (have P2:=P0 (by omega); apply jQh hkn hnn; simp_all [gPx,Px.ds]; done))
   ·have hmod:=Nat.mod_lt k hL
    have P1:zZK (nAt xs (k % L*5)) (nAt xs (k % L*5+1)) (nAt xs (k % L*5+2)) (nAt xs (k % L*5+3)) (nAt xs (k % L*5+4)) most=gPx1 L xs most k:=by simp [gPx1,gNum,hL]
    simp only [P1]
    have P0:k=0→gPx1 L xs most 0=gPx1 L xs most k:=fun h=>by rw [h]
    have A:=hx.2
    have B:=hx.1
    (repeat' (first | apply And.intro | intro)) <;> (first | assumption | omega | exact A _ (by omega) | rfl | (rw [zZs,zXd]; done) | (unfold maxLen; omega) | exact zJs (by omega) _ (by omega) | (apply jQh hkn hnn; simp_all [gPx,Px.ds,Px.zero]; done) | (obtain ⟨v0,v1,v2,v3,v4⟩:=zHb (mood:=mood) (L:=L) (xs:=xs) (most:=most) (k:=k) (by omega) (eq_of_beq (by assumption)); apply jQh hkn hnn; simp_all [gPx,Px.ds]; done) | (obtain ⟨v0,v1,v2,v3,v4⟩:=zHb (mood:=mood) (L:=0) (xs:=xs) (most:=most) (k:=k) (by omega) (eq_of_beq (by assumption)); apply jQh hkn hnn; simp_all [gPx,Px.ds]; done) | (have P2:=P0 (by omega); apply jQh hkn hnn; simp_all [gPx,Px.ds]; done))
  ·have:k=n.toNat:=by omega
   subst this
   rw [zZs,zXd]
   exact ⟨rfl,rfl,rfl⟩
def jVk (b:Int):Int:=if b=8 then 255 else if b=16 then 65535 else 0
def jKI (b:Int):Bool:=decide (b=8∨b=16)
def errO (bits:Int) (mn:Nat) (o:Oq) (l:List Oq):Int:=
 if ¬ (o.kind=1∨o.kind=2∨o.kind=3) then 9
 else if o.fields=false then 10
 else if o.kind=3 then (if l=[] then 18 else 0)
 else if (o.kind=1∧(o.image < 0∨o.image≥(mn:Int)))∨o.mask < 0∨o.mask > (mn:Int) then 11
 else if ¬ (zUM o.x=true∧zUM o.y=true∧zUM o.mx=true∧zUM o.my=true) then 12
 else if o.opac > jVk bits then 13
 else if ¬ (1≤o.oper∧o.oper < 13) then 14
 else if ¬ (1≤o.mode∧o.mode < 13) then 15
 else if o.oper≠4∧ctxB l=false then 16
 else if o.kind=2∧64≤l.length then 17
 else 0
def jYW (bits:Int) (c:Rc) (tw th:Int) (l:List Int) (mn pn:Nat):Int:=
 if jKI bits=false then 1
 else if c.empty=true∨c.area > 16777216∨zUM c.a=false∨zUM c.b=false then 2
 else if (cntS c tw th).2.2=false then 3
 else if jVc l (IntKind.wrap .i64 ((cntS c tw th).1*(cntS c tw th).2.1))=false then 4
 else if (mn:Int) > 64∨(pn:Int) > 4096 then 5
 else 0
def gZ25 (xs:List RV):Option RV:=match xs with | [.agg [.int _ a,.int _ b,.int _ c,.int _ d],.d (.int _ w),.d (.int _ h)]=>some (RV.tup [rJ (cntS ⟨a,b,c,d⟩ w h).1,rJ (cntS ⟨a,b,c,d⟩ w h).2.1,RV.d (dQ (cntS ⟨a,b,c,d⟩ w h).2.2)]) | _=>none
def jWy:Gam where
 pure:=fun f xs=>
  if f=45 then gZ12 xs else
  if f=19 then gZ25 xs else
  none
 modes:=fun f=>
  none
 proc:=fun f xs bs=>
  none
 iter:=fun f cs=>
  none
theorem zHw (a b c d w h:Int):Ans prog 19 [RV.agg [dJ a,dJ b,dJ c,dJ d],rJ (w),rJ (h)] (RV.tup [rJ (((cntS ⟨a,b,c,d⟩ w h).1)),rJ (((cntS ⟨a,b,c,d⟩ w h).2.1)),RV.d (dQ ((cntS ⟨a,b,c,d⟩ w h).2.2))]):=
 zQj (Γ:=jWy) Ann.leaf zQs Tryz.func19 rfl (nL rfl) fun hwf=>by
  refine Eq.mpr (by kernel_rfl:_=(let g:=[rJ 0,rJ 0,RV.d (dQ false)]; let f:=[rJ (cntS ⟨a,b,c,d⟩ w h).1,rJ (cntS ⟨a,b,c,d⟩ w h).2.1,RV.d (dQ (cntS ⟨a,b,c,d⟩ w h).2.2)]; let e:=(RV.tup g=RV.tup f); tU5 ((Ans prog 45 [RV.agg [dJ a,dJ b,dJ c,dJ d]] (RV.d (dQ (Rc.empty ⟨a,b,c,d⟩))))∧True∧(((Rc.empty ⟨a,b,c,d⟩)=false→tU4 (((decide (w < 1))=false→tU4 (((decide (h < 1))=false→True∧tU8 (((decide (w > (wK (c - a))))=false→tU8 (((decide (h > (wK (d - b))))=true→tU3 e)∧((decide (h > (wK (d - b))))=false→tU7 ((w≠0)∧tU8 ((h≠0)∧tU4 ((true=true)∧RV.tup [rJ (wK ((wK (Int.tdiv (wK ((wK (c - a)) - 1)) w))+1)),rJ (wK ((wK (Int.tdiv (wK ((wK (d - b)) - 1)) h))+1)),RV.d (dQ true)]=RV.tup f))))))∧((decide (w > (wK (c - a))))=(!false)→tU4 e)))∧((decide (h < 1))=(!false)→tU6 e)))∧((decide (w < 1))=(!false)→tU8 e)))∧((Rc.empty ⟨a,b,c,d⟩)=(!false)→tU2 (tU8 e)))))) ?_
  delta dJ dQ wK rJ
  simp only [sS,zHA]
  unfold cntS
  cases he:Rc.empty ⟨a,b,c,d⟩
  ·obtain ⟨e1,e2,e3,e4,e5,e6⟩:=(Rc.empty_iff _).1 he
   simp only at e1 e2 e3 e4 e5 e6
   have w1:IntKind.wrap .i64 (c - a)=c - a:=by rw [IntKind.wrap_i64]; omega
   have w2:IntKind.wrap .i64 (d - b)=d - b:=by rw [IntKind.wrap_i64]; omega
   simp only [w1,w2]
   have hq:∀ W v:Int,1≤v→v≤W→W≤2147483648→IntKind.wrap .i64 (IntKind.wrap .i64 (Int.tdiv (IntKind.wrap .i64 (W - 1)) v)+1)=IntKind.wrap .i64 (Int.tdiv (IntKind.wrap .i64 (IntKind.wrap .i64 (W+v) - 1)) v):=fun W v h1 h2 h3=>by
    have a1:IntKind.wrap .i64 (W - 1)=W - 1:=by rw [IntKind.wrap_i64]; omega
    have a2:IntKind.wrap .i64 (W+v)=W+v:=by rw [IntKind.wrap_i64]; omega
    have a3:IntKind.wrap .i64 (W+v - 1)=W+v - 1:=by rw [IntKind.wrap_i64]; omega
    rw [a1,a2,a3,Int.tdiv_eq_ediv_of_nonneg (by omega),Int.tdiv_eq_ediv_of_nonneg (by omega)]
    have b1:(W+v - 1) / v=(W - 1) / v+1:=by rw [show W+v - 1=(W - 1)+1*v by omega,Int.add_mul_ediv_right _ _ (by omega)]
    rw [b1]
    have b2:0≤(W - 1) / v:=Int.ediv_nonneg (by omega) (by omega)
    have b3:(W - 1) / v≤W - 1:=Int.ediv_le_self _ (by omega)
    rw [IntKind.wrap_i64 ((W - 1) / v)]
    congr 1
    omega
   by_cases h1:w < 1 <;> by_cases h3:h < 1 <;> by_cases h2:c - a < w <;> by_cases h4:d - b < h <;> simp [h1,h2,h3,h4] <;> first | omega | exact ⟨by omega,by omega,hq _ _ (by omega) (by omega) (by omega),hq _ _ (by omega) (by omega) (by omega)⟩
  ·simp
theorem jZL:∀ (l:List Oq) (k:Nat),(ops l).take (k*12)=ops (l.take k)
 | [],k=>by simp [ops]
 | o::l,0=>by simp [ops]
 | o::l,k+1=>by
  have e:ops (o::l)=o.cells++ops l:=by simp [ops]
  have e2:ops ((o::l).take (k+1))=o.cells++ops (l.take k):=by simp [ops]
  rw [e,e2,List.take_append,List.take_of_length_le (by simp [Oq.cells]; omega),← jZL l k]
  congr 2
  simp [Oq.cells]; omega
def jQJ (o:Oq) (st:List Oq):List Oq:=if o.kind=2 then st++[o] else if o.kind=3 then st.dropLast else st
def runO (bits:Int) (mn:Nat):List Oq→Int→List Oq→Int × Int
 | [],i,st=>if st=[] then (0,0) else (18,i)
 | o::r,i,st=>if errO bits mn o st=0 then runO bits mn r (i+1) (jQJ o st) else (errO bits mn o st,i)
def opsE (bits:Int) (c:Rc) (tw th:Int) (l:List Int) (mn:Nat) (ps:List Oq):Int × Int:=
 if jYW bits c tw th l mn ps.length=0 then runO bits mn ps 0 [] else (jYW bits c tw th l mn ps.length,0)
def gZ26 (xs:List RV):Option RV:=match xs with | [.agg [.int _ vk,.int _ vim,.int _ vx,.int _ vy,.int _ vma,.int _ vmx,.int _ vmy,.int _ vop,.int _ vope,.int _ vmo,.int _ vfl],.d (.bool push),.d (.int _ imgs),.agg [.int _ ca,.int _ cb,.int _ cc,.int _ cd],.d (.bool free),.d (.int _ most)]=>let a:=(gOp ⟨vk,vim,vx,vy,vma,vmx,vmy,vop,vope,vmo,vfl⟩ push imgs ⟨ca,cb,cc,cd⟩ free most); some (RV.agg [DV.int .i64 a.kind,DV.int .i64 a.image,DV.int .i64 a.x,DV.int .i64 a.y,DV.int .i64 a.mask,DV.int .i64 a.mx,DV.int .i64 a.my,DV.int .u16 a.opac,DV.int .i64 a.oper,DV.int .i64 a.mode,DV.bool a.iso,DV.bool a.kno]) | _=>none
def jWe:Gam where
 pure:=fun f xs=>
  if f=14 then gZ0 xs else
  if f=50 then gZ22 xs else
  if f=49 then (match xs with | [.d (.int _ n),.d (.int _ corner)]=>some (rJ (gOff n corner)) | _=>none) else
  if f=23 then gZ26 xs else
  none
 modes:=fun f=>
  none
 proc:=fun f xs bs=>
  none
 iter:=fun f cs=>
  none
theorem zV9 (n corner:Int) (hc : -100≤corner∧corner≤100):Ans prog 49 [rJ (n),rJ (corner)] (rJ ((gOff n corner))):=
 zQj (Γ:=jWe) Ann.leaf zQs Tryz.func49 rfl (nL rfl) fun hwf=>by
  refine Eq.mpr (by kernel_rfl:_=(let a:=(modS n (3:Int)); let c:=(dJ (gOff n corner)); let b:=(wK (Int.tdiv n (3:Int))); tU2 ((Ans prog 14 [rJ n,rJ 3] (rJ a))∧True∧(((a==0)=true→tU2 (rJ corner=RV.d c))∧((a==0)=false→tU2 (((3:Int)≠0)∧(Ans prog 14 [rJ b,rJ 9] (rJ (modS b (9:Int))))∧tU3 (rJ (wK ((wK (corner+(modS b (9:Int)))) - 4))=RV.d c))))))) ?_
  delta dJ wK rJ
  simp only [sS,zQI,zXB]
  have b:=@zZw (IntKind.wrap .i64 (Int.tdiv n 3)) 9 (by omega) (by omega)
  unfold gOff
  have w1:IntKind.wrap .i64 (corner+modS (IntKind.wrap .i64 (Int.tdiv n 3)) 9)=corner+modS (IntKind.wrap .i64 (Int.tdiv n 3)) 9:=IntWalk.i64_in _ ⟨by omega,by omega⟩
  have w2:IntKind.wrap .i64 (corner+modS (IntKind.wrap .i64 (Int.tdiv n 3)) 9 - 4)=corner+modS (IntKind.wrap .i64 (Int.tdiv n 3)) 9 - 4:=IntWalk.i64_in _ ⟨by omega,by omega⟩
  simp only [w1,w2]
  refine ⟨fun h=>?_,fun h=>⟨by decide,?_⟩⟩
  ·rw [if_pos (by simpa using h)]
  ·rw [if_neg (by simpa using h)]
theorem jKk (r:Rw) (push:Bool) (imgs:Int) (c:Rc) (free:Bool) (most:Int) (hc:(-100≤c.a∧c.a≤100) ∧ -100≤c.b∧c.b≤100) (hi:1≤imgs∧imgs≤100):Ans prog 23 [RV.agg [dJ r.k,dJ r.im,dJ r.x,dJ r.y,dJ r.ma,dJ r.mx,dJ r.my,dJ r.op,dJ r.ope,dJ r.mo,dJ r.fl],RV.d (dQ push),rJ (imgs),RV.agg [dJ c.a,dJ c.b,dJ c.c,dJ c.d],RV.d (dQ free),RV.d (dK most)] (RV.agg [dJ ((gOp r push imgs c free most).kind),dJ ((gOp r push imgs c free most).image),dJ ((gOp r push imgs c free most).x),dJ ((gOp r push imgs c free most).y),dJ ((gOp r push imgs c free most).mask),dJ ((gOp r push imgs c free most).mx),dJ ((gOp r push imgs c free most).my),dK ((gOp r push imgs c free most).opac),dJ ((gOp r push imgs c free most).oper),dJ ((gOp r push imgs c free most).mode),dQ ((gOp r push imgs c free most).iso),dQ ((gOp r push imgs c free most).kno)]):=
 zQj (Γ:=jWe) (let e:=(6,AV.one (Cl.ptr 6 0)); let f:=(13,AV.one (Cl.ptr 13 0)); let g:=(12,AV.one (Cl.ptr 12 0)); let a:=(gOp r push imgs c free most); let h:=(4,AV.one (Cl.d (dQ free))); let i:=(5,AV.one (cK most)); let b:=(6,bC [cJ r.k,cJ r.im,cJ r.x,cJ r.y,cJ r.ma,cJ r.mx,cJ r.my,cJ r.op,cJ r.ope,cJ r.mo,cJ r.fl]); let d:=(12,bC [cJ 0,cJ 0,cJ 0,cJ 0,cJ 0,cJ 0,cJ 0,cK 0,cJ 0,cJ 0,Cl.d (dQ false),Cl.d (dQ false)]); let j:=[h,e,g,f]; (Ann.seq Ann.leaf (Ann.seq Ann.leaf (Ann.cut ⟨Oq,fun q1:Oq=>q1=⟨a.kind,a.image,a.x,a.y,0,0,0,most,4,1,a.iso,a.kno⟩,fun q1:Oq=>⟨[(2,aJ imgs),h,i,e,(9,AV.one (Cl.ptr 9 0)),g,f],[b,(9,bC [cJ c.a,cJ c.b,cJ c.c,cJ c.d]),d,(13,bC [cJ q1.kind,cJ q1.image,cJ q1.x,cJ q1.y,cJ q1.mask,cJ q1.mx,cJ q1.my,cK q1.opac,cJ q1.oper,cJ q1.mode,Cl.d (dQ q1.iso),Cl.d (dQ q1.kno)])]⟩,fun q1:Oq=>0⟩ Ann.leaf fun q1=>(Ann.cut ⟨Oq,fun q2:Oq=>q2=⟨a.kind,a.image,a.x,a.y,a.mask,a.mx,a.my,most,4,1,a.iso,a.kno⟩,fun q2:Oq=>⟨[h,i,e,g,f],[b,d,(13,bC [cJ q2.kind,cJ q2.image,cJ q2.x,cJ q2.y,cJ q2.mask,cJ q2.mx,cJ q2.my,cK q2.opac,cJ q2.oper,cJ q2.mode,Cl.d (dQ q2.iso),Cl.d (dQ q2.kno)])]⟩,fun q2:Oq=>0⟩ Ann.leaf fun q2=>(Ann.cut ⟨Oq,fun q3:Oq=>q3=⟨a.kind,a.image,a.x,a.y,a.mask,a.mx,a.my,a.opac,4,1,a.iso,a.kno⟩,fun q3:Oq=>⟨j,[b,d,(13,bC [cJ q3.kind,cJ q3.image,cJ q3.x,cJ q3.y,cJ q3.mask,cJ q3.mx,cJ q3.my,cK q3.opac,cJ q3.oper,cJ q3.mode,Cl.d (dQ q3.iso),Cl.d (dQ q3.kno)])]⟩,fun q3:Oq=>0⟩ Ann.leaf fun q3=>(Ann.cut ⟨Oq,fun q4:Oq=>q4=⟨a.kind,a.image,a.x,a.y,a.mask,a.mx,a.my,a.opac,4,a.mode,a.iso,a.kno⟩,fun q4:Oq=>⟨j,[b,d,(13,bC [cJ q4.kind,cJ q4.image,cJ q4.x,cJ q4.y,cJ q4.mask,cJ q4.mx,cJ q4.my,cK q4.opac,cJ q4.oper,cJ q4.mode,Cl.d (dQ q4.iso),Cl.d (dQ q4.kno)])]⟩,fun q4:Oq=>0⟩ Ann.leaf fun q4=>Ann.leaf))))))) zQs Tryz.func23 rfl (nL rfl) fun hwf=>by
  refine Eq.mpr (by kernel_rfl:_=(let g:=(modS r.mo (2:Int)); let h:=(modS r.op (2:Int)); let i:=(modS r.ma (4:Int)); let j:=(modS r.ope (2:Int)); let a:=(gOp r push imgs c free most); let k:=(wK (Int.tdiv r.fl (2:Int))); let l:=fun (q1:Oq)=>(q1=⟨a.kind,a.image,a.x,a.y,0,0,0,most,4,1,a.iso,a.kno⟩); let m:=(dQ free=dQ free); let z:=(dK most=dK most); let A:=((dJ imgs=dJ imgs)∧m∧z∧(0=0)∧(0=0)∧(0=0)∧(0=0)∧True); let B:=[dJ r.k,dJ r.im,dJ r.x,dJ r.y,dJ r.ma,dJ r.mx,dJ r.my,dJ r.op,dJ r.ope,dJ r.mo,dJ r.fl]; let b:=(B=B); let C:=[dJ c.a,dJ c.b,dJ c.c,dJ c.d]; let D:=(C=C); let E:=[dJ 0,dJ 0,dJ 0,dJ 0,dJ 0,dJ 0,dJ 0,dK 0,dJ 0,dJ 0,dQ false,dQ false]; let d:=(E=E); let n:=fun (q1:Oq)=>[dJ q1.kind,dJ q1.image,dJ q1.x,dJ q1.y,dJ q1.mask,dJ q1.mx,dJ q1.my,dK q1.opac,dJ q1.oper,dJ q1.mode,dQ q1.iso,dQ q1.kno]; let o:=(wK (Int.tdiv r.ma (4:Int))); let p:=fun (q2:Oq)=>(q2=⟨a.kind,a.image,a.x,a.y,a.mask,a.mx,a.my,most,4,1,a.iso,a.kno⟩); let F:=(m∧z∧(0=0)∧(0=0)∧(0=0)∧True); let q:=fun (q2:Oq)=>[dJ q2.kind,dJ q2.image,dJ q2.x,dJ q2.y,dJ q2.mask,dJ q2.mx,dJ q2.my,dK q2.opac,dJ q2.oper,dJ q2.mode,dQ q2.iso,dQ q2.kno]; let s:=(wK (Int.tdiv r.op (2:Int))); let t:=fun (q3:Oq)=>(q3=⟨a.kind,a.image,a.x,a.y,a.mask,a.mx,a.my,a.opac,4,1,a.iso,a.kno⟩); let e:=(m∧(0=0)∧(0=0)∧(0=0)∧True); let u:=fun (q3:Oq)=>[dJ q3.kind,dJ q3.image,dJ q3.x,dJ q3.y,dJ q3.mask,dJ q3.mx,dJ q3.my,dK q3.opac,dJ q3.oper,dJ q3.mode,dQ q3.iso,dQ q3.kno]; let v:=(wK (Int.tdiv r.mo (2:Int))); let w:=fun (q4:Oq)=>(q4=⟨a.kind,a.image,a.x,a.y,a.mask,a.mx,a.my,a.opac,4,a.mode,a.iso,a.kno⟩); let f:=fun (q4:Oq)=>[dJ q4.kind,dJ q4.image,dJ q4.x,dJ q4.y,dJ q4.mask,dJ q4.mx,dJ q4.my,dK q4.opac,dJ q4.oper,dJ q4.mode,dQ q4.iso,dQ q4.kno]; let x:=(wK (Int.tdiv r.ope (2:Int))); let y:=[dJ a.kind,dJ a.image,dJ a.x,dJ a.y,dJ a.mask,dJ a.mx,dJ a.my,dK a.opac,dJ a.oper,dJ a.mode,dQ a.iso,dQ a.kno]; tU7 ((True∧((push=true→tU4 ((Ans prog 14 [rJ r.fl,rJ 2] (rJ (modS r.fl (2:Int))))∧tU3 (((2:Int)≠0)∧(Ans prog 14 [rJ k,rJ 3] (rJ (modS k (3:Int))))∧tU5 ((true=true)∧∃ q1:Oq,(l q1)∧(A∧(b∧D∧d∧([dJ 2,dJ 0,dJ 0,dJ 0,dJ 0,dJ 0,dJ 0,dK most,dJ 4,dJ 1,dQ ((modS r.fl (2:Int))==0),dQ ((modS k (3:Int))==0)]=(n q1))∧True))))))∧(push=false→tU3 ((Ans prog 14 [rJ r.im,rJ imgs] (rJ (modS r.im imgs)))∧tU6 ((Ans prog 49 [rJ r.x,rJ c.a] (rJ (gOff r.x c.a)))∧tU4 ((Ans prog 49 [rJ r.y,rJ c.b] (rJ (gOff r.y c.b)))∧tU4 ((true=true)∧∃ q1:Oq,(l q1)∧(A∧(b∧D∧d∧([dJ 1,dJ (modS r.im imgs),dJ (gOff r.x c.a),dJ (gOff r.y c.b),dJ 0,dJ 0,dJ 0,dK most,dJ 4,dJ 1,dQ false,dQ false]=(n q1))∧True)))))))))∧∀ q1:Oq,(l q1)→(tU2 ((Ans prog 14 [rJ r.ma,rJ 4] (rJ i))∧True∧(((i==0)=true→tU2 (((4:Int)≠0)∧True∧(Ans prog 14 [rJ o,rJ imgs] (rJ (modS o imgs)))∧tU7 ((Ans prog 49 [rJ r.mx,rJ c.a] (rJ (gOff r.mx c.a)))∧tU4 ((Ans prog 49 [rJ r.my,rJ c.b] (rJ (gOff r.my c.b)))∧tU4 ((true=true)∧∃ q2:Oq,(p q2)∧(F∧(b∧d∧([dJ q1.kind,dJ q1.image,dJ q1.x,dJ q1.y,dJ (wK ((1:Int)+(modS o imgs))),dJ (gOff r.mx c.a),dJ (gOff r.my c.b),dK q1.opac,dJ q1.oper,dJ q1.mode,dQ q1.iso,dQ q1.kno]=(q q2))∧True)))))))∧((i==0)=false→∃ q2:Oq,(p q2)∧(F∧(b∧d∧((n q1)=(q q2))∧True))))))∧∀ q2:Oq,(p q2)→(tU2 ((Ans prog 14 [rJ r.op,rJ 2] (rJ h))∧True∧(((h==0)=true→tU2 (((2:Int)≠0)∧True∧(Ans prog 50 [rJ s,RV.d (dK most)] (RV.d (dK (zQ4 s most))))∧tU2 (∃ q3:Oq,(t q3)∧(e∧(b∧d∧([dJ q2.kind,dJ q2.image,dJ q2.x,dJ q2.y,dJ q2.mask,dJ q2.mx,dJ q2.my,dK (zQ4 s most),dJ q2.oper,dJ q2.mode,dQ q2.iso,dQ q2.kno]=(u q3))∧True)))))∧((h==0)=false→∃ q3:Oq,(t q3)∧(e∧(b∧d∧((q q2)=(u q3))∧True))))))∧∀ q3:Oq,(t q3)→(tU2 ((Ans prog 14 [rJ r.mo,rJ 2] (rJ g))∧True∧(((g==0)=true→tU2 (((2:Int)≠0)∧(Ans prog 14 [rJ v,rJ 12] (rJ (modS v (12:Int))))∧tU3 (∃ q4:Oq,(w q4)∧(e∧(b∧d∧([dJ q3.kind,dJ q3.image,dJ q3.x,dJ q3.y,dJ q3.mask,dJ q3.mx,dJ q3.my,dK q3.opac,dJ q3.oper,dJ (wK ((1:Int)+(modS v (12:Int)))),dQ q3.iso,dQ q3.kno]=(f q4))∧True)))))∧((g==0)=false→∃ q4:Oq,(w q4)∧(e∧(b∧d∧((u q3)=(f q4))∧True))))))∧∀ q4:Oq,(w q4)→tU2 ((free=true→tU2 ((Ans prog 14 [rJ r.ope,rJ 2] (rJ j))∧tU2 (((j==0)=true→tU2 (((2:Int)≠0)∧(Ans prog 14 [rJ x,rJ 12] (rJ (modS x (12:Int))))∧tU5 (RV.agg [dJ q4.kind,dJ q4.image,dJ q4.x,dJ q4.y,dJ q4.mask,dJ q4.mx,dJ q4.my,dK q4.opac,dJ (wK ((1:Int)+(modS x (12:Int)))),dJ q4.mode,dQ q4.iso,dQ q4.kno]=RV.agg y)))∧((j==0)=false→tU2 (RV.agg (f q4)=RV.agg y)))))∧(free=(!true)→tU3 (RV.agg (f q4)=RV.agg y)))))) ?_
  delta dJ dK dQ wK rJ
  simp only [sS,zQI,zXB]
  have oa:=fun n=>zV9 n c.a hc.1
  have ob:=fun n=>zV9 n c.b hc.2
  have b4:=@zZw (IntKind.wrap .i64 (Int.tdiv r.ma 4)) imgs (by omega) (by omega)
  have b12:=fun v=>@zZw v 12 (by omega) (by omega)
  have w4:IntKind.wrap .i64 (1+modS (IntKind.wrap .i64 (Int.tdiv r.ma 4)) imgs)=1+modS (IntKind.wrap .i64 (Int.tdiv r.ma 4)) imgs:=IntWalk.i64_in _ ⟨by omega,by omega⟩
  have w12:∀ v,IntKind.wrap .i64 (1+modS v 12)=1+modS v 12:=fun v=>by have:=b12 v; exact IntWalk.i64_in _ ⟨by omega,by omega⟩
  simp only [oa,ob,w4,w12,true_and]
  simp only [exists_eq_left,forall_eq,gOp,beq_iff_eq,beq_eq_false_iff_ne]
  (repeat' (first | apply And.intro | intro _)) <;> (first | decide | (simp_all; done) | (simp_all; rfl))
theorem zQD (w h:Int):Ans prog 125 [rJ (w),rJ (h)] (RV.d (dQ (zQ8 w h))):=
 zQj (Γ:=gamI) Ann.leaf zQs Tryz.func125 rfl (nL rfl) fun hwf=>by
  refine Eq.mpr (by kernel_rfl:_=(let a:=(RV.d (dQ false)=RV.d (dQ (zQ8 w h))); tU4 (((decide (w≥1))=true→tU4 (((decide (h≥1))=true→tU2 ((h≠0)∧tU3 (RV.d (dQ (decide (w≤(wK (Int.tdiv (16777216:Int) h)))))=RV.d (dQ (zQ8 w h)))))∧((decide (h≥1))=(!true)→tU2 a)))∧((decide (w≥1))=(!true)→tU4 a)))) ?_
  delta dQ wK
  simp only [sS,zQI]
  have:=@zWC w h
  grind [zQ8]
theorem zZp (w h:Int):Ans prog 146 [rJ (w),rJ (h)] (RV.d (dQ (zQ8 w h))):=
 zQj (Γ:=gamI) Ann.leaf zQs Tryz.func146 rfl (nL rfl) fun hwf=>by
  refine Eq.mpr (by kernel_rfl:_=(let a:=(RV.d (dQ false)=RV.d (dQ (zQ8 w h))); tU4 (((decide (w≥1))=true→tU4 (((decide (h≥1))=true→tU2 ((h≠0)∧tU3 (RV.d (dQ (decide (w≤(wK (Int.tdiv (16777216:Int) h)))))=RV.d (dQ (zQ8 w h)))))∧((decide (h≥1))=(!true)→tU2 a)))∧((decide (w≥1))=(!true)→tU4 a)))) ?_
  delta dQ wK
  simp only [sS,zQI,zQD]
  have:=@zWC w h
  grind [zQ8]
theorem zQQ (w h:Int):Ans prog 92 [rJ (w),rJ (h)] (RV.d (dQ (zQ8 w h))):=
 zQj (Γ:=gamI) Ann.leaf zQs Tryz.func92 rfl (nL rfl) fun hwf=>by
  refine Eq.mpr (by kernel_rfl:_=(let a:=(RV.d (dQ false)=RV.d (dQ (zQ8 w h))); tU4 (((decide (w≥1))=true→tU4 (((decide (h≥1))=true→tU4 (((decide (w≤16777216))=true→tU2 ((w≠0)∧tU3 (RV.d (dQ (decide (h≤(wK (Int.tdiv (16777216:Int) w)))))=RV.d (dQ (zQ8 w h)))))∧((decide (w≤16777216))=(!true)→tU2 a)))∧((decide (h≥1))=(!true)→tU4 a)))∧((decide (w≥1))=(!true)→tU6 a)))) ?_
  delta dQ wK
  simp only [sS,zQI,zQD,zZp]
  have h1:1≤w→1≤h→(h≤IntKind.wrap .i64 (Int.tdiv 16777216 w)↔w*h≤16777216):=fun a b=>by rw [zWC b a,Int.mul_comm]
  have h2:=@zXi w h
  grind [zQ8]
theorem zZv (w h s:Int):Ans prog 147 [rJ (w),rJ (h),rJ (s)] (rJ ((lenW w h s))):=
 zQj (Γ:=gamI) Ann.leaf zQs Tryz.func147 rfl (nL rfl) fun hwf=>by
  refine Eq.mpr (by kernel_rfl:_=(tU8 (rJ (wK ((wK ((wK (h - 1))*s))+w))=rJ (lenW w h s)))) ?_
  delta wK rJ
  simp only [sS,zQI,zQD,zZp,zQQ]
  simp [lenW]
theorem zZV (w h s:Int) (n:Nat) (xs:List DV):Ans prog 127 [RV.agg [dJ w,dJ h,dJ s,dS n xs]] (RV.d (dQ (zQZ w h s n))):=
 zQj (Γ:=gamI) Ann.leaf zQs Tryz.func127 rfl (nL rfl) fun hwf=>by
  refine Eq.mpr (by kernel_rfl:_=(let a:=((true=true)∧RV.d (dQ false)=RV.d (dQ (zQZ w h s n))); tU6 ((Ans prog 146 [rJ w,rJ h] (RV.d (dQ (zQ8 w h))))∧True∧(((zQ8 w h)=true→tU7 (((decide (s≥w))=true→tU5 (((decide (s≤16777216))=true→True∧tU8 ((Ans prog 147 [rJ w,rJ h,rJ s] (rJ (lenW w h s)))∧tU3 ((true=true)∧RV.d (dQ (decide ((n:Int)≥(lenW w h s))))=RV.d (dQ (zQZ w h s n)))))∧((decide (s≤16777216))=(!true)→tU2 a)))∧((decide (s≥w))=(!true)→tU4 a)))∧((zQ8 w h)=(!true)→tU6 a))))) ?_
  delta dQ rJ
  simp only [sS,zQI,zQD,zZp,zQQ,zZv]
  grind [zQZ]
theorem zZQ (w h s:Int) (n:Nat) (xs:List DV):Ans prog 129 [RV.agg [dJ w,dJ h,dJ s,dS n xs]] (RV.d (dQ (zQZ w h s n))):=
 zQj (Γ:=gamI) Ann.leaf zQs Tryz.func129 rfl (nL rfl) fun hwf=>by
  refine Eq.mpr (by kernel_rfl:_=(let a:=(RV.d (dQ false)=RV.d (dQ (zQZ w h s n))); tU6 ((Ans prog 92 [rJ w,rJ h] (RV.d (dQ (zQ8 w h))))∧True∧(((zQ8 w h)=true→tU7 (((decide (s≥w))=true→tU5 (((decide (s≤16777216))=true→tU7 (tU8 (RV.d (dQ (decide ((n:Int)≥(wK ((wK ((wK (h - 1))*s))+w)))))=RV.d (dQ (zQZ w h s n)))))∧((decide (s≤16777216))=(!true)→tU2 a)))∧((decide (s≥w))=(!true)→tU4 a)))∧((zQ8 w h)=(!true)→tU6 a))))) ?_
  delta dQ wK rJ
  simp only [sS,zQI,zQD,zZp,zQQ,zZv,zZV]
  grind [zQZ,lenW]
theorem zX2 (w h s:Int) (n:Nat) (xs:List DV):Ans prog 126 [RV.agg [dJ w,dJ h,dJ s,dS n xs]] (RV.d (dQ (zJm ⟨w,h,s,n,xs⟩))):=
 zQj (Γ:=gamI) Ann.leaf zQs Tryz.func126 rfl (nL rfl) fun hwf=>by
  refine Eq.mpr (by kernel_rfl:_=(let b:=(dQ (zJm ⟨w,h,s,n,xs⟩)); let a:=(RV.d (dQ false)=RV.d b); tU6 (((w==0)=true→tU5 (((h==0)=true→tU5 (((s==0)=true→tU6 (RV.d (dQ ((n:Int)==0))=RV.d b))∧((s==0)=(!true)→tU2 a)))∧((h==0)=(!true)→tU4 a)))∧((w==0)=(!true)→tU6 a)))) ?_
  delta dQ
  simp only [sS,zQI,zQD,zZp,zQQ,zZv,zZV,zZQ]
  simp [zJm]; grind
theorem zQT (c0 c1 c2 ca cf most:Int):Ans prog 122 [RV.agg [dK c0,dK c1,dK c2,dK ca,dK cf],RV.d (dK most)] (RV.d (dQ (Px.ok ⟨c0,c1,c2,ca,cf⟩ most))):=
 zQj (Γ:=gamI) (let a:=(2,AV.one (Cl.ptr 2 0)); let e:=(Ann.seq Ann.leaf (Ann.seq (Ann.sure true Ann.leaf) Ann.leaf)); let b:=(1,AV.one (cK most)); let c:=(8,AV.agg [cK c0,cK c1,cK c2]); let d:=[(2,bC [cK c0,cK c1,cK c2,cK ca,cK cf])]; (Ann.seq Ann.leaf (Ann.seq (Ann.seq Ann.leaf (Ann.link ⟨Unit,fun _u=>True,fun _u=>⟨[b,a,c,(9,aJ 0)],d⟩,fun _u=>0⟩ (fun _u=>e) (Ann.link ⟨Unit,fun _u=>(c0≤ca)∧True,fun _u=>⟨[b,a,c,(9,aJ 1)],d⟩,fun _u=>0⟩ (fun _u=>e) (Ann.link ⟨Unit,fun _u=>(c0≤ca)∧(c1≤ca)∧True,fun _u=>⟨[b,a,c,(9,aJ 2)],d⟩,fun _u=>0⟩ (fun _u=>e) (Ann.link ⟨Unit,fun _u=>(c0≤ca)∧(c1≤ca)∧(c2≤ca)∧True,fun _u=>⟨[b,a,c,(9,aJ 3)],d⟩,fun _u=>0⟩ (fun _u=>(Ann.seq Ann.leaf (Ann.seq (Ann.sure false Ann.leaf) Ann.leaf))) Ann.leaf))))) Ann.leaf))) zQs Tryz.func122 rfl (nL rfl) fun hwf=>by
  refine Eq.mpr (by kernel_rfl:_=(let b:=(dK most=dK most); let e:=[dK c0,dK c1,dK c2]; let c:=(e=e); let f:=[dK c0,dK c1,dK c2,dK ca,dK cf]; let d:=((f=f)∧True); let a:=(dQ (Px.ok ⟨c0,c1,c2,ca,cf⟩ most)); let g:=((c0≤ca)∧(c1≤ca)∧True); let h:=((c0≤ca)∧(c1≤ca)∧(c2≤ca)∧True); tU5 ((∃ _u:Unit,True∧((b∧(0=0)∧c∧(dJ 0=dJ 0)∧True)∧d))∧((∀ _u:Unit,True→True∧(decide ((0:Int) < 3)=true∧(0≤(0:Int)∧(0:Int) < ((3:Nat):Int)∧(some (dK c0)=some (dK c0))∧True)∧tU5 (((decide (c0 > ca))=true→True∧RV.d (dQ false)=RV.d a)∧((decide (c0 > ca))=false→tU2 (∃ _u:Unit,((c0≤ca)∧True)∧((b∧(0=0)∧c∧(dJ (wK ((0:Int)+1))=dJ 1)∧True)∧d))))))∧(∀ _u:Unit,((c0≤ca)∧True)→True∧(decide ((1:Int) < 3)=true∧(0≤(1:Int)∧(1:Int) < ((3:Nat):Int)∧(some (dK c1)=some (dK c1))∧True)∧tU5 (((decide (c1 > ca))=true→True∧RV.d (dQ false)=RV.d a)∧((decide (c1 > ca))=false→tU2 (∃ _u:Unit,g∧((b∧(0=0)∧c∧(dJ (wK ((1:Int)+1))=dJ 2)∧True)∧d))))))∧(∀ _u:Unit,g→True∧(decide ((2:Int) < 3)=true∧(0≤(2:Int)∧(2:Int) < ((3:Nat):Int)∧(some (dK c2)=some (dK c2))∧True)∧tU5 (((decide (c2 > ca))=true→True∧RV.d (dQ false)=RV.d a)∧((decide (c2 > ca))=false→tU2 (∃ _u:Unit,h∧((b∧(0=0)∧c∧(dJ (wK ((2:Int)+1))=dJ 3)∧True)∧d))))))∧(∀ _u:Unit,h→True∧(decide ((3:Int) < 3)=false∧tU6 (((decide (ca≤cf))=true→tU6 (RV.d (dQ (decide (cf≤most)))=RV.d a))∧((decide (ca≤cf))=(!true)→tU2 (RV.d (dQ false)=RV.d a)))))∧True)))) ?_
  delta dJ dK dQ wK
  simp only [sS,zQI,zQD,zZp,zQQ,zZv,zZV,zZQ,zX2]
  simp [Px.ok,w1_]; grind
theorem zQL (w h:Int) (so:Bool) (c0 c1 c2 ca cf w0 h0 s0:Int) (n0:Nat) (xs0:List DV) (w1 h1 s1:Int) (n1:Nat) (xs1:List DV) (w2 h2 s2:Int) (n2:Nat) (xs2:List DV) (w3 h3 s3:Int) (n3:Nat) (xs3:List DV) (w4 h4 s4:Int) (n4:Nat) (xs4:List DV):Ans prog 99 [RV.agg [dJ w,dJ h,dQ so,dK c0,dK c1,dK c2,dK ca,dK cf,dJ w0,dJ h0,dJ s0,dS n0 xs0,dJ w1,dJ h1,dJ s1,dS n1 xs1,dJ w2,dJ h2,dJ s2,dS n2 xs2,dJ w3,dJ h3,dJ s3,dS n3 xs3,dJ w4,dJ h4,dJ s4,dS n4 xs4]] (RV.d (dQ (Im.formed ⟨w,h,so,⟨c0,c1,c2,ca,cf⟩,⟨w0,h0,s0,n0,xs0⟩,⟨w1,h1,s1,n1,xs1⟩,⟨w2,h2,s2,n2,xs2⟩,⟨w3,h3,s3,n3,xs3⟩,⟨w4,h4,s4,n4,xs4⟩⟩))):=
 zQj (Γ:=gamI) (let a:=(zQ8 w h=true); let b:=(1,AV.one (Cl.ptr 1 0)); let f:=(Ann.seq Ann.leaf (Ann.seq (Ann.sure true Ann.leaf) Ann.leaf)); let c:=(so=true∨Px.mk c0 c1 c2 ca cf=Px.zero); let d:=(23,AV.agg [cJ w0,cJ h0,cJ s0,Cl.d (dS n0 xs0),cJ w1,cJ h1,cJ s1,Cl.d (dS n1 xs1),cJ w2,cJ h2,cJ s2,Cl.d (dS n2 xs2),cJ w3,cJ h3,cJ s3,Cl.d (dS n3 xs3),cJ w4,cJ h4,cJ s4,Cl.d (dS n4 xs4)]); let e:=[(1,bC [cJ w,cJ h,Cl.d (dQ so),cK c0,cK c1,cK c2,cK ca,cK cf,cJ w0,cJ h0,cJ s0,Cl.d (dS n0 xs0),cJ w1,cJ h1,cJ s1,Cl.d (dS n1 xs1),cJ w2,cJ h2,cJ s2,Cl.d (dS n2 xs2),cJ w3,cJ h3,cJ s3,Cl.d (dS n3 xs3),cJ w4,cJ h4,cJ s4,Cl.d (dS n4 xs4)])]; (Ann.seq Ann.leaf (Ann.seq Ann.leaf (Ann.seq (Ann.seq Ann.leaf (Ann.link ⟨Unit,fun _u=>a∧c∧True,fun _u=>⟨[b,d,(24,aJ 0)],e⟩,fun _u=>0⟩ (fun _u=>f) (Ann.link ⟨Unit,fun _u=>a∧c∧okPl so w h ⟨w0,h0,s0,n0,xs0⟩=true∧True,fun _u=>⟨[b,d,(24,aJ 1)],e⟩,fun _u=>0⟩ (fun _u=>f) (Ann.link ⟨Unit,fun _u=>a∧c∧okPl so w h ⟨w0,h0,s0,n0,xs0⟩=true∧okPl so w h ⟨w1,h1,s1,n1,xs1⟩=true∧True,fun _u=>⟨[b,d,(24,aJ 2)],e⟩,fun _u=>0⟩ (fun _u=>f) (Ann.link ⟨Unit,fun _u=>a∧c∧okPl so w h ⟨w0,h0,s0,n0,xs0⟩=true∧okPl so w h ⟨w1,h1,s1,n1,xs1⟩=true∧okPl so w h ⟨w2,h2,s2,n2,xs2⟩=true∧True,fun _u=>⟨[b,d,(24,aJ 3)],e⟩,fun _u=>0⟩ (fun _u=>f) (Ann.link ⟨Unit,fun _u=>a∧c∧okPl so w h ⟨w0,h0,s0,n0,xs0⟩=true∧okPl so w h ⟨w1,h1,s1,n1,xs1⟩=true∧okPl so w h ⟨w2,h2,s2,n2,xs2⟩=true∧okPl so w h ⟨w3,h3,s3,n3,xs3⟩=true∧True,fun _u=>⟨[b,d,(24,aJ 4)],e⟩,fun _u=>0⟩ (fun _u=>f) (Ann.link ⟨Unit,fun _u=>a∧c∧okPl so w h ⟨w0,h0,s0,n0,xs0⟩=true∧okPl so w h ⟨w1,h1,s1,n1,xs1⟩=true∧okPl so w h ⟨w2,h2,s2,n2,xs2⟩=true∧okPl so w h ⟨w3,h3,s3,n3,xs3⟩=true∧okPl so w h ⟨w4,h4,s4,n4,xs4⟩=true∧True,fun _u=>⟨[b,d,(24,aJ 5)],e⟩,fun _u=>0⟩ (fun _u=>(Ann.seq Ann.leaf (Ann.seq (Ann.sure false Ann.leaf) Ann.leaf))) Ann.leaf))))))) Ann.leaf)))) zQs Tryz.func99 rfl (nL rfl) fun hwf=>by
  refine Eq.mpr (by kernel_rfl:_=(let Y:=(some (dS n4 xs4)=some (dS n4 xs4)); let Z:=(some (dS n3 xs3)=some (dS n3 xs3)); let z0:=(some (dS n2 xs2)=some (dS n2 xs2)); let z1:=(some (dS n1 xs1)=some (dS n1 xs1)); let z2:=(some (dS n0 xs0)=some (dS n0 xs0)); let o:=(zQ8 w h=true); let z3:=(!(((c0==0) && ((c1==0) && ((c2==0) && true))) && ((ca==0) && ((cf==0) && true)))); let b:=((5:Nat):Int); let s:=(!(zQZ w4 h4 s4 n4)); let t:=(!(zQZ w3 h3 s3 n3)); let u:=(!(zQZ w2 h2 s2 n2)); let v:=(!(zQZ w1 h1 s1 n1)); let x:=(!(zQZ w0 h0 s0 n0)); let y:=(zJm ⟨w0,h0,s0,n0,xs0⟩); let z:=(zJm ⟨w1,h1,s1,n1,xs1⟩); let A:=(zJm ⟨w2,h2,s2,n2,xs2⟩); let B:=(zJm ⟨w3,h3,s3,n3,xs3⟩); let C:=(zJm ⟨w4,h4,s4,n4,xs4⟩); let x3:=(RV.d (dQ (zQZ w0 h0 s0 n0))); let x4:=(RV.d (dQ (zQZ w1 h1 s1 n1))); let x5:=(RV.d (dQ (zQZ w2 h2 s2 n2))); let x6:=(RV.d (dQ (zQZ w3 h3 s3 n3))); let x7:=(RV.d (dQ (zQZ w4 h4 s4 n4))); let i:=(dQ (Im.formed ⟨w,h,so,⟨c0,c1,c2,ca,cf⟩,⟨w0,h0,s0,n0,xs0⟩,⟨w1,h1,s1,n1,xs1⟩,⟨w2,h2,s2,n2,xs2⟩,⟨w3,h3,s3,n3,xs3⟩,⟨w4,h4,s4,n4,xs4⟩⟩)); let z4:=(decide ((5:Int) < 5)=false∧True∧RV.d (dQ true)=RV.d i); let D:=((h4 != h)=true→True∧RV.d (dQ false)=RV.d i); let E:=((h3 != h)=true→True∧RV.d (dQ false)=RV.d i); let F:=((h2 != h)=true→True∧RV.d (dQ false)=RV.d i); let G:=((h1 != h)=true→True∧RV.d (dQ false)=RV.d i); let H:=((h0 != h)=true→True∧RV.d (dQ false)=RV.d i); let a:=(RV.d (dQ false)=RV.d i); let z5:=((!C)=(!false)→tU2 a); let z6:=((!B)=(!false)→tU2 a); let z7:=((!A)=(!false)→tU2 a); let z8:=((!z)=(!false)→tU2 a); let z9:=((!y)=(!false)→tU2 a); let I:=(s=(!false)→tU6 a); let J:=(t=(!false)→tU6 a); let K:=(u=(!false)→tU6 a); let L:=(v=(!false)→tU6 a); let M:=(x=(!false)→tU6 a); let N:=((w4 != w)=(!false)→tU4 a); let O:=((w3 != w)=(!false)→tU4 a); let P:=((w2 != w)=(!false)→tU4 a); let Q:=((w1 != w)=(!false)→tU4 a); let R:=((w0 != w)=(!false)→tU4 a); let p:=(so=true∨Px.mk c0 c1 c2 ca cf=Px.zero); let S:=(o∧p∧True); let y0:=[dJ w0,dJ h0,dJ s0,dS n0 xs0,dJ w1,dJ h1,dJ s1,dS n1 xs1,dJ w2,dJ h2,dJ s2,dS n2 xs2,dJ w3,dJ h3,dJ s3,dS n3 xs3,dJ w4,dJ h4,dJ s4,dS n4 xs4]; let q:=(y0=y0); let y1:=[dJ w,dJ h,dQ so,dK c0,dK c1,dK c2,dK ca,dK cf,dJ w0,dJ h0,dJ s0,dS n0 xs0,dJ w1,dJ h1,dJ s1,dS n1 xs1,dJ w2,dJ h2,dJ s2,dS n2 xs2,dJ w3,dJ h3,dJ s3,dS n3 xs3,dJ w4,dJ h4,dJ s4,dS n4 xs4]; let r:=((y1=y1)∧True); let y2:=(((0=0)∧q∧(dJ 0=dJ 0)∧True)∧r); let y3:=[RV.agg [dJ w0,dJ h0,dJ s0,dS n0 xs0]]; let y4:=(Ans prog 126 y3 (RV.d (dQ y))); let T:=(Ans prog 127 y3 x3); let c:=(o∧p∧okPl so w h ⟨w0,h0,s0,n0,xs0⟩=true∧True); let j:=(((0=0)∧q∧(dJ (wK ((0:Int)+1))=dJ 1)∧True)∧r); let y5:=[RV.agg [dJ w1,dJ h1,dJ s1,dS n1 xs1]]; let y6:=(Ans prog 126 y5 (RV.d (dQ z))); let U:=(Ans prog 127 y5 x4); let d:=(o∧p∧okPl so w h ⟨w0,h0,s0,n0,xs0⟩=true∧okPl so w h ⟨w1,h1,s1,n1,xs1⟩=true∧True); let k:=(((0=0)∧q∧(dJ (wK ((1:Int)+1))=dJ 2)∧True)∧r); let y7:=[RV.agg [dJ w2,dJ h2,dJ s2,dS n2 xs2]]; let y8:=(Ans prog 126 y7 (RV.d (dQ A))); let V:=(Ans prog 127 y7 x5); let e:=(o∧p∧okPl so w h ⟨w0,h0,s0,n0,xs0⟩=true∧okPl so w h ⟨w1,h1,s1,n1,xs1⟩=true∧okPl so w h ⟨w2,h2,s2,n2,xs2⟩=true∧True); let l:=(((0=0)∧q∧(dJ (wK ((2:Int)+1))=dJ 3)∧True)∧r); let y9:=[RV.agg [dJ w3,dJ h3,dJ s3,dS n3 xs3]]; let x0:=(Ans prog 126 y9 (RV.d (dQ B))); let W:=(Ans prog 127 y9 x6); let f:=(o∧p∧okPl so w h ⟨w0,h0,s0,n0,xs0⟩=true∧okPl so w h ⟨w1,h1,s1,n1,xs1⟩=true∧okPl so w h ⟨w2,h2,s2,n2,xs2⟩=true∧okPl so w h ⟨w3,h3,s3,n3,xs3⟩=true∧True); let m:=(((0=0)∧q∧(dJ (wK ((3:Int)+1))=dJ 4)∧True)∧r); let x1:=[RV.agg [dJ w4,dJ h4,dJ s4,dS n4 xs4]]; let x2:=(Ans prog 126 x1 (RV.d (dQ C))); let X:=(Ans prog 127 x1 x7); let g:=(o∧p∧okPl so w h ⟨w0,h0,s0,n0,xs0⟩=true∧okPl so w h ⟨w1,h1,s1,n1,xs1⟩=true∧okPl so w h ⟨w2,h2,s2,n2,xs2⟩=true∧okPl so w h ⟨w3,h3,s3,n3,xs3⟩=true∧okPl so w h ⟨w4,h4,s4,n4,xs4⟩=true∧True); let n:=(((0=0)∧q∧(dJ (wK ((4:Int)+1))=dJ 5)∧True)∧r); tU6 ((Ans prog 125 [rJ w,rJ h] (RV.d (dQ (zQ8 w h))))∧tU2 (((!(zQ8 w h))=false→tU4 (((!so)=true→tU6 ((z3=true→True∧RV.d (dQ false)=RV.d i)∧(z3=false→tU3 ((∃ _u:Unit,S∧y2)∧((∀ _u:Unit,S→True∧(decide ((0:Int) < 5)=true∧(0≤(0:Int)∧(0:Int) < b∧(some (dJ w0)=some (dJ w0))∧(some (dJ h0)=some (dJ h0))∧(some (dJ s0)=some (dJ s0))∧z2∧True)∧tU5 ((so=true→True∧y4∧tU3 (((!y)=false→tU4 (((!so)=true→True∧T∧tU2 ((x=false→tU7 (((w0 != w)=false→tU8 (H∧((h0 != h)=false→tU2 (∃ _u:Unit,c∧j))))∧R))∧M))∧((!so)=(!true)→tU4 (∃ _u:Unit,c∧j))))∧z9))∧(so=(!true)→tU6 (((!so)=true→True∧T∧tU2 ((x=false→tU7 (((w0 != w)=false→tU8 (H∧((h0 != h)=false→tU2 (∃ _u:Unit,c∧j))))∧R))∧M))∧((!so)=(!true)→tU4 (∃ _u:Unit,c∧j)))))))∧(∀ _u:Unit,c→True∧(decide ((1:Int) < 5)=true∧(0≤(1:Int)∧(1:Int) < b∧(some (dJ w1)=some (dJ w1))∧(some (dJ h1)=some (dJ h1))∧(some (dJ s1)=some (dJ s1))∧z1∧True)∧tU5 ((so=true→True∧y6∧tU3 (((!z)=false→tU4 (((!so)=true→True∧U∧tU2 ((v=false→tU7 (((w1 != w)=false→tU8 (G∧((h1 != h)=false→tU2 (∃ _u:Unit,d∧k))))∧Q))∧L))∧((!so)=(!true)→tU4 (∃ _u:Unit,d∧k))))∧z8))∧(so=(!true)→tU6 (((!so)=true→True∧U∧tU2 ((v=false→tU7 (((w1 != w)=false→tU8 (G∧((h1 != h)=false→tU2 (∃ _u:Unit,d∧k))))∧Q))∧L))∧((!so)=(!true)→tU4 (∃ _u:Unit,d∧k)))))))∧(∀ _u:Unit,d→True∧(decide ((2:Int) < 5)=true∧(0≤(2:Int)∧(2:Int) < b∧(some (dJ w2)=some (dJ w2))∧(some (dJ h2)=some (dJ h2))∧(some (dJ s2)=some (dJ s2))∧z0∧True)∧tU5 ((so=true→True∧y8∧tU3 (((!A)=false→tU4 (((!so)=true→True∧V∧tU2 ((u=false→tU7 (((w2 != w)=false→tU8 (F∧((h2 != h)=false→tU2 (∃ _u:Unit,e∧l))))∧P))∧K))∧((!so)=(!true)→tU4 (∃ _u:Unit,e∧l))))∧z7))∧(so=(!true)→tU6 (((!so)=true→True∧V∧tU2 ((u=false→tU7 (((w2 != w)=false→tU8 (F∧((h2 != h)=false→tU2 (∃ _u:Unit,e∧l))))∧P))∧K))∧((!so)=(!true)→tU4 (∃ _u:Unit,e∧l)))))))∧(∀ _u:Unit,e→True∧(decide ((3:Int) < 5)=true∧(0≤(3:Int)∧(3:Int) < b∧(some (dJ w3)=some (dJ w3))∧(some (dJ h3)=some (dJ h3))∧(some (dJ s3)=some (dJ s3))∧Z∧True)∧tU5 ((so=true→True∧x0∧tU3 (((!B)=false→tU4 (((!so)=true→True∧W∧tU2 ((t=false→tU7 (((w3 != w)=false→tU8 (E∧((h3 != h)=false→tU2 (∃ _u:Unit,f∧m))))∧O))∧J))∧((!so)=(!true)→tU4 (∃ _u:Unit,f∧m))))∧z6))∧(so=(!true)→tU6 (((!so)=true→True∧W∧tU2 ((t=false→tU7 (((w3 != w)=false→tU8 (E∧((h3 != h)=false→tU2 (∃ _u:Unit,f∧m))))∧O))∧J))∧((!so)=(!true)→tU4 (∃ _u:Unit,f∧m)))))))∧(∀ _u:Unit,f→True∧(decide ((4:Int) < 5)=true∧(0≤(4:Int)∧(4:Int) < b∧(some (dJ w4)=some (dJ w4))∧(some (dJ h4)=some (dJ h4))∧(some (dJ s4)=some (dJ s4))∧Y∧True)∧tU5 ((so=true→True∧x2∧tU3 (((!C)=false→tU4 (((!so)=true→True∧X∧tU2 ((s=false→tU7 (((w4 != w)=false→tU8 (D∧((h4 != h)=false→tU2 (∃ _u:Unit,g∧n))))∧N))∧I))∧((!so)=(!true)→tU4 (∃ _u:Unit,g∧n))))∧z5))∧(so=(!true)→tU6 (((!so)=true→True∧X∧tU2 ((s=false→tU7 (((w4 != w)=false→tU8 (D∧((h4 != h)=false→tU2 (∃ _u:Unit,g∧n))))∧N))∧I))∧((!so)=(!true)→tU4 (∃ _u:Unit,g∧n)))))))∧(∀ _u:Unit,g→True∧z4)∧True)))))∧((!so)=(!true)→tU5 ((∃ _u:Unit,S∧y2)∧((∀ _u:Unit,S→True∧(decide ((0:Int) < 5)=true∧(0≤(0:Int)∧(0:Int) < b∧(some (dJ w0)=some (dJ w0))∧(some (dJ h0)=some (dJ h0))∧(some (dJ s0)=some (dJ s0))∧z2∧True)∧tU5 ((so=true→True∧y4∧tU3 (((!y)=false→tU4 (((!so)=true→True∧T∧tU2 ((x=false→tU7 (((w0 != w)=false→tU8 (H∧((h0 != h)=false→tU2 (∃ _u:Unit,c∧j))))∧R))∧M))∧((!so)=(!true)→tU4 (∃ _u:Unit,c∧j))))∧z9))∧(so=(!true)→tU6 (((!so)=true→True∧T∧tU2 ((x=false→tU7 (((w0 != w)=false→tU8 (H∧((h0 != h)=false→tU2 (∃ _u:Unit,c∧j))))∧R))∧M))∧((!so)=(!true)→tU4 (∃ _u:Unit,c∧j)))))))∧(∀ _u:Unit,c→True∧(decide ((1:Int) < 5)=true∧(0≤(1:Int)∧(1:Int) < b∧(some (dJ w1)=some (dJ w1))∧(some (dJ h1)=some (dJ h1))∧(some (dJ s1)=some (dJ s1))∧z1∧True)∧tU5 ((so=true→True∧y6∧tU3 (((!z)=false→tU4 (((!so)=true→True∧U∧tU2 ((v=false→tU7 (((w1 != w)=false→tU8 (G∧((h1 != h)=false→tU2 (∃ _u:Unit,d∧k))))∧Q))∧L))∧((!so)=(!true)→tU4 (∃ _u:Unit,d∧k))))∧z8))∧(so=(!true)→tU6 (((!so)=true→True∧U∧tU2 ((v=false→tU7 (((w1 != w)=false→tU8 (G∧((h1 != h)=false→tU2 (∃ _u:Unit,d∧k))))∧Q))∧L))∧((!so)=(!true)→tU4 (∃ _u:Unit,d∧k)))))))∧(∀ _u:Unit,d→True∧(decide ((2:Int) < 5)=true∧(0≤(2:Int)∧(2:Int) < b∧(some (dJ w2)=some (dJ w2))∧(some (dJ h2)=some (dJ h2))∧(some (dJ s2)=some (dJ s2))∧z0∧True)∧tU5 ((so=true→True∧y8∧tU3 (((!A)=false→tU4 (((!so)=true→True∧V∧tU2 ((u=false→tU7 (((w2 != w)=false→tU8 (F∧((h2 != h)=false→tU2 (∃ _u:Unit,e∧l))))∧P))∧K))∧((!so)=(!true)→tU4 (∃ _u:Unit,e∧l))))∧z7))∧(so=(!true)→tU6 (((!so)=true→True∧V∧tU2 ((u=false→tU7 (((w2 != w)=false→tU8 (F∧((h2 != h)=false→tU2 (∃ _u:Unit,e∧l))))∧P))∧K))∧((!so)=(!true)→tU4 (∃ _u:Unit,e∧l)))))))∧(∀ _u:Unit,e→True∧(decide ((3:Int) < 5)=true∧(0≤(3:Int)∧(3:Int) < b∧(some (dJ w3)=some (dJ w3))∧(some (dJ h3)=some (dJ h3))∧(some (dJ s3)=some (dJ s3))∧Z∧True)∧tU5 ((so=true→True∧x0∧tU3 (((!B)=false→tU4 (((!so)=true→True∧W∧tU2 ((t=false→tU7 (((w3 != w)=false→tU8 (E∧((h3 != h)=false→tU2 (∃ _u:Unit,f∧m))))∧O))∧J))∧((!so)=(!true)→tU4 (∃ _u:Unit,f∧m))))∧z6))∧(so=(!true)→tU6 (((!so)=true→True∧W∧tU2 ((t=false→tU7 (((w3 != w)=false→tU8 (E∧((h3 != h)=false→tU2 (∃ _u:Unit,f∧m))))∧O))∧J))∧((!so)=(!true)→tU4 (∃ _u:Unit,f∧m)))))))∧(∀ _u:Unit,f→True∧(decide ((4:Int) < 5)=true∧(0≤(4:Int)∧(4:Int) < b∧(some (dJ w4)=some (dJ w4))∧(some (dJ h4)=some (dJ h4))∧(some (dJ s4)=some (dJ s4))∧Y∧True)∧tU5 ((so=true→True∧x2∧tU3 (((!C)=false→tU4 (((!so)=true→True∧X∧tU2 ((s=false→tU7 (((w4 != w)=false→tU8 (D∧((h4 != h)=false→tU2 (∃ _u:Unit,g∧n))))∧N))∧I))∧((!so)=(!true)→tU4 (∃ _u:Unit,g∧n))))∧z5))∧(so=(!true)→tU6 (((!so)=true→True∧X∧tU2 ((s=false→tU7 (((w4 != w)=false→tU8 (D∧((h4 != h)=false→tU2 (∃ _u:Unit,g∧n))))∧N))∧I))∧((!so)=(!true)→tU4 (∃ _u:Unit,g∧n)))))))∧(∀ _u:Unit,g→True∧z4)∧True)))))∧((!(zQ8 w h))=(!false)→tU2 a))))) ?_
  delta dJ dK dQ wK dS rJ
  simp only [sS,zQI,zQD,zZp,zQQ,zZv,zZV,zZQ,zX2,zQT]
  cases so <;> simp [w1_,Im.formed,Im.inner,okPl,Px.zero] <;> (repeat' (first | apply And.intro | intro)) <;> (first | assumption | (simp_all; done) | grind)
theorem zQV (w h:Int) (so:Bool) (c0 c1 c2 ca cf w0 h0 s0:Int) (n0:Nat) (xs0:List DV) (w1 h1 s1:Int) (n1:Nat) (xs1:List DV) (w2 h2 s2:Int) (n2:Nat) (xs2:List DV) (w3 h3 s3:Int) (n3:Nat) (xs3:List DV) (w4 h4 s4:Int) (n4:Nat) (xs4:List DV):Ans prog 102 [RV.agg [dJ w,dJ h,dQ so,dK c0,dK c1,dK c2,dK ca,dK cf,dJ w0,dJ h0,dJ s0,dS n0 xs0,dJ w1,dJ h1,dJ s1,dS n1 xs1,dJ w2,dJ h2,dJ s2,dS n2 xs2,dJ w3,dJ h3,dJ s3,dS n3 xs3,dJ w4,dJ h4,dJ s4,dS n4 xs4]] (RV.d (dQ (Im.inner ⟨w,h,so,⟨c0,c1,c2,ca,cf⟩,⟨w0,h0,s0,n0,xs0⟩,⟨w1,h1,s1,n1,xs1⟩,⟨w2,h2,s2,n2,xs2⟩,⟨w3,h3,s3,n3,xs3⟩,⟨w4,h4,s4,n4,xs4⟩⟩))):=
 zQj (Γ:=gamI) (let a:=(1,AV.one (Cl.ptr 1 0)); let c:=(Ann.seq (Ann.seq Ann.leaf (Ann.sure true Ann.leaf)) Ann.leaf); let b:=[(1,bC [cJ w,cJ h,Cl.d (dQ so),cK c0,cK c1,cK c2,cK ca,cK cf,cJ w0,cJ h0,cJ s0,Cl.d (dS n0 xs0),cJ w1,cJ h1,cJ s1,Cl.d (dS n1 xs1),cJ w2,cJ h2,cJ s2,Cl.d (dS n2 xs2),cJ w3,cJ h3,cJ s3,Cl.d (dS n3 xs3),cJ w4,cJ h4,cJ s4,Cl.d (dS n4 xs4)])]; (Ann.seq Ann.leaf (Ann.seq (Ann.seq Ann.leaf (Ann.link ⟨Unit,fun _u=>True,fun _u=>⟨[a,(3,aJ 0)],b⟩,fun _u=>0⟩ (fun _u=>c) (Ann.link ⟨Unit,fun _u=>okPl so w h ⟨w0,h0,s0,n0,xs0⟩=true∧True,fun _u=>⟨[a,(3,aJ 1)],b⟩,fun _u=>0⟩ (fun _u=>c) (Ann.link ⟨Unit,fun _u=>okPl so w h ⟨w0,h0,s0,n0,xs0⟩=true∧okPl so w h ⟨w1,h1,s1,n1,xs1⟩=true∧True,fun _u=>⟨[a,(3,aJ 2)],b⟩,fun _u=>0⟩ (fun _u=>c) (Ann.link ⟨Unit,fun _u=>okPl so w h ⟨w0,h0,s0,n0,xs0⟩=true∧okPl so w h ⟨w1,h1,s1,n1,xs1⟩=true∧okPl so w h ⟨w2,h2,s2,n2,xs2⟩=true∧True,fun _u=>⟨[a,(3,aJ 3)],b⟩,fun _u=>0⟩ (fun _u=>c) (Ann.link ⟨Unit,fun _u=>okPl so w h ⟨w0,h0,s0,n0,xs0⟩=true∧okPl so w h ⟨w1,h1,s1,n1,xs1⟩=true∧okPl so w h ⟨w2,h2,s2,n2,xs2⟩=true∧okPl so w h ⟨w3,h3,s3,n3,xs3⟩=true∧True,fun _u=>⟨[a,(3,aJ 4)],b⟩,fun _u=>0⟩ (fun _u=>c) (Ann.link ⟨Unit,fun _u=>okPl so w h ⟨w0,h0,s0,n0,xs0⟩=true∧okPl so w h ⟨w1,h1,s1,n1,xs1⟩=true∧okPl so w h ⟨w2,h2,s2,n2,xs2⟩=true∧okPl so w h ⟨w3,h3,s3,n3,xs3⟩=true∧okPl so w h ⟨w4,h4,s4,n4,xs4⟩=true∧True,fun _u=>⟨[a,(3,aJ 5)],b⟩,fun _u=>0⟩ (fun _u=>(Ann.seq (Ann.seq Ann.leaf (Ann.sure false Ann.leaf)) Ann.leaf)) Ann.leaf))))))) Ann.leaf))) zQs Tryz.func102 rfl (nL rfl) fun hwf=>by
  refine Eq.mpr (by kernel_rfl:_=(let d:=((5:Nat):Int); let p:=(!(zQZ w4 h4 s4 n4)); let q:=(!(zQZ w3 h3 s3 n3)); let r:=(!(zQZ w2 h2 s2 n2)); let s:=(!(zQZ w1 h1 s1 n1)); let t:=(!(zQZ w0 h0 s0 n0)); let u:=(Ans prog 129 [RV.agg [dJ w4,dJ h4,dJ s4,dS n4 xs4]] (RV.d (dQ (zQZ w4 h4 s4 n4)))); let v:=(Ans prog 129 [RV.agg [dJ w3,dJ h3,dJ s3,dS n3 xs3]] (RV.d (dQ (zQZ w3 h3 s3 n3)))); let x:=(Ans prog 129 [RV.agg [dJ w2,dJ h2,dJ s2,dS n2 xs2]] (RV.d (dQ (zQZ w2 h2 s2 n2)))); let y:=(Ans prog 129 [RV.agg [dJ w1,dJ h1,dJ s1,dS n1 xs1]] (RV.d (dQ (zQZ w1 h1 s1 n1)))); let z:=(Ans prog 129 [RV.agg [dJ w0,dJ h0,dJ s0,dS n0 xs0]] (RV.d (dQ (zQZ w0 h0 s0 n0)))); let A:=[dJ w,dJ h,dQ so,dK c0,dK c1,dK c2,dK ca,dK cf,dJ w0,dJ h0,dJ s0,dS n0 xs0,dJ w1,dJ h1,dJ s1,dS n1 xs1,dJ w2,dJ h2,dJ s2,dS n2 xs2,dJ w3,dJ h3,dJ s3,dS n3 xs3,dJ w4,dJ h4,dJ s4,dS n4 xs4]; let c:=((A=A)∧True); let b:=(dQ (Im.inner ⟨w,h,so,⟨c0,c1,c2,ca,cf⟩,⟨w0,h0,s0,n0,xs0⟩,⟨w1,h1,s1,n1,xs1⟩,⟨w2,h2,s2,n2,xs2⟩,⟨w3,h3,s3,n3,xs3⟩,⟨w4,h4,s4,n4,xs4⟩⟩)); let B:=((h4 != h)=true→True∧RV.d (dQ false)=RV.d b); let C:=((h3 != h)=true→True∧RV.d (dQ false)=RV.d b); let D:=((h2 != h)=true→True∧RV.d (dQ false)=RV.d b); let E:=((h1 != h)=true→True∧RV.d (dQ false)=RV.d b); let F:=((h0 != h)=true→True∧RV.d (dQ false)=RV.d b); let a:=(RV.d (dQ false)=RV.d b); let G:=(p=(!false)→tU5 a); let H:=(q=(!false)→tU5 a); let I:=(r=(!false)→tU5 a); let J:=(s=(!false)→tU5 a); let K:=(t=(!false)→tU5 a); let L:=((w4 != w)=(!false)→tU3 a); let M:=((w3 != w)=(!false)→tU3 a); let N:=((w2 != w)=(!false)→tU3 a); let O:=((w1 != w)=(!false)→tU3 a); let P:=((w0 != w)=(!false)→tU3 a); let e:=(okPl so w h ⟨w0,h0,s0,n0,xs0⟩=true∧True); let k:=(((0=0)∧(dJ (wK ((0:Int)+1))=dJ 1)∧True)∧c); let f:=(okPl so w h ⟨w0,h0,s0,n0,xs0⟩=true∧okPl so w h ⟨w1,h1,s1,n1,xs1⟩=true∧True); let l:=(((0=0)∧(dJ (wK ((1:Int)+1))=dJ 2)∧True)∧c); let g:=(okPl so w h ⟨w0,h0,s0,n0,xs0⟩=true∧okPl so w h ⟨w1,h1,s1,n1,xs1⟩=true∧okPl so w h ⟨w2,h2,s2,n2,xs2⟩=true∧True); let m:=(((0=0)∧(dJ (wK ((2:Int)+1))=dJ 3)∧True)∧c); let i:=(okPl so w h ⟨w0,h0,s0,n0,xs0⟩=true∧okPl so w h ⟨w1,h1,s1,n1,xs1⟩=true∧okPl so w h ⟨w2,h2,s2,n2,xs2⟩=true∧okPl so w h ⟨w3,h3,s3,n3,xs3⟩=true∧True); let n:=(((0=0)∧(dJ (wK ((3:Int)+1))=dJ 4)∧True)∧c); let j:=(okPl so w h ⟨w0,h0,s0,n0,xs0⟩=true∧okPl so w h ⟨w1,h1,s1,n1,xs1⟩=true∧okPl so w h ⟨w2,h2,s2,n2,xs2⟩=true∧okPl so w h ⟨w3,h3,s3,n3,xs3⟩=true∧okPl so w h ⟨w4,h4,s4,n4,xs4⟩=true∧True); let o:=(((0=0)∧(dJ (wK ((4:Int)+1))=dJ 5)∧True)∧c); tU3 ((∃ _u:Unit,True∧(((0=0)∧(dJ 0=dJ 0)∧True)∧c))∧((∀ _u:Unit,True→tU2 (decide ((0:Int) < 5)=true∧tU2 ((0≤(0:Int)∧(0:Int) < d)∧tU6 ((so=true→tU4 (((w0 != 0)=false→tU5 (((h0 != 0)=false→tU5 (((s0 != 0)=false→tU6 (((decide ((n0:Int) > 0))=true→True∧RV.d (dQ false)=RV.d b)∧((decide ((n0:Int) > 0))=false→tU4 (((!so)=true→True∧z∧tU2 ((t=false→tU7 (((w0 != w)=false→tU7 (F∧((h0 != h)=false→tU3 (∃ _u:Unit,e∧k))))∧P))∧K))∧((!so)=(!true)→tU4 (∃ _u:Unit,e∧k))))))∧((s0 != 0)=(!false)→tU3 a)))∧((h0 != 0)=(!false)→tU5 a)))∧((w0 != 0)=(!false)→tU7 a)))∧(so=(!true)→tU5 (((!so)=true→True∧z∧tU2 ((t=false→tU7 (((w0 != w)=false→tU7 (F∧((h0 != h)=false→tU3 (∃ _u:Unit,e∧k))))∧P))∧K))∧((!so)=(!true)→tU4 (∃ _u:Unit,e∧k))))))))∧(∀ _u:Unit,e→tU2 (decide ((1:Int) < 5)=true∧tU2 ((0≤(1:Int)∧(1:Int) < d)∧tU6 ((so=true→tU4 (((w1 != 0)=false→tU5 (((h1 != 0)=false→tU5 (((s1 != 0)=false→tU6 (((decide ((n1:Int) > 0))=true→True∧RV.d (dQ false)=RV.d b)∧((decide ((n1:Int) > 0))=false→tU4 (((!so)=true→True∧y∧tU2 ((s=false→tU7 (((w1 != w)=false→tU7 (E∧((h1 != h)=false→tU3 (∃ _u:Unit,f∧l))))∧O))∧J))∧((!so)=(!true)→tU4 (∃ _u:Unit,f∧l))))))∧((s1 != 0)=(!false)→tU3 a)))∧((h1 != 0)=(!false)→tU5 a)))∧((w1 != 0)=(!false)→tU7 a)))∧(so=(!true)→tU5 (((!so)=true→True∧y∧tU2 ((s=false→tU7 (((w1 != w)=false→tU7 (E∧((h1 != h)=false→tU3 (∃ _u:Unit,f∧l))))∧O))∧J))∧((!so)=(!true)→tU4 (∃ _u:Unit,f∧l))))))))∧(∀ _u:Unit,f→tU2 (decide ((2:Int) < 5)=true∧tU2 ((0≤(2:Int)∧(2:Int) < d)∧tU6 ((so=true→tU4 (((w2 != 0)=false→tU5 (((h2 != 0)=false→tU5 (((s2 != 0)=false→tU6 (((decide ((n2:Int) > 0))=true→True∧RV.d (dQ false)=RV.d b)∧((decide ((n2:Int) > 0))=false→tU4 (((!so)=true→True∧x∧tU2 ((r=false→tU7 (((w2 != w)=false→tU7 (D∧((h2 != h)=false→tU3 (∃ _u:Unit,g∧m))))∧N))∧I))∧((!so)=(!true)→tU4 (∃ _u:Unit,g∧m))))))∧((s2 != 0)=(!false)→tU3 a)))∧((h2 != 0)=(!false)→tU5 a)))∧((w2 != 0)=(!false)→tU7 a)))∧(so=(!true)→tU5 (((!so)=true→True∧x∧tU2 ((r=false→tU7 (((w2 != w)=false→tU7 (D∧((h2 != h)=false→tU3 (∃ _u:Unit,g∧m))))∧N))∧I))∧((!so)=(!true)→tU4 (∃ _u:Unit,g∧m))))))))∧(∀ _u:Unit,g→tU2 (decide ((3:Int) < 5)=true∧tU2 ((0≤(3:Int)∧(3:Int) < d)∧tU6 ((so=true→tU4 (((w3 != 0)=false→tU5 (((h3 != 0)=false→tU5 (((s3 != 0)=false→tU6 (((decide ((n3:Int) > 0))=true→True∧RV.d (dQ false)=RV.d b)∧((decide ((n3:Int) > 0))=false→tU4 (((!so)=true→True∧v∧tU2 ((q=false→tU7 (((w3 != w)=false→tU7 (C∧((h3 != h)=false→tU3 (∃ _u:Unit,i∧n))))∧M))∧H))∧((!so)=(!true)→tU4 (∃ _u:Unit,i∧n))))))∧((s3 != 0)=(!false)→tU3 a)))∧((h3 != 0)=(!false)→tU5 a)))∧((w3 != 0)=(!false)→tU7 a)))∧(so=(!true)→tU5 (((!so)=true→True∧v∧tU2 ((q=false→tU7 (((w3 != w)=false→tU7 (C∧((h3 != h)=false→tU3 (∃ _u:Unit,i∧n))))∧M))∧H))∧((!so)=(!true)→tU4 (∃ _u:Unit,i∧n))))))))∧(∀ _u:Unit,i→tU2 (decide ((4:Int) < 5)=true∧tU2 ((0≤(4:Int)∧(4:Int) < d)∧tU6 ((so=true→tU4 (((w4 != 0)=false→tU5 (((h4 != 0)=false→tU5 (((s4 != 0)=false→tU6 (((decide ((n4:Int) > 0))=true→True∧RV.d (dQ false)=RV.d b)∧((decide ((n4:Int) > 0))=false→tU4 (((!so)=true→True∧u∧tU2 ((p=false→tU7 (((w4 != w)=false→tU7 (B∧((h4 != h)=false→tU3 (∃ _u:Unit,j∧o))))∧L))∧G))∧((!so)=(!true)→tU4 (∃ _u:Unit,j∧o))))))∧((s4 != 0)=(!false)→tU3 a)))∧((h4 != 0)=(!false)→tU5 a)))∧((w4 != 0)=(!false)→tU7 a)))∧(so=(!true)→tU5 (((!so)=true→True∧u∧tU2 ((p=false→tU7 (((w4 != w)=false→tU7 (B∧((h4 != h)=false→tU3 (∃ _u:Unit,j∧o))))∧L))∧G))∧((!so)=(!true)→tU4 (∃ _u:Unit,j∧o))))))))∧(∀ _u:Unit,j→tU2 (decide ((5:Int) < 5)=false∧tU3 ((so=false→tU6 (RV.d (dQ (((c0==0) && ((c1==0) && ((c2==0) && true))) && ((ca==0) && ((cf==0) && true))))=RV.d b))∧(so=(!false)→tU2 (RV.d (dQ true)=RV.d b)))))∧True)))) ?_
  delta dJ dK dQ wK dS
  simp only [sS,zQI,zQD,zZp,zQQ,zZv,zZV,zZQ,zX2,zQT,zQL]
  cases so <;> simp [w1_,Im.inner,okPl,zJm,Px.zero] <;> (repeat' (first | apply And.intro | intro)) <;> (first | assumption | (simp_all; done) | grind)
theorem zQW (w h:Int) (so:Bool) (c0 c1 c2 ca cf w0 h0 s0:Int) (n0:Nat) (xs0:List DV) (w1 h1 s1:Int) (n1:Nat) (xs1:List DV) (w2 h2 s2:Int) (n2:Nat) (xs2:List DV) (w3 h3 s3:Int) (n3:Nat) (xs3:List DV) (w4 h4 s4:Int) (n4:Nat) (xs4:List DV):Ans prog 66 [RV.agg [dJ w,dJ h,dQ so,dK c0,dK c1,dK c2,dK ca,dK cf,dJ w0,dJ h0,dJ s0,dS n0 xs0,dJ w1,dJ h1,dJ s1,dS n1 xs1,dJ w2,dJ h2,dJ s2,dS n2 xs2,dJ w3,dJ h3,dJ s3,dS n3 xs3,dJ w4,dJ h4,dJ s4,dS n4 xs4]] (RV.d (dQ (Im.formed ⟨w,h,so,⟨c0,c1,c2,ca,cf⟩,⟨w0,h0,s0,n0,xs0⟩,⟨w1,h1,s1,n1,xs1⟩,⟨w2,h2,s2,n2,xs2⟩,⟨w3,h3,s3,n3,xs3⟩,⟨w4,h4,s4,n4,xs4⟩⟩))):=
 zQj (Γ:=gamI) Ann.leaf zQs Tryz.func66 rfl (nL rfl) fun hwf=>by
  refine Eq.mpr (by kernel_rfl:_=(let a:=(dQ (Im.inner ⟨w,h,so,⟨c0,c1,c2,ca,cf⟩,⟨w0,h0,s0,n0,xs0⟩,⟨w1,h1,s1,n1,xs1⟩,⟨w2,h2,s2,n2,xs2⟩,⟨w3,h3,s3,n3,xs3⟩,⟨w4,h4,s4,n4,xs4⟩⟩)); let b:=(dQ (Im.formed ⟨w,h,so,⟨c0,c1,c2,ca,cf⟩,⟨w0,h0,s0,n0,xs0⟩,⟨w1,h1,s1,n1,xs1⟩,⟨w2,h2,s2,n2,xs2⟩,⟨w3,h3,s3,n3,xs3⟩,⟨w4,h4,s4,n4,xs4⟩⟩)); tU6 ((Ans prog 92 [rJ w,rJ h] (RV.d (dQ (zQ8 w h))))∧True∧(((zQ8 w h)=true→True∧(Ans prog 102 [RV.agg [dJ w,dJ h,dQ so,dK c0,dK c1,dK c2,dK ca,dK cf,dJ w0,dJ h0,dJ s0,dS n0 xs0,dJ w1,dJ h1,dJ s1,dS n1 xs1,dJ w2,dJ h2,dJ s2,dS n2 xs2,dJ w3,dJ h3,dJ s3,dS n3 xs3,dJ w4,dJ h4,dJ s4,dS n4 xs4]] (RV.d a))∧tU2 (RV.d a=RV.d b))∧((zQ8 w h)=(!true)→tU2 (RV.d (dQ false)=RV.d b)))))) ?_
  delta dJ dK dQ dS rJ
  simp only [sS,zQI,zQD,zZp,zQQ,zZv,zZV,zZQ,zX2,zQT,zQL,zQV]
  simp [Im.formed]; grind
theorem zJQ (w h:Int) (so:Bool) (c0 c1 c2 ca cf w0 h0 s0:Int) (n0:Nat) (xs0:List DV) (w1 h1 s1:Int) (n1:Nat) (xs1:List DV) (w2 h2 s2:Int) (n2:Nat) (xs2:List DV) (w3 h3 s3:Int) (n3:Nat) (xs3:List DV) (w4 h4 s4:Int) (n4:Nat) (xs4:List DV) (x y:Int) (hu:Im.isU ⟨w,h,so,⟨c0,c1,c2,ca,cf⟩,⟨w0,h0,s0,n0,xs0⟩,⟨w1,h1,s1,n1,xs1⟩,⟨w2,h2,s2,n2,xs2⟩,⟨w3,h3,s3,n3,xs3⟩,⟨w4,h4,s4,n4,xs4⟩⟩) (hf:Im.inner ⟨w,h,so,⟨c0,c1,c2,ca,cf⟩,⟨w0,h0,s0,n0,xs0⟩,⟨w1,h1,s1,n1,xs1⟩,⟨w2,h2,s2,n2,xs2⟩,⟨w3,h3,s3,n3,xs3⟩,⟨w4,h4,s4,n4,xs4⟩⟩=true) (hx:0≤x∧x < w) (hy:0≤y∧y < h):Ans prog 101 [RV.agg [dJ w,dJ h,dQ so,dK c0,dK c1,dK c2,dK ca,dK cf,dJ w0,dJ h0,dJ s0,dS n0 xs0,dJ w1,dJ h1,dJ s1,dS n1 xs1,dJ w2,dJ h2,dJ s2,dS n2 xs2,dJ w3,dJ h3,dJ s3,dS n3 xs3,dJ w4,dJ h4,dJ s4,dS n4 xs4],rJ (x),rJ (y)] (RV.agg [dK ((Im.px ⟨w,h,so,⟨c0,c1,c2,ca,cf⟩,⟨w0,h0,s0,n0,xs0⟩,⟨w1,h1,s1,n1,xs1⟩,⟨w2,h2,s2,n2,xs2⟩,⟨w3,h3,s3,n3,xs3⟩,⟨w4,h4,s4,n4,xs4⟩⟩ x y).a),dK ((Im.px ⟨w,h,so,⟨c0,c1,c2,ca,cf⟩,⟨w0,h0,s0,n0,xs0⟩,⟨w1,h1,s1,n1,xs1⟩,⟨w2,h2,s2,n2,xs2⟩,⟨w3,h3,s3,n3,xs3⟩,⟨w4,h4,s4,n4,xs4⟩⟩ x y).b),dK ((Im.px ⟨w,h,so,⟨c0,c1,c2,ca,cf⟩,⟨w0,h0,s0,n0,xs0⟩,⟨w1,h1,s1,n1,xs1⟩,⟨w2,h2,s2,n2,xs2⟩,⟨w3,h3,s3,n3,xs3⟩,⟨w4,h4,s4,n4,xs4⟩⟩ x y).c),dK ((Im.px ⟨w,h,so,⟨c0,c1,c2,ca,cf⟩,⟨w0,h0,s0,n0,xs0⟩,⟨w1,h1,s1,n1,xs1⟩,⟨w2,h2,s2,n2,xs2⟩,⟨w3,h3,s3,n3,xs3⟩,⟨w4,h4,s4,n4,xs4⟩⟩ x y).al),dK ((Im.px ⟨w,h,so,⟨c0,c1,c2,ca,cf⟩,⟨w0,h0,s0,n0,xs0⟩,⟨w1,h1,s1,n1,xs1⟩,⟨w2,h2,s2,n2,xs2⟩,⟨w3,h3,s3,n3,xs3⟩,⟨w4,h4,s4,n4,xs4⟩⟩ x y).f)]):=
 zQj (Γ:=gamI) (let a:=(7,AV.one (Cl.ptr 7 0)); let b:=(6,AV.one (Cl.ptr 6 0)); let g:=(Ann.seq Ann.leaf (Ann.seq (Ann.sure true Ann.leaf) Ann.leaf)); let c:=(1,aJ x); let d:=(2,aJ y); let e:=(15,AV.agg [cJ w0,cJ h0,cJ s0,Cl.d (dS n0 xs0),cJ w1,cJ h1,cJ s1,Cl.d (dS n1 xs1),cJ w2,cJ h2,cJ s2,Cl.d (dS n2 xs2),cJ w3,cJ h3,cJ s3,Cl.d (dS n3 xs3),cJ w4,cJ h4,cJ s4,Cl.d (dS n4 xs4)]); let k:=[cK 0,cK 0,cK 0,cK 0,cK 0]; let f:=(6,Bx.cells k); let h:=(dK (nAt xs0 ((wK ((wK (y*s0))+x)).toNat*1))); let i:=(dK (nAt xs1 ((wK ((wK (y*s1))+x)).toNat*1))); let j:=(dK (nAt xs2 ((wK ((wK (y*s2))+x)).toNat*1))); let l:=(dK (nAt xs3 ((wK ((wK (y*s3))+x)).toNat*1))); (Ann.seq Ann.leaf (Ann.seq Ann.leaf (Ann.seq Ann.leaf (Ann.seq (Ann.seq Ann.leaf (Ann.link ⟨Unit,fun _u=>True,fun _u=>⟨[c,d,b,a,e,(16,aJ 0)],[f,(7,Bx.cells k)]⟩,fun _u=>0⟩ (fun _u=>g) (Ann.link ⟨Unit,fun _u=>True,fun _u=>⟨[c,d,b,a,e,(16,aJ 1)],[f,(7,bC [Cl.d h,cK 0,cK 0,cK 0,cK 0])]⟩,fun _u=>0⟩ (fun _u=>g) (Ann.link ⟨Unit,fun _u=>True,fun _u=>⟨[c,d,b,a,e,(16,aJ 2)],[f,(7,bC [Cl.d h,Cl.d i,cK 0,cK 0,cK 0])]⟩,fun _u=>0⟩ (fun _u=>g) (Ann.link ⟨Unit,fun _u=>True,fun _u=>⟨[c,d,b,a,e,(16,aJ 3)],[f,(7,bC [Cl.d h,Cl.d i,Cl.d j,cK 0,cK 0])]⟩,fun _u=>0⟩ (fun _u=>g) (Ann.link ⟨Unit,fun _u=>True,fun _u=>⟨[c,d,b,a,e,(16,aJ 4)],[f,(7,bC [Cl.d h,Cl.d i,Cl.d j,Cl.d l,cK 0])]⟩,fun _u=>0⟩ (fun _u=>g) (Ann.link ⟨Unit,fun _u=>True,fun _u=>⟨[c,d,b,a,e,(16,aJ 5)],[f,(7,bC [Cl.d h,Cl.d i,Cl.d j,Cl.d l,cK (nAt xs4 ((wK ((wK (y*s4))+x)).toNat*1))])]⟩,fun _u=>0⟩ (fun _u=>(Ann.seq Ann.leaf (Ann.seq (Ann.sure false Ann.leaf) Ann.leaf))) Ann.leaf))))))) Ann.leaf))))) zQs Tryz.func101 rfl (nL rfl) fun hwf=>by
  refine Eq.mpr (by kernel_rfl:_=(let a:=((5:Nat):Int); let g:=(Im.px ⟨w,h,so,⟨c0,c1,c2,ca,cf⟩,⟨w0,h0,s0,n0,xs0⟩,⟨w1,h1,s1,n1,xs1⟩,⟨w2,h2,s2,n2,xs2⟩,⟨w3,h3,s3,n3,xs3⟩,⟨w4,h4,s4,n4,xs4⟩⟩ x y); let z:=[dK g.a,dK g.b,dK g.c,dK g.al,dK g.f]; let c:=(dJ x=dJ x); let d:=(dJ y=dJ y); let A:=[dJ w0,dJ h0,dJ s0,dS n0 xs0,dJ w1,dJ h1,dJ s1,dS n1 xs1,dJ w2,dJ h2,dJ s2,dS n2 xs2,dJ w3,dJ h3,dJ s3,dS n3 xs3,dJ w4,dJ h4,dJ s4,dS n4 xs4]; let e:=(A=A); let B:=[dK 0,dK 0,dK 0,dK 0,dK 0]; let b:=(B=B); let l:=((wK (y*s0))+x); let m:=(wK l); let f:=(nAt xs0 (m.toNat*1)); let C:=(0≤(0:Int)∧(0:Int) < a); let D:=[dK f,dK 0,dK 0,dK 0,dK 0]; let n:=((wK (y*s1))+x); let o:=(wK n); let i:=(nAt xs1 (o.toNat*1)); let E:=(0≤(1:Int)∧(1:Int) < a); let F:=[dK f,dK i,dK 0,dK 0,dK 0]; let p:=((wK (y*s2))+x); let q:=(wK p); let j:=(nAt xs2 (q.toNat*1)); let G:=(0≤(2:Int)∧(2:Int) < a); let H:=[dK f,dK i,dK j,dK 0,dK 0]; let r:=((wK (y*s3))+x); let s:=(wK r); let t:=(nAt xs3 (s.toNat*1)); let I:=(0≤(3:Int)∧(3:Int) < a); let J:=[dK f,dK i,dK j,dK t,dK 0]; let u:=((wK (y*s4))+x); let k:=(wK u); let K:=(0≤(4:Int)∧(4:Int) < a); let v:=[dK f,dK i,dK j,dK t,dK (nAt xs4 (k.toNat*1))]; tU4 ((so=true→tU3 (RV.agg [dK c0,dK c1,dK c2,dK ca,dK cf]=RV.agg z))∧(so=false→tU4 ((∃ _u:Unit,True∧((c∧d∧(0=0)∧(0=0)∧e∧(dJ 0=dJ 0)∧True)∧(b∧b∧True)))∧((∀ _u:Unit,True→True∧(decide ((0:Int) < 5)=true∧True∧(0≤(0:Int)∧(0:Int) < a∧(some (dJ w0)=some (dJ w0))∧(some (dJ h0)=some (dJ h0))∧(some (dJ s0)=some (dJ s0))∧(some (dS n0 xs0)=some (dS n0 xs0))∧True)∧tU4 (tU8 ((0≤wK l∧wK l < (n0:Int)∧m.toNat*1 < xs0.length)∧((xs0[m.toNat*1]?=some (dK f))∧True)∧C∧tU3 (∃ _u:Unit,True∧((c∧d∧(0=0)∧(0=0)∧e∧(dJ (wK ((0:Int)+1))=dJ 1)∧True)∧(b∧(D=D)∧True)))))))∧(∀ _u:Unit,True→True∧(decide ((1:Int) < 5)=true∧True∧(0≤(1:Int)∧(1:Int) < a∧(some (dJ w1)=some (dJ w1))∧(some (dJ h1)=some (dJ h1))∧(some (dJ s1)=some (dJ s1))∧(some (dS n1 xs1)=some (dS n1 xs1))∧True)∧tU4 (tU8 ((0≤wK n∧wK n < (n1:Int)∧o.toNat*1 < xs1.length)∧((xs1[o.toNat*1]?=some (dK i))∧True)∧E∧tU3 (∃ _u:Unit,True∧((c∧d∧(0=0)∧(0=0)∧e∧(dJ (wK ((1:Int)+1))=dJ 2)∧True)∧(b∧(F=F)∧True)))))))∧(∀ _u:Unit,True→True∧(decide ((2:Int) < 5)=true∧True∧(0≤(2:Int)∧(2:Int) < a∧(some (dJ w2)=some (dJ w2))∧(some (dJ h2)=some (dJ h2))∧(some (dJ s2)=some (dJ s2))∧(some (dS n2 xs2)=some (dS n2 xs2))∧True)∧tU4 (tU8 ((0≤wK p∧wK p < (n2:Int)∧q.toNat*1 < xs2.length)∧((xs2[q.toNat*1]?=some (dK j))∧True)∧G∧tU3 (∃ _u:Unit,True∧((c∧d∧(0=0)∧(0=0)∧e∧(dJ (wK ((2:Int)+1))=dJ 3)∧True)∧(b∧(H=H)∧True)))))))∧(∀ _u:Unit,True→True∧(decide ((3:Int) < 5)=true∧True∧(0≤(3:Int)∧(3:Int) < a∧(some (dJ w3)=some (dJ w3))∧(some (dJ h3)=some (dJ h3))∧(some (dJ s3)=some (dJ s3))∧(some (dS n3 xs3)=some (dS n3 xs3))∧True)∧tU4 (tU8 ((0≤wK r∧wK r < (n3:Int)∧s.toNat*1 < xs3.length)∧((xs3[s.toNat*1]?=some (dK t))∧True)∧I∧tU3 (∃ _u:Unit,True∧((c∧d∧(0=0)∧(0=0)∧e∧(dJ (wK ((3:Int)+1))=dJ 4)∧True)∧(b∧(J=J)∧True)))))))∧(∀ _u:Unit,True→True∧(decide ((4:Int) < 5)=true∧True∧(0≤(4:Int)∧(4:Int) < a∧(some (dJ w4)=some (dJ w4))∧(some (dJ h4)=some (dJ h4))∧(some (dJ s4)=some (dJ s4))∧(some (dS n4 xs4)=some (dS n4 xs4))∧True)∧tU4 (tU8 ((0≤wK u∧wK u < (n4:Int)∧k.toNat*1 < xs4.length)∧((xs4[k.toNat*1]?=some (dK (nAt xs4 (k.toNat*1))))∧True)∧K∧tU3 (∃ _u:Unit,True∧((c∧d∧(0=0)∧(0=0)∧e∧(dJ (wK ((4:Int)+1))=dJ 5)∧True)∧(b∧(v=v)∧True)))))))∧(∀ _u:Unit,True→True∧(decide ((5:Int) < 5)=false∧C∧True∧E∧True∧G∧tU2 (I∧True∧K∧tU3 (RV.agg v=RV.agg z))))∧True)))))) ?_
  delta dJ dK wK dS
  simp only [sS,zQI,zQD,zQQ,zQL,zQV,zQW]
  cases so with
  | true=>simp [Im.px]
  | false=>
   obtain ⟨u0,u1,u2,u3,u4⟩:=hu
   obtain ⟨hc,⟨v0,e0,e0'⟩,⟨v1,e1,e1'⟩,⟨v2,e2,e2'⟩,⟨v3,e3,e3'⟩,⟨v4,e4,e4'⟩⟩:=Im.inner_planes hf rfl
   simp only at v0 e0 e0' v1 e1 e1' v2 e2 e2' v3 e3 e3' v4 e4 e4'
   obtain ⟨a0,b0,d0⟩:=zXZ u0 v0 (x:=x) (y:=y) ⟨hx.1,by omega⟩ ⟨hy.1,by omega⟩
   obtain ⟨a1,b1,d1⟩:=zXZ u1 v1 (x:=x) (y:=y) ⟨hx.1,by omega⟩ ⟨hy.1,by omega⟩
   obtain ⟨a2,b2,d2⟩:=zXZ u2 v2 (x:=x) (y:=y) ⟨hx.1,by omega⟩ ⟨hy.1,by omega⟩
   obtain ⟨a3,b3,d3⟩:=zXZ u3 v3 (x:=x) (y:=y) ⟨hx.1,by omega⟩ ⟨hy.1,by omega⟩
   obtain ⟨a4,b4,d4⟩:=zXZ u4 v4 (x:=x) (y:=y) ⟨hx.1,by omega⟩ ⟨hy.1,by omega⟩
   simp only at a0 b0 d0 a1 b1 d1 a2 b2 d2 a3 b3 d3 a4 b4 d4
   simp only [Nat.mul_one] at b0 b1 b2 b3 b4 d0 d1 d2 d3 d4
   have f0:=(List.getElem?_eq_some_iff.1 d0).2
   have f1:=(List.getElem?_eq_some_iff.1 d1).2
   have f2:=(List.getElem?_eq_some_iff.1 d2).2
   have f3:=(List.getElem?_eq_some_iff.1 d3).2
   have f4:=(List.getElem?_eq_some_iff.1 d4).2
   simp [w1_,f0,f1,f2,f3,f4,a0,a1,a2,a3,a4,b0,b1,b2,b3,b4,d0,d1,d2,d3,d4,Im.px,Pl.at_]
theorem zHv (w h:Int) (so:Bool) (c0 c1 c2 ca cf w0 h0 s0:Int) (n0:Nat) (xs0:List DV) (w1 h1 s1:Int) (n1:Nat) (xs1:List DV) (w2 h2 s2:Int) (n2:Nat) (xs2:List DV) (w3 h3 s3:Int) (n3:Nat) (xs3:List DV) (w4 h4 s4:Int) (n4:Nat) (xs4:List DV) (x y:Int) (hu:Im.isU ⟨w,h,so,⟨c0,c1,c2,ca,cf⟩,⟨w0,h0,s0,n0,xs0⟩,⟨w1,h1,s1,n1,xs1⟩,⟨w2,h2,s2,n2,xs2⟩,⟨w3,h3,s3,n3,xs3⟩,⟨w4,h4,s4,n4,xs4⟩⟩) (hf:Im.inner ⟨w,h,so,⟨c0,c1,c2,ca,cf⟩,⟨w0,h0,s0,n0,xs0⟩,⟨w1,h1,s1,n1,xs1⟩,⟨w2,h2,s2,n2,xs2⟩,⟨w3,h3,s3,n3,xs3⟩,⟨w4,h4,s4,n4,xs4⟩⟩=true) (hx:0≤x∧x < w) (hy:0≤y∧y < h):Ans prog 67 [RV.agg [dJ w,dJ h,dQ so,dK c0,dK c1,dK c2,dK ca,dK cf,dJ w0,dJ h0,dJ s0,dS n0 xs0,dJ w1,dJ h1,dJ s1,dS n1 xs1,dJ w2,dJ h2,dJ s2,dS n2 xs2,dJ w3,dJ h3,dJ s3,dS n3 xs3,dJ w4,dJ h4,dJ s4,dS n4 xs4],rJ (x),rJ (y)] (RV.agg [dK ((Im.px ⟨w,h,so,⟨c0,c1,c2,ca,cf⟩,⟨w0,h0,s0,n0,xs0⟩,⟨w1,h1,s1,n1,xs1⟩,⟨w2,h2,s2,n2,xs2⟩,⟨w3,h3,s3,n3,xs3⟩,⟨w4,h4,s4,n4,xs4⟩⟩ x y).a),dK ((Im.px ⟨w,h,so,⟨c0,c1,c2,ca,cf⟩,⟨w0,h0,s0,n0,xs0⟩,⟨w1,h1,s1,n1,xs1⟩,⟨w2,h2,s2,n2,xs2⟩,⟨w3,h3,s3,n3,xs3⟩,⟨w4,h4,s4,n4,xs4⟩⟩ x y).b),dK ((Im.px ⟨w,h,so,⟨c0,c1,c2,ca,cf⟩,⟨w0,h0,s0,n0,xs0⟩,⟨w1,h1,s1,n1,xs1⟩,⟨w2,h2,s2,n2,xs2⟩,⟨w3,h3,s3,n3,xs3⟩,⟨w4,h4,s4,n4,xs4⟩⟩ x y).c),dK ((Im.px ⟨w,h,so,⟨c0,c1,c2,ca,cf⟩,⟨w0,h0,s0,n0,xs0⟩,⟨w1,h1,s1,n1,xs1⟩,⟨w2,h2,s2,n2,xs2⟩,⟨w3,h3,s3,n3,xs3⟩,⟨w4,h4,s4,n4,xs4⟩⟩ x y).al),dK ((Im.px ⟨w,h,so,⟨c0,c1,c2,ca,cf⟩,⟨w0,h0,s0,n0,xs0⟩,⟨w1,h1,s1,n1,xs1⟩,⟨w2,h2,s2,n2,xs2⟩,⟨w3,h3,s3,n3,xs3⟩,⟨w4,h4,s4,n4,xs4⟩⟩ x y).f)]):=
 zQj (Γ:=gamI) (let a:=(7,AV.one (Cl.ptr 7 0)); let b:=(6,AV.one (Cl.ptr 6 0)); let c:=(3,AV.one (Cl.ptr 3 0)); let i:=(Ann.seq (Ann.seq Ann.leaf (Ann.sure true Ann.leaf)) Ann.leaf); let d:=(1,aJ x); let e:=(2,aJ y); let f:=(3,bC [cJ w,cJ h,Cl.d (dQ so),cK c0,cK c1,cK c2,cK ca,cK cf,cJ w0,cJ h0,cJ s0,Cl.d (dS n0 xs0),cJ w1,cJ h1,cJ s1,Cl.d (dS n1 xs1),cJ w2,cJ h2,cJ s2,Cl.d (dS n2 xs2),cJ w3,cJ h3,cJ s3,Cl.d (dS n3 xs3),cJ w4,cJ h4,cJ s4,Cl.d (dS n4 xs4)]); let g:=(6,bC [cK 0,cK 0,cK 0,cK 0,cK 0]); let j:=(dJ (wK ((wK (y*s0))+x))); let k:=(dJ (wK ((wK (y*s1))+x))); let l:=(dJ (wK ((wK (y*s2))+x))); let m:=(dJ (wK ((wK (y*s3))+x))); (Ann.seq Ann.leaf (Ann.seq Ann.leaf (Ann.seq Ann.leaf (Ann.seq (Ann.seq Ann.leaf (Ann.link ⟨Unit,fun _u=>True,fun _u=>⟨[d,e,c,b,a,(8,aJ 0)],[f,g,(7,bC [cJ 0,cJ 0,cJ 0,cJ 0,cJ 0])]⟩,fun _u=>0⟩ (fun _u=>i) (Ann.link ⟨Unit,fun _u=>True,fun _u=>⟨[d,e,c,b,a,(8,aJ 1)],[f,g,(7,bC [Cl.d j,cJ 0,cJ 0,cJ 0,cJ 0])]⟩,fun _u=>0⟩ (fun _u=>i) (Ann.link ⟨Unit,fun _u=>True,fun _u=>⟨[d,e,c,b,a,(8,aJ 2)],[f,g,(7,bC [Cl.d j,Cl.d k,cJ 0,cJ 0,cJ 0])]⟩,fun _u=>0⟩ (fun _u=>i) (Ann.link ⟨Unit,fun _u=>True,fun _u=>⟨[d,e,c,b,a,(8,aJ 3)],[f,g,(7,bC [Cl.d j,Cl.d k,Cl.d l,cJ 0,cJ 0])]⟩,fun _u=>0⟩ (fun _u=>i) (Ann.link ⟨Unit,fun _u=>True,fun _u=>⟨[d,e,c,b,a,(8,aJ 4)],[f,g,(7,bC [Cl.d j,Cl.d k,Cl.d l,Cl.d m,cJ 0])]⟩,fun _u=>0⟩ (fun _u=>i) (Ann.link ⟨Unit,fun _u=>True,fun _u=>⟨[d,e,c,b,a,(8,aJ 5)],[f,g,(7,bC [Cl.d j,Cl.d k,Cl.d l,Cl.d m,cJ (wK ((wK (y*s4))+x))])]⟩,fun _u=>0⟩ (fun _u=>(Ann.seq (Ann.seq Ann.leaf (Ann.sure false Ann.leaf)) Ann.leaf)) Ann.leaf))))))) Ann.leaf))))) zQs Tryz.func67 rfl (nL rfl) fun hwf=>by
  refine Eq.mpr (by kernel_rfl:_=(let j:=((5:Nat):Int); let k:=(Im.px ⟨w,h,so,⟨c0,c1,c2,ca,cf⟩,⟨w0,h0,s0,n0,xs0⟩,⟨w1,h1,s1,n1,xs1⟩,⟨w2,h2,s2,n2,xs2⟩,⟨w3,h3,s3,n3,xs3⟩,⟨w4,h4,s4,n4,xs4⟩⟩ x y); let z:=[dK k.a,dK k.b,dK k.c,dK k.al,dK k.f]; let d:=(dJ x=dJ x); let e:=(dJ y=dJ y); let A:=[dJ w,dJ h,dQ so,dK c0,dK c1,dK c2,dK ca,dK cf,dJ w0,dJ h0,dJ s0,dS n0 xs0,dJ w1,dJ h1,dJ s1,dS n1 xs1,dJ w2,dJ h2,dJ s2,dS n2 xs2,dJ w3,dJ h3,dJ s3,dS n3 xs3,dJ w4,dJ h4,dJ s4,dS n4 xs4]; let f:=(A=A); let B:=[dK 0,dK 0,dK 0,dK 0,dK 0]; let g:=(B=B); let C:=[dJ 0,dJ 0,dJ 0,dJ 0,dJ 0]; let m:=(0≤(0:Int)∧(0:Int) < j); let r:=((wK (y*s0))+x); let a:=(wK r); let D:=[dJ a,dJ 0,dJ 0,dJ 0,dJ 0]; let n:=(0≤(1:Int)∧(1:Int) < j); let s:=((wK (y*s1))+x); let b:=(wK s); let E:=[dJ a,dJ b,dJ 0,dJ 0,dJ 0]; let o:=(0≤(2:Int)∧(2:Int) < j); let t:=((wK (y*s2))+x); let c:=(wK t); let F:=[dJ a,dJ b,dJ c,dJ 0,dJ 0]; let p:=(0≤(3:Int)∧(3:Int) < j); let u:=((wK (y*s3))+x); let i:=(wK u); let G:=[dJ a,dJ b,dJ c,dJ i,dJ 0]; let q:=(0≤(4:Int)∧(4:Int) < j); let v:=((wK (y*s4))+x); let l:=(wK v); let H:=[dJ a,dJ b,dJ c,dJ i,dJ l]; tU4 ((so=true→tU3 (RV.agg [dK c0,dK c1,dK c2,dK ca,dK cf]=RV.agg z))∧(so=false→tU4 ((∃ _u:Unit,True∧((d∧e∧(0=0)∧(0=0)∧(0=0)∧(dJ 0=dJ 0)∧True)∧(f∧g∧(C=C)∧True)))∧((∀ _u:Unit,True→tU2 (decide ((0:Int) < 5)=true∧tU4 (m∧tU5 (m∧tU4 (∃ _u:Unit,True∧((d∧e∧(0=0)∧(0=0)∧(0=0)∧(dJ (wK ((0:Int)+1))=dJ 1)∧True)∧(f∧g∧(D=D)∧True)))))))∧(∀ _u:Unit,True→tU2 (decide ((1:Int) < 5)=true∧tU4 (n∧tU5 (n∧tU4 (∃ _u:Unit,True∧((d∧e∧(0=0)∧(0=0)∧(0=0)∧(dJ (wK ((1:Int)+1))=dJ 2)∧True)∧(f∧g∧(E=E)∧True)))))))∧(∀ _u:Unit,True→tU2 (decide ((2:Int) < 5)=true∧tU4 (o∧tU5 (o∧tU4 (∃ _u:Unit,True∧((d∧e∧(0=0)∧(0=0)∧(0=0)∧(dJ (wK ((2:Int)+1))=dJ 3)∧True)∧(f∧g∧(F=F)∧True)))))))∧(∀ _u:Unit,True→tU2 (decide ((3:Int) < 5)=true∧tU4 (p∧tU5 (p∧tU4 (∃ _u:Unit,True∧((d∧e∧(0=0)∧(0=0)∧(0=0)∧(dJ (wK ((3:Int)+1))=dJ 4)∧True)∧(f∧g∧(G=G)∧True)))))))∧(∀ _u:Unit,True→tU2 (decide ((4:Int) < 5)=true∧tU4 (q∧tU5 (q∧tU4 (∃ _u:Unit,True∧((d∧e∧(0=0)∧(0=0)∧(0=0)∧(dJ (wK ((4:Int)+1))=dJ 5)∧True)∧(f∧g∧(H=H)∧True)))))))∧(∀ _u:Unit,True→tU2 (decide ((5:Int) < 5)=false∧True∧m∧tU2 (m∧True∧(0≤wK r∧wK r < (n0:Int)∧a.toNat*1 < xs0.length)∧((xs0[a.toNat*1]?=some (dK (nAt xs0 (a.toNat*1))))∧True)∧True∧n∧tU2 (n∧True∧(0≤wK s∧wK s < (n1:Int)∧b.toNat*1 < xs1.length)∧((xs1[b.toNat*1]?=some (dK (nAt xs1 (b.toNat*1))))∧True)∧True∧o∧tU2 (o∧True∧(0≤wK t∧wK t < (n2:Int)∧c.toNat*1 < xs2.length)∧((xs2[c.toNat*1]?=some (dK (nAt xs2 (c.toNat*1))))∧True)∧tU2 (p∧tU2 (p∧True∧(0≤wK u∧wK u < (n3:Int)∧i.toNat*1 < xs3.length)∧((xs3[i.toNat*1]?=some (dK (nAt xs3 (i.toNat*1))))∧True)∧True∧q∧tU2 (q∧True∧(0≤wK v∧wK v < (n4:Int)∧l.toNat*1 < xs4.length)∧((xs4[l.toNat*1]?=some (dK (nAt xs4 (l.toNat*1))))∧True)∧tU2 ((true=true)∧RV.agg [dK (nAt xs0 (a.toNat*1)),dK (nAt xs1 (b.toNat*1)),dK (nAt xs2 (c.toNat*1)),dK (nAt xs3 (i.toNat*1)),dK (nAt xs4 (l.toNat*1))]=RV.agg z)))))))))∧True)))))) ?_
  delta dJ dK dQ wK dS
  simp only [sS,zQI,zQD,zQQ,zQL,zQV,zQW]
  cases so with
  | true=>simp [Im.px]
  | false=>
   obtain ⟨u0,u1,u2,u3,u4⟩:=hu
   obtain ⟨hc,⟨v0,e0,e0'⟩,⟨v1,e1,e1'⟩,⟨v2,e2,e2'⟩,⟨v3,e3,e3'⟩,⟨v4,e4,e4'⟩⟩:=Im.inner_planes hf rfl
   simp only at v0 e0 e0' v1 e1 e1' v2 e2 e2' v3 e3 e3' v4 e4 e4'
   obtain ⟨a0,b0,d0⟩:=zXZ u0 v0 (x:=x) (y:=y) ⟨hx.1,by omega⟩ ⟨hy.1,by omega⟩
   obtain ⟨a1,b1,d1⟩:=zXZ u1 v1 (x:=x) (y:=y) ⟨hx.1,by omega⟩ ⟨hy.1,by omega⟩
   obtain ⟨a2,b2,d2⟩:=zXZ u2 v2 (x:=x) (y:=y) ⟨hx.1,by omega⟩ ⟨hy.1,by omega⟩
   obtain ⟨a3,b3,d3⟩:=zXZ u3 v3 (x:=x) (y:=y) ⟨hx.1,by omega⟩ ⟨hy.1,by omega⟩
   obtain ⟨a4,b4,d4⟩:=zXZ u4 v4 (x:=x) (y:=y) ⟨hx.1,by omega⟩ ⟨hy.1,by omega⟩
   simp only at a0 b0 d0 a1 b1 d1 a2 b2 d2 a3 b3 d3 a4 b4 d4
   simp only [Nat.mul_one] at b0 b1 b2 b3 b4 d0 d1 d2 d3 d4
   have f0:=(List.getElem?_eq_some_iff.1 d0).2
   have f1:=(List.getElem?_eq_some_iff.1 d1).2
   have f2:=(List.getElem?_eq_some_iff.1 d2).2
   have f3:=(List.getElem?_eq_some_iff.1 d3).2
   have f4:=(List.getElem?_eq_some_iff.1 d4).2
   simp [w1_,f0,f1,f2,f3,f4,a0,a1,a2,a3,a4,b0,b1,b2,b3,b4,d0,d1,d2,d3,d4,Im.px,Pl.at_]
theorem zZd (w h:Int) (so:Bool) (c0 c1 c2 ca cf w0 h0 s0:Int) (n0:Nat) (xs0:List DV) (w1 h1 s1:Int) (n1:Nat) (xs1:List DV) (w2 h2 s2:Int) (n2:Nat) (xs2:List DV) (w3 h3 s3:Int) (n3:Nat) (xs3:List DV) (w4 h4 s4:Int) (n4:Nat) (xs4:List DV):Ans prog 121 [RV.agg [dJ w,dJ h,dQ so,dK c0,dK c1,dK c2,dK ca,dK cf,dJ w0,dJ h0,dJ s0,dS n0 xs0,dJ w1,dJ h1,dJ s1,dS n1 xs1,dJ w2,dJ h2,dJ s2,dS n2 xs2,dJ w3,dJ h3,dJ s3,dS n3 xs3,dJ w4,dJ h4,dJ s4,dS n4 xs4]] (rJ ((Im.shape ⟨w,h,so,⟨c0,c1,c2,ca,cf⟩,⟨w0,h0,s0,n0,xs0⟩,⟨w1,h1,s1,n1,xs1⟩,⟨w2,h2,s2,n2,xs2⟩,⟨w3,h3,s3,n3,xs3⟩,⟨w4,h4,s4,n4,xs4⟩⟩))):=
 zQj (Γ:=gamI) Ann.leaf zQs Tryz.func121 rfl (nL rfl) fun hwf=>by
  refine Eq.mpr (by kernel_rfl:_=(let a:=(dJ (Im.shape ⟨w,h,so,⟨c0,c1,c2,ca,cf⟩,⟨w0,h0,s0,n0,xs0⟩,⟨w1,h1,s1,n1,xs1⟩,⟨w2,h2,s2,n2,xs2⟩,⟨w3,h3,s3,n3,xs3⟩,⟨w4,h4,s4,n4,xs4⟩⟩)); let b:=(Im.formed ⟨w,h,so,⟨c0,c1,c2,ca,cf⟩,⟨w0,h0,s0,n0,xs0⟩,⟨w1,h1,s1,n1,xs1⟩,⟨w2,h2,s2,n2,xs2⟩,⟨w3,h3,s3,n3,xs3⟩,⟨w4,h4,s4,n4,xs4⟩⟩); tU6 ((Ans prog 125 [rJ w,rJ h] (RV.d (dQ (zQ8 w h))))∧tU2 (((!(zQ8 w h))=true→True∧rJ 6=RV.d a)∧((!(zQ8 w h))=false→True∧(Ans prog 99 [RV.agg [dJ w,dJ h,dQ so,dK c0,dK c1,dK c2,dK ca,dK cf,dJ w0,dJ h0,dJ s0,dS n0 xs0,dJ w1,dJ h1,dJ s1,dS n1 xs1,dJ w2,dJ h2,dJ s2,dS n2 xs2,dJ w3,dJ h3,dJ s3,dS n3 xs3,dJ w4,dJ h4,dJ s4,dS n4 xs4]] (RV.d (dQ b)))∧tU2 (((!b)=true→True∧rJ 7=RV.d a)∧((!b)=false→True∧rJ 0=RV.d a))))))) ?_
  delta dJ dK dQ dS rJ
  simp only [sS,zQI,zQD,zQQ,zQL,zQV,zQW]
  simp [Im.shape,Im.formed]; (repeat' (first | apply And.intro | intro)) <;> (first | assumption | (simp_all; done) | grind)
theorem zJR (w h c0 c1 c2 ca cf:Int):Ans prog 114 [rJ (w),rJ (h),RV.agg [dK c0,dK c1,dK c2,dK ca,dK cf]] (RV.agg [dJ ((zQg w h ⟨c0,c1,c2,ca,cf⟩).w),dJ ((zQg w h ⟨c0,c1,c2,ca,cf⟩).h),dQ ((zQg w h ⟨c0,c1,c2,ca,cf⟩).so),dK (((zQg w h ⟨c0,c1,c2,ca,cf⟩).c).a),dK (((zQg w h ⟨c0,c1,c2,ca,cf⟩).c).b),dK (((zQg w h ⟨c0,c1,c2,ca,cf⟩).c).c),dK (((zQg w h ⟨c0,c1,c2,ca,cf⟩).c).al),dK (((zQg w h ⟨c0,c1,c2,ca,cf⟩).c).f),dJ (((zQg w h ⟨c0,c1,c2,ca,cf⟩).p0).w),dJ (((zQg w h ⟨c0,c1,c2,ca,cf⟩).p0).h),dJ (((zQg w h ⟨c0,c1,c2,ca,cf⟩).p0).s),dS (((zQg w h ⟨c0,c1,c2,ca,cf⟩).p0).n) (((zQg w h ⟨c0,c1,c2,ca,cf⟩).p0).xs),dJ (((zQg w h ⟨c0,c1,c2,ca,cf⟩).p1).w),dJ (((zQg w h ⟨c0,c1,c2,ca,cf⟩).p1).h),dJ (((zQg w h ⟨c0,c1,c2,ca,cf⟩).p1).s),dS (((zQg w h ⟨c0,c1,c2,ca,cf⟩).p1).n) (((zQg w h ⟨c0,c1,c2,ca,cf⟩).p1).xs),dJ (((zQg w h ⟨c0,c1,c2,ca,cf⟩).p2).w),dJ (((zQg w h ⟨c0,c1,c2,ca,cf⟩).p2).h),dJ (((zQg w h ⟨c0,c1,c2,ca,cf⟩).p2).s),dS (((zQg w h ⟨c0,c1,c2,ca,cf⟩).p2).n) (((zQg w h ⟨c0,c1,c2,ca,cf⟩).p2).xs),dJ (((zQg w h ⟨c0,c1,c2,ca,cf⟩).p3).w),dJ (((zQg w h ⟨c0,c1,c2,ca,cf⟩).p3).h),dJ (((zQg w h ⟨c0,c1,c2,ca,cf⟩).p3).s),dS (((zQg w h ⟨c0,c1,c2,ca,cf⟩).p3).n) (((zQg w h ⟨c0,c1,c2,ca,cf⟩).p3).xs),dJ (((zQg w h ⟨c0,c1,c2,ca,cf⟩).p4).w),dJ (((zQg w h ⟨c0,c1,c2,ca,cf⟩).p4).h),dJ (((zQg w h ⟨c0,c1,c2,ca,cf⟩).p4).s),dS (((zQg w h ⟨c0,c1,c2,ca,cf⟩).p4).n) (((zQg w h ⟨c0,c1,c2,ca,cf⟩).p4).xs)]):=
 zQj (Γ:=gamI) Ann.leaf zQs Tryz.func114 rfl (nL rfl) fun hwf=>by
  refine Eq.mpr (by kernel_rfl:_=(let a:=(zQg w h ⟨c0,c1,c2,ca,cf⟩).p0; let b:=(zQg w h ⟨c0,c1,c2,ca,cf⟩).p1; let d:=(zQg w h ⟨c0,c1,c2,ca,cf⟩).p2; let e:=(zQg w h ⟨c0,c1,c2,ca,cf⟩).p3; let f:=(zQg w h ⟨c0,c1,c2,ca,cf⟩).p4; let g:=(zQg w h ⟨c0,c1,c2,ca,cf⟩).c; tU7 (RV.agg [dJ w,dJ h,dQ true,dK c0,dK c1,dK c2,dK ca,dK cf,dJ 0,dJ 0,dJ 0,dS 0 ([]),dJ 0,dJ 0,dJ 0,dS 0 ([]),dJ 0,dJ 0,dJ 0,dS 0 ([]),dJ 0,dJ 0,dJ 0,dS 0 ([]),dJ 0,dJ 0,dJ 0,dS 0 ([])]=RV.agg [dJ (zQg w h ⟨c0,c1,c2,ca,cf⟩).w,dJ (zQg w h ⟨c0,c1,c2,ca,cf⟩).h,dQ (zQg w h ⟨c0,c1,c2,ca,cf⟩).so,dK g.a,dK g.b,dK g.c,dK g.al,dK g.f,dJ a.w,dJ a.h,dJ a.s,dS a.n a.xs,dJ b.w,dJ b.h,dJ b.s,dS b.n b.xs,dJ d.w,dJ d.h,dJ d.s,dS d.n d.xs,dJ e.w,dJ e.h,dJ e.s,dS e.n e.xs,dJ f.w,dJ f.h,dJ f.s,dS f.n f.xs]))) ?_
  delta dJ dK dQ dS
  simp only [sS,zQI,zQD,zQQ,zQL,zQV,zQW,zZd]
  simp [zQg,Pl.none,Px.zero]
theorem zHx (w h c0 c1 c2 ca cf:Int):Ans prog 22 [rJ (w),rJ (h),RV.agg [dK c0,dK c1,dK c2,dK ca,dK cf]] (RV.agg [dJ ((zQg w h ⟨c0,c1,c2,ca,cf⟩).w),dJ ((zQg w h ⟨c0,c1,c2,ca,cf⟩).h),dQ ((zQg w h ⟨c0,c1,c2,ca,cf⟩).so),dK (((zQg w h ⟨c0,c1,c2,ca,cf⟩).c).a),dK (((zQg w h ⟨c0,c1,c2,ca,cf⟩).c).b),dK (((zQg w h ⟨c0,c1,c2,ca,cf⟩).c).c),dK (((zQg w h ⟨c0,c1,c2,ca,cf⟩).c).al),dK (((zQg w h ⟨c0,c1,c2,ca,cf⟩).c).f),dJ (((zQg w h ⟨c0,c1,c2,ca,cf⟩).p0).w),dJ (((zQg w h ⟨c0,c1,c2,ca,cf⟩).p0).h),dJ (((zQg w h ⟨c0,c1,c2,ca,cf⟩).p0).s),dS (((zQg w h ⟨c0,c1,c2,ca,cf⟩).p0).n) (((zQg w h ⟨c0,c1,c2,ca,cf⟩).p0).xs),dJ (((zQg w h ⟨c0,c1,c2,ca,cf⟩).p1).w),dJ (((zQg w h ⟨c0,c1,c2,ca,cf⟩).p1).h),dJ (((zQg w h ⟨c0,c1,c2,ca,cf⟩).p1).s),dS (((zQg w h ⟨c0,c1,c2,ca,cf⟩).p1).n) (((zQg w h ⟨c0,c1,c2,ca,cf⟩).p1).xs),dJ (((zQg w h ⟨c0,c1,c2,ca,cf⟩).p2).w),dJ (((zQg w h ⟨c0,c1,c2,ca,cf⟩).p2).h),dJ (((zQg w h ⟨c0,c1,c2,ca,cf⟩).p2).s),dS (((zQg w h ⟨c0,c1,c2,ca,cf⟩).p2).n) (((zQg w h ⟨c0,c1,c2,ca,cf⟩).p2).xs),dJ (((zQg w h ⟨c0,c1,c2,ca,cf⟩).p3).w),dJ (((zQg w h ⟨c0,c1,c2,ca,cf⟩).p3).h),dJ (((zQg w h ⟨c0,c1,c2,ca,cf⟩).p3).s),dS (((zQg w h ⟨c0,c1,c2,ca,cf⟩).p3).n) (((zQg w h ⟨c0,c1,c2,ca,cf⟩).p3).xs),dJ (((zQg w h ⟨c0,c1,c2,ca,cf⟩).p4).w),dJ (((zQg w h ⟨c0,c1,c2,ca,cf⟩).p4).h),dJ (((zQg w h ⟨c0,c1,c2,ca,cf⟩).p4).s),dS (((zQg w h ⟨c0,c1,c2,ca,cf⟩).p4).n) (((zQg w h ⟨c0,c1,c2,ca,cf⟩).p4).xs)]):=
 zQj (Γ:=gamI) Ann.leaf zQs Tryz.func22 rfl (nL rfl) fun hwf=>by
  refine Eq.mpr (by kernel_rfl:_=(let a:=(zQg w h ⟨c0,c1,c2,ca,cf⟩).p0; let b:=(zQg w h ⟨c0,c1,c2,ca,cf⟩).p1; let d:=(zQg w h ⟨c0,c1,c2,ca,cf⟩).p2; let e:=(zQg w h ⟨c0,c1,c2,ca,cf⟩).p3; let f:=(zQg w h ⟨c0,c1,c2,ca,cf⟩).p4; let g:=(zQg w h ⟨c0,c1,c2,ca,cf⟩).c; tU7 (RV.agg [dJ w,dJ h,dQ true,dK c0,dK c1,dK c2,dK ca,dK cf,dJ 0,dJ 0,dJ 0,dS 0 ([]),dJ 0,dJ 0,dJ 0,dS 0 ([]),dJ 0,dJ 0,dJ 0,dS 0 ([]),dJ 0,dJ 0,dJ 0,dS 0 ([]),dJ 0,dJ 0,dJ 0,dS 0 ([])]=RV.agg [dJ (zQg w h ⟨c0,c1,c2,ca,cf⟩).w,dJ (zQg w h ⟨c0,c1,c2,ca,cf⟩).h,dQ (zQg w h ⟨c0,c1,c2,ca,cf⟩).so,dK g.a,dK g.b,dK g.c,dK g.al,dK g.f,dJ a.w,dJ a.h,dJ a.s,dS a.n a.xs,dJ b.w,dJ b.h,dJ b.s,dS b.n b.xs,dJ d.w,dJ d.h,dJ d.s,dS d.n d.xs,dJ e.w,dJ e.h,dJ e.s,dS e.n e.xs,dJ f.w,dJ f.h,dJ f.s,dS f.n f.xs]))) ?_
  delta dJ dK dQ dS
  simp only [sS,zQI,zQD,zQQ,zQL,zQV,zQW,zZd,zJR]
  simp [zQg,Pl.none,Px.zero]
end
section
attribute [local go_sem] Oper.semAt_some
theorem jZs {w:World} {a b:Bool × List DV} {l:Array Value} (h:jQD w [a,b] l.toList):∃ x y,l=#[x,y]∧jXm w a x∧jXm w b y:=by
 obtain ⟨l⟩:=l
 match l,h with
 | [x,y],h=>exact ⟨x,y,rfl,h.1,h.2.1⟩
theorem zHl {w:World} {n:Int} {v:Value} (h:jXm w (true,[.int .i64 n]) v):∃ g,v=.pointer (some ⟨g,0,none⟩)∧w.cell? ⟨g,0,none⟩=some (.int .i64 n):=by
 obtain ⟨g,e,h⟩:=h
 obtain ⟨u,hu,hc⟩:=h 0 _ rfl
 simp [DV.plain] at hu
 subst hu
 exact ⟨g,e,hc⟩
theorem RoundIn.any {n:Nat} {P:Program} {l:Nat} {f:FuncId} {tmps:Array Value} {assign body:Code} {w:World} {R:Ending→World→Prop} (h:RoundIn Fence.wide n P l f tmps assign body w R) (m:Nat):RoundIn Fence.wide m P l f tmps assign body w R:=
 ⟨h.1,fun c cs _=>h.2 c cs (room_wide _)⟩
set_option maxRecDepth 100000 in
set_option maxHeartbeats 2000000 in
theorem zWT (h w:Int) (hh:h≤16777216) (hw:w≤16777216):AnsI prog 128 [(true,[DV.int .i64 h]),(true,[DV.int .i64 w])] (w.toNat*h.toNat) (fun k=>[DV.int .i64 ((k % w.toNat:Nat):Int),DV.int .i64 ((k / w.toNat:Nat):Int)]):=by
 intro lb l m J Jx hcap hd hdx hround W hJ
 obtain ⟨a,b,rfl,ha,hb⟩:=jZs (hcap 0 W hJ)
 obtain ⟨gh,rfl,hch⟩:=zHl ha
 obtain ⟨gw,rfl,hcw⟩:=zHl hb
 have hc:∀ k W,J k W→W.cell? ⟨gh,0,none⟩=some (.int .i64 h)∧W.cell? ⟨gw,0,none⟩=some (.int .i64 w):=fun k W hk=>by
  obtain ⟨a,b,e,ha,hb⟩:=jZs (hcap k W hk)
  obtain ⟨g1,rfl,h1⟩:=zHl ha
  obtain ⟨g2,rfl,h2⟩:=zHl hb
  simp at e
  obtain ⟨rfl,rfl⟩:=e
  exact ⟨h1,h2⟩
 refine callsIn_of_wp Tryz.func128 rfl trivial ?_ rfl
 simp only [Tryz.ntmps128,List.size_toArray,List.length_cons,List.length_nil,Nat.reduceAdd,Nat.reduceSub,Array.replicate_succ,Array.replicate_zero,List.push_toArray,List.append_toArray,List.nil_append,List.cons_append]
 gi_wp2
 gi_loopg [7] (h.toNat) (fun g t7 wr=>∃ y:Nat,y≤h.toNat∧g=h.toNat - y∧t7=.int .i64 (y:Int)∧J (y*w.toNat) wr)
 case atStart=>exact ⟨0,by omega,by omega,rfl,by simpa using hJ⟩
 obtain ⟨y,hy,rfl,rfl,hJy⟩:=hrel
 have hc1:=(hc _ _ hJy).1
 have hc2:=(hc _ _ hJy).2
 by_cases hlt:(y:Int) < h
 ·gi_wp2
  gi_loopg [11] (w.toNat) (fun g t11 wr=>∃ x:Nat,x≤w.toNat∧g=w.toNat - x∧t11=.int .i64 (x:Int)∧J (y*w.toNat+x) wr)
  case atStart=>exact ⟨0,by omega,by omega,rfl,hJy⟩
  obtain ⟨x,hx,rfl,rfl,hJx⟩:=hrel
  by_cases hlx:(x:Int) < w
  ·have hW:0 < w.toNat:=by omega
   have hk:y*w.toNat+x < w.toNat*h.toNat:=by
    have h1:(y+1)*w.toNat≤h.toNat*w.toNat:=Nat.mul_le_mul_right _ (by omega)
    rw [Nat.mul_comm w.toNat,Nat.add_mul] at *
    omega
   have e1:(y*w.toNat+x) % w.toNat=x:=by rw [Nat.add_comm,Nat.add_mul_mod_self_right,Nat.mod_eq_of_lt (by omega)]
   have e2:(y*w.toNat+x) / w.toNat=y:=by rw [Nat.add_comm,Nat.add_mul_div_right _ _ hW,Nat.div_eq_of_lt (by omega),Nat.zero_add]
   have hY:=hround _ _ hk hJx
   simp only [e1,e2,zUp,List.map_cons,List.map_nil,DV.plain,Option.getD_some] at hY
   obtain ⟨f1,t1,a1,b1,hy1,hR1⟩:=hY
   gi_wp2
   refine ⟨fun h=>by (cases h),(RoundIn.any hR1 _).mono ?_⟩
   rintro e W1 (⟨rfl,hJ1⟩ | ⟨rfl,hx1⟩)
   ·have w1:IntKind.wrap .i64 ((x:Int)+1)=((x+1:Nat):Int):=by rw [IntWalk.i64_in _ ⟨by omega,by omega⟩]; omega
    gi_wp2
    gi_roundg (w.toNat - (x+1))
    ·exact ⟨x+1,by omega,rfl,by simp,hJ1⟩
    ·omega
   ·gi_wp2
    refine bodyPost_ret (results_none rfl _ _ _) rfl ?_
    exact ⟨⟨_,rfl⟩,.inr hx1⟩
  ·gi_wp2
   gi_roundg (h.toNat - (y+1))
   ·have hx':x=w.toNat:=by omega
    exact ⟨y+1,by omega,rfl,by simp,by rw [Nat.add_mul,Nat.one_mul]; rw [hx'] at hJx; exact hJx⟩
   ·omega
 ·have hy':y=h.toNat:=by omega
  gi_wp2
  go_end0
  exact ⟨⟨_,rfl⟩,.inl (by rw [Nat.mul_comm,← hy']; exact hJy)⟩
end
section
attribute [local irreducible] Ans AnsO AnsG AnsN AnsI
theorem zYd (w h:Int):AnsG prog 100 0 [aJ ((w)),aJ ((h))] [] ⟨AV.one (Cl.clo 128 [Cap.ptr 0 0,Cap.ptr 1 0]),[bC [cJ (h)],bC [cJ (w)]],false⟩:=
 zQy (Γ:=gamI) Ann.leaf zQs Tryz.func100 rfl (nL rfl) rfl fun hwf hbx=>by
  refine Eq.mpr (by kernel_rfl:_=(tU5 (((((0=0)∧(0=0)∧True)∧True)∧(([dJ h]=[dJ h])∧([dJ w]=[dJ w])∧True))∧zQm ⟨AV.one (Cl.clo 128 [Cap.ptr 0 0,Cap.ptr 1 0]),[bC [cJ h],bC [cJ w]],false⟩))) ?_
  delta dJ cJ bC
  simp only [sS,zQI,zQD,zQQ,zQT,zQL,zQV,zQW,zZd]
  simp [zQm]
theorem zUc (w h:Int) (so:Bool) (c0 c1 c2 ca cf w0 h0 s0:Int) (n0:Nat) (xs0:List DV) (w1 h1 s1:Int) (n1:Nat) (xs1:List DV) (w2 h2 s2:Int) (n2:Nat) (xs2:List DV) (w3 h3 s3:Int) (n3:Nat) (xs3:List DV) (w4 h4 s4:Int) (n4:Nat) (xs4:List DV) (most:Int) (hu:Im.isU ⟨w,h,so,⟨c0,c1,c2,ca,cf⟩,⟨w0,h0,s0,n0,xs0⟩,⟨w1,h1,s1,n1,xs1⟩,⟨w2,h2,s2,n2,xs2⟩,⟨w3,h3,s3,n3,xs3⟩,⟨w4,h4,s4,n4,xs4⟩⟩):Ans prog 94 [RV.agg [dJ w,dJ h,dQ so,dK c0,dK c1,dK c2,dK ca,dK cf,dJ w0,dJ h0,dJ s0,dS n0 xs0,dJ w1,dJ h1,dJ s1,dS n1 xs1,dJ w2,dJ h2,dJ s2,dS n2 xs2,dJ w3,dJ h3,dJ s3,dS n3 xs3,dJ w4,dJ h4,dJ s4,dS n4 xs4],RV.d (dK most)] (rJ ((Im.valid ⟨w,h,so,⟨c0,c1,c2,ca,cf⟩,⟨w0,h0,s0,n0,xs0⟩,⟨w1,h1,s1,n1,xs1⟩,⟨w2,h2,s2,n2,xs2⟩,⟨w3,h3,s3,n3,xs3⟩,⟨w4,h4,s4,n4,xs4⟩⟩ most))):=
 zQj (Γ:=gamI) (Ann.seq Ann.leaf (Ann.seq Ann.leaf (Ann.seq Ann.leaf (Ann.seq (Ann.seq Ann.leaf (Ann.range ⟨Nat,fun k=>k≤(w.toNat*h.toNat)∧Im.okTo ⟨w,h,so,⟨c0,c1,c2,ca,cf⟩,⟨w0,h0,s0,n0,xs0⟩,⟨w1,h1,s1,n1,xs1⟩,⟨w2,h2,s2,n2,xs2⟩,⟨w3,h3,s3,n3,xs3⟩,⟨w4,h4,s4,n4,xs4⟩⟩ most k=true,fun k=>⟨[(2,AV.one (Cl.ptr 2 0)),(3,AV.one (Cl.ptr 3 0)),(4,AV.one (Cl.ptr 4 0)),(24,AV.one (Cl.clo 128 [Cap.ptr 1024 0,Cap.ptr 2024 0]))],[(2,bC [cJ w,cJ h,Cl.d (dQ so),cK c0,cK c1,cK c2,cK ca,cK cf,cJ w0,cJ h0,cJ s0,Cl.d (dS n0 xs0),cJ w1,cJ h1,cJ s1,Cl.d (dS n1 xs1),cJ w2,cJ h2,cJ s2,Cl.d (dS n2 xs2),cJ w3,cJ h3,cJ s3,Cl.d (dS n3 xs3),cJ w4,cJ h4,cJ s4,Cl.d (dS n4 xs4)]),(3,bC [cK most]),(4,bC [cJ 0]),(1024,bC [cJ h]),(2024,bC [cJ w])]⟩,fun k=>k⟩ [2,3,4,24] (fun k=>Ann.leaf) (fun k=>Ann.leaf))) Ann.leaf)))) zQs Tryz.func94 rfl (nL rfl) fun hwf=>by
  refine Eq.mpr (by kernel_rfl:_=(let i:=[(true,[dJ h]),(true,[dJ w])]; let d:=(w.toNat*h.toNat); let g:=[dJ w,dJ h,dQ so,dK c0,dK c1,dK c2,dK ca,dK cf,dJ w0,dJ h0,dJ s0,dS n0 xs0,dJ w1,dJ h1,dJ s1,dS n1 xs1,dJ w2,dJ h2,dJ s2,dS n2 xs2,dJ w3,dJ h3,dJ s3,dS n3 xs3,dJ w4,dJ h4,dJ s4,dS n4 xs4]; let n:=(Im.shape ⟨w,h,so,⟨c0,c1,c2,ca,cf⟩,⟨w0,h0,s0,n0,xs0⟩,⟨w1,h1,s1,n1,xs1⟩,⟨w2,h2,s2,n2,xs2⟩,⟨w3,h3,s3,n3,xs3⟩,⟨w4,h4,s4,n4,xs4⟩⟩); let o:=(dJ n); let p:=(n != 0); let e:=(dJ (Im.valid ⟨w,h,so,⟨c0,c1,c2,ca,cf⟩,⟨w0,h0,s0,n0,xs0⟩,⟨w1,h1,s1,n1,xs1⟩,⟨w2,h2,s2,n2,xs2⟩,⟨w3,h3,s3,n3,xs3⟩,⟨w4,h4,s4,n4,xs4⟩⟩ most)); let j:=(Px.ok ⟨c0,c1,c2,ca,cf⟩ most); let l:=fun (_k:Nat)=>[dJ ((_k % w.toNat:Nat):Int),dJ ((_k / w.toNat:Nat):Int)]; let q:=fun (k:Nat)=>(k≤d∧Im.okTo ⟨w,h,so,⟨c0,c1,c2,ca,cf⟩,⟨w0,h0,s0,n0,xs0⟩,⟨w1,h1,s1,n1,xs1⟩,⟨w2,h2,s2,n2,xs2⟩,⟨w3,h3,s3,n3,xs3⟩,⟨w4,h4,s4,n4,xs4⟩⟩ most k=true); let r:=(((0=0)∧(0=0)∧(0=0)∧((0=0)∧(0=0)∧True)∧True)∧((g=g)∧([dK most]=[dK most])∧([dJ 0]=[dJ 0])∧([dJ h]=[dJ h])∧([dJ w]=[dJ w])∧True)); let s:=fun (k:Nat)=>[dK (Im.px ⟨w,h,so,⟨c0,c1,c2,ca,cf⟩,⟨w0,h0,s0,n0,xs0⟩,⟨w1,h1,s1,n1,xs1⟩,⟨w2,h2,s2,n2,xs2⟩,⟨w3,h3,s3,n3,xs3⟩,⟨w4,h4,s4,n4,xs4⟩⟩ ((k % w.toNat:Nat):Int) ((k / w.toNat:Nat):Int)).a,dK (Im.px ⟨w,h,so,⟨c0,c1,c2,ca,cf⟩,⟨w0,h0,s0,n0,xs0⟩,⟨w1,h1,s1,n1,xs1⟩,⟨w2,h2,s2,n2,xs2⟩,⟨w3,h3,s3,n3,xs3⟩,⟨w4,h4,s4,n4,xs4⟩⟩ ((k % w.toNat:Nat):Int) ((k / w.toNat:Nat):Int)).b,dK (Im.px ⟨w,h,so,⟨c0,c1,c2,ca,cf⟩,⟨w0,h0,s0,n0,xs0⟩,⟨w1,h1,s1,n1,xs1⟩,⟨w2,h2,s2,n2,xs2⟩,⟨w3,h3,s3,n3,xs3⟩,⟨w4,h4,s4,n4,xs4⟩⟩ ((k % w.toNat:Nat):Int) ((k / w.toNat:Nat):Int)).c,dK (Im.px ⟨w,h,so,⟨c0,c1,c2,ca,cf⟩,⟨w0,h0,s0,n0,xs0⟩,⟨w1,h1,s1,n1,xs1⟩,⟨w2,h2,s2,n2,xs2⟩,⟨w3,h3,s3,n3,xs3⟩,⟨w4,h4,s4,n4,xs4⟩⟩ ((k % w.toNat:Nat):Int) ((k / w.toNat:Nat):Int)).al,dK (Im.px ⟨w,h,so,⟨c0,c1,c2,ca,cf⟩,⟨w0,h0,s0,n0,xs0⟩,⟨w1,h1,s1,n1,xs1⟩,⟨w2,h2,s2,n2,xs2⟩,⟨w3,h3,s3,n3,xs3⟩,⟨w4,h4,s4,n4,xs4⟩⟩ ((k % w.toNat:Nat):Int) ((k / w.toNat:Nat):Int)).f]; tU4 ((Ans prog 121 [RV.agg g] (RV.d o))∧tU3 ((p=true→tU2 (RV.d o=RV.d e))∧(p=false→tU2 ((so=true→tU3 ((Ans prog 122 [RV.agg [dK c0,dK c1,dK c2,dK ca,dK cf],RV.d (dK most)] (RV.d (dQ j)))∧True∧(((!j)=true→True∧rJ 8=RV.d e)∧((!j)=false→True∧rJ 0=RV.d e))))∧(so=false→tU4 ((AnsG prog 100 0 [aJ w,aJ h] [] ⟨AV.one (Cl.clo 128 [Cap.ptr 0 0,Cap.ptr 1 0]),[bC [cJ h],bC [cJ w]],false⟩)∧(AnsI prog 128 i d (fun _k=>(l _k)))∧(∀ _k,_k < d→(l _k).length=2∧zJ5 (l _k))∧(∃ k:Nat,(q k)∧(k=0)∧r)∧(∀ k:Nat,let m:=(Px.ok (Im.px ⟨w,h,so,⟨c0,c1,c2,ca,cf⟩,⟨w0,h0,s0,n0,xs0⟩,⟨w1,h1,s1,n1,xs1⟩,⟨w2,h2,s2,n2,xs2⟩,⟨w3,h3,s3,n3,xs3⟩,⟨w4,h4,s4,n4,xs4⟩⟩ ((k % w.toNat:Nat):Int) ((k / w.toNat:Nat):Int)) most); (q k)→((some i:Option (List (Bool × List DV)))=some i)∧(k < d→tU5 ((Ans prog 101 [RV.agg g,rJ ((k % w.toNat:Nat):Int),rJ ((k / w.toNat:Nat):Int)] (RV.agg (s k)))∧True∧(Ans prog 122 [RV.agg (s k),RV.d (dK most)] (RV.d (dQ m)))∧True∧(true=true)∧(((!m)=true→True∧rJ 8=RV.d e)∧((!m)=false→∃ k':Nat,(k'≤d∧Im.okTo ⟨w,h,so,⟨c0,c1,c2,ca,cf⟩,⟨w0,h0,s0,n0,xs0⟩,⟨w1,h1,s1,n1,xs1⟩,⟨w2,h2,s2,n2,xs2⟩,⟨w3,h3,s3,n3,xs3⟩,⟨w4,h4,s4,n4,xs4⟩⟩ most k'=true)∧(k'=k+1)∧r))))∧(k=d→True∧rJ 0=RV.d e)))))))))) ?_
  delta dJ dK dQ cJ dS rJ aJ bC
  simp only [sS,zQI,zQD,zQQ,zQT,zQL,zQV,zQW,zZd,zYd]
  obtain ⟨m,hm⟩:∃ m:Im,m=⟨w,h,so,⟨c0,c1,c2,ca,cf⟩,⟨w0,h0,s0,n0,xs0⟩,⟨w1,h1,s1,n1,xs1⟩,⟨w2,h2,s2,n2,xs2⟩,⟨w3,h3,s3,n3,xs3⟩,⟨w4,h4,s4,n4,xs4⟩⟩:=⟨_,rfl⟩
  have pix:=fun (x y:Int) (hf:Im.inner ⟨w,h,so,⟨c0,c1,c2,ca,cf⟩,⟨w0,h0,s0,n0,xs0⟩,⟨w1,h1,s1,n1,xs1⟩,⟨w2,h2,s2,n2,xs2⟩,⟨w3,h3,s3,n3,xs3⟩,⟨w4,h4,s4,n4,xs4⟩⟩=true) hx hy=>zJQ w h so c0 c1 c2 ca cf w0 h0 s0 n0 xs0 w1 h1 s1 n1 xs1 w2 h2 s2 n2 xs2 w3 h3 s3 n3 xs3 w4 h4 s4 n4 xs4 x y hu hf hx hy
  have ew:w=m.w:=by rw [hm]
  have eh:h=m.h:=by rw [hm]
  have es:so=m.so:=by rw [hm]
  have ec:(⟨c0,c1,c2,ca,cf⟩:Px)=m.c:=by rw [hm]
  rw [← hm] at pix hu
  simp only [← hm]
  refine ⟨fun q1=>(Im.valid_shape _ (by simpa using q1)).symm,fun q1=>?_⟩
  have q1:m.shape=0:=by simpa using q1
  obtain ⟨qf,qi⟩:=Im.shape_zero q1
  obtain ⟨f1,f2,f3,f4,f5⟩:=zXi qf
  refine ⟨fun hs=>?_,fun hs=>?_⟩
  ·rw [Im.valid_solid q1 (es ▸ hs),ec]
   cases m.c.ok most <;> simp
  ·rw [Im.valid_planes q1 (es ▸ hs),ew,eh]
   refine ⟨zWT m.h m.w f4 f3,jZ0 qf,⟨0,⟨Nat.zero_le _,rfl⟩,rfl⟩,fun k hk=>⟨fun hlt=>?_,fun he=>?_⟩⟩
   ·have hin:=Im.nth_in qf hlt
    have hs1:=Im.okTo_succ m most k
    have hle:=fun hn=>Im.okTo_le (m:=m) (most:=most) (k:=k+1) (n:=m.w.toNat*m.h.toNat) (by omega) hn
    rw [ew,eh] at pix
    refine ⟨pix _ _ qi hin.1 hin.2,zQT _ _ _ _ _ _,fun hb=>?_,fun hb=>⟨k+1,⟨by omega,?_⟩,rfl⟩⟩
    ·have hb:(m.nth k).ok most=false:=hb
     have:¬ m.okTo most (m.w.toNat*m.h.toNat)=true:=fun hn=>by
      have:=hle hn
      rw [hs1,hb] at this
      simp at this
     rw [if_neg this]
    ·have hb:(m.nth k).ok most=true:=hb
     rw [hs1,hk.2,hb]; rfl
   ·rw [← he,if_pos hk.2]
theorem zWi (w h:Int) (so:Bool) (c0 c1 c2 ca cf w0 h0 s0:Int) (n0:Nat) (xs0:List DV) (w1 h1 s1:Int) (n1:Nat) (xs1:List DV) (w2 h2 s2:Int) (n2:Nat) (xs2:List DV) (w3 h3 s3:Int) (n3:Nat) (xs3:List DV) (w4 h4 s4:Int) (n4:Nat) (xs4:List DV) (hu:Im.isU ⟨w,h,so,⟨c0,c1,c2,ca,cf⟩,⟨w0,h0,s0,n0,xs0⟩,⟨w1,h1,s1,n1,xs1⟩,⟨w2,h2,s2,n2,xs2⟩,⟨w3,h3,s3,n3,xs3⟩,⟨w4,h4,s4,n4,xs4⟩⟩):AnsO prog 61 [RV.agg [dJ w,dJ h,dQ so,dK c0,dK c1,dK c2,dK ca,dK cf,dJ w0,dJ h0,dJ s0,dS n0 xs0,dJ w1,dJ h1,dJ s1,dS n1 xs1,dJ w2,dJ h2,dJ s2,dS n2 xs2,dJ w3,dJ h3,dJ s3,dS n3 xs3,dJ w4,dJ h4,dJ s4,dS n4 xs4]] 37 5 ((Im.pixels ⟨w,h,so,⟨c0,c1,c2,ca,cf⟩,⟨w0,h0,s0,n0,xs0⟩,⟨w1,h1,s1,n1,xs1⟩,⟨w2,h2,s2,n2,xs2⟩,⟨w3,h3,s3,n3,xs3⟩,⟨w4,h4,s4,n4,xs4⟩⟩).length) (pxs (Im.pixels ⟨w,h,so,⟨c0,c1,c2,ca,cf⟩,⟨w0,h0,s0,n0,xs0⟩,⟨w1,h1,s1,n1,xs1⟩,⟨w2,h2,s2,n2,xs2⟩,⟨w3,h3,s3,n3,xs3⟩,⟨w4,h4,s4,n4,xs4⟩⟩)):=
 zX3 (t:=2) (Γ:=gamI) (Ann.seq Ann.leaf (Ann.seq Ann.leaf (Ann.seq Ann.leaf (Ann.seq (Ann.seq Ann.leaf (Ann.range ⟨Nat,fun k=>k≤(w.toNat*h.toNat),fun k=>⟨[(1,AV.one (Cl.ptr 1 0)),(3,AV.one (Cl.ptr 3 0)),(19,AV.one (Cl.clo 128 [Cap.ptr 1019 0,Cap.ptr 2019 0]))],[(1,bC [cJ w,cJ h,Cl.d (dQ so),cK c0,cK c1,cK c2,cK ca,cK cf,cJ w0,cJ h0,cJ s0,Cl.d (dS n0 xs0),cJ w1,cJ h1,cJ s1,Cl.d (dS n1 xs1),cJ w2,cJ h2,cJ s2,Cl.d (dS n2 xs2),cJ w3,cJ h3,cJ s3,Cl.d (dS n3 xs3),cJ w4,cJ h4,cJ s4,Cl.d (dS n4 xs4)]),(3,bC [Cl.ref 5000 k]),(1019,bC [cJ h]),(2019,bC [cJ w]),(5000,Bx.row 37 5 (pxs (Im.list ⟨w,h,so,⟨c0,c1,c2,ca,cf⟩,⟨w0,h0,s0,n0,xs0⟩,⟨w1,h1,s1,n1,xs1⟩,⟨w2,h2,s2,n2,xs2⟩,⟨w3,h3,s3,n3,xs3⟩,⟨w4,h4,s4,n4,xs4⟩⟩ k)))]⟩,fun k=>k⟩ [1,3,19] (fun k=>Ann.leaf) (fun k=>Ann.leaf))) Ann.leaf)))) zQs Tryz.func61 rfl (nL rfl) rfl fun hwf=>by
  refine Eq.mpr (by kernel_rfl:_=(let i:=[(true,[dJ h]),(true,[dJ w])]; let d:=(w.toNat*h.toNat); let g:=[dJ w,dJ h,dQ so,dK c0,dK c1,dK c2,dK ca,dK cf,dJ w0,dJ h0,dJ s0,dS n0 xs0,dJ w1,dJ h1,dJ s1,dS n1 xs1,dJ w2,dJ h2,dJ s2,dS n2 xs2,dJ w3,dJ h3,dJ s3,dS n3 xs3,dJ w4,dJ h4,dJ s4,dS n4 xs4]; let j:=(Im.formed ⟨w,h,so,⟨c0,c1,c2,ca,cf⟩,⟨w0,h0,s0,n0,xs0⟩,⟨w1,h1,s1,n1,xs1⟩,⟨w2,h2,s2,n2,xs2⟩,⟨w3,h3,s3,n3,xs3⟩,⟨w4,h4,s4,n4,xs4⟩⟩); let e:=(Im.pixels ⟨w,h,so,⟨c0,c1,c2,ca,cf⟩,⟨w0,h0,s0,n0,xs0⟩,⟨w1,h1,s1,n1,xs1⟩,⟨w2,h2,s2,n2,xs2⟩,⟨w3,h3,s3,n3,xs3⟩,⟨w4,h4,s4,n4,xs4⟩⟩); let l:=fun (_k:Nat)=>[dJ ((_k % w.toNat:Nat):Int),dJ ((_k / w.toNat:Nat):Int)]; let o:=((0=0)∧(0=0)∧((0=0)∧(0=0)∧True)∧True); let p:=(g=g); let q:=([dJ h]=[dJ h]); let r:=([dJ w]=[dJ w]); let m:=fun (k:Nat)=>(Im.list ⟨w,h,so,⟨c0,c1,c2,ca,cf⟩,⟨w0,h0,s0,n0,xs0⟩,⟨w1,h1,s1,n1,xs1⟩,⟨w2,h2,s2,n2,xs2⟩,⟨w3,h3,s3,n3,xs3⟩,⟨w4,h4,s4,n4,xs4⟩⟩ k); let n:=fun (k:Nat)=>[dK (Im.px ⟨w,h,so,⟨c0,c1,c2,ca,cf⟩,⟨w0,h0,s0,n0,xs0⟩,⟨w1,h1,s1,n1,xs1⟩,⟨w2,h2,s2,n2,xs2⟩,⟨w3,h3,s3,n3,xs3⟩,⟨w4,h4,s4,n4,xs4⟩⟩ ((k % w.toNat:Nat):Int) ((k / w.toNat:Nat):Int)).a,dK (Im.px ⟨w,h,so,⟨c0,c1,c2,ca,cf⟩,⟨w0,h0,s0,n0,xs0⟩,⟨w1,h1,s1,n1,xs1⟩,⟨w2,h2,s2,n2,xs2⟩,⟨w3,h3,s3,n3,xs3⟩,⟨w4,h4,s4,n4,xs4⟩⟩ ((k % w.toNat:Nat):Int) ((k / w.toNat:Nat):Int)).b,dK (Im.px ⟨w,h,so,⟨c0,c1,c2,ca,cf⟩,⟨w0,h0,s0,n0,xs0⟩,⟨w1,h1,s1,n1,xs1⟩,⟨w2,h2,s2,n2,xs2⟩,⟨w3,h3,s3,n3,xs3⟩,⟨w4,h4,s4,n4,xs4⟩⟩ ((k % w.toNat:Nat):Int) ((k / w.toNat:Nat):Int)).c,dK (Im.px ⟨w,h,so,⟨c0,c1,c2,ca,cf⟩,⟨w0,h0,s0,n0,xs0⟩,⟨w1,h1,s1,n1,xs1⟩,⟨w2,h2,s2,n2,xs2⟩,⟨w3,h3,s3,n3,xs3⟩,⟨w4,h4,s4,n4,xs4⟩⟩ ((k % w.toNat:Nat):Int) ((k / w.toNat:Nat):Int)).al,dK (Im.px ⟨w,h,so,⟨c0,c1,c2,ca,cf⟩,⟨w0,h0,s0,n0,xs0⟩,⟨w1,h1,s1,n1,xs1⟩,⟨w2,h2,s2,n2,xs2⟩,⟨w3,h3,s3,n3,xs3⟩,⟨w4,h4,s4,n4,xs4⟩⟩ ((k % w.toNat:Nat):Int) ((k / w.toNat:Nat):Int)).f]; let s:=fun (k:Nat)=>(pxs (m k)); tU3 ((Ans prog 99 [RV.agg g] (RV.d (dQ j)))∧True∧(((!j)=true→True∧e.length=0∧pxs e=[])∧((!j)=false→tU5 ((0≤(0:Int)∧(0:Int)≤wK (w*h)∧wK (w*h)≤(maxLen:Int)∧((10:Nat):Int)*(wK (w*h))≤281474976710656)∧tU6 ((AnsG prog 100 0 [aJ w,aJ h] [] ⟨AV.one (Cl.clo 128 [Cap.ptr 0 0,Cap.ptr 1 0]),[bC [cJ h],bC [cJ w]],false⟩)∧(AnsI prog 128 i d (fun _k=>(l _k)))∧(∀ _k,_k < d→(l _k).length=2∧zJ5 (l _k))∧(∃ k:Nat,(k≤d)∧(k=0)∧(o∧(p∧(((0:Int).toNat=k)∧True)∧q∧r∧(repl (0:Int).toNat [dK 0,dK 0,dK 0,dK 0,dK 0]=pxs (m k))∧True)))∧(∀ k:Nat,(k≤d)→((some i:Option (List (Bool × List DV)))=some i)∧(k < d→tU6 ((Ans prog 101 [RV.agg g,rJ ((k % w.toNat:Nat):Int),rJ ((k / w.toNat:Nat):Int)] (RV.agg (n k)))∧True∧(zZl 5 10 k 1 (s k) (n k))∧True∧(true=true)∧∃ k':Nat,(k'≤d)∧(k'=k+1)∧(o∧(p∧((k+1=k')∧True)∧q∧r∧((s k)++(n k)=pxs (Im.list ⟨w,h,so,⟨c0,c1,c2,ca,cf⟩,⟨w0,h0,s0,n0,xs0⟩,⟨w1,h1,s1,n1,xs1⟩,⟨w2,h2,s2,n2,xs2⟩,⟨w3,h3,s3,n3,xs3⟩,⟨w4,h4,s4,n4,xs4⟩⟩ k'))∧True))))∧(k=d→tU2 ((37=37∧5=5)∧(pxs e).length=e.length*5∧k=e.length∧pxs (m k)=pxs e)))))))))) ?_
  delta dJ dK dQ cJ wK dS rJ aJ bC
  simp only [sS,zQI,zQD,zQQ,zQT,zQL,zQV,zQW,zZd,zYd]
  obtain ⟨m,hm⟩:∃ m:Im,m=⟨w,h,so,⟨c0,c1,c2,ca,cf⟩,⟨w0,h0,s0,n0,xs0⟩,⟨w1,h1,s1,n1,xs1⟩,⟨w2,h2,s2,n2,xs2⟩,⟨w3,h3,s3,n3,xs3⟩,⟨w4,h4,s4,n4,xs4⟩⟩:=⟨_,rfl⟩
  have pix:=fun (x y:Int) (hf:Im.inner ⟨w,h,so,⟨c0,c1,c2,ca,cf⟩,⟨w0,h0,s0,n0,xs0⟩,⟨w1,h1,s1,n1,xs1⟩,⟨w2,h2,s2,n2,xs2⟩,⟨w3,h3,s3,n3,xs3⟩,⟨w4,h4,s4,n4,xs4⟩⟩=true) hx hy=>zJQ w h so c0 c1 c2 ca cf w0 h0 s0 n0 xs0 w1 h1 s1 n1 xs1 w2 h2 s2 n2 xs2 w3 h3 s3 n3 xs3 w4 h4 s4 n4 xs4 x y hu hf hx hy
  have ew:w=m.w:=by rw [hm]
  have eh:h=m.h:=by rw [hm]
  have es:so=m.so:=by rw [hm]
  have ec:(⟨c0,c1,c2,ca,cf⟩:Px)=m.c:=by rw [hm]
  rw [← hm] at pix hu
  simp only [← hm]
  have p0:m.formed=false→m.pixels=[]:=fun h=>by simp [Im.pixels,h]
  have fx:m.formed=true→zQ8 m.w m.h=true∧m.inner=true:=Im.formed_of
  rw [ew,eh] at pix
  rw [ew,eh]
  refine ⟨fun q1=>by rw [p0 q1]; exact ⟨rfl,rfl⟩,fun q1=>?_⟩
  obtain ⟨qf,qi⟩:=fx q1
  obtain ⟨f1,f2,f3,f4,f5⟩:=zXi qf
  obtain ⟨n1,n2⟩:=Im.count_le qf
  have wm:IntKind.wrap .i64 (m.w*m.h)=m.w*m.h:=IntWalk.i64_in _ ⟨by omega,by omega⟩
  rw [wm]
  refine ⟨⟨by omega,by omega,by unfold maxLen; omega,by omega⟩,zWT m.h m.w f4 f3,jZ0 qf,⟨0,Nat.zero_le _,rfl,rfl,rfl⟩,fun k hk=>⟨fun hlt=>?_,fun he=>?_⟩⟩
  ·have hin:=Im.nth_in qf hlt
   refine ⟨pix _ _ qi hin.1 hin.2,⟨by rw [zZs,Im.list_len],rfl,by unfold maxLen; omega,by omega⟩,k+1,by omega,rfl,rfl,?_⟩
   exact Im.pxs_succ m k
  ·rw [Im.pixels_of q1,he,Im.list_len,zZs,Im.list_len]
   exact ⟨rfl,rfl,rfl⟩
theorem zYP (w h:Int) (so:Bool) (c0 c1 c2 ca cf w0 h0 s0:Int) (n0:Nat) (xs0:List DV) (w1 h1 s1:Int) (n1:Nat) (xs1:List DV) (w2 h2 s2:Int) (n2:Nat) (xs2:List DV) (w3 h3 s3:Int) (n3:Nat) (xs3:List DV) (w4 h4 s4:Int) (n4:Nat) (xs4:List DV) (hu:Im.isU ⟨w,h,so,⟨c0,c1,c2,ca,cf⟩,⟨w0,h0,s0,n0,xs0⟩,⟨w1,h1,s1,n1,xs1⟩,⟨w2,h2,s2,n2,xs2⟩,⟨w3,h3,s3,n3,xs3⟩,⟨w4,h4,s4,n4,xs4⟩⟩):AnsO prog 33 [RV.agg [dJ w,dJ h,dQ so,dK c0,dK c1,dK c2,dK ca,dK cf,dJ w0,dJ h0,dJ s0,dS n0 xs0,dJ w1,dJ h1,dJ s1,dS n1 xs1,dJ w2,dJ h2,dJ s2,dS n2 xs2,dJ w3,dJ h3,dJ s3,dS n3 xs3,dJ w4,dJ h4,dJ s4,dS n4 xs4]] 37 5 ((Im.pixels ⟨w,h,so,⟨c0,c1,c2,ca,cf⟩,⟨w0,h0,s0,n0,xs0⟩,⟨w1,h1,s1,n1,xs1⟩,⟨w2,h2,s2,n2,xs2⟩,⟨w3,h3,s3,n3,xs3⟩,⟨w4,h4,s4,n4,xs4⟩⟩).length) (pxs (Im.pixels ⟨w,h,so,⟨c0,c1,c2,ca,cf⟩,⟨w0,h0,s0,n0,xs0⟩,⟨w1,h1,s1,n1,xs1⟩,⟨w2,h2,s2,n2,xs2⟩,⟨w3,h3,s3,n3,xs3⟩,⟨w4,h4,s4,n4,xs4⟩⟩)):=
 zX3 (t:=2) (Γ:=gamI) (let a:=fun (yy:Nat)=>(4,aJ (yy:Int)); let b:=(1,bC [cJ w,cJ h,Cl.d (dQ so),cK c0,cK c1,cK c2,cK ca,cK cf,cJ w0,cJ h0,cJ s0,Cl.d (dS n0 xs0),cJ w1,cJ h1,cJ s1,Cl.d (dS n1 xs1),cJ w2,cJ h2,cJ s2,Cl.d (dS n2 xs2),cJ w3,cJ h3,cJ s3,Cl.d (dS n3 xs3),cJ w4,cJ h4,cJ s4,Cl.d (dS n4 xs4)]); (Ann.seq Ann.leaf (Ann.seq Ann.leaf (Ann.seq Ann.leaf (Ann.seq (Ann.seq Ann.leaf (Ann.loop ⟨Nat,fun yy=>yy≤h.toNat,fun yy=>⟨[(1,AV.one (Cl.ptr 1 0)),(3,AV.one (Cl.ref 5000 (yy*w.toNat))),(a yy)],[b,(5000,Bx.row 37 5 (pxs (Im.list ⟨w,h,so,⟨c0,c1,c2,ca,cf⟩,⟨w0,h0,s0,n0,xs0⟩,⟨w1,h1,s1,n1,xs1⟩,⟨w2,h2,s2,n2,xs2⟩,⟨w3,h3,s3,n3,xs3⟩,⟨w4,h4,s4,n4,xs4⟩⟩ (yy*w.toNat))))]⟩,fun yy=>h.toNat - yy⟩ fun yy=>(Ann.seq Ann.leaf (Ann.seq (Ann.seq Ann.leaf (Ann.loop ⟨Nat,fun xx=>xx≤w.toNat,fun xx=>⟨[(1,AV.one (Cl.ptr 1 0)),(3,AV.one (Cl.ref 6000 (yy*w.toNat+xx))),(a yy),(5,aJ (xx:Int))],[b,(6000,Bx.row 37 5 (pxs (Im.list ⟨w,h,so,⟨c0,c1,c2,ca,cf⟩,⟨w0,h0,s0,n0,xs0⟩,⟨w1,h1,s1,n1,xs1⟩,⟨w2,h2,s2,n2,xs2⟩,⟨w3,h3,s3,n3,xs3⟩,⟨w4,h4,s4,n4,xs4⟩⟩ (yy*w.toNat+xx))))]⟩,fun xx=>w.toNat - xx⟩ fun xx=>Ann.leaf)) Ann.leaf)))) Ann.leaf))))) zQs Tryz.func33 rfl (nL rfl) rfl fun hwf=>by
  refine Eq.mpr (by kernel_rfl:_=(let e:=[dJ w,dJ h,dQ so,dK c0,dK c1,dK c2,dK ca,dK cf,dJ w0,dJ h0,dJ s0,dS n0 xs0,dJ w1,dJ h1,dJ s1,dS n1 xs1,dJ w2,dJ h2,dJ s2,dS n2 xs2,dJ w3,dJ h3,dJ s3,dS n3 xs3,dJ w4,dJ h4,dJ s4,dS n4 xs4]; let i:=(Im.formed ⟨w,h,so,⟨c0,c1,c2,ca,cf⟩,⟨w0,h0,s0,n0,xs0⟩,⟨w1,h1,s1,n1,xs1⟩,⟨w2,h2,s2,n2,xs2⟩,⟨w3,h3,s3,n3,xs3⟩,⟨w4,h4,s4,n4,xs4⟩⟩); let d:=(Im.pixels ⟨w,h,so,⟨c0,c1,c2,ca,cf⟩,⟨w0,h0,s0,n0,xs0⟩,⟨w1,h1,s1,n1,xs1⟩,⟨w2,h2,s2,n2,xs2⟩,⟨w3,h3,s3,n3,xs3⟩,⟨w4,h4,s4,n4,xs4⟩⟩); let g:=(e=e); let j:=fun (yy:Nat)=>(Im.list ⟨w,h,so,⟨c0,c1,c2,ca,cf⟩,⟨w0,h0,s0,n0,xs0⟩,⟨w1,h1,s1,n1,xs1⟩,⟨w2,h2,s2,n2,xs2⟩,⟨w3,h3,s3,n3,xs3⟩,⟨w4,h4,s4,n4,xs4⟩⟩ (yy*w.toNat)); let m:=fun (yy:Nat)=>(dJ (yy:Int)=dJ (yy:Int)); let k:=fun (yy:Nat)=>fun (xx:Nat)=>(Im.list ⟨w,h,so,⟨c0,c1,c2,ca,cf⟩,⟨w0,h0,s0,n0,xs0⟩,⟨w1,h1,s1,n1,xs1⟩,⟨w2,h2,s2,n2,xs2⟩,⟨w3,h3,s3,n3,xs3⟩,⟨w4,h4,s4,n4,xs4⟩⟩ (yy*w.toNat+xx)); let l:=fun (yy:Nat)=>fun (xx:Nat)=>[dK (Im.px ⟨w,h,so,⟨c0,c1,c2,ca,cf⟩,⟨w0,h0,s0,n0,xs0⟩,⟨w1,h1,s1,n1,xs1⟩,⟨w2,h2,s2,n2,xs2⟩,⟨w3,h3,s3,n3,xs3⟩,⟨w4,h4,s4,n4,xs4⟩⟩ (xx:Int) (yy:Int)).a,dK (Im.px ⟨w,h,so,⟨c0,c1,c2,ca,cf⟩,⟨w0,h0,s0,n0,xs0⟩,⟨w1,h1,s1,n1,xs1⟩,⟨w2,h2,s2,n2,xs2⟩,⟨w3,h3,s3,n3,xs3⟩,⟨w4,h4,s4,n4,xs4⟩⟩ (xx:Int) (yy:Int)).b,dK (Im.px ⟨w,h,so,⟨c0,c1,c2,ca,cf⟩,⟨w0,h0,s0,n0,xs0⟩,⟨w1,h1,s1,n1,xs1⟩,⟨w2,h2,s2,n2,xs2⟩,⟨w3,h3,s3,n3,xs3⟩,⟨w4,h4,s4,n4,xs4⟩⟩ (xx:Int) (yy:Int)).c,dK (Im.px ⟨w,h,so,⟨c0,c1,c2,ca,cf⟩,⟨w0,h0,s0,n0,xs0⟩,⟨w1,h1,s1,n1,xs1⟩,⟨w2,h2,s2,n2,xs2⟩,⟨w3,h3,s3,n3,xs3⟩,⟨w4,h4,s4,n4,xs4⟩⟩ (xx:Int) (yy:Int)).al,dK (Im.px ⟨w,h,so,⟨c0,c1,c2,ca,cf⟩,⟨w0,h0,s0,n0,xs0⟩,⟨w1,h1,s1,n1,xs1⟩,⟨w2,h2,s2,n2,xs2⟩,⟨w3,h3,s3,n3,xs3⟩,⟨w4,h4,s4,n4,xs4⟩⟩ (xx:Int) (yy:Int)).f]; let n:=fun (yy:Nat)=>fun (xx:Nat)=>(pxs (k yy xx)); tU3 ((Ans prog 66 [RV.agg e] (RV.d (dQ i)))∧True∧(((!i)=true→True∧d.length=0∧pxs d=[])∧((!i)=false→tU2 ((∃ yy:Nat,(yy≤h.toNat)∧(((0=0)∧(0=yy*w.toNat)∧(dJ 0=dJ (yy:Int))∧True)∧(g∧([]=pxs (j yy))∧True)))∧∀ yy:Nat,(yy≤h.toNat)→tU4 (((decide ((yy:Int) < h))=true→True∧((∃ xx:Nat,(xx≤w.toNat)∧(((0=0)∧(yy*w.toNat=(yy*w.toNat+xx))∧(m yy)∧(dJ 0=dJ (xx:Int))∧True)∧(g∧(pxs (j yy)=pxs (k yy xx))∧True)))∧∀ xx:Nat,(xx≤w.toNat)→tU4 (((decide ((xx:Int) < w))=true→tU4 ((Ans prog 67 [RV.agg e,rJ (xx:Int),rJ (yy:Int)] (RV.agg (l yy xx)))∧True∧(zZl 5 10 (yy*w.toNat+xx) 1 (n yy xx) (l yy xx))∧tU4 (∃ xx':Nat,(xx'≤w.toNat)∧(w.toNat - xx' < w.toNat - xx)∧(((0=0)∧((yy*w.toNat+xx)+1=(yy*w.toNat+xx'))∧(m yy)∧(dJ (wK ((xx:Int)+1))=dJ (xx':Int))∧True)∧(g∧((n yy xx)++(l yy xx)=pxs (Im.list ⟨w,h,so,⟨c0,c1,c2,ca,cf⟩,⟨w0,h0,s0,n0,xs0⟩,⟨w1,h1,s1,n1,xs1⟩,⟨w2,h2,s2,n2,xs2⟩,⟨w3,h3,s3,n3,xs3⟩,⟨w4,h4,s4,n4,xs4⟩⟩ (yy*w.toNat+xx')))∧True)))))∧((decide ((xx:Int) < w))=false→tU3 (∃ yy':Nat,(yy'≤h.toNat)∧(h.toNat - yy' < h.toNat - yy)∧(((0=0)∧((yy*w.toNat+xx)=yy'*w.toNat)∧(dJ (wK ((yy:Int)+1))=dJ (yy':Int))∧True)∧(g∧(pxs (k yy xx)=pxs (Im.list ⟨w,h,so,⟨c0,c1,c2,ca,cf⟩,⟨w0,h0,s0,n0,xs0⟩,⟨w1,h1,s1,n1,xs1⟩,⟨w2,h2,s2,n2,xs2⟩,⟨w3,h3,s3,n3,xs3⟩,⟨w4,h4,s4,n4,xs4⟩⟩ (yy'*w.toNat)))∧True)))))))∧((decide ((yy:Int) < h))=false→tU2 ((37=37∧5=5)∧(pxs d).length=d.length*5∧yy*w.toNat=d.length∧pxs (j yy)=pxs d))))))))) ?_
  delta dJ dK dQ wK dS rJ
  simp only [sS,zQI,zQD,zQQ,zQT,zQL,zQV,zQW,zZd,zYd]
  obtain ⟨m,hm⟩:∃ m:Im,m=⟨w,h,so,⟨c0,c1,c2,ca,cf⟩,⟨w0,h0,s0,n0,xs0⟩,⟨w1,h1,s1,n1,xs1⟩,⟨w2,h2,s2,n2,xs2⟩,⟨w3,h3,s3,n3,xs3⟩,⟨w4,h4,s4,n4,xs4⟩⟩:=⟨_,rfl⟩
  have pix:=fun (x y:Int) (hf:Im.inner ⟨w,h,so,⟨c0,c1,c2,ca,cf⟩,⟨w0,h0,s0,n0,xs0⟩,⟨w1,h1,s1,n1,xs1⟩,⟨w2,h2,s2,n2,xs2⟩,⟨w3,h3,s3,n3,xs3⟩,⟨w4,h4,s4,n4,xs4⟩⟩=true) hx hy=>zHv w h so c0 c1 c2 ca cf w0 h0 s0 n0 xs0 w1 h1 s1 n1 xs1 w2 h2 s2 n2 xs2 w3 h3 s3 n3 xs3 w4 h4 s4 n4 xs4 x y hu hf hx hy
  have ew:w=m.w:=by rw [hm]
  have eh:h=m.h:=by rw [hm]
  have es:so=m.so:=by rw [hm]
  have ec:(⟨c0,c1,c2,ca,cf⟩:Px)=m.c:=by rw [hm]
  rw [← hm] at pix hu
  simp only [← hm]
  have p0:m.formed=false→m.pixels=[]:=fun h=>by simp [Im.pixels,h]
  have fx:m.formed=true→zQ8 m.w m.h=true∧m.inner=true:=Im.formed_of
  rw [ew,eh] at pix
  rw [ew,eh]
  refine ⟨fun q1=>by rw [p0 q1]; exact ⟨rfl,rfl⟩,fun q1=>?_⟩
  obtain ⟨qf,qi⟩:=fx q1
  obtain ⟨f1,f2,f3,f4,f5⟩:=zXi qf
  obtain ⟨n1,n2⟩:=Im.count_le qf
  refine ⟨⟨0,Nat.zero_le _,⟨by omega,rfl⟩,by rw [Nat.zero_mul]; rfl⟩,fun yy hy=>⟨fun hyl=>⟨⟨0,Nat.zero_le _,⟨by omega,rfl⟩,rfl⟩,fun xx hx=>⟨fun hxl=>?_,fun hxg=>?_⟩⟩,fun hyg=>?_⟩⟩
  ·have ha:=jVt (w:=m.w.toNat) (h:=m.h.toNat) (x:=xx) (y:=yy) (by omega) (by omega)
   refine ⟨pix _ _ qi ⟨by omega,by omega⟩ ⟨by omega,by omega⟩,⟨by rw [zZs,Im.list_len],rfl,by unfold maxLen; omega,by omega⟩,xx+1,by omega,by omega,⟨by omega,zXE (by omega)⟩,?_⟩
   have:=Im.pxs_succ m (yy*m.w.toNat+xx)
   rw [Im.nth_at (by omega)] at this
   exact this
  ·have hxe:xx=m.w.toNat:=by omega
   have e:yy*m.w.toNat+xx=(yy+1)*m.w.toNat:=by rw [Nat.add_mul,Nat.one_mul,hxe]
   exact ⟨yy+1,by omega,by omega,⟨e,zXE (by omega)⟩,by rw [e]⟩
  ·have hye:yy=m.h.toNat:=by omega
   rw [Im.pixels_of q1,hye,Nat.mul_comm m.h.toNat,Im.list_len,zZs,Im.list_len]
   exact ⟨rfl,rfl,rfl⟩
end
end Go.Proofs.YtheidkkebdhmkaaGreatDoor
