/-
  Part 3 of what TopTraceExplains rests on.
-/
import Derived.Test.YtbnmadpcdlnleaaGreatDoorTopTraceExplainsZ2
import Derived.RangeFuncCalls
import Derived.RegionIn
namespace Go.Proofs.YtbnmadpcdlnleaaGreatDoor
open Go.IntKind (wrap)
open Go.RowKit
set_option linter.unusedVariables false
set_option linter.unusedSimpArgs false
set_option maxRecDepth 20000
open Go.Proofs.Tryz (prog)
section
attribute [local irreducible] Ans AnsO AnsG AnsN AnsI
theorem jHi (e n:Nat) (b:Bool) (l:List Int):zZd ⟨.tup [.one (.ref 0 n),.one (.d (.bool b))],[.row e 1 (is l)],true⟩=True:=by
 simp only [zZd,AV.flatV,AV.flatVL,Cl.flatV,DV.flat,Bx.flatVL,Bx.flatV,true_and,and_true,eq_iff_iff,iff_true];intro d hd;obtain ⟨i,_,rfl⟩:=wQw.1 hd;rfl
def gamO:Gam:=gamM.add [.p 28 (λv=>some (rJ (atS (ints (cAt (uq v) 0)) (nAt (uq v) 1)))),
 .p 31 (λ| []=>some (RV.tup [RV.tup [rJ 3,rJ 1]]) | [.d (.sl n xs),.d (.int _ m)]=>some (RV.d (dS (zKA (ints xs) m).length (is (zKA (ints xs) m)))) | _=>none),
 .q 79 ([true,true],0,1) (λv b=>let e:=ints (cAt (ut v) 0);let f:=nAt (ut v) 1;let c:=zXw e f;some ⟨AV.tup [AV.one (Cl.ref 0 c.length),AV.one (Cl.d (dQ (zZ8 e f)))],[Bx.row 3 1 (is c)],true⟩)]
def aR (a:Int) (b:Nat):Nat:=Int.toNat a*b
def bI (a b c:Prop):Prop:=True/\True/\True/\(a->True/\True/\b)/\c
def mY (a b:Int) (c:Prop):Prop:=decide (a>=b)=false->True/\c
def mX (a:Int) (b c:Nat) (d:List DV):Prop:=0<=a/\a<(b:Int)/\aR a c<List.length d
def dY (a b c:Prop):Prop:=True/\a/\b/\True/\c
def pI (a b:Int) (c d:Prop):Prop:=True/\True/\True/\(decide (a>=b)=true->True/\c)/\d
def dB (a b:Int):Prop:=gE a=gE b
def iG (a b:Int):Prop:=decide (a<b)=(!false)
def jW (a:List DV) (b:Int) (c:Nat):Prop:=a[aR b c]?=some (aB (nAt a (aR b c)))
def kR (a:Int):Prop:=decide (a<0)=false
def aEO (a:Int) (b:Prop):Prop:=iG a 0->True/\True/\b
theorem jHJ (n:Nat) (xs:List DV) (i:Int) (hx:xs=is (ints xs)/\n=xs.length):Ans prog 28 [rD (dS n xs),rJ (i)] (rJ ((atS (ints xs) i))):=
 wc gamO aL Tryz.func28 (let a:=dB 0 (atS (ints xs) i);True/\bI (kR i) (pI i (n:Int) a (mY i (n:Int) (dY (mX i n 1 xs) (jW xs i 1/\True) (dB (nAt xs (aR i 1)) (atS (ints xs) i))))) (aEO i a)) λhwf=>by
  delta eS aB aR gE bI mY mX dY pI dB iG jW kR aEO;simp only [sS,zQl];obtain ⟨hx,rfl⟩:=hx;generalize hl:ints xs=l at *;subst hx;simp only [zQE,wQr];refine ⟨λh1=>⟨λh2=>?_,λh2=>?_⟩,λh1=>by simp [atS,h1]⟩
  ·have:l[i.toNat]?=none:=wQM (by omega);simp [atS,h1,this]
  ·have h:i.toNat<l.length:=by omega
   refine ⟨by omega,?_,?_⟩
   ·rw [jQq h]; exact jKE h
   ·rw [jQq h]; simp [atS,h1,List.getElem?_eq_getElem h]
def aOE (a:Nat) (b:Cl):Nat × AV:=(a,AV.one b)
def cU (a:Ann):Ann:=Ann.seq Ann.leaf a
def aQV (a:Nat) (b:DV):Nat × AV:=aOE a (Cl.d b)
def mV (a:Nat) (b:DV) (c:we):we:=aQV a b::c
def gH (a:Nat) (b:DV) (c:Nat) (d:DV) (e:we):we:=mV a b (mV c d e)
def aJU (a:Nat) (b:Cl) (c:we):we:=aOE a b::c
def jA (a:Ann):Ann:=cU (cU a)
def cI (a:Nat):DV:=aB (a:Int)
def tN (a:Ann):Ann:=Ann.seq a Ann.leaf
def aRJ (a b c:Nat) (d:List DV):Nat × Bx:=(a,Bx.row b c d)
def aFB (a:Nat) (b:Int) (c:Nat) (d:DV) (e:we):we:=gH a (aB b) c d e
def zM (a:Ann):Ann:=tN (cU a)
def kU (a b c:Nat) (d:we):we:=aJU a (Cl.ref b c) d
def oB (a:Int) (b:Nat):Nat:=Int.toNat a-b
def kA (a b c:Nat) (d:List DV) (e:wg):wg:=aRJ a b c d::e
def mB (a:Nat) (b:Int):Prop:=a<=Int.toNat b
def aIK (a:Nat) (b:Int) (c d:Nat) (e:List DV) (f:we):we:=aFB a b c (DV.sl d e) f
def pL (a b:Nat) (c:we):we:=mV a (cI b) c
def zF (a b:Nat) (c:Int) (d:we):we:=kU a b (Int.toNat c) d
def rZ (a b:Nat) (c:List DV) (d:we):we:=mV a (DV.sl b c) d
def pQ (a b c:Nat) (d:List DV):wg:=kA a b c d []
def sA (a:Ann):Ann:=cU (zM a)
def xH (a:Ann):Ann:=cU (jA a)
def aES (a:we) (b c d:Nat) (e:List DV):Snap:=⟨a,pQ b c d e⟩
def aF (a b c d:Prop):Prop:=a/\b/\c/\d/\True
def aY (a b:Prop):Prop:=True/\a/\True/\True/\b
def bK (a:Int):Bool:=a==0
def uU (a:FuncId) (b:Int) (c:DV) (e:RV):Prop:=Ans prog a [RV.d (aB b),RV.d c] e
def aBV (a:Int) (b:DV) (c:Int):Prop:=uU 27 a b (gE (modS a c))
def aEP (a:Int) (b:List DV):DV:=DV.sl (Int.toNat a) b
def aN (a b:Prop):Prop:=a/\True/\True/\True/\b
def cR (a b c:Prop):Prop:=a/\b/\True/\True/\c
def iN (a b c:Prop):Prop:=a->True/\True/\b/\c
def aW (a b c:Prop):Prop:=a/\b/\c/\True
def mO (a:Int) (b:Nat):Prop:=0<=a/\a<(b:Int)
def iH (a b:Int) (c d:Prop):Prop:=True/\True/\True/\(decide (a>b)=true->True/\c)/\d
def iO (a b:Int) (c:Prop):Prop:=decide (a>b)=false->True/\c
def aV (a b:Nat):Nat:=aR (a:Int) b
def jB (a:Nat) (b:List DV):Prop:=a<=List.length b
def mE (a:Bool) (b:Prop):Prop:=a=(!false)->True/\b
def bS (a b:Nat):Prop:=aB (aT ((a:Int)+1))=cI b
def bP (a b c:Prop):Prop:=a->True/\b/\c
def fV (a b:DV) (c d:Prop):Prop:=aF (eS a) (eS b) c d
def iP (a b:Nat):Nat:=aV a b+1
def fQ (a b c:Prop):Prop:=True/\True/\True/\(a->b)/\c
def uX (a b:Int):Prop:=mO a (Int.toNat b)
def aET (a:Int) (b:DV) (c:List DV):Prop:=List.replicate (Int.toNat a) b=c
def dF (a:Nat):Prop:=aB 0=cI a
def pN (a:Int) (b:Nat) (c:List DV):List DV:=List.take (aR a b) c
def pO (a:Nat) (b:List Int):Prop:=a=List.length b
def iB (a:Prop):Prop:=aN (eS true) a
def jY (a b:Int):Prop:=decide (a>b)=true
def aBY (a:Nat) (b c:Prop):Prop:=iH (a:Int) 0 b c
def aBX (a:Int) (b c:Nat):Prop:=oB a b<oB a c
def pM (a:Int) (b:Nat):Prop:=0<=a/\a<=a/\a<=(maxLen:Int)/\(b:Int)*a<=281474976710656
def zG (a b c d:Prop):Prop:=fQ a (True/\True/\True/\b/\c) d
theorem zGN (n:Nat) (xs:List DV) (m:Int) (hx:xs=is (ints xs)/\n=xs.length) (hm:0<=m):AnsO prog 31 [rD (dS n xs),rJ (m)] 3 1 ((zKA (ints xs) m).length) (is (zKA (ints xs) m)):=
 zWO (t:=4) (Γ:=gamO) (xH (aQ (cU (um (λe=>mB e m) (λb=>aES (gH 0 (DV.sl n xs) 1 (aB m) (zF 5 1005 m (pL 6 b []))) 1005 3 1 (is (upto b)++List.replicate (oB m b) (aB 0))) (λd=>oB m d) (λf=>aL))) (sA (um (λe=>mB e m) (λa=>let c:=stp (ints xs) (Int.toNat m) a;aES (rZ 0 n xs (aIK 1 m 5 (oB m a) (is c.fst) (kU 7 1007 a (pL 8 a [])))) 1007 3 1 (is c.snd)) (λd=>oB m d) (λf=>aL))))) zQb Tryz.func31 rfl (nL rfl) rfl λhwf=>by
  refine Eq.mpr (by kernel_rfl:_=(let g:=ints xs;let p:=zKA g m;let q:=is p;let A:=q=([]:List DV);let B:=List.length p;let C:=B=0;let r:=Int.toNat m;let y:=DV.sl n xs;let o:=aB 0;True/\True/\zG (bK (n:Int)=false) (bP (jY m 64) C A) (iO m 64 (pM m 8/\True/\True/\(∃ j:Nat,aW (mB j m) (fV y (aB m) (eS (Int.toNat m)) (dF j)) (aET m o (is (upto j)++List.replicate (oB m j) o)))/\(∀ b:Nat,let z:=is (upto b)++List.replicate (oB m b) o;let J:=decide ((b:Int)<m);mB b m->zG (J=true) (uX (b:Int) m) (aN (jB (iP b 1) z) (∃ f:Nat,aF (mB f m) (aBX m f b) (fV y (aB m) (eS (Int.toNat m)) (bS b f)) (List.set z (aV b 1) (cI b)=is (upto f)++List.replicate (oB m f) o))) (iN (J=false) (∃ e:Nat,let I:=stp g r e;aW (mB e m) (eS (DV.sl n xs)/\aF (eS (aB m)) (aEP m z=DV.sl (oB m e) (is I.fst)) (0=e) (dF e)) (([]:List DV)=is I.snd)) (∀ a:Nat,let D:=stp g r a;let s:=is D.snd;let h:=oB m a;let t:=(h:Int);let k:=(h:Int);let u:=atS g (a:Int);let c:=modS u k;let i:=is D.fst;let F:=[aB (nAt i (aR c 1))];let l:=aT (c+1);let v:=k-l;let G:=pN v 1 (List.drop (aR l 1) i);let w:=c-0;let x:=pN w 1 (List.drop (aR 0 1) i);let H:=Int.toNat w;mB a m->aBY h (aY (Ans prog 28 [rD y,rD (cI a)] (gE u)) (aN (aBV u (cI h) k) (dY (mX c h 1 i) (jW i c 1/\True) (aN (zXe 1 8 a 1 s F) (cR ((0:Int)<=0/\0<=c/\c<=t) (zXe 1 8 0 (Int.toNat w) [] x) (dY (0<=l/\l<=t/\k<=k) (zXe 1 8 H (Int.toNat v) x G) (iB (∃ d:Nat,let E:=stp g r d;aF (mB d m) (aBX m d a) (eS (DV.sl n xs)/\aF (eS (aB m)) (DV.sl (H+Int.toNat v) (x++G)=DV.sl (oB m d) (is E.fst)) (a+1=d) (bS a d)) (s++F=is E.snd))))))))) (iO t 0 (True/\(eS (3:Nat)/\eS (1:Nat))/\List.length q=B*1/\pO a p/\s=q))))))) (mE (bK (n:Int)) (True/\C/\A)))) ?_;delta eS aB aR gE mX dY jW aT aF aY bK uU aBV aEP aN cR iN cI oB mB aW mO iH iO aV jB mE bS bP fV iP fQ uX aET dF pN pO iB jY aBY aBX pM zG;simp only [sS,zQl];obtain ⟨hx,rfl⟩:=hx;generalize hl:ints xs=l at *;subst hx;have z0:l.length=0->zKA l m=[]:=λh=>by simp [zKA,h]
  have z1:64<m->zKA l m=[]:=λh=>by simp [zKA,h]
  refine ⟨λhne=>⟨λhbig=>by rw [z1 hbig]; exact ⟨rfl,rfl⟩,λhsm=>?_⟩,λhe=>by rw [z0 (by simpa [zQE] using he)]; exact ⟨rfl,rfl⟩⟩;have hll:l.length≠0:=by simpa [zQE] using hne
  have hp:zKA l m=(stp l m.toNat m.toNat).2:=by unfold zKA; rw [if_neg (by omega)]
  obtain ⟨N,rfl⟩:∃ N:Nat,m=(N:Int):=⟨m.toNat,by omega⟩
  rw [hp];simp only [wQl,wQr,maxLen];have hN:N<=64:=by omega
  have wr:∀ n:Int,-1000000<=n->n<=1000000->wrap .i64 n=n:=λn h h'=>by rw [wQ2]; omega
  refine ⟨by omega,⟨0,wQi _,rfl,by simp [upto,is]⟩,λk hk=>⟨λhlt=>?_,λhge=>⟨⟨0,wQi _,⟨⟨rfl,?_⟩,rfl,rfl⟩,rfl⟩,λj hj=>⟨λhlt=>?_,λhge=>?_⟩⟩⟩⟩
  ·refine ⟨by omega,by rw [wQh,zQE,zUh,wXx]; omega,k+1,by omega,by omega,by rw [wr _ (by omega) (by omega)]; omega,jU3 (by omega)⟩
  ·have:k=N:=by omega
   subst this;simp [stp]
  ·obtain ⟨h1,h2⟩:=zHL l hN j (by omega);have hK:=jKA (v:=atS l j) (m:=(stp l N j).1.length) (by omega) (by omega);have e1:(stp l N (j+1)).1=(stp l N j).1.take (modS (atS l j) (stp l N j).1.length).toNat++(stp l N j).1.drop ((modS (atS l j) (stp l N j).1.length).toNat+1):=rfl;have e2:(stp l N (j+1)).2=(stp l N j).2++[((stp l N j).1[(modS (atS l j) (stp l N j).1.length).toNat]?).getD 0]:=rfl;have ha:=jHJ l.length (is l) (j:Int) ⟨by rw [zZY],by rw [zQE]⟩;rw [zZY] at ha;generalize (stp l N j).1=r at *;generalize (stp l N j).2=o at *;subst h2;rw [h1] at hK e1 e2;generalize hg:modS (atS l (o.length:Int)) ((N-o.length:Nat):Int)=g at *;obtain ⟨K,rfl⟩:∃ K:Nat,g=(K:Int):=⟨g.toNat,by omega⟩
   simp only [wQl] at hK e1 e2 |-;have w1:wrap .i64 ((K:Int)+1)=((K+1:Nat):Int):=by rw [wr _ (by omega) (by omega)]; omega
   have t1:((K:Int)-0).toNat=K:=by omega
   have t2:(((N-o.length:Nat):Int)-((K+1:Nat):Int)).toNat=N-o.length-(K+1):=by omega
   have t3:Int.toNat 0=0:=rfl;have hKr:K<r.length:=by omega
   have d1:List.take (N-o.length-(K+1)) (List.drop (K+1) (is r))=is (r.drop (K+1)):=by rw [yQx,wQW (by rw [zQE,wZG]; omega)]
   simp only [w1,t1,t2,t3,wQl,List.drop_zero,d1,yQw,zQE,zXe,wQr,zVP,jQq hKr,List.getElem?_eq_getElem hKr,wQG,maxLen] at e2 |-;refine ⟨ha,⟨by omega,by omega,hKr⟩,jKE hKr,⟨trivial,rfl,by omega,by omega⟩,by omega,⟨rfl,?_,by omega,by omega⟩,by omega,⟨?_,?_,by omega,by omega⟩,o.length+1,by omega,by omega,⟨⟨by omega,by rw [e1]⟩,rfl,by rw [wr _ (by omega) (by omega)]; omega⟩,by rw [e2,<- zVP]; rfl⟩
   all_goals simp
   all_goals omega
  ·have:j=N:=by omega
   subst this;have h2:=(zHL l hN j (Nat.le_refl _)).2;rw [zQE,h2];exact ⟨rfl,rfl,rfl⟩
def jL (a:Ann):Ann:=jA (zM a)
def aND (a b c:Nat) (d:List DV) (e f g:Nat) (h:List DV) (i:wg):wg:=kA a b c d (kA e f g h i)
def xK (a b c:Nat) (d:List DV) (e f g:Nat) (h:List DV):wg:=aND a b c d e f g h []
def aEY (a b:Nat) (c:List DV) (d e f:Nat) (g:List DV):wg:=xK a b 1 c d e f g
def aFV (a:Ann):Ann:=jA (jL a)
def aAI (a b c:Nat) (d:DV) (e:we):we:=gH a (cI b) c d e
def aMZ (a b c d:Nat) (e:we):we:=aAI a b c (cI d) e
def rQ (a b c d:Nat):we:=aMZ a b c d []
def aKH (a:Nat) (b:Int) (c:List Int):Prop:=mB a b/\zVT (List.take a (seqL c b)) b
def aKI (a:Nat) (b:List Int) (c:Int):List DV:=zKN (List.take a (seqL b c)) (Int.toNat c)
def bZ (a:DV):AV:=AV.one (Cl.d a)
def fT (a b c d e:Prop):Prop:=a/\aF b c d e
def mZ (a:Bool):AV:=bZ (DV.bool a)
def dE (a:DV) (b c:Prop):Prop:=eS a/\b/\c
def cV (a:Prop):Prop:=True/\a
def cS (a:Bool) (b c:Prop):Prop:=a=false->True/\True/\b/\c
def cX (a b c:Nat) (d:List DV):Prop:=0<=(a:Int)/\(a:Int)<(b:Int)/\aV a c<List.length d
def cY (a:List DV) (b c:Nat):Int:=nAt a (aR (b:Int) c)
def dP (a b:Nat):Prop:=decide ((a:Int)<(b:Int))=true
def iQ (a b:Nat):Prop:=decide ((a:Int)<(b:Int))=false
def eG (a b:Prop):Prop:=a->True/\True/\True/\b
def fW (a:List DV) (b c:Nat):Prop:=a[aV b c]?=some (aB (nAt a (aV b c)))
def gT (a:Int) (b:Nat):Nat:=aR a b+1
def gK (a b:Prop):Prop:=True/\True/\a/\b
def dW (a:List DV) (b:Nat):Prop:=a[b]?=some (DV.bool (bAt a b))
def kC (a b:Bool):Prop:=DV.bool a=DV.bool b
def mJ (a:Nat):Prop:=eS (cI a)
def dX (a:Int):Bool:=a !=0
def eH (a b c:Prop):Prop:=True/\True/\True/\(a->True/\True/\True/\True/\b)/\c
def sJ (a b:Bool) (c:Prop):Prop:=a=(!b)->c
def tW (a b:Int):Prop:=(a !=b)=false
def aCZ (a b:Int) (c d:Prop):Prop:=True/\True/\True/\mY a b c/\d
def mP (a:Prop) (b:Ret):Prop:=True/\True/\True/\a/\zZd b
def aGK (a b:Prop):Prop:=(a/\b/\True)/\True
def aAK (a b c:Prop):Prop:=(a/\True)/\True/\True/\b/\c
def wX (a:Cl) (b:List AV) (c d:Nat) (e:List DV) (f:List Bx) (g:Bool):Ret:=⟨AV.tup (AV.one a::b),Bx.row c d e::f,g⟩
def sZ (a:Int):Prop:=dX a=true
def aGX (a b c:Prop):Prop:=aGK a b/\c/\True
def aAZ (a b c:Prop):Prop:=True/\True/\a/\(b/\True)/\c
def aNE (a:Int) (b:Prop):Prop:=dE (aB a) (eS (Int.toNat a)) b
def aMD (a:Nat) (b:Int) (c:List DV) (d:Nat) (e:DV) (f:Prop):Prop:=aAZ (uX (a:Int) b) (fW (List.set c (aV a d) e) a 1) f
abbrev wXD:=@List.map_const'
theorem zWE (n:Nat) (xs:List DV) (m:Int) (hx:xs=is (ints xs)/\n=xs.length):AnsG prog 79 0 [aO (cD (dS n xs)),aJ ((m))] [] ⟨AV.tup [aO (Cl.ref 0 ((zXw (ints xs) m).length)),aO (cD (dQ (zZ8 (ints xs) m)))],[bR 3 1 (is (zXw (ints xs) m))],true⟩:=
 wd gamO (aFV (um (λc=>aKH c m (ints xs)) (λa=>(⟨gH 0 (DV.sl n xs) 1 (aB m) (zF 6 1006 m (zF 7 1007 m (rQ 31 (Int.toNat m) 32 a))),aEY 1006 3 (zVW (seqL (ints xs) m) a) 1007 4 1 (aKI a (ints xs) m)⟩:Snap)) (λb=>oB m b) (λd=>aL))) Tryz.func79 (let b:=ints xs;let r:=zXw b m;let s:=is r;let t:=zZ8 b m;let u:=wX (Cl.ref 0 (List.length (zXw b m))) [mZ t] 3 1 s [] true;let D:=aGX (pO 0 r) (kC false t) (([]:List DV)=s);let g:=mP D u;let p:=seqL b m;let q:=Int.toNat m;let w:=mJ q;let x:=eS (Int.toNat m);let y:=eS (DV.sl n xs);let z:=True/\True/\D/\zZd u;let l:=(n:Int);let K:=aM (pM m 1) (True/\Int.toNat m<=maxLen/\True/\(∃ o:Nat,aF (aKH o m b) (y/\aNE m (aW x w (dF o))) (aET m (aB 0) (zVW p o)) (aET m (DV.bool false) (aKI o b m)))/\(∀ a:Nat,let k:=zVW p a;let d:=List.set k (aV a 1) (cI a);let e:=cY d a 1;let v:=aR e 1;let c:=aKI a b m;let E:=uX e m;let F:=bAt c v;let G:=fW d a 1;let h:=uX (a:Int) m;let A:=aB (cY xs a 1);let B:=List.set d (aV a 1) A;let f:=cY B a 1;let C:=aR f 1;let H:=uX f m;let I:=bAt c C;let J:=fW B a 1;bP (aKH a m b) (eG (dP a q) (True/\True/\h/\jB (iP a 1) k/\aBY n (True/\True/\True/\cX a n 1 xs/\(fW xs a 1/\True)/\h/\jB (iP a 1) d/\True/\True/\h/\aAK J (kR f->cV (dY h (J/\True) (aCZ f m (aMD a m d 1 A (H/\(dW c C/\True)/\True/\(I=true->z)/\(I=false->True/\aMD a m d 1 A (cR H (jB (gT f 1) c) (∃ j:Nat,fT (aKH j m b) (aBX m j a) (y/\aNE m (aW x w (bS a j))) (B=zVW p j) (List.set c C (DV.bool true)=aKI j b m)))))) (sJ (decide (f>=m)) false g)))) (aEO f g)) (cS (decide (l>0)) h (aAK G (kR e->cV (dY h (G/\True) (aCZ e m (aMD a m k 1 (cI a) (E/\(dW c v/\True)/\True/\(F=true->z)/\(F=false->True/\aMD a m k 1 (cI a) (cR E (jB (gT e 1) c) (∃ i:Nat,fT (aKH i m b) (aBX m i a) (y/\aNE m (aW x w (bS a i))) (d=zVW p i) (List.set c v (DV.bool true)=aKI i b m)))))) (sJ (decide (e>=m)) false g)))) (aEO e g))))) (iQ a q->mP (aGX (pO q r) (kC true t) (k=s)) u)));True/\True/\eH (kR m) (iO m 16777216 (eH (sZ l) (gK ((l !=m)=true->z) (bP (tW l m) (pM m 8) K)) (sJ (dX l) true (True/\True/\True/\pM m 8/\K)))/\sJ (decide (m>16777216)) false g) (aEO m g)) λhwf hbx=>by
  delta eS aB aR mY dY iG kR aEO aT aF bZ aM fT mZ dE cR cI oB mB aW mO iH iO aV jB bS bP iP uX aET dF pO aBY aBX pM cV cS cX cY dP iQ eG fW gT gK dW kC mJ dX eH sJ tW aCZ mP aGK aAK wX sZ aGX aAZ aKH aKI aNE aMD;simp only [sS,zQl];obtain ⟨hx,rfl⟩:=hx;generalize hl:ints xs=l at *;subst hx;simp only [zQE,jHi,and_true];refine ⟨λh0=>⟨λhM=>⟨λhp=>⟨λhne=>?_,λhe=>?_⟩,λhz=>?_⟩,λhM=>(by have e:=jY5 (l:=l) (m:=m) (.inr (.inl (by omega))); rw [e.1,e.2]; exact ⟨⟨rfl,rfl⟩,rfl⟩)⟩,λh0=>(by have e:=jY5 (l:=l) (m:=m) (.inl (by omega)); rw [e.1,e.2]; exact ⟨⟨rfl,rfl⟩,rfl⟩)⟩
  ·have e:=jY5 (l:=l) (m:=m) (.inr (.inr (.inl ⟨by simpa using hp,by simpa using hne⟩)));rw [e.1,e.2]; exact ⟨⟨rfl,rfl⟩,rfl⟩
  ·have hl:l.length=0\/(l.length:Int)=m:=.inr (by simpa using he);have hp':l.length≠0:=by simpa using hp
   have hS:=jXs hl;refine ⟨⟨by omega,by omega,by unfold maxLen; omega,by omega⟩,⟨by omega,by omega,by unfold maxLen; omega,by omega⟩,by unfold maxLen; omega,⟨0,⟨by omega,by simp [zVT]⟩,rfl,by simp [zVW,hS,is],by simp [zKN,wXD]⟩,λk hk=>⟨λhlt=>?_,λhge=>?_⟩⟩
   ·have hkS:k<(seqL l m).length:=by omega
    have hkl:k<l.length:=by omega
    have hv0:nAt (is l) k=(seqL l m)[k]:=by
     rw [jQq hkl];simp [seqL,show l≠[] by intro e; subst e; simp at hkl]
    have hi:(is l)[k]?=some (.int .i64 (seqL l m)[k]):=by rw [jKE hkl,<- jQq hkl,hv0]
    have hv:(seqL l m)[k]=(seqL l m)[k]:=rfl;have f1:=zUT (Nat.le_of_lt hkS);have f2:=jJH hkS hv;have f3:=jYb hkS;have f4:=jJI hkS;have f5:=zUT (S:=seqL l m) (k:=k+1) (by omega);have r:=jY4 (by omega) (by omega) hS hkS hk.2 rfl (Bad:=(0=(zXw l m).length/\false=zZ8 l m)/\[]=is (zXw l m)) (λhb=>by have e:=jY5 (l:=l) (m:=m) (.inr (.inr (.inr hb))); rw [e.1,e.2]; exact ⟨⟨rfl,rfl⟩,rfl⟩);simp only [wQr,List.set_set,wQ7,f1,f2,f3,f4,f5,hv0,hi] at r |-;refine ⟨by omega,by omega,λ_=>⟨by omega,trivial,by omega,by omega,by omega,trivial,λa=>⟨by omega,trivial,λb=>?_,(r.1 a).2⟩,r.2⟩,λhz=>absurd (by omega) hz⟩;obtain ⟨r1,r2,r3,r4⟩:=(r.1 a).1 b;refine ⟨by omega,trivial,r1,r2,r3,λc=>?_⟩;obtain ⟨s1,s2,_,k',s3,s4,⟨rfl,s6⟩,s7,_⟩:=r4 c;exact ⟨by omega,trivial,s1,s2,k+1,s3,s4,s6,rfl,s7⟩
   ·have hkm:k=(seqL l m).length:=by omega
    have hg:=hk.2;rw [wQW (by omega)] at hg;have e:=jXI (by omega) (by omega) hl hg;rw [e.1,e.2];exact ⟨⟨by omega,rfl⟩,by rw [hkm,jJJ]⟩
  ·have hl:l.length=0\/(l.length:Int)=m:=.inl (by simpa using hz);have hz':l.length=0:=by simpa using hz
   have hS:=jXs hl;refine ⟨⟨by omega,by omega,by unfold maxLen; omega,by omega⟩,⟨by omega,by omega,by unfold maxLen; omega,by omega⟩,by unfold maxLen; omega,⟨0,⟨by omega,by simp [zVT]⟩,rfl,by simp [zVW,hS,is],by simp [zKN,wXD]⟩,λk hk=>⟨λhlt=>?_,λhge=>?_⟩⟩
   ·have hkS:k<(seqL l m).length:=by omega
    have hv:(k:Int)=(seqL l m)[k]:=by
     simp [seqL,show l=[] by exact List.eq_nil_of_length_eq_zero hz',upto]
    have f1:=zUT (Nat.le_of_lt hkS);have f2:=jJH hkS hv;have f3:=jYb hkS;have f4:=jJI hkS;have f5:=zUT (S:=seqL l m) (k:=k+1) (by omega);have r:=jY4 (by omega) (by omega) hS hkS hk.2 rfl (Bad:=(0=(zXw l m).length/\false=zZ8 l m)/\[]=is (zXw l m)) (λhb=>by have e:=jY5 (l:=l) (m:=m) (.inr (.inr (.inr hb))); rw [e.1,e.2]; exact ⟨⟨rfl,rfl⟩,rfl⟩);simp only [wQr,List.set_set,wQ7,f1,f2,f3,f4,f5] at r |-;refine ⟨by omega,by omega,λhp=>absurd hp (by omega),λ_=>⟨by omega,trivial,λa=>⟨by omega,trivial,λb=>?_,(r.1 a).2⟩,r.2⟩⟩;obtain ⟨r1,r2,r3,r4⟩:=(r.1 a).1 b;refine ⟨by omega,trivial,r1,r2,r3,λc=>?_⟩;obtain ⟨s1,s2,_,k',s3,s4,⟨rfl,s6⟩,s7,_⟩:=r4 c;exact ⟨by omega,trivial,s1,s2,k+1,s3,s4,s6,rfl,s7⟩
   ·have hkm:k=(seqL l m).length:=by omega
    have hg:=hk.2;rw [wQW (by omega)] at hg;have e:=jXI (by omega) (by omega) hl hg;rw [e.1,e.2];exact ⟨⟨by omega,rfl⟩,by rw [hkm,jJJ]⟩
end
def zX0 (l:Int) (xs:List DV):Bool:=(ints xs).all λv=>decide (-l<=v)&&decide (v<=l)
abbrev qD (q:Rc):List DV:=[DV.int .i64 q.a,DV.int .i64 q.b,DV.int .i64 q.c,DV.int .i64 q.d]
def vd (l:List DV):Rc:=⟨nAt l 0,nAt l 1,nAt l 2,nAt l 3⟩
def gZ0:List RV->Option RV:=λv=>some (RV.d (dQ (Rc.valid (vd (ur v 0)))))
def gZ1:List RV->Option RV:=λv=>some (RV.d (dQ (Rc.empty (vd (ur v 0)))))
def gam:Gam:=gamO.add [.p 162 (λv=>some (RV.d (dQ (zX0 (nAt (uq v) 0) (cAt (uq v) 1))))),
 .p 85 gZ0,
 .p 84 gZ0,
 .p 40 gZ1,
 .p 207 (λv=>some (RV.agg (qD (Rc.clean (vd (ur v 0)))))),
 .p 151 (λv=>some (rJ (Rc.area (vd (ur v 0))))),
 .p 104 (λv=>some (RV.d (dQ (Rc.has (vd (ur v 0)) (nAt (uq v) 1) (nAt (uq v) 2))))),
 .p 157 (λ| [.agg [.int _ a,.int _ b,.int _ c,.int _ d],.agg [.int _ a',.int _ b',.int _ c',.int _ d']]=>some (RV.agg (qD (Rc.inter ⟨a,b,c,d⟩ ⟨a',b',c',d'⟩))) | _=>none),
 .p 39 gZ1]
def aH (a:Prop):Prop:=True/\True/\True/\True/\True/\True/\True/\True/\a
def bF (a:Prop):Prop:=True/\True/\True/\a
def lB (a b:Bool) (c:Prop):Prop:=a=(!b)->True/\True/\True/\True/\c
def fI (a b:Int):Prop:=decide (a>=b)=true
def bE (a b:Bool):Prop:=RV.d (DV.bool a)=RV.d (DV.bool b)
def jF (a b c d e:Prop):Prop:=bI a (bI b c d) e
def gZ (a b:Bool):Prop:=True/\True/\True/\True/\bE a b
def lH (a b:Int):Prop:=decide (a<=b)=true
def iW (a:Bool) (b:Prop):Prop:=a=(!true)->True/\True/\b
def mM (a b c:Bool):Prop:=lB a b (bE false c)
def sL (a:Prop):Prop:=True/\True/\True/\True/\aH a
def aBO (a:Bool):Prop:=bE false a
def aLE (a:Int):Bool:=decide (a<=1073741824)
def aLD (a:Int):Bool:=decide (a>=(-(1073741824:Int)))
theorem zQ5 (a b c d:Int):Ans prog 84 [rA [dJ a,dJ b,dJ c,dJ d]] (rD (dQ (Rc.valid ⟨a,b,c,d⟩))):=
 wc gam aL Tryz.func84 (let e:=Rc.valid ⟨a,b,c,d⟩;let h:=bE false e;let g:=aH h;let f:=(-(1073741824:Int));bF (jF (fI a f) (lH a 1073741824) (jF (fI b f) (lH b 1073741824) (jF (fI c f) (lH c 1073741824) (pI d f (gZ (aLE d) e) (iW (aLD d) (aBO e))) (mM (aLE c) true e) (iW (aLD c) (gZ false e))) (sJ (aLE b) true g) (iW (aLD b) g)) (lB (aLE a) true g) (iW (aLD a) (sL h)))) λhwf=>by
  delta eS bI pI aH bF lB fI bE jF gZ lH iW mM sJ sL aBO aLE aLD;simp only [true_and,and_true,RV.d.injEq,RV.agg.injEq,RV.tup.injEq,DV.bool.injEq,DV.int.injEq,wQL,wQX,wZg,wZe,wQs,wZi];grind [Rc.valid,okC]
def eC (a b c d:Int):List DV:=[aB a,aB b,aB c,aB d]
def bL (a:Prop):Prop:=True/\True/\True/\True/\True/\True/\a
def qU (a:Bool) (b:Prop):Prop:=a=(!false)->True/\True/\b
def pY (a:FuncId) (b:List DV) (c:Bool):Prop:=Ans prog a [RV.agg b] (RV.d (DV.bool c))
def gC (a:Bool):Prop:=(!a)=false
def xZ (a:Bool) (b:Prop):Prop:=lB (!a) false b
def rC (a b c d:Int):Bool:=Rc.empty ⟨a,b,c,d⟩
def yE (a:FuncId) (b:List DV) (c:Bool) (d e:Prop):Prop:=pY a b c/\True/\True/\d/\e
def aDD (a:Bool) (b:Prop):Prop:=gC a->True/\True/\True/\True/\b
theorem zZf (a b c d:Int):Ans prog 39 [rA [dJ a,dJ b,dJ c,dJ d]] (rD (dQ (Rc.empty ⟨a,b,c,d⟩))):=
 wc gam aL Tryz.func39 (let e:=rC a b c d;let f:=Rc.valid ⟨a,b,c,d⟩;bF (yE 84 (eC a b c d) f (aDD f (aCZ a c (bL (bE (decide (b>=d)) e)) (qU (decide (a>=c)) (bE true e)))) (xZ f (bE true e)))) λhwf=>by
  delta eS aB mY eC bF bL qU lB pY bE gC xZ rC yE aDD aCZ;simp only [true_and,and_true,RV.d.injEq,RV.agg.injEq,RV.tup.injEq,DV.bool.injEq,DV.int.injEq,wQL,wQX,wZg,wZe,wQs,wZi,zQ5,zQl];grind [Rc.empty]
def dR (a b:Nat) (c:Prop):Prop:=a<=b/\c
def nT (a:we):Snap:=⟨a,[]⟩
def aHL (a b:Nat) (c:List DV) (d e f:Nat):we:=rZ a b c (rQ d b e f)
def aLX (a b:Nat) (c:Int) (d:List DV):Prop:=dR a b (zX0 c (List.take a d)=true)
def bU (a b:Int):Int:=aT (a-b)
def fL (a b:Int):Prop:=decide (a>b)=false
def oG (a b:Prop):Prop:=True/\True/\True/\True/\a/\b
def eU (a:Prop):Prop:=True/\True/\a
def dM (a b c:Nat):Prop:=a-b<a-c
def xW (a b:Int) (c:Prop):Prop:=fL a b->True/\True/\c
def aEI (a b:Int) (c:Bool) (d:Prop):Prop:=iH a b (bE false c) (xW a b d)
def yW (a b:Prop) (c d:Nat) (e:Prop):Prop:=bP a b (iQ c d->True/\e)
abbrev wXE:=@Bool.and_true
theorem zH7 (l:Int) (n:Nat) (xs:List DV) (hx:xs=is (ints xs)) (hn:n=xs.length) (hl:0<=l/\l<=4611686018427387904):Ans prog 162 [rJ (l),rD (dS n xs)] (rD (dQ (zX0 l xs))):=
 wc gam (sA (um (λc=>aLX c n l xs) (λb=>nT (aIK 0 l 1 n xs (aHL 7 n xs 8 9 b))) (λa=>n-a) (λd=>aL))) Tryz.func162 (let e:=DV.sl n xs;oG (∃ d:Nat,aLX d n l xs/\dE (aB l) (eS e) (aW (eS e) (mJ n) (dF d))/\True) (∀ a:Nat,let c:=cY xs a 1;yW (aLX a n l xs) (dP a n->cX a n 1 xs/\aN (fW xs a 1/\True) (aIY (decide (c<bU 0 l)=false) (aEI c l (zX0 l xs) (∃ b:Nat,aW (aLX b n l xs) (dM n b a) (dE (aB l) (eS e) (aW (eS e) (mJ n) (bS a b))))) (iG c (bU 0 l)->eU (bE false (zX0 l xs))))) a n (bE true (zX0 l xs)))) λhwf=>by
  delta eS aB aR iG aT bU aIY dE aN cI aW iH aV bS bP dF fL cX cY dP iQ fW oG eU dR dM mJ bE xW aEI yW aLX;simp only [true_and,and_true,RV.d.injEq,RV.agg.injEq,RV.tup.injEq,DV.bool.injEq,DV.int.injEq,wQL,wQX,wZg,wZe,wQs,wZi,zQ5,zQl,zZf];obtain ⟨L,rfl⟩:∃ L,xs=is L:=⟨_,hx⟩
  subst hn;simp only [RV.wfs,RV.wf,DV.wf,zQE,IntKind.min,IntKind.max,IntKind.signed,IntKind.bits,and_true,maxLen] at hwf;simp only [zQE,wQl,wQr,wQj,wZD];have hsucc:∀ k (h:k<L.length),zX0 l (is (L.take (k+1)))=(zX0 l (is (L.take k))&&(decide (-l<=L[k])&&decide (L[k]<=l))):=λk h=>by
   simp only [zX0,zZY,wZl,wYh,List.getElem?_eq_getElem h,wYj,wZM,List.all_nil,wXE]
  have htake:∀ k,(is L).take k=is (L.take k):=λk=>by simp [is]
  have hall:∀ k (h:k<L.length),zX0 l (is L)=true -> -l<=L[k]/\L[k]<=l:=λk h hw=>by
   simp only [zX0,zZY,List.all_eq_true] at hw;have:=hw L[k] (List.getElem_mem h);simpa using this
  refine ⟨⟨0,⟨by omega,by simp [zX0,ints]⟩,rfl⟩,λk hk=>⟨λhlt=>?_,λhge=>?_⟩⟩
  ·have hlt':k<L.length:=by omega
   have h1:=hsucc k hlt';have h2:=hall k hlt';have hw:=yZL hwf.2.2 hlt';rw [jQq hlt',jKE hlt',wQb (0-l) ⟨by omega,by omega⟩];refine ⟨by omega,rfl,λh3=>⟨λh4=>?_,λh4=>⟨k+1,⟨by omega,?_⟩,by omega,?_⟩⟩,λh3=>?_⟩
   ·cases h5:zX0 l (is L) with
    | false=>rfl
    | true=>have:=h2 h5; omega
   ·rw [htake,h1,<- htake,hk.2]; simp; omega
   ·rw [wQb _ ⟨by omega,by omega⟩]; omega
   ·cases h5:zX0 l (is L) with
    | false=>rfl
    | true=>have:=h2 h5; omega
  ·have:k=L.length:=by omega
   subst this;have:=hk.2;rw [htake,wZw] at this;exact this.symm
theorem zYc (a b c d:Int):Ans prog 85 [rA [dJ a,dJ b,dJ c,dJ d]] (rD (dQ (Rc.valid ⟨a,b,c,d⟩))):=
 wc gam aL Tryz.func85 (let e:=zX0 1073741824 (eC a b c d);True/\aH (aM (uU 162 1073741824 (DV.sl 4 (eC a b c d)) (rD (DV.bool e))) (bE e (Rc.valid ⟨a,b,c,d⟩)))) λhwf=>by
  delta eS aB aH aM uU eC bE;simp only [true_and,and_true,RV.d.injEq,RV.agg.injEq,RV.tup.injEq,DV.bool.injEq,DV.int.injEq,wQL,wQX,wZg,wZe,wQs,wZi,zQ5,zQl,zZf];exact ⟨zH7 _ _ _ rfl rfl (by omega),by grind [zX0,ints,Rc.valid,okC]⟩
theorem zQX (a b c d:Int):Ans prog 40 [rA [dJ a,dJ b,dJ c,dJ d]] (rD (dQ (Rc.empty ⟨a,b,c,d⟩))):=
 wc gam aL Tryz.func40 (let e:=rC a b c d;let f:=Rc.valid ⟨a,b,c,d⟩;bF (yE 85 (eC a b c d) f (aDD f (aCZ a c (bL (bE (decide (b>=d)) e)) (qU (decide (a>=c)) (bE true e)))) (xZ f (bE true e)))) λhwf=>by
  delta eS aB mY eC bF bL qU lB pY bE gC xZ rC yE aDD aCZ;simp only [true_and,and_true,RV.d.injEq,RV.agg.injEq,RV.tup.injEq,DV.bool.injEq,DV.int.injEq,wQL,wQX,wZg,wZe,wQs,wZi,zQ5,zQl,zZf,zYc];grind [Rc.empty]
def nD (a b:List DV):Prop:=RV.agg a=RV.agg b
def dO (a:Bool) (b:Prop):Prop:=a=false->True/\True/\b
def cG (e:Rc):List DV:=eC e.a e.b e.c e.d
def uW (a:Bool) (b:Prop):Prop:=a=true->True/\True/\b
def tI:List DV:=eC 0 0 0 0
def aHV (a b c d:Int):Prop:=pY 40 (eC a b c d) (rC a b c d)
theorem zKd (a b c d:Int):Ans prog 207 [rA [dJ a,dJ b,dJ c,dJ d]] (rA (qD (Rc.clean ⟨a,b,c,d⟩))):=
 wc gam aL Tryz.func207 (let e:=cG (Rc.clean ⟨a,b,c,d⟩);True/\True/\True/\aHV a b c d/\uW (rC a b c d) (nD tI e)/\dO (rC a b c d) (nD (eC a b c d) e)) λhwf=>by
  delta eS aB eC nD dO cG uW tI pY rC aHV;simp only [true_and,and_true,RV.d.injEq,RV.agg.injEq,RV.tup.injEq,DV.bool.injEq,DV.int.injEq,wQL,wQX,wZg,wZe,wQs,wZi,zQ5,zQl,zZf,zYc,zQX];grind [Rc.clean,Rc.zero]
def cQ (a b:Prop):Prop:=aM a (True/\True/\True/\True/\b)
def kD (a:FuncId) (b:List DV) (c:List RV) (d:List DV):Prop:=Ans prog a (RV.agg b::c) (RV.agg d)
theorem zJt (a b c d:Int):Ans prog 151 [rA [dJ a,dJ b,dJ c,dJ d]] (rJ ((Rc.area ⟨a,b,c,d⟩))):=
 wc gam aL Tryz.func151 (let e:=Rc.clean ⟨a,b,c,d⟩;True/\cQ (kD 207 (eC a b c d) [] (cG e)) (aH (rD (aB (aT (bU e.c e.a*bU e.d e.b)))=gE (Rc.area ⟨a,b,c,d⟩)))) λhwf=>by
  delta eS aB gE aT aH aM bU cQ eC cG kD;simp only [true_and,and_true,RV.d.injEq,RV.agg.injEq,RV.tup.injEq,DV.bool.injEq,DV.int.injEq,wQL,wQX,wZg,wZe,wQs,wZi,zQ5,zQl,zZf,zYc,zQX,zKd];exact Rc.area_wrap _
def kX (a b:Prop):Prop:=True/\True/\True/\True/\True/\a/\b
def vB (a b:Int):Prop:=decide (a<b)=(!true)
def tQ (a b:Int) (c d:Prop):Prop:=True/\True/\True/\(decide (a<=b)=true->True/\c)/\d
def tX (a b:Int) (c:Prop):Prop:=iW (decide (a<=b)) c
def yX (a:Bool) (b:Prop):Prop:=(!a)=true->True/\b
theorem zKy (a b c d x y:Int):Ans prog 104 [rA [dJ a,dJ b,dJ c,dJ d],rJ (x),rJ (y)] (rD (dQ (Rc.has ⟨a,b,c,d⟩ x y))):=
 wc gam aL Tryz.func104 (let e:=Rc.has ⟨a,b,c,d⟩ x y;let f:=bE false e;let g:=rC a b c d;bF (yE 40 (eC a b c d) g (yX g (True/\True/\tQ a x (kX (eG (decide (x<c)=true) (bI (lH b y) (gZ (decide (y<d)) e) (tX b y f))) (vB x c->True/\True/\True/\True/\f)) (tX a x (gZ false e)))) (sJ (!g) true (aH f)))) λhwf=>by
  delta eS aB bI aH eC eG kX bF vB pY bE gZ lH iW tQ tX sJ yX rC yE;simp only [true_and,and_true,RV.d.injEq,RV.agg.injEq,RV.tup.injEq,DV.bool.injEq,DV.int.injEq,wQL,wQX,wZg,wZe,wQs,wZi,zQ5,zQl,zZf,zYc,zQX,zKd,zJt];grind [Rc.has]
def kJ (a:Prop):Prop:=aH (aH a)
def yG (a:Bool) (b:Prop):Prop:=mE a (True/\True/\b)
def aBB (a b:Rc):Prop:=nD (cG a) (cG b)
theorem zQt (a b c d a' b' c' d':Int):Ans prog 157 [rA [dJ a,dJ b,dJ c,dJ d],rA [dJ a',dJ b',dJ c',dJ d']] (rA (qD (Rc.inter ⟨a,b,c,d⟩ ⟨a',b',c',d'⟩))):=
 wc gam aL Tryz.func157 (let e:=Rc.inter ⟨a,b,c,d⟩ ⟨a',b',c',d'⟩;let f:=nD tI (cG e);let g:=Rc.clean ⟨Max.max a a',Max.max b b',Min.min c c',Min.min d d'⟩;True/\True/\True/\True/\aHV a b c d/\True/\(rC a b c d=false->True/\aHV a' b' c' d'/\True/\uW (rC a' b' c' d') f/\dO (rC a' b' c' d') (True/\kJ (aM (kD 207 (eC (Max.max a a') (Max.max b b') (Min.min c c') (Min.min d d')) [] (cG g)) (aBB g e))))/\yG (rC a b c d) f) λhwf=>by
  delta eS aB aH aM eC nD dO cG uW mE kD tI pY kJ rC yG aBB aHV;simp only [true_and,and_true,RV.d.injEq,RV.agg.injEq,RV.tup.injEq,DV.bool.injEq,DV.int.injEq,wQL,wQX,wZg,wZe,wQs,wZi,zQ5,zQl,zZf,zYc,zQX,zKd,zJt,zKy];cases h1:Rc.empty ⟨a,b,c,d⟩<;>cases h2:Rc.empty ⟨a',b',c',d'⟩<;>simp [Rc.inter,h1,h2,Rc.zero]
section
attribute [local irreducible] Ans AnsO AnsG AnsN AnsI
def cntS (r:Rc) (w h:Int):Int × Int × Bool:=
 if r.empty then (0,0,false)
 else if w<1\/wrap .i64 (r.c-r.a)<w\/h<1\/wrap .i64 (r.d-r.b)<h then (0,0,false)
 else (wrap .i64 (Int.tdiv (wrap .i64 (wrap .i64 (wrap .i64 (r.c-r.a)+w)-1)) w),wrap .i64 (Int.tdiv (wrap .i64 (wrap .i64 (wrap .i64 (r.d-r.b)+h)-1)) h),true)
def zGr (r:Rc) (w h i:Int):Rc × Bool:=
 if (cntS r w h).2.2=false\/i<0\/wrap .i64 (Int.tdiv i (cntS r w h).1)>=(cntS r w h).2.1 then (Rc.zero,false)
 else
  let x:=wrap .i64 (r.a+wrap .i64 (Int.tmod i (cntS r w h).1*w))
  let y:=wrap .i64 (r.b+wrap .i64 (wrap .i64 (Int.tdiv i (cntS r w h).1)*h))
  (⟨x,y,min (wrap .i64 (x+w)) r.c,min (wrap .i64 (y+h)) r.d⟩,true)
def gZ2:List RV->Option RV:=λv=>let e:=cntS (vd (ur v 0)) (nAt (uq v) 1) (nAt (uq v) 2);some (RV.tup [rJ e.1,rJ e.2.1,RV.d (dQ e.2.2)])
def gamW:Gam:=gam.add [.p 78 gZ2,
 .p 80 (λv=>let e:=zGr (vd (ur v 0)) (nAt (uq v) 1) (nAt (uq v) 2) (nAt (uq v) 3);some (RV.tup [RV.agg (qD (e.1)),RV.d (dQ e.2)]))]
def cT (a:Prop):Prop:=True/\True/\True/\eS true/\a
def nK (a:Bool):List RV:=[RV.d (DV.bool a)]
def aLC (a b:DV) (c:Bool):RV:=RV.tup (RV.d a::RV.d b::nK c)
def aCF (a:Rc) (b c:Int):Int:=(cntS a b c).snd.fst
def fR (a b:RV):Prop:=True/\True/\a=b
def cZ (a b:RV):Prop:=True/\True/\True/\True/\a=b
def sM (a b:Int) (c d:Prop):Prop:=True/\True/\True/\iO a b c/\d
def aGB (a b:Int) (c:Prop):Prop:=qU (decide (a>b)) c
def yF (a:List RV):List RV:=RV.d (aB 0)::a
def aLB (a b c d e f:Int):RV:=aLC (aB (cntS ⟨a,b,c,d⟩ e f).fst) (aB (aCF ⟨a,b,c,d⟩ e f)) (cntS ⟨a,b,c,d⟩ e f).snd.snd
theorem zKa (a b c d w h:Int):Ans prog 78 [rA [dJ a,dJ b,dJ c,dJ d],rJ (w),rJ (h)] (rT [rJ (((cntS ⟨a,b,c,d⟩ w h).1)),rJ (((cntS ⟨a,b,c,d⟩ w h).2.1)),rD (dQ ((cntS ⟨a,b,c,d⟩ w h).2.2))]):=
 wc gamW aL Tryz.func78 (let e:=aLB a b c d w h;let f:=rT (rD (aB 0)::yF (nK false));let g:=f=e;let i:=fR f e;bF (True/\True/\aHV a b c d/\(rC a b c d=true->True/\i)/\(rC a b c d=false->True/\aH (cT (bI (zC w) (sM w (bU c a) (aIY (zC h) (iH h (bU d b) i (fL h (bU d b)->True/\True/\True/\True/\aY (w≠0) (True/\True/\True/\h≠0/\cT (aLC (aB (aT (Int.tdiv (bU (aT (bU c a+w)) 1) w))) (aB (aT (Int.tdiv (bU (aT (bU d b+h)) 1) h))) true=e)))) (iG h 1->True/\True/\True/\True/\g)) (aGB w (bU c a) (cZ f e))) (iG w 1->aH g)))))) λhwf=>by
  delta eS aB bI iG aT aH aY bU aIY zC eC cT iH iO fL bF nK qU aLC aCF fR cZ pY sM aGB rC yF aLB aHV;simp only [sS,zQX];unfold cntS;cases he:Rc.empty ⟨a,b,c,d⟩<;>by_cases h1:w<1<;>by_cases h2:wrap .i64 (c-a)<w<;>by_cases h3:h<1<;>by_cases h4:wrap .i64 (d-b)<h<;>simp [h1,h2,h3,h4]<;>omega
def kT (a b:Int):Int:=aT (Int.tdiv a b)
def dL (a b:Prop):Prop:=aY a (True/\True/\True/\True/\b)
def nE (a b:Prop):Prop:=True/\True/\True/\True/\True/\True/\True/\a/\b
def iF (a b:Int):List RV:=[RV.d (aB a),RV.d (aB b)]
def mK (a:List DV) (b:Bool) (c:List DV) (e:Bool):Prop:=fR (RV.tup [RV.agg a,RV.d (DV.bool b)]) (RV.tup [RV.agg c,RV.d (DV.bool e)])
def zQ (a:List DV):RV:=RV.tup [RV.agg a,RV.d (DV.bool true)]
def gW (a:Bool) (b:Prop):Prop:=(!a)=false->True/\b
def tO (a:List DV) (b:Bool) (c:List DV) (e:Bool):Prop:=RV.tup [RV.agg a,RV.d (DV.bool b)]=RV.tup [RV.agg c,RV.d (DV.bool e)]
def tP (a b:List DV) (c:Bool):Prop:=zQ a=RV.tup [RV.agg b,RV.d (DV.bool c)]
def hZ (a:Bool) (b:Prop):Prop:=(!a)=(!false)->True/\True/\b
theorem jXm (a b c d w h i:Int) (hz:(cntS ⟨a,b,c,d⟩ w h).2.2=true->(cntS ⟨a,b,c,d⟩ w h).1≠0):Ans prog 80 [rA [dJ a,dJ b,dJ c,dJ d],rJ (w),rJ (h),rJ (i)] (rT [rA (qD ((zGr ⟨a,b,c,d⟩ w h i).1)),rD (dQ ((zGr ⟨a,b,c,d⟩ w h i).2))]):=
 wc gamW aL Tryz.func80 (let l:=zGr ⟨a,b,c,d⟩ w h i;let e:=l.snd;let f:=cG l.fst;let m:=(cntS ⟨a,b,c,d⟩ w h).snd.snd;let g:=(cntS ⟨a,b,c,d⟩ w h).fst;let j:=kT i g;let n:=aT (b+aT (j*h));let o:=aT (a+aT (Int.tmod i g*w));let k:=g≠0;let p:=aCF ⟨a,b,c,d⟩ w h;bL (aN (Ans prog 78 (rA (eC a b c d)::iF w h) (aLB a b c d w h)) (nE (gW m (True/\True/\True/\iN (kR i) k (pI j p (mK tI false f e) (mY j p (True/\True/\dL k (True/\aN k (aM (eS true) (kJ (tP (eC o n (Min.min (aT (o+w)) c) (Min.min (aT (n+h)) d)) f e)))))))/\(iG i 0->True/\True/\True/\True/\tO tI false f e))) (hZ m (cZ (rT [rA tI,rD (DV.bool false)]) (rT [rA f,rD (DV.bool e)])))))) λhwf=>by
  delta eS aB mY pI iG kR aT aH aM aY kT aN eC dL cG iN nE tI bL iF nK aLC aCF fR cZ mK zQ gW kJ tO tP hZ aLB;simp only [sS,zQX,zKa];unfold zGr;generalize cntS ⟨a,b,c,d⟩ w h=T at *;obtain ⟨n1,n2,ok⟩:=T;simp only at hz |-;cases ok<;>by_cases h1:i<0<;>by_cases h2:wrap .i64 (Int.tdiv i n1)>=n2<;>simp [h1,h2,Rc.zero]<;>simp at hz<;>simp [hz]<;>omega
end
def Im.ds (m:Im):List DV:=[.int .i64 m.w,.int .i64 m.h,.bool m.so,.int .u16 m.c.a,.int .u16 m.c.b,.int .u16 m.c.c,.int .u16 m.c.al,.int .u16 m.c.f,.int .i64 m.p0.w,.int .i64 m.p0.h,.int .i64 m.p0.s,.sl m.p0.n m.p0.xs,.int .i64 m.p1.w,.int .i64 m.p1.h,.int .i64 m.p1.s,.sl m.p1.n m.p1.xs,.int .i64 m.p2.w,.int .i64 m.p2.h,.int .i64 m.p2.s,.sl m.p2.n m.p2.xs,.int .i64 m.p3.w,.int .i64 m.p3.h,.int .i64 m.p3.s,.sl m.p3.n m.p3.xs,.int .i64 m.p4.w,.int .i64 m.p4.h,.int .i64 m.p4.s,.sl m.p4.n m.p4.xs]
theorem Im.ds_len (m:Im):m.ds.length=28:=rfl
def ims (l:List Im):List DV:=l.flatMap Im.ds
theorem zYT (l:List Im):(ims l).length=l.length*28:=by
 induction l with
 | nil=>rfl
 | cons o l ih=>simp only [ims,wZa,wQh,wQu] at ih |-; rw [ih,Im.ds_len]; omega
theorem jWs (l m:List Im):ims (l++m)=ims l++ims m:=by simp [ims]
theorem jG7 (m:Im) (l:List Im):ims (m::l)=m.ds++ims l:=by simp [ims]
theorem yQC (m:Im):ims [m]=m.ds:=by simp [ims]
variable {k:Nat}
theorem yQD {l:List Im} (h:k<l.length) (j:Nat) (hj:j<28):(ims l)[k*28+j]?=l[k].ds[j]?:=by
 induction l generalizing k with
 | nil=>simp at h
 | cons o l ih=>
  rw [jG7]
  cases k with
  | zero=>simp only [wXa]; rw [wQF (by rw [Im.ds_len]; omega)]; simp
  | succ k=>
   rw [wQo (by rw [Im.ds_len]; omega)];have:=ih (k:=k) (by simpa using h);simp only [wQ3];rw [<- this];congr 1;rw [Im.ds_len]; omega
theorem zGW {l:List Im} (h:k<l.length):(ims l)[k*28]?=some (.int .i64 l[k].w)/\(ims l)[k*28+1]?=some (.int .i64 l[k].h)/\(ims l)[k*28+1+1]?=some (.bool l[k].so)/\(ims l)[k*28+1+1+1]?=some (.int .u16 l[k].c.a)/\(ims l)[k*28+1+1+1+1]?=some (.int .u16 l[k].c.b)/\(ims l)[k*28+1+1+1+1+1]?=some (.int .u16 l[k].c.c)/\(ims l)[k*28+1+1+1+1+1+1]?=some (.int .u16 l[k].c.al)/\(ims l)[k*28+1+1+1+1+1+1+1]?=some (.int .u16 l[k].c.f)/\(ims l)[k*28+1+1+1+1+1+1+1+1]?=some (.int .i64 l[k].p0.w)/\(ims l)[k*28+1+1+1+1+1+1+1+1+1]?=some (.int .i64 l[k].p0.h)/\(ims l)[k*28+1+1+1+1+1+1+1+1+1+1]?=some (.int .i64 l[k].p0.s)/\(ims l)[k*28+1+1+1+1+1+1+1+1+1+1+1]?=some (.sl l[k].p0.n l[k].p0.xs)/\(ims l)[k*28+1+1+1+1+1+1+1+1+1+1+1+1]?=some (.int .i64 l[k].p1.w)/\(ims l)[k*28+1+1+1+1+1+1+1+1+1+1+1+1+1]?=some (.int .i64 l[k].p1.h)/\(ims l)[k*28+1+1+1+1+1+1+1+1+1+1+1+1+1+1]?=some (.int .i64 l[k].p1.s)/\(ims l)[k*28+1+1+1+1+1+1+1+1+1+1+1+1+1+1+1]?=some (.sl l[k].p1.n l[k].p1.xs)/\(ims l)[k*28+1+1+1+1+1+1+1+1+1+1+1+1+1+1+1+1]?=some (.int .i64 l[k].p2.w)/\(ims l)[k*28+1+1+1+1+1+1+1+1+1+1+1+1+1+1+1+1+1]?=some (.int .i64 l[k].p2.h)/\(ims l)[k*28+1+1+1+1+1+1+1+1+1+1+1+1+1+1+1+1+1+1]?=some (.int .i64 l[k].p2.s)/\(ims l)[k*28+1+1+1+1+1+1+1+1+1+1+1+1+1+1+1+1+1+1+1]?=some (.sl l[k].p2.n l[k].p2.xs)/\(ims l)[k*28+1+1+1+1+1+1+1+1+1+1+1+1+1+1+1+1+1+1+1+1]?=some (.int .i64 l[k].p3.w)/\(ims l)[k*28+1+1+1+1+1+1+1+1+1+1+1+1+1+1+1+1+1+1+1+1+1]?=some (.int .i64 l[k].p3.h)/\(ims l)[k*28+1+1+1+1+1+1+1+1+1+1+1+1+1+1+1+1+1+1+1+1+1+1]?=some (.int .i64 l[k].p3.s)/\(ims l)[k*28+1+1+1+1+1+1+1+1+1+1+1+1+1+1+1+1+1+1+1+1+1+1+1]?=some (.sl l[k].p3.n l[k].p3.xs)/\(ims l)[k*28+1+1+1+1+1+1+1+1+1+1+1+1+1+1+1+1+1+1+1+1+1+1+1+1]?=some (.int .i64 l[k].p4.w)/\(ims l)[k*28+1+1+1+1+1+1+1+1+1+1+1+1+1+1+1+1+1+1+1+1+1+1+1+1+1]?=some (.int .i64 l[k].p4.h)/\(ims l)[k*28+1+1+1+1+1+1+1+1+1+1+1+1+1+1+1+1+1+1+1+1+1+1+1+1+1+1]?=some (.int .i64 l[k].p4.s)/\(ims l)[k*28+1+1+1+1+1+1+1+1+1+1+1+1+1+1+1+1+1+1+1+1+1+1+1+1+1+1+1]?=some (.sl l[k].p4.n l[k].p4.xs):=by
 have g:=λj hj=>yQD h j hj;exact ⟨g 0 (by omega),g 1 (by omega),g 2 (by omega),g 3 (by omega),g 4 (by omega),g 5 (by omega),g 6 (by omega),g 7 (by omega),g 8 (by omega),g 9 (by omega),g 10 (by omega),g 11 (by omega),g 12 (by omega),g 13 (by omega),g 14 (by omega),g 15 (by omega),g 16 (by omega),g 17 (by omega),g 18 (by omega),g 19 (by omega),g 20 (by omega),g 21 (by omega),g 22 (by omega),g 23 (by omega),g 24 (by omega),g 25 (by omega),g 26 (by omega),g 27 (by omega)⟩
theorem zGX {l:List Im} (h:k<l.length):nAt (ims l) (k*28)=l[k].w/\nAt (ims l) (k*28+1)=l[k].h/\bAt (ims l) (k*28+1+1)=l[k].so/\nAt (ims l) (k*28+1+1+1)=l[k].c.a/\nAt (ims l) (k*28+1+1+1+1)=l[k].c.b/\nAt (ims l) (k*28+1+1+1+1+1)=l[k].c.c/\nAt (ims l) (k*28+1+1+1+1+1+1)=l[k].c.al/\nAt (ims l) (k*28+1+1+1+1+1+1+1)=l[k].c.f/\nAt (ims l) (k*28+1+1+1+1+1+1+1+1)=l[k].p0.w/\nAt (ims l) (k*28+1+1+1+1+1+1+1+1+1)=l[k].p0.h/\nAt (ims l) (k*28+1+1+1+1+1+1+1+1+1+1)=l[k].p0.s/\lAt (ims l) (k*28+1+1+1+1+1+1+1+1+1+1+1)=l[k].p0.n/\cAt (ims l) (k*28+1+1+1+1+1+1+1+1+1+1+1)=l[k].p0.xs/\nAt (ims l) (k*28+1+1+1+1+1+1+1+1+1+1+1+1)=l[k].p1.w/\nAt (ims l) (k*28+1+1+1+1+1+1+1+1+1+1+1+1+1)=l[k].p1.h/\nAt (ims l) (k*28+1+1+1+1+1+1+1+1+1+1+1+1+1+1)=l[k].p1.s/\lAt (ims l) (k*28+1+1+1+1+1+1+1+1+1+1+1+1+1+1+1)=l[k].p1.n/\cAt (ims l) (k*28+1+1+1+1+1+1+1+1+1+1+1+1+1+1+1)=l[k].p1.xs/\nAt (ims l) (k*28+1+1+1+1+1+1+1+1+1+1+1+1+1+1+1+1)=l[k].p2.w/\nAt (ims l) (k*28+1+1+1+1+1+1+1+1+1+1+1+1+1+1+1+1+1)=l[k].p2.h/\nAt (ims l) (k*28+1+1+1+1+1+1+1+1+1+1+1+1+1+1+1+1+1+1)=l[k].p2.s/\lAt (ims l) (k*28+1+1+1+1+1+1+1+1+1+1+1+1+1+1+1+1+1+1+1)=l[k].p2.n/\cAt (ims l) (k*28+1+1+1+1+1+1+1+1+1+1+1+1+1+1+1+1+1+1+1)=l[k].p2.xs/\nAt (ims l) (k*28+1+1+1+1+1+1+1+1+1+1+1+1+1+1+1+1+1+1+1+1)=l[k].p3.w/\nAt (ims l) (k*28+1+1+1+1+1+1+1+1+1+1+1+1+1+1+1+1+1+1+1+1+1)=l[k].p3.h/\nAt (ims l) (k*28+1+1+1+1+1+1+1+1+1+1+1+1+1+1+1+1+1+1+1+1+1+1)=l[k].p3.s/\lAt (ims l) (k*28+1+1+1+1+1+1+1+1+1+1+1+1+1+1+1+1+1+1+1+1+1+1+1)=l[k].p3.n/\cAt (ims l) (k*28+1+1+1+1+1+1+1+1+1+1+1+1+1+1+1+1+1+1+1+1+1+1+1)=l[k].p3.xs/\nAt (ims l) (k*28+1+1+1+1+1+1+1+1+1+1+1+1+1+1+1+1+1+1+1+1+1+1+1+1)=l[k].p4.w/\nAt (ims l) (k*28+1+1+1+1+1+1+1+1+1+1+1+1+1+1+1+1+1+1+1+1+1+1+1+1+1)=l[k].p4.h/\nAt (ims l) (k*28+1+1+1+1+1+1+1+1+1+1+1+1+1+1+1+1+1+1+1+1+1+1+1+1+1+1)=l[k].p4.s/\lAt (ims l) (k*28+1+1+1+1+1+1+1+1+1+1+1+1+1+1+1+1+1+1+1+1+1+1+1+1+1+1+1)=l[k].p4.n/\cAt (ims l) (k*28+1+1+1+1+1+1+1+1+1+1+1+1+1+1+1+1+1+1+1+1+1+1+1+1+1+1+1)=l[k].p4.xs:=by
 obtain ⟨e0,e1,e2,e3,e4,e5,e6,e7,e8,e9,e10,e11,e12,e13,e14,e15,e16,e17,e18,e19,e20,e21,e22,e23,e24,e25,e26,e27⟩:=zGW h;simp only [nAt,bAt,lAt,cAt,e0,e1,e2,e3,e4,e5,e6,e7,e8,e9,e10,e11,e12,e13,e14,e15,e16,e17,e18,e19,e20,e21,e22,e23,e24,e25,e26,e27,and_self]
def imAt (xs:List DV) (i:Nat):Im:=⟨nAt xs i,nAt xs (i+1),bAt xs (i+2),⟨nAt xs (i+3),nAt xs (i+4),nAt xs (i+5),nAt xs (i+6),nAt xs (i+7)⟩,⟨nAt xs (i+8),nAt xs (i+9),nAt xs (i+10),lAt xs (i+11),cAt xs (i+11)⟩,⟨nAt xs (i+12),nAt xs (i+13),nAt xs (i+14),lAt xs (i+15),cAt xs (i+15)⟩,⟨nAt xs (i+16),nAt xs (i+17),nAt xs (i+18),lAt xs (i+19),cAt xs (i+19)⟩,⟨nAt xs (i+20),nAt xs (i+21),nAt xs (i+22),lAt xs (i+23),cAt xs (i+23)⟩,⟨nAt xs (i+24),nAt xs (i+25),nAt xs (i+26),lAt xs (i+27),cAt xs (i+27)⟩⟩
theorem jG8 {l:List Im} (h:k<l.length):imAt (ims l) (k*28)=l[k]:=by
 have e:=zGX h;simp only [imAt,show k*28+2=k*28+1+1 from rfl,show k*28+3=k*28+1+1+1 from rfl,show k*28+4=k*28+1+1+1+1 from rfl,show k*28+5=k*28+1+1+1+1+1 from rfl,show k*28+6=k*28+1+1+1+1+1+1 from rfl,show k*28+7=k*28+1+1+1+1+1+1+1 from rfl,show k*28+8=k*28+1+1+1+1+1+1+1+1 from rfl,show k*28+9=k*28+1+1+1+1+1+1+1+1+1 from rfl,show k*28+10=k*28+1+1+1+1+1+1+1+1+1+1 from rfl,show k*28+11=k*28+1+1+1+1+1+1+1+1+1+1+1 from rfl,show k*28+12=k*28+1+1+1+1+1+1+1+1+1+1+1+1 from rfl,show k*28+13=k*28+1+1+1+1+1+1+1+1+1+1+1+1+1 from rfl,show k*28+14=k*28+1+1+1+1+1+1+1+1+1+1+1+1+1+1 from rfl,show k*28+15=k*28+1+1+1+1+1+1+1+1+1+1+1+1+1+1+1 from rfl,show k*28+16=k*28+1+1+1+1+1+1+1+1+1+1+1+1+1+1+1+1 from rfl,show k*28+17=k*28+1+1+1+1+1+1+1+1+1+1+1+1+1+1+1+1+1 from rfl,show k*28+18=k*28+1+1+1+1+1+1+1+1+1+1+1+1+1+1+1+1+1+1 from rfl,show k*28+19=k*28+1+1+1+1+1+1+1+1+1+1+1+1+1+1+1+1+1+1+1 from rfl,show k*28+20=k*28+1+1+1+1+1+1+1+1+1+1+1+1+1+1+1+1+1+1+1+1 from rfl,show k*28+21=k*28+1+1+1+1+1+1+1+1+1+1+1+1+1+1+1+1+1+1+1+1+1 from rfl,show k*28+22=k*28+1+1+1+1+1+1+1+1+1+1+1+1+1+1+1+1+1+1+1+1+1+1 from rfl,show k*28+23=k*28+1+1+1+1+1+1+1+1+1+1+1+1+1+1+1+1+1+1+1+1+1+1+1 from rfl,show k*28+24=k*28+1+1+1+1+1+1+1+1+1+1+1+1+1+1+1+1+1+1+1+1+1+1+1+1 from rfl,show k*28+25=k*28+1+1+1+1+1+1+1+1+1+1+1+1+1+1+1+1+1+1+1+1+1+1+1+1+1 from rfl,show k*28+26=k*28+1+1+1+1+1+1+1+1+1+1+1+1+1+1+1+1+1+1+1+1+1+1+1+1+1+1 from rfl,show k*28+27=k*28+1+1+1+1+1+1+1+1+1+1+1+1+1+1+1+1+1+1+1+1+1+1+1+1+1+1+1 from rfl,e]
def zQF (xs:List DV):List Im:=(List.range (xs.length / 28)).map λk=>imAt xs (k*28)
theorem zQS (l:List Im):zQF (ims l)=l:=by
 have e:(ims l).length / 28=l.length:=by rw [zYT]; omega
 unfold zQF;rw [e];refine wQT (by simp) λi h1 h2=>?_;simp only [List.getElem_map,wQ4];exact jG8 h2
def jHH (n:Nat) (xs:List DV):Prop:=(xs=ims (zQF xs)/\n=(zQF xs).length)/\∀ m∈zQF xs,m.isU
variable {n:Nat}
theorem jUL {l:List Im} (hn:n=l.length) (h:∀ m∈l,m.isU):jHH n (ims l):=⟨⟨by rw [zQS],by rw [zQS]; exact hn⟩,by rw [zQS]; exact h⟩
theorem jHH.of {xs:List DV} (h:jHH n xs):∃ l:List Im,(∀ m∈l,m.isU)/\xs=ims l/\n=l.length:=⟨zQF xs,h.2,h.1.1,h.1.2⟩
def yZK (n:Nat) (xs:List DV):Prop:=xs=ops (zQo xs)/\n=(zQo xs).length
theorem jJi {l:List Oq} (h:n=l.length):yZK n (ops l):=⟨by rw [zQz],by rw [zQz]; exact h⟩
theorem jQj (o:Oq):ops [o]=o.cells:=by simp [ops]
def gOff (n c:Int):Int:=if modS n 3=0 then c else c+modS (wrap .i64 (Int.tdiv n 3)) 9-4
structure Rw where
  k:Int
  im:Int
  x:Int
  y:Int
  ma:Int
  mx:Int
  my:Int
  op:Int
  ope:Int
  mo:Int
  fl:Int
def gOp (r:Rw) (push:Bool) (n:Int) (c:Rc) (free:Bool) (most:Int):Oq:=
 let m:=decide (modS r.ma 4=0)
 ⟨if push then 2 else 1,if push then 0 else modS r.im n,if push then 0 else gOff r.x c.a,if push then 0 else gOff r.y c.b,
  if m then 1+modS (wrap .i64 (Int.tdiv r.ma 4)) n else 0,if m then gOff r.mx c.a else 0,if m then gOff r.my c.b else 0,
  if modS r.op 2=0 then zQY (wrap .i64 (Int.tdiv r.op 2)) most else most,
  if free&&decide (modS r.ope 2=0) then 1+modS (wrap .i64 (Int.tdiv r.ope 2)) 12 else 4,
  if modS r.mo 2=0 then 1+modS (wrap .i64 (Int.tdiv r.mo 2)) 12 else 1,
  push&&decide (modS r.fl 2=0),push&&decide (modS (wrap .i64 (Int.tdiv r.fl 2)) 3=0)⟩
def rwAt (xs:List DV) (i:Nat):Rw:=⟨nAt xs i,nAt xs (i+1),nAt xs (i+2),nAt xs (i+3),nAt xs (i+4),nAt xs (i+5),nAt xs (i+6),nAt xs (i+7),nAt xs (i+8),nAt xs (i+9),nAt xs (i+10)⟩
structure Scn where
  b:Int
  x:Int
  y:Int
  w:Int
  h:Int
  tw:Int
  th:Int
  on:Nat
  oxs:List DV
  pn:Nat
  pxs:List DV
  rn:Nat
  rxs:List DV
def Scn.c (s:Scn):Rc:=⟨modS s.x 13-6,modS s.y 13-6,modS s.x 13-6+(1+modS s.w 5),modS s.y 13-6+(1+modS s.h 4)⟩
def Scn.gw (s:Scn):Int:=1+modS s.w 5
def Scn.gh (s:Scn):Int:=1+modS s.h 4
def Scn.gtw (s:Scn):Int:=1+modS s.tw s.gw
def Scn.gth (s:Scn):Int:=1+modS s.th s.gh
def Scn.most (s:Scn):Int:=gMax s.b
def Scn.bits (s:Scn):Int:=if s.most>255 then 16 else 8
def Scn.tiles (s:Scn):Int:=wrap .i64 ((cntS s.c s.gtw s.gth).1*(cntS s.c s.gtw s.gth).2.1)
def Scn.ord (s:Scn):List Int:=zKA (ints s.oxs) s.tiles
def Scn.pic (s:Scn) (k:Nat):Im:=zJO (nAt s.pxs (k*5)) (nAt s.pxs (k*5+1)) (nAt s.pxs (k*5+2)) (nAt s.pxs (k*5+3)) (lAt s.pxs (k*5+4)) (cAt s.pxs (k*5+4)) s.c.a s.c.b s.c.c s.c.d s.most
def Scn.pics (s:Scn) (k:Nat):List Im:=(List.range k).map s.pic
def Scn.solo (s:Scn):Im:=zZl s.gw s.gh ⟨s.most,0,0,s.most,s.most⟩
def Scn.ims (s:Scn):List Im:=if min s.pn 4=0 then [s.solo] else s.pics (min s.pn 4)
def Scn.step (s:Scn) (r:Rw) (z:List Oq × List Oq):List Oq × List Oq:=
 if modS r.k 8=0/\0<z.2.length then (z.1++[popO],z.2.dropLast)
 else
  let o:=gOp r (decide (modS r.k 8<3)) s.ims.length s.c (ctxB z.2) s.most
  (z.1++[o],if modS r.k 8<3 then z.2++[o] else z.2)
def Scn.run (s:Scn):Nat->List Oq × List Oq
 | 0=>([],[])
 | k+1=>s.step (rwAt s.rxs (k*11)) (s.run k)
def Scn.ops (s:Scn):List Oq:=(s.run (min s.rn 9)).1++List.replicate (s.run (min s.rn 9)).2.length popO
def jH0 (n:Nat) (xs:List DV):Prop:=xs.length=n*5/\∀ k,k<n->xs[k*5]?=some (.int .i64 (nAt xs (k*5)))/\xs[k*5+1]?=some (.int .i64 (nAt xs (k*5+1)))/\xs[k*5+1+1]?=some (.int .i64 (nAt xs (k*5+1+1)))/\xs[k*5+1+1+1]?=some (.int .i64 (nAt xs (k*5+1+1+1)))/\xs[k*5+1+1+1+1]?=some (.sl (lAt xs (k*5+1+1+1+1)) (cAt xs (k*5+1+1+1+1)))/\Is5 (lAt xs (k*5+1+1+1+1)) (cAt xs (k*5+1+1+1+1))
def yZJ (n:Nat) (xs:List DV):Prop:=xs.length=n*11/\∀ i,i<n*11->xs[i]?=some (.int .i64 (nAt xs i))
def Scn.ok (s:Scn):Prop:=(s.oxs=is (ints s.oxs)/\s.on=s.oxs.length)/\jH0 s.pn s.pxs/\yZJ s.rn s.rxs
theorem Scn.facts (s:Scn):(0<=modS s.x 13/\modS s.x 13<13)/\(0<=modS s.y 13/\modS s.y 13<13)/\(1<=s.gw/\s.gw<=5)/\(1<=s.gh/\s.gh<=4)/\(1<=s.gtw/\s.gtw<=s.gw)/\(1<=s.gth/\s.gth<=s.gh):=by
 have a:=@zZH s.x 13 (by omega) (by omega);have b:=@zZH s.y 13 (by omega) (by omega);have c:=@zZH s.w 5 (by omega) (by omega);have d:=@zZH s.h 4 (by omega) (by omega);have e:1<=s.gw/\s.gw<=5:=by unfold Scn.gw; omega
 have f:1<=s.gh/\s.gh<=4:=by unfold Scn.gh; omega
 have g:=@zZH s.tw s.gw (by omega) (by omega);have h:=@zZH s.th s.gh (by omega) (by omega);exact ⟨a,b,e,f,by unfold Scn.gtw; omega,by unfold Scn.gth; omega⟩
theorem Scn.pics_succ (s:Scn) (k:Nat):s.pics (k+1)=s.pics k++[s.pic k]:=by simp [Scn.pics,wXV]
theorem Scn.pics_len (s:Scn) (k:Nat):(s.pics k).length=k:=by simp [Scn.pics]
theorem Scn.ims_len (s:Scn):1<=s.ims.length/\s.ims.length<=4:=by
 unfold Scn.ims;split
 ·simp
 ·rw [Scn.pics_len]; omega
theorem Scn.run_len (s:Scn) (k:Nat):(s.run k).1.length=k/\(s.run k).2.length<=k:=by
 induction k with
 | zero=>simp [Scn.run]
 | succ k ih=>
  simp only [Scn.run,Scn.step];split
  ·simp; omega
  ·simp only [];split<;>simp<;>omega
theorem Scn.most_in (s:Scn):s.most=255\/s.most=65535:=by
 unfold Scn.most gMax;split<;>simp
theorem Scn.ims_isU (s:Scn):∀ m∈s.ims,m.isU:=by
 intro m hm;unfold Scn.ims at hm;split at hm
 ·rw [wQk] at hm; subst hm; exact zWU _ _ _
 ·simp only [Scn.pics,wQw] at hm;obtain ⟨k,_,rfl⟩:=hm;exact jWy _ _ _ _ _ _ _ _ _ _ _
theorem Scn.c_facts (s:Scn):s.c.c-s.c.a=s.gw/\s.c.d-s.c.b=s.gh /\ -6<=s.c.a/\s.c.a<=6 /\ -6<=s.c.b/\s.c.b<=6:=by
 have:=s.facts;simp only [Scn.c,Scn.gw,Scn.gh] at this |-;omega
theorem Scn.bits_of (s:Scn):(gMax s.b>255->16=s.bits)/\(¬ gMax s.b>255->8=s.bits):=by
 unfold Scn.bits Scn.most;exact ⟨λh=>by rw [if_pos h],λh=>by rw [if_neg h]⟩
variable {n:Int}
theorem cnt1 {w:Int} (h:1<=w) (hw:w<=n) (hn:n<=5):1<=wrap .i64 (Int.tdiv (wrap .i64 (wrap .i64 (wrap .i64 n+w)-1)) w)/\wrap .i64 (Int.tdiv (wrap .i64 (wrap .i64 (wrap .i64 n+w)-1)) w)<=n:=by
 rw [wQb n ⟨by omega,by omega⟩,wQb (n+w) ⟨by omega,by omega⟩,wQb (n+w-1) ⟨by omega,by omega⟩,wQY (by omega)];have:1<=(n+w-1) / w/\(n+w-1) / w<=n:=by
  rcases (show w=1\/w=2\/w=3\/w=4\/w=5 by omega) with rfl | rfl | rfl | rfl | rfl<;>omega
 rw [wQb _ ⟨by omega,by omega⟩];exact this
theorem Scn.cnt (s:Scn):(cntS s.c s.gtw s.gth).2.2=true/\(1<=(cntS s.c s.gtw s.gth).1/\(cntS s.c s.gtw s.gth).1<=5)/\1<=(cntS s.c s.gtw s.gth).2.1/\(cntS s.c s.gtw s.gth).2.1<=4:=by
 obtain ⟨f1,f2,f3,f4,f5,f6⟩:=s.facts;have CF:=s.c_facts;have he:Rc.empty s.c=false:=by
  rw [Rc.empty_iff]; omega
 unfold cntS;rw [he,if_neg (by simp),CF.1,CF.2.1,if_neg (by rw [wQb _ ⟨by omega,by omega⟩,wQb _ ⟨by omega,by omega⟩]; omega)];have a:=cnt1 f5.1 f5.2 (by omega);have b:=cnt1 f6.1 f6.2 (by omega);exact ⟨rfl,⟨a.1,wZH a.2 (by omega)⟩,b.1,wZH b.2 (by omega)⟩
theorem Scn.tiles_in (s:Scn):0<=s.tiles/\s.tiles<=20:=by
 obtain ⟨_,a,b⟩:=s.cnt;unfold Scn.tiles;generalize (cntS s.c s.gtw s.gth).1=x at *;generalize (cntS s.c s.gtw s.gth).2.1=y at *;have h1:0<=x*y:=Int.mul_nonneg (by omega) (by omega);have h2:x*y<=5*4:=wQv a.2 b.2 (by omega) (by omega);rw [wQb _ ⟨by omega,by omega⟩];omega
variable {s:Scn}
theorem Scn.run_pop (h:modS (rwAt s.rxs (k*11)).k 8=0/\0<(s.run k).2.length):s.run (k+1)=((s.run k).1++[popO],(s.run k).2.dropLast):=by
 simp only [Scn.run,Scn.step];rw [if_pos h]
variable {o:Oq}
theorem Scn.run_op (h:¬ (modS (rwAt s.rxs (k*11)).k 8=0/\0<(s.run k).2.length)) (ho:o=gOp (rwAt s.rxs (k*11)) (decide (modS (rwAt s.rxs (k*11)).k 8<3)) s.ims.length s.c (ctxB (s.run k).2) s.most):
  (o.kind=2->s.run (k+1)=((s.run k).1++[o],(s.run k).2++[o]))/\(o.kind≠2->s.run (k+1)=((s.run k).1++[o],(s.run k).2)):=by
 have e:s.run (k+1)=((s.run k).1++[o],if modS (rwAt s.rxs (k*11)).k 8<3 then (s.run k).2++[o] else (s.run k).2):=by
  simp only [Scn.run,Scn.step];rw [if_neg h,<- ho]
 have hk:o.kind=if modS (rwAt s.rxs (k*11)).k 8<3 then 2 else 1:=by
  rw [ho];simp [gOp]
 rw [e,hk];split<;>simp
abbrev wYn:=@List.getLast?_eq_getElem?
theorem jGa {l:List Oq} (h:0<l.length):ctxB l=(l[l.length-1].iso && !l[l.length-1].kno):=by
 unfold ctxB;rw [wYn,List.getElem?_eq_getElem (by omega)]
abbrev iD (q:Im):List DV:=[DV.int .i64 q.w,DV.int .i64 q.h,DV.bool q.so,DV.int .u16 q.c.a,DV.int .u16 q.c.b,DV.int .u16 q.c.c,DV.int .u16 q.c.al,DV.int .u16 q.c.f,DV.int .i64 q.p0.w,DV.int .i64 q.p0.h,DV.int .i64 q.p0.s,DV.sl q.p0.n q.p0.xs,DV.int .i64 q.p1.w,DV.int .i64 q.p1.h,DV.int .i64 q.p1.s,DV.sl q.p1.n q.p1.xs,DV.int .i64 q.p2.w,DV.int .i64 q.p2.h,DV.int .i64 q.p2.s,DV.sl q.p2.n q.p2.xs,DV.int .i64 q.p3.w,DV.int .i64 q.p3.h,DV.int .i64 q.p3.s,DV.sl q.p3.n q.p3.xs,DV.int .i64 q.p4.w,DV.int .i64 q.p4.h,DV.int .i64 q.p4.s,DV.sl q.p4.n q.p4.xs]
abbrev pD (q:Px):List DV:=[DV.int .u16 q.a,DV.int .u16 q.b,DV.int .u16 q.c,DV.int .u16 q.al,DV.int .u16 q.f]
def gZ3:List RV->Option RV:=λv=>some (RV.d (dQ (zZs (nAt (uq v) 0) (nAt (uq v) 1))))
def gZ4:List RV->Option RV:=λv=>let c:=ur v 0;some (RV.d (dQ (zQ2 (nAt c 0) (nAt c 1) (nAt c 2) (lAt c 3))))
def vg (l:List DV):Px:=⟨nAt l 0,nAt l 1,nAt l 2,nAt l 3,nAt l 4⟩
def gZ5:List RV->Option RV:=λv=>some (RV.d (dQ (Px.ok (vg (ur v 0)) (nAt (uq v) 1))))
def vh (l:List DV):Im:=⟨nAt l 0,nAt l 1,bAt l 2,⟨nAt l 3,nAt l 4,nAt l 5,nAt l 6,nAt l 7⟩,⟨nAt l 8,nAt l 9,nAt l 10,lAt l 11,cAt l 11⟩,⟨nAt l 12,nAt l 13,nAt l 14,lAt l 15,cAt l 15⟩,⟨nAt l 16,nAt l 17,nAt l 18,lAt l 19,cAt l 19⟩,⟨nAt l 20,nAt l 21,nAt l 22,lAt l 23,cAt l 23⟩,⟨nAt l 24,nAt l 25,nAt l 26,lAt l 27,cAt l 27⟩⟩
def gZ6:List RV->Option RV:=λv=>some (RV.d (dQ (Im.formed (vh (ur v 0)))))
def gZ7:List RV->Option RV:=λv=>some (RV.agg (pD (Im.px (vh (ur v 0)) (nAt (uq v) 1) (nAt (uq v) 2))))
def gZ8:List RV->Option RV:=λv=>some (RV.agg (pD (Im.at_ (vh (ur v 0)) (nAt (uq v) 1) (nAt (uq v) 2))))
def gZ9:List AV->List Bx->Option Ret:=λv b=>let g:=nAt (ut v) 1;let i:=nAt (ut v) 0;let e:=imOf i g (zQk (cAt (ut v) 2));some ⟨AV.tup [AV.agg [cJ e.w,cJ e.h,Cl.d (dQ e.so),cK e.c.a,cK e.c.b,cK e.c.c,cK e.c.al,cK e.c.f,cJ e.p0.w,cJ e.p0.h,cJ e.p0.s,Cl.ref 0 e.p0.n,cJ e.p1.w,cJ e.p1.h,cJ e.p1.s,Cl.ref 1 e.p1.n,cJ e.p2.w,cJ e.p2.h,cJ e.p2.s,Cl.ref 2 e.p2.n,cJ e.p3.w,cJ e.p3.h,cJ e.p3.s,Cl.ref 3 e.p3.n,cJ e.p4.w,cJ e.p4.h,cJ e.p4.s,Cl.ref 4 e.p4.n],AV.one (Cl.d (dQ (ofOk i g (lAt (ut v) 2))))],[Bx.row 34 1 e.p0.xs,Bx.row 34 1 e.p1.xs,Bx.row 34 1 e.p2.xs,Bx.row 34 1 e.p3.xs,Bx.row 34 1 e.p4.xs],true⟩
def vl (l:List DV):Pl:=⟨nAt l 0,nAt l 1,nAt l 2,lAt l 3,cAt l 3⟩
def gamI:Gam:=gamW.add [.p 83 gZ3,
 .p 86 gZ3,
 .p 257 gZ3,
 .p 237 (λv=>some (RV.d (dQ (zVe (vl (ur v 0)))))),
 .p 258 (λv=>some (rJ (lenW (nAt (uq v) 0) (nAt (uq v) 1) (nAt (uq v) 2)))),
 .p 238 gZ4,
 .p 163 gZ4,
 .p 117 gZ5,
 .p 231 gZ5,
 .p 208 gZ6,
 .p 87 (λv=>some (RV.d (dQ (Im.inner (vh (ur v 0)))))),
 .p 42 gZ6,
 .p 155 gZ7,
 .p 43 gZ7,
 .p 153 (λv=>some (rJ (Im.shape (vh (ur v 0))))),
 .p 33 (λv=>some (RV.agg (iD (zZl (nAt (uq v) 0) (nAt (uq v) 1) (vg (ur v 2)))))),
 .p 76 (λv=>some (rJ (Im.valid (vh (ur v 0)) (nAt (uq v) 1)))),
 .p 215 gZ8,
 .p 13 gZ8,
 .p 30 (λv=>some (RV.d (dK (gMax (nAt (uq v) 0))))),
 .p 45 (λv=>some (RV.d (dK (zQY (nAt (uq v) 0) (nAt (uq v) 1))))),
 .p 150 (λv=>let c:=ur v 0;let a:=(zJq (nAt c 0) (nAt c 1) (nAt c 2) (nAt c 3) (nAt c 4) (nAt (uq v) 1));some (RV.agg (pD a))),
 .p 73 (λ| []=>some (RV.tup [RV.tup [rJ 37,rJ 5]]) | [.agg [.int _ mood,.sl L xs],.d (.int _ n),.d (.int _ most)]=>some (RV.d (dS n.toNat (pxs (zQs mood L xs most n.toNat)))) | _=>none),
 .q 154 ([true,true],0,2) (λv b=>some ⟨AV.one (Cl.clo 209 [Cap.ptr 0 0,Cap.ptr 1 0]),[bC [cJ (nAt (ut v) 1)],bC [cJ (nAt (ut v) 0)]],false⟩),
 .q 38 ([true,true,true],0,5) gZ9,
 .q 74 ([true,true,true],0,5) gZ9,
 .r 209 (λ| [(true,[DV.int _ h]),(true,[DV.int _ w])]=>some ((w.toNat*h.toNat),λ_k=>[dJ ((_k%w.toNat:Nat):Int),dJ ((_k / w.toNat:Nat):Int)]) | _=>none)]
section
attribute [local irreducible] Ans AnsO AnsG AnsN AnsI
def aE (a:Int):DV:=DV.int IntKind.u16 a
def kS (a b:Int):Prop:=aBV a (aB b) b
def nC (a:Int):RV:=RV.d (aE a)
def dN (a b:Int) (c:Prop):Prop:=(a==b)=true->True/\c
def fU (a b:Int):Prop:=nC a=nC b
def uS (a b:Int) (c:Prop):Prop:=(a==b)=false->True/\c
theorem zU9 (n:Int):Ans prog 30 [rJ (n)] (rD (dK (gMax n))):=
 wc gamI aL Tryz.func30 (True/\True/\kS n 3/\True/\dN (modS n 3) 2 (fU 65535 (gMax n))/\uS (modS n 3) 2 (fU 255 (gMax n))) λhwf=>by
  delta eS aB gE aE uU aBV kS nC dN fU uS;simp only [sS,zQl];unfold gMax; grind
def dC (a b:Int) (c:Prop):Prop:=(a==b)=true->True/\True/\c
def rY (a b:Int):Bool:=bK (modS a b)
def aMJ (a:FuncId) (b c:Int) (e:DV) (f:RV):Prop:=Ans prog a [RV.d (aB (aT (Int.tdiv b c))),RV.d e] f
def xG (a b:Int) (c:DV) (d e:Int):Prop:=aMJ 27 a b c (gE (modS (kT a d) e))
def aBW (a:Prop) (b:Bool) (c d:Prop):Prop:=a/\True/\True/\(b=true->True/\c)/\d
def gI (a b:Prop):Prop:=a/\True/\b
def mG (a:Bool) (b:Prop) (c d:Int) (e f:Prop):Prop:=cS a b (cS (c==d) e f)
def fH (a:Int):Int:=wrap IntKind.u16 a
def fZ (a:Prop):Prop:=True/\True/\True/\True/\True/\a
def oH (a b:Int):Int:=aT (aT a+b)
def mI (a b:Int) (c d:Prop):Prop:=(a==b)=true->c/\d
def aEW (a b:Int) (c:Prop) (d e:Int) (f g:Prop):Prop:=mG (a==b) c a d (dN a e f) (uS a e g)
theorem zYs (n most:Int):Ans prog 45 [rJ (n),rD (dK most)] (rD (dK (zQY n most))):=
 wc gamI aL Tryz.func45 (let b:=zQY n most;let e:=aT (aT most+1);let c:=kT n 8;let d:=(8:Int)≠0;let f:=gI d (aY (xG n 8 (aB (aT (aT most+1))) 8 e) (fU (fH (modS c e)) b));let g:=True/\d/\aN (xG n 8 (aB 4) 8 4) (fU (fH (Min.min (aT most) (modS c 4))) b);let h:=True/\True/\d/\xG n 8 (aB 2) 8 2/\aY ((2:Int)≠0) (fU (fH (kT (oH most (modS c 2)) 2)) b);let a:=modS n 8;let i:=(a==3)=true;fZ (aBW (kS n 8) (rY n 8) (fU 0 b) (mG (rY n 8) (mI a 1 (dC a 1 (fU most b)) (aEW a 1 (i->h) 3 4 g f)) a 1 (dC a 2 (fU most b)) (aEW a 2 (i->h) 3 4 g f)))) λhwf=>by
  delta eS aB gE aE aT aY bK uU dC kT aBV kS rY aMJ xG nC dN fU uS aN aBW gI cS mG fH fZ oH mI aEW;simp only [sS,zQl,zU9];unfold zQY; grind
def bQ (a b c d e:Int):List DV:=[aE a,aE b,aE c,aE d,aE e]
def oE (a b:Int) (c:Nat):Prop:=0<=a/\b<(c:Int)
def jX (a:Nat):Prop:=oE 0 0 a
def aI (d:Px):List DV:=bQ d.a d.b d.c d.al d.f
def bV (a b c d e f g h i:Prop):Prop:=a/\b/\c/\d/\e/\f/\g/\h/\i
def pP (a:Nat):Prop:=oE 1 1 a
def qN (a:List DV) (b:Px):Prop:=nD a (aI b)
def qM (a:Nat):Prop:=oE 2 2 a
def aEU (a b c d:Int):List DV:=[aE a,aE b,aE c,aE d,aE d]
def xI (a:Int) (b:Prop):Prop:=fL a 0->b
def aBZ (a b:Int):Prop:=uU 45 a (aE b) (nC (zQY a b))
def tH (a b c d:Prop):Prop:=True/\a/\True/\(b->c)/\d
theorem jZg (n0 n1 n2 n3 n4 most:Int):Ans prog 150 [rA [dJ n0,dJ n1,dJ n2,dJ n3,dJ n4],rD (dK most)] (rA (pD (zJq n0 n1 n2 n3 n4 most))):=
 wc gamI aL Tryz.func150 (let e:=zJq n0 n1 n2 n3 n4 most;let a:=zQY n4 most;let c:=zQY n4 most;let b:=zQY (kT n3 3) c;let d:=zQY (kT n3 3) a;True/\True/\oE 4 4 5/\True/\True/\aBZ n4 most/\True/\True/\True/\oE 3 3 5/\tH (kS n3 3) (jY (modS n3 3) 0) (bV (oE 3 3 5) True ((3:Int)≠0) True (aMJ 45 n3 3 (aE a) (nC d)) True (jX 5) True (dY (aBZ n0 b) (pP 5) (dY (aBZ n1 b) (qM 5) (aY (aBZ n2 b) (cT (qN (bQ (zQY n0 d) (zQY n1 d) (zQY n2 b) b a) e)))))) (xI (modS n3 3) (gI (jX 5) (dY (aBZ n0 a) (pP 5) (dY (aBZ n1 a) (qM 5) (aY (aBZ n2 a) (cT (qN (aEU (zQY n0 c) (zQY n1 c) (zQY n2 c) a) e)))))))) λhwf=>by
  delta eS aB gE dY aE aT bQ aY oE uU kT aBV jX kS aMJ nC nD cT jY aI bV fL gI pP qN qM aEU xI aBZ tH;simp only [sS,zQl,zU9,zYs,zYs];simp [zJq]; grind
def aX (a b:DV) (c:wi):wi:=Cl.d a::Cl.d b::c
def aRD (a:Nat) (b:wi):Nat × Bx:=(a,Bx.cells b)
def fG (a b:Nat) (c:we):we:=aJU a (Cl.ptr b 0) c
def vG (a:Nat) (b:wi) (c:wg):wg:=aRD a b::c
def qP (a:we) (b:Nat) (c:wi) (d:wg):Snap:=⟨a,vG b c d⟩
def aST (a:Nat) (b:we):we:=fG 3 a b
def aCA (a:we):we:=aST 3 a
def qO (a:Nat) (b:Int) (c:Nat) (d:Int) (e:we):we:=aFB a b c (aE d) e
def fD (a:List DV) (b:Nat):DV:=aE (nAt a b)
def aEV (a:Int) (b:Nat) (c:List DV) (d:Int) (e f g:Nat):Prop:=(pxs (zQs a b c d e))[f]?=some (fD (pxs (zQs a b c d e)) g)
def uP (a:Nat) (b:List DV):List DV:=[DV.sl a b]
def zN (a:List DV) (b c:Nat):Prop:=a[b+c]?=some (aB (nAt a (b+c)))
def bN (a:List DV) (b:Nat):Prop:=zN a (b+1+1) 1
def bH (a b:Prop):Prop:=True/\True/\True/\a/\True/\True/\True/\True/\b
def pR (a:Int) (b:Prop):Prop:=eS (aB a)/\b
def jM (a:Int) (b:List RV):List RV:=RV.d (aE a)::b
def dV:List DV:=bQ 0 0 0 0 0
def fX (a:List DV) (b c:Nat):Int:=nAt a (aV b c+1)
def fY (a:List DV) (b c:Nat):Int:=nAt a (aV b c+1+1+1)
def iE (a:List DV) (b:Int) (c:Nat):Int:=nAt a (aR b c+1)
def gU (a:List DV) (b c:Nat):Int:=nAt a (aV b c+1+1)
def pS (a b c:Prop):Prop:=True/\True/\True/\True/\a/\True/\True/\b/\c
def jC (a:List DV) (b:Int) (c:Nat):Int:=nAt a (aR b c+1+1+1)
def uY (a:Int) (b:Nat) (c d:Prop):Prop:=aF (eS (aE a)) (eS b) c d
def jZ (a:List DV) (b:Int) (c:Nat):Int:=nAt a (aR b c+1+1+1+1)
def oF (a:List DV) (b:Int) (c:Nat):Prop:=zN a (aR b c) 1
def kV (a:FuncId) (b:List DV) (c:List RV) (d:Px):Prop:=kD a b c (aI d)
def mF (a:List DV) (b:Int) (c:Nat):Int:=nAt a (aR b c+1+1)
def kW (a:List DV) (b c:Nat):Int:=nAt a (aV b c+1+1+1+1)
def mH (a:List DV) (b c:Nat):Prop:=zN a (aV b c) 1
def uZ (a:List DV) (b:Int) (c:Nat):Prop:=zN a (aR b c+1) 1
def pT (a:List DV) (b c:Nat):Prop:=zN a (aV b c+1) 1
def nH (a b:Prop) (c d e:List DV):Prop:=aF a b (eS c) (d=e)
def zJ (a b:Prop):Prop:=True/\True/\True/\True/\bH a b
def zI (a:Nat) (b:Int) (c:Nat) (d e:Int) (f:Nat) (g h:List DV):Prop:=mB a b/\nH (aBX b a c) (pR b (uY d 0 (c+1=a) (bS c a))) (aB e::uP f g) h (pxs (zQs e f g d a))
def zH (a b:Nat) (c:Int) (d:Nat) (e:List DV) (f:Int) (g:List DV):Prop:=zXe a 10 b 1 (pxs (zQs c d e f b)) g
theorem zG9 (mood:Int) (L:Nat) (xs:List DV) (n most:Int) (hx:Is5 L xs) (hn:n<=16777216):AnsO prog 73 [rA [dJ mood,dS L xs],rJ (n),rD (dK most)] 37 5 n.toNat (pxs (zQs mood L xs most n.toNat)):=
 zWO (t:=6) (Γ:=gamI) (jL (um (λc=>mB c n) (λa=>qP (qO 1 n 2 most (aCA (kU 7 5000 a (pL 8 a [])))) 3 (aX (aB mood) (DV.sl L xs) []) (pQ 5000 37 5 (pxs (zQs mood L xs most a)))) (λb=>oB n b) (λd=>aL))) zQb Tryz.func73 rfl (nL rfl) rfl λhwf=>by
  refine Eq.mpr (by kernel_rfl:_=(let t:=pxs (zQs mood L xs most (Int.toNat n));let e:=zJq 0 0 0 0 0 most;let v:=aI e;let d:=modS mood 6;let l:=(d==2)=false;let p:=(d==2)=true;let y:=aEU e.a e.b e.c most;let q:=rY mood 6;let s:=kS mood 6;let A:=kV 150 (aB 0::tI) (jM most []) e;let k:=(L:Int);oG (∃ j:Nat,aF (mB j n) (pR n (uY most 0 (0=j) (dF j))) (eS (aB mood::uP L xs)) (([]:List DV)=pxs (zQs mood L xs most j))) (∀ a:Nat,let c:=pxs (zQs mood L xs most a);let u:=decide ((a:Int)<n);let w:=bH (zH 5 a mood L xs most v) (∃ O:Nat,zI O n a most mood L xs (c++v));let f:=(a:Int);let g:=pxs (zQs mood L xs most a);let x:=bQ (nAt g 0) (nAt g 1) (nAt g 2) (nAt g 3) (nAt g 4);let m:=dY (jX a) (fT (aEV mood L xs most a 0 0) (aEV mood L xs most a 1 1) (aEV mood L xs most a 2 2) (aEV mood L xs most a 3 3) (aEV mood L xs most a 4 4)) (bH (zH 5 a mood L xs most x) (∃ P:Nat,zI P n a most mood L xs (c++x)));let o:=jY f 0;let r:=dC d 0 (bH (zH 5 a mood L xs most dV) (∃ R:Nat,zI R n a most mood L xs (c++dV)));let z:=pS s r (mG q (dC d 1 (zJ (zH 5 a mood L xs most y) (∃ Q:Nat,zI Q n a most mood L xs (c++y)))) d 1 (p->tH (a<=maxLen) o m (xI f w)) (l->w));let h:=zJq (cY xs a 5) (fX xs a 5) (gU xs a 5) (fY xs a 5) (kW xs a 5) most;let B:=aI h;let C:=bH (zH 5 a mood L xs most B) (∃ S:Nat,zI S n a most mood L xs (c++B));let D:=aEU h.a h.b h.c most;let b:=Int.tmod f k;let E:=jZ xs b 5;let F:=jC xs b 5;let G:=mF xs b 5;let H:=iE xs b 5;let I:=nAt xs (aR b 5);let i:=zJq I H G F E most;let J:=aI i;let K:=bH (zH 5 a mood L xs most J) (∃ U:Nat,zI U n a most mood L xs (c++J));let M:=aEU i.a i.b i.c most;mB a n->True/\True/\True/\eG (u=true) (aBY L (bH (k≠0) (aBS b k (True/\True/\mX b L 5 xs/\fT (jW xs b 5) (oF xs b 5) (uZ xs b 5) (bN xs (aR b 5)) (bN xs (gT b 5))/\bH (kV 150 (aB I::eC H G F E) (jM most []) i) (s/\True/\True/\r/\mG q (dC d 1 (zJ (zH 5 a mood L xs most M) (∃ V:Nat,zI V n a most mood L xs (c++M)))) d 1 (p->tH (a<=maxLen) o m (xI f K)) (l->K))) (iN (decide (b<k)=false) A z))) (iO (L:Int) 0 (kX (dP a L->cV (True/\True/\cX a L 5 xs/\fT (fW xs a 5) (mH xs a 5) (pT xs a 5) (bN xs (aV a 5)) (bN xs (iP a 5))/\bH (kV 150 (aB (cY xs a 5)::eC (fX xs a 5) (gU xs a 5) (fY xs a 5) (kW xs a 5)) (jM most []) h) (s/\True/\True/\r/\mG q (dC d 1 (zJ (zH 5 a mood L xs most D) (∃ T:Nat,zI T n a most mood L xs (c++D)))) d 1 (p->tH (a<=maxLen) o m (xI f C)) (l->C)))) (iN (iQ a L) A z))))/\(u=false->cV (True/\(eS (37:Nat)/\eS (5:Nat))/\List.length t=aR n 5/\a=Int.toNat n/\c=t))))) ?_;delta eS aB aR gE mX dY jW aE aT aF fD bQ oE bK uU dC fT aBV jX kS aEV rY uP aIY aBS eC iN cI oB mB iH iO aV bS iP dF jY aBY aBX aI fL aEU xI tH cV zN bN cS bH pR kD cX cY dP iQ jM eG dV fX fY fW gT mG iE gU pS jC uY jZ oF kX kV mF kW mH oG uZ pT nH tI zJ zI zH;simp only [sS,zQl,zU9,zYs,zYs,jZg,jZg];refine ⟨⟨0,wQi _,⟨rfl,rfl⟩,rfl⟩,λk hk=>⟨λhlt=>?_,λhge=>?_⟩⟩
  ·have hkn:k<n.toNat:=by omega
   have hnn:n.toNat<=16777216:=by omega
   have tm:Int.tmod (k:Int) (L:Int)=((k%L:Nat):Int):=rfl;simp only [tm,wQl,Nat.add_assoc,Nat.reduceAdd]
   rcases wZ2 L with hL | hL
   ·subst hL;have P1:zJq 0 0 0 0 0 most=gPx1 0 xs most k:=by simp [gPx1,gNum]
    have P0:gPx1 0 xs most 0=gPx1 0 xs most k:=by simp [gPx1,gNum]
    simp only [P1]
    (repeat' (first | apply And.intro | intro))<;>(first | assumption | omega | exact A _ (by omega) | rfl | (rw [zQw,zXJ]; done) | (unfold maxLen; omega) | exact zVo (by omega) _ (by omega) | (apply jJw hkn hnn; simp_all [gPx,Px.ds,Px.zero]; done) | (obtain ⟨v0,v1,v2,v3,v4⟩:=jX7 (mood:=mood) (L:=L) (xs:=xs) (most:=most) (k:=k) (by omega) (wZk (by assumption)); apply jJw hkn hnn; simp_all [gPx,Px.ds]; done) | (obtain ⟨v0,v1,v2,v3,v4⟩:=jX7 (mood:=mood) (L:=0) (xs:=xs) (most:=most) (k:=k) (by omega) (wZk (by assumption)); apply jJw hkn hnn; simp_all [gPx,Px.ds]; done) | (have P2:=P0 (by omega); apply jJw hkn hnn; simp_all [gPx,Px.ds]; done))
   ·have hmod:=wQ8 k hL;have P1:zJq (nAt xs (k%L*5)) (nAt xs (k%L*5+1)) (nAt xs (k%L*5+2)) (nAt xs (k%L*5+3)) (nAt xs (k%L*5+4)) most=gPx1 L xs most k:=by simp [gPx1,gNum,hL]
    simp only [P1];have P0:k=0->gPx1 L xs most 0=gPx1 L xs most k:=λh=>by rw [h]
    have A:=hx.2;have B:=hx.1
    (repeat' (first | apply And.intro | intro))<;>(first | assumption | omega | exact A _ (by omega) | rfl | (rw [zQw,zXJ]; done) | (unfold maxLen; omega) | exact zVo (by omega) _ (by omega) | (apply jJw hkn hnn; simp_all [gPx,Px.ds,Px.zero]; done) | (obtain ⟨v0,v1,v2,v3,v4⟩:=jX7 (mood:=mood) (L:=L) (xs:=xs) (most:=most) (k:=k) (by omega) (wZk (by assumption)); apply jJw hkn hnn; simp_all [gPx,Px.ds]; done) | (obtain ⟨v0,v1,v2,v3,v4⟩:=jX7 (mood:=mood) (L:=0) (xs:=xs) (most:=most) (k:=k) (by omega) (wZk (by assumption)); apply jJw hkn hnn; simp_all [gPx,Px.ds]; done) | (have P2:=P0 (by omega); apply jJw hkn hnn; simp_all [gPx,Px.ds]; done))
  ·have:k=n.toNat:=by omega
   subst this;rw [zQw,zXJ];exact ⟨rfl,rfl,rfl⟩
def zZW (op:Int):ByteArray:=if 1<=op/\op<13 then sAt zZB (op.toNat*4) else ⟨#[]⟩
def zYt (op:Int) (i:Nat):Int:=if 1<=op/\op<13 then nAt zZB (op.toNat*4+i) else 0
def zZQ (op:Int):ByteArray:=if 1<=op/\op<13 then sAt zWp op.toNat else ⟨#[]⟩
theorem zYz {op:Int} (h:1<=op/\op<13):op=1\/op=2\/op=3\/op=4\/op=5\/op=6\/op=7\/op=8\/op=9\/op=10\/op=11\/op=12:=by omega
theorem zGS (op:Int):((zZW op).toList==(⟨#[]⟩:ByteArray).toList)=!decide (1<=op/\op<13):=by
 by_cases h:1<=op/\op<13
 ·rcases zYz h with rfl | rfl | rfl | rfl | rfl | rfl | rfl | rfl | rfl | rfl | rfl | rfl<;>decide +kernel
 ·simp [zZW,h]
theorem zWK (op:Int):((zZQ op).toList==(⟨#[]⟩:ByteArray).toList)=!decide (1<=op/\op<13):=by
 by_cases h:1<=op/\op<13
 ·rcases zYz h with rfl | rfl | rfl | rfl | rfl | rfl | rfl | rfl | rfl | rfl | rfl | rfl<;>decide +kernel
 ·simp [zZQ,h]
def gZ10:List RV->Option RV:=λv=>some (RV.d (DV.str (zZW (nAt (uq v) 0))))
def gZ11:List RV->Option RV:=λv=>let c:=nAt (uq v) 0;some (RV.d (dQ (decide (1<=c/\c<13))))
def gZ12:List RV->Option RV:=λv=>some (RV.d (DV.str (zZQ (nAt (uq v) 0))))
def jX6:Gam:=gamI.add [.p 216 (λv=>let c:=nAt (uq v) 0;some (RV.tup [RV.agg [DV.str (zZW c),dJ (zYt c 1),dJ (zYt c 2),dJ (zYt c 3)],RV.d (dQ (decide (1<=c/\c<13)))])),
 .p 165 gZ10,
 .p 217 gZ11,
 .p 166 gZ12,
 .p 266 gZ10,
 .p 267 gZ12,
 .p 248 gZ11,
 .p 249 gZ11]
def cB (a:Nat):Nat:=a+1+1
def mN (a:Int):Bool:=decide (1<=a/\a<13)
def vO (a:List UInt8):DV:=DV.str (ByteArray.mk (List.toArray a))
def aBA (a b c:Int):List DV:=[aB a,aB b,aB c]
def aNH (a:Int):Option DV:=some (aB a)
theorem zQg (op:Int):Ans prog 216 [rJ (op)] (rT [rA [DV.str (zZW op),dJ (zYt op 1),dJ (zYt op 2),dJ (zYt op 3)],rD (dQ (decide (1<=op/\op<13)))]):=
 wc jX6 aL Tryz.func216 (let b:=DV.str (zZW op)::aBA (zYt op 1) (zYt op 2) (zYt op 3);let c:=vO []::aBA 0 0 0;let d:=0+aR op 4+1;let e:=d+1;let a:=0+aR op 4;let f:=sAt zZB a;let g:=cB a+1;let h:=cB a;let j:=0+aR op 4+1;True/\True/\fQ (zC op) (pI op 13 (mK c false b (mN op)) (mY op 13 (cR (mO op 13) (aF (zZB[a]?=some (DV.str f)) (zZB[j]?=aNH (nAt zZB j)) (zZB[h]?=aNH (nAt zZB h)) (zZB[g]?=aNH (nAt zZB g))) (tP (DV.str f::aBA (nAt zZB d) (nAt zZB e) (nAt zZB (e+1))) b (mN op))))) (iG op 1->True/\True/\True/\True/\tO c false b (mN op))) λhwf=>by
  delta eS aB aR mY pI iG aF zC cR mO fQ cB fR mK zQ tO tP mN vO aBA aNH;simp only [sS];refine ⟨λh1=>⟨λh2=>?_,λh2=>⟨⟨by omega,by omega⟩,?_⟩⟩,λh1=>?_⟩
  ·have h:¬ (1<=op/\op<13):=by omega
   simp [zZW,zYt,h]
  ·have h:1<=op/\op<13:=by omega
   clear h1 h2
   rcases zYz h with rfl | rfl | rfl | rfl | rfl | rfl | rfl | rfl | rfl | rfl | rfl | rfl<;>exact ⟨⟨rfl,rfl,rfl,rfl⟩,⟨rfl,rfl,rfl,rfl⟩,rfl⟩
  ·have h:¬ (1<=op/\op<13):=by omega
   simp [zZW,zYt,h]
def kB (a:FuncId) (b:Int) (c:RV):Prop:=Ans prog a [RV.d (aB b)] c
def tV (a:ByteArray):RV:=RV.d (DV.str a)
theorem zQy (op:Int):Ans prog 165 [rJ (op)] (rD (DV.str (zZW op))):=
 wc jX6 aL Tryz.func165 (gK (kB 216 op (rT [rA (DV.str (zZW op)::aBA (zYt op 1) (zYt op 2) (zYt op 3)),rD (DV.bool (mN op))])) (True/\True/\True/\True/\fZ (eS (tV (zZW op))))) λhwf=>by
  delta eS aB fZ kB gK mN tV aBA;simp only [sS,zQg]
def vK (a:Int):Bool:=decide (a>=1)
theorem zQG (op:Int):Ans prog 217 [rJ (op)] (rD (dQ (decide (1<=op/\op<13)))):=
 wc jX6 aL Tryz.func217 (True/\eH (fI op 1) (bE (decide (op<=12)) (mN op)) (iW (vK op) (aBO (mN op)))) λhwf=>by
  delta eS fI bE eH vK iW mN aBO;simp only [sS,zQg,zQy];by_cases h:op>=1<;>simp [h]<;>omega
def zW (a:FuncId) (b:Int):Prop:=kB a b (RV.d (DV.bool (mN b)))
def aFZ (a:Prop) (b:Bool) (c d:Prop):Prop:=True/\a/\True/\yX b c/\d
theorem zQ8 (op:Int):Ans prog 166 [rJ (op)] (rD (DV.str (zZQ op))):=
 wc jX6 aL Tryz.func166 (let a:=sAt zWp (0+aR op 1);True/\aFZ (zW 217 op) (mN op) (rD (vO [])=tV (zZQ op)) (gC (mN op)->dY (mO op 13) (zWp[0+aR op 1]?=some (DV.str a)/\True) (tV a=tV (zZQ op)))) λhwf=>by
  delta eS aB aR dY mO kB gC mN zW tV vO yX aFZ;simp only [sS,zQg,zQy,zQG];refine ⟨λh=>by simp [zZQ,h],λh=>⟨⟨by omega,by omega⟩,?_⟩⟩
  rcases zYz h with rfl | rfl | rfl | rfl | rfl | rfl | rfl | rfl | rfl | rfl | rfl | rfl<;>exact ⟨rfl,rfl⟩
def aFT (a b:Int) (c:Prop):Prop:=decide (a>=b)=true->True/\c
def aFU (a b c d:List UInt8) (e:List DV):List DV:=vO a::vO b::vO c::vO d::e
theorem zZt (op:Int):Ans prog 266 [rJ (op)] (rD (DV.str (zZW op))):=
 wc jX6 aL Tryz.func266 (let a:=rD (vO [])=tV (zZW op);let b:=[(45:UInt8),(97:UInt8),(116:UInt8),(111:UInt8),(112:UInt8)];let c:=[(45:UInt8),(111:UInt8),(117:UInt8),(116:UInt8)];let d:=[(45:UInt8),(105:UInt8),(110:UInt8)];let e:=[(45:UInt8),(111:UInt8),(118:UInt8),(101:UInt8),(114:UInt8)];let f:=vO []::aFU [99,108,101,97,114] [115,114,99] [100,115,116] (115::114::99::e) (aFU (100::115::116::e) (115::114::99::d) (100::115::116::d) (115::114::99::c) (aFU (100::115::116::c) (115::114::99::b) (100::115::116::b) [120,111,114] []));let g:=sAt f (aR op 1);bF (bI (zC op) (13<=maxLen/\True/\True/\aFT op ((13:Nat):Int) a/\mY op ((13:Nat):Int) (dY (mO op 13) (f[aR op 1]?=some (DV.str g)/\True) (tV g=tV (zZW op)))) (iG op 1->eU a))) λhwf=>by
  delta eS aR bI mY dY iG zC mO eU bF tV vO aFT aFU;simp only [sS,zQg,zQy,zQG,zQ8];refine ⟨λh1=>⟨by decide,λh2=>?_,λh2=>⟨⟨by omega,by omega⟩,?_⟩⟩,λh1=>?_⟩
  ·have h:¬ (1<=op/\op<13):=by omega
   simp [zZW,h]
  ·have h:1<=op/\op<13:=by omega
   clear h1 h2
   rcases zYz h with rfl | rfl | rfl | rfl | rfl | rfl | rfl | rfl | rfl | rfl | rfl | rfl<;>exact ⟨rfl,rfl⟩
  ·have h:¬ (1<=op/\op<13):=by omega
   simp [zZW,h]
theorem zZi (op:Int):Ans prog 267 [rJ (op)] (rD (DV.str (zZQ op))):=
 wc jX6 aL Tryz.func267 (let b:=rD (vO [])=tV (zZQ op);let c:=[(45:UInt8),(108:UInt8),(105:UInt8),(103:UInt8),(104:UInt8),(116:UInt8)];let a:=[(101:UInt8),(110:UInt8)];let d:=vO []::aFU [110,111,114,109,97,108] [109,117,108,116,105,112,108,121] (115::99::114::101::a) [111,118,101,114,108,97,121] (aFU (100::97::114::107::a) (108::105::103::104::116::a) [99,111,108,111,114,45,100,111,100,103,101] [99,111,108,111,114,45,98,117,114,110] (aFU (104::97::114::100::c) (115::111::102::116::c) [100,105,102,102,101,114,101,110,99,101] [101,120,99,108,117,115,105,111,110] []));let e:=sAt d (aR op 1);bF (bI (zC op) (13<=maxLen/\True/\True/\aFT op ((13:Nat):Int) b/\mY op ((13:Nat):Int) (dY (mO op 13) (d[aR op 1]?=some (DV.str e)/\True) (tV e=tV (zZQ op)))) (iG op 1->eU b))) λhwf=>by
  delta eS aR bI mY dY iG zC mO eU bF tV vO aFT aFU;simp only [sS,zQg,zQy,zQG,zQ8,zZt];refine ⟨λh1=>⟨by decide,λh2=>?_,λh2=>⟨⟨by omega,by omega⟩,?_⟩⟩,λh1=>?_⟩
  ·have h:¬ (1<=op/\op<13):=by omega
   simp [zZQ,h]
  ·have h:1<=op/\op<13:=by omega
   clear h1 h2
   rcases zYz h with rfl | rfl | rfl | rfl | rfl | rfl | rfl | rfl | rfl | rfl | rfl | rfl<;>exact ⟨rfl,rfl⟩
  ·have h:¬ (1<=op/\op<13):=by omega
   simp [zZQ,h]
def aKT (a b:ByteArray):Bool:=ByteArray.toList a==ByteArray.toList b
theorem zZJ (op:Int):Ans prog 248 [rJ (op)] (rD (dQ (decide (1<=op/\op<13)))):=
 wc jX6 aL Tryz.func248 (True/\aY (kB 266 op (tV (zZW op))) (bE (!(aKT (zZW op) (ByteArray.mk (List.toArray ([]:List UInt8))))) (mN op))) λhwf=>by
  delta eS aB aY kB bE mN tV aKT;simp only [sS,zQg,zQy,zQG,zQ8,zZt,zZi];rw [zGS]; simp
theorem zZu (op:Int):Ans prog 249 [rJ (op)] (rD (dQ (decide (1<=op/\op<13)))):=
 wc jX6 aL Tryz.func249 (True/\aY (kB 267 op (tV (zZQ op))) (bE (!(aKT (zZQ op) (ByteArray.mk (List.toArray ([]:List UInt8))))) (mN op))) λhwf=>by
  delta eS aB aY kB bE mN tV aKT;simp only [sS,zQg,zQy,zQG,zQ8,zZt,zZi,zZJ];rw [zWK]; simp
def vm (l:List DV):Oq:=⟨nAt l 0,nAt l 1,nAt l 2,nAt l 3,nAt l 4,nAt l 5,nAt l 6,nAt l 7,nAt l 8,nAt l 9,bAt l 10,bAt l 11⟩
def jHf:Gam:=jX6.add [.p 152 (λv=>some (RV.d (dQ ((ints (cAt (uq v) 0)).all zZX)))),
 .p 164 (λv=>some (RV.d (dQ (Oq.fields (vm (ur v 0)))))),
 .p 167 (λv=>some (RV.d (dQ (ctxB (zQo (cAt (uq v) 0))))))]
def aBU (a:Oq) (b c d:Int):Oq:=⟨a.kind,a.image,a.x,a.y,a.mask,a.mx,a.my,b,c,d,a.iso,a.kno⟩
def xM (a:Bool) (b:Prop):Prop:=a=(!true)->True/\b
def mA (a:Bool) (b:Prop):Prop:=xM a (True/\True/\b)
def nJ (a:Bool) (b:Prop):Prop:=a=false->True/\True/\True/\b
def qT (a b:Int) (c d:Prop):Prop:=fQ ((a==b)=true) c d
def gV (a:Bool) (b c:Prop):Prop:=True/\True/\True/\(a=true->True/\b)/\(a=false->True/\c)
def sF (a b c:Bool):Bool:=Bool.and a (Bool.and b c)
def mL (a b:Int) (c d:Prop):Prop:=bI ((a==b)=true) c d
def rI (a:Int):Prop:=dX a=false
def aLU (a:Bool) (b c:Prop):Prop:=True/\True/\True/\nJ a b/\c
def aHC (a:Bool) (b c:Prop):Prop:=True/\True/\True/\(a=true->True/\b)/\xM a c
abbrev oD (q:Oq):List DV:=[DV.int .i64 q.kind,DV.int .i64 q.image,DV.int .i64 q.x,DV.int .i64 q.y,DV.int .i64 q.mask,DV.int .i64 q.mx,DV.int .i64 q.my,DV.int .u16 q.opac,DV.int .i64 q.oper,DV.int .i64 q.mode,DV.bool q.iso,DV.bool q.kno]
theorem zZo (o:Oq):Ans prog 164 [rA (oD o)] (rD (dQ (Oq.fields ⟨o.kind,o.image,o.x,o.y,o.mask,o.mx,o.my,o.opac,o.oper,o.mode,o.iso,o.kno⟩))):=
 wc jHf aL Tryz.func164 (let a:=Oq.fields (aBU o o.opac o.oper o.mode);let c:=qU (dX o.mask) (bE true a);let b:=bE false a;let e:=True/\mL o.mx 0 (gZ (bK o.my) a) (mA (bK o.mx) b);let f:=dX o.mask=false;let d:=aHC (o.kind==2) (bI (rI o.image) (aLU (dX o.x) (gV (dX o.y) b (True/\True/\True/\(f->e)/\c)) (mM (dX o.x) false a)) (qU (dX o.image) (gZ false a))) (kX (f->e) c);bF (eH ((o.kind==3)=true) (bE (sF (o.kind==3) (bK o.image) (sF (bK o.x) (bK o.y) (sF (bK o.mask) (bK o.mx) (sF (bK o.my) (bK o.opac) (sF (bK o.oper) (bK o.mode) (sF (o.iso==false) (o.kno==false) true)))))) a) (uS o.kind 3 (qT o.kind 1 (bI (o.iso=false) (gV o.kno b d) (mM o.iso false a)) (mA (o.kind==1) d))))) λhwf=>by
  delta eS bI bK uS aBU xM mA fQ kX bF nJ qT qU dX gV sF lB bE eH mL gZ mM rI aLU aHC;simp only [sS,zQg,zQy,zQG,zQ8,zZt,zZi,zZJ,zZu];obtain ⟨okind,oimage,ox,oy,omask,omx,omy,oopac,ooper,omode,oiso,okno⟩:=o;simp only [Oq.fields,popO,Oq.mk.injEq];have hb:∀ a c:Int,(a==c)=decide (a=c):=λ_ _=>rfl;have hn:∀ a c:Int,(a !=c)=!decide (a=c):=λ_ _=>rfl;simp only [hb,hn];cases oiso<;>cases okno<;>by_cases h3:okind=3<;>by_cases h1:okind=1<;>by_cases h2:okind=2<;>by_cases h0:omask=0<;>simp [h3,h1,h2,h0,Bool.or_assoc]<;>first | omega | grind | skip
def aMF (a b:Nat) (c:List Int) (d:Int->Bool):Prop:=dR a b (List.all (List.take a c) d=true)
def iR (a:DV) (b:Prop):Prop:=eS a/\b/\True
def fP (a b c d:Prop):Prop:=a/\b/\c/\d
def aAJ (a:DV) (b:Prop):Prop:=eS a/\eS a/\b
abbrev wYG:=@List.take_succ_eq_append_getElem
theorem zKo (n:Nat) (xs:List DV) (hx:xs=is (ints xs)/\n=xs.length):Ans prog 152 [rD (dS n xs)] (rD (dQ ((ints xs).all zZX))):=
 wc jHf (sA (um (λc=>aMF c n (ints xs) zZX) (λb=>nT (rZ 0 n xs (aHL 5 n xs 6 7 b))) (λa=>n-a) (λd=>aL))) Tryz.func152 (let e:=List.all (ints xs) zZX;let f:=bE false e;oG (∃ d:Nat,aMF d n (ints xs) zZX/\aAJ (DV.sl n xs) (iR (cI n) (dF d))/\True) (∀ a:Nat,let b:=cY xs a 1;yW (aMF a n (ints xs) zZX) (dP a n->fP (cX a n 1 xs) (fW xs a 1/\True) True (fQ (decide (b<(-(1048576:Int)))=false) (iH b 1048576 f (xW b 1048576 (∃ c:Nat,aW (aMF c n (ints xs) zZX) (dM n c a) (aAJ (DV.sl n xs) (iR (cI n) (bS a c)))))) (iG b (-1048576)->eU f))) a n (bE true e))) λhwf=>by
  delta eS aB aR iG aT cI aW iH aV bS bP fQ dF fL cX cY dP iQ fW oG eU iR fP aAJ dR dM bE xW yW aMF;simp only [sS,zQg,zQy,zQG,zQ8,zZt,zZi,zZJ,zZu,zZo];obtain ⟨hx,rfl⟩:=hx;generalize hl:ints xs=l at *;subst hx;simp only [zQE,wQr] at *;simp only [RV.wfs,RV.wf,DV.wf,maxLen,zQE] at hwf;have stop:∀ k,k<l.length->zZX (l[k]?.getD 0)=false->l.all zZX=false:=λk hk h=>by
   rw [List.getElem?_eq_getElem hk] at h;exact List.all_eq_false.2 ⟨l[k],List.getElem_mem hk,by simpa using h⟩
  refine ⟨⟨0,⟨wQi _,rfl⟩,rfl⟩,λk hk=>⟨λhlt=>?_,λhge=>?_⟩⟩
  ·have h:k<l.length:=by omega
   have e:=jQq h;have s0:=stop k h;rw [List.getElem?_eq_getElem h] at s0;simp only [wQG] at s0;rw [e];refine ⟨⟨by omega,by omega,h⟩,jKE h,λh1=>⟨λh2=>(s0 (by simp [zZX]; omega)).symm,λh2=>⟨k+1,⟨by omega,?_⟩,by omega,by rw [wQ2]; omega⟩⟩,λh1=>(s0 (by simp [zZX]; omega)).symm⟩;rw [wYG h,wYh,hk.2];simp [zZX]; omega
  ·have:k=l.length:=by omega
   subst this;rw [wZw] at hk;exact hk.2.symm
def bG (a:Nat):Nat:=cB (cB a)
def dT (a:Nat):Int:=bU (a:Int) 1
def bY (a:List DV) (b:Nat):Prop:=a[b]?=some (fD a b)
def aDE (a:Bool) (b c:Prop):Prop:=True/\True/\True/\(a=true->True/\b)/\iW a c
def cM (a:List DV) (b:Nat):Prop:=bY a (b+1+1)
def fS (a:Nat):Nat:=cB (bG (bG a))+1
def rK (a:List DV) (b:Nat):Prop:=a[fS b]?=some (DV.bool (bAt a (fS b)))
def lN (a:Int) (b:Nat):Nat:=cB (aR a b)
def lQ (a:Int) (b:Nat):Nat:=cB (aR a b)+1
def mS (a:Int) (b:Nat):Nat:=cB (bG (aR a b))
def iJ (a:Int) (b:Nat):Nat:=bG (aR a b)+1
def iL (a:Int) (b:Nat):Nat:=fS (aR a b)
def iK (a:Int) (b:Nat):Nat:=cB (bG (bG (aR a b)))
abbrev wZJ:=@List.length_pos_iff
theorem zWt (n:Nat) (xs:List DV) (hO:xs=ops (zQo xs)/\n=(zQo xs).length):Ans prog 167 [rD (dS n xs)] (rD (dQ (ctxB (zQo xs)))):=
 wc jHf aL Tryz.func167 (let b:=ctxB (zQo xs);let a:=dT n;True/\True/\True/\True/\(bK (n:Int)=true->True/\bE true b)/\(bK (n:Int)=false->True/\True/\True/\True/\cR (mX a n 12 xs) (bV (jW xs (dT n) 12) (oF xs a 12) (uZ xs a 12) (bN xs (aR (dT n) 12)) (bN xs (gT (dT n) 12)) (bN xs (lN a 12)) (bN xs (lQ a 12)) (cM xs (iJ a 12)) (aF (bN xs (iJ a 12)) (bN xs (mS a 12)) (dW xs (iK a 12)) (rK xs (aR (dT n) 12)))) (aDE (bAt xs (iK a 12)) (gZ (!(bAt xs (iL a 12))) b) (bE false b)))) λhwf=>by
  delta eS aB aR mX jW aE aT aF fD bU bK cR bV zN bN gT oF uZ cB bG dW dT bE gZ iW bY aDE cM fS rK lN lQ mS iJ iL iK;simp only [sS,zQz,zQg,zQy,zQG,zQ8,zZt,zZi,zZJ,zZu,zZo];obtain ⟨hO,rfl⟩:=hO;generalize zQo xs=l at *;subst hO;simp only [RV.wfs,RV.wf,DV.wf,maxLen] at hwf;refine ⟨λh=>?_,λh=>?_⟩
  ·have:l=[]:=by simpa using h
   subst this; rfl
  ·obtain ⟨N,hN⟩:∃ N,l.length=N+1:=⟨l.length-1,by have:l≠[]:=λe=>(by subst e; simp at h); have:=wZJ.2 this; omega⟩
   have e:wrap .i64 ((l.length:Int)-1)=(N:Int):=by rw [wQ2]; omega
   have hN2:N<l.length:=by omega
   have q1:=zVi hN2;have q2:=zVj hN2;have q3:ctxB l=(l[N].iso && !l[N].kno):=by
    unfold ctxB;rw [wYn,show l.length-1=N by omega,List.getElem?_eq_getElem hN2]
   simp only [e,wQl,q3,q2,zQK];refine ⟨⟨by omega,by omega,by omega⟩,q1,λh=>by rw [h]; rfl,λh=>by rw [h]; rfl⟩
def zQi (b:Int):Int:=if b=8 then 255 else if b=16 then 65535 else 0
def zV0 (b:Int):Bool:=decide (b=8\/b=16)
def errO (bits:Int) (mn:Nat) (o:Oq) (l:List Oq):Int:=
 if ¬ (o.kind=1\/o.kind=2\/o.kind=3) then 9
 else if o.fields=false then 10
 else if o.kind=3 then (if l=[] then 18 else 0)
 else if (o.kind=1/\(o.image<0\/o.image>=(mn:Int)))\/o.mask<0\/o.mask>(mn:Int) then 11
 else if ¬ (zZX o.x=true/\zZX o.y=true/\zZX o.mx=true/\zZX o.my=true) then 12
 else if o.opac>zQi bits then 13
 else if ¬ (1<=o.oper/\o.oper<13) then 14
 else if ¬ (1<=o.mode/\o.mode<13) then 15
 else if o.oper≠4/\ctxB l=false then 16
 else if o.kind=2/\64<=l.length then 17
 else 0
def zHn (bits:Int) (mn:Nat) (ps:List Oq) (i:Int) (l:List Oq):Int:=
 if 0<=i then match ps[i.toNat]? with
  | some o=>errO bits mn o l
  | none=>21
 else 21
def gZ13:List RV->Option RV:=λv=>let c:=nAt (uq v) 0;some (RV.tup [RV.d (dK (zQi c)),RV.d (dQ (zV0 c))])
def jHe:Gam:=jHf.add [.p 47 gZ13,
 .p 14 gZ13,
 .p 88 (λv=>let c:=ur v 0;some (rJ (zHn (nAt c 0) (lAt c 8) (zQo (cAt c 9)) (nAt (uq v) 1) (zQo (cAt (uq v) 2)))))]
def gF:DV:=aE 0
def lG (a:DV):RV:=RV.tup [RV.d a,RV.d (DV.bool true)]
def oN (a:DV):RV:=RV.tup [RV.d a,RV.d (DV.bool false)]
def fK (a:Int):RV:=lG (aE a)
def xQ (a b:Int):RV:=RV.tup [RV.d (aE a),RV.d (DV.bool (zV0 b))]
theorem zZ7 (b:Int):Ans prog 47 [rJ (b)] (rT [rD (dK (zQi b)),rD (dQ (zV0 b))]):=
 wc jHe aL Tryz.func47 (let a:=xQ (zQi b) b;True/\True/\mL b 8 (fK 255=a) (cS (b==8) (dC b 16 (fK 65535=a)) (dO (b==16) (oN gF=a)))) λhwf=>by
  delta eS bI aE dC gF dO cS lG oN fK mL xQ;simp only [sS,zQg,zQy,zQG,zQ8,zZt,zZi,zZJ,zZu,zZo];simp [zQi,zV0]; grind
theorem zYZ (b:Int):Ans prog 14 [rJ (b)] (rT [rD (dK (zQi b)),rD (dQ (zV0 b))]):=
 wc jHe aL Tryz.func14 (let a:=xQ (zQi b) b;True/\True/\mL b 8 (fK 255=a) (cS (b==8) (dC b 16 (fK 65535=a)) (dO (b==16) (oN gF=a)))) λhwf=>by
  delta eS bI aE dC gF dO cS lG oN fK mL xQ;simp only [sS,zQg,zQy,zQG,zQ8,zZt,zZi,zZJ,zZu,zZo,zZ7];simp [zQi,zV0]; grind
def eV (a b c:Int) (d e:Bool) (f:List DV):List DV:=aE a::aB b::aB c::DV.bool d::DV.bool e::f
def kL (a:List DV) (b c:Nat):Int:=nAt a (b+c+1+1+1+1)
def cE (a:List DV) (b:Nat):Int:=kL a (b+1+1) 1
def aCI (a b c d e f g h:Prop):Prop:=a/\b/\c/\d/\aF e f g h
def uI (a b:Int):Prop:=decide (a>=b)=false
def vH (a:Bool) (b c:Prop):Prop:=True/\True/\True/\((!a)=true->True/\b)/\c
def oV (a:Bool) (b:Prop):Prop:=gC a->True/\True/\b
def aBC (a:FuncId) (b:DV) (c:Bool):Prop:=Ans prog a [RV.d b] (RV.d (DV.bool c))
def yD (a:Prop) (b:Bool) (c d:Prop):Prop:=a/\True/\True/\yX b c/\d
def rG (a b:Int):Prop:=(a !=b)=true
def aMG (a b:Int) (c:List DV):List DV:=aB a::aB b::c
def nQ (a:List DV) (b:Int) (c:Nat):Int:=kL a (aR b c) 1
def qF (a:List DV) (b:Int) (c:Nat):Int:=kL a (aR b c+1) 1
def aJC (a:List DV) (b:Int) (c:Nat) (d:Prop):Prop:=fP (jW a b c) (oF a b c) (uZ a b c) d
def tD (a b:Int) (c:Nat) (d:List DV) (e:Int) (f:List DV):Prop:=dB a (zHn b c (zQo d) e (zQo f))
abbrev wZm:=@bne_eq_false_iff_eq
abbrev wZT:=@beq_eq_false_iff_ne
abbrev wXY:=@beq_iff_eq
abbrev wQP:=@bne_iff_ne
theorem zHE (bits cx0 cy0 cx1 cy1 tw th:Int) (on:Nat) (oxs:List DV) (mn:Nat) (mxs:List DV) (pn:Nat) (pxs:List DV) (at_:Int) (n:Nat) (xs:List DV) (hP:pxs=ops (zQo pxs)/\pn=(zQo pxs).length) (hO:xs=ops (zQo xs)/\n=(zQo xs).length):Ans prog 88 [rA [dJ bits,dJ cx0,dJ cy0,dJ cx1,dJ cy1,dJ tw,dJ th,dS on oxs,dS mn mxs,dS pn pxs],rJ (at_),rD (dS n xs)] (rJ ((zHn bits mn (zQo pxs) at_ (zQo xs)))):=
 wc jHe aL Tryz.func88 (let s:=tD 21 bits mn pxs at_ xs;let j:=tD 0 bits mn pxs at_ xs;let a:=nAt pxs (aR at_ 12);let t:=mL a 2 (pI (n:Int) 64 (tD 17 bits mn pxs at_ xs) (mY (n:Int) 64 j)) (mA (a==2) j);let c:=cE pxs (gT at_ 12);let k:=ctxB (zQo xs);let u:=ByteArray.mk (List.toArray ([]:List UInt8));let e:=cE pxs (lN at_ 12);let v:=zZQ e;let w:=aKT v u;let x:=zZW c;let y:=aKT x u;let f:=cE pxs (aR at_ 12);let l:=qF pxs at_ 12;let m:=nQ pxs at_ 12;let o:=jC pxs at_ 12;let p:=mF pxs at_ 12;let z:=eC p o m l;let q:=List.all (ints z) zZX;let r:=aH (yD (aBC 152 (DV.sl 4 z) q) q (tD 12 bits mn pxs at_ xs) (oV q (iH f (zQi bits) (tD 13 bits mn pxs at_ xs) (xW f (zQi bits) (aBW (kB 165 c (tV x)) y (tD 14 bits mn pxs at_ xs) (dO y (aBW (kB 166 e (tV v)) w (tD 15 bits mn pxs at_ xs) (w=false->True/\True/\True/\True/\bP (rG c 4) (aBC 167 (DV.sl n xs) k) (vH k (tD 16 bits mn pxs at_ xs) (gW k t))/\mA (c !=4) t))))))));let g:=(mn:Int);let d:=jZ pxs at_ 12;let h:=tD 11 bits mn pxs at_ xs;let A:=decide (d<0)=true;let B:=fQ A ((A->cV h)/\(kR d->cV r)) (kR d->True/\True/\True/\True/\iH d g h (iO d g r));let C:=a==1;let b:=iE pxs at_ 12;let D:=a==3;let E:=gV D j (True/\True/\True/\(C=true->True/\bI (kR b) (True/\True/\True/\True/\fQ (fI b g) (aFT b g h/\mY b (mn:Int) r) (mY b (mn:Int) B)) (iG b 0->True/\True/\True/\True/\h))/\mA C B);let i:=Oq.fields ⟨a,b,p,o,d,m,l,f,c,e,bAt pxs (iK at_ 12),bAt pxs (iL at_ 12)⟩;let F:=gW i (mL a 3 (gV (bK (n:Int)) (tD 18 bits mn pxs at_ xs) E) (mA D E));let G:=yX i (tD 10 bits mn pxs at_ xs);let H:=aB a::aB b::aB p::aB o::aB d::aMG m l (eV f c e (bAt pxs (iK at_ 12)) (bAt pxs (iL at_ 12)) []);let I:=yE 164 H i G F;kX (eG (kR at_) (pI at_ (pn:Int) s (uI at_ (pn:Int)->True/\True/\True/\mX at_ pn 12 pxs/\aN (aJC pxs at_ 12 (bN pxs (aR at_ 12)/\aCI (bN pxs (gT at_ 12)) (bN pxs (lN at_ 12)) (bN pxs (lQ at_ 12)) (cM pxs (iJ at_ 12)) (bN pxs (iJ at_ 12)) (bN pxs (mS at_ 12)) (dW pxs (iK at_ 12)) (rK pxs (aR at_ 12)))) (dL (kB 47 bits (xQ (zQi bits) bits)) (jF (rG a 1) (rG a 2) (gV (a !=3) (tD 9 bits mn pxs at_ xs) I) (mA (a !=2) I) (xM (a !=1) (pS (pY 164 H i) G F))))))) (aEO at_ s)) λhwf=>by
  delta eS aB aR gE bI mY mX pI dB iG jW kR aEO aE aF fD aH aY bK aN eC eV dL dO xM mA aBW iH iO bP fQ fL cV zN bN eG gT iE pS jC jZ oF kX mF uZ kL cE cB bG fP kB dW aCI gV gW fI pY uI mL xQ gC vH jF oV tV aKT xW aBC aFT yX yD yE bY rG cM aMG fS rK lN lQ mS iJ iL iK nQ qF aJC tD;simp only [sS,zQz,zQg,zQy,zQG,zQ8,zZt,zZi,zZJ,zZu,zZo,zZ7,zYZ];obtain ⟨hO,rfl⟩:=hO;obtain ⟨hP,rfl⟩:=hP;generalize zQo pxs=ps at *;generalize zQo xs=l at *;subst hO hP;simp only [RV.wfs,RV.wf,DV.wf,maxLen] at hwf;have hctx:=zWt l.length (ops l) ⟨by rw [zQz],by rw [zQz]⟩;rw [zQz] at hctx;have hnear:=λa b c d=>zKo 4 [DV.int .i64 a,DV.int .i64 b,DV.int .i64 c,DV.int .i64 d] ⟨by simp [ints,is],rfl⟩;have e0:at_<0->zHn bits mn ps at_ l=21:=λh=>by unfold zHn; rw [if_neg (by omega)]
  have e1:¬ at_<0->at_>=(ps.length:Int)->zHn bits mn ps at_ l=21:=λh h1=>by unfold zHn; rw [if_pos (by omega),wQM (by omega)]
  have e2:∀ (h:¬ at_<0) (h2:at_.toNat<ps.length),zHn bits mn ps at_ l=errO bits mn ps[at_.toNat] l:=λh h1=>by unfold zHn; rw [if_pos (by omega),List.getElem?_eq_getElem h1]
  refine ⟨λh0=>⟨λh1=>(e1 h0 h1).symm,λh1=>?_⟩,λh0=>(e0 h0).symm⟩;have hk:at_.toNat<ps.length:=by omega
  have q1:=zVi hk;have q2:=zVj hk;have q3:=zQK ps;rw [e2 h0 hk];simp only [q2,q3];refine ⟨⟨by omega,by omega,by omega⟩,q1,?_⟩;have hsp:=@Oq.spare_fields ps[at_.toNat];generalize ps[at_.toNat]=o at *;clear e0 e1 e2 q1 q2 q3 h0 h1 hk;have hl:l.length=0↔l=[]:=by simp
  simp only [ints,wQg,wQm,wZM,List.all_nil,wXE] at hnear |-;have hfl:=zZo o;have heta:(⟨o.kind,o.image,o.x,o.y,o.mask,o.mx,o.my,o.opac,o.oper,o.mode,o.iso,o.kno⟩:Oq)=o:=rfl;simp only [heta] at hfl |-;clear heta;have hnm:=zGS o.oper;have hmd:=zWK o.mode;simp only [hnm,hmd,wXY,wZT,wQP,wZm,wQs,wZi,wQj,wZD]
  (repeat' (first | apply And.intro | intro _))<;>(first | exact hnear _ _ _ _ | exact hctx | exact hfl | exact R18_far_ans _ | exact R18_spare_ans _ | (unfold errO; clear hnear hctx hfl; grind))
def zYD (bits:Int) (c:Rc) (tw th:Int) (l:List Int) (mn pn:Nat):Int:=
 if zV0 bits=false then 1
 else if c.empty=true\/c.area>16777216\/zZX c.a=false\/zZX c.b=false then 2
 else if (cntS c tw th).2.2=false then 3
 else if zZ8 l (wrap .i64 ((cntS c tw th).1*(cntS c tw th).2.1))=false then 4
 else if (mn:Int)>64\/(pn:Int)>4096 then 5
 else 0
def vo (l:List DV):Rc:=⟨nAt l 1,nAt l 2,nAt l 3,nAt l 4⟩
def yQK:Gam:=jHe.add [.p 9 gZ2,
 .p 75 (λv=>let c:=ur v 0;some (rJ (zYD (nAt c 0) (vo c) (nAt c 5) (nAt c 6) (ints (cAt c 7)) (lAt c 8) (lAt c 9))))]
def aAL (a b:Prop):Prop:=True/\True/\True/\True/\dL a b
theorem zU4 (a b c d w h:Int):Ans prog 9 [rA [dJ a,dJ b,dJ c,dJ d],rJ (w),rJ (h)] (rT [rJ (((cntS ⟨a,b,c,d⟩ w h).1)),rJ (((cntS ⟨a,b,c,d⟩ w h).2.1)),rD (dQ ((cntS ⟨a,b,c,d⟩ w h).2.2))]):=
 wc yQK aL Tryz.func9 (let e:=aLB a b c d w h;let f:=rT (rD (aB 0)::yF (nK false));let i:=f=e;let j:=aH i;let g:=rC a b c d;True/\True/\True/\True/\True/\pY 39 (eC a b c d) g/\True/\(g=false->True/\aIY (zC w) (bI (zC h) (nE (iO w (bU c a) (True/\True/\True/\True/\iH h (bU d b) (fR f e) (xW h (bU d b) (aAL (w≠0) (aM (h≠0) (cT (aLC (aB (aT (kT (bU (bU c a) 1) w+1))) (aB (aT (kT (bU (bU d b) 1) h+1))) true=e))))))) (lB (decide (w>bU c a)) false i)) (iG h 1->eU (cZ f e))) (iG w 1->j))/\qU g j) λhwf=>by
  delta eS aB bI iG aT aH aM aY bU kT aIY zC eC dL cT nE iH iO fL eU nK qU aLC aCF fR cZ lB pY xW rC aAL yF aLB;simp only [sS,zQX,zZf,zJt,zZ7,zYZ];unfold cntS;cases he:Rc.empty ⟨a,b,c,d⟩
  ·obtain ⟨e1,e2,e3,e4,e5,e6⟩:=(Rc.empty_iff _).1 he;simp only at e1 e2 e3 e4 e5 e6;have w1:wrap .i64 (c-a)=c-a:=by rw [wQ2]; omega
   have w2:wrap .i64 (d-b)=d-b:=by rw [wQ2]; omega
   simp only [w1,w2];have hq:∀ W v:Int,1<=v->v<=W->W<=2147483648->wrap .i64 (wrap .i64 (Int.tdiv (wrap .i64 (W-1)) v)+1)=wrap .i64 (Int.tdiv (wrap .i64 (wrap .i64 (W+v)-1)) v):=λW v h1 h2 h3=>by
    have a1:wrap .i64 (W-1)=W-1:=by rw [wQ2]; omega
    have a2:wrap .i64 (W+v)=W+v:=by rw [wQ2]; omega
    have a3:wrap .i64 (W+v-1)=W+v-1:=by rw [wQ2]; omega
    rw [a1,a2,a3,wQY (by omega),wQY (by omega)];have b1:(W+v-1) / v=(W-1) / v+1:=by rw [show W+v-1=(W-1)+1*v by omega,wYm _ _ (by omega)]
    rw [b1];have b2:0<=(W-1) / v:=wQI (by omega) (by omega);have b3:(W-1) / v<=W-1:=wZN _ (by omega);rw [wQ2 ((W-1) / v)];congr 1;omega
   by_cases h1:w<1<;>by_cases h3:h<1<;>by_cases h2:c-a<w<;>by_cases h4:d-b<h<;>simp [h1,h2,h3,h4]<;>first | omega | exact ⟨by omega,by omega,hq _ _ (by omega) (by omega) (by omega),hq _ _ (by omega) (by omega) (by omega)⟩
  ·simp
def tE (a:FuncId) (b:List AV) (c:Ret):Prop:=AnsG prog a 0 b [] c
def lE (a:FuncId) (b:List DV) (c:List RV) (d:Int):Prop:=Ans prog a (RV.agg b::c) (gE d)
def zS (a:Bool) (b:Prop):Prop:=gW a (True/\True/\b)
theorem zJU (bits cx0 cy0 cx1 cy1 tw th:Int) (on:Nat) (oxs:List DV) (mn:Nat) (mxs:List DV) (pn:Nat) (pxs:List DV) (hO:oxs=is (ints oxs)/\on=oxs.length):Ans prog 75 [rA [dJ bits,dJ cx0,dJ cy0,dJ cx1,dJ cy1,dJ tw,dJ th,dS on oxs,dS mn mxs,dS pn pxs]] (rJ ((zYD bits ⟨cx0,cy0,cx1,cy1⟩ tw th (ints oxs) mn pn))):=
 wc yQK aL Tryz.func75 (let b:=(⟨cx0,cy0,cx1,cy1⟩:Rc);let a:=zYD bits b tw th (ints oxs) mn pn;let c:=dB 2 a;let d:=Rc.area b;let h:=dB 5 a;let i:=aCF ⟨cx0,cy0,cx1,cy1⟩ tw th;let j:=(cntS ⟨cx0,cy0,cx1,cy1⟩ tw th).fst;let e:=aT (j*i);let f:=zZ8 (ints oxs) e;let k:=(cntS b tw th).snd.snd;let l:=[aB cx0,aB cy0];let g:=List.all (ints l) zZX;True/\bH (kB 47 bits (xQ (zQi bits) bits)) (vH (zV0 bits) (dB 1 a) (aDD (zV0 bits) (True/\aHV cx0 cy0 cx1 cy1/\True/\bP (rC cx0 cy0 cx1 cy1=false) (lE 151 (eC cx0 cy0 cx1 cy1) [] d) (sM d 16777216 (pS (aBC 152 (DV.sl 2 l) g) (yX g c) (aDD g (dL (Ans prog 78 (rA (eC cx0 cy0 cx1 cy1)::iF tw th) (aLB cx0 cy0 cx1 cy1 tw th)) (vH k (dB 3 a) (zS k (aM (tE 79 [bZ (DV.sl on oxs),bZ (aB (aT (j*i)))] (wX (Cl.ref 0 (List.length (zXw (ints oxs) e))) [mZ f] 3 1 (is (zXw (ints oxs) e)) [] true)) (bF (vH f (dB 4 a) (oV f (bI (fL (mn:Int) 64) (iH (pn:Int) 4096 h (iO (pn:Int) 4096 (dB 0 a))) (aGB (mn:Int) 64 h))))))))))) (aGB d 16777216 c))/\yG (rC cx0 cy0 cx1 cy1) (True/\c))))) λhwf=>by
  delta eS aB gE bI dB aE aT bZ aM aY mZ tE eC dL iH iO mE bP fL bH pS bF kB iF nK qU aLC aCF gW pY lE zS xQ gC vH oV sM aBC yX aGB rC aDD aLB yG wX aHV;simp only [sS,zQX,zZf,zJt,zZ7,zYZ,zU4];obtain ⟨hO,rfl⟩:=hO;generalize ints oxs=l at *;subst hO;have hord:=λM=>zWE (is l).length (is l) M ⟨by rw [zZY],rfl⟩;have hnear:=λa b=>zKo 2 [DV.int .i64 a,DV.int .i64 b] ⟨by simp [ints,is],rfl⟩;have hcnt:=zKa cx0 cy0 cx1 cy1 tw th;simp only [zZY] at hord;simp only [ints,wQg,wQm,wZM,List.all_nil,wXE] at hnear |-;have he:1=1:=rfl
  (repeat' (first | apply And.intro | intro _))<;>(first | exact hnear _ _ | exact hcnt | exact hord _ | exact R18_far_ans _ | rfl | (unfold zYD; clear hnear hcnt hord; simp only; grind))
theorem jXJ:∀ (l:List Oq) (k:Nat),(ops l).take (k*12)=ops (l.take k)
 | [],k=>by simp [ops]
 | o::l,0=>by simp [ops]
 | o::l,k+1=>by
  have e:ops (o::l)=o.cells++ops l:=by simp [ops]
  have e2:ops ((o::l).take (k+1))=o.cells++ops (l.take k):=by simp [ops]
  rw [e,e2,wXU,wQW (by simp [Oq.cells]; omega),<- jXJ l k];congr 2;simp [Oq.cells]; omega
def zXR (o:Oq) (st:List Oq):List Oq:=if o.kind=2 then st++[o] else if o.kind=3 then st.dropLast else st
def runO (bits:Int) (mn:Nat):List Oq->Int->List Oq->Int × Int
 | [],i,st=>if st=[] then (0,0) else (18,i)
 | o::r,i,st=>if errO bits mn o st=0 then runO bits mn r (i+1) (zXR o st) else (errO bits mn o st,i)
def opsE (bits:Int) (c:Rc) (tw th:Int) (l:List Int) (mn:Nat) (ps:List Oq):Int × Int:=
 if zYD bits c tw th l mn ps.length=0 then runO bits mn ps 0 [] else (zYD bits c tw th l mn ps.length,0)
def yZw:Gam:=yQK.add [.p 46 (λv=>let d:=ur v 0;let c:=opsE (nAt d 0) (vo d) (nAt d 5) (nAt d 6) (ints (cAt d 7)) (lAt d 8) (zQo (cAt d 9));some (RV.tup [rJ c.1,rJ c.2]))]
def gL (a b:Int) (c d:DV) (e:wi):wi:=aX (aB a) (aB b) (aX c d e)
def jK (a b c d:Int) (e:wi):wi:=gL a b (aB c) (aB d) e
def aIM (a b:Nat) (c:List Oq) (d:we):we:=kU a b (List.length c) d
def aCC (a b c d e f g:Int) (h i j:DV) (k:wi):wi:=aX (aB a) (aB b) (jK c d e f (aX (aB g) h (aX i j k)))
def aFG (a:List Oq) (b:Nat):Prop:=List.length a<=b
def aNT (a b:Nat) (c:we) (d:Nat) (e:wi) (f:wg):Snap:=qP (fG a b c) d e f
def pX (a:Ann):Ann:=cU (jL a)
def aOP (a:Nat) (b:we) (c:Nat) (d:wi) (e:wg):Snap:=aNT 1 a b c d e
def aOQ (a:we) (b:Nat) (c:wi) (d:wg):Snap:=aOP 1 a b c d
def aJL (a:we) (b:wi) (c:wg):Snap:=aOQ a 1 b c
def aIG (a:Prop) (b:Nat × List Oq) (c:Nat) (d:Prop):Prop:=a/\aFG b.snd c/\d
def aIF (a:Int) (b:Nat) (c:Nat × List Oq) (d:List DV):Int × Int:=runO a b (List.drop c.fst (zQo d)) (c.fst:Int) c.snd
def eF (a b c d e f g:Int) (h:List DV):List DV:=aB a::aB b::aB c::aB d::aB e::aB f::aB g::h
def bM (a:Prop):Prop:=eS (0:Nat)/\a
def gJ (a b:DV):RV:=RV.tup [RV.d a,RV.d b]
def zK (a:Int × Int):RV:=gJ (aB a.fst) (aB a.snd)
def qS (a:Nat) (b:List Oq):Prop:=a=List.length b
def zP (a b:List Oq):Prop:=qS (List.length a) b
def pW (a b:Nat):Nat:=cB (aV a b)+1
def aCG (a:Nat):Prop:=0<=dT a/\dT a<=(a:Int)
def tL (a:List DV) (b c:Nat):Int:=kL a (aV b c) 1
def aFH (a b:Nat) (c:List Oq) (d:List DV):Prop:=zXe a b (List.length c) 1 (ops c) d
def xN (a b:Nat):Nat:=cB (bG (aV a b))
def nI (a b:Nat):Nat:=bG (aV a b)+1
def zO (a:List DV) (b c:Nat):Int:=kL a (aV b c+1) 1
def aCH (a b:List Oq):Prop:=qS (List.length a+1) b
def rP (a b:Nat):Nat:=cB (bG (bG (aV a b)))
def yP (a:Bool) (b c:Prop):Prop:=True/\True/\True/\(a=true->True/\b)/\dO a c
def rV (a:Prop) (b:Nat) (c:List DV) (d:Prop):Prop:=aF a (eS (DV.sl b c)) (eS (cI b)) d
abbrev wYo:=@List.drop_length
abbrev wZU:=@List.dropLast_eq_take
theorem zVf (bits cx0 cy0 cx1 cy1 tw th:Int) (on:Nat) (oxs:List DV) (mn:Nat) (mxs:List DV) (pn:Nat) (pxs:List DV) (hP:pxs=ops (zQo pxs)/\pn=(zQo pxs).length) (hO:oxs=is (ints oxs)/\on=oxs.length):Ans prog 46 [rA [dJ bits,dJ cx0,dJ cy0,dJ cx1,dJ cy1,dJ tw,dJ th,dS on oxs,dS mn mxs,dS pn pxs]] (rT [rJ (((opsE bits ⟨cx0,cy0,cx1,cy1⟩ tw th (ints oxs) mn (zQo pxs)).1)),rJ (((opsE bits ⟨cx0,cy0,cx1,cy1⟩ tw th (ints oxs) mn (zQo pxs)).2))]):=
 wc yZw (pX (Ann.loop (Inv.mk (Nat × List Oq) (λ(b:Nat × List Oq)=>aIG (b.fst<=pn) b 64 (aIF bits mn b pxs=runO bits mn (zQo pxs) 0 [])) (λ(a:Nat × List Oq)=>aJL (aIM 5 1005 a.snd (aHL 15 pn pxs 16 17 a.fst)) (aCC bits cx0 cy0 cx1 cy1 tw th (DV.sl on oxs) (DV.sl mn mxs) (DV.sl pn pxs) []) (pQ 1005 61 12 (ops a.snd))) (λ(c:Nat × List Oq)=>pn-c.fst)) (λ(d:Nat × List Oq)=>aL))) Tryz.func46 (let j:=zK (opsE bits ⟨cx0,cy0,cx1,cy1⟩ tw th (ints oxs) mn (zQo pxs));let d:=eF bits cx0 cy0 cx1 cy1 tw th (DV.sl on oxs::DV.sl mn mxs::uP pn pxs);let i:=runO bits mn (zQo pxs) 0 [];let o:=zYD bits ⟨cx0,cy0,cx1,cy1⟩ tw th (ints oxs) mn pn;oG (lE 75 d [] o) (yP (dX o) (fR (gJ (aB o) (aB 0)) j) (True/\True/\True/\(∃ h:Nat × List Oq,aF (aIG (h.fst<=pn) h 64 (aIF bits mn h pxs=i)) (bM (rV (qS 0 h.snd) pn pxs (dF h.fst))) (eS d) (([]:List DV)=ops h.snd))/\(∀ b:Nat × List Oq,let c:=b.snd;let p:=List.length c;let q:=(p:Int);let a:=b.fst;let k:=ops b.snd;let l:=cY pxs a 12;let r:=l==3;let s:=List.length c;let t:=dT s;let n:=aV a 12;let u:=cB n;let v:=eF l (fX pxs a 12) (gU pxs a 12) (fY pxs a 12) (kW pxs a 12) (tL pxs a 12) (zO pxs a 12) (eV (cE pxs (aV a 12)) (cE pxs (iP a 12)) (cE pxs u) (bAt pxs (rP a 12)) (bAt pxs (fS n)) []);let m:=zHn bits mn (zQo pxs) (b.fst:Int) (zQo k);bP (aIG (a<=pn) b 64 (aIF bits mn b pxs=i)) (bP (dP a pn) (cX a pn 12 pxs) (fP (fW pxs a 12) (mH pxs a 12) (pT pxs a 12) (bN pxs n/\bN pxs (iP a 12)/\bN pxs u/\bN pxs (pW a 12)/\fT (cM pxs (nI a 12)) (bN pxs (nI a 12)) (bN pxs (xN a 12)) (dW pxs (rP a 12)) (rK pxs (aV a 12)))/\True/\True/\True/\True/\gK (lE 88 d [rD (cI a),rD (DV.sl p (ops c))] m) (eH (sZ m) (gJ (aB m) (cI a)=j) (dX m=false->True/\True/\True/\True/\((l==2)=true->True/\True/\True/\aN (aFH 12 88 c v) (∃ g:Nat × List Oq,aIG (g.fst<=pn) g 64 (aIF bits mn g pxs=i)/\nH (dM pn g.fst a) (bM (rV (aCH c g.snd) pn pxs (bS a g.fst))) d (k++v) (ops g.snd)))/\cS (l==2) (r=true->aM (aFG b.snd maxLen) (aN (aCG s) (∃ f:Nat × List Oq,aIG (f.fst<=pn) f 64 (aIF bits mn f pxs=i)/\nH (dM pn f.fst a) (bM (rV (qS (Int.toNat t) f.snd) pn pxs (bS a f.fst))) d (pN t 12 k) (ops f.snd)))) (dO r (∃ e:Nat × List Oq,aIG (e.fst<=pn) e 64 (aIF bits mn e pxs=i)/\nH (dM pn e.fst a) (bM (rV (zP c e.snd) pn pxs (bS a e.fst))) d k (ops e.snd))))))) (iQ a pn->True/\aFG b.snd maxLen/\True/\(jY q 0->eU (cT (gJ (aB 18) (cI pn)=j)))/\xW q 0 (rT (rD (aB 0)::yF [])=j)))))) λhwf=>by
  delta eS aB aR gE aE aT aF fD aM bU fT uP aN eF bM eV dO cT cI aV bS bP iP dF pN jY fL zN bN cS cX cY dP iQ fX fY fW gU kW mH oG pT nH gJ zK eU kL cE cB bG qS fP gK dW aFG dM dT zP pW aCG tL aFH xN nI zO aCH dX fR lE eH xW bY yF cM fS rK rP sZ yP rV aIG aIF;simp only [sS,zQz];obtain ⟨hP,rfl⟩:=hP;have hfr:=zJU bits cx0 cy0 cx1 cy1 tw th on oxs mn mxs (zQo pxs).length pxs hO;have hop:=λi st=>zHE bits cx0 cy0 cx1 cy1 tw th on oxs mn mxs (zQo pxs).length pxs i (List.length st) (ops st) ⟨hP,rfl⟩ ⟨by rw [zQz],by rw [zQz]⟩;simp only [zQz] at hop;generalize zQo pxs=ps at *;subst hP;simp only [RV.wfs,RV.wf,DV.wf,DV.wfs,maxLen] at hwf;have hpl:ps.length<=9223372036854775807:=by omega
  have hE:∀ E:Int,zYD bits ⟨cx0,cy0,cx1,cy1⟩ tw th (ints oxs) mn ps.length=E->opsE bits ⟨cx0,cy0,cx1,cy1⟩ tw th (ints oxs) mn ps=if E=0 then runO bits mn ps 0 [] else (E,0):=λE h=>by unfold opsE; rw [h]
  generalize zYD bits ⟨cx0,cy0,cx1,cy1⟩ tw th (ints oxs) mn ps.length=FE at *;rw [hE FE rfl];clear hE;refine ⟨hfr,λhne=>?_,λhe=>⟨?_,λz hz=>⟨λhlt=>?_,λhge=>?_⟩⟩⟩
  ·have:FE≠0:=by simpa using hne
   simp [this]
  ·exact ⟨(0,[]),⟨wQi _,wQi _,rfl⟩,⟨rfl,rfl⟩,rfl⟩
  ·obtain ⟨k,st⟩:=z;obtain ⟨z1,z2,z3⟩:=hz;simp only at *;have hk:k<ps.length:=by omega
   have q1:=zVi hk;have q2:=zVj hk;have q3:=zQK ps;have q4:=zQK st;have hoe:zHn bits mn ps (k:Int) st=errO bits mn ps[k] st:=by unfold zHn; rw [if_pos (by omega),wQl,List.getElem?_eq_getElem hk]
   have hop1:=hop (k:Int) st;have hd:ps.drop k=ps[k]::ps.drop (k+1):=wXC hk;rw [hd] at z3;simp only [runO] at z3;simp only [hoe] at hop1 |-;have hF:FE=0:=by simpa using he
   have hpush:errO bits mn ps[k] st=0->ps[k].kind=2->st.length<64:=λh1 h2=>by
    unfold errO at h1;grind
   have hpop:errO bits mn ps[k] st=0->ps[k].kind=3->st≠[]:=λh1 h2=>by
    unfold errO at h1;grind
   have w1:wrap .i64 ((k:Int)+1)=((k+1:Nat):Int):=by rw [wQ2]; omega
   simp only [q2,hF,if_true];refine ⟨⟨by omega,by omega,by omega⟩,q1,hop1,λhne=>?_,λh0=>?_⟩
   ·have h0:errO bits mn ps[k] st≠0:=by simpa using hne
    rw [if_neg h0] at z3;rw [<- z3]; exact ⟨rfl,rfl⟩
   ·have h0:errO bits mn ps[k] st=0:=by simpa using h0
    rw [if_pos h0] at z3;have s2:ps[k].kind=2->runO bits mn (ps.drop (k+1)) ((k+1:Nat):Int) (st++[ps[k]])=runO bits mn ps 0 []:=λh=>by
     rw [<- z3]; simp [zXR,h]
    have s3:ps[k].kind=3->runO bits mn (ps.drop (k+1)) ((k+1:Nat):Int) st.dropLast=runO bits mn ps 0 []:=λh=>by
     rw [<- z3]; simp [zXR,h]
    have s1:ps[k].kind≠2->ps[k].kind≠3->runO bits mn (ps.drop (k+1)) ((k+1:Nat):Int) st=runO bits mn ps 0 []:=λh h'=>by
     rw [<- z3]; simp [zXR,h,h']
    have hd2:st≠[]->wrap .i64 ((st.length:Int)-1)=((st.length-1:Nat):Int):=λh=>by
     have:=wZJ.2 h;rw [wQ2]; omega
    have hd3:(ops st).take ((st.length-1)*12)=ops st.dropLast:=by rw [jXJ,wZU]
    have cells:ops [ps[k]]=ps[k].cells:=by simp [ops]
    refine ⟨λh2=>?_,λh2=>⟨λh3=>?_,λh3=>?_⟩⟩
    ·have h2:ps[k].kind=2:=by simpa using h2
     have hl:=hpush h0 h2;refine ⟨⟨by rw [q4],rfl,by simp only [maxLen]; omega,by omega⟩,(k+1,st++[ps[k]]),⟨by omega,by simp; omega,s2 h2⟩,by omega,⟨by simp,w1⟩,by rw [zJC,cells]; rfl⟩
    ·have h3:ps[k].kind=3:=by simpa using h3
     have hne:=hpop h0 h3;rw [hd2 hne];simp only [wQl];refine ⟨by simp only [maxLen]; omega,⟨by omega,by omega⟩,(k+1,st.dropLast),⟨by omega,by simp; omega,s3 h3⟩,by omega,⟨by simp,w1⟩,hd3⟩
    ·have h2:ps[k].kind≠2:=by simpa using h2
     have h3:ps[k].kind≠3:=by simpa using h3
     exact ⟨(k+1,st),⟨by omega,z2,s1 h2 h3⟩,by omega,⟨rfl,w1⟩,rfl⟩
  ·obtain ⟨k,st⟩:=z;obtain ⟨z1,z2,z3⟩:=hz;simp only at *;have hk:k=ps.length:=by omega
   subst hk;rw [wYo] at z3;simp only [runO] at z3;have hF:FE=0:=by simpa using he
   simp only [hF,if_true];rw [<- z3];refine ⟨by simp only [maxLen]; omega,λh=>?_,λh=>?_⟩
   ·have:st≠[]:=λe=>by subst e; simp at h
    simp [this]
   ·have:st=[]:=List.length_eq_zero_iff.1 (by omega);simp [this]
def vq (l:List DV):Rw:=⟨nAt l 0,nAt l 1,nAt l 2,nAt l 3,nAt l 4,nAt l 5,nAt l 6,nAt l 7,nAt l 8,nAt l 9,nAt l 10⟩
def yQL:Gam:=yZw.add [.p 44 (λv=>some (rJ (gOff (nAt (uq v) 0) (nAt (uq v) 1)))),
 .p 15 (λv=>some (RV.agg (oD (gOp (vq (ur v 0)) (bAt (uq v) 1) (nAt (uq v) 2) (vd (ur v 3)) (bAt (uq v) 4) (nAt (uq v) 5)))))]
def dZ (a b:Int):DV:=aB (aT (a-b))
theorem zG8 (n corner:Int) (hc : -100<=corner/\corner<=100):Ans prog 44 [rJ (n),rJ (corner)] (rJ ((gOff n corner))):=
 wc yQL aL Tryz.func44 (True/\True/\kS n 3/\True/\dC (modS n 3) 0 (dB corner (gOff n corner))/\cS (rY n 3) ((3:Int)≠0) (aN (xG n 3 (aB 9) 3 9) (rD (dZ (aT (corner+modS (kT n 3) 9)) 4)=gE (gOff n corner)))) λhwf=>by
  delta eS aB gE dB aT bK uU dC kT aBV dZ kS rY aMJ xG aN cS;simp only [sS,zQl,zYs];have b:=@zZH (wrap .i64 (Int.tdiv n 3)) 9 (by omega) (by omega);unfold gOff;have w1:wrap .i64 (corner+modS (wrap .i64 (Int.tdiv n 3)) 9)=corner+modS (wrap .i64 (Int.tdiv n 3)) 9:=wQb _ ⟨by omega,by omega⟩;have w2:wrap .i64 (corner+modS (wrap .i64 (Int.tdiv n 3)) 9-4)=corner+modS (wrap .i64 (Int.tdiv n 3)) 9-4:=wQb _ ⟨by omega,by omega⟩;simp only [w1,w2];refine ⟨λh=>?_,λh=>⟨by decide,?_⟩⟩
  ·rw [if_pos (by simpa using h)]
  ·rw [if_neg (by simpa using h)]
def dU (a b c d:Nat) (e:we):we:=fG a b (fG c d e)
def pK (a:Nat) (b:wi) (c:Nat) (d:wi) (e:wg):wg:=vG a b (vG c d e)
def mR (a:Int) (b:wi):wi:=Cl.d (aB a)::b
def lY (a:we) (b:Nat) (c:wi) (d:Nat) (e:wi) (f:wg):Snap:=⟨a,pK b c d e f⟩
def nZ (a:Nat) (b:Int) (c:we):we:=mV a (aB b) c
def aJA (a:wi):wi:=mR 0 a
def pJ (a:wi):wi:=aJA (aJA a)
def aRZ (a b c:Nat) (d:we):we:=dU 6 a b c d
def aMH (a b:Nat) (c:we):we:=aRZ 6 a b c
def aJM (a:we) (b:Nat) (c:wi) (d:Nat) (e:wi) (f:Nat) (g:wi) (h:wg):Snap:=qP a b c (pK d e f g h)
def aER (a b c d e f g:Int) (h:wi):wi:=mR a (aX (aB b) (aB c) (jK d e f g h))
def aBK (a:Oq) (b:wi):wi:=jK a.kind a.image a.x a.y (gL a.mask a.mx (aB a.my) (aE a.opac) (gL a.oper a.mode (DV.bool a.iso) (DV.bool a.kno) b))
def tG (a:wi):wi:=aJA (pJ a)
def aON (a:we) (b:Nat) (c:wi) (d:Nat) (e:wi) (f:Nat) (g:wi) (h:wg):Snap:=aJM a b c d (tG e) f g h
def aOO (a:we) (b:Nat) (c:wi) (d:Nat) (e:wi) (f:Nat) (g:wi) (h:wg):Snap:=aON a b c d (pJ e) f g h
def aMI (a:we) (b:Nat) (c:wi) (d:Nat) (e:wi) (f:Nat) (g:wi) (h:wg):Snap:=aOO a b c d (pJ e) f g h
def aBT (a:Nat) (b:Bool) (c:Nat) (d:DV) (e:we):we:=gH a (DV.bool b) c d e
def aIJ (a:Nat) (b:Bool) (c:we):we:=mV a (DV.bool b) c
def uT (a:Oq):wi:=aBK a []
def aKQ (a:Prop) (b:Bool) (c d:Prop):Prop:=True/\a/\True/\(b=true->True/\c)/\d
def aBR (a:Prop) (b:Bool) (c d:Prop):Prop:=aKQ a b c (b=false->d)
def pV (a:DV) (b c d e:Prop):Prop:=eS a/\b/\c/\d/\e
def lZ (a:Int) (b:DV) (c d e:Prop):Prop:=pV (aB a) (eS b) c d e
def bW (a:Prop):Prop:=eS (0:Nat)/\eS (0:Nat)/\a
def gA (a b c:List DV) (d:Prop):Prop:=aF (eS a) (eS b) (eS c) d
def iA (a:Int) (b:Prop):Prop:=dE (aE a) (eS (0:Nat)) b
def aLG (a:Oq) (b:List DV):List DV:=eF a.kind a.image a.x a.y a.mask a.mx a.my (eV a.opac a.oper a.mode a.iso a.kno b)
def qK (a b c:Prop):Prop:=aY a (aM b c)
def uV (a:Oq):List DV:=aLG a []
def zD (a b c:Prop):Prop:=dY a b (True/\True/\True/\True/\c)
def zE (a b c:Prop):Prop:=a->(True/\b)/\c
def qL (a:Prop) (b c d e:List DV):Prop:=aF a (eS b) (eS c) (d=e)
theorem jHI (r:Rw) (push:Bool) (imgs:Int) (c:Rc) (free:Bool) (most:Int) (hc:(-100<=c.a/\c.a<=100) /\ -100<=c.b/\c.b<=100) (hi:1<=imgs/\imgs<=100):Ans prog 15 [rA [dJ r.k,dJ r.im,dJ r.x,dJ r.y,dJ r.ma,dJ r.mx,dJ r.my,dJ r.op,dJ r.ope,dJ r.mo,dJ r.fl],rD (dQ push),rJ (imgs),rA [dJ c.a,dJ c.b,dJ c.c,dJ c.d],rD (dQ free),rD (dK most)] (rA (oD (gOp r push imgs c free most))):=
 wc yQL (let b:=aX gF (aB 0) (aX (aB 0) (DV.bool false) [cD (DV.bool false)]);let d:=aER r.k r.im r.x r.y r.ma r.mx r.my (jK r.op r.ope r.mo r.fl []);let e:=dU 12 12 13 13 [];let f:=fG 6 6 e;let a:=gOp r push imgs c free most;let g:=a.opac;jA (ul Oq (λn=>n=(⟨a.kind,a.image,a.x,a.y,0,0,0,most,4,1,a.iso,a.kno⟩:Oq)) (λm=>lY (nZ 2 imgs (aBT 4 free 5 (aE most) (aMH 9 9 e))) 6 d 9 (jK c.a c.b c.c c.d []) (pK 12 (tG (pJ (pJ b))) 13 (uT m) [])) (λu=>ul Oq (λl=>l=aBU a most 4 1) (λk=>aMI (aBT 4 free 5 (aE most) f) 6 d 12 b 13 (uT k) []) (λt=>ul Oq (λj=>j=aBU a g 4 1) (λh=>let o:=aMI (aIJ 4 free f) 6 d 12 b 13 (uT h) [];o) (λs=>ul Oq (λi=>i=aBU a g 4 a.mode) (λh=>let o:=aMI (aIJ 4 free f) 6 d 12 b 13 (uT h) [];o) (λp=>aL)))))) Tryz.func15 (let a:=gOp r push imgs c free most;let A:=a.mode;let B:=a.y;let C:=a.x;let D:=aB a.kind::aB a.image::aB C::aB B::aB a.mask::aB a.mx::aB a.my::eV a.opac a.oper A a.iso a.kno [];let l:=r.ope;let n:=(2:Int)≠0;let F:=a.opac;let p:=aBU a F 4 A;let i:=eF 0 0 0 0 0 0 0 (eV 0 0 0 false false []);let m:=r.op;let G:=eC m l r.mo r.fl;let j:=r.ma;let k:=eF r.k r.im r.x r.y j r.mx r.my G;let o:=dE (DV.bool free) (eS (0:Nat)) (bW True);let q:=aBU a F 4 1;let s:=aBU a most 4 1;let H:=eS (DV.bool free)/\iA most (bW True);let t:=(⟨a.kind,a.image,C,B,0,0,0,most,4,1,a.iso,a.kno⟩:Oq);let I:=eF r.k r.im r.x r.y j r.mx r.my G;let J:=lZ imgs (DV.bool free) (eS (aE most)) (eS (0:Nat)) (bM (bW True));nE (True/\(push=true->True/\True/\True/\True/\aN (kS r.fl 2) (cR n (xG r.fl 2 (aB 3) 2 3) (cT (∃ g:Oq,g=t/\J/\gA I (cG c) i (eF 2 0 0 0 0 0 0 (eV most 4 1 (rY r.fl 2) (rY (kT r.fl 2) 3) [])=aB g.kind::aB g.image::aB g.x::aB g.y::aB g.mask::aB g.mx::aB g.my::eV g.opac g.oper g.mode g.iso g.kno [])))))/\(push=false->True/\cQ (aBV r.im (aB imgs) imgs) (qK (uU 44 r.x (aB c.a) (gE (gOff r.x c.a))) (uU 44 r.y (aB c.b) (gE (gOff r.y c.b))) (cT (∃ z:Oq,z=t/\J/\gA I (cG c) i (eF 1 (modS r.im imgs) (gOff r.x c.a) (gOff r.y c.b) 0 0 0 (eV most 4 1 false false [])=uV z)))))) (∀ h:Oq,zE (h=t) (aBR (kS j 4) (rY j 4) (True/\(4:Int)≠0/\dL (xG j 4 (aB imgs) 4 imgs) (qK (uU 44 r.mx (aB c.a) (gE (gOff r.mx c.a))) (uU 44 r.my (aB c.b) (gE (gOff r.my c.b))) (cT (∃ y:Oq,y=s/\qL H k i (eF h.kind h.image h.x h.y (aT (1+modS (kT j 4) imgs)) (gOff r.mx c.a) (gOff r.my c.b) (eV h.opac h.oper h.mode h.iso h.kno [])) (uV y))))) (∃ x:Oq,x=s/\qL H k i (uV h) (uV x))) (∀ f:Oq,zE (f=s) (aBR (kS m 2) (rY m 2) (True/\n/\aY (aMJ 45 m 2 (aE most) (nC (zQY (kT m 2) most))) (∃ e:Oq,e=q/\qL o k i (eF f.kind f.image f.x f.y f.mask f.mx f.my (eV (zQY (kT m 2) most) f.oper f.mode f.iso f.kno [])) (aB e.kind::aB e.image::aB e.x::aB e.y::aB e.mask::aB e.mx::aB e.my::eV e.opac e.oper e.mode e.iso e.kno []))) (∃ w:Oq,w=q/\qL o k i (uV f) (uV w))) (∀ d:Oq,zE (d=q) (aBR (kS r.mo 2) (rY r.mo 2) (True/\n/\aN (xG r.mo 2 (aB 12) 2 12) (∃ v:Oq,v=p/\qL o k i (eF d.kind d.image d.x d.y d.mask d.mx d.my (eV d.opac d.oper (aT (1+modS (kT r.mo 2) 12)) d.iso d.kno [])) (uV v))) (∃ u:Oq,u=p/\qL o k i (uV d) (uV u))) (∀ b:Oq,let E:=nD (uV b) D;iN (b=p) (uW free (aBW (kS l 2) (rY l 2) (zD n (xG l 2 (aB 12) 2 12) (nD (eF b.kind b.image b.x b.y b.mask b.mx b.my (eV b.opac (aT (1+modS (kT l 2) 12)) b.mode b.iso b.kno [])) D)) (dO (rY l 2) E))) (mA free E)))))) λhwf=>by
  delta eS aB gE dY aE aT aF aM aY cQ bK uU kT aBV kS rY aMJ aKQ aBR xG nC aBU dE pV aN lZ eC eF bM eV dL bW nD cR dO gA cT iA cG aLG xM iN mA nE qK uW uV zD zE aBW qL;simp only [sS,zQl,zYs];have oa:=λn=>zG8 n c.a hc.1;have ob:=λn=>zG8 n c.b hc.2;have b4:=@zZH (wrap .i64 (Int.tdiv r.ma 4)) imgs (by omega) (by omega);have b12:=λv=>@zZH v 12 (by omega) (by omega);have w4:wrap .i64 (1+modS (wrap .i64 (Int.tdiv r.ma 4)) imgs)=1+modS (wrap .i64 (Int.tdiv r.ma 4)) imgs:=wQb _ ⟨by omega,by omega⟩;have w12:∀ v,wrap .i64 (1+modS v 12)=1+modS v 12:=λv=>by have:=b12 v; exact wQb _ ⟨by omega,by omega⟩
  simp only [oa,ob,w4,w12,true_and];simp only [exists_eq_left,forall_eq,gOp,wXY,wZT]
  (repeat' (first | apply And.intro | intro _))<;>(first | decide | (simp_all; done) | (simp_all; rfl))
theorem zQn (w h:Int):Ans prog 83 [rJ (w),rJ (h)] (rD (dQ (zZs w h))):=
 wc gamI aL Tryz.func83 (True/\pI w 1 (bI (fI h 1) (aN (h≠0) (bE (decide (w<=kT 16777216 h)) (zZs w h))) (iW (vK h) (aBO (zZs w h)))) (mM (vK w) true (zZs w h))) λhwf=>by
  delta eS bI pI aT kT aN lB fI bE vK iW mM aBO;simp only [sS,zQl];have:=@zHO w h;grind [zZs]
theorem zQ7 (w h:Int):Ans prog 257 [rJ (w),rJ (h)] (rD (dQ (zZs w h))):=
 wc gamI aL Tryz.func257 (True/\pI w 1 (bI (fI h 1) (aN (h≠0) (bE (decide (w<=kT 16777216 h)) (zZs w h))) (iW (vK h) (aBO (zZs w h)))) (mM (vK w) true (zZs w h))) λhwf=>by
  delta eS bI pI aT kT aN lB fI bE vK iW mM aBO;simp only [sS,zQl,zQn];have:=@zHO w h;grind [zZs]
theorem zQA (w h:Int):Ans prog 86 [rJ (w),rJ (h)] (rD (dQ (zZs w h))):=
 wc gamI aL Tryz.func86 (let a:=zZs w h;True/\pI w 1 (pI h 1 (bI (lH w 16777216) (aN (w≠0) (bE (decide (h<=kT 16777216 w)) a)) (tX w 16777216 (bE false a))) (mM (vK h) true a)) (iW (vK w) (gZ false a))) λhwf=>by
  delta eS bI pI aT kT aN lB bE gZ vK lH iW tX mM;simp only [sS,zQl,zQn,zQ7];have h1:1<=w->1<=h->(h<=wrap .i64 (Int.tdiv 16777216 w)↔w*h<=16777216):=λa b=>by rw [zHO b a,wQy]
  have h2:=@zX4 w h;grind [zZs]
theorem zZh (w h s:Int):Ans prog 258 [rJ (w),rJ (h),rJ (s)] (rJ ((lenW w h s))):=
 wc gamI aL Tryz.func258 (aH (rD (aB (aT (aT (bU h 1*s)+w)))=gE (lenW w h s))) λhwf=>by
  delta eS aB gE aT aH bU;simp only [sS,zQl,zQn,zQ7,zQA];simp [lenW]
def tU (a:FuncId) (b:Int) (c:List RV) (e:RV):Prop:=Ans prog a (RV.d (aB b)::c) e
def aCX (a:Prop) (b:Bool) (c d:Prop):Prop:=True/\a/\True/\(b=true->True/\True/\True/\True/\c)/\d
def aDA (a:FuncId) (b c:Int):Prop:=uU a b (aB c) (RV.d (DV.bool (zZs b c)))
theorem zZP (w h s:Int) (n:Nat) (xs:List DV):Ans prog 238 [rA [dJ w,dJ h,dJ s,dS n xs]] (rD (dQ (zQ2 w h s n))):=
 wc gamI aL Tryz.func238 (let a:=bE false (zQ2 w h s n);let b:=cT a;fZ (aCX (aDA 257 w h) (zZs w h) (jF (fI s w) (lH s 16777216) (nE (tU 258 w (iF h s) (gE (lenW w h s))) (cT (bE (decide ((n:Int)>=lenW w h s)) (zQ2 w h s n)))) (xM (decide (s<=16777216)) (True/\eS true/\a)) (xM (decide (s>=w)) b)) (mA (zZs w h) b))) λhwf=>by
  delta eS aB gE bI uU cT xM mA nE fZ iF fI bE jF lH tU aCX aDA;simp only [sS,zQl,zQn,zQ7,zQA,zZh];grind [zQ2]
theorem zZD (w h s:Int) (n:Nat) (xs:List DV):Ans prog 163 [rA [dJ w,dJ h,dJ s,dS n xs]] (rD (dQ (zQ2 w h s n))):=
 wc gamI aL Tryz.func163 (let a:=zQ2 w h s n;fZ (aCX (aDA 86 w h) (zZs w h) (bI (fI s w) (tQ s 16777216 (bL (aH (bE (decide ((n:Int)>=oH (bU h 1*s) w)) a))) (tX s 16777216 (bE false a))) (mM (decide (s>=w)) true a)) (iW (zZs w h) (gZ false a)))) λhwf=>by
  delta eS aB bI aT aH bU uU fZ oH bL lB fI bE gZ iW tQ tX mM aCX aDA;simp only [sS,zQl,zQn,zQ7,zQA,zZh,zZP];grind [zQ2,lenW]
theorem zYd (w h s:Int) (n:Nat) (xs:List DV):Ans prog 237 [rA [dJ w,dJ h,dJ s,dS n xs]] (rD (dQ (zVe ⟨w,h,s,n,xs⟩))):=
 wc gamI aL Tryz.func237 (let a:=zVe ⟨w,h,s,n,xs⟩;bF (mL w 0 (jF ((h==0)=true) ((s==0)=true) (gZ (bK (n:Int)) a) (iW (bK s) (aBO a)) (mM (bK h) true a)) (iW (bK w) (gZ false a)))) λhwf=>by
  delta eS bI bK bF lB bE mL jF gZ iW mM aBO;simp only [sS,zQl,zQn,zQ7,zQA,zZh,zZP,zZD];simp [zVe]; grind
def wY (a:Nat) (b:Int) (c:we):we:=mV a (aE b) c
def wZ (a:Nat) (b:Int) (c d:Nat) (e:we):we:=wY a b (fG c d e)
def aFE (a:Ann):Ann:=cU (tN a)
def bJ (a:Int) (b:wi):wi:=Cl.d (aE a)::b
def fN (a b c d:Int) (e:wi):wi:=aX (aE a) (aE b) (aX (aE c) (aE d) e)
def aMX (a:Bool):Ann:=Ann.sure a Ann.leaf
def oW (a b:Int) (c:wi):wi:=aX (aE a) (aE b) c
def lK (a:Nat) (b:Int):we:=nZ a b []
def aSB (a:Nat) (b:AV) (c:we):we:=(a,b)::c
def aSC (a:Nat) (b:wi) (c:we):we:=aSB a (AV.agg b) c
def aNJ (a:Nat) (b:wi) (c:Nat) (d:Int):we:=aSC a b (lK c d)
def aSM (a:Nat) (b:Int) (c:wi) (d:Nat) (e:Int):we:=aNJ a (bJ b c) d e
def aOI (a:Nat) (b c d:Int) (e:wi) (f:Nat) (g:Int):we:=aSM a b (oW c d e) f g
def aOC (a:Bool):Ann:=aFE (aMX a)
def aKE (a:Nat) (b c d:Int) (e:Nat) (f:Int):we:=aOI a b c d [] e f
def yU:Ann:=aOC false
def aBE:Ann:=aOC true
def pU (a b:Int):Prop:=aB (aT a)=aB b
def jD:Prop:=eS (aB 0)
def nP (a b c:Int) (d:List DV):List DV:=aE a::aE b::aE c::d
def qI (a b:Int):Prop:=pU (a+1) b
def vP:Prop:=decide ((0:Int)<3)=true
def vR:Prop:=decide ((2:Int)<3)=true
def vQ:Prop:=decide ((1:Int)<3)=true
def vT:Prop:=decide ((3:Int)<3)=false
def lM (a:Prop):Prop:=True->True/\a
def rX (a:Prop):Prop:=a/\True
def aHG (a b:Int) (c:Nat) (d:Option DV):Prop:=aW (0<=a) (b<(c:Int)) (eS d)
def pG (a b:Int):Prop:=aHG a a 3 (some (aE b))
theorem zQr (c0 c1 c2 ca cf most:Int):Ans prog 117 [rA [dK c0,dK c1,dK c2,dK ca,dK cf],rD (dK most)] (rD (dQ (Px.ok ⟨c0,c1,c2,ca,cf⟩ most))):=
 wc gamI (let a:=bJ c0 (fN c1 c2 ca cf []);sA (ui True (qP (wZ 1 most 2 2 (aKE 8 c0 c1 c2 9 0)) 2 a []) aBE (ui (c0<=ca/\True) (qP (wZ 1 most 2 2 (aKE 8 c0 c1 c2 9 1)) 2 a []) aBE (ui (c0<=ca/\c1<=ca/\True) (qP (wZ 1 most 2 2 (aKE 8 c0 c1 c2 9 2)) 2 a []) aBE (ui (aW (c0<=ca) (c1<=ca) (c2<=ca)) (qP (wZ 1 most 2 2 (aKE 8 c0 c1 c2 9 3)) 2 a []) yU aL))))) Tryz.func117 (let a:=Px.ok ⟨c0,c1,c2,ca,cf⟩ most;let b:=c0<=ca;let e:=aW b (c1<=ca) (c2<=ca);let f:=eS (bQ c0 c1 c2 ca cf);let c:=eS (nP c0 c1 c2 []);let d:=eS (aE most);let g:=b/\c1<=ca/\True;let h:=eS (bQ c0 c1 c2 ca cf);kX (∃ p:Unit,True/\aF d (eS (0:Nat)) c jD/\h/\True) (aF (∀ o:Unit,lM (cR vP (pG 0 c0) (aEI c0 ca a (∃ n:Unit,aW (rX b) (aF d (eS (0:Nat)) c (qI 0 1)) h)))) (∀ m:Unit,b/\True->True/\cR vQ (pG 1 c1) (aEI c1 ca a (∃ l:Unit,aW g (aF d (eS (0:Nat)) c (qI 1 2)) f))) (∀ k:Unit,g->True/\cR vR (pG 2 c2) (aEI c2 ca a (∃ j:Unit,aW e (aF d (eS (0:Nat)) c (qI 2 3)) f))) (∀ i:Unit,e->cV (aN vT (bI (lH ca cf) (gZ (decide (cf<=most)) a) (tX ca cf (bE false a))))))) λhwf=>by
  delta eS aB bI aE aT aF bQ aN cR aW iH fL cV kX pU jD bE gZ lH iW tX nP xW qI vP vR vQ vT lM rX aHG pG aEI;simp only [sS,zQl,zQn,zQ7,zQA,zZh,zZP,zZD,zYd];simp [Px.ok,w1_]; grind
def oX (a b:Int) (c:Nat) (d:Prop):Prop:=aY (oE a b c) d
def vL (a b:Int) (c:Prop):Prop:=aN (oE a b 3) c
def xR (a:Prop):Prop:=oX 0 0 3 a
def aCP (a:Prop):Prop:=vL 2 2 a
theorem zQu (c0 c1 c2 ca cf most:Int):Ans prog 231 [rA [dK c0,dK c1,dK c2,dK ca,dK cf],rD (dK most)] (rD (dQ (Px.ok ⟨c0,c1,c2,ca,cf⟩ most))):=
 wc gamI aL Tryz.func231 (let a:=Px.ok ⟨c0,c1,c2,ca,cf⟩ most;let b:=bE false a;True/\True/\xR (tQ c0 ca (vL 1 1 (tQ c1 ca (aCP (eH (lH c2 ca) (bI (lH ca cf) (gZ (decide (cf<=most)) a) (tX ca cf b)) (mM (decide (c2<=ca)) true a))) (tX c1 ca (gZ false a)))) (sJ (decide (c0<=ca)) true (aH b)))) λhwf=>by
  delta eS bI aH aY oE aN lB bE eH gZ lH iW oX tQ tX mM vL xR sJ aCP;simp only [sS,zQl,zQn,zQ7,zQA,zZh,zZP,zZD,zYd,zQr];simp [Px.ok]; grind
def aIP (a:we) (b:wi):Snap:=aJL a b []
def cF (a b c d e f:Prop):Prop:=a/\b/\aF c d e f
def jP (a:Bool) (b c d e f:Int) (g:Nat) (h:List DV):Prop:=okPl a b c ⟨d,e,f,g,h⟩=true
def aAM (a b c:Int) (d:Nat) (e:List DV) (f:wi):wi:=gL a b (aB c) (DV.sl d e) f
def sU (a b c:Int) (d:Nat) (e:List DV) (f g h:Int) (i:Nat) (j:List DV) (k:wi):wi:=aAM a b c d e (aAM f g h i j k)
def aOG (a:Nat) (b c d:Int) (e:Nat) (f:List DV) (g:wi) (h:Nat) (i:Int):we:=aNJ a (aAM b c d e f g) h i
def aQS (a:Nat) (b c d:Int) (e:Nat) (f:List DV) (g:wi) (h:Nat) (i:Int) (j:wi):Snap:=aIP (aOG a b c d e f g h i) j
def aQW (a:Nat) (b c d:Int) (e:Nat) (f:List DV) (g:wi) (h:Nat) (i j k:Int) (l:Bool) (m:DV) (n:wi):Snap:=aQS a b c d e f g h i (gL j k (DV.bool l) m n)
def aHI (a:Nat) (b c d:Int) (e:Nat) (f:List DV) (g:wi) (h:Nat) (i j k:Int) (l:Bool) (m:Int) (n:wi):Snap:=aQW a b c d e f g h i j k l (aE m) n
def jE (a b:Prop):Prop:=aW (eS (0:Nat)) a b
def aFR (a:Prop) (b:Bool) (c d:Prop):Prop:=a/\True/\True/\oV b c/\d
def yA (a:Bool) (b c:Prop):Prop:=True/\True/\True/\gW a b/\c
def sR (a b c:Int) (d:Nat) (e f:List DV):List DV:=aB a::aB b::aB c::DV.sl d e::f
def dA (a b c:Int) (d:Nat) (e:List DV) (f g h:Int) (i:Nat) (j k:List DV):List DV:=sR a b c d e (sR f g h i j k)
def kK (a b:Int) (c:Bool) (d e f g h:Int) (i j k l m:Pl):Im:=⟨a,b,c,⟨d,e,f,g,h⟩,i,j,k,l,m⟩
def aGQ (a b c d e:Int) (f:List DV):List DV:=aE a::aE b::aE c::aE d::aE e::f
def nM (a b:Int) (c:Bool) (d e f g h i j k:Int) (l:Nat) (m n:List DV):List DV:=aB a::aB b::DV.bool c::aGQ d e f g h (sR i j k l m n)
def gD (a:Int):Prop:=decide (a<5)=true
def aDC (a b c d e f g:Prop):Prop:=True/\a/\b/\c/\aF d e f g
def aDB:Prop:=decide ((5:Int)<5)=false
def aGL (a b:Int) (c:Prop):Prop:=(a !=b)=false->True/\c
def wM (a b c d e:Bool):Bool:=Bool.and (Bool.and a (sF b c true)) (sF d e true)
def qJ (a:Bool) (b:FuncId) (c d e:Int) (f:Nat) (g:List DV) (h i:Prop) (j:Bool) (k:Prop):Prop:=vH a (yE b (sR c d e f g []) (zQ2 c d e f) (aDD (zQ2 c d e f) h) i) (lB (!a) j k)
def xB (a:Bool) (b c:Prop):Prop:=bP (a=true) b c
def rU (a:List DV) (b c:Int):Prop:=jE (eS a) (qI b c)
def xC (a b c d:Int) (e:Nat) (f:List DV):Prop:=0<=a/\a<((5:Nat):Int)/\aF (eS (some (aB b))) (eS (some (aB c))) (eS (some (aB d))) (eS (some (DV.sl e f)))
def aHJ (a b c d e:Prop):Prop:=a->True/\cR b c (True/\True/\True/\d/\e)
theorem zQC (w h:Int) (so:Bool) (c0 c1 c2 ca cf w0 h0 s0:Int) (n0:Nat) (xs0:List DV) (w1 h1 s1:Int) (n1:Nat) (xs1:List DV) (w2 h2 s2:Int) (n2:Nat) (xs2:List DV) (w3 h3 s3:Int) (n3:Nat) (xs3:List DV) (w4 h4 s4:Int) (n4:Nat) (xs4:List DV):Ans prog 208 [rA [dJ w,dJ h,dQ so,dK c0,dK c1,dK c2,dK ca,dK cf,dJ w0,dJ h0,dJ s0,dS n0 xs0,dJ w1,dJ h1,dJ s1,dS n1 xs1,dJ w2,dJ h2,dJ s2,dS n2 xs2,dJ w3,dJ h3,dJ s3,dS n3 xs3,dJ w4,dJ h4,dJ s4,dS n4 xs4]] (rD (dQ (Im.formed ⟨w,h,so,⟨c0,c1,c2,ca,cf⟩,⟨w0,h0,s0,n0,xs0⟩,⟨w1,h1,s1,n1,xs1⟩,⟨w2,h2,s2,n2,xs2⟩,⟨w3,h3,s3,n3,xs3⟩,⟨w4,h4,s4,n4,xs4⟩⟩))):=
 wc gamI (let a:=sU w1 h1 s1 n1 xs1 w2 h2 s2 n2 xs2 (sU w3 h3 s3 n3 xs3 w4 h4 s4 n4 xs4 []);let b:=fN c1 c2 ca cf (aAM w0 h0 s0 n0 xs0 a);let i:=jP so w h w3 h3 s3 n3 xs3;let g:=jP so w h w2 h2 s2 n2 xs2;let f:=jP so w h w1 h1 s1 n1 xs1;let e:=jP so w h w0 h0 s0 n0 xs0;let c:=so=true\/(⟨c0,c1,c2,ca,cf⟩:Px)=Px.zero;let d:=zZs w h=true;jL (ui (d/\c/\True) (aHI 23 w0 h0 s0 n0 xs0 a 24 0 w h so c0 b) aBE (ui (aW d c e) (aHI 23 w0 h0 s0 n0 xs0 a 24 1 w h so c0 b) aBE (ui (aF d c e f) (aHI 23 w0 h0 s0 n0 xs0 a 24 2 w h so c0 b) aBE (ui (fT d c e f g) (aHI 23 w0 h0 s0 n0 xs0 a 24 3 w h so c0 b) aBE (ui (cF d c e f g i) (aHI 23 w0 h0 s0 n0 xs0 a 24 4 w h so c0 b) aBE (ui (d/\cF c e f g i (jP so w h w4 h4 s4 n4 xs4)) (aHI 23 w0 h0 s0 n0 xs0 a 24 5 w h so c0 b) yU aL))))))) Tryz.func208 (let b:=Im.formed (kK w h so c0 c1 c2 ca cf ⟨w0,h0,s0,n0,xs0⟩ ⟨w1,h1,s1,n1,xs1⟩ ⟨w2,h2,s2,n2,xs2⟩ ⟨w3,h3,s3,n3,xs3⟩ ⟨w4,h4,s4,n4,xs4⟩);let a:=bE false b;let v:=jP so w h w3 h3 s3 n3 xs3;let k:=jP so w h w2 h2 s2 n2 xs2;let i:=jP so w h w1 h1 s1 n1 xs1;let f:=jP so w h w0 h0 s0 n0 xs0;let c:=so=true\/(⟨c0,c1,c2,ca,cf⟩:Px)=Px.zero;let d:=zZs w h=true;let x:=d/\cF c f i k v (jP so w h w4 h4 s4 n4 xs4);let y:=dA w1 h1 s1 n1 xs1 w2 h2 s2 n2 xs2 (dA w3 h3 s3 n3 xs3 w4 h4 s4 n4 xs4 []);let z:=nM w h so c0 c1 c2 ca cf w0 h0 s0 n0 xs0 y;let j:=eS z;let e:=sR w0 h0 s0 n0 xs0 y;let l:=(∃ V:Unit,aW x (rU e 4 5) j);let g:=gZ false b;let A:=hZ (zQ2 w4 h4 s4 n4) g;let B:=True/\True/\True/\aGL w4 w (True/\True/\True/\True/\yP (h4 !=h) a l)/\mM (w4 !=w) false b;let m:=zVe ⟨w4,h4,s4,n4,xs4⟩;let C:=cF d c f i k v;let n:=(∃ X:Unit,aW C (rU e 3 4) j);let D:=hZ (zQ2 w3 h3 s3 n3) g;let E:=True/\True/\True/\aGL w3 w (True/\True/\True/\True/\yP (h3 !=h) a n)/\mM (w3 !=w) false b;let o:=zVe ⟨w3,h3,s3,n3,xs3⟩;let F:=fT d c f i k;let p:=(∃ Z:Unit,aW F (rU e 2 3) j);let G:=hZ (zQ2 w2 h2 s2 n2) g;let H:=True/\True/\True/\aGL w2 w (True/\True/\True/\True/\yP (h2 !=h) a p)/\mM (w2 !=w) false b;let q:=zVe ⟨w2,h2,s2,n2,xs2⟩;let I:=aF d c f i;let J:=eS z/\True;let K:=(∃ z1:Unit,I/\rU e 1 2/\J);let r:=zQ2 w1 h1 s1 n1;let L:=sR w1 h1 s1 n1 xs1 [];let M:=vH so (yE 238 L r (gW r (bL ((tW w1 w->True/\True/\True/\True/\True/\yP (h1 !=h) a K)/\mM (w1 !=w) false b))) (hZ r g)) (lB (!so) true K);let s:=zVe ⟨w1,h1,s1,n1,xs1⟩;let O:=aW d c f;let t:=(∃ z3:Unit,aW O (rU e 0 1) j);let P:=hZ (zQ2 w0 h0 s0 n0) g;let Q:=bI (tW w0 w) (bF (yP (h0 !=h) a t)) (mM (w0 !=w) false b);let u:=zVe ⟨w0,h0,s0,n0,xs0⟩;let R:=d/\c/\True;let S:=aDC (∃ z5:Unit,R/\jE (eS e) jD/\J) (∀ z4:Unit,bP R (gD 0) (xC 0 w0 h0 s0 n0 xs0/\kX (xB so (pY 237 (sR w0 h0 s0 n0 xs0 []) u) (yA u (qJ so 238 w0 h0 s0 n0 xs0 Q P true t) (hZ u a))) (mA so (qJ so 238 w0 h0 s0 n0 xs0 Q P true t)))) (∀ z2:Unit,aHJ O (gD 1) (xC 1 w1 h1 s1 n1 xs1) (xB so (pY 237 L s) (yA s M (hZ s a))) (mA so M)) (∀ z0:Unit,aHJ I (gD 2) (xC 2 w2 h2 s2 n2 xs2) (xB so (pY 237 (sR w2 h2 s2 n2 xs2 []) q) (yA q (qJ so 238 w2 h2 s2 n2 xs2 H G true p) (hZ q a))) (mA so (qJ so 238 w2 h2 s2 n2 xs2 H G true p))) (∀ Y:Unit,aHJ F (gD 3) (xC 3 w3 h3 s3 n3 xs3) (xB so (pY 237 (sR w3 h3 s3 n3 xs3 []) o) (yA o (qJ so 238 w3 h3 s3 n3 xs3 E D true n) (hZ o a))) (mA so (qJ so 238 w3 h3 s3 n3 xs3 E D true n))) (∀ W:Unit,aHJ C (gD 4) (xC 4 w4 h4 s4 n4 xs4) (xB so (pY 237 (sR w4 h4 s4 n4 xs4 []) m) (yA m (qJ so 238 w4 h4 s4 n4 xs4 B A true l) (hZ m a))) (mA so (qJ so 238 w4 h4 s4 n4 xs4 B A true l))) (∀ U:Unit,x->cV (gI aDB (bE true b)));let T:=wM (bK c0) (bK c1) (bK c2) (bK ca) (bK cf);bL (aFR (aDA 83 w h) (zZs w h) (gK (yX so (True/\True/\vH T a (oV T S))) (mA (!so) (True/\S))) (hZ (zZs w h) a))) λhwf=>by
  delta eS aB bI aE aT aF bK uU fT cR dO xM mA aW bP gI cV kX pU bF bL gK jD sF lB gW jE pY bE gC vH gZ mM oV hZ aFR qI yX yA tW yE aDD sR dA kK aGQ aDA nM cF gD aDC aDB aGL jP wM qJ yP xB rU xC aHJ;simp only [sS,zQl,zQn,zQ7,zQA,zZh,zZP,zZD,zYd,zQr,zQu];cases so<;>simp [w1_,Im.formed,Im.inner,okPl,Px.zero]<;>(repeat' (first | apply And.intro | intro))<;>(first | assumption | (simp_all; done) | grind)
def aAD (a:Bool):Ann:=zM (aMX a)
def sO:Ann:=aAD false
def aRO (a:Nat) (b:Int) (c:wi):Snap:=aIP (lK a b) c
def aRR (a:Nat) (b c:Int) (d:wi):Snap:=aRO a b (mR c d)
def aRS (a:Nat) (b c d:Int) (e f g:DV) (h:wi):Snap:=aRR a b c (aX (aB d) e (aX f g h))
def aRT (a:Nat) (b c d:Int) (e:Bool) (f g:DV) (h:wi):Snap:=aRS a b c d (DV.bool e) f g h
def aRV (a:Nat) (b c d:Int) (e:Bool) (f:Int) (g:DV) (h:wi):Snap:=aRT a b c d e (aE f) g h
def aRW (a:Nat) (b c d:Int) (e:Bool) (f g:Int) (h:wi):Snap:=aRV a b c d e f (aE g) h
def aRX (a:Nat) (b c d:Int) (e:Bool) (f g:Int) (h:DV) (i j:Int) (k:DV) (l:wi):Snap:=aRW a b c d e f g (aX h (aE i) (aX (aE j) k l))
def aRY (a:Nat) (b c d:Int) (e:Bool) (f g h i j:Int) (k:DV) (l:wi):Snap:=aRX a b c d e f g (aE h) i j k l
def aGM (a:Nat) (b c d:Int) (e:Bool) (f g h i j k:Int) (l:wi):Snap:=aRY a b c d e f g h i j (aB k) l
def kE (a:Prop):Prop:=eS (0:Nat)/\a/\True
def lF (a:Bool) (b:Prop):Prop:=mE (!a) b
def eZ (a b:Int):Prop:=kE (qI a b)
def mQ (a:Int) (b:Prop):Prop:=aN (oE a a 5) b
def sT (a:Int) (b:Prop):Prop:=mE (dX a) b
def aIZ (a:Int) (b:Nat) (c:Prop) (d:Int) (e:Bool) (f g:Int) (h:List DV) (i j:Prop) (k:Bool) (l:Prop):Prop:=aLU (dX a) (aBY b c (iO (b:Int) d (qJ e 163 f g a b h i j k l))) (sT a (True/\True/\c))
theorem zQZ (w h:Int) (so:Bool) (c0 c1 c2 ca cf w0 h0 s0:Int) (n0:Nat) (xs0:List DV) (w1 h1 s1:Int) (n1:Nat) (xs1:List DV) (w2 h2 s2:Int) (n2:Nat) (xs2:List DV) (w3 h3 s3:Int) (n3:Nat) (xs3:List DV) (w4 h4 s4:Int) (n4:Nat) (xs4:List DV):Ans prog 87 [rA [dJ w,dJ h,dQ so,dK c0,dK c1,dK c2,dK ca,dK cf,dJ w0,dJ h0,dJ s0,dS n0 xs0,dJ w1,dJ h1,dJ s1,dS n1 xs1,dJ w2,dJ h2,dJ s2,dS n2 xs2,dJ w3,dJ h3,dJ s3,dS n3 xs3,dJ w4,dJ h4,dJ s4,dS n4 xs4]] (rD (dQ (Im.inner ⟨w,h,so,⟨c0,c1,c2,ca,cf⟩,⟨w0,h0,s0,n0,xs0⟩,⟨w1,h1,s1,n1,xs1⟩,⟨w2,h2,s2,n2,xs2⟩,⟨w3,h3,s3,n3,xs3⟩,⟨w4,h4,s4,n4,xs4⟩⟩))):=
 wc gamI (let a:=gL h0 s0 (DV.sl n0 xs0) (aB w1) (gL h1 s1 (DV.sl n1 xs1) (aB w2) (gL h2 s2 (DV.sl n2 xs2) (aB w3) (gL h3 s3 (DV.sl n3 xs3) (aB w4) (mR h4 (aX (aB s4) (DV.sl n4 xs4) [])))));let e:=jP so w h w3 h3 s3 n3 xs3;let d:=jP so w h w2 h2 s2 n2 xs2;let c:=jP so w h w1 h1 s1 n1 xs1;let b:=jP so w h w0 h0 s0 n0 xs0;let f:=aAD true;sA (ui True (aGM 3 0 w h so c0 c1 c2 ca cf w0 a) f (ui (b/\True) (aGM 3 1 w h so c0 c1 c2 ca cf w0 a) f (ui (b/\c/\True) (aGM 3 2 w h so c0 c1 c2 ca cf w0 a) f (ui (aW b c d) (aGM 3 3 w h so c0 c1 c2 ca cf w0 a) f (ui (aF b c d e) (aGM 3 4 w h so c0 c1 c2 ca cf w0 a) f (ui (fT b c d e (jP so w h w4 h4 s4 n4 xs4)) (aGM 3 5 w h so c0 c1 c2 ca cf w0 a) sO aL))))))) Tryz.func87 (let e:=Im.inner (kK w h so c0 c1 c2 ca cf ⟨w0,h0,s0,n0,xs0⟩ ⟨w1,h1,s1,n1,xs1⟩ ⟨w2,h2,s2,n2,xs2⟩ ⟨w3,h3,s3,n3,xs3⟩ ⟨w4,h4,s4,n4,xs4⟩);let o:=jP so w h w3 h3 s3 n3 xs3;let i:=jP so w h w2 h2 s2 n2 xs2;let f:=jP so w h w1 h1 s1 n1 xs1;let c:=jP so w h w0 h0 s0 n0 xs0;let p:=fT c f i o (jP so w h w4 h4 s4 n4 xs4);let q:=nM w h so c0 c1 c2 ca cf w0 h0 s0 n0 xs0 (aB w1::aB h1::aB s1::DV.sl n1 xs1::sR w2 h2 s2 n2 xs2 (dA w3 h3 s3 n3 xs3 w4 h4 s4 n4 xs4 []));let g:=eS q;let j:=(∃ H:Unit,aW p (eZ 4 5) g);let b:=gZ false e;let r:=lF (zQ2 w4 h4 s4 n4) b;let a:=bE false e;let s:=eH (tW w4 w) (gV (h4 !=h) a (True/\True/\j)) (yG (w4 !=w) a);let d:=bL a;let t:=aF c f i o;let k:=(∃ J:Unit,aW t (eZ 3 4) g);let u:=lF (zQ2 w3 h3 s3 n3) b;let v:=eH (tW w3 w) (gV (h3 !=h) a (True/\True/\k)) (yG (w3 !=w) a);let x:=aW c f i;let l:=(∃ L:Unit,aW x (eZ 2 3) g);let y:=lF (zQ2 w2 h2 s2 n2) b;let z:=eH (tW w2 w) (gV (h2 !=h) a (True/\True/\l)) (yG (w2 !=w) a);let A:=c/\f/\True;let m:=(∃ O:Unit,aW A (eZ 1 2) g);let B:=lF (zQ2 w1 h1 s1 n1) b;let C:=eH (tW w1 w) (gV (h1 !=h) a (True/\True/\m)) (yG (w1 !=w) a);let D:=eS q;let n:=(∃ Q:Unit,aW (rX c) (eZ 0 1) D);let E:=lF (zQ2 w0 h0 s0 n0) b;let F:=eH (tW w0 w) (gV (h0 !=h) a (True/\True/\n)) (yG (w0 !=w) a);True/\True/\aDC (∃ S:Unit,True/\kE jD/\D/\True) (∀ R:Unit,lM (aY (gD 0) (mQ 0 (aDE so (jF (rI w0) (rI h0) (aIZ s0 n0 a 0 so w0 h0 xs0 F E true n) (sT h0 b) (sT w0 d)) (qJ so 163 w0 h0 s0 n0 xs0 F E true n))))) (∀ P:Unit,c/\True->cV (aY (gD 1) (mQ 1 (aDE so (jF (rI w1) (rI h1) (aIZ s1 n1 a 0 so w1 h1 xs1 C B true m) (sT h1 b) (sT w1 d)) (qJ so 163 w1 h1 s1 n1 xs1 C B true m))))) (∀ M:Unit,A->cV (aY (gD 2) (mQ 2 (aDE so (jF (rI w2) (rI h2) (aIZ s2 n2 a 0 so w2 h2 xs2 z y true l) (sT h2 b) (sT w2 d)) (qJ so 163 w2 h2 s2 n2 xs2 z y true l))))) (∀ K:Unit,x->cV (aY (gD 3) (mQ 3 (aDE so (jF (rI w3) (rI h3) (aIZ s3 n3 a 0 so w3 h3 xs3 v u true k) (sT h3 b) (sT w3 d)) (qJ so 163 w3 h3 s3 n3 xs3 v u true k))))) (∀ I:Unit,t->cV (aY (gD 4) (mQ 4 (aDE so (jF (rI w4) (rI h4) (aIZ s4 n4 a 0 so w4 h4 xs4 s r true j) (sT h4 b) (sT w4 d)) (qJ so 163 w4 h4 s4 n4 xs4 s r true j))))) (∀ G:Unit,iN p aDB (bI (so=false) (gZ (wM (bK c0) (bK c1) (bK c2) (bK ca) (bK cf)) e) (qU so (bE true e))))) λhwf=>by
  delta eS aB bI aE aT aF aY oE bK fT aN iN aW iH iO mE aBY cV pU bL kE nJ jD qU dX gV sF lB lF pY bE eH gC vH jF gZ iW qI eZ tW yE aDD sR dA kK aGQ nM gD lM mQ aDC aDB jP rX sT rI aDE wM yG qJ aLU aIZ;simp only [sS,zQl,zQn,zQ7,zQA,zZh,zZP,zZD,zYd,zQr,zQu,zQC];cases so<;>simp [w1_,Im.inner,okPl,zVe,Px.zero]<;>(repeat' (first | apply And.intro | intro))<;>(first | assumption | (simp_all; done) | grind)
theorem zQ9 (w h:Int) (so:Bool) (c0 c1 c2 ca cf w0 h0 s0:Int) (n0:Nat) (xs0:List DV) (w1 h1 s1:Int) (n1:Nat) (xs1:List DV) (w2 h2 s2:Int) (n2:Nat) (xs2:List DV) (w3 h3 s3:Int) (n3:Nat) (xs3:List DV) (w4 h4 s4:Int) (n4:Nat) (xs4:List DV):Ans prog 42 [rA [dJ w,dJ h,dQ so,dK c0,dK c1,dK c2,dK ca,dK cf,dJ w0,dJ h0,dJ s0,dS n0 xs0,dJ w1,dJ h1,dJ s1,dS n1 xs1,dJ w2,dJ h2,dJ s2,dS n2 xs2,dJ w3,dJ h3,dJ s3,dS n3 xs3,dJ w4,dJ h4,dJ s4,dS n4 xs4]] (rD (dQ (Im.formed ⟨w,h,so,⟨c0,c1,c2,ca,cf⟩,⟨w0,h0,s0,n0,xs0⟩,⟨w1,h1,s1,n1,xs1⟩,⟨w2,h2,s2,n2,xs2⟩,⟨w3,h3,s3,n3,xs3⟩,⟨w4,h4,s4,n4,xs4⟩⟩))):=
 wc gamI aL Tryz.func42 (let a:=(⟨w4,h4,s4,n4,xs4⟩:Pl);let b:=(⟨w3,h3,s3,n3,xs3⟩:Pl);let c:=(⟨w2,h2,s2,n2,xs2⟩:Pl);let d:=(⟨w1,h1,s1,n1,xs1⟩:Pl);let e:=(⟨w0,h0,s0,n0,xs0⟩:Pl);let f:=Im.formed (kK w h so c0 c1 c2 ca cf e d c b a);let g:=Im.inner (kK w h so c0 c1 c2 ca cf e d c b a);fZ (tH (aDA 86 w h) (zZs w h=true) (aY (pY 87 (aB w::aB h::DV.bool so::aGQ c0 c1 c2 ca cf (aB w0::aB h0::aB s0::DV.sl n0 xs0::dA w1 h1 s1 n1 xs1 w2 h2 s2 n2 xs2 (dA w3 h3 s3 n3 xs3 w4 h4 s4 n4 xs4 []))) g) (bE g f)) (iW (zZs w h) (aBO f)))) λhwf=>by
  delta eS aB aE aY uU tH fZ pY bE iW aBO sR dA kK aGQ aDA;simp only [sS,zQl,zQn,zQ7,zQA,zZh,zZP,zZD,zYd,zQr,zQu,zQC,zQZ];simp [Im.formed]; grind
def zL (a:Nat) (b:Int) (c:Nat) (d:Int) (e:we):we:=aFB a b c (aB d) e
def iV (a:wi):wi:=bJ 0 a
def cP (a:wi):wi:=iV (iV a)
def aSK (a:Nat) (b:Int) (c:Nat) (d:Int) (e:we) (f:Nat) (g:wi) (h:Nat) (i:wi) (j:wg):Snap:=lY (zL a b c d e) f g h i j
def aSL (a:Int) (b:Nat) (c:Int) (d:we) (e:Nat) (f:wi) (g:Nat) (h:wi) (i:wg):Snap:=aSK 1 a b c d e f g h i
def wN (a b:Int) (c:we) (d:Nat) (e:wi) (f:Nat) (g:wi) (h:wg):Snap:=aSL a 2 b c d e f g h
def aPY (a:Nat) (b:we):we:=aMH 7 a b
def aOF (a:we):we:=aPY 7 a
def aRC (a:Int) (b:Nat) (c:Int) (d:we):we:=zL 1 a b c d
def aJS (a b:Int) (c:we):we:=aRC a 2 b c
def pH (a b:Int):Nat:=aR (oH a b) 1
def aHK (a:Nat) (b c d:Int) (e:Nat) (f:List DV) (g:wi) (h:Nat) (i:Int):we:=aOF (aOG a b c d e f g h i)
def aCB (a:Prop):Prop:=True/\True/\aH a
def aFY (a b c d e:Int):List DV:=aE a::aE b::nP c d e []
def aAB (d:Px):List DV:=aFY d.a d.b d.c d.al d.f
def qZ (a b:Prop):Prop:=aY a (aH b)
def nW (a b:Prop) (c d:List DV):Prop:=aF a b (eS c) (eS d)
def jH (a b c d:Prop):Prop:=a/\True/\b/\c/\d
def oZ (a b:Int) (c:Prop):Prop:=pR a (dE (aB b) (eS (0:Nat)) c)
def wR (a:List DV) (b c:Int):Int:=nAt a (aR (oH b c) 1)
def wQ (a b:Int) (c:Nat) (d:List DV):Prop:=mX (oH a b) c 1 d
theorem zVQ (w h:Int) (so:Bool) (c0 c1 c2 ca cf w0 h0 s0:Int) (n0:Nat) (xs0:List DV) (w1 h1 s1:Int) (n1:Nat) (xs1:List DV) (w2 h2 s2:Int) (n2:Nat) (xs2:List DV) (w3 h3 s3:Int) (n3:Nat) (xs3:List DV) (w4 h4 s4:Int) (n4:Nat) (xs4:List DV) (x y:Int) (hu:Im.isU ⟨w,h,so,⟨c0,c1,c2,ca,cf⟩,⟨w0,h0,s0,n0,xs0⟩,⟨w1,h1,s1,n1,xs1⟩,⟨w2,h2,s2,n2,xs2⟩,⟨w3,h3,s3,n3,xs3⟩,⟨w4,h4,s4,n4,xs4⟩⟩) (hf:Im.inner ⟨w,h,so,⟨c0,c1,c2,ca,cf⟩,⟨w0,h0,s0,n0,xs0⟩,⟨w1,h1,s1,n1,xs1⟩,⟨w2,h2,s2,n2,xs2⟩,⟨w3,h3,s3,n3,xs3⟩,⟨w4,h4,s4,n4,xs4⟩⟩=true) (hx:0<=x/\x<w) (hy:0<=y/\y<h):Ans prog 155 [rA [dJ w,dJ h,dQ so,dK c0,dK c1,dK c2,dK ca,dK cf,dJ w0,dJ h0,dJ s0,dS n0 xs0,dJ w1,dJ h1,dJ s1,dS n1 xs1,dJ w2,dJ h2,dJ s2,dS n2 xs2,dJ w3,dJ h3,dJ s3,dS n3 xs3,dJ w4,dJ h4,dJ s4,dS n4 xs4],rJ (x),rJ (y)] (rA (pD (Im.px ⟨w,h,so,⟨c0,c1,c2,ca,cf⟩,⟨w0,h0,s0,n0,xs0⟩,⟨w1,h1,s1,n1,xs1⟩,⟨w2,h2,s2,n2,xs2⟩,⟨w3,h3,s3,n3,xs3⟩,⟨w4,h4,s4,n4,xs4⟩⟩ x y))):=
 wc gamI (let g:=fD xs3 (pH (y*s3) x);let d:=fD xs2 (pH (y*s2) x);let c:=fD xs1 (pH (y*s1) x);let e:=fD xs0 (pH (y*s0) x);let f:=cD e;let a:=iV (cP (cP []));let b:=sU w1 h1 s1 n1 xs1 w2 h2 s2 n2 xs2 (sU w3 h3 s3 n3 xs3 w4 h4 s4 n4 xs4 []);pX (ui True (qP (aJS x y (aHK 15 w0 h0 s0 n0 xs0 b 16 0)) 6 a (vG 7 a [])) aBE (ui True (wN x y (aHK 15 w0 h0 s0 n0 xs0 b 16 1) 6 a 7 (aX e (aE 0) (iV (cP []))) []) aBE (ui True (wN x y (aHK 15 w0 h0 s0 n0 xs0 b 16 2) 6 a 7 (f::aX c (aE 0) (cP [])) []) aBE (ui True (wN x y (aHK 15 w0 h0 s0 n0 xs0 b 16 3) 6 a 7 (aX e c (aX d gF (iV []))) []) aBE (ui True (wN x y (aHK 15 w0 h0 s0 n0 xs0 b 16 4) 6 a 7 (f::aX c d (aX g gF [])) []) aBE (ui True (wN x y (aHK 15 w0 h0 s0 n0 xs0 b 16 5) 6 a 7 (f::aX c d (aX g (fD xs4 (pH (y*s4) x)) [])) []) yU aL))))))) Tryz.func155 (let e:=aAB (Im.px (kK w h so c0 c1 c2 ca cf ⟨w0,h0,s0,n0,xs0⟩ ⟨w1,h1,s1,n1,xs1⟩ ⟨w2,h2,s2,n2,xs2⟩ ⟨w3,h3,s3,n3,xs3⟩ ⟨w4,h4,s4,n4,xs4⟩) x y);let d:=wR xs2 (y*s2) x;let c:=wR xs1 (y*s1) x;let b:=wR xs0 (y*s0) x;let f:=[aE b,aE c,aE d,aE (wR xs3 (y*s3) x),aE (wR xs4 (y*s4) x)];let a:=dA w0 h0 s0 n0 xs0 w1 h1 s1 n1 xs1 (dA w2 h2 s2 n2 xs2 w3 h3 s3 n3 xs3 (sR w4 h4 s4 n4 xs4 []));True/\gV so (True/\True/\nD (bQ c0 c1 c2 ca cf) e) (True/\True/\aDC (∃ s:Unit,True/\oZ x y (jE (eS a) jD)/\eS dV/\eS dV/\True) (∀ r:Unit,bP True (gD 0) (qZ (xC 0 w0 h0 s0 n0 xs0) (aAZ (wQ (y*s0) x n0 xs0) (bY xs0 (pH (y*s0) x)) (mQ 0 (∃ q:Unit,nW True (oZ x y (rU a 0 1)) dV (bQ b 0 0 0 0)))))) (∀ p:Unit,bP True (gD 1) (qZ (xC 1 w1 h1 s1 n1 xs1) (aAZ (wQ (y*s1) x n1 xs1) (bY xs1 (pH (y*s1) x)) (mQ 1 (∃ o:Unit,nW True (oZ x y (rU a 1 2)) dV (bQ b c 0 0 0)))))) (∀ n:Unit,bP True (gD 2) (qZ (xC 2 w2 h2 s2 n2 xs2) (aAZ (wQ (y*s2) x n2 xs2) (bY xs2 (pH (y*s2) x)) (mQ 2 (∃ m:Unit,nW True (oZ x y (rU a 2 3)) dV (bQ b c d 0 0)))))) (∀ l:Unit,lM (jH (gD 3) (xC 3 w3 h3 s3 n3 xs3) True (True/\True/\True/\True/\fZ (aAZ (wQ (y*s3) x n3 xs3) (bY xs3 (pH (y*s3) x)) (mQ 3 (∃ k:Unit,nW True (oZ x y (rU a 3 4)) dV (bQ b c d (wR xs3 (y*s3) x) 0))))))) (∀ j:Unit,lM (gI (gD 4) (xC 4 w4 h4 s4 n4 xs4/\aCB (aAZ (wQ (y*s4) x n4 xs4) (bY xs4 (pH (y*s4) x)) (mQ 4 (∃ i:Unit,nW True (oZ x y (rU a 4 5)) dV f)))))) (∀ g:Unit,lM (aDB/\jX 5/\True/\pP 5/\True/\qM 5/\aM (oE 3 3 5) (mQ 4 (nD f e)))))) λhwf=>by
  delta eS aB aR mX aE aT aF fD aH bQ aM aY oE jX dE aN nD aW bP gI pP qM pR dV aCB fZ oH pU jD gV jE nP aFY aAB qI qZ nW sR dA kK bY gD lM mQ aDC aDB jH pH oZ wR wQ aAZ rU xC;simp only [sS,zQl,zQn,zQA,zQC,zQZ,zQ9]
  cases so with
  | true=>simp [Im.px]
  | false=>
   obtain ⟨u0,u1,u2,u3,u4⟩:=hu;obtain ⟨hc,⟨v0,e0,e0'⟩,⟨v1,e1,e1'⟩,⟨v2,e2,e2'⟩,⟨v3,e3,e3'⟩,⟨v4,e4,e4'⟩⟩:=Im.inner_planes hf rfl;simp only at v0 e0 e0' v1 e1 e1' v2 e2 e2' v3 e3 e3' v4 e4 e4';obtain ⟨a0,b0,d0⟩:=zY4 u0 v0 (x:=x) (y:=y) ⟨hx.1,by omega⟩ ⟨hy.1,by omega⟩;obtain ⟨a1,b1,d1⟩:=zY4 u1 v1 (x:=x) (y:=y) ⟨hx.1,by omega⟩ ⟨hy.1,by omega⟩;obtain ⟨a2,b2,d2⟩:=zY4 u2 v2 (x:=x) (y:=y) ⟨hx.1,by omega⟩ ⟨hy.1,by omega⟩;obtain ⟨a3,b3,d3⟩:=zY4 u3 v3 (x:=x) (y:=y) ⟨hx.1,by omega⟩ ⟨hy.1,by omega⟩;obtain ⟨a4,b4,d4⟩:=zY4 u4 v4 (x:=x) (y:=y) ⟨hx.1,by omega⟩ ⟨hy.1,by omega⟩;simp only at a0 b0 d0 a1 b1 d1 a2 b2 d2 a3 b3 d3 a4 b4 d4;simp only [wQr] at b0 b1 b2 b3 b4 d0 d1 d2 d3 d4;have f0:=(wQK.1 d0).2;have f1:=(wQK.1 d1).2;have f2:=(wQK.1 d2).2;have f3:=(wQK.1 d3).2;have f4:=(wQK.1 d4).2;simp [w1_,f0,f1,f2,f3,f4,a0,a1,a2,a3,a4,b0,b1,b2,b3,b4,d0,d1,d2,d3,d4,Im.px,Pl.at_]
def aGO (a b:Int) (c:we) (d:Nat) (e:wi) (f:Nat) (g:wi) (h:Nat) (i:wi) (j:wg):Snap:=aJM (aJS a b c) d e f g h i j
def aRN (a:we):we:=aCA (aOF a)
def aGN (a:Nat) (b:Int):we:=aRN (lK a b)
def uJ (a:Prop) (b c d:List DV):Prop:=aF a (eS b) (eS c) (eS d)
def vZ (a:Int) (b:Prop):Prop:=True->True/\True/\aN (gD a) b
def aJB (a b:Int) (c:Prop) (d:List DV) (e:Int) (f:List DV):Prop:=True/\uJ (oZ a b c) d dV (aB (oH e a)::f)
theorem jYo (w h:Int) (so:Bool) (c0 c1 c2 ca cf w0 h0 s0:Int) (n0:Nat) (xs0:List DV) (w1 h1 s1:Int) (n1:Nat) (xs1:List DV) (w2 h2 s2:Int) (n2:Nat) (xs2:List DV) (w3 h3 s3:Int) (n3:Nat) (xs3:List DV) (w4 h4 s4:Int) (n4:Nat) (xs4:List DV) (x y:Int) (hu:Im.isU ⟨w,h,so,⟨c0,c1,c2,ca,cf⟩,⟨w0,h0,s0,n0,xs0⟩,⟨w1,h1,s1,n1,xs1⟩,⟨w2,h2,s2,n2,xs2⟩,⟨w3,h3,s3,n3,xs3⟩,⟨w4,h4,s4,n4,xs4⟩⟩) (hf:Im.inner ⟨w,h,so,⟨c0,c1,c2,ca,cf⟩,⟨w0,h0,s0,n0,xs0⟩,⟨w1,h1,s1,n1,xs1⟩,⟨w2,h2,s2,n2,xs2⟩,⟨w3,h3,s3,n3,xs3⟩,⟨w4,h4,s4,n4,xs4⟩⟩=true) (hx:0<=x/\x<w) (hy:0<=y/\y<h):Ans prog 43 [rA [dJ w,dJ h,dQ so,dK c0,dK c1,dK c2,dK ca,dK cf,dJ w0,dJ h0,dJ s0,dS n0 xs0,dJ w1,dJ h1,dJ s1,dS n1 xs1,dJ w2,dJ h2,dJ s2,dS n2 xs2,dJ w3,dJ h3,dJ s3,dS n3 xs3,dJ w4,dJ h4,dJ s4,dS n4 xs4],rJ (x),rJ (y)] (rA (pD (Im.px ⟨w,h,so,⟨c0,c1,c2,ca,cf⟩,⟨w0,h0,s0,n0,xs0⟩,⟨w1,h1,s1,n1,xs1⟩,⟨w2,h2,s2,n2,xs2⟩,⟨w3,h3,s3,n3,xs3⟩,⟨w4,h4,s4,n4,xs4⟩⟩ x y))):=
 wc gamI (let c:=oH (y*s2) x;let d:=oH (y*s1) x;let f:=aB (aT (aT (y*s0)+x));let e:=cD f;let a:=iV (cP (cP []));let b:=gL w h (DV.bool so) (aE c0) (fN c1 c2 ca cf (aAM w0 h0 s0 n0 xs0 (sU w1 h1 s1 n1 xs1 w2 h2 s2 n2 xs2 (sU w3 h3 s3 n3 xs3 w4 h4 s4 n4 xs4 []))));let g:=aAD true;pX (ui True (aGO x y (aGN 8 0) 3 b 6 a 7 (tG (pJ [])) []) g (ui True (wN x y (aGN 8 1) 3 b 6 a (vG 7 (aX f (aB 0) (tG [])) [])) g (ui True (aGO x y (aGN 8 2) 3 b 6 a 7 (e::aX (aB (aT (aT (y*s1)+x))) (aB 0) (pJ [])) []) g (ui True (aGO x y (aGN 8 3) 3 b 6 a 7 (jK (oH (y*s0) x) d c 0 (aJA [])) []) g (ui True (aGO x y (aGN 8 4) 3 b 6 a 7 (e::jK d c (oH (y*s3) x) 0 []) []) g (ui True (aGO x y (aGN 8 5) 3 b 6 a 7 (e::gL d c (aB (oH (y*s3) x)) (aB (aT (aT (y*s4)+x))) []) []) sO aL))))))) Tryz.func43 (let i:=Im.px (kK w h so c0 c1 c2 ca cf ⟨w0,h0,s0,n0,xs0⟩ ⟨w1,h1,s1,n1,xs1⟩ ⟨w2,h2,s2,n2,xs2⟩ ⟨w3,h3,s3,n3,xs3⟩ ⟨w4,h4,s4,n4,xs4⟩) x y;let c:=y*s3;let a:=y*s0;let e:=oE 4 4 5;let f:=oE 3 3 5;let g:=oH (y*s2) x;let d:=oH (y*s1) x;let b:=nM w h so c0 c1 c2 ca cf w0 h0 s0 n0 xs0 (dA w1 h1 s1 n1 xs1 w2 h2 s2 n2 xs2 (dA w3 h3 s3 n3 xs3 w4 h4 s4 n4 xs4 []));True/\gV so (True/\True/\qN [aE c0,aE c1,aE c2,aE ca,aE cf] i) (True/\True/\aDC (∃ u:Unit,True/\uJ (oZ x y (bM (kE jD))) b dV (aB 0::tI)) (∀ t:Unit,vZ 0 (oX 0 0 5 (bH (jX 5) (∃ s:Unit,aJB x y (bM (eZ 0 1)) b a tI)))) (∀ r:Unit,vZ 1 (oX 1 1 5 (bH (pP 5) (∃ q:Unit,aJB x y (bM (eZ 1 2)) b a (eC d 0 0 0))))) (∀ p:Unit,vZ 2 (oX 2 2 5 (bH (qM 5) (∃ o:Unit,aJB x y (bM (eZ 2 3)) b a (eC d g 0 0))))) (∀ n:Unit,vZ 3 (oX 3 3 5 (bH f (∃ m:Unit,aJB x y (bM (eZ 3 4)) b a (eC d g (oH c x) 0))))) (∀ l:Unit,vZ 4 (oX 4 4 5 (bH e (∃ k:Unit,aJB x y (bM (eZ 4 5)) b a (eC d g (oH c x) (oH (y*s4) x)))))) (∀ j:Unit,iN True aDB (oX 0 0 5 (jH (jX 5) (wQ a x n0 xs0) (bY xs0 (pH a x)/\True) (oX 1 1 5 (jH (pP 5) (wQ (y*s1) x n1 xs1) (bY xs1 (pH (y*s1) x)/\True) (oX 2 2 5 (jH (qM 5) (wQ (y*s2) x n2 xs2) (bY xs2 (pH (y*s2) x)/\True) (aM f (True/\f/\True/\wQ c x n3 xs3/\jH (bY xs3 (pH c x)/\True) e True (True/\e/\True/\wQ (y*s4) x n4 xs4/\aAK (bY xs4 (pH (y*s4) x)) (eS true) (qN (bQ (wR xs0 a x) (wR xs1 (y*s1) x) (wR xs2 (y*s2) x) (wR xs3 c x) (wR xs4 (y*s4) x)) i))))))))))))) λhwf=>by
  delta eS aB aR mX aE aT aF fD bQ aM aY oE jX dE aN eC bM nD iN aI pP qN qM bH pR dV tI oH pU kE jD uJ gV oX qI eZ sR dA kK aGQ nM bY gD vZ aAK aDC aDB jH pH oZ wR wQ aJB;simp only [sS,zQl,zQn,zQA,zQC,zQZ,zQ9]
  cases so with
  | true=>simp [Im.px]
  | false=>
   obtain ⟨u0,u1,u2,u3,u4⟩:=hu;obtain ⟨hc,⟨v0,e0,e0'⟩,⟨v1,e1,e1'⟩,⟨v2,e2,e2'⟩,⟨v3,e3,e3'⟩,⟨v4,e4,e4'⟩⟩:=Im.inner_planes hf rfl;simp only at v0 e0 e0' v1 e1 e1' v2 e2 e2' v3 e3 e3' v4 e4 e4';obtain ⟨a0,b0,d0⟩:=zY4 u0 v0 (x:=x) (y:=y) ⟨hx.1,by omega⟩ ⟨hy.1,by omega⟩;obtain ⟨a1,b1,d1⟩:=zY4 u1 v1 (x:=x) (y:=y) ⟨hx.1,by omega⟩ ⟨hy.1,by omega⟩;obtain ⟨a2,b2,d2⟩:=zY4 u2 v2 (x:=x) (y:=y) ⟨hx.1,by omega⟩ ⟨hy.1,by omega⟩;obtain ⟨a3,b3,d3⟩:=zY4 u3 v3 (x:=x) (y:=y) ⟨hx.1,by omega⟩ ⟨hy.1,by omega⟩;obtain ⟨a4,b4,d4⟩:=zY4 u4 v4 (x:=x) (y:=y) ⟨hx.1,by omega⟩ ⟨hy.1,by omega⟩;simp only at a0 b0 d0 a1 b1 d1 a2 b2 d2 a3 b3 d3 a4 b4 d4;simp only [wQr] at b0 b1 b2 b3 b4 d0 d1 d2 d3 d4;have f0:=(wQK.1 d0).2;have f1:=(wQK.1 d1).2;have f2:=(wQK.1 d2).2;have f3:=(wQK.1 d3).2;have f4:=(wQK.1 d4).2;simp [w1_,f0,f1,f2,f3,f4,a0,a1,a2,a3,a4,b0,b1,b2,b3,b4,d0,d1,d2,d3,d4,Im.px,Pl.at_]
theorem zZR (w h:Int) (so:Bool) (c0 c1 c2 ca cf w0 h0 s0:Int) (n0:Nat) (xs0:List DV) (w1 h1 s1:Int) (n1:Nat) (xs1:List DV) (w2 h2 s2:Int) (n2:Nat) (xs2:List DV) (w3 h3 s3:Int) (n3:Nat) (xs3:List DV) (w4 h4 s4:Int) (n4:Nat) (xs4:List DV):Ans prog 153 [rA [dJ w,dJ h,dQ so,dK c0,dK c1,dK c2,dK ca,dK cf,dJ w0,dJ h0,dJ s0,dS n0 xs0,dJ w1,dJ h1,dJ s1,dS n1 xs1,dJ w2,dJ h2,dJ s2,dS n2 xs2,dJ w3,dJ h3,dJ s3,dS n3 xs3,dJ w4,dJ h4,dJ s4,dS n4 xs4]] (rJ ((Im.shape ⟨w,h,so,⟨c0,c1,c2,ca,cf⟩,⟨w0,h0,s0,n0,xs0⟩,⟨w1,h1,s1,n1,xs1⟩,⟨w2,h2,s2,n2,xs2⟩,⟨w3,h3,s3,n3,xs3⟩,⟨w4,h4,s4,n4,xs4⟩⟩))):=
 wc gamI aL Tryz.func153 (let c:=(⟨w4,h4,s4,n4,xs4⟩:Pl);let d:=(⟨w3,h3,s3,n3,xs3⟩:Pl);let e:=(⟨w2,h2,s2,n2,xs2⟩:Pl);let f:=(⟨w1,h1,s1,n1,xs1⟩:Pl);let g:=(⟨w0,h0,s0,n0,xs0⟩:Pl);let a:=Im.shape (kK w h so c0 c1 c2 ca cf g f e d c);let b:=Im.formed (kK w h so c0 c1 c2 ca cf g f e d c);bL (yD (aDA 83 w h) (zZs w h) (dB 6 a) (gW (zZs w h) (yE 208 (nM w h so c0 c1 c2 ca cf w0 h0 s0 n0 xs0 (dA w1 h1 s1 n1 xs1 w2 h2 s2 n2 xs2 (dA w3 h3 s3 n3 xs3 w4 h4 s4 n4 xs4 []))) b (yX b (dB 7 a)) (gW b (dB 0 a)))))) λhwf=>by
  delta eS aB gE dB aE uU bL gW pY yX yD yE sR dA kK aGQ aDA nM;simp only [sS,zQl,zQn,zQA,zQC,zQZ,zQ9];simp [Im.shape,Im.formed]; (repeat' (first | apply And.intro | intro))<;>(first | assumption | (simp_all; done) | grind)
def oU (a:Prop):Prop:=bF (True/\True/\True/\True/\a)
theorem jYp (w h c0 c1 c2 ca cf:Int):Ans prog 33 [rJ (w),rJ (h),rA [dK c0,dK c1,dK c2,dK ca,dK cf]] (rA (iD (zZl w h ⟨c0,c1,c2,ca,cf⟩))):=
 wc gamI aL Tryz.func33 (let a:=zZl w h ⟨c0,c1,c2,ca,cf⟩;let b:=a.p4;let c:=a.p3;let d:=a.p2;let e:=a.p1;let f:=a.p0;let g:=a.c;oU (nD (nM w h true c0 c1 c2 ca cf 0 0 0 0 [] (dA 0 0 0 0 [] 0 0 0 0 [] (dA 0 0 0 0 [] 0 0 0 0 [] []))) (nM a.w a.h a.so g.a g.b g.c g.al g.f f.w f.h f.s f.n f.xs (dA e.w e.h e.s e.n e.xs d.w d.h d.s d.n d.xs (dA c.w c.h c.s c.n c.xs b.w b.h b.s b.n b.xs []))))) λhwf=>by
  delta eS aB aE nD bF oU sR dA aGQ nM;simp only [sS,zQl,zQn,zQA,zQC,zQZ,zQ9,zZR];simp [zZl,Pl.none,Px.zero]
end
variable {w:World}
section
attribute [local go_sem] Oper.semAt_some
theorem jK8 {a b:Bool × List DV} {l:Array Value} (h:jJY w [a,b] l.toList):∃ x y,l=#[x,y]/\jVZ w a x/\jVZ w b y:=by
 obtain ⟨l⟩:=l
 match l,h with
 | [x,y],h=>exact ⟨x,y,rfl,h.1,h.2.1⟩
theorem jYg {v:Value} (h:jVZ w (true,[.int .i64 n]) v):∃ g,v=.pointer (some ⟨g,0,none⟩)/\w.cell? ⟨g,0,none⟩=some (.int .i64 n):=by
 obtain ⟨g,e,h⟩:=h;obtain ⟨u,hu,hc⟩:=h 0 _ rfl;simp [DV.plain] at hu;subst hu;exact ⟨g,e,hc⟩
theorem RoundIn.any {n:Nat} {P:Program} {l:Nat} {f:FuncId} {tmps:Array Value} {assign body:Code} {R:Ending->World->Prop} (h:RoundIn Fence.wide n P l f tmps assign body w R) (m:Nat):RoundIn Fence.wide m P l f tmps assign body w R:=
 ⟨h.1,λc cs _=>h.2 c cs (room_wide _)⟩
abbrev wXZ:=@Nat.add_comm
abbrev wXb:=@Nat.one_mul
set_option maxRecDepth 100000 in
set_option maxHeartbeats 2000000 in
theorem jKu (h w:Int) (hh:h<=16777216) (hw:w<=16777216):AnsI prog 209 [(true,[DV.int .i64 h]),(true,[DV.int .i64 w])] (w.toNat*h.toNat) (λk=>[DV.int .i64 ((k%w.toNat:Nat):Int),DV.int .i64 ((k / w.toNat:Nat):Int)]):=by
 intro lb l m J Jx hcap hd hdx hround W hJ;obtain ⟨a,b,rfl,ha,hb⟩:=jK8 (hcap 0 W hJ);obtain ⟨gh,rfl,hch⟩:=jYg ha;obtain ⟨gw,rfl,hcw⟩:=jYg hb;have hc:∀ k W,J k W->W.cell? ⟨gh,0,none⟩=some (.int .i64 h)/\W.cell? ⟨gw,0,none⟩=some (.int .i64 w):=λk W hk=>by
  obtain ⟨a,b,e,ha,hb⟩:=jK8 (hcap k W hk);obtain ⟨g1,rfl,h1⟩:=jYg ha;obtain ⟨g2,rfl,h2⟩:=jYg hb;simp at e;obtain ⟨rfl,rfl⟩:=e;exact ⟨h1,h2⟩
 refine callsIn_of_wp Tryz.func209 rfl trivial ?_ rfl;simp only [Tryz.ntmps209,wZr,wQu,wQQ,Nat.reduceAdd,Nat.reduceSub,Array.replicate_succ,Array.replicate_zero,List.push_toArray,List.append_toArray,List.nil_append,List.cons_append]
 gi_wp2
 gi_loopg [7] (h.toNat) (λg t7 wr=>∃ y:Nat,y<=h.toNat/\g=h.toNat-y/\t7=.int .i64 (y:Int)/\J (y*w.toNat) wr)
 case atStart=>exact ⟨0,by omega,by omega,rfl,by simpa using hJ⟩
 obtain ⟨y,hy,rfl,rfl,hJy⟩:=hrel;have hc1:=(hc _ _ hJy).1;have hc2:=(hc _ _ hJy).2;by_cases hlt:(y:Int)<h
 ·gi_wp2
  gi_loopg [11] (w.toNat) (λg t11 wr=>∃ x:Nat,x<=w.toNat/\g=w.toNat-x/\t11=.int .i64 (x:Int)/\J (y*w.toNat+x) wr)
  case atStart=>exact ⟨0,by omega,by omega,rfl,hJy⟩
  obtain ⟨x,hx,rfl,rfl,hJx⟩:=hrel;by_cases hlx:(x:Int)<w
  ·have hW:0<w.toNat:=by omega
   have hk:y*w.toNat+x<w.toNat*h.toNat:=by
    have h1:(y+1)*w.toNat<=h.toNat*w.toNat:=wQV _ (by omega);rw [wQD w.toNat,wQn] at *;omega
   have e1:(y*w.toNat+x)%w.toNat=x:=by rw [wXZ,Nat.add_mul_mod_self_right,wQR (by omega)]
   have e2:(y*w.toNat+x) / w.toNat=y:=by rw [wXZ,Nat.add_mul_div_right _ _ hW,wXM (by omega),Nat.zero_add]
   have hY:=hround _ _ hk hJx;simp only [e1,e2,jQT,wQg,wQm,DV.plain,wQG] at hY;obtain ⟨f1,t1,a1,b1,hy1,hR1⟩:=hY
   gi_wp2
   refine ⟨λh=>by (cases h),(RoundIn.any hR1 _).mono ?_⟩;rintro e W1 (⟨rfl,hJ1⟩ | ⟨rfl,hx1⟩)
   ·have w1:wrap .i64 ((x:Int)+1)=((x+1:Nat):Int):=by rw [wQb _ ⟨by omega,by omega⟩]; omega
    gi_wp2
    gi_roundg (w.toNat-(x+1))
    ·exact ⟨x+1,by omega,rfl,by simp,hJ1⟩
    ·omega
   ·gi_wp2
    refine bodyPost_ret (results_none rfl _ _ _) rfl ?_;exact ⟨⟨_,rfl⟩,.inr hx1⟩
  ·gi_wp2
   gi_roundg (h.toNat-(y+1))
   ·have hx':x=w.toNat:=by omega
    exact ⟨y+1,by omega,rfl,by simp,by rw [wQn,wXb]; rw [hx'] at hJx; exact hJx⟩
   ·omega
 ·have hy':y=h.toNat:=by omega
  gi_wp2
  go_end0
  exact ⟨⟨_,rfl⟩,.inl (by rw [wQD,<- hy']; exact hJy)⟩
end
section
attribute [local irreducible] Ans AnsO AnsG AnsN AnsI
def uN (a:Nat):Cap:=Cap.ptr a 0
def aHH (a:AV) (b c:wi) (d:List Bx) (e:Bool):Ret:=⟨a,Bx.cells b::Bx.cells c::d,e⟩
theorem zJm (w h:Int):AnsG prog 154 0 [aJ ((w)),aJ ((h))] [] ⟨aO (Cl.clo 209 [Cap.ptr 0 0,Cap.ptr 1 0]),[bC [cJ (h)],bC [cJ (w)]],false⟩:=
 wd gamI aL Tryz.func154 (True/\True/\mP (aW (rX (bW True)) (eS [aB h]) (eS [aB w])) (aHH (aO (Cl.clo 209 [uN 0,uN 1])) (mR h []) (mR w []) [] false)) λhwf hbx=>by
  delta eS aB mR bW aW mP rX uN aHH;simp only [sS,zQl,zQn,zQA,zQr,zQu,zQC,zQZ,zQ9,zZR];simp [zZd]
def aSS (a b c:Nat) (d:we):we:=dU 3 a b c d
def aAC (a b:Nat) (c:we):we:=aSS 3 a b c
def aNP (a b:Nat) (c:List Cap) (d:we):we:=aJU a (Cl.clo b c) d
def eW (a b c:Prop) (d:List DV) (e:Prop):Prop:=a/\b/\c/\eS d/\e
def xY (a:FuncId) (b:List DV) (c:Int) (e:Px):Prop:=Ans prog a (RV.agg b::jM c []) (RV.d (DV.bool (Px.ok e c)))
def gN (a:Int) (b:List AV):List AV:=bZ (aB a)::b
def yM (a:Nat) (b:Int) (c:List DV):List DV:=aB (a:Int)::aB b::c
theorem jQB (w h:Int) (so:Bool) (c0 c1 c2 ca cf w0 h0 s0:Int) (n0:Nat) (xs0:List DV) (w1 h1 s1:Int) (n1:Nat) (xs1:List DV) (w2 h2 s2:Int) (n2:Nat) (xs2:List DV) (w3 h3 s3:Int) (n3:Nat) (xs3:List DV) (w4 h4 s4:Int) (n4:Nat) (xs4:List DV) (most:Int) (hu:Im.isU ⟨w,h,so,⟨c0,c1,c2,ca,cf⟩,⟨w0,h0,s0,n0,xs0⟩,⟨w1,h1,s1,n1,xs1⟩,⟨w2,h2,s2,n2,xs2⟩,⟨w3,h3,s3,n3,xs3⟩,⟨w4,h4,s4,n4,xs4⟩⟩):Ans prog 76 [rA [dJ w,dJ h,dQ so,dK c0,dK c1,dK c2,dK ca,dK cf,dJ w0,dJ h0,dJ s0,dS n0 xs0,dJ w1,dJ h1,dJ s1,dS n1 xs1,dJ w2,dJ h2,dJ s2,dS n2 xs2,dJ w3,dJ h3,dJ s3,dS n3 xs3,dJ w4,dJ h4,dJ s4,dS n4 xs4],rD (dK most)] (rJ ((Im.valid ⟨w,h,so,⟨c0,c1,c2,ca,cf⟩,⟨w0,h0,s0,n0,xs0⟩,⟨w1,h1,s1,n1,xs1⟩,⟨w2,h2,s2,n2,xs2⟩,⟨w3,h3,s3,n3,xs3⟩,⟨w4,h4,s4,n4,xs4⟩⟩ most))):=
 wc gamI (pX (Ann.range (Inv.mk Nat (λ(a:Nat)=>dR a (aR w (Int.toNat h)) (Im.okTo (kK w h so c0 c1 c2 ca cf ⟨w0,h0,s0,n0,xs0⟩ ⟨w1,h1,s1,n1,xs1⟩ ⟨w2,h2,s2,n2,xs2⟩ ⟨w3,h3,s3,n3,xs3⟩ ⟨w4,h4,s4,n4,xs4⟩) most a=true)) (λ(d:Nat)=>aJM (fG 2 2 (aAC 4 4 (aNP 24 209 [uN 1024,uN 2024] []))) 2 (gL w h (DV.bool so) (aE c0) (fN c1 c2 ca cf (aAM w0 h0 s0 n0 xs0 (sU w1 h1 s1 n1 xs1 w2 h2 s2 n2 xs2 (sU w3 h3 s3 n3 xs3 w4 h4 s4 n4 xs4 []))))) 3 (bJ most []) 4 (aJA []) (pK 1024 (mR h []) 2024 (mR w []) [])) (λ(b:Nat)=>b)) [2,3,4,24] (λ(c:Nat)=>aL) (λ(c:Nat)=>aL))) Tryz.func76 (let c:=kK w h so c0 c1 c2 ca cf ⟨w0,h0,s0,n0,xs0⟩ ⟨w1,h1,s1,n1,xs1⟩ ⟨w2,h2,s2,n2,xs2⟩ ⟨w3,h3,s3,n3,xs3⟩ ⟨w4,h4,s4,n4,xs4⟩;let l:=Im.valid c most;let n:=dB 0 l;let b:=aR w (Int.toNat h);let o:=gA [aE most] [aB 0] [aB h] (eS [aB w]);let e:=nM w h so c0 c1 c2 ca cf w0 h0 s0 n0 xs0 (dA w1 h1 s1 n1 xs1 w2 h2 s2 n2 xs2 (dA w3 h3 s3 n3 xs3 w4 h4 s4 n4 xs4 []));let d:=Int.toNat w;let r:=dB 8 l;let s:=[(true,[aB h]),(true,[aB w])];let u:=(⟨c0,c1,c2,ca,cf⟩:Px);let v:=Px.ok u most;let g:=Im.shape c;oG (lE 153 e [] g) (bI (sZ g) (dB g l) (cS (dX g) (uW so (aFZ (xY 117 (bQ c0 c1 c2 ca cf) most u) v r (gW v n))) (so=false->True/\True/\True/\True/\tE 154 (gN w (gN h [])) (aHH (aO (Cl.clo 209 [uN 0,uN 1])) (mR h []) (mR w []) [] false)/\AnsI prog 209 s b (λ(m:Nat)=>yM (m%d) ((m/d:Nat):Int) [])/\(∀ k:Nat,let t:=yM (k%d) ((k/d:Nat):Int) [];k<b->List.length t=2/\zUz t)/\(∃ j:Nat,eW (dR j b (Im.okTo c most j=true)) (j=0) (bW (kE (bW True))) e o)/\(∀ a:Nat,let p:=a%d;let f:=Im.px c (p:Int) ((a/d:Nat):Int);let q:=Px.ok f most;dR a b (Im.okTo c most a=true)->eS (some s)/\eG (a<b) (aM (kV 155 e [rD (cI p),rD (cI (a/d))] f) (jH (xY 117 (aI f) most f) (eS true) (yX q r) (gC q->(∃ i:Nat,eW (dR i b (Im.okTo c most i=true)) (i=a+1) (bW (kE (bW True))) e o))))/\(a=b->cV n)))))) λhwf=>by
  delta eS aB aR gE bI dB aE aF bQ bZ aM tE mR bW gA uW cI aI cV cS kD jM eG kV oG kE dR eW dX gW lE gC yX aFZ xY sR dA kK aGQ nM jH gN yM sZ uN aHH;simp only [sS,zQl,zQn,zQA,zQr,zQu,zQC,zQZ,zQ9,zZR,zJm];obtain ⟨m,hm⟩:∃ m:Im,m=⟨w,h,so,⟨c0,c1,c2,ca,cf⟩,⟨w0,h0,s0,n0,xs0⟩,⟨w1,h1,s1,n1,xs1⟩,⟨w2,h2,s2,n2,xs2⟩,⟨w3,h3,s3,n3,xs3⟩,⟨w4,h4,s4,n4,xs4⟩⟩:=⟨_,rfl⟩
  have pix:=λ(x y:Int) (hf:Im.inner ⟨w,h,so,⟨c0,c1,c2,ca,cf⟩,⟨w0,h0,s0,n0,xs0⟩,⟨w1,h1,s1,n1,xs1⟩,⟨w2,h2,s2,n2,xs2⟩,⟨w3,h3,s3,n3,xs3⟩,⟨w4,h4,s4,n4,xs4⟩⟩=true) hx hy=>zVQ w h so c0 c1 c2 ca cf w0 h0 s0 n0 xs0 w1 h1 s1 n1 xs1 w2 h2 s2 n2 xs2 w3 h3 s3 n3 xs3 w4 h4 s4 n4 xs4 x y hu hf hx hy;have ew:w=m.w:=by rw [hm]
  have eh:h=m.h:=by rw [hm]
  have es:so=m.so:=by rw [hm]
  have ec:(⟨c0,c1,c2,ca,cf⟩:Px)=m.c:=by rw [hm]
  rw [<- hm] at pix hu;simp only [<- hm];refine ⟨λq1=>(Im.valid_shape _ (by simpa using q1)).symm,λq1=>?_⟩;have q1:m.shape=0:=by simpa using q1
  obtain ⟨qf,qi⟩:=Im.shape_zero q1;obtain ⟨f1,f2,f3,f4,f5⟩:=zX4 qf;refine ⟨λhs=>?_,λhs=>?_⟩
  ·rw [Im.valid_solid q1 (es ▸ hs),ec];cases m.c.ok most<;>simp
  ·rw [Im.valid_planes q1 (es ▸ hs),ew,eh];refine ⟨jKu m.h m.w f4 f3,jG5 qf,⟨0,⟨wQi _,rfl⟩,rfl⟩,λk hk=>⟨λhlt=>?_,λhe=>?_⟩⟩
   ·have hin:=Im.nth_in qf hlt;have hs1:=Im.okTo_succ m most k;have hle:=λhn=>Im.okTo_le (m:=m) (most:=most) (k:=k+1) (n:=m.w.toNat*m.h.toNat) (by omega) hn;rw [ew,eh] at pix;refine ⟨pix _ _ qi hin.1 hin.2,zQr _ _ _ _ _ _,λhb=>?_,λhb=>⟨k+1,⟨by omega,?_⟩,rfl⟩⟩
    ·have hb:(m.nth k).ok most=false:=hb;have:¬ m.okTo most (m.w.toNat*m.h.toNat)=true:=λhn=>by
      have:=hle hn;rw [hs1,hb] at this;simp at this
     rw [if_neg this]
    ·have hb:(m.nth k).ok most=true:=hb;rw [hs1,hk.2,hb]; rfl
   ·rw [<- he,if_pos hk.2]
def aDT (a b:Int) (d:Px) (e:List DV):List DV:=aE a::aE b::aE d.c::aE d.al::e
def vU (c:Px):List DV:=aDT c.a c.b c [aE c.f]
theorem jJm (w h:Int) (so:Bool) (c0 c1 c2 ca cf w0 h0 s0:Int) (n0:Nat) (xs0:List DV) (w1 h1 s1:Int) (n1:Nat) (xs1:List DV) (w2 h2 s2:Int) (n2:Nat) (xs2:List DV) (w3 h3 s3:Int) (n3:Nat) (xs3:List DV) (w4 h4 s4:Int) (n4:Nat) (xs4:List DV) (x y:Int) (hu:Im.isU ⟨w,h,so,⟨c0,c1,c2,ca,cf⟩,⟨w0,h0,s0,n0,xs0⟩,⟨w1,h1,s1,n1,xs1⟩,⟨w2,h2,s2,n2,xs2⟩,⟨w3,h3,s3,n3,xs3⟩,⟨w4,h4,s4,n4,xs4⟩⟩):Ans prog 215 [rA [dJ w,dJ h,dQ so,dK c0,dK c1,dK c2,dK ca,dK cf,dJ w0,dJ h0,dJ s0,dS n0 xs0,dJ w1,dJ h1,dJ s1,dS n1 xs1,dJ w2,dJ h2,dJ s2,dS n2 xs2,dJ w3,dJ h3,dJ s3,dS n3 xs3,dJ w4,dJ h4,dJ s4,dS n4 xs4],rJ (x),rJ (y)] (rA (pD (Im.at_ ⟨w,h,so,⟨c0,c1,c2,ca,cf⟩,⟨w0,h0,s0,n0,xs0⟩,⟨w1,h1,s1,n1,xs1⟩,⟨w2,h2,s2,n2,xs2⟩,⟨w3,h3,s3,n3,xs3⟩,⟨w4,h4,s4,n4,xs4⟩⟩ x y))):=
 wc gamI aL Tryz.func215 (let c:=(⟨w4,h4,s4,n4,xs4⟩:Pl);let d:=(⟨w3,h3,s3,n3,xs3⟩:Pl);let e:=(⟨w2,h2,s2,n2,xs2⟩:Pl);let f:=(⟨w1,h1,s1,n1,xs1⟩:Pl);let g:=(⟨w0,h0,s0,n0,xs0⟩:Pl);let i:=kK w h so c0 c1 c2 ca cf g f e d c;let j:=vU (Im.at_ i x y);let a:=nD dV j;let b:=Im.formed (kK w h so c0 c1 c2 ca cf g f e d c);let k:=Im.px i x y;let l:=nM w h so c0 c1 c2 ca cf w0 h0 s0 n0 xs0 (dA w1 h1 s1 n1 xs1 w2 h2 s2 n2 xs2 (dA w3 h3 s3 n3 xs3 w4 h4 s4 n4 xs4 []));bF (yE 208 l b (gW b (True/\True/\True/\eG (kR x) (aCZ x w (jF (kR y) (fI y h) a (mY y h (aM (kV 155 l (iF x y) k) (nD (aI k) j))) (eG (iG y 0) a)) (mE (decide (x>=w)) (True/\True/\True/\True/\a)))/\(iG x 0->cV (bL a)))) (lF b (aH a)))) λhwf=>by
  delta eS aB bI mY iG kR aE aH bQ aM nD mE aI cV kD eG dV kV bF bL iF gW lF fI pY jF aDT vU yE aCZ sR dA kK aGQ nM;simp only [sS,zQl,zQn,zQA,zQr,zQu,zQC,zQZ,zQ9,zZR,zJm];obtain ⟨m,hm⟩:∃ m:Im,m=⟨w,h,so,⟨c0,c1,c2,ca,cf⟩,⟨w0,h0,s0,n0,xs0⟩,⟨w1,h1,s1,n1,xs1⟩,⟨w2,h2,s2,n2,xs2⟩,⟨w3,h3,s3,n3,xs3⟩,⟨w4,h4,s4,n4,xs4⟩⟩:=⟨_,rfl⟩
  have pix:=λ(x y:Int) (hf:Im.inner ⟨w,h,so,⟨c0,c1,c2,ca,cf⟩,⟨w0,h0,s0,n0,xs0⟩,⟨w1,h1,s1,n1,xs1⟩,⟨w2,h2,s2,n2,xs2⟩,⟨w3,h3,s3,n3,xs3⟩,⟨w4,h4,s4,n4,xs4⟩⟩=true) hx hy=>zVQ w h so c0 c1 c2 ca cf w0 h0 s0 n0 xs0 w1 h1 s1 n1 xs1 w2 h2 s2 n2 xs2 w3 h3 s3 n3 xs3 w4 h4 s4 n4 xs4 x y hu hf hx hy;have ew:w=m.w:=by rw [hm]
  have eh:h=m.h:=by rw [hm]
  have es:so=m.so:=by rw [hm]
  have ec:(⟨c0,c1,c2,ca,cf⟩:Px)=m.c:=by rw [hm]
  rw [<- hm] at pix hu;simp only [<- hm];rw [ew,eh] at pix;rw [ew,eh];have out:(m.formed=false\/x<0\/m.w<=x\/y<0\/m.h<=y)->0=(m.at_ x y).a/\0=(m.at_ x y).b/\0=(m.at_ x y).c/\0=(m.at_ x y).al/\0=(m.at_ x y).f:=λh=>by rw [Im.at_out h]; exact ⟨rfl,rfl,rfl,rfl,rfl⟩
  refine ⟨λq1=>⟨λq2=>⟨λq3=>⟨λq4=>⟨λq5=>out (by omega),λq5=>?_⟩,λq4=>out (by omega)⟩,λq3=>out (by omega)⟩,λq2=>out (by omega)⟩,λq1=>out (.inl q1)⟩;rw [Im.at_in q1 ⟨by omega,by omega⟩ ⟨by omega,by omega⟩];exact ⟨pix _ _ (Im.formed_of q1).2 ⟨by omega,by omega⟩ ⟨by omega,by omega⟩,rfl,rfl,rfl,rfl,rfl⟩
theorem jZe (w h:Int) (so:Bool) (c0 c1 c2 ca cf w0 h0 s0:Int) (n0:Nat) (xs0:List DV) (w1 h1 s1:Int) (n1:Nat) (xs1:List DV) (w2 h2 s2:Int) (n2:Nat) (xs2:List DV) (w3 h3 s3:Int) (n3:Nat) (xs3:List DV) (w4 h4 s4:Int) (n4:Nat) (xs4:List DV) (x y:Int) (hu:Im.isU ⟨w,h,so,⟨c0,c1,c2,ca,cf⟩,⟨w0,h0,s0,n0,xs0⟩,⟨w1,h1,s1,n1,xs1⟩,⟨w2,h2,s2,n2,xs2⟩,⟨w3,h3,s3,n3,xs3⟩,⟨w4,h4,s4,n4,xs4⟩⟩):Ans prog 13 [rA [dJ w,dJ h,dQ so,dK c0,dK c1,dK c2,dK ca,dK cf,dJ w0,dJ h0,dJ s0,dS n0 xs0,dJ w1,dJ h1,dJ s1,dS n1 xs1,dJ w2,dJ h2,dJ s2,dS n2 xs2,dJ w3,dJ h3,dJ s3,dS n3 xs3,dJ w4,dJ h4,dJ s4,dS n4 xs4],rJ (x),rJ (y)] (rA (pD (Im.at_ ⟨w,h,so,⟨c0,c1,c2,ca,cf⟩,⟨w0,h0,s0,n0,xs0⟩,⟨w1,h1,s1,n1,xs1⟩,⟨w2,h2,s2,n2,xs2⟩,⟨w3,h3,s3,n3,xs3⟩,⟨w4,h4,s4,n4,xs4⟩⟩ x y))):=
 wc gamI aL Tryz.func13 (let c:=(⟨w4,h4,s4,n4,xs4⟩:Pl);let d:=(⟨w3,h3,s3,n3,xs3⟩:Pl);let e:=(⟨w2,h2,s2,n2,xs2⟩:Pl);let f:=(⟨w1,h1,s1,n1,xs1⟩:Pl);let g:=(⟨w0,h0,s0,n0,xs0⟩:Pl);let i:=kK w h so c0 c1 c2 ca cf g f e d c;let j:=Im.at_ i x y;let a:=qN dV j;let b:=Im.formed (kK w h so c0 c1 c2 ca cf g f e d c);let k:=Im.px i x y;let l:=nM w h so c0 c1 c2 ca cf w0 h0 s0 n0 xs0 (dA w1 h1 s1 n1 xs1 w2 h2 s2 n2 xs2 (dA w3 h3 s3 n3 xs3 w4 h4 s4 n4 xs4 []));bF (yE 42 l b (gW b (True/\True/\True/\eG (kR x) (aCZ x w (jF (kR y) (fI y h) a (mY y h (aM (kV 43 l (iF x y) k) (qN (aI k) j))) (eG (iG y 0) a)) (mE (decide (x>=w)) (True/\True/\True/\True/\a)))/\(iG x 0->cV (bL a)))) (lF b (aH a)))) λhwf=>by
  delta eS aB bI mY iG kR aE aH bQ aM nD mE aI qN cV kD eG dV kV bF bL iF gW lF fI pY jF yE aCZ sR dA kK aGQ nM;simp only [sS,zQl,zQn,zQA,zQr,zQu,zQC,zQZ,zQ9,zZR,zJm];obtain ⟨m,hm⟩:∃ m:Im,m=⟨w,h,so,⟨c0,c1,c2,ca,cf⟩,⟨w0,h0,s0,n0,xs0⟩,⟨w1,h1,s1,n1,xs1⟩,⟨w2,h2,s2,n2,xs2⟩,⟨w3,h3,s3,n3,xs3⟩,⟨w4,h4,s4,n4,xs4⟩⟩:=⟨_,rfl⟩
  have pix:=λ(x y:Int) (hf:Im.inner ⟨w,h,so,⟨c0,c1,c2,ca,cf⟩,⟨w0,h0,s0,n0,xs0⟩,⟨w1,h1,s1,n1,xs1⟩,⟨w2,h2,s2,n2,xs2⟩,⟨w3,h3,s3,n3,xs3⟩,⟨w4,h4,s4,n4,xs4⟩⟩=true) hx hy=>jYo w h so c0 c1 c2 ca cf w0 h0 s0 n0 xs0 w1 h1 s1 n1 xs1 w2 h2 s2 n2 xs2 w3 h3 s3 n3 xs3 w4 h4 s4 n4 xs4 x y hu hf hx hy;have ew:w=m.w:=by rw [hm]
  have eh:h=m.h:=by rw [hm]
  have es:so=m.so:=by rw [hm]
  have ec:(⟨c0,c1,c2,ca,cf⟩:Px)=m.c:=by rw [hm]
  rw [<- hm] at pix hu;simp only [<- hm];rw [ew,eh] at pix;rw [ew,eh];have out:(m.formed=false\/x<0\/m.w<=x\/y<0\/m.h<=y)->0=(m.at_ x y).a/\0=(m.at_ x y).b/\0=(m.at_ x y).c/\0=(m.at_ x y).al/\0=(m.at_ x y).f:=λh=>by rw [Im.at_out h]; exact ⟨rfl,rfl,rfl,rfl,rfl⟩
  refine ⟨λq1=>⟨λq2=>⟨λq3=>⟨λq4=>⟨λq5=>out (by omega),λq5=>?_⟩,λq4=>out (by omega)⟩,λq3=>out (by omega)⟩,λq2=>out (by omega)⟩,λq1=>out (.inl q1)⟩;rw [Im.at_in q1 ⟨by omega,by omega⟩ ⟨by omega,by omega⟩];exact ⟨pix _ _ (Im.formed_of q1).2 ⟨by omega,by omega⟩ ⟨by omega,by omega⟩,rfl,rfl,rfl,rfl,rfl⟩
def oI (a:wi):wi:=Cl.nil::a
def aLT (a b c:Nat) (d:List DV) (e f:Nat) (g:List DV) (h:wg):wg:=aND a b c d e f 1 g h
def aFA (a b c:Nat) (d:List DV) (e:Nat) (f:List DV) (g:wg):wg:=aLT a b c d 7000 e f g
def aSJ (a:Nat) (b:we):we:=aMH 8 a b
def lI (a:we):we:=aSJ 8 a
def bT (a:List DV) (b:Px->Int) (c:Nat):List DV:=zXz (zQk a) b c
def aNZ (a b:Int) (c:wi):wi:=mR a (aX (aB b) (aB a) c)
def aNS (a:we) (b:Nat) (c:wi) (d:Nat) (e:wi) (f:wg):Snap:=lY a b (pJ c) d e f
def aSD (a:we) (b:Nat) (c:DV) (d:Int) (e:wi) (f:Nat) (g:wi) (h:wg):Snap:=aNS a b (aX c (aE d) e) f g h
def aSE (a:we) (b:Nat) (c:Bool) (d:Int) (e:wi) (f:Nat) (g:wi) (h:wg):Snap:=aSD a b (DV.bool c) d e f g h
def aSF (a:we) (b:Nat) (c:Bool) (d:wi) (e:Nat) (f:wi) (g:wg):Snap:=aSE a b c 0 d e f g
def aSG (a:we) (b:Nat) (c:Bool) (d:wi) (e:Nat) (f:wi) (g:wg):Snap:=aSF a b c (iV (cP d)) e f g
def aNB (a:we) (b:Nat) (c:Bool) (d:DV) (e:Int) (f:wi) (g:Nat) (h:wi) (i:wg):Snap:=aSG a b c (aX d (aB e) f) g h i
def aGJ (a:we) (b:Nat) (c:Bool) (d:DV) (e:Int) (f:wi) (g:Nat) (h i:Int) (j:Bool) (k:wi) (l:wg):Snap:=aNB a b c d e f g (gL h i (DV.bool j) d k) l
def aSN (a:Nat) (b:Int) (c:we) (d:Nat) (e:Bool) (f:DV) (g:Int) (h:wi) (i:Nat) (j:Int) (k:Bool) (l:wi) (m:wg):Snap:=aGJ (nZ a b c) d e f g h i b j k l m
def aMY (a:Nat) (b:Int) (c d:Nat) (e:List DV) (f:we):we:=aIK a b c d e (lI f)
def aSP (a:Nat) (b:Int) (c:we) (d:Nat) (e:Bool) (f:DV) (g:wi) (h:Nat) (i:Int) (j:Bool) (k:wi) (l:wg):Snap:=aSN a b c d e f 0 g h i j k l
def aSQ (a:Nat) (b:Int) (c:we) (d:Nat) (e:Bool) (f:DV) (g:wi) (h:Nat) (i:Int) (j:Bool) (k:wi) (l:wg):Snap:=aSP a b c d e f (pJ g) h i j k l
def aKW (a:Nat) (b:Int) (c:we) (d:Nat) (e:Bool) (f:DV) (g:wi) (h:Nat) (i:Int) (j:Bool) (k:wi) (l:wg):Snap:=aSQ a b c d e f g h i j (iV (cP k)) l
def aSR (a:Nat) (b:Int) (c:we) (d:Nat) (e:Bool) (f:DV) (g:wi) (h:Nat) (i:Int) (j:Bool) (k:DV) (l:wi) (m:wg):Snap:=aKW a b c d e f g h i j (aX k (aB b) l) m
def aOR (a:Nat) (b:Int) (c:we) (d:Nat) (e:Bool) (f:DV) (g:wi) (h:Nat) (i:Int) (j:Bool) (k:DV) (l:wi) (m:wg):Snap:=aSR a b c d e f g h i j k (aX (aB i) (aB b) l) m
def aOS (a:Nat) (b:Int) (c:we) (d:Nat) (e:Bool) (f:DV) (g:wi) (h:Nat) (i:Int) (j:Bool) (k:DV) (l:wi) (m:wg):Snap:=aOR a b c d e f (oI g) h i j k l m
def aOT (a:Nat) (b:Int) (c:we) (d:Nat) (e:Bool) (f:DV) (g:wi) (h:Nat) (i:Int) (j:Bool) (k:DV) (l:wi) (m:wg):Snap:=aOS a b c d e f (tG g) h i j k l m
def aOU (a:Nat) (b:Int) (c:we) (d:Nat) (e:Bool) (f:DV) (g:wi) (h:Nat) (i:Int) (j:Bool) (k:DV) (l:wi) (m:wg):Snap:=aOT a b c d e f (oI g) h i j k l m
def aOV (a:Nat) (b:Int) (c:we) (d:Nat) (e:Bool) (f:DV) (g:wi) (h:Nat) (i:Int) (j:Bool) (k:DV) (l:wi) (m:wg):Snap:=aOU a b c d e f (tG g) h i j k l m
def aOW (a:Nat) (b:Int) (c:we) (d:Nat) (e:Bool) (f:DV) (g:wi) (h:Nat) (i:Int) (j:Bool) (k:DV) (l:wi) (m:wg):Snap:=aOV a b c d e f (oI g) h i j k l m
def aOX (a:Nat) (b:Int) (c:we) (d:Nat) (e:Bool) (f:DV) (g:wi) (h:Nat) (i:Int) (j:Bool) (k:DV) (l:wi) (m:wg):Snap:=aOW a b c d e f (tG g) h i j k l m
def aOY (a:Nat) (b:Int) (c:we) (d:Nat) (e:Bool) (f:DV) (g:wi) (h:Nat) (i:Int) (j:Bool) (k:DV) (l:wi) (m:wg):Snap:=aOX a b c d e f (oI g) h i j k l m
def aOZ (a:Nat) (b:Int) (c:we) (d:Nat) (e:Bool) (f:DV) (g:wi) (h:Nat) (i:Int) (j:Bool) (k:DV) (l:wi) (m:wg):Snap:=aOY a b c d e f (tG g) h i j k l m
def aPC (a:Nat) (b:Int) (c:we) (d:Nat) (e:Bool) (f:DV) (g:wi) (h:Nat) (i:Int) (j:Bool) (k:DV) (l:wi) (m:wg):Snap:=aOZ a b c d e f (oI g) h i j k l m
def aGE (a:wi):wi:=tG (oI a)
def aMO (a:Nat) (b:Int) (c d:Nat) (e:List DV) (f:Nat) (g:Int):we:=aMY a b c d e (lK f g)
def aPE (a:Nat) (b:Int) (c:we) (d:Nat) (e:DV) (f:wi) (g:Nat) (h:Int) (i:Bool) (j:DV) (k:wi) (l:wg):Snap:=aPC a b c d false e f g h i j k l
def aPF (a:Nat) (b:Int) (c:we) (d:Nat) (e:wi) (f:Nat) (g:Int) (h:Bool) (i:DV) (j:wi) (k:wg):Snap:=aPE a b c d gF e f g h i j k
def aPG (a:Nat) (b:Int) (c:we) (d:Nat) (e:wi) (f:Nat) (g:Int) (h:DV) (i:wi) (j:wg):Snap:=aPF a b c d e f g false h i j
def aNX (a:Nat) (b:Int) (c:we) (d:Nat) (e:wi) (f:Nat) (g:Int) (h:wi) (i:wg):Snap:=aPG a b c d e f g gF h i
def aQX (a:Nat) (b:Int) (c:Nat) (d:Int) (e f:Nat) (g:List DV) (h:Nat) (i:Int) (j:Nat) (k:wi) (l:Nat) (m:wi) (n:wg):Snap:=aNX a b (aMO c d e f g h i) j k l d m n
def aGF (a:wi):wi:=aGE (aGE a)
def aNO (a b:Nat) (c:List DV) (d:Px->Int) (e f g:Nat) (h:List DV):wg:=aEY a b (bT c d e) f b g h
def aGI (a b:Nat) (c:List DV) (d:Px->Int) (e f g:Nat) (h:Px->Int):wg:=aNO a b c d e f g (bT c h e)
def aGG (a:Int) (b:Nat) (c:Int) (d e:Nat) (f:List DV) (g:Nat) (h:Int) (i:Nat) (j:wi) (k:Nat) (l:wi) (m:wg):Snap:=aQX 0 a b c d e f g h i j k l m
def aDQ (a b:Ann):Ann:=cU (Ann.seq a b)
def aMR (a b c:Nat) (d:we):we:=zF a b (c:Int) d
def aMT (a:Nat) (b:Int) (c d:Nat) (e:List DV) (f g h:Nat):we:=aIK a b c d e (rQ f d g h)
def aKC (a b:Nat) (c:wi):wi:=Cl.ref a (Int.toNat (b:Int))::c
def aLR (a b:Int) (c d:Nat) (e:wi):wi:=aNZ a b (aKC c d e)
def aLS (a b:Int) (c d e:Nat) (f:wi):wi:=aLR a b c d (aLR a b e d f)
def aJQ (a b c d:Nat) (e:Int) (f:Nat) (g:List DV) (h i j:Nat):we:=aMR a b c (aMT d e f c g h i j)
def aRG (a:Nat) (b:Int) (c:Nat) (d:Int) (e f:Nat) (g:List DV) (h:we) (i:Nat) (j:wi) (k:Nat) (l:wi) (m:wg):Snap:=aNX a b (aMY c d e f g h) i j k d l m
def aJR (a:Int) (b:Nat) (c:Int) (d e:Nat) (f:List DV) (g:Nat) (h:Int) (i:Nat) (j:wi) (k l:Nat) (m:wi) (n:wg):Snap:=aGG a b c d e f g h i j k (aKC l e m) n
def aLQ (a:Nat) (b:Int) (c:Nat) (d:Int) (e f:Nat) (g:List DV) (h:we) (i:Nat) (j:wi) (k l:Nat) (m:wi) (n:wg):Snap:=aRG a b c d e f g h i j k (aKC l f m) n
def aZ (a b:Int):Prop:=aB a=aB b
def oM (a b:Int) (c:Prop):Prop:=dE (aB a) (eS (aB b)) c
def tJ (a:Prop):Prop:=aAJ (aB 0) a
def qQ (a:DV) (b:Prop):Prop:=eS (0:Nat)/\eS a/\b
def xL (a b c d:Prop):Prop:=True/\aF a b c d
def aFX (a:Prop):Prop:=oX 1 1 3 a
def jO (a b:Prop):Prop:=True/\True/\True/\True/\aM a b
def rF (a:List DV) (b:Px->Int) (c d:Nat):List DV:=List.set (bT a b c) (aV c 1) (fD a d)
def cO (a:Int):Prop:=aZ 0 a
def nN (a b:Int) (c:Nat) (d:List DV) (e:Prop):Prop:=lZ a (aB b) (eS (DV.sl c d)) (eS (0:Nat)) e
def tZ (a:Int) (b:Nat):Prop:=Int.toNat a=b
def tY (a b:Int) (c:Nat) (d e:Prop):Prop:=lZ a (aB b) (eS c) d e
def sQ (a b c:Int) (d:DV) (e:Prop):Prop:=oM a b (eS (Int.toNat c)/\eS d/\e)
def rH (a b:Prop):Prop:=eS (aE 0)/\aAJ gF (dE (aE 0) a b)
def nO (a:Prop):Prop:=tJ (True/\jD/\a)
def sP (a b:Int) (c:Prop):Prop:=lZ a (aB b) (eS (DV.bool false)) (eS gF) c
def vY (a:Pl):Prop:=([]:List DV)=a.xs
def wI (a:Int) (b:List DV) (c:Px->Int) (d:Nat):Prop:=aET a gF (bT b c d)
def vX (a:Int):Prop:=gF=aE a
def wJ (a:Nat) (b:List DV) (c:Px->Int):Prop:=jB (iP a 1) (bT b c a)
def mT (a:List DV) (b:Nat):Prop:=cM a (cB b)
def aDZ (a:Nat):Nat:=Int.toNat (a:Int)
def aEA (a b:Nat):Prop:=uX (a:Int) (b:Int)
def aEB (a:DV) (b:Nat) (c:List DV) (d:Prop):Prop:=fV a (DV.sl b c) (eS (cI b)) d
def aII (a:Int) (b:Nat) (c:Prop):Prop:=dE (aB a) (eS (Int.toNat (b:Int))) c
def aBG (a b:Int) (c:Nat) (d:List DV) (e:Int) (f:Prop):Prop:=nN a b c d (bM (aII e c (aEB (aB e) c d f)))
def uM (a:List DV) (b:Nat):Prop:=fT (bY a (aV b 5)) (bY a (aV b 5+1)) (cM a (aV b 5)) (cM a (iP b 5)) (mT a (aV b 5))
theorem jJl (w h:Int) (n:Nat) (xs:List DV) (hx:jJX n xs):AnsG prog 38 0 [aJ ((w)),aJ ((h)),aO (cD (dS n xs))] [] ⟨AV.tup [AV.agg [cJ (((imOf w h (zQk xs)).w)),cJ (((imOf w h (zQk xs)).h)),cD (dQ ((imOf w h (zQk xs)).so)),cK (((imOf w h (zQk xs)).c.a)),cK (((imOf w h (zQk xs)).c.b)),cK (((imOf w h (zQk xs)).c.c)),cK (((imOf w h (zQk xs)).c.al)),cK (((imOf w h (zQk xs)).c.f)),cJ (((imOf w h (zQk xs)).p0.w)),cJ (((imOf w h (zQk xs)).p0.h)),cJ (((imOf w h (zQk xs)).p0.s)),Cl.ref 0 ((imOf w h (zQk xs)).p0.n),cJ (((imOf w h (zQk xs)).p1.w)),cJ (((imOf w h (zQk xs)).p1.h)),cJ (((imOf w h (zQk xs)).p1.s)),Cl.ref 1 ((imOf w h (zQk xs)).p1.n),cJ (((imOf w h (zQk xs)).p2.w)),cJ (((imOf w h (zQk xs)).p2.h)),cJ (((imOf w h (zQk xs)).p2.s)),Cl.ref 2 ((imOf w h (zQk xs)).p2.n),cJ (((imOf w h (zQk xs)).p3.w)),cJ (((imOf w h (zQk xs)).p3.h)),cJ (((imOf w h (zQk xs)).p3.s)),Cl.ref 3 ((imOf w h (zQk xs)).p3.n),cJ (((imOf w h (zQk xs)).p4.w)),cJ (((imOf w h (zQk xs)).p4.h)),cJ (((imOf w h (zQk xs)).p4.s)),Cl.ref 4 ((imOf w h (zQk xs)).p4.n)],aO (cD (dQ (ofOk w h n)))],[bR 34 1 ((imOf w h (zQk xs)).p0.xs),bR 34 1 ((imOf w h (zQk xs)).p1.xs),bR 34 1 ((imOf w h (zQk xs)).p2.xs),bR 34 1 ((imOf w h (zQk xs)).p3.xs),bR 34 1 ((imOf w h (zQk xs)).p4.xs)],true⟩:=
 wd gamI (let c:=bT xs Px.b n;let a:=bT xs Px.a n;let l:=aGI 7002 34 xs Px.c n 7003 1 Px.al;let m:=aLR w h 7001 n (aLS w h 7002 n 7003 (aGE []));let b:=aMX true;let o:=aGI 7001 34 xs Px.b n 7002 1 Px.c;let p:=aLS w h 7001 n 7002 (aGF []);let q:=aGI 7000 34 xs Px.a n 7001 1 Px.b;let r:=aLR w h 7001 n (aGE (aGF []));let d:=aGF (aGF []);let e:=oI d;let s:=aX gF (aB 0) (pJ e);pX (ui True (aKW 0 w (aMO 1 h 2 n xs 29 0) 6 false gF e 8 h false s []) (aDQ b (tN (jL (um (λu=>let x:=u<=n;x) (λk=>aKW 0 w (aMY 1 h 2 n xs (nZ 9 0 (aJQ 10 7000 n 29 0 35 xs 36 37 k))) 6 false gF e 8 h false s (pQ 7000 34 1 (bT xs Px.a k))) (λt=>let v:=n-t;v) (λC=>aL))))) (ui True (aJR w 1 h 2 n xs 29 1 6 [] 8 7000 d (pQ 7000 34 1 a)) (aDQ b (tN (jL (um (λu=>let x:=u<=n;x) (λj=>aLQ 0 w 1 h 2 n xs (nZ 9 1 (aJQ 10 7001 n 29 1 35 xs 36 37 j)) 6 [] 8 7000 d (aNO 7001 34 xs Px.b j 7000 1 a)) (λt=>let v:=n-t;v) (λC=>aL))))) (ui True (aJR w 1 h 2 n xs 29 2 6 [] 8 7000 r q) (aDQ b (tN (jL (um (λu=>let x:=u<=n;x) (λi=>aLQ 0 w 1 h 2 n xs (nZ 9 2 (aJQ 10 7002 n 29 2 35 xs 36 37 i)) 6 [] 8 7000 r (kA 7002 34 1 (bT xs Px.c i) q)) (λt=>let v:=n-t;v) (λC=>aL))))) (ui True (aJR w 1 h 2 n xs 29 3 6 [] 8 7000 p (kA 7000 34 1 a o)) (aDQ b (tN (jL (um (λu=>let x:=u<=n;x) (λg=>aLQ 0 w 1 h 2 n xs (nZ 9 3 (aJQ 10 7003 n 29 3 35 xs 36 37 g)) 6 [] 8 7000 p (aFA 7003 34 1 (bT xs Px.al g) 34 a o)) (λt=>let v:=n-t;v) (λC=>aL))))) (ui True (aJR w 1 h 2 n xs 29 4 6 [] 8 7000 m (aLT 7000 34 1 a 7001 34 c l)) (aDQ b (tN (jL (um (λu=>let x:=u<=n;x) (λf=>aLQ 0 w 1 h 2 n xs (nZ 9 4 (aJQ 10 7004 n 29 4 35 xs 36 37 f)) 6 [] 8 7000 m (aFA 7004 34 1 (bT xs Px.f f) 34 a (kA 7001 34 1 c l))) (λt=>let v:=n-t;v) (λC=>aL))))) (ui True (aJR w 1 h 2 n xs 29 5 6 [] 8 7000 (aLS w h 7001 n 7002 (aLS w h 7003 n 7004 [])) (kA 7000 34 1 a (aLT 7001 34 1 c 7002 34 (bT xs Px.c n) (aGI 7003 34 xs Px.al n 7004 1 Px.f)))) yU aL))))))) Tryz.func38 (let g:=imOf w h (zQk xs);let K:=ofOk w h n;let T:=(⟨AV.tup [imV 0 g,mZ K],imB 34 g,true⟩:Ret);let o:=g.p4;let p:=g.p3;let q:=g.p2;let r:=g.p1;let s:=g.p0;let U:=o.n;let V:=o.s;let W:=o.h;let X:=o.w;let Y:=p.n;let Z:=p.s;let z0:=p.h;let z1:=p.w;let z2:=q.n;let z3:=q.s;let z4:=q.h;let z5:=q.w;let z6:=r.n;let z7:=r.s;let z8:=r.h;let z9:=r.w;let y0:=s.n;let y1:=s.s;let y2:=s.h;let y3:=s.w;let u:=g.c;let y4:=vX u.f;let y5:=vX u.al;let y6:=vX u.c;let y7:=vX u.b;let y8:=vX u.a;let y9:=kC false g.so;let x0:=g.h;let x1:=g.w;let x2:=mP (cF (aGK (bV (cO x1) (cO x0) y9 y8 y7 y6 y5 y4 (bV (cO y3) (cO y2) (cO y1) (0=y0) (cO z9) (cO z8) (cO z7) (0=z6) (bV (cO z5) (cO z4) (cO z3) (0=z2) (cO z1) (cO z0) (cO Z) (0=Y) (aF (cO X) (cO W) (cO V) (0=U))))) (kC false K)) (vY s) (vY r) (vY q) (vY p) (vY o)) T;let i:=(n:Int);let v:=bT xs Px.c n;let k:=bT xs Px.b n;let j:=bT xs Px.a n;let t:=aDZ n;let l:=aB w;let D:=aB 0;let L:=pR 0 (iR D True);let M:=nO (nO L);let x3:=nO (nO M);let x4:=dE (DV.bool false) (eS gF) (rH jD x3);let a:=tJ x4;let x5:=gA j k v (eS (bT xs Px.al n));let m:=(n:Int);let E:=eS l;let O:=sP w h (rH E (sQ h w m l (sQ h w m l (sQ h w m l (tY h w t jD L)))));let x:=pM i 2;let P:=sP w h (rH E (sQ h w m l (sQ h w m l (tY h w t jD (nO L)))));let x6:=tJ x4;let Q:=sP w h (rH E (sQ h w m l (tY h w t jD M)));let R:=sP w h (rH E (tY h w t jD (nO M)));let S:=sP w h (rH jD x3);pS (aDA 83 w h) (aDD (zZs w h) (fQ (rG m (aT (w*h))) x2 (aGL m (aT (w*h)) (True/\True/\True/\True/\aDC (∃ w8:Unit,aF True (nN w h n xs (kE jD)) a S) (∀ w7:Unit,True->qK (gD 0) x (True/\True/\True/\(∃ J:Nat,fT (J<=n) (nN w h n xs (bM (aII 0 n (aEB D n xs (dF J))))) a S (wI i xs Px.a J))/\(∀ f:Nat,yW (f<=n) (dP f n->zD (cX f n 5 xs) (uM xs f) (xR (pP 3/\True/\True/\qM 3/\nE (aHG 0 0 5 (some (fD xs (aV f 5)))) (cR (aEA f n) (wJ f xs Px.a) (∃ C:Nat,cF (C<=n) (dM n C f) (nN w h n xs (qQ D (eS t/\aEB D n xs (bS f C)))) a S (rF xs Px.a f (aV f 5)=bT xs Px.a C)))))) f n (bL (mQ 0 (∃ w6:Unit,xL (nN w h n xs (eZ 0 1)) a R (bT xs Px.a f=bT xs Px.a n))))))) (∀ w5:Unit,lM (gI (gD 1) (True/\True/\True/\x/\oG (∃ I:Nat,cF (I<=n) (aBG w h n xs 1 (dF I)) a R (wI i xs Px.b I) (eS j)) (∀ e:Nat,yW (e<=n) (dP e n->zD (cX e n 5 xs) (uM xs e) (xR (pP 3/\True/\True/\qM 3/\nE (aHG 1 1 5 (some (fD xs (iP e 5)))) (cR (aEA e n) (wJ e xs Px.b) (∃ B:Nat,dR B n (cF (dM n B e) (aBG w h n xs 1 (bS e B)) a R (rF xs Px.b e (iP e 5)=bT xs Px.b B) (eS j))))))) e n (bL (mQ 1 (∃ w4:Unit,True/\nN w h n xs (eZ 1 2)/\nH a Q j (bT xs Px.b e) k))))))) (∀ w3:Unit,True->qK (gD 2) x (True/\True/\True/\(∃ H:Nat,fP (H<=n) (aBG w h n xs 2 (dF H)) a (nW Q (wI i xs Px.c H) j k))/\(∀ d:Nat,yW (d<=n) (dP d n->zD (cX d n 5 xs) (uM xs d) (xR (pP 3/\True/\True/\qM 3/\nE (aHG 2 2 5 (some (fD xs (cB (aV d 5))))) (cR (aEA d n) (wJ d xs Px.c) (∃ A:Nat,A<=n/\dM n A d/\aBG w h n xs 2 (bS d A)/\a/\nW Q (rF xs Px.c d (cB (aV d 5))=bT xs Px.c A) j k))))) d n (bL (mQ 2 (∃ w2:Unit,True/\nN w h n xs (eZ 2 3)/\a/\aF P (eS j) (eS k) (bT xs Px.c d=bT xs Px.c n))))))) (∀ w1:Unit,True->qK (gD 3) x (True/\True/\True/\(∃ G:Nat,G<=n/\aBG w h n xs 3 (dF G)/\x6/\P/\uJ (wI i xs Px.al G) j k v)/\(∀ c:Nat,bP (c<=n) (dP c n->True/\cR (cX c n 5 xs) (uM xs c) (True/\True/\True/\True/\jX 3/\True/\True/\pP 3/\True/\True/\qM 3/\nE (aHG 3 3 5 (some (fD xs (pW c 5)))) (cR (aEA c n) (wJ c xs Px.al) (∃ z:Nat,dR z n (dM n z c/\aBG w h n xs 3 (bS c z)/\x6/\P/\uJ (rF xs Px.al c (pW c 5)=bT xs Px.al z) j k v))))) (iQ c n->eU (True/\True/\True/\True/\True/\mQ 3 (∃ w0:Unit,True/\nN w h n xs (eZ 3 4)/\a/\O/\gA j k v (bT xs Px.al c=bT xs Px.al n))))))) (∀ x9:Unit,True->qK (gD 4) x (True/\True/\True/\(∃ F:Nat,dR F n (aBG w h n xs 4 (dF F)/\a/\O/\wI i xs Px.f F/\x5))/\(∀ b:Nat,yW (b<=n) (bP (dP b n) (cX b n 5 xs) (uM xs b/\jO (jX 3) (aFX (aCP (True/\True/\True/\True/\aHG 4 4 5 (some (fD xs (bG (aV b 5))))/\aEA b n/\wJ b xs Px.f/\True/\True/\(∃ y:Nat,fP (y<=n) (dM n y b) (aBG w h n xs 4 (bS b y)) (fP a O (rF xs Px.f b (bG (aV b 5))=bT xs Px.f y) x5))))))) b n (bL (mQ 4 (∃ x8:Unit,True/\eW (nN w h n xs (eZ 4 5)) a (sP w h (aAJ gF (aAJ gF (oM w h (aII w n (oM w h (aII w n (oM w h (aII w n (oM w h (aII w n (oM w h (iR l (eS t)))))))))))))) j (gA k v (bT xs Px.al n) (bT xs Px.f b=bT xs Px.f n)))))))) (∀ x7:Unit,bP True aDB (mP (cF (aGK (fP (aZ w x1) (aZ h x0) y9 (y8/\y7/\y6/\y5/\y4/\bV (aZ w y3) (aZ h y2) (aZ w y1) (tZ i y0) (aZ w z9) (aZ h z8) (aZ w z7) (tZ i z6) (bV (aZ w z5) (aZ h z4) (aZ w z3) (tZ i z2) (aZ w z1) (aZ h z0) (aZ w Z) (tZ i Y) (aF (aZ w X) (aZ h W) (aZ w V) (tZ i U))))) (kC true K)) (bT xs Px.a n=s.xs) (bT xs Px.b n=r.xs) (bT xs Px.c n=q.xs) (bT xs Px.al n=p.xs) (bT xs Px.f n=o.xs)) T)))))) (lF (zZs w h) x2)) λhwf hbx=>by
  delta eS aB aR dY aE aT aF fD bZ aM aY oE uU fT mZ jX gF dE pV aN lZ bM cR gA nE qK zD cI aW mO aV jB mE bS bP fV iP fQ uX aET dF pM bV gI pP qM pR cX dP iQ pS oG nH eU cB bG aZ pU bL iR oM kE fP aAJ dR eW dM kC jD uJ tJ pW qQ xL lF gC oX vL xR aCP qI aFX eZ jO nW aDD aDA bT rF bY cF cO mP gD nN tZ lM tY rG sQ mQ aGK rH nO sP vY wI vX aDC aDB wJ aGL cM mT aDZ aEA aEB aHG aII yW aBG uM;simp only [sS,zQl,zQn,zQA,zQr,zQu,zQC,zQZ,zQ9,zZR];obtain ⟨l,rfl,rfl⟩:=hx.of;simp only [zZO,imV,imB,zZd,AV.flatV,AV.flatVL,Cl.flatV,jZ8,Bx.flatVL,Bx.flatV,jZ2,true_and,and_true];simp only [DV.flat,true_and,and_true];have no:∀ {P:Prop},(imOf w h l=Im.zero->ofOk w h l.length=false->P)->(ofOk w h l.length=false)->P:=λf h=>f (jQD h) h;have le:=@zX4 w h;refine ⟨λq1=>⟨λq2=>?_,λq2=>?_⟩,λq1=>?_⟩
  ·obtain ⟨f1,f2,f3,f4,f5⟩:=le q1;have wm:wrap .i64 (w*h)=w*h:=wQb _ ⟨by have:=Int.mul_nonneg (a:=w) (b:=h) (by omega) (by omega); omega,by omega⟩;refine no (λe1 e2=>?_) (by rw [wm] at q2; simp [ofOk,q1]; simpa using q2);rw [e1,e2]; simp [Im.zero,Px.zero,Pl.none]
  ·obtain ⟨f1,f2,f3,f4,f5⟩:=le q1;have wm:wrap .i64 (w*h)=w*h:=wQb _ ⟨by have:=Int.mul_nonneg (a:=w) (b:=h) (by omega) (by omega); omega,by omega⟩;have hl:(l.length:Int)=w*h:=by rw [wm] at q2; simpa using q2
   have hk:ofOk w h l.length=true:=by simp [ofOk,q1,hl]
   have hb:l.length<=16777216:=by omega
   rw [hk,zW4 hk];simp only [ofIm,Px.zero,maxLen]
   (repeat' (first | apply And.intro | intro))<;>(first | assumption | rfl | omega | (exact ⟨0,by omega,rfl,(zYk _ _).symm⟩) | exact jVr (by omega) | exact zKf (j:=1) (by omega) (by omega) | exact zKf (j:=2) (by omega) (by omega) | exact zKf (j:=3) (by omega) (by omega) | exact zKf (j:=4) (by omega) (by omega) | (rw [zQw]; omega) | (rw [zWq (by assumption)]; omega) | exact zWJ (by assumption) (by assumption) (λh=>(zQU h).1) | exact zWJ (by assumption) (by assumption) (λh=>(zQU h).2.1) | exact zWJ (by assumption) (by assumption) (λh=>(zQU h).2.2.1) | exact zWJ (by assumption) (by assumption) (λh=>(zQU h).2.2.2.1) | exact zWJ (by assumption) (by assumption) (λh=>(zQU h).2.2.2.2) | exact ⟨(),by decide,jGX (by assumption) (by assumption)⟩ | exact ⟨(),trivial⟩ | exact ⟨(),by decide⟩ | exact zWr _ _ | (rw [jGX (by assumption) (by assumption)]; exact zWr _ _) | exact jUx (by assumption) (by assumption) (λh=>(zQU h).1) (λh=>(zQU h).2.1) (λh=>(zQU h).2.2.1) (λh=>(zQU h).2.2.2.1) (λh=>(zQU h).2.2.2.2) | (rw [zWq (by omega)]; omega) | decide)
  ·refine no (λe1 e2=>?_) (by simp [ofOk,q1]);rw [e1,e2]; simp [Im.zero,Px.zero,Pl.none]
def aSA (a b c d:Nat) (e:DV) (f:wg):wg:=kA a b c (List.replicate d e) f
def aIW (a b c:Nat) (d:Int) (e:DV) (f:wg):wg:=aSA a b c (Int.toNat d) e f
def aRI (a b c:Nat) (d:Int) (e:DV) (f:Nat) (g:wg):wg:=aIW a b c d e (aIW f b c d e g)
def aOA (a:Nat) (b:Int) (c:wi):wi:=Cl.ref a (Int.toNat (aT b))::c
def aPQ (a b:Int) (c:Nat) (d:Int) (e:wi):wi:=aNZ a b (aOA c d e)
def aKX (a b:Int) (c:Nat) (d:wi):wi:=aPQ a b c (a*b) d
def aKY (a b:Int) (c d:Nat) (e:wi):wi:=aKX a b c (aKX a b d e)
def aIX (a b:Nat) (c:List DV) (d:wg):wg:=kA 200039 a b c d
def aIV (a:Int) (b:wi):wi:=aOA 200039 a b
def aGH (a b c:Nat) (d e:Int) (f:DV) (g:Nat) (h:wg):wg:=aRI a b c (aT (d*e)) f g h
def aRP (a b:Nat) (c:List DV) (d:Nat) (e:List DV) (f:wg):wg:=aLT 300039 a b c d a e f
def aKZ (a b:Nat) (c d:List DV) (e:wg):wg:=aRP a b c 400039 d e
def aBP (a b:Int):Nat:=Int.toNat (aT (a*b))
def aAF (a b c:Prop):Prop:=pS a b (True/\True/\True/\True/\c)
def wD (a:Nat) (b:List DV) (c:Prop):Prop:=dE (DV.sl a b) (eS (0:Nat)) c
def aLA (a b:Int) (c:Prop):Prop:=oM a b (dE (aB a) (eS (Int.toNat (aT (a*b)))) c)
theorem jZd (w h:Int) (n:Nat) (xs:List DV) (hx:jJX n xs):AnsG prog 74 0 [aJ ((w)),aJ ((h)),aO (cD (dS n xs))] [] ⟨AV.tup [AV.agg [cJ (((imOf w h (zQk xs)).w)),cJ (((imOf w h (zQk xs)).h)),cD (dQ ((imOf w h (zQk xs)).so)),cK (((imOf w h (zQk xs)).c.a)),cK (((imOf w h (zQk xs)).c.b)),cK (((imOf w h (zQk xs)).c.c)),cK (((imOf w h (zQk xs)).c.al)),cK (((imOf w h (zQk xs)).c.f)),cJ (((imOf w h (zQk xs)).p0.w)),cJ (((imOf w h (zQk xs)).p0.h)),cJ (((imOf w h (zQk xs)).p0.s)),Cl.ref 0 ((imOf w h (zQk xs)).p0.n),cJ (((imOf w h (zQk xs)).p1.w)),cJ (((imOf w h (zQk xs)).p1.h)),cJ (((imOf w h (zQk xs)).p1.s)),Cl.ref 1 ((imOf w h (zQk xs)).p1.n),cJ (((imOf w h (zQk xs)).p2.w)),cJ (((imOf w h (zQk xs)).p2.h)),cJ (((imOf w h (zQk xs)).p2.s)),Cl.ref 2 ((imOf w h (zQk xs)).p2.n),cJ (((imOf w h (zQk xs)).p3.w)),cJ (((imOf w h (zQk xs)).p3.h)),cJ (((imOf w h (zQk xs)).p3.s)),Cl.ref 3 ((imOf w h (zQk xs)).p3.n),cJ (((imOf w h (zQk xs)).p4.w)),cJ (((imOf w h (zQk xs)).p4.h)),cJ (((imOf w h (zQk xs)).p4.s)),Cl.ref 4 ((imOf w h (zQk xs)).p4.n)],aO (cD (dQ (ofOk w h n)))],[bR 34 1 ((imOf w h (zQk xs)).p0.xs),bR 34 1 ((imOf w h (zQk xs)).p1.xs),bR 34 1 ((imOf w h (zQk xs)).p2.xs),bR 34 1 ((imOf w h (zQk xs)).p3.xs),bR 34 1 ((imOf w h (zQk xs)).p4.xs)],true⟩:=
 wd gamI (let d:=w*h;let k:=aIV d (aKY w h 300039 400039 (aKY w h 500039 600039 []));let e:=iV (cP (aX gF (aB w) (aX (aB h) (aB w) k)));let l:=aGF (aGF []);let b:=pJ (oI l);let q:=aAD true;let i:=aT (w*h);xH (aQ (cU (ui True (aKW 0 w (aMO 1 h 2 n xs 9 0) 6 false gF (oI l) 8 h false (aX gF (aB 0) b) []) q (ui True (aGG w 1 h 2 n xs 9 1 6 [] 8 (aIV d l) (aIW 200039 34 1 i gF [])) q (ui True (aGG w 1 h 2 n xs 9 2 6 [] 8 (aIV d (aKX w h 300039 (aGE (aGF [])))) (aGH 200039 34 1 w h gF 300039 [])) q (ui True (aGG w 1 h 2 n xs 9 3 6 [] 8 (aIV d (aKY w h 300039 400039 (aGF []))) (aIW 200039 34 1 i gF (aGH 300039 34 1 w h gF 400039 []))) q (ui True (aGG w 1 h 2 n xs 9 4 6 [] 8 (aIV d (aKX w h 300039 (aKY w h 400039 500039 (aGE [])))) (aGH 200039 34 1 w h gF 300039 (aGH 400039 34 1 w h gF 500039 []))) q (ui True (aGG w 1 h 2 n xs 9 5 6 [] 8 k (aGH 200039 34 1 w h gF 300039 (aIW 400039 34 1 i gF (aGH 500039 34 1 w h gF 600039 [])))) sO aL))))))) (zM (um (λp=>p<=n) (λc=>aGJ (rZ 2 n xs (lI (pL 10 c []))) 6 false gF 0 b 8 w h false e (aIX 34 1 (bT xs Px.a c) (aKZ 34 1 (bT xs Px.b c) (bT xs Px.c c) (aGI 500039 34 xs Px.al c 600039 1 Px.f)))) (λo=>n-o) (λa=>let f:=aGI 500039 34 xs Px.al a 600039 1 Px.f;let j:=rF xs Px.b a (aV a 5+0+1);let g:=rF xs Px.a a (aV a 5+0+0);let m:=aKZ 34 1 (bT xs Px.b a) (bT xs Px.c a) f;aFE (zM (ui True (aGJ (rZ 2 n xs (lI (aAI 10 a 11 (aB 0) []))) 6 false gF 0 b 8 w h false e (aIX 34 1 (bT xs Px.a a) m)) q (ui True (aGJ (rZ 2 n xs (lI (aAI 10 a 11 (aB 1) []))) 6 false gF 0 b 8 w h false e (aIX 34 1 g m)) q (ui True (aGJ (rZ 2 n xs (lI (aAI 10 a 11 (aB 2) []))) 6 false gF 0 b 8 w h false e (aIX 34 1 g (aKZ 34 1 j (bT xs Px.c a) f))) q (ui True (aGJ (rZ 2 n xs (lI (aAI 10 a 11 (aB 3) []))) 6 false gF 0 b 8 w h false e (aIX 34 1 g (aKZ 34 1 j (rF xs Px.c a (aV a 5+0+2)) f))) sO aL)))))))))) Tryz.func74 (let d:=imOf w h (zQk xs);let B:=ofOk w h n;let I:=(⟨AV.tup [imV 0 d,mZ B],imB 34 d,true⟩:Ret);let k:=d.p4;let l:=d.p3;let m:=d.p2;let o:=d.p1;let p:=d.p0;let J:=k.n;let K:=k.s;let L:=k.h;let M:=k.w;let O:=l.n;let P:=l.s;let Q:=l.h;let R:=l.w;let S:=m.n;let T:=m.s;let U:=m.h;let V:=m.w;let W:=o.n;let X:=o.s;let Y:=o.h;let Z:=o.w;let z0:=p.n;let z1:=p.s;let z2:=p.h;let z3:=p.w;let s:=d.c;let z4:=vX s.f;let z5:=vX s.al;let z6:=vX s.c;let z7:=vX s.b;let z8:=vX s.a;let z9:=kC false d.so;let y0:=d.h;let y1:=d.w;let y2:=mP (cF (aGK (cO y1/\cO y0/\z9/\z8/\bV z7 z6 z5 z4 (cO z3) (cO z2) (cO z1) (0=z0) (bV (cO Z) (cO Y) (cO X) (0=W) (cO V) (cO U) (cO T) (0=S) (aCI (cO R) (cO Q) (cO P) (0=O) (cO M) (cO L) (cO K) (0=J)))) (kC false B)) (vY p) (vY o) (vY m) (vY l) (vY k)) I;let b:=aT (w*h);let i:=aBP w h;let f:=aB w;let j:=sP w h (aAJ gF (aAJ gF (aLA w h (aLA w h (aLA w h (aLA w h (oM w h (iR f (eS i)))))))));let D:=pR 0 (iR (aB 0) True);let E:=nO (nO D);let y4:=nO (nO E);let c:=tJ (dE (DV.bool false) (eS gF) (rH jD y4));let y6:=List.replicate i gF;let r:=eS y6;let H:=r/\r/\True;let z:=List.replicate i gF;let v:=pM b 2;let A:=eS f;pS (aDA 86 w h) (aDD (zZs w h) (fQ (rG (n:Int) b) y2 (aGL (n:Int) b (True/\True/\True/\True/\aDC (∃ w6:Unit,aF True (nN w h n xs (kE jD)) c (sP w h (rH jD y4))) (∀ w5:Unit,vZ 0 (aAF v (jX 5) (∃ w4:Unit,True/\aF (nN w h n xs (eZ 0 1)) c (sP w h (rH A (tY h w i jD (nO E)))) (eS y6)))) (∀ w3:Unit,vZ 1 (aAF v (pP 5) (∃ w2:Unit,True/\eW (nN w h n xs (eZ 1 2)) c (sP w h (rH A (sQ h w b f (tY h w i jD E)))) z (r/\True)))) (∀ w1:Unit,vZ 2 (aAF v (qM 5) (∃ w0:Unit,True/\eW (nN w h n xs (eZ 2 3)) c (sP w h (rH A (sQ h w b f (sQ h w b f (tY h w i jD (nO D)))))) z H))) (∀ x9:Unit,vZ 3 (aAF v (oE 3 3 5) (∃ x8:Unit,True/\eW (nN w h n xs (eZ 3 4)) c (sP w h (rH A (sQ h w b f (sQ h w b f (sQ h w b f (tY h w i jD D)))))) z (r/\H)))) (∀ x7:Unit,vZ 4 (aAF v (oE 4 4 5) (∃ x6:Unit,True/\eW (nN w h n xs (eZ 4 5)) c j z (r/\r/\H)))) (∀ x5:Unit,lM (True/\aDB/\True/\(∃ g:Nat,dR g n (aCI (wD n xs (kE (dF g))) c j (wI b xs Px.a g) (wI b xs Px.b g) (wI b xs Px.c g) (wI b xs Px.al g) (wI b xs Px.f g)))/\(∀ a:Nat,let q:=aV a 5;let x:=q+0;let y3:=rF xs Px.c a (x+2);let C:=rF xs Px.b a (q+0+1);let y:=rF xs Px.a a (x+0);let t:=uX (a:Int) b;let u:=cX a n 5 xs;let F:=eS (bT xs Px.f a);let G:=bT xs Px.al a;let y5:=gA (bT xs Px.b a) (bT xs Px.c a) G F;a<=n->cV (True/\True/\True/\bP (dP a n) (∃ x4:Unit,True/\eW (wD n xs (jE (mJ a) jD)) c j (bT xs Px.a a) y5) (aF (∀ x3:Unit,True->eU (vP/\True/\True/\jX 5/\jO u (jX 3/\(bY xs (x+0)/\True)/\t/\wJ a xs Px.a/\iB (∃ x2:Unit,True/\eW (wD n xs (jE (mJ a) (qI 0 1))) c j y y5)))) (∀ x1:Unit,True->eU (vQ/\True/\True/\pP 5/\jO u (pP 3/\(bY xs (q+0+1)/\True)/\t/\wJ a xs Px.b/\iB (∃ x0:Unit,True/\eW (wD n xs (jE (mJ a) (qI 1 2))) c j y (gA C (bT xs Px.c a) G F))))) (∀ y9:Unit,True->eU (vR/\True/\True/\qM 5/\jO u (qM 3/\(bY xs (x+2)/\True)/\t/\wJ a xs Px.c/\iB (∃ y8:Unit,True/\eW (wD n xs (jE (mJ a) (qI 2 3))) c j y (gA C y3 G F))))) (∀ y7:Unit,lM (True/\vT/\True/\oE 3 3 5/\True/\True/\True/\True/\mQ 4 (aM u (aAK (bY xs (q+3)) u (True/\(bY xs (q+4)/\True)/\t/\wJ a xs Px.al/\t/\wJ a xs Px.f/\iB (∃ e:Nat,e<=n/\dM n e a/\aCI (wD n xs (kE (bS a e))) c j (y=bT xs Px.a e) (C=bT xs Px.b e) (y3=bT xs Px.c e) (rF xs Px.al a (q+3)=bT xs Px.al e) (rF xs Px.f a (q+4)=bT xs Px.f e))))))))/\(iQ a n->mP (cF (aGK (bV (aZ w y1) (aZ h y0) z9 z8 z7 z6 z5 z4 (bV (aZ w z3) (aZ h z2) (aZ w z1) (tZ b z0) (aZ w Z) (aZ h Y) (aZ w X) (tZ b W) (bV (aZ w V) (aZ h U) (aZ w T) (tZ b S) (aZ w R) (aZ h Q) (aZ w P) (tZ b O) (aF (aZ w M) (aZ h L) (aZ w K) (tZ b J))))) (kC true B)) (bT xs Px.a a=p.xs) (bT xs Px.b a=o.xs) (bT xs Px.c a=m.xs) (bT xs Px.al a=l.xs) (bT xs Px.f a=k.xs)) I))))))))) (lF (zZs w h) y2)) λhwf hbx=>by
  delta eS aB aR aE aT aF fD bZ aM oE uU mZ jX aBP gF dE pV aN lZ gA cI aW mO aV jB mE bS bP iP fQ uX aET dF iB pM bV pP qM cV pR cX dP iQ pS eU aZ pU iR oM kE aAJ dR eW dM kC jD tJ mJ aCI lF jE gC qI vP vR vQ vT eZ aAF jO aDD aDA bT rF bY cF cO mP gD nN tZ lM tY wD rG sQ mQ aGK rH nO vZ sP vY wI vX aAK aDC aDB aLA wJ aGL;simp only [sS,zQl,zQn,zQA,zQr,zQu,zQC,zQZ,zQ9,zZR];obtain ⟨l,rfl,rfl⟩:=hx.of;simp only [zZO,imV,imB,zZd,AV.flatV,AV.flatVL,Cl.flatV,jZ8,Bx.flatVL,Bx.flatV,jZ2,true_and,and_true];simp only [DV.flat,true_and,and_true];have no:∀ {P:Prop},(imOf w h l=Im.zero->ofOk w h l.length=false->P)->(ofOk w h l.length=false)->P:=λf h=>f (jQD h) h;have le:=@zX4 w h;refine ⟨λq1=>⟨λq2=>?_,λq2=>?_⟩,λq1=>?_⟩
  ·obtain ⟨f1,f2,f3,f4,f5⟩:=le q1;have wm:wrap .i64 (w*h)=w*h:=wQb _ ⟨by have:=Int.mul_nonneg (a:=w) (b:=h) (by omega) (by omega); omega,by omega⟩;refine no (λe1 e2=>?_) (by rw [wm] at q2; simp [ofOk,q1]; simpa using q2);rw [e1,e2]; simp [Im.zero,Px.zero,Pl.none]
  ·obtain ⟨f1,f2,f3,f4,f5⟩:=le q1;have wm:wrap .i64 (w*h)=w*h:=wQb _ ⟨by have:=Int.mul_nonneg (a:=w) (b:=h) (by omega) (by omega); omega,by omega⟩;have hl:(l.length:Int)=w*h:=by rw [wm] at q2; simpa using q2
   have hk:ofOk w h l.length=true:=by simp [ofOk,q1,hl]
   have hb:l.length<=16777216:=by omega
   rw [hk,zW4 hk];simp only [ofIm,Px.zero,maxLen,wm];simp only [<- hl,wQl,Nat.add_zero]
   (repeat' (first | apply And.intro | intro))<;>(first | (exact ⟨0,by omega,rfl,(zYk _ _).symm,(zYk _ _).symm,(zYk _ _).symm,(zYk _ _).symm,(zYk _ _).symm⟩) | (first | assumption | rfl | omega | (exact ⟨0,by omega,rfl,(zYk _ _).symm⟩) | exact jVr (by omega) | exact zKf (j:=1) (by omega) (by omega) | exact zKf (j:=2) (by omega) (by omega) | exact zKf (j:=3) (by omega) (by omega) | exact zKf (j:=4) (by omega) (by omega) | (rw [zQw]; omega) | (rw [zWq (by assumption)]; omega) | exact zWJ (by assumption) (by assumption) (λh=>(zQU h).1) | exact zWJ (by assumption) (by assumption) (λh=>(zQU h).2.1) | exact zWJ (by assumption) (by assumption) (λh=>(zQU h).2.2.1) | exact zWJ (by assumption) (by assumption) (λh=>(zQU h).2.2.2.1) | exact zWJ (by assumption) (by assumption) (λh=>(zQU h).2.2.2.2) | exact ⟨(),by decide,jGX (by assumption) (by assumption)⟩ | exact ⟨(),trivial⟩ | exact ⟨(),by decide⟩ | exact zWr _ _ | (rw [jGX (by assumption) (by assumption)]; exact zWr _ _) | exact jUx (by assumption) (by assumption) (λh=>(zQU h).1) (λh=>(zQU h).2.1) (λh=>(zQU h).2.2.1) (λh=>(zQU h).2.2.2.1) (λh=>(zQU h).2.2.2.2) | (rw [zWq (by omega)]; omega) | decide))
  ·refine no (λe1 e2=>?_) (by simp [ofOk,q1]);rw [e1,e2]; simp [Im.zero,Px.zero,Pl.none]
def pxR (p:Px):RV:=RV.agg [DV.int .u16 p.a,DV.int .u16 p.b,DV.int .u16 p.c,DV.int .u16 p.al,DV.int .u16 p.f]
theorem jQC (m:Im) (x y:Int) (hu:m.isU):Ans prog 215 [imR m,RV.d (DV.int .i64 x),RV.d (DV.int .i64 y)] (pxR (m.at_ x y)):=jJm ((m).w) ((m).h) ((m).so) (((m).c).a) (((m).c).b) (((m).c).c) (((m).c).al) (((m).c).f) (((m).p0).w) (((m).p0).h) (((m).p0).s) (((m).p0).n) (((m).p0).xs) (((m).p1).w) (((m).p1).h) (((m).p1).s) (((m).p1).n) (((m).p1).xs) (((m).p2).w) (((m).p2).h) (((m).p2).s) (((m).p2).n) (((m).p2).xs) (((m).p3).w) (((m).p3).h) (((m).p3).s) (((m).p3).n) (((m).p3).xs) (((m).p4).w) (((m).p4).h) (((m).p4).s) (((m).p4).n) (((m).p4).xs) x y hu
theorem zY7 (m:Im) (x y:Int) (hu:m.isU):Ans prog 13 [imR m,RV.d (DV.int .i64 x),RV.d (DV.int .i64 y)] (pxR (m.at_ x y)):=jZe ((m).w) ((m).h) ((m).so) (((m).c).a) (((m).c).b) (((m).c).c) (((m).c).al) (((m).c).f) (((m).p0).w) (((m).p0).h) (((m).p0).s) (((m).p0).n) (((m).p0).xs) (((m).p1).w) (((m).p1).h) (((m).p1).s) (((m).p1).n) (((m).p1).xs) (((m).p2).w) (((m).p2).h) (((m).p2).s) (((m).p2).n) (((m).p2).xs) (((m).p3).w) (((m).p3).h) (((m).p3).s) (((m).p3).n) (((m).p3).xs) (((m).p4).w) (((m).p4).h) (((m).p4).s) (((m).p4).n) (((m).p4).xs) x y hu
theorem jZo (m:Im) (most:Int) (hu:m.isU):Ans prog 76 [imR m,RV.d (DV.int .u16 most)] (RV.d (DV.int .i64 (m.valid most))):=jQB ((m).w) ((m).h) ((m).so) (((m).c).a) (((m).c).b) (((m).c).c) (((m).c).al) (((m).c).f) (((m).p0).w) (((m).p0).h) (((m).p0).s) (((m).p0).n) (((m).p0).xs) (((m).p1).w) (((m).p1).h) (((m).p1).s) (((m).p1).n) (((m).p1).xs) (((m).p2).w) (((m).p2).h) (((m).p2).s) (((m).p2).n) (((m).p2).xs) (((m).p3).w) (((m).p3).h) (((m).p3).s) (((m).p3).n) (((m).p3).xs) (((m).p4).w) (((m).p4).h) (((m).p4).s) (((m).p4).n) (((m).p4).xs) most hu
theorem jKH (w h:Int) (n:Nat) (xs:List DV) (hx:jJX n xs):AnsG prog 38 0 [AV.one (Cl.d (DV.int .i64 w)),AV.one (Cl.d (DV.int .i64 h)),AV.one (Cl.d (DV.sl n xs))] [] ⟨AV.tup [imV 0 (imOf w h (zQk xs)),AV.one (Cl.d (DV.bool (ofOk w h n)))],imB 34 (imOf w h (zQk xs)),true⟩:=jJl w h n xs hx
theorem zWS (w h:Int) (n:Nat) (xs:List DV) (hx:jJX n xs):AnsG prog 74 0 [AV.one (Cl.d (DV.int .i64 w)),AV.one (Cl.d (DV.int .i64 h)),AV.one (Cl.d (DV.sl n xs))] [] ⟨AV.tup [imV 0 (imOf w h (zQk xs)),AV.one (Cl.d (DV.bool (ofOk w h n)))],imB 34 (imOf w h (zQk xs)),true⟩:=jZd w h n xs hx
theorem zV5 (w h:Int) (c:Px):Ans prog 33 [RV.d (DV.int .i64 w),RV.d (DV.int .i64 h),pxR c] (imR (zZl w h c)):=jYp w h c.a c.b c.c c.al c.f
def yZy:Gam:=yQL.add []
def nY (a:FuncId) (b c:DV) (e:List RV) (f:RV):Prop:=Ans prog a (RV.d b::RV.d c::e) f
def uQ (a:Int) (b:Nat) (c:List DV) (d e:Int) (f:Nat):Int:=nAt (pxs (zQs a b c d (Int.toNat (aT e)))) f
def uR (a:Int) (b:Nat) (c:List DV) (d e:Int) (f:Nat):Prop:=aEV a b c d (Int.toNat (aT e)) f f
def aBQ (a b:Prop):Prop:=True/\True/\True/\a/\aH b
def aEQ (a b:Prop):Prop:=True/\True/\True/\True/\aY a b
theorem jJ0 (pw ph so mood:Int) (L:Nat) (xs:List DV) (x0 y0 x1 y1 most:Int) (hx:Is5 L xs) (hc:1<=x1-x0/\x1-x0<=100/\1<=y1-y0/\y1-y0<=100):Ans prog 32 [rA [dJ pw,dJ ph,dJ so,dJ mood,dS L xs],rA [dJ x0,dJ y0,dJ x1,dJ y1],rD (dK most)] (rA (iD (zJO pw ph so mood L xs x0 y0 x1 y1 most))):=
 wc yZy aL Tryz.func32 (let g:=imR (zJO pw ph so mood L xs x0 y0 x1 y1 most);let c:=aT (1+modS ph 4);let d:=aT (1+modS pw 5);let h:=aBP d c;let i:=pxs (zQs mood L xs most h);let j:=imOf d c (zQk i);let n:=aB (aT (1+modS ph 4));let o:=aB (aT (1+modS pw 5));let a:=d*c;let p:=uQ mood L xs most a 4;let q:=uQ mood L xs most a 3;let r:=uQ mood L xs most a 2;let s:=uQ mood L xs most a 1;let t:=uQ mood L xs most a 0;let u:=imR (zZl d c ⟨t,s,r,q,p⟩);let v:=rA (aB mood::uP L xs);let e:=bU y1 y0;let f:=bU x1 x0;let k:=aBP f e;let l:=pxs (zQs mood L xs most k);let m:=imOf f e (zQk l);let b:=f*e;let w:=uQ mood L xs most b 4;let x:=uQ mood L xs most b 3;let y:=uQ mood L xs most b 2;let z:=uQ mood L xs most b 1;let A:=uQ mood L xs most b 0;let B:=imR (zZl f e ⟨A,z,y,x,w⟩);aEQ (kS pw 5) (aY (kS ph 4) (aY (eS true) ((5:Int)≠0/\xG pw 5 (aB 3) 5 3/\True/\dC (modS (kT pw 5) 3) 0 (aH (cQ (eS true) (aY (AnsO prog 73 [v,rD (aB (aT b)),rD (aE most)] 37 5 k l) (aBR (kS so 2) (rY so 2) (True/\True/\jX k/\fT (uR mood L xs most b 0) (uR mood L xs most b 1) (uR mood L xs most b 2) (uR mood L xs most b 3) (uR mood L xs most b 4)/\nY 33 (dZ x1 x0) (dZ y1 y0) [rA (bQ A z y x w)] B/\True/\B=g) (aBQ (tE 74 [bZ (dZ x1 x0),bZ (dZ y1 y0),bZ (aEP (aT (f*e)) l)] ⟨AV.tup [imV 0 m,mZ (ofOk f e (aBP f e))],imB 34 m,true⟩) (imR m=g))))))/\(rY (kT pw 5) 3=false->True/\aEQ (AnsO prog 73 [v,rD (aB (aT a)),rD (aE most)] 37 5 h i) (aBR (kS so 2) (rY so 2) (True/\True/\jX h/\fT (uR mood L xs most a 0) (uR mood L xs most a 1) (uR mood L xs most a 2) (uR mood L xs most a 3) (uR mood L xs most a 4)/\nY 33 o n [rA (bQ t s r q p)] u/\True/\u=g) (aBQ (tE 74 [bZ o,bZ n,bZ (aEP (aT (d*c)) i)] ⟨AV.tup [imV 0 j,mZ (ofOk d c (aBP d c))],imB 34 j,true⟩) (imR j=g)))))))) λhwf=>by
  delta eS aB gE aE aT aF fD aH bQ bZ aM aY oE bU cQ bK uU dC fT mZ kT aBV dZ jX kS nY aEV aEP rY aMJ aKQ aBR uQ uR uP xG aBP tE aBQ aEQ;simp only [sS,zQl];have go:∀ W H:Int,(1<=W/\W<=100)->(1<=H/\H<=100)->0<(wrap .i64 (W*H)).toNat/\wrap .i64 (W*H)<=16777216:=λW H a b=>by have:=jYu a b; omega
  have b5:=@zZH pw 5 (by omega) (by omega);have b4:=@zZH ph 4 (by omega) (by omega);refine ⟨by omega,λq1=>?_,λq1=>?_⟩
  ·have hW:zJw pw 5 x0 x1 pw=wrap .i64 (x1-x0):=by unfold zJw; rw [if_pos (by simpa using q1)]
   have hH:zJw ph 4 y0 y1 pw=wrap .i64 (y1-y0):=by unfold zJw; rw [if_pos (by simpa using q1)]
   have gi:=zUQ pw ph so mood L xs x0 y0 x1 y1 most _ _ hW hH;have cW:1<=wrap .i64 (x1-x0)/\wrap .i64 (x1-x0)<=100:=by rw [wQb _ ⟨by omega,by omega⟩]; omega
   have cH:1<=wrap .i64 (y1-y0)/\wrap .i64 (y1-y0)<=100:=by rw [wQb _ ⟨by omega,by omega⟩]; omega
   generalize wrap .i64 (x1-x0)=W at *;generalize wrap .i64 (y1-y0)=H at *;obtain ⟨g1,g2⟩:=go W H cW cH;have pn:=zG9 mood L xs (wrap .i64 (W*H)) most hx g2;refine ⟨pn,λq2=>?_,λq2=>?_⟩
   ·have hs:modS so 2=0:=by simpa using q2
    rw [if_pos hs] at gi;obtain ⟨v0,v1,v2,v3,v4⟩:=zGY (mood:=mood) (L:=L) (xs:=xs) (most:=most) g1;have f0:=zVo (mood:=mood) (L:=L) (xs:=xs) (most:=most) g1 0 (by omega);have f1:=zVo (mood:=mood) (L:=L) (xs:=xs) (most:=most) g1 1 (by omega);have f2:=zVo (mood:=mood) (L:=L) (xs:=xs) (most:=most) g1 2 (by omega);have f3:=zVo (mood:=mood) (L:=L) (xs:=xs) (most:=most) g1 3 (by omega);have f4:=zVo (mood:=mood) (L:=L) (xs:=xs) (most:=most) g1 4 (by omega);have g3:0<wrap .i64 (W*H):=by omega
    rw [gi];simp only [v0,v1,v2,v3,v4] at f0 f1 f2 f3 f4 |-;exact ⟨⟨by omega,by omega⟩,⟨f0,f1,f2,f3,f4⟩,zV5 W H ⟨_,_,_,_,_⟩,trivial⟩
   ·have hs:¬ modS so 2=0:=by simpa using q2
    rw [if_neg hs] at gi;rw [gi];have po:=zWS W H _ (pxs (zQs mood L xs most (wrap .i64 (W*H)).toNat)) (jZ4 _ _ _ _ rfl);simp only [zZO] at po |-;exact ⟨po,trivial⟩
  ·have hW:zJw pw 5 x0 x1 pw=wrap .i64 (1+modS pw 5):=by unfold zJw; rw [if_neg (by simpa using q1)]
   have hH:zJw ph 4 y0 y1 pw=wrap .i64 (1+modS ph 4):=by unfold zJw; rw [if_neg (by simpa using q1)]
   have gi:=zUQ pw ph so mood L xs x0 y0 x1 y1 most _ _ hW hH;have cW:1<=wrap .i64 (1+modS pw 5)/\wrap .i64 (1+modS pw 5)<=100:=by rw [wQb _ ⟨by omega,by omega⟩]; omega
   have cH:1<=wrap .i64 (1+modS ph 4)/\wrap .i64 (1+modS ph 4)<=100:=by rw [wQb _ ⟨by omega,by omega⟩]; omega
   generalize wrap .i64 (1+modS pw 5)=W at *;generalize wrap .i64 (1+modS ph 4)=H at *;obtain ⟨g1,g2⟩:=go W H cW cH;have pn:=zG9 mood L xs (wrap .i64 (W*H)) most hx g2;refine ⟨pn,λq2=>?_,λq2=>?_⟩
   ·have hs:modS so 2=0:=by simpa using q2
    rw [if_pos hs] at gi;obtain ⟨v0,v1,v2,v3,v4⟩:=zGY (mood:=mood) (L:=L) (xs:=xs) (most:=most) g1;have f0:=zVo (mood:=mood) (L:=L) (xs:=xs) (most:=most) g1 0 (by omega);have f1:=zVo (mood:=mood) (L:=L) (xs:=xs) (most:=most) g1 1 (by omega);have f2:=zVo (mood:=mood) (L:=L) (xs:=xs) (most:=most) g1 2 (by omega);have f3:=zVo (mood:=mood) (L:=L) (xs:=xs) (most:=most) g1 3 (by omega);have f4:=zVo (mood:=mood) (L:=L) (xs:=xs) (most:=most) g1 4 (by omega);have g3:0<wrap .i64 (W*H):=by omega
    rw [gi];simp only [v0,v1,v2,v3,v4] at f0 f1 f2 f3 f4 |-;exact ⟨⟨by omega,by omega⟩,⟨f0,f1,f2,f3,f4⟩,zV5 W H ⟨_,_,_,_,_⟩,trivial⟩
   ·have hs:¬ modS so 2=0:=by simpa using q2
    rw [if_neg hs] at gi;rw [gi];have po:=zWS W H _ (pxs (zQs mood L xs most (wrap .i64 (W*H)).toNat)) (jZ4 _ _ _ _ rfl);simp only [zZO] at po |-;exact ⟨po,trivial⟩
def yZx:Gam:=yZy.add [.p 32 (λv=>let c:=ur v 0;let e:=ur v 1;let a:=(zJO (nAt c 0) (nAt c 1) (nAt c 2) (nAt c 3) (lAt c 4) (cAt c 4) (nAt e 0) (nAt e 1) (nAt e 2) (nAt e 3) (nAt (uq v) 2));some (RV.agg (iD a)))]
def oK (a:List Oq) (b:Nat):Nat:=List.length a-b
def aKL (a:Scn) (b c d e:Int) (f:Nat) (g:wi):wi:=aER (Scn.bits a) b c d e (Scn.gtw a) (Scn.gth a) (Cl.ref f (List.length (Scn.ord a))::g)
def aCE (a:Nat) (b:List Oq) (c:wi):wi:=Cl.ref a (List.length b)::c
def aFC (a:List Im):Int:=(List.length a:Int)
def aLW (a b c:Nat) (d:List DV) (e:Nat) (f:wi) (g:wg):wg:=kA a b c d (vG e f g)
def kY (a:Scn) (b:Nat):List Oq:=(Scn.run a b).snd
def kZ (a:Scn) (b:Nat):List Oq:=(Scn.run a b).fst
def aNN (a b:Nat) (c:List Oq) (d e:Nat) (f:we):we:=aIM a b c (pL d e f)
def aQK (a:Nat) (b:Scn) (c d:Nat) (e:we):we:=wZ a (Scn.most b) c d e
def xJ (a b c:Nat):Prop:=a<=Min.min b c
def aEZ (a:Scn) (b c d e:Int) (f g:Nat) (h:wi):wi:=aKL a b c d e f (Cl.ref g (List.length (Scn.ims a))::h)
def aNK (a:Nat) (b:List Oq) (c d:Nat) (e:we):we:=aNN 13 a b c d e
def aEX (a:Scn) (b:Nat):List DV:=ims (Scn.pics a b)
def aPK (a b c d:Nat) (e:we) (f:Nat) (g:wi) (h:Nat) (i:wi) (j:Nat) (k:wi) (l:wg):Snap:=aMI (dU a b c d e) f g h i j k l
def aPL (a b c d:Nat) (e:we) (f:Nat) (g:wi) (h:Nat) (i:wi) (j:Nat) (k:wi) (l:wg):Snap:=aPK a b c d e f g h (oI i) j k l
def aPM (a b c d:Nat) (e:we) (f:Nat) (g:wi) (h:Nat) (i:wi) (j:Nat) (k:wi) (l:wg):Snap:=aPL a b c d e f g h (oI i) j k l
def aQG (a b c d:Nat) (e:we) (f:Nat) (g:wi) (h:Nat) (i:wi) (j:Nat) (k:wi) (l:wg):Snap:=aPM a b c d e f g h (oI i) j k l
def aNY (a:Nat) (b:List Oq) (c:Nat) (d:we):we:=aNK a b 14 c d
def aKN (a:Nat):List Oq:=List.replicate a popO
def aQI (a b c:Nat) (d:we) (e:Nat) (f:wi) (g:Nat) (h:wi) (i:Nat) (j:wi) (k:wg):Snap:=aQG 1 a b c d e f g h i j k
def aQJ (a b:Nat) (c:we) (d:Nat) (e:wi) (f:Nat) (g:wi) (h:Nat) (i:wi) (j:wg):Snap:=aQI 1 a b c d e f g h i j
def aQL (a b c:Nat) (d:Scn) (e f:Nat) (g:we) (h:Nat) (i:wi) (j:Nat) (k:wi) (l:Nat) (m:wi) (n:wg):Snap:=aQJ a b (aQK c d e f g) h i j k l m n
def aQM (a b:Nat) (c:Scn) (d e:Nat) (f:we) (g:Nat) (h:wi) (i:Nat) (j:wi) (k:Nat) (l:wi) (m:wg):Snap:=aQL 2 a b c d e f g h i j k l m
def aQN (a:Nat) (b:Scn) (c d:Nat) (e:we) (f:Nat) (g:wi) (h:Nat) (i:wi) (j:Nat) (k:wi) (l:wg):Snap:=aQM 2 a b c d e f g h i j k l
def aQO (a:Scn) (b c:Nat) (d:we) (e:Nat) (f:wi) (g:Nat) (h:wi) (i:Nat) (j:wi) (k:wg):Snap:=aQN 3 a b c d e f g h i j k
def aQP (a:Scn) (b:Nat) (c:we) (d:Nat) (e:wi) (f:Nat) (g:wi) (h:Nat) (i:wi) (j:wg):Snap:=aQO a 4 b c d e f g h i j
def aQQ (a:Scn) (b:we) (c:Nat) (d:wi) (e:Nat) (f:wi) (g:Nat) (h:wi) (i:wg):Snap:=aQP a 4 b c d e f g h i
def aCD (a:Scn) (b:we) (c:wi) (d:Nat) (e:wi) (f:Nat) (g:wi) (h:wg):Snap:=aQQ a b 1 c d e f g h
def aIL (a:Scn) (b:we) (c:wi) (d:Nat) (e:wi) (f:Nat) (g h i j:Int) (k l:Nat) (m:wi) (n:wg):Snap:=aCD a b c d e f (aEZ a g h i j k l m) n
def aKM (a:Nat) (b:Scn) (c:Nat) (d:we):we:=aNY a (kY b c) c d
def aFD (a b c:Nat) (d:List DV) (e:Nat) (f:Oq) (g:wg):wg:=aLW a b c d e (uT f) g
def qR (a:List DV) (b:Nat):Option DV:=some (DV.sl (lAt a b) (cAt a b))
def tK (a:Int) (b:List Oq):Prop:=mO a (List.length b)
def aFI (a:List Oq):Prop:=eS (List.length a)
def qV (a b:Prop):Prop:=True/\True/\eS true/\a/\b
def vA (e:Scn) (f g:Prop):Prop:=oM (Scn.bits e) (Scn.c e).a (lZ (Scn.c e).b (aB (Scn.c e).c) (eS (aB (Scn.c e).d)) (eS (aB (Scn.gtw e))) (aF (eS (aB (Scn.gth e))) (eS (List.length (Scn.ord e))) f g))
def vC (a b:Prop) (c:Scn) (d e:Prop):Prop:=a/\b/\tJ (tJ (tJ (aN jD True)))/\vA c (eS (List.length (Scn.ims c))) d/\e
def aFK (a b:Prop):Prop:=aH (True/\True/\True/\a/\b)
def aFL (a b c:Prop):Prop:=aM a (True/\True/\True/\b/\c)
def aFF (a:Prop) (b:DV) (c:Int) (d:Prop):Prop:=aF a (eS b) (eS (aB c)) d
def aFJ (a:Prop) (b:Scn) (c:List DV):Prop:=uJ a (is (Scn.ord b)) (ims (Scn.ims b)) c
def aNL (a:Rc) (b c:Int):RV:=aLC (aB (cntS a b c).fst) (aB (aCF a b c)) (cntS a b c).snd.snd
theorem uh:∀ n:Nat,n<=100->n<=maxLen:=λn h=>by unfold maxLen; omega
theorem jJZ (s:Scn) (hs:s.ok):AnsG prog 7 0 [AV.agg [cJ (s.b),cJ (s.x),cJ (s.y),cJ (s.w),cJ (s.h),cJ (s.tw),cJ (s.th),cD (dS s.on s.oxs),cD (dS s.pn s.pxs),cD (dS s.rn s.rxs)]] [] ⟨AV.agg [cJ (((s).bits)),cJ (((s).c.a)),cJ (((s).c.b)),cJ (((s).c.c)),cJ (((s).c.d)),cJ (((s).gtw)),cJ (((s).gth)),Cl.ref 0 ((s).ord.length),Cl.ref 1 ((s).ims.length),Cl.ref 2 ((s).ops.length)],[bR 3 1 (is (s).ord),bR 43 28 (ims (s).ims),bR 61 12 (ops (s).ops)],false⟩:=
 wd yZx (let h:=Min.min s.rn (9:Nat);let l:=kY s h;let r:=kZ s h;let i:=ims (Scn.ims s);let g:=is (Scn.ord s);let u:=ops (kY s h);let j:=Scn.c s;let c:=j.d;let d:=j.c;let a:=j.b;let b:=j.a;let v:=oI (oI []);let w:=pJ (oI v);let x:=tG (pJ w);let e:=aCC s.b s.x s.y s.w s.h s.tw s.th (DV.sl s.on s.oxs) (DV.sl s.pn s.pxs) (DV.sl s.rn s.rxs) [];let p:=Min.min s.pn (4:Nat);let m:=zL 7 (Scn.gw s) 8 (Scn.gh s) [];let E:=aX (aB (Scn.bits s)) (aB 0) (tG w);xH (uj True (aCD s [] e 2 [] 4 E []) (cU (uj True (aCD s (zL 5 b 6 a m) e 2 [] 4 E []) (cU (uj True (aCD s m e 2 [] 4 (aER (Scn.bits s) b a d c (Scn.gtw s) (Scn.gth s) (oI v)) []) (cU (uj True (aCD s m e 2 [] 4 (aKL s b a d c 7000 v) (pQ 7000 3 1 g)) (Ann.cut (Inv.mk Unit (λ(z1:Unit)=>True) (λ(z5:Unit)=>aCD s m e 2 [] 4 (aKL s b a d c 7000 (Cl.ref 5000 (List.length (Scn.pics s p))::oI [])) (aEY 7000 3 g 5000 43 28 (aEX s p))) (λ(X:Unit)=>(0:Nat))) (cU (um (λP=>xJ P s.pn 4) (λn=>aCD s (zL 7 (Scn.gw s) 8 (Scn.gh s) (pL 12 n [])) e 2 [] 4 (aKL s b a d c 7000 (Cl.ref 5000 n::oI [])) (aEY 7000 3 g 5000 43 28 (aEX s n))) (λO=>p-O) (λQ=>aL))) (λ(z4:Unit)=>uj True (aIL s [] e 2 [] 4 b a d c 7000 5000 (oI []) (aEY 7000 3 g 5000 43 28 i)) (cU (Ann.cut (Inv.mk Unit (λ(z1:Unit)=>True) (λ(z0:Unit)=>lY (dU 2 2 4 4 (aIM 13 5002 l [])) 2 x 4 (aEZ s b a d c 7000 5000 (aCE 5001 r [])) (aFA 5002 61 12 u 3 g (xK 5000 43 28 i 5001 61 12 (ops (kZ s h))))) (λ(X:Unit)=>(0:Nat))) (cU (um (λM=>xJ M s.rn 9) (λk=>aIL s (aKM 5002 s k []) e 2 [] 4 b a d c 7000 5000 (aCE 5001 (kZ s k) []) (aFA 5002 61 12 (ops (kY s k)) 3 g (xK 5000 43 28 i 5001 61 12 (ops (kZ s k))))) (λL=>h-L) (λf=>let y:=xK 5000 43 28 i 5001 61 12 (ops (kZ s f));let o:=aCE 5001 (kZ s f) [];let z:=rwAt s.rxs (f*11);let A:=z.k;let B:=aFA 5002 61 12 (ops (kY s f)) 3 g y;let C:=modS (nAt s.rxs (aV f 11+0)) 8;let D:=List.length (kY s f);aFE (jA (uj (¬(modS A 8=0/\0<D)) (aIL s (aKM 5002 s f (aFB 15 C 16 (cI D) [])) e 2 [] 4 b a d c 7000 5000 o B) (ul Bool (λK=>K=ctxB (kY s f)) (λJ=>aIL s (aKM 5002 s f (aFB 15 C 17 (DV.bool J) [])) e 2 [] 4 b a d c 7000 5000 o B) (λU=>ul Oq (λI=>I=gOp z (decide (modS A 8<3)) (aFC (Scn.ims s)) j (ctxB (kY s f)) (Scn.most s)) (λH=>aIL s (aKM 5002 s f (fG 18 18 [])) e 2 [] 4 b a d c 7000 5000 o (aFD 5002 61 12 (ops (kY s f)) 18 H (kA 7000 3 1 g y))) (λS=>aL)))))))) (λ(R:Unit)=>zM (um (λG=>G<=List.length l) (λq=>let t:=r++aKN q;lY (dU 2 2 4 4 (aNK 5002 l 19 q [])) 2 x 4 (aEZ s b a d c 7000 5000 (aCE 5001 t [])) (aFA 5002 61 12 u 3 g (xK 5000 43 28 i 5001 61 12 (ops t)))) (λF=>oK l F) (λQ=>aL))))))))))))))) Tryz.func7 (let z9:=Scn.ops s;let g:=ims (Scn.ims s);let e:=is (Scn.ord s);let k:=Scn.c s;let W:=k.d;let X:=k.c;let z:=k.b;let A:=k.a;let l:=s.rn;let F:=Min.min l (9:Nat);let G:=kZ s F;let H:=List.length (Scn.ims s);let y0:=eS H;let x8:=kY s F;let y1:=List.length x8;let Z:=eF 3 0 0 0 0 0 0 (eV 0 0 0 false false []);let y2:=ops x8;let w0:=eS y1;let I:=kY s F;let y3:=List.length I;let w2:=ops (kZ s F);let y4:=tJ (tJ (aN jD True));let h:=tJ y4;let b:=s.rxs;let f:=s.pxs;let o:=s.pn;let y5:=eF s.b s.x s.y s.w s.h s.tw s.th (DV.sl s.on s.oxs::DV.sl o f::uP l b);let d:=eS y5;let j:=Scn.most s;let y6:=Min.min l (9:Nat);let p:=aE j;let v5:=jM j [];let y8:=rA (cG k);let w:=s.rxs;let P:=Scn.most s;let u6:=eS e;let z4:=aEX s (Min.min o (4:Nat));let u7:=Scn.pics s (Min.min o (4:Nat));let Q:=List.length u7;let u8:=bW (iR p (eS (0:Nat)));let q:=Scn.gh s;let C:=Scn.gw s;let u9:=zZl C q ⟨j,0,0,j,j⟩;let t0:=Im.ds u9;let x0:=aB q;let R:=aB C;let x1:=bW (uY j 0 (eS R) (eS x0));let D:=Scn.gth s;let S:=Scn.gtw s;let t7:=aCF k S D;let t8:=(cntS k S D).fst;let t9:=zKA (ints s.oxs) (aT (t8*t7));let s0:=is t9;let s1:=List.length t9;let x2:=Scn.bits s;let s2:=jD/\y4;let z6:=gMax s.b;let s3:=bW (aE z6=p/\eS (0:Nat)/\True);True/\True/\aFL (kB 30 s.b (nC z6)) (gK (jY z6 255->eU (∃ q3:Unit,xL s3 d h (aZ 16 x2/\s2))) (fL z6 255->(∃ q2:Unit,xL s3 d h (aZ 8 x2/\s2)))) (∀ q1:Unit,True->aM (kS s.x 13) (aM (kS s.y 13) (qV (gK (kS s.w 5) (True/\True/\True/\kS s.h 4/\cT (∃ q0:Unit,xL (bW (iA P (aF (pU (modS s.x 13-6) A) (pU (modS s.y 13-6) z) (pU (1+modS s.w 5) C) (pU (1+modS s.h 4) q)))) d h (dE (aB x2) (eS (aB 0)) y4)))) (∀ r9:Unit,True->aFK (bF (aN (aBV s.tw R C) (aY (aBV s.th x0 q) (cT (∃ r8:Unit,xL x1 d h (oM (Scn.bits s) A (pV (aB z) (pU (A+C) X) (pU (z+q) W) (pU (1+modS s.tw C) S) (aN (pU (1+modS s.th q) D) True)))))))) (∀ r7:Unit,eG True (bH (Ans prog 9 (y8::iF S D) (aNL k S D)) (True/\True/\True/\aEQ (AnsO prog 31 [rD (DV.sl s.on s.oxs),rD (aB (aT (t8*t7)))] 3 1 s1 s0) (∃ r6:Unit,True/\x1/\aF d h (oM (Scn.bits s) A (lZ z (aB X) (eS (aB W)) (eS (aB (Scn.gtw s))) (cR (eS (aB D)) (pO s1 (Scn.ord s)) True))) (s0=e))/\(∀ r5:Unit,True->(True/\(∃ V:Nat,fP (xJ V o 4) (bM (qQ p (aFF (eS (0:Nat)) R q (dF V)))) (eS y5) (aF h (vA s (0=V) True) u6 (([]:List DV)=aEX s V)))/\(∀ c:Nat,let t1:=(∃ r4:Unit,True/\x1/\d/\nH h (vA s (c=Q) True) e (aEX s c) z4);let t2:=decide ((c:Int)<4);let z5:=bG (aV c 5);let t3:=cAt f z5;let t4:=lAt f z5;let t5:=zJO (cY f c 5) (fX f c 5) (gU f c 5) (fY f c 5) t4 t3 A z X W j;let t6:=Im.ds t5;eG (xJ c o 4) (zG (dP c o) (eG (t2=true) (True/\True/\cX c o 5 f/\fT (fW f c 5) (mH f c 5) (pT f c 5) (bN f (aV c 5)) (f[z5]?=qR f z5)/\True/\True/\True/\Ans prog 32 (rA (aB (cY f c 5)::aB (fX f c 5)::aB (gU f c 5)::aB (fY f c 5)::uP t4 t3)::y8::v5) (imR t5)/\aY (zXe 28 272 c 1 (aEX s c) t6) (iB (∃ E:Nat,eW (xJ E o 4) (dM (Min.min o (4:Nat)) E c) (bM (qQ p (aFF (eS (0:Nat)) R q (bS c E)))) y5 (nH h (vA s (c+1=E) True) e (aEX s c++t6) (aEX s E)))))) (t2=false->t1) (vB (c:Int) (o:Int)->cV t1))))/\(∀ r3:Unit,zE True (aBR (Q<=maxLen) (bK (aFC u7)) (bL (aM (nY 33 R x0 [rA [p,aE 0,aE 0,p,p]] (imR u9)) (zXe 28 272 Q 1 z4 t0/\True/\True/\eS true/\(∃ r0:Unit,True/\u8/\d/\nH h (vA s (Q+1=H) True) e (z4++t0) g)))) (∃ s9:Unit,True/\u8/\d/\nH h (vA s (Q=H) True) e z4 g)) (∀ s8:Unit,bP True (True/\(∃ y:Nat,dR y F (vC (bW (uY j 0 (qS 0 (kY s y)) (dF y))) d s (qS 0 (kZ s y)) (aF (([]:List DV)=ops (kY s y)) u6 (eS g) (([]:List DV)=ops (kZ s y)))))/\(∀ a:Nat,let J:=ops (kZ s a);let m:=ops (kY s a);let v:=kZ s a;let n:=kY s a;let w3:=(∃ s5:Unit,True/\bM (kE (zP n I))/\h/\vA s y0 (zP v G)/\qL (m=y2) e g J w2);let w4:=decide ((a:Int)<9);let K:=ctxB n;let w6:=rwAt b (a*11);let w7:=w6.k;let w8:=gOp w6 (decide (modS w7 8<3)) (aFC (Scn.ims s)) k K j;let z1:=aV a 11;let z2:=nAt b (z1+0);let w9:=decide (modS z2 8<3);let v0:=cE b (pW a 11);let y7:=aV a 11;let v1:=cE b (cB y7);let v2:=cE b (iP a 11);let v3:=cE b z1;let L:=aFI v;let M:=aFI n;let v6:=cX a l 11 b;let z3:=gA m e g (eS J);let O:=modS z2 8;let v7:=(List.length n:Int);let v8:=bK v7;let B:=List.length (kY s a);let y9:=dT B;let v9:=aR y9 12;let u0:=v9+10;let u1:=bAt m u0;let u2:=v9+11;let u3:=tK (dT B) n;let u4:=¬(modS w7 8=0/\0<B);let u5:=(∃ s7:Unit,u4/\vC (bW (iA P (aFF M (cI a) O (mJ B)))) d s L z3);eG (xJ a l 9) (fQ (dP a l) (zG (w4=true) v6 (dY (zN b z1 0/\True) (kS z2 8) (True/\aFG n maxLen/\True/\qT O 0 (aBY B (True/\True/\aY (aFH 12 88 v Z) (bH (aCG B) (∃ u:Nat,xJ u l 9/\dM y6 u a/\vC (bW (uY j 0 (qS (Int.toNat y9) (kY s u)) (bS a u))) d s (aCH v (kZ s u)) (qL (pN y9 12 m=ops (kY s u)) e g (J++Z) (ops (kZ s u)))))) (xI v7 u5)) (xM (rY z2 8) u5)/\(∀ s6:Unit,u4->zG (v8=false) u3 (True/\(dW m u0/\True)/\True/\uW u1 (True/\u3/\True/\(dW m u2/\True)/\True/\True/\True/\True/\(∃ x6:Bool,x6=K/\vC (bW (iA P (aFF M (cI a) O (kC (!(bAt m u2)) x6)))) d s L z3))/\mA u1 (∃ x5:Bool,x5=K/\vC (bW (iA P (aFF M (cI a) O (kC false x5)))) d s L z3)) (qU v8 (∃ x4:Bool,x4=K/\vC (bW (iA P (aFF M (cI a) O (kC true x4)))) d s L z3))/\(∀ z8:Bool,let v4:=Oq.cells (gOp ⟨cY b a 11,fX b a 11,gU b a 11,fY b a 11,kW b a 11,tL b a 11,zO b a 11,v3,v2,v1,v0⟩ w9 (aFC (Scn.ims s)) k z8 j);z8=K->(True/\True/\dY v6 (fP (fW b a 11) (mH b a 11) (pT b a 11) (aCI (bN b y7) (bN w (iP a 11)) (bN w (cB y7)) (bN w (pW a 11)) (bN w (bG y7)) (bN w (nI a 11)) (bN w (xN a 11)) (bN w (cB (bG z1)+1)))) (bH (H<=maxLen) (kD 15 (eF (cY b a 11) (fX b a 11) (gU b a 11) (fY b a 11) (kW b a 11) (tL b a 11) (zO b a 11) (eC v3 v2 v1 v0)) (rD (DV.bool w9)::rD (cI H)::y8::rD (DV.bool z8)::v5) v4/\True/\True/\eS true/\(∃ x3:Oq,x3=w8/\bM (qQ p (eS (0:Nat)/\M/\iR (cI a) (eS (0:Nat))))/\eW d h (vA s y0 L) m (aFJ (v4=Oq.cells x3) s J)))))/\(∀ U:Oq,let z0:=Oq.cells U;let w5:=J++z0;eG (U=w8) (aY (aFH 12 88 v z0) (qT U.kind 2 (bH (aFH 12 88 n z0) (∃ t:Nat,xJ t l 9/\dM y6 t a/\vC (bW (uY j 0 (aCH n (kY s t)) (bS a t))) d s (aCH v (kZ s t)) (qL (m++z0=ops (kY s t)) e g w5 (ops (kZ s t))))) (nJ (U.kind==2) (∃ r:Nat,xJ r l 9/\dM y6 r a/\vC (bW (uY j 0 (zP n (kY s r)) (bS a r))) d s (aCH v (kZ s r)) (qL (m=ops (kY s r)) e g w5 (ops (kZ s r)))))))))))) (w4=false->w3)) (vB (a:Int) (l:Int)->cV w3)))) (∀ s4:Unit,bP True (∃ z7:Nat,let w1:=G++aKN z7;vC (z7<=y3) (bW (w0/\dF z7/\True)) s (zP G w1) (gA y2 e g (w2=ops w1))) (∀ x:Nat,let Y:=G++aKN x;let x7:=ops Y;x<=y3->cV (True/\aFG I maxLen/\True/\(dP x y1->eU (cQ (aFH 12 88 Y Z) (∃ T:Nat,let x9:=G++aKN T;T<=y3/\vC (oK I T<oK I x) (bW (w0/\bS x T/\True)) s (aCH Y x9) (gA y2 e g (x7++Z=ops x9)))))/\iN (iQ x y1) (qL (vA s y0 (zP Y z9)/\True) e g x7 (ops z9)) (zZd ⟨AV.agg (aEZ s A z X W 0 1 (aCE 2 z9 [])),[bR 3 1 e,bR 43 28 g,bR 61 12 (ops z9)],false⟩))))))))))))))) λhwf hbx=>by
  delta eS aB aR gE dY aE aT aF aH aM aY bU cQ bK uU fT aBV kS nY rY aKQ aBR uP aEQ nC aX gL mR jK aER dE pV aN lZ eC eF bM eV bW cR gA cT iA cG xM iN mA uW zE qL cI mO iH aV bS bP iP fQ dF pN pO iB jY aBY zG fL xI cV zN bN bH kD cX cY dP iQ jM eG fX fY fW gU uY kW mH pT nH oK aKL aCE aFC kY kZ xJ aEZ aEX aKN eU kL cE cB bG aZ pU bF bL qS iR qR oM kE fP aAJ kB tK dR gK eW dW aFG nJ iF dM kC dT zP nK jD uJ qT qU tJ mJ pW qQ aCG tL aFI qV aFH vA xL xN nI vB vC zO aLC aCF aCI aCH aFK aFL aFF aFJ aNL;simp only [sS,zQl,zU9];obtain ⟨⟨ho1,ho2⟩,⟨hp1,hp2⟩,⟨hr1,hr2⟩⟩:=hs;obtain ⟨f1,f2,f3,f4,f5,f6⟩:=s.facts;have CF:=s.c_facts;have w1:wrap .i64 (modS s.x 13-6)=s.c.a:=wQb _ ⟨by omega,by omega⟩;have w2:wrap .i64 (modS s.y 13-6)=s.c.b:=wQb _ ⟨by omega,by omega⟩;have g1:s.gw=1+modS s.w 5:=rfl;have g2:s.gh=1+modS s.h 4:=rfl;have g3:s.gtw=1+modS s.tw s.gw:=rfl;have g4:s.gth=1+modS s.th s.gh:=rfl;have w3:wrap .i64 (1+modS s.w 5)=s.gw:=wQb _ ⟨by omega,by omega⟩;have w4:wrap .i64 (1+modS s.h 4)=s.gh:=wQb _ ⟨by omega,by omega⟩;have w5:wrap .i64 (s.c.a+s.gw)=s.c.c:=by rw [wQb _ ⟨by omega,by omega⟩]; omega
  have w6:wrap .i64 (s.c.b+s.gh)=s.c.d:=by rw [wQb _ ⟨by omega,by omega⟩]; omega
  have w7:wrap .i64 (1+modS s.tw s.gw)=s.gtw:=wQb _ ⟨by omega,by omega⟩;have w8:wrap .i64 (1+modS s.th s.gh)=s.gth:=wQb _ ⟨by omega,by omega⟩;have hm:=s.tiles_in;have hM:=uh
  have li:=s.ims_len;have lk:=λk=>s.run_len k;have pq:1<=s.c.c-s.c.a/\s.c.c-s.c.a<=100/\1<=s.c.d-s.c.b/\s.c.d-s.c.b<=100:=by omega
  have BI:=s.bits_of;refine ⟨⟨λh=>⟨(),rfl,BI.1 h⟩,λh=>⟨(),rfl,BI.2 h⟩⟩,⟨(),w1,w2,w3,w4⟩,⟨(),w5,w6,w7,w8⟩,zU4 _ _ _ _ _ _,⟨zGN _ _ _ ⟨ho1,ho2⟩ hm.1,(),rfl,rfl⟩,⟨⟨0,wQi _,rfl,rfl,rfl⟩,λp hp=>⟨λh1=>⟨λh2=>?_,λh2=>?_⟩,λh1=>?_⟩⟩,?_⟩
  ·obtain ⟨q0,q1,q2,q3,q4,q5⟩:=hp2 p (by omega);refine ⟨⟨by omega,by omega,by omega⟩,⟨q0,q1,q2,q3,q4⟩,jJ0 _ _ _ _ _ _ _ _ _ _ _ q5 pq,⟨by rw [zYT,s.pics_len],by rw [Im.ds_len],hM _ (by omega),by omega⟩,p+1,by omega,by omega,zXj (by omega),rfl,?_⟩;rw [s.pics_succ,jWs,yQC]; rfl
  ·have:p=min s.pn 4:=by omega
   subst this;exact ⟨(),(s.pics_len _).symm,rfl⟩
  ·have:p=min s.pn 4:=by omega
   subst this;exact ⟨(),(s.pics_len _).symm,rfl⟩
  have lp:=s.pics_len (min s.pn 4);refine ⟨⟨hM _ (by omega),λh=>?_,λh=>?_⟩,⟨⟨0,wQi _,⟨rfl,rfl⟩,rfl,rfl,rfl⟩,λk hk=>⟨λh1=>⟨λh2=>?_,λh2=>?_⟩,λh1=>?_⟩⟩,?_⟩
  ·have h0:min s.pn 4=0:=by rw [lp] at h; simpa using h
   have e1:s.ims=[s.solo]:=by unfold Scn.ims; rw [if_pos h0]
   have e2:s.pics (min s.pn 4)=[]:=by rw [h0]; rfl
   rw [e1,e2];exact ⟨zV5 s.gw s.gh ⟨_,_,_,_,_⟩,⟨by simp [ims],by simp [Im.ds],hM _ (by simp),by simp⟩,(),rfl,by simp [ims]; rfl⟩
  ·have h0:¬ min s.pn 4=0:=by rw [lp] at h; simpa using h
   have e1:s.ims=s.pics (min s.pn 4):=by unfold Scn.ims; rw [if_neg h0]
   rw [e1];exact ⟨(),rfl,rfl⟩
  ·have lk1:=(lk k).1;have lk2:=(lk k).2;have ro:=λi (h:i<11)=>hr2 (k*11+i) (by omega);have wl:0<(s.run k).2.length->wrap .i64 (((s.run k).2.length:Int)-1)=(((s.run k).2.length-1:Nat):Int):=λh=>by rw [wQb _ ⟨by omega,by omega⟩]; omega
   have ws:wrap .i64 ((k:Int)+1)=((k+1:Nat):Int):=zXj (by omega);refine ⟨⟨by omega,by omega,by omega⟩,ro 0 (by omega),hM _ (by omega),⟨λa1=>⟨λa2=>?_,λa2=>⟨(),λh=>a2 (by omega)⟩⟩,λa1=>⟨(),λh=>?_⟩⟩,λhn=>⟨⟨λa1=>?_,λa1=>?_⟩,λfr hfr=>⟨?_,λo ho=>?_⟩⟩⟩
   ·have a3:0<(s.run k).2.length:=by omega
    have a4:modS (nAt s.rxs (k*11)) 8=0:=by simpa using a1
    have rp:=Scn.run_pop (s:=s) (k:=k) ⟨a4,a3⟩;rw [wl a3];refine ⟨⟨by rw [zQK,lk1],rfl,hM _ (by omega),by omega⟩,⟨by omega,by omega⟩,k+1,by omega,by omega,⟨?_,ws⟩,?_,?_,?_⟩
    ·rw [rp]; simp
    ·rw [rp]; simp
    ·rw [rp,wQl,jXJ,wZU]
    ·rw [rp,zJC,jQj]; rfl
   ·have a4:¬ modS (nAt s.rxs (k*11)) 8=0:=by simpa using a1
    exact a4 h.1
   ·have a3:0<(s.run k).2.length:=by
     have:¬ (s.run k).2.length=0:=by simpa using a1
     omega
    have hl:(s.run k).2.length-1<(s.run k).2.length:=by omega
    have g10:(ops (s.run k).2)[((s.run k).2.length-1)*12+10]?=some (.bool (s.run k).2[(s.run k).2.length-1].iso):=jXK hl 10 (by omega);have g11:(ops (s.run k).2)[((s.run k).2.length-1)*12+11]?=some (.bool (s.run k).2[(s.run k).2.length-1].kno):=jXK hl 11 (by omega);have b10:bAt (ops (s.run k).2) (((s.run k).2.length-1)*12+10)=(s.run k).2[(s.run k).2.length-1].iso:=by simp only [bAt,g10]
    have b11:bAt (ops (s.run k).2) (((s.run k).2.length-1)*12+11)=(s.run k).2[(s.run k).2.length-1].kno:=by simp only [bAt,g11]
    rw [wl a3,wQl,b10,b11,jGa a3];refine ⟨⟨by omega,by omega⟩,g10,λh=>⟨⟨by omega,by omega⟩,g11,_,rfl,?_⟩,λh=>⟨_,rfl,?_⟩⟩<;>simp [h]
   ·have a3:(s.run k).2.length=0:=by simpa using a1
    rw [List.length_eq_zero_iff.1 a3];exact ⟨_,rfl,rfl⟩
   ·subst hfr;refine ⟨⟨by omega,by omega,by omega⟩,⟨ro 0 (by omega),ro 1 (by omega),ro 2 (by omega),ro 3 (by omega),ro 4 (by omega),ro 5 (by omega),ro 6 (by omega),ro 7 (by omega),ro 8 (by omega),ro 9 (by omega),ro 10 (by omega)⟩,hM _ (by omega),jHI (rwAt s.rxs (k*11)) _ _ _ _ _ ⟨⟨by omega,by omega⟩,by omega,by omega⟩ ⟨by omega,by omega⟩,_,rfl,rfl⟩
   ·obtain ⟨r1,r2⟩:=Scn.run_op (s:=s) (k:=k) hn ho;clear ho;refine ⟨⟨by rw [zQK,lk1],rfl,hM _ (by omega),by omega⟩,λa1=>⟨⟨by rw [zQK],rfl,hM _ (by omega),by omega⟩,k+1,by omega,by omega,⟨?_,ws⟩,?_,?_,?_⟩,λa1=>⟨k+1,by omega,by omega,⟨?_,ws⟩,?_,?_,?_⟩⟩
    ·rw [r1 (by simpa using a1)]; simp
    ·rw [r1 (by simpa using a1)]; simp
    ·rw [r1 (by simpa using a1),zJC,jQj]
    ·rw [r1 (by simpa using a1),zJC,jQj]
    ·rw [r2 (by simpa using a1)]
    ·rw [r2 (by simpa using a1)]; simp
    ·rw [r2 (by simpa using a1)]
    ·rw [r2 (by simpa using a1),zJC,jQj]
  ·have:k=min s.rn 9:=by omega
   subst this;exact ⟨(),rfl,rfl,rfl,rfl⟩
  ·have:k=min s.rn 9:=by omega
   subst this;exact ⟨(),rfl,rfl,rfl,rfl⟩
  ·have e:s.ops=(s.run (min s.rn 9)).1++List.replicate (s.run (min s.rn 9)).2.length popO:=rfl;have lr:=lk (min s.rn 9);rw [e];generalize s.run (min s.rn 9)=z at *;refine ⟨⟨0,wQi _,rfl,by simp,by simp⟩,λj hj=>⟨hM _ (by omega),λh=>?_,λh=>?_⟩⟩
   ·have e2:z.1++List.replicate (j+1) popO=(z.1++List.replicate j popO)++[popO]:=by rw [List.append_assoc,List.replicate_succ']
    refine ⟨⟨by rw [zQK],rfl,hM _ (by simp; omega),by simp; omega⟩,j+1,by omega,by omega,zXj (by omega),?_,?_⟩
    ·rw [e2]; simp; omega
    ·rw [e2,zJC _ [popO],jQj]; rfl
   ·have:j=z.2.length:=by omega
    subst this;exact ⟨⟨rfl,rfl⟩,trivial⟩
structure Scr where
  bits:Int
  c:Rc
  tw:Int
  th:Int
  ord:List Int
  ims:List Im
  ops:List Oq
def imsE (most:Int):List Im->Int->Int × Int
 | [],_=>(0,0)
 | m::r,i=>if m.valid most=0 then imsE most r (i+1) else (m.valid most,i)
def Scr.frame (s:Scr):Int:=zYD s.bits s.c s.tw s.th s.ord s.ims.length s.ops.length
def Scr.run (s:Scr):Int × Int:=opsE s.bits s.c s.tw s.th s.ord s.ims.length s.ops
def zYL (s:Scr):Int × Int:=
 if s.frame=0 then (if (imsE (zQi s.bits) s.ims 0).1=0 then s.run else imsE (zQi s.bits) s.ims 0) else (s.frame,0)
def yZv:Gam:=yZx.add []
def aBH (a:Nat) (b:Int) (c:Nat) (d:DV) (e:we):we:=gH a (aE b) c d e
def oT (a:FuncId) (b:List DV) (c:RV):Prop:=Ans prog a [RV.agg b] c
def fE (a:Nat):Nat:=bG (bG a)+1
def gO (a:Nat):Nat:=bG (bG (bG a))
def iY (a:Nat):Nat:=bG (bG (bG a))+1
def sY (a:Nat):Nat:=fS (bG a)
def sX (a:Nat):Nat:=cB (bG (bG (bG a)))
def uD (a:Nat):Nat:=fS (bG (bG a))
def uC (a:Nat):Nat:=cB (bG (bG (bG (bG a))))
def aKJ (a:List DV) (b c d e:Nat):Pl:=⟨cE a b,cE a c,cE a d,lAt a (fS e),cAt a (fS e)⟩
theorem zUg (bits cx0 cy0 cx1 cy1 tw th:Int) (on:Nat) (oxs:List DV) (mn:Nat) (mxs:List DV) (pn:Nat) (pxs:List DV) (hP:pxs=ops (zQo pxs)/\pn=(zQo pxs).length) (hO:oxs=is (ints oxs)/\on=oxs.length) (hM:jHH mn mxs):Ans prog 34 [rA [dJ bits,dJ cx0,dJ cy0,dJ cx1,dJ cy1,dJ tw,dJ th,dS on oxs,dS mn mxs,dS pn pxs]] (rT [rJ (((zYL ⟨bits,⟨cx0,cy0,cx1,cy1⟩,tw,th,ints oxs,zQF mxs,zQo pxs⟩).1)),rJ (((zYL ⟨bits,⟨cx0,cy0,cx1,cy1⟩,tw,th,ints oxs,zQF mxs,zQo pxs⟩).2))]):=
 wc yZv (pX (um (λa=>dR a mn (imsE (zQi bits) (List.drop a (zQF mxs)) (a:Int)=imsE (zQi bits) (zQF mxs) 0)) (λc=>aIP (aBH 5 (zQi bits) 22 (DV.sl mn mxs) (rQ 23 mn 24 c)) (aCC bits cx0 cy0 cx1 cy1 tw th (DV.sl on oxs) (DV.sl mn mxs) (DV.sl pn pxs) [])) (λb=>mn-b) (λd=>aL))) Tryz.func34 (let r:=(⟨cx0,cy0,cx1,cy1⟩:Rc);let s:=zK (zYL ⟨bits,r,tw,th,ints oxs,zQF mxs,zQo pxs⟩);let F:=zK (opsE bits r tw th (ints oxs) mn (zQo pxs));let g:=eF bits cx0 cy0 cx1 cy1 tw th (DV.sl on oxs::DV.sl mn mxs::uP pn pxs);let d:=zQi bits;let t:=imsE d (zQF mxs) 0;let E:=zYD bits r tw th (ints oxs) mn pn;oG (lE 75 g [] E) (gV (dX E) (fR (gJ (aB E) (aB 0)) s) (dL (kB 47 bits (xQ d bits)) (True/\True/\True/\(∃ f:Nat,aW (dR f mn (imsE d (List.drop f (zQF mxs)) (f:Int)=t)) (bM (aEB (aE (zQi bits)) mn mxs (dF f))) (eS g))/\(∀ a:Nat,let b:=aV a 28;let e:=bG (bG b);let G:=bG (bG e);let u:=uD b;let v:=uC b;let w:=fE e;let h:=gO b;let x:=sY b;let y:=sX b;let z:=iY b;let j:=aV a 28;let A:=fS j;let B:=fE b;let C:=bG j;let D:=cB (bG b)+1;let k:=cB j;let H:=bAt mxs k;let l:=Im.valid (kK (cY mxs a 28) (fX mxs a 28) H (fY mxs a 28) (kW mxs a 28) (tL mxs a 28) (zO mxs a 28) (cE mxs b) (aKJ mxs (iP a 28) k (pW a 28) b) (aKJ mxs (nI a 28) (xN a 28) D C) (aKJ mxs B (rP a 28) A e) (aKJ mxs z y x h) (aKJ mxs w v u G)) (zQi bits);let m:=fS G;let n:=fS h;let o:=fS e;let p:=fS C;let q:=fS b;bP (dR a mn (imsE d (List.drop a (zQF mxs)) (a:Int)=t)) (aHJ (dP a mn) (cX a mn 28 mxs) (fP (fW mxs a 28) (mH mxs a 28) (dW mxs k) (cM mxs (iP a 28)/\mT mxs j/\cM mxs (pW a 28)/\cM mxs C/\bV (cM mxs (nI a 28)) (bN mxs (nI a 28)) (bN mxs (xN a 28)) (bN mxs D) (mxs[q]?=qR mxs q) (bN mxs B) (bN mxs (rP a 28)) (bN mxs A) (mxs[p]?=qR mxs p/\bV (bN mxs z) (bN mxs y) (bN mxs x) (mxs[o]?=qR mxs o) (bN mxs w) (bN mxs v) (bN mxs u) (mxs[n]?=qR mxs n) (aF (bN mxs (iY e)) (bN mxs (cB (bG (bG h)))) (bN mxs (fS h)) (mxs[m]?=qR mxs m))))) (lE 76 (nM (cY mxs a 28) (fX mxs a 28) H (fY mxs a 28) (kW mxs a 28) (tL mxs a 28) (zO mxs a 28) (cE mxs b) (cE mxs (iP a 28)) (cE mxs k) (cE mxs (pW a 28)) (lAt mxs q) (cAt mxs q) (dA (cE mxs (nI a 28)) (cE mxs (xN a 28)) (cE mxs D) (lAt mxs p) (cAt mxs p) (cE mxs B) (cE mxs (rP a 28)) (cE mxs A) (lAt mxs o) (cAt mxs o) (dA (cE mxs z) (cE mxs y) (cE mxs x) (lAt mxs n) (cAt mxs n) (cE mxs w) (cE mxs v) (cE mxs u) (lAt mxs m) (cAt mxs m) []))) (jM (zQi bits) []) l) (eH (sZ l) (gJ (aB l) (cI a)=s) (dO (dX l) (∃ c:Nat,fP (dR c mn (imsE d (List.drop c (zQF mxs)) (c:Int)=t)) (dM mn c a) (bM (aEB (aE (zQi bits)) mn mxs (bS a c))) (eS g/\True))))) (bP (iQ a mn) (oT 46 g F) (cZ F s))))))) λhwf=>by
  delta eS aB aR gE aE aT aF fD aY uP eF bM dL cR dO cI aW aV bS bP fV iP dF bV zN bN cX cY dP iQ jM fX fY fW kW mH oG gJ zK kL cE cB bG qR fP kB dR dW dM pW tL xN nI zO dX gV fR cZ lE eH oT xQ sR dA kK aGQ nM bY cM fS fE gO iY sY sX uD uC mT rP sZ aEB aHJ aKJ;simp only [sS,zZ7,zYZ];obtain ⟨ml,hMu,rfl,rfl⟩:=hM.of;have hfr:=zJU bits cx0 cy0 cx1 cy1 tw th on oxs ml.length (ims ml) pn pxs hO;have hop:=zVf bits cx0 cy0 cx1 cy1 tw th on oxs ml.length (ims ml) pn pxs hP hO;obtain ⟨hP,rfl⟩:=hP;simp only [zQS];generalize zQo pxs=ps at *;subst hP;simp only [RV.wfs,RV.wf,DV.wf,DV.wfs,maxLen] at hwf;have hml:ml.length<=9223372036854775807:=by omega
  have hC:zYL ⟨bits,⟨cx0,cy0,cx1,cy1⟩,tw,th,ints oxs,ml,ps⟩=if zYD bits ⟨cx0,cy0,cx1,cy1⟩ tw th (ints oxs) ml.length ps.length=0 then (if (imsE (zQi bits) ml 0).1=0 then opsE bits ⟨cx0,cy0,cx1,cy1⟩ tw th (ints oxs) ml.length ps else imsE (zQi bits) ml 0) else (zYD bits ⟨cx0,cy0,cx1,cy1⟩ tw th (ints oxs) ml.length ps.length,0):=rfl
  rw [hC];clear hC hwf;generalize zYD bits ⟨cx0,cy0,cx1,cy1⟩ tw th (ints oxs) ml.length ps.length=FE at *;generalize opsE bits ⟨cx0,cy0,cx1,cy1⟩ tw th (ints oxs) ml.length ps=OE at *;generalize zQi bits=most at *;refine ⟨hfr,λhne=>?_,λhe=>⟨⟨0,⟨wQi _,by simp⟩,rfl⟩,λk hk=>⟨λhlt=>?_,λhge=>?_⟩⟩⟩
  ·have:FE≠0:=by simpa using hne
   simp [this]
  ·obtain ⟨k1,k2⟩:=hk;have hk:k<ml.length:=by omega
   have q1:=zGW hk;have q2:=zGX hk;have hd:ml.drop k=ml[k]::ml.drop (k+1):=wXC hk;have hF:FE=0:=by simpa using he
   have vI:=jZo ml[k] most (hMu _ (List.getElem_mem hk));rw [hd] at k2;simp only [imsE] at k2;have w1:wrap .i64 ((k:Int)+1)=((k+1:Nat):Int):=by rw [wQ2]; omega
   simp only [q2,hF,if_true];refine ⟨⟨by omega,by omega,by rw [zYT]; omega⟩,q1,vI,λhne=>?_,λh0=>?_⟩
   ·have h0:ml[k].valid most≠0:=by simpa using hne
    rw [if_neg h0] at k2;rw [<- k2,if_neg h0];exact ⟨rfl,rfl⟩
   ·have h0:ml[k].valid most=0:=by simpa using h0
    rw [if_pos h0] at k2;exact ⟨k+1,⟨by omega,by rw [<- k2]; rfl⟩,by omega,w1⟩
  ·obtain ⟨k1,k2⟩:=hk;have hk:k=ml.length:=by omega
   subst hk;rw [wYo] at k2;simp only [imsE] at k2;have hF:FE=0:=by simpa using he
   simp only [hF,if_true,<- k2];exact ⟨hop,trivial,trivial⟩
def scrR (s:Scr):RV:=RV.agg [DV.int .i64 s.bits,DV.int .i64 s.c.a,DV.int .i64 s.c.b,DV.int .i64 s.c.c,DV.int .i64 s.c.d,DV.int .i64 s.tw,DV.int .i64 s.th,DV.sl s.ord.length (is s.ord),DV.sl s.ims.length (ims s.ims),DV.sl s.ops.length (ops s.ops)]
def eR (p:Int × Int):RV:=RV.tup [RV.d (DV.int .i64 p.1),RV.d (DV.int .i64 p.2)]
theorem zKb (s:Scr):(⟨s.bits,⟨s.c.a,s.c.b,s.c.c,s.c.d⟩,s.tw,s.th,ints (is s.ord),zQF (ims s.ims),zQo (ops s.ops)⟩:Scr)=s:=by
 rw [zZY,zQS,zQz]
theorem jHX {n:Nat} {l:List Int} (h:n=l.length):is l=is (ints (is l))/\n=(is l).length:=⟨by rw [zZY],by rw [zQE]; exact h⟩
theorem jGA (s:Scr):opsE s.bits ⟨s.c.a,s.c.b,s.c.c,s.c.d⟩ s.tw s.th (ints (is s.ord)) s.ims.length (zQo (ops s.ops))=s.run:=by
 rw [zZY,zQz]; rfl
theorem zJV (s:Scr) (h:∀ m∈s.ims,m.isU):Ans prog 34 [scrR s] (eR (zYL s)):=by
 have:=zUg s.bits s.c.a s.c.b s.c.c s.c.d s.tw s.th s.ord.length (is s.ord) s.ims.length (ims s.ims) s.ops.length (ops s.ops) (jJi rfl) (jHX rfl) (jUL rfl h);rw [zKb] at this;exact this
theorem zHa (s:Scr):Ans prog 46 [scrR s] (eR s.run):=by
 have:=zVf s.bits s.c.a s.c.b s.c.c s.c.d s.tw s.th s.ord.length (is s.ord) s.ims.length (ims s.ims) s.ops.length (ops s.ops) (jJi rfl) (jHX rfl);rw [jGA] at this;exact this
end
variable {mn pn:Nat}
theorem jUZ {bits:Int} {c:Rc} {tw th:Int} {l:List Int} (hb:zV0 bits=true) (he:c.empty=false) (ha:c.area<=16777216) (h1:zZX c.a=true) (h2:zZX c.b=true)
  (h3:(cntS c tw th).2.2=true) (h4:zZ8 l (wrap .i64 ((cntS c tw th).1*(cntS c tw th).2.1))=true) (h5:mn<=64) (h6:pn<=4096):zYD bits c tw th l mn pn=0:=by
 unfold zYD;rw [if_neg (by rw [hb]; simp),if_neg (by rw [he,h1,h2]; simp; omega),if_neg (by rw [h3]; simp),if_neg (by rw [h4]; simp),if_neg (by omega)]
theorem jQp (v:Int):zZX v=true ↔ -1048576<=v/\v<=1048576:=by simp [zZX]
variable {m:Im}
theorem Im.list_so (hs:m.so=true) (n:Nat):m.list n=List.replicate n m.c:=by
 unfold Im.list;refine wQT (by simp) λi h1 h2=>?_;simp [Im.nth,Im.px,hs]
theorem Im.count_pos (hf:m.formed=true):0<m.w.toNat*m.h.toNat:=by
 obtain ⟨f1,f2,f3,f4,f5⟩:=zX4 (Im.formed_of hf).1;exact Nat.mul_pos (by omega) (by omega)
theorem Im.pixels_so (hf:m.formed=true) (hs:m.so=true):m.pixels=List.replicate (m.w.toNat*m.h.toNat) m.c:=by
 rw [Im.pixels_of hf,Im.list_so hs]
abbrev wYp:=@List.mem_replicate
theorem Im.valid_iff (hf:m.formed=true) (most:Int):m.valid most=0↔∀ p∈m.pixels,p.ok most=true:=by
 obtain ⟨h1,h2⟩:=Im.formed_of hf;unfold Im.valid;rw [if_neg (by simp [h1]),if_neg (by simp [h2])]
 cases hs:m.so with
 | true=>
  rw [if_pos rfl,Im.pixels_so hf hs];have:=Im.count_pos hf;constructor
  ·intro h p hp;obtain ⟨_,rfl⟩:=wYp.1 hp;split at h
   ·assumption
   ·cases h
  ·intro h;rw [if_pos (h m.c (wYp.2 ⟨by omega,rfl⟩))]
 | false=>
  rw [if_neg (by simp),Im.pixels_of hf];unfold Im.okTo Im.count Im.list;constructor
  ·intro h p hp;split at h
   ·rename_i ha;obtain ⟨k,hk,rfl⟩:=wQw.1 hp;exact List.all_eq_true.1 ha k hk
   ·cases h
  ·intro h;rw [if_pos (List.all_eq_true.2 λk hk=>h _ (wQw.2 ⟨k,hk,rfl⟩))]
abbrev wQz:=@IntWalk.u16_in
theorem zYU (n:Int) {most:Int} (h0:0<=most) (h1:most<=65535):0<=zQY n most/\zQY n most<=most:=by
 unfold zQY;rw [wQb most ⟨by omega,by omega⟩];have a2:=@zZH (wrap .i64 (Int.tdiv n 8)) 2 (by omega) (by omega);have a4:=@zZH (wrap .i64 (Int.tdiv n 8)) 4 (by omega) (by omega);split
 ·omega
 ·split
  ·omega
  ·split
   ·rw [wQb (most+_) ⟨by omega,by omega⟩];have e:Int.tdiv (most+modS (wrap .i64 (Int.tdiv n 8)) 2) 2=(most+modS (wrap .i64 (Int.tdiv n 8)) 2) / 2:=wQY (by omega);rw [e,wQb _ ⟨by omega,by omega⟩,wQz _ ⟨by omega,by omega⟩];omega
   ·split
    ·rw [wQz _ ⟨by omega,by omega⟩];omega
    ·rw [wQb (most+1) ⟨by omega,by omega⟩];have a:=@zZH (wrap .i64 (Int.tdiv n 8)) (most+1) (by omega) (by omega);rw [wQz _ ⟨by omega,by omega⟩];omega
theorem jUY (n0 n1 n2 n3 n4:Int) {most:Int} (h0:0<=most) (h1:most<=65535):(zJq n0 n1 n2 n3 n4 most).ok most=true/\0<=(zJq n0 n1 n2 n3 n4 most).a/\0<=(zJq n0 n1 n2 n3 n4 most).b/\0<=(zJq n0 n1 n2 n3 n4 most).c/\0<=(zJq n0 n1 n2 n3 n4 most).al:=by
 have hf:=zYU n4 h0 h1;have key:∀ a f:Int,0<=a->a<=f->f<=most->Px.ok ⟨zQY n0 a,zQY n1 a,zQY n2 a,a,f⟩ most=true/\0<=zQY n0 a/\0<=zQY n1 a/\0<=zQY n2 a/\0<=a:=λa f k0 k1 k2=>by
  have q0:=zYU n0 k0 (by omega);have q1:=zYU n1 k0 (by omega);have q2:=zYU n2 k0 (by omega);simp [Px.ok];omega
 unfold zJq;simp only;split
 ·have ha:=zYU (wrap .i64 (Int.tdiv n3 3)) hf.1 (by omega);exact key _ _ ha.1 ha.2 hf.2
 ·exact key _ _ hf.1 (Int.le_refl _) hf.2
def Px.fine (p:Px) (most:Int):Prop:=p.ok most=true/\0<=p.a/\0<=p.b/\0<=p.c/\0<=p.al
theorem jVP (mood:Int) (L:Nat) (xs:List DV) {most:Int} (h0:0<=most) (h1:most<=65535) (k:Nat):(gPx mood L xs most k).fine most:=by
 have hz:Px.zero.fine most:=⟨by simp [Px.ok,Px.zero,h0],by decide,by decide,by decide,by decide⟩
 have hp:∀ k,(gPx1 L xs most k).fine most:=λk=>jUY _ _ _ _ _ h0 h1;unfold gPx;split
 ·exact hz
 ·split
  ·obtain ⟨a,b⟩:=hp k;refine ⟨?_,b.1,b.2.1,b.2.2.1,h0⟩;simp [Px.ok] at a |-;omega
  ·split
   ·exact hp 0
   ·exact hp k
theorem jQM (pw ph so mood:Int) (L:Nat) (xs:List DV) (x0 y0 x1 y1:Int) {most:Int} (h0:0<=most) (h1:most<=65535) (hc:1<=x1-x0/\x1-x0<=100/\1<=y1-y0/\y1-y0<=100):∀ p∈(zJO pw ph so mood L xs x0 y0 x1 y1 most).pixels,p.fine most:=by
 have hf:=(zGZ pw ph so mood L xs x0 y0 x1 y1 most hc).1;intro p hp;rw [zUQ pw ph so mood L xs x0 y0 x1 y1 most _ _ rfl rfl] at hf hp;split at hf
 ·rename_i hs;rw [if_pos hs,Im.pixels_so hf rfl] at hp;obtain ⟨_,rfl⟩:=wYp.1 hp;exact jVP _ _ _ h0 h1 _
 ·rename_i hs;rw [if_neg hs] at hp
  cases hk:ofOk (zJw pw 5 x0 x1 pw) (zJw ph 4 y0 y1 pw) (zQs mood L xs most (wrap .i64 (zJw pw 5 x0 x1 pw*zJw ph 4 y0 y1 pw)).toNat).length with
  | true=>
   rw [(jKI hk).2] at hp;unfold zQs at hp;obtain ⟨k,_,rfl⟩:=wQw.1 hp;exact jVP _ _ _ h0 h1 _
  | false=>
   rw [jQD hk] at hf;exact absurd hf (by decide)
def okO (bits:Int) (mn:Nat):List Oq->List Oq->Option (List Oq)
 | [],st=>some st
 | o::r,st=>if errO bits mn o st=0 then okO bits mn r (zXR o st) else none
theorem zKh {bits:Int} {mn:Nat}:∀ (l m:List Oq) (st:List Oq),okO bits mn (l++m) st=(okO bits mn l st).bind (okO bits mn m)
 | [],m,st=>rfl
 | o::l,m,st=>by
  simp only [List.cons_append,okO];split
  ·exact zKh l m _
  ·rfl
theorem jKb {bits:Int} {mn:Nat}:∀ (l m:List Oq) (i:Int) (st st':List Oq),okO bits mn l st=some st'->runO bits mn (l++m) i st=runO bits mn m (i+l.length) st'
 | [],m,i,st,st',h=>by
  simp only [okO,wQa] at h;subst h;simp
 | o::l,m,i,st,st',h=>by
  simp only [okO] at h;split at h
  ·rename_i he;simp only [List.cons_append,runO];rw [if_pos he,jKb l m _ _ _ h];congr 1;simp only [wQu,Int.natCast_add,Int.natCast_one];omega
  ·cases h
variable {st:List Oq}
theorem jYd {bits:Int} (h:st≠[]):errO bits mn popO st=0:=by
 have h1:popO.kind=3:=rfl;have h2:popO.fields=true:=by decide
 unfold errO;rw [if_neg (by rw [h1]; simp),if_neg (by rw [h2]; simp),if_pos h1,if_neg h]
theorem jVB {bits:Int} {mn:Nat}:∀ (n:Nat) (st:List Oq),n<=st.length->okO bits mn (List.replicate n popO) st=some (st.take (st.length-n))
 | 0,st,_=>by simp [okO]
 | n+1,st,h=>by
  have hne:st≠[]:=by intro e; subst e; simp at h
  have h1:popO.kind=3:=rfl;rw [wZF,okO,if_pos (jYd hne)];have e:zXR popO st=st.dropLast:=by unfold zXR; rw [if_neg (by rw [h1]; decide),if_pos h1]
  rw [e,jVB n _ (by simp; omega),wZU,List.take_take];congr 2;simp; omega
theorem jXV {bits:Int} (h:errO bits mn o st=0):okO bits mn [o] st=some (zXR o st):=by
 simp only [okO]; rw [if_pos h]
theorem zUP {n c:Int} (h : -100<=c/\c<=100) : -200<=gOff n c/\gOff n c<=200:=by
 have b:=@zZH (wrap .i64 (Int.tdiv n 3)) 9 (by omega) (by omega);unfold gOff;split<;>omega
abbrev wXc:=@Decidable.not_not
theorem yZC {bits:Int} {mn:Nat} {r:Rw} {push:Bool} {c:Rc} {most:Int} {st:List Oq} (hm:1<=mn/\mn<=64) (hc:(-100<=c.a/\c.a<=100) /\ -100<=c.b/\c.b<=100) (hb:zQi bits=most) (h0:0<=most/\most<=65535) (hl:st.length<64) :
  errO bits mn (gOp r push mn c (ctxB st) most) st=0:=by
 have b1:=@zZH r.im mn (by omega) (by omega);have b2:=@zZH (wrap .i64 (Int.tdiv r.ma 4)) mn (by omega) (by omega);have b3:=@zZH (wrap .i64 (Int.tdiv r.ope 2)) 12 (by omega) (by omega);have b4:=@zZH (wrap .i64 (Int.tdiv r.mo 2)) 12 (by omega) (by omega);have o1:=@zUP r.x c.a hc.1;have o2:=@zUP r.y c.b hc.2;have o3:=@zUP r.mx c.a hc.1;have o4:=@zUP r.my c.b hc.2;have s1:=zYU (wrap .i64 (Int.tdiv r.op 2)) h0.1 h0.2;unfold errO;rw [hb];rw [if_neg (by simp [gOp]; cases push<;>simp)]
 rw [if_neg (by
  cases push<;>simp only [gOp,Oq.fields]<;>by_cases q:modS r.ma 4=0<;>simp [q]<;>omega)]
 rw [if_neg (by cases push<;>simp [gOp])]
 rw [if_neg (by
  cases push<;>simp only [gOp]<;>by_cases q:modS r.ma 4=0<;>simp [q]<;>omega)]
 rw [if_neg (by
  simp only [wXc,jQp,gOp]
  refine ⟨?_,?_,?_,?_⟩<;>split<;>omega)]
 rw [if_neg (by simp only [gOp]; split<;>omega)];rw [if_neg (by simp only [gOp]; split<;>omega)];rw [if_neg (by simp only [gOp]; split<;>omega)]
 rw [if_neg (by
  simp only [gOp];intro ⟨h1,h2⟩;rw [h2] at h1
  simp at h1)]
 rw [if_neg (by omega)]
theorem Scn.bits_max (s:Scn):zQi s.bits=s.most/\zV0 s.bits=true:=by
 have:=s.most_in;unfold Scn.bits
 rcases this with h | h<;>rw [h]<;>decide
theorem Scn.run_okO (s:Scn) (k:Nat) (hk:k<=9):okO s.bits s.ims.length (s.run k).1 []=some (s.run k).2:=by
 induction k with
 | zero=>rfl
 | succ k ih=>
  have ih:=ih (by omega);have hl:=s.run_len k;have F:=s.c_facts;have li:=s.ims_len;have hm:0<=s.most/\s.most<=65535:=by rcases s.most_in with h | h<;>rw [h]<;>omega
  by_cases h:modS (rwAt s.rxs (k*11)).k 8=0/\0<(s.run k).2.length
  ·rw [Scn.run_pop h,zKh,ih];have hne:(s.run k).2≠[]:=by intro e; rw [e] at h; simp at h
   show okO _ _ [popO] _=_
   rw [jXV (jYd hne)];rfl
  ·obtain ⟨r1,r2⟩:=Scn.run_op h rfl;have he:=@yZC s.bits s.ims.length (rwAt s.rxs (k*11)) (decide (modS (rwAt s.rxs (k*11)).k 8<3)) s.c s.most (s.run k).2 (by omega) (by omega) s.bits_max.1 hm (by omega);have hkd:(gOp (rwAt s.rxs (k*11)) (decide (modS (rwAt s.rxs (k*11)).k 8<3)) s.ims.length s.c (ctxB (s.run k).2) s.most).kind=if modS (rwAt s.rxs (k*11)).k 8<3 then 2 else 1:=by simp [gOp]
   generalize gOp (rwAt s.rxs (k*11)) (decide (modS (rwAt s.rxs (k*11)).k 8<3)) s.ims.length s.c (ctxB (s.run k).2) s.most=o at *;by_cases h2:o.kind=2
   ·rw [r1 h2,zKh,ih]
    show okO _ _ [o] _=_
    rw [jXV he];unfold zXR;rw [if_pos h2]
   ·have h3:o.kind≠3:=by rw [hkd]; split<;>decide
    rw [r2 h2,zKh,ih]
    show okO _ _ [o] _=_
    rw [jXV he];unfold zXR;rw [if_neg h2,if_neg h3]
theorem Scn.ops_ok (s:Scn):okO s.bits s.ims.length s.ops []=some []:=by
 unfold Scn.ops;rw [zKh,s.run_okO _ (by omega)]
 show okO _ _ _ _=_
 rw [jVB _ _ (Nat.le_refl _),wZs];rfl
theorem Scn.ops_len (s:Scn):s.ops.length<=18:=by
 have:=s.run_len (min s.rn 9);unfold Scn.ops;simp; omega
theorem Scn.ops_run (s:Scn):runO s.bits s.ims.length s.ops 0 []=(0,0):=by
 have:=jKb s.ops [] 0 [] [] s.ops_ok;rw [wQ1] at this;rw [this];simp [runO]
theorem Scn.frame_ok (s:Scn) (h1:mn<=64) (h2:pn<=4096):zYD s.bits s.c s.gtw s.gth s.ord mn pn=0:=by
 obtain ⟨c1,c2,c3⟩:=s.cnt;obtain ⟨f1,f2,f3,f4,f5,f6⟩:=s.facts;have CF:=s.c_facts;have he:Rc.empty s.c=false:=by rw [Rc.empty_iff]; omega
 refine jUZ s.bits_max.2 he ?_ ((jQp _).2 (by omega)) ((jQp _).2 (by omega)) c1 ?_ h1 h2
 ·unfold Rc.area;rw [he,CF.1,CF.2.1];have:=wQv f3.2 f4.2 (by omega) (by omega);simp; omega
 ·have ht:=s.tiles_in;exact (yQn (l:=ints s.oxs) ht.1 (by omega)).1
theorem Scn.fine (s:Scn):∀ m∈s.ims,m.formed=true/\(m.w<=100/\m.h<=100)/\m.valid s.most=0/\∀ more,(zYh m more).valid s.most=0:=by
 have CF:=s.c_facts;have hq:1<=s.c.c-s.c.a/\s.c.c-s.c.a<=100/\1<=s.c.d-s.c.b/\s.c.d-s.c.b<=100:=by have:=s.facts; omega
 have hm:0<=s.most/\s.most<=65535:=by rcases s.most_in with h | h<;>rw [h]<;>omega
 have key:∀ m:Im,m.formed=true->m.w<=100/\m.h<=100->(∀ p∈m.pixels,p.fine s.most)->m.formed=true/\(m.w<=100/\m.h<=100)/\m.valid s.most=0/\∀ more,(zYh m more).valid s.most=0:=λm h1 h2 h3=>by
  refine ⟨h1,h2,(Im.valid_iff h1 _).2 λp hp=>(h3 p hp).1,λmore=>(Im.valid_iff (zVU h1 h2 more) _).2 λp hp=>?_⟩;rw [jQL h1 h2 more] at hp;exact (h3 p hp).1
 intro m hmem;unfold Scn.ims at hmem;split at hmem
 ·rw [wQk] at hmem;subst hmem;have F:=s.facts;have hf:zZs s.gw s.gh=true:=by
   have:=wQv F.2.2.1.2 F.2.2.2.1.2 (by omega) (by omega);simp [zZs]; omega
  refine key _ (zY0 _ hf) ⟨by show s.gw<=100; omega,by show s.gh<=100; omega⟩ λp hp=>?_;change p∈(zZl s.gw s.gh ⟨s.most,0,0,s.most,s.most⟩).pixels at hp;rw [Im.pixels_of (zY0 _ hf),Im.list,wQw] at hp;obtain ⟨k,_,rfl⟩:=hp;have e:(zZl s.gw s.gh ⟨s.most,0,0,s.most,s.most⟩).nth k=⟨s.most,0,0,s.most,s.most⟩:=by simp [Im.nth,Im.px,zZl]
  change ((zZl s.gw s.gh ⟨s.most,0,0,s.most,s.most⟩).nth k).fine s.most;rw [e];exact ⟨by simp [Px.ok]; omega,by simp only; omega,by simp only; omega,by simp only; omega,by simp only; omega⟩
 ·simp only [Scn.pics,wQw] at hmem;obtain ⟨k,_,rfl⟩:=hmem;obtain ⟨gf,g1,g2,g3,g4⟩:=zGZ (nAt s.pxs (k*5)) (nAt s.pxs (k*5+1)) (nAt s.pxs (k*5+2)) (nAt s.pxs (k*5+3)) (lAt s.pxs (k*5+4)) (cAt s.pxs (k*5+4)) s.c.a s.c.b s.c.c s.c.d s.most hq;exact key _ gf ⟨g2,g4⟩ λp hp=>jQM _ _ _ _ _ _ _ _ _ _ hm.1 hm.2 hq p hp
end Go.Proofs.YtbnmadpcdlnleaaGreatDoor
