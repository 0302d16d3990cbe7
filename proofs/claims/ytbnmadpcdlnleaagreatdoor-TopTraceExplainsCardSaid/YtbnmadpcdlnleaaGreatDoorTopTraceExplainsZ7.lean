/-
  Part 7 of what TopTraceExplains rests on.
-/
import Derived.Test.YtbnmadpcdlnleaaGreatDoorTopTraceExplainsZ6
import Derived.Test.YtbnmadpcdlnleaaGreatDoorRows
import Derived.LaidMore
import Derived.Stop.Joined
import Derived.Shelf.Vars
namespace Go.Proofs.YtbnmadpcdlnleaaGreatDoor
open Go.RowKit
set_option linter.unusedVariables false
set_option linter.unusedSimpArgs false
set_option maxRecDepth 20000
set_option maxHeartbeats 4000000
open Go.Proofs.Tryz (prog)
variable {L:List Lv} {m k:Int}
section
attribute [local irreducible] Ans AnsO AnsG AnsN AnsI
theorem jWn (most:Int):zZd ⟨AV.tup [AV.one (Cl.ptr 0 0),AV.one (Cl.d (DV.int .i64 0))],[Bx.cells [Cl.d (DV.int .u16 most),Cl.ref 1 1],Bx.row 270 23 (lvs [zQI])],true⟩:=by
 refine ⟨⟨trivial,rfl,trivial⟩,⟨rfl,trivial,trivial⟩,λd hd=>?_,trivial⟩;have e:lvs [zQI]=zQI.cells:=by simp [lvs]
 rw [e] at hd;exact (by decide:∀ d∈zQI.cells,d.flat=true) d hd
def opnO (L:List Lv):List Oq:=(L.drop 1).map Lv.op
def zKg (L:List Lv) (o:Oq):Oq:=if o.kind=3 then (topL L).op else o
def jW1 (m:Int) (ms:List Im) (x y:Int) (L:List Lv) (o:Oq):Prop:=
 ((zZX (zKg L o).x=true/\zZX (zKg L o).y=true/\zZX (zKg L o).mx=true/\zZX (zKg L o).my=true)/\(zKg L o).mask<=1000000000/\isNm (zKg L o).oper=true/\isNm (zKg L o).mode=true) /\
 ((o.kind=1/\(srcS ms o x y).ok m=true/\zQq m o (srcS ms o x y) (zQJ ms o x y)=zQh m o (srcS ms o x y) (zQJ ms o x y)/\(zQh m o (srcS ms o x y) (zQJ ms o x y)).2=true/\zZc m L o (zQh m o (srcS ms o x y) (zQJ ms o x y)).1=true) \/
  (o.kind=2/\L.length<65) \/
  (o.kind=3/\2<=L.length/\((topL L).op.mask≠0->zQJ ms (topL L).op x y<=m)/\(topL L).op.opac<=m/\(topL L).acc.ok (topL L).back m=true/\zQq m (topL L).op (resE (topL L).acc (topL L).back m) (zQJ ms (topL L).op x y)=zQh m (topL L).op (resE (topL L).acc (topL L).back m) (zQJ ms (topL L).op x y) /\
   (zQh m (topL L).op (resE (topL L).acc (topL L).back m) (zQJ ms (topL L).op x y)).2=true/\zZc m L.dropLast (topL L).op (zQh m (topL L).op (resE (topL L).acc (topL L).back m) (zQJ ms (topL L).op x y)).1=true))
theorem zHx (L:List Lv):opnO L=(L.map Lv.op).drop 1:=by unfold opnO; rw [List.map_drop]
theorem jZX (m:Int) (L:List Lv) (o:Oq) (p:Px):opnO (zQB m L o p)=opnO L:=by
 rw [zHx,zHx];congr 1;unfold zQB;split
 ·rcases wZn L with rfl | ⟨P,t,rfl⟩
  ·rfl
  ·rw [wZo,zQT,zWa]; simp
 ·rfl
theorem jUu (L:List Lv):opnO L.dropLast=(opnO L).dropLast:=by
 rw [zHx,zHx]
 cases L with
 | nil=>rfl
 | cons a L=>cases L with
  | nil=>rfl
  | cons b L=>simp [List.map_dropLast]
theorem jGn (h:2<=L.length):zJ7 L=(topL L.dropLast).acc:=by
 unfold zJ7 lvN topL;rw [if_neg (by omega),wZV,List.getElem?_dropLast,if_pos (by omega),show L.length-1-1=L.length-2 by omega]
theorem jY0 (h:2<=L.length) (h1:(topL L).acc.ok (topL L).back m=true) (h2:(zQh m (topL L).op (resE (topL L).acc (topL L).back m) k).2=true) (h3:zZc m L.dropLast (topL L).op (zQh m (topL L).op (resE (topL L).acc (topL L).back m) k).1=true):
  popL m L k=zQB m L.dropLast (topL L).op (zQh m (topL L).op (resE (topL L).acc (topL L).back m) k).1:=by
 unfold popL resB;rw [jYQ,if_neg (by omega),if_neg (by rw [h2]; decide),h1,h3];rfl
structure yQ5 (s:Scr) (x y:Int):Prop where
  full:zQH (zQi s.bits)=true
  ims:∀ m∈s.ims,m.isU
  len:s.ops.length<=5000
  hx : -1073741824<=x/\x<=1073741824
  hy : -1073741824<=y/\y<=1073741824
  step:∀ (k:Nat) (o:Oq),s.ops[k]?=some o->jW1 (zQi s.bits) s.ims x y (runT (zQi s.bits) s.ims x y s.ops k).2 o
  fin:(runT (zQi s.bits) s.ims x y s.ops s.ops.length).2.length=1
def yQF:Gam:={yQG.add [.q 105 ([true],0,2) (λv b=>some ⟨AV.tup [aPz,aJ 0],[bC [cK (nAt (ut v) 0),Cl.ref 1 1],Bx.row 270 23 (lvs [zQI])],true⟩),
 .q 62 ([true,true,true,false],1,1) (λ| [AV.agg [Cl.d (DV.int _ bits),Cl.d (DV.int _ cx0),Cl.d (DV.int _ cy0),Cl.d (DV.int _ cx1),Cl.d (DV.int _ cy1),Cl.d (DV.int _ tw),Cl.d (DV.int _ th),Cl.d (DV.sl on oxs),Cl.d (DV.sl mn mxs),Cl.d (DV.sl pn pxs)],AV.one (Cl.d (DV.int _ x)),AV.one (Cl.d (DV.int _ y)),AV.one (Cl.clo 63 [Cap.ptr 0 0])],[Bx.cells [Cl.ref 1 0],Bx.row _ _ ([]:List DV)]=>some ⟨AV.agg (pC (resE (topL (runT (zQi bits) (zQF mxs) x y (zQo pxs) (zQo pxs).length).2).acc (topL (runT (zQi bits) (zQF mxs) x y (zQo pxs) (zQo pxs).length).2).back (zQi bits))),[bC [Cl.ref 1 (runT (zQi bits) (zQF mxs) x y (zQo pxs) (zQo pxs).length).1.length],Bx.row 79 18 (mcs (runT (zQi bits) (zQF mxs) x y (zQo pxs) (zQo pxs).length).1)],false⟩ | _,_=>none)] with keep:=λd=>Nat.beq d 59}
theorem jX9 (most:Int) (hf:zQH most=true):AnsG prog 105 0 [aO (cK (most))] [] ⟨AV.tup [aPz,aJ ((0))],[bC [cK (most),Cl.ref 1 1],bR 270 23 (lvs [zQI])],true⟩:=
 wd yQF aL Tryz.func105 (let c:=(⟨AV.tup (rO 0 yJ),aBN (bJ most (yK 1)) (aBM 270 23 (lvs [zQI]) []),true⟩:Ret);let b:=aE 0;let a:=aB 0;let d:=True/\True/\True/\True/\mP (uE (kE jD) most (eS (1:Nat)) (aB 2::a::a::a::a::a::a::eV 0 0 0 true false (aDN 0 0 0 0 0 0 0 [b,b,b,b])=lvs [zQI])) c;True/\True/\fQ (rG most 255) (gV (most !=65535) (True/\False/\zZd c) d) (iW (most !=255) d)) λhwf hbx=>by
  delta eS aB aE bZ eV aW fQ iR kE jD gV iW nP bJ mP rG uE aBN aBM rO aDN yJ yK;simp only [sS];clear hwf hbx;have e:[DV.int .i64 2,DV.int .i64 0,DV.int .i64 0,DV.int .i64 0,DV.int .i64 0,DV.int .i64 0,DV.int .i64 0,DV.int .u16 0,DV.int .i64 0,DV.int .i64 0,DV.bool true,DV.bool false,DV.int .u16 0,DV.int .u16 0,DV.int .u16 0,DV.int .u16 0,DV.int .u16 0,DV.int .u16 0,DV.int .u16 0,DV.int .u16 0,DV.int .u16 0,DV.int .u16 0,DV.int .u16 0]=lvs [zQI]:=rfl;have hr:=jWn most;have hf:=wQE hf;refine ⟨λh1=>⟨λh2=>?_,λh2=>⟨e,hr⟩⟩,λh1=>⟨e,hr⟩⟩;have h1:most≠255:=by simpa using h1
  have h2:most≠65535:=by simpa using h2
  omega
def aPT (a:Nat) (b:wi) (c:wg):wg:=xX a 9003 b c
def aPW (a:List Oq) (b:Nat) (c:we):we:=aNY 9004 a b c
def aPR (a b c:Nat) (d:Scr) (e:Nat) (f:we):we:=dU a a b b (aNV c d e f)
def aNQ (a b:Nat) (c:List Cap) (d e f:Nat) (g:Scr) (h:Nat) (i:we):we:=aNP a b c (aPR d e f g h i)
def aPU (a b:Int) (c:we) (d:Nat) (e:wi) (f:Nat) (g:Scr) (h:wi) (i:wg):Snap:=wN a b c d e f (uH g h) i
def aPV (a:Nat) (b:Scr) (c:wi) (d:wg):wg:=aPT a (bJ (zQi b.bits) c) d
def aRK (a b:Int) (c:we) (d:Nat) (e:wi) (f:Nat) (g:Scr) (h:wi) (i:Nat) (j:wi) (k:wg):Snap:=aPU a b c d e f g h (aPV i g j k)
def aNR (a b:Nat) (c:List Cap) (d e f:Nat) (g:Scr) (h:Nat) (i:List Oq) (j:Nat) (k:we):we:=aNQ a b c d e f g h (aPW i j k)
def aRA (a b:Nat) (c:List Cap) (d e f:Nat) (g:Scr) (h:Nat) (i:Oq × List Oq) (j:Nat) (k:we):we:=aNR a b c d e f g h i.snd j k
def aRH (a:Nat) (b:List Cap) (c d e:Nat) (f:Scr) (g:Nat) (h:Oq × List Oq) (i:Nat) (j:we):we:=aRA a 63 b c d e f g h i j
def aBI (a:Nat) (b:List Cap) (c d e:Nat) (f:Scr) (g:Oq × List Oq) (h:Nat) (i:we):we:=aRH a b c d e f 11 g h i
def aQU (a b:Int) (c:we) (d:wi) (e:Nat) (f:Scr) (g:wi) (h:Nat) (i:wi) (j:wg):Snap:=aRK a b c 0 d e f g h i j
def aHQ (a:List DV) (b:List Lv):wg:=aMQ a 270 b
def aQY (a b:Int) (c:we) (d:wi) (e:Scr) (f:wi) (g:Nat) (h:wi) (i:wg):Snap:=aQU a b c d 4 e f g h i
def aRB (a b:Int) (c:we) (d:wi) (e:Scr) (f:Nat) (g:wi) (h:wg):Snap:=aQY a b c d e [] f g h
def yY (a b:Int) (c:we) (d:wi) (e:Scr) (f:wi) (g:wg):Snap:=aRB a b c d e 8 f g
def aEK (a b:Int) (c:Prop):Prop:=lZ a (aB b) (eS (0:Nat)/\True) (eS (0:Nat)) c
def aHS (a b:Prop) (c:Scr) (d e:Int) (f:Nat):Prop:=nW a b (oY c d e f) (lvs (iZ c d e f))
def aHT (a b:Int) (c:Scr) (d:Oq × List Oq) (e:Nat) (f:Prop):Prop:=aEK a b (qQ (aE (lS c)) (aKK (aFI d.snd) e f))
theorem jXH (s:Scr) (x y:Int) (hr:yQ5 s x y):AnsG prog 62 1 [AV.agg (sC s),aJ ((x)),aJ ((y)),aO (Cl.clo 63 [Cap.ptr 0 0])] [bC [Cl.ref 1 0],bR 79 18 ([]:List DV)] ⟨AV.agg (pC (resE (topL (runT (zQi s.bits) s.ims x y s.ops s.ops.length).2).acc (topL (runT (zQi s.bits) s.ims x y s.ops s.ops.length).2).back (zQi s.bits))),[bC [Cl.ref 1 ((runT (zQi s.bits) s.ims x y s.ops s.ops.length).1.length)],bR 79 18 (mcs (runT (zQi s.bits) s.ims x y s.ops s.ops.length).1)],false⟩:=
 wd yQF (let d:=[uN 0];aFV (um (λY=>kN Y s) (λm=>let A:=iZ s x y m;yY x y (aNQ 3 63 d 4 8 9 s 11 (aIM 13 9004 (opnO A) (mV 38 (iM s) (rQ 39 (aAS s) 40 m)))) [aJT (qG s x y m)] s [nR A] (kA 9004 61 12 (ops (opnO A)) (aHQ (oY s x y m) (iZ s x y m)))) (λX=>oK s.ops X) (λa=>let G:=rQ 39 (aAS s) 40 a;let n:=mV 38 (iM s) G;let H:=dU 22 22 23 23 n;let g:=iZ s x y a;let v:=iZ s x y a;let j:=[nR v];let p:=aHQ (oY s x y a) g;let k:=[aJT (qG s x y a)];let I:=aHD g (lS s);let J:=fG 15 15 n;let z:=opnO v;aHN (ul Oq (λW=>s.ops[a]?=some W) (λb=>yY x y (aNR 3 63 d 4 8 9 s 11 z a J) k s j (aLW 9004 61 12 (ops (opnO v)) 15 (mR b.kind (jK b.image b.x b.y b.mask (mR b.mx (aX (aB b.my) (aE b.opac) (gL b.oper b.mode (DV.bool b.iso) (DV.bool b.kno) []))))) p)) (λc=>cU (ul (Oq × List Oq) (λV=>V=(zKg g c,if c.kind=3 then List.dropLast z else z)) (λu=>yY x y (aBI 3 d 4 8 9 s u a (dU 15 15 16 16 (mV 38 (iM s) (aMZ 39 (aAS s) 40 a (aJU 100013 Cl.dead []))))) k s j (kA 9004 61 12 (ops u.snd) (pK 15 (uT c) 16 (uT u.fst) p))) (λe=>let h:=ops e.snd;let w:=uT e.fst;ul (Px × Int) (λU=>U=(srcS s.ims e.fst x y,zQJ s.ims e.fst x y)) (λF=>yY x y (aBI 3 d 4 8 9 s e a (fG 15 15 (dU 16 16 17 17 (aBH 18 F.snd 38 (iM s) G)))) k s j (aFD 9004 61 12 h 15 c (aDP 16 w 17 F.fst p))) (λE=>let f:=E.fst;let o:=E.snd;cU (Ann.cut (Inv.mk Mc (λ(T:Mc)=>c.kind≠2/\T=(if c.kind=3 then aAQ a 6 I else aAQ a 1 f)) (λ(l:Mc)=>let q:=l.inp;yY x y (aBI 3 d 4 8 9 s e a (fG 15 15 (dU 16 16 17 17 (wZ 18 o 19 19 n)))) k s j (kA 9004 61 12 h (pK 15 (uT c) 16 w (pK 17 (cN f) 19 (aHM l q.a q.b q.c q.al q.f (aEJ l.back.al l.back.f l.k l.out [])) p)))) (λ(z4:Mc)=>(0:Nat))) (jA (aQ (ul (List Lv) (λS=>S=zZ2 g c) (λD=>yY x y (aBI 3 d 4 8 9 s e a J) k s [nR D] (aFD 9004 61 12 h 15 c (aHQ (oY s x y a) D))) (λZ=>aL)) (aFE (ul Px (λR=>R=I) (λQ=>yY x y (aBI 3 d 4 8 9 s e a (fG 15 15 (dU 16 16 17 17 (wY 18 o (dU 19 19 20 20 n))))) k s j (aFD 9004 61 12 h 15 c (aDP 16 w 17 f (aDP 19 (cD (cI a)::aX (aB 1) (aE 0) (iV (cP (cP (cP (cP (oW 0 f.a (fN f.b f.c f.al f.f [])))))))) 20 Q p)))) (λz3=>aL))))) (λ(C:Mc)=>ul (List Mc × Px) (λP=>P=aAR (qG s x y a++[C]) a e.fst C.out o s) (λt=>yY x y (aBI 3 d 4 8 9 s e a (dU 15 15 17 17 (wZ 18 o 22 22 n))) [aJT t.fst] s j (aFD 9004 61 12 h 15 c (aDP 17 (cN f) 22 t.snd (aHQ (mU t) g)))) (λr=>ul Px (λO=>O=zJ6 g c) (λM=>aGO x y (aBI 3 d 4 8 9 s e a (dU 15 15 17 17 (wY 18 o H))) 0 [aJT r.fst] 4 (uH s []) 8 (iV (cP (cP []))) (vG 9003 (bJ (zQi s.bits) j) (aNA 9004 61 12 h 15 (uT c) 17 f (aDP 22 (cN r.snd) 23 M (aHQ (mU r) g))))) (λL=>ul (List Lv) (λK=>K=zXb (lS s) s.ims x y g c) (λB=>yY x y (aBI 3 d 4 8 9 s e a H) [aJT r.fst] s [nR B] (aNA 9004 61 12 h 22 (cN r.snd) 23 L (aHQ (mU r) B))) (λZ=>aL))))))))))))) Tryz.func62 (let t:=s.ops;let b:=lS s;let v1:=jI b s.ims x y t;let v2:=mcs v1.fst;let v3:=v1.fst;let v4:=aHD (jI b s.ims x y t).snd b;let z1:=aO (Cl.ptr 0 0);let J:=iM s;let z3:=pA s [kO s,kP s,J];let f:=eS z3;let z4:=lS s;let j:=eS dV;let x6:=aE b;let g:=jJ s;bF (dL (kB 47 s.bits (xQ b s.bits)) (aN (tE 105 (aDR b) ⟨AV.tup (rO 0 yJ),aBN (bJ (zQi s.bits) (yK 1)) (aBM 270 23 (lvs [zQI]) []),true⟩) (nE (∃ F:Nat,let w4:=iZ s x y F;kN F s/\eW (aEK x y (bM (iA z4 (aHR (qS 0 (opnO w4)) J t (dF F))))) (0=List.length (qG s x y F)/\True) f dV (aF (pB s (1=List.length (iZ s x y F))) (([]:List DV)=ops (opnO w4)) (([]:List DV)=oY s x y F) (pE [zQI] w4))) (∀ a:Nat,let G:=oY s x y a;let Z:=qG s x y a;let d:=iZ s x y a;let H:=kM d;let v5:=lV d;let Q:=resE v5 (topL H).back b;let v6:=aI Q;let y7:=lvs d;let R:=iZ s x y a;let z0:=[nR R];let v7:=fC d;let v8:=bJ b v7;let U:=aHR (eS (0:Nat)) J t (mJ a);let x3:=[Bx.cells v8,bR 270 23 (lvs d)];let z5:=(topL (kM d)).op;let u5:=List.dropLast H;let o:=pB s (eS (List.length d));let t2:=eS y7;let t3:=zKp G;let t8:=[fO 1 Z];let x7:=aHD d b;let v:=aJF Z/\True;let w0:=aAU d;let s2:=lV d;let B:=opnO R;let c:=ops (opnO R);let W:=List.length B;let s8:=bM (fV (iM s) (cI (aAS s)) (eS (cI a)) True);let h:=dT W;let s9:=iK h 12;let r0:=lN h 12;let q:=dT W;let r3:=gT q 12;let w3:=aR q 12;let r4:=aFG B maxLen;let P:=opnO R;yW (kN a s) (dP a (aAS s)->(True/\cX a (aAS s) 12 g/\aN (aJE (fW g a 12) (mH g a 12) (pT g a 12) s (aV a 12) (iP a 12) (cB (aV a 12)) (pW a 12) (cM g (nI a 12)) (nI a 12) (xN a 12) (dW g (rP a 12))) (∃ v0:Oq,t[a]?=some v0/\aEK x y (bM (pV x6 (eS (0:Nat)) (aFI B) (mJ a) U))/\v/\f/\eS dV/\o/\aHS (eS c) (eF (cY g a 12) (fX g a 12) (gU g a 12) (fY g a 12) (kW g a 12) (tL g a 12) (zO g a 12) (eV (pF s (aV a 12)) (pF s (iP a 12)) (pF s (cB (aV a 12))) (bAt (jJ s) (rP a 12)) (bAt (jJ s) (fS (aV a 12))) [])=Oq.cells v0) s x y a))/\(∀ e:Oq,let x0:=zXb b s.ims x y d e;let n:=e.kind;let u8:=zJ6 d e;let u9:=zJ6 H e;let u:=eS (Oq.cells e);let x9:=n≠2;let s1:=(e.kind==3)=false;let z8:=Oq.cells e;let s4:=zZ2 d e;let z9:=zZ2 H e;let w2:=(zKg d e,if n=3 then List.dropLast B else B);t[a]?=some e->True/\True/\True/\mL n 3 (jH r4 (tK h B) (bV (jW c q 12) (oF c h 12) (uZ c h 12) (lW P w3) (lW P r3) (lW P r0) (lW P (lQ h 12)) (cM c (iJ h 12)) (aF (lW P (iJ h 12)) (lW P (mS h 12)) (dW c s9) (rK c w3))) (aM r4 (aCG W/\True/\True/\eS true/\(∃ y6:Oq × List Oq,fP (y6=w2) (aEK x y (qQ (aE z4) (aKK (qS (Int.toNat q) y6.snd) a s8))) v (f/\j/\o/\pN q 12 c=ops y6.snd/\aHS u (eF (tA c W 12) (iE c q 12) (mF c q 12) (jC c q 12) (jZ c q 12) (nQ c h 12) (qF c h 12) (eV (cE c w3) (cE c r3) (cE c r0) (bAt c s9) (bAt c (iL h 12)) [])=Oq.cells y6.fst) s x y a))))) (s1->(∃ y5:Oq × List Oq,fP (y5=w2) (aEK x y (qQ (aE z4) (aKK (zP B y5.snd) a s8))) v (f/\j/\o/\List.take (W*12) c=ops y5.snd/\aHS u (z8=Oq.cells y5.fst) s x y a)))/\(∀ m:Oq × List Oq,let T:=m.snd;let I:=ops T;let u2:=aHT x y s m a U;let M:=eS I;let p:=m.fst;let z6:=eS (Oq.cells p);let s5:=(srcS s.ims p x y,zQJ s.ims p x y);let s6:=srcS (zQF (eO s)) p x y;let s7:=zQJ (zQF (eO s)) p x y;m=w2->bF (dL (Ans prog 106 (rA z3::rA (Oq.cells p)::iF x y) (rN (aI s6) s7)) (∃ y4:Px × Int,bV (y4=s5) (aHT x y s m a (bW (aHR (aE s7=aE y4.snd) J t (mJ a)))) v f j o M u (aHS z6 (rL s6 y4.fst) s x y a)))/\(∀ y3:Px × Int,let l:=y3.snd;let L:=y3.fst;let u0:=zQq b e L l;let u1:=zQB b H e u0.fst;let u3:=zQB b H e u0.fst;let u4:=zQq b z5 Q l;let u6:=zQB b u5 z5 u4.fst;let u7:=zQB b u5 z5 u4.fst;let V:=eS (aI L);let t0:=iA l U;let t7:=qQ (aE l) U;let x8:=if n=3 then aAQ a 6 x7 else aAQ a 1 L;let t9:=yM a 1 (aGV 0 (yL 0 0 0 0 0 0 0 L));let s0:=aHT x y s m a (bM t7);y3=s5->eU (True/\True/\True/\(True/\qT n 2 (gK (AnsG prog 107 1 (z1::cL (aBK e []) []) x3 (aIH (bZ (aB 0)) b (fC z9) 270 z9)) (∃ y2:List Lv,y2=s4/\aEK x y (bM (pV x6 (eS (0:Nat)) (aFI T) (mJ a) U))/\v/\f/\eS dV/\pB s (nX z9 y2)/\gA I z8 G (pE z9 y2))/\(∀ E:List Lv,let A:=aAU E;let w1:=t3++[(⟨(a:Int),5,⟨0,0,0,0,0⟩,⟨0,0,0,0,0⟩,0,A⟩:Mc)];let s3:=mcs w1;E=s4->cV (aFL (aFH 12 88 T z8) (yN 108 0 [] s E 270 [] (cN A) 270 [] [nR E] 270 []) (aY (aHP 63 1 (cL (cD (cI a)::aX (aB 5) (aE 0) (iV (cP (cP (cP (cP (oW 0 A.a (fN A.b A.c A.al A.f [])))))))) (rO 0 [])) t8 79 18 G [] (AV.tup []) [fO 1 w1] s3) (∃ D:Nat,let z7:=iZ s x y D;kN D s/\bV (uL s D a) (pR x (dE (aB y) (eS (0:Nat)/\True) (bW (iA z4 (aHR (aCH T (opnO z7)) J t (bS a D)))))) (aEL w1 (qG s x y D)) f j (pB s (nX E z7)) (I++z8=ops (opnO z7)) (s3=oY s x y D) (pE E z7/\True)))))) (cS (n==2) (mI n 3 (True/\yN 110 0 [] s d 270 [] (qE s2) 270 [] z0 270 []/\True/\yN 108 0 [] s d 270 [] (cN w0) 270 [] z0 270 []/\dL (aDL 109 (dH s2) (aAE w0 b) v6 v5 w0 b) (∃ w9:Px,w9=x7/\aHT x y s m a (bW t0)/\bV v f j o M u z6 V (aHS (eS t9) (rL Q w9) s x y a))) (∀ w8:Px,w8=x7->True/\True/\True/\True/\(∃ w7:Mc,(x9/\w7=x8)/\bV s0 v f j o M u z6 (aHS V (yM a 6 (aGV 0 (yL 0 0 0 0 0 0 0 w8))=aHO w7) s x y a)))) (s1->(∃ w6:Mc,eW (x9/\w6=x8) s0 v z3 (bV j o M u z6 V (t9=aHO w6) (eS G) (t2/\True))))))/\(∀ k:Mc,let t1:=aAR (Z++[k]) a p k.out l s;let O:=k.inp;let x4:=(⟨k.at_,k.kind,O,k.back,k.k,k.out⟩:Mc);let x5:=zX1 (t3++[x4]) x4.at_ p x4.out l b;let t4:=mU x5;let t5:=x5.snd;let t6:=x5.fst;x9/\k=x8->aEQ (aHP 111 1 (cL (aBK p []) (cL (aHM k O.a O.b O.c O.al O.f (aEJ k.back.al k.back.f k.k k.out [])) [bZ (aE l),bZ x6,aO (Cl.clo 63 [uN 0])])) t8 79 18 G [] (aDJ t5) [fO 1 t6] t4) (∃ Y:List Mc × Px,bV (Y=t1) (aHT x y s m a t7) (aEL t6 Y.fst) f j o M u (aF V (aI t5=aAB Y.snd) (t4=mU Y) t2))/\(∀ X:List Mc × Px,let z:=X.snd;let S:=mU X;let x1:=aI z;let x2:=aJF X.fst/\True;zE (X=t1) (aY (yN 112 0 (cL (aBK e []) []) s d 270 [] (cN u9) 270 [] z0 270 []) (∃ w5:Px,w5=u8/\bV (aHT x y s m a (bM t0)) x2 f j o M u V (nW (eS x1) (rL u9 w5) S (lvs R)))) (∀ r:Px,r=u8->bF (dN n 3 (True/\AnsG prog 113 1 (z1::aDR l) x3 (aIH (aBD b z5 Q l yJ) b (fC u7) 270 u7)/\(∃ y1:List Lv,fP (y1=x0) u2 x2 (eW f j (pB s (nX u6 y1)) I (gA x1 (aI r) S (pE u6 y1)))))/\uS n 3 (True/\True/\True/\AnsG prog 114 1 (z1::yH e L (aDR l)) x3 (aIH (aBD b e L l yJ) b (fC u3) 270 u3)/\(∃ y0:List Lv,eW (y0=x0) u2 x2 z3 (fP j (pB s (nX u1 y0)) (eS I) (gA x1 (aI r) S (pE u1 y0))))))/\(∀ w:List Lv,let y8:=Ac.col (lV w);let y9:=zKp S++[(⟨(a:Int),4,z,r,0,y8⟩:Mc)];let v9:=mcs y9;let K:=lV w;w=x0->True/\True/\True/\True/\dY (yN 110 0 [] s w 270 [] (qE (lV w)) 270 [] [nR w] 270 []) (kD 115 (aGQ K.a K.b K.c K.al K.own [aE K.f]) [] (vU y8)) (cR (aHP 63 1 (cL (aX (cI a) (aB 4) (fN z.a z.b z.c z.al (fN z.f r.a r.b r.c (aEJ r.al r.f 0 y8 [])))) (rO 0 [])) [fO 1 X.fst] 79 18 S [] (AV.tup []) [fO 1 y9] v9) (eS true) (∃ C:Nat,let z2:=iZ s x y C;kN C s/\uL s C a/\eW (aEK x y (bM (iA z4 (aHR (zP T (opnO z2)) J t (bS a C))))) (aEL y9 (qG s x y C)) f dV (aF (pB s (nX w z2)) (I=ops (opnO z2)) (v9=oY s x y C) (pE w z2))))))))))))) a (aAS s) (gI (aNG 116 2 [z1] v8 (aBM 270 23 y7 []) (aNF (AV.tup (cL (cN Q) yJ)) b v7 270 d [])/\eS (lU (bJ b z0) 270 23 y7 [])) (True/\True/\True/\True/\mP (aW (rX (v6=vU v4)) (aEL Z v3) (G=v2)) (aLV (aDJ v4) [fO 1 v3] v2)))))))) λhwf hbx=>by
  delta eS aB aR bI dY jW aE aT aF fD bQ bZ aM aY bU tE aEQ dN uS aX gL jK aBK dE pV aN lZ eF bM eV dL bW cR gA iA nE zE cI aW mO aV bS bP fV iP fQ dF pN aI bV gI cV zN bN cS pR kD cX cY dP iQ jM dV fX fY fW gT iE gU jC jZ oF mF kW mH uZ pT mI oK eU kL cE cB bG bF qS iR fP kB tK gK eW dW aFG iF dT zP qT mJ pW qQ aCG tL aFI aFH xN nI zO aCH aFL mL xQ eX dH nP aFY aAB bJ fN iV cP oW cN aBF aAE qE aDT vU nW aGQ bY mP rX jH cM lU fC aDJ cL nX pE kM yH fS rK lN lQ mS iJ iL iK nQ qF aDL aJD rL aBN aBM rO yJ yK eO rN fO aHB aNG aNF kO iM kP jI jJ lS kN nR mU aEJ qG iZ oY lV aAQ aAR lW aLK aGW aAS pB pF aIH yL yM uL pA aJF aKK rP aAU aJE aDR yN aGV tA aBD aHD yW uN aHM aHO aLV aHP aHR aEK aEL aHS aHT;simp only [sS];clear hwf hbx;obtain ⟨hf,hu,hl,hx,hy,hm,hfin⟩:=hr;simp only [zXk,zQS,zQz,zUk];have mx:=zZ7 s.bits;generalize zQi s.bits=most at *;have hT:=zUu most s.ims x y s.ops;have hM:=ug
  refine ⟨mx,jX9 most hf,⟨0,wQi _,⟨rfl,rfl⟩,rfl,rfl,rfl,rfl,rfl⟩,λk hk=>⟨λhlt=>?_,λhge=>?_⟩⟩
  ·have hk:k<s.ops.length:=by omega
   obtain ⟨t1,t2,t3⟩:=hT k;have q1:=zVi hk;have q2:=zVj hk;have lb:0<=(k:Int)/\(k:Int)<(s.ops.length:Int)/\k*12<(ops s.ops).length:=⟨by omega,by omega,by rw [zQK]; omega⟩
   have w1:IntKind.wrap .i64 ((k:Int)+1)=((k+1:Nat):Int):=zXj (by omega);have e1:∀ o,s.ops[k]?=some o->runT most s.ims x y s.ops (k+1)=stT most s.ims x y k (runT most s.ims x y s.ops k) o:=λo ho=>by rw [runT,ho]; rfl
   simp only [q2,w1];refine ⟨⟨lb,q1,s.ops[k],List.getElem?_eq_getElem hk,rfl⟩,λo ho=>?_⟩;clear q1 q2 lb;have e1:=e1 o ho;have hm:=hm k o ho;clear ho hT;generalize runT most s.ims x y s.ops k=z at *;obtain ⟨tr,L0⟩:=z;simp only at t1 t2 t3 hm e1 |-;obtain ⟨⟨nn,nm,nA,nB⟩,hm⟩:=hm;have lO:(opnO L0).length=L0.length-1:=by simp [opnO]
   have tkA:∀ st:List Oq,List.take (st.length*12) (ops st)=ops st:=λst=>wQW (by rw [zQK]; omega);refine ⟨⟨λh3=>?_,λh3=>?_⟩,λw hw=>?_⟩
   ·have h3:o.kind=3:=by simpa using h3
    obtain ⟨_,g2,_⟩:o.kind=3/\2<=L0.length/\True:=by
     rcases hm with h | h | h
     ·exact absurd h.1 (by omega)
     ·exact absurd h.1 (by omega)
     ·exact ⟨h.1,h.2.1,trivial⟩
    have wO:IntKind.wrap .i64 (((opnO L0).length:Int)-1)=(((opnO L0).length-1:Nat):Int):=by rw [wQb _ ⟨by omega,by omega⟩]; omega
    have k3:(opnO L0).length-1<(opnO L0).length:=by omega
    have eL:(opnO L0)[(opnO L0).length-1]=(topL L0).op:=by
     rw [zYv t2];simp [opnO];congr 2;omega
    have q1:=zVi k3;have q2:=zVj k3;rw [eL] at q1 q2;simp only [wO,wQl,q1,q2,and_self,true_and];clear q1 q2;have eo:zKg L0 o=(topL L0).op:=by unfold zKg; rw [if_pos h3]
    have ld:(opnO L0).dropLast.length=(opnO L0).length-1:=wZV;have tkB:List.take (((opnO L0).length-1)*12) (ops (opnO L0))=ops (opnO L0).dropLast:=by
     rcases wZn (opnO L0) with e | ⟨Q,u,e⟩
     ·rw [e]; rfl
     ·rw [e,wZo,wQN];have:ops (Q++[u])=ops Q++u.cells:=by simp [ops]
      rw [this];exact wZQ (by rw [zQK]; simp)
    refine ⟨hM _ (by omega),⟨by omega,by omega⟩,hM _ (by omega),⟨by omega,by omega⟩,_,rfl,?_⟩;rw [eo,if_pos h3];exact ⟨ld.symm,tkB,rfl⟩
   ·have h3:¬ o.kind=3:=by simpa using h3
    have eo:zKg L0 o=o:=by unfold zKg; rw [if_neg h3]
    refine ⟨_,rfl,?_⟩;rw [eo,if_neg h3];exact ⟨rfl,tkA _,rfl⟩
   ·obtain ⟨f,st⟩:=w;simp only [wQc] at hw;obtain ⟨hw1,hw2⟩:=hw;rw [<- hw1] at nn nm nA nB;simp only;refine ⟨⟨zHl s f x y hu hx hy nn nm,_,rfl,rfl,rfl,rfl,rfl,rfl,rfl⟩,λp hp=>⟨⟨λh2=>?_,λh2=>⟨λh3=>?_,λh3=>?_⟩⟩,λe he=>?_⟩⟩
    ·have h2:o.kind=2:=by simpa using h2
     have lt:L0.length<65:=by
      rcases hm with h | h | h
      ·exact absurd h.1 (by omega)
      ·exact h.2
      ·exact absurd h.1 (by omega)
     rw [if_neg (by omega)] at hw2;subst hw2;have epu:zZ2 L0 o=L0++[⟨o,(zQM o.iso (topL L0).op.kno (topL L0).acc (topL L0).back).1,(zQM o.iso (topL L0).op.kno (topL L0).acc (topL L0).back).2⟩]:=by unfold zZ2; rw [if_pos ⟨h2,lt⟩]
     refine ⟨⟨zVs most L0 o t2 (by omega) ⟨h2,lt⟩,_,rfl,rfl,rfl⟩,λL hL=>?_⟩;have lL:L.length=L0.length+1:=by rw [hL,epu]; simp
     have oL:opnO L=opnO L0++[o]:=by
      rw [hL,epu]
      cases L0 with
      | nil=>simp at t2
      | cons q L0=>simp [opnO]
     have e2:runT most s.ims x y s.ops (k+1)=(tr++[⟨k,5,.zero,.zero,0,(topL L).back⟩],L):=by
      rw [e1]; unfold stT; rw [if_neg (by omega),if_pos h2,hL]
     refine ⟨⟨zQK _,rfl,by unfold maxLen; omega,by omega⟩,zYK most L (by omega) (by omega),zXV tr ⟨k,5,.zero,.zero,0,(topL L).back⟩ (by omega),k+1,by omega,by omega,⟨?_,rfl⟩,?_,?_,?_,?_,?_⟩<;>rw [e2]
     ·simp only [oL,wQh,wZW]
     ·rfl
     ·simp only [oL]; simp [ops]
     ·rfl
    ·have h3:o.kind=3:=by simpa using h3
     refine ⟨⟨zXK most L0 t2 (by omega),zYK most L0 t2 (by omega),zYg (topL L0).acc (topL L0).back most,_,rfl,rfl,rfl,rfl,rfl,rfl⟩,λr hr=>⟨_,⟨by omega,rfl⟩,?_⟩⟩;rw [if_pos h3,<- hr]
     repeat' (first | rfl | apply And.intro)
    ·have h3:¬ o.kind=3:=by simpa using h3
     have h2:¬ o.kind=2:=by simpa using h2
     refine ⟨_,⟨h2,rfl⟩,?_⟩;rw [if_neg h3]
     repeat' (first | rfl | apply And.intro)
    ·obtain ⟨n2,he⟩:=he;have ea:e.at_=k:=by rw [he]; split<;>rfl
     have SC:=zGs f e p.2 most tr (by omega);rw [ea] at SC;delta mC at SC;rw [ea] at SC;have ee:(⟨e.at_,e.kind,e.inp,e.back,e.k,e.out⟩:Mc)=e:=rfl;simp only [ee];rw [ea];refine ⟨⟨SC,_,rfl,rfl,⟨rfl,rfl,rfl,rfl,rfl⟩,rfl⟩,λq hq=>⟨⟨jQb most L0 o t2 (by omega),_,rfl,rfl,rfl,rfl,rfl,rfl⟩,λb hb=>?_⟩⟩;have key:(o.kind=1/\f=o/\opnO (zXb most s.ims x y L0 o)=st)\/(o.kind=3/\f=(topL L0).op/\2<=L0.length/\opnO (zXb most s.ims x y L0 o)=st):=by
      rcases hm with ⟨k1,d1,d2,d3,d4⟩ | ⟨k1,_⟩ | ⟨k3,g2,c1,c2,c3,c4,c5,c6⟩
      ·refine .inl ⟨k1,by rw [hw1]; unfold zKg; rw [if_neg (by omega)],?_⟩;unfold zXb zYV;rw [if_pos k1,if_pos ⟨k1,d3⟩,jZX,hw2,if_neg (by omega)]
      ·exact absurd k1 n2
      ·refine .inr ⟨k3,by rw [hw1]; unfold zKg; rw [if_pos k3],g2,?_⟩;unfold zXb;rw [if_neg (by omega),if_neg (by omega),if_pos k3,jY0 g2 c3 c5 c6,jZX,hw2,if_pos k3,jUu]
     refine ⟨⟨λh3=>?_,λh3=>?_⟩,λJ hJ=>?_⟩
     ·have h3:o.kind=3:=by simpa using h3
      obtain ⟨_,g2,c1,c2,c3,c4,c5,c6⟩:o.kind=3/\2<=L0.length/\((topL L0).op.mask≠0->zQJ s.ims (topL L0).op x y<=most)/\(topL L0).op.opac<=most/\(topL L0).acc.ok (topL L0).back most=true/\zQq most (topL L0).op (resE (topL L0).acc (topL L0).back most) (zQJ s.ims (topL L0).op x y)=zQh most (topL L0).op (resE (topL L0).acc (topL L0).back most) (zQJ s.ims (topL L0).op x y)/\(zQh most (topL L0).op (resE (topL L0).acc (topL L0).back most) (zQJ s.ims (topL L0).op x y)).2=true/\zZc most L0.dropLast (topL L0).op (zQh most (topL L0).op (resE (topL L0).acc (topL L0).back most) (zQJ s.ims (topL L0).op x y)).1=true:=by
       rcases hm with h | h | h
       ·exact absurd h.1 (by omega)
       ·exact absurd h.1 (by omega)
       ·exact h
      have ef:f=(topL L0).op:=by
       rcases key with h | h
       ·exact absurd h.1 (by omega)
       ·exact h.2.1
      rw [ef] at nA nB;have ep:p.2=zQJ s.ims (topL L0).op x y:=by rw [hp,ef]
      have ej:zXb most s.ims x y L0 o=zQB most L0.dropLast (topL L0).op (zQh most (topL L0).op (resE (topL L0).acc (topL L0).back most) (zQJ s.ims (topL L0).op x y)).1:=by
       unfold zXb;rw [if_neg (by omega),if_neg (by omega),if_pos h3,jY0 g2 c3 c5 c6]
      have PO:=zVV most L0 (zQJ s.ims (topL L0).op x y) t2 (by omega) g2 ⟨c1,c2,nA,nB,c3,by rw [c4]; exact c5,by rw [c4]; exact c6⟩;rw [c4] at PO;rw [ep,c4];exact ⟨PO,_,rfl,by rw [ej],by rw [ej]⟩
     ·have h3:¬ o.kind=3:=by simpa using h3
      obtain ⟨k1,d1,d2,d3,d4⟩:o.kind=1/\(srcS s.ims o x y).ok most=true/\zQq most o (srcS s.ims o x y) (zQJ s.ims o x y)=zQh most o (srcS s.ims o x y) (zQJ s.ims o x y)/\(zQh most o (srcS s.ims o x y) (zQJ s.ims o x y)).2=true/\zZc most L0 o (zQh most o (srcS s.ims o x y) (zQJ s.ims o x y)).1=true:=by
       rcases hm with h | h | h
       ·exact h
       ·exact absurd h.1 n2
       ·exact absurd h.1 h3
      have ef:f=o:=by
       rcases key with h | h
       ·exact h.2.1
       ·exact absurd h.1 h3
      rw [ef] at nA nB hp;have ej:zXb most s.ims x y L0 o=zQB most L0 o (zQh most o (srcS s.ims o x y) (zQJ s.ims o x y)).1:=by
       unfold zXb zYV;rw [if_pos k1,if_pos ⟨k1,d3⟩]
      have DR:=zVt most L0 o (srcS s.ims o x y) (zQJ s.ims o x y) t2 (by omega) nA nB ⟨k1,d1,hf,by rw [d2]; exact d3,by rw [d2]; exact d4⟩;rw [d2] at DR;subst hp;simp only;rw [d2];exact ⟨DR,_,rfl,by rw [ej],by rw [ej]⟩
     ·have lJ:=jYy (m:=most) (ms:=s.ims) (x:=x) (y:=y) o ⟨t2,t3⟩;rw [<- hJ] at lJ;have lq:q.1.length<=tr.length+3:=by
       have:=zVD (tr++[e]) k f e.out p.2 most;rw [<- hq,wQh,wZW] at this;omega
      have e2:runT most s.ims x y s.ops (k+1)=(q.1++[⟨k,4,q.2,b,0,(topL J).acc.col⟩],J):=by
       have h2:(runT most s.ims x y s.ops (k+1)).2=J:=by rw [e1,jJ5,hJ]
       rcases key with ⟨k1,ef,_⟩ | ⟨k3,ef,g2,_⟩
       ·have eb:b=(topL L0).acc.col:=by rw [hb]; unfold zJ6; rw [if_pos (by omega)]
        have eo:e=⟨k,1,.zero,.zero,0,srcS s.ims o x y⟩:=by rw [he,if_neg (by omega),hp,ef]
        have eJ:J=zYV most L0 o (srcS s.ims o x y) (zQJ s.ims o x y):=by rw [hJ]; unfold zXb; rw [if_pos k1]
        rw [e1,hq,eb,eo,eJ,hp,ef]; unfold stT; rw [if_pos k1]
       ·have eb:b=(topL L0.dropLast).acc.col:=by rw [hb]; unfold zJ6; rw [if_neg (λh=>h k3),jGn g2]
        have eo:e=⟨k,6,.zero,.zero,0,resE (topL L0).acc (topL L0).back most⟩:=by rw [he,if_pos k3]
        have eJ:J=popL most L0 (zQJ s.ims (topL L0).op x y):=by rw [hJ]; unfold zXb; rw [if_neg (by omega),if_neg (by omega),if_pos k3]
        rw [e1,hq,eb,eo,eJ,hp,ef]; unfold stT; rw [if_neg (by omega),if_neg (by omega),if_pos k3]
      have oJ:opnO J=st:=by
       rw [hJ]
       rcases key with h | h
       ·exact h.2.2
       ·exact h.2.2.2
      refine ⟨zXK most J lJ.1 (by omega),zYP _,zXV q.1 ⟨k,4,q.2,b,0,(topL J).acc.col⟩ (by omega),k+1,by omega,by omega,⟨?_,rfl⟩,?_,?_,?_,?_,?_⟩<;>rw [e2]
      ·rw [oJ]
      ·rw [oJ]
  ·have:k=s.ops.length:=by omega
   subst this;have R:=zKI most (runT most s.ims x y s.ops s.ops.length).2 hfin;exact ⟨R,⟨⟨rfl,rfl,rfl,rfl,rfl⟩,rfl,rfl⟩,trivial⟩
end
variable {p:Px}
theorem jJ9 (hm:0<m):zZZ p m m=p:=by
 unfold zZZ;rw [wQy p.a m,wQy p.b m,wQy p.c m,wQy p.al m,wQy p.f m,zXI hm,zXI hm,zXI hm,zXI hm,zXI hm]
theorem zHS (hf:zQH m=true) (hp:p.ok m=true) (hk:k<=m):zQm p k m=(zZZ p k m,true):=by
 unfold zQm zXd;rw [hf,hp,decide_eq_true hk]; rfl
def zW3 (l:List Mc):Px:=(l.getLast?.map Mc.out).getD .zero
def yZc (m:Int) (l:List Mc) (t:Mc):Prop:=
 (t.kind=1\/t.kind=5\/t.kind=6)\/(l≠[]/\zW3 l=t.inp/\(t.kind=4\/((t.kind=2\/t.kind=3)/\zQm t.inp t.k m=(t.out,true))))
def jQ9 (m:Int) (l:List Mc):Prop:=∀ (i:Nat) (h:i<l.length),yZc m (l.take i) l[i]
variable {t:Mc}
theorem jQ9.snoc {l:List Mc} (h:jQ9 m l) (ht:yZc m l t):jQ9 m (l++[t]):=λi hi=>by
 rcases wQp i l.length with q | q
 ·rw [wYB (by omega),wYt q];exact h i q
 ·have e:i=l.length:=by simp at hi; omega
  subst e;rw [wZQ,List.getElem_concat_length rfl]
  ·exact ht
  ·rfl
theorem zJi (l:List Mc) (t:Mc):zW3 (l++[t])=t.out:=by simp [zW3]
theorem zHN (l:List Mc) (t:Mc):l++[t]≠[]:=by simp
variable {i mask:Int} {o:Oq}
theorem jZB {l:List Mc} (hf:zQH m=true) (hl:jQ9 m l) (hne:l≠[]) (he:zW3 l=p) (hp:p.ok m=true) (hn:p.nn) (h0:0<=mask) (h1:mask<=m) (o0:0<=o.opac) (o1:o.opac<=m):
  jQ9 m (zX1 l i o p mask m).1/\(zX1 l i o p mask m).1≠[]/\zW3 (zX1 l i o p mask m).1=(zX1 l i o p mask m).2:=by
 have hm:=(zQO hf).1;have ⟨a1,a2⟩:=zUq hm hp hn h0 h1;have e1:=zHS hf hp h1;have e2:=zHS hf hp o1;have e3:=zHS hf a1 o1;unfold zX1;split
 ·refine ⟨(hl.snoc (.inr ⟨hne,he,.inr ⟨.inl rfl,?_⟩⟩)).snoc (.inr ⟨zHN _ _,zJi _ _,.inr ⟨.inr rfl,?_⟩⟩),zHN _ _,zJi _ _⟩
  ·simp only [e1]
  ·simp only [e1,e3]
 ·refine ⟨hl.snoc (.inr ⟨hne,he,.inr ⟨.inr rfl,?_⟩⟩),zHN _ _,zJi _ _⟩;simp only [e2]
def zVp (z:Int × Px) (t:Mc):Int × Px:=
 if t.kind=5 then (z.1+1,z.2) else if t.kind=6 then (z.1-1,z.2) else if t.kind=4 then (z.1,if z.1=0 then t.out else z.2) else z
def zWu (l:List Mc):Int × Px:=l.foldl zVp (0,.zero)
theorem zXX (l:List Mc) (t:Mc):zWu (l++[t])=zVp (zWu l) t:=by simp [zWu]
variable {z:Int × Px}
theorem jVf (h:t.kind=1\/t.kind=2\/t.kind=3):zVp z t=z:=by
 unfold zVp; rw [if_neg (by omega),if_neg (by omega),if_neg (by omega)]
theorem jVe (h:t.kind=4):zVp z t=(z.1,if z.1=0 then t.out else z.2):=by
 unfold zVp; rw [if_neg (by omega),if_neg (by omega),if_pos h]
theorem jHN (h:t.kind=5):zVp z t=(z.1+1,z.2):=by
 unfold zVp; rw [if_pos h]
theorem jHM (h:t.kind=6):zVp z t=(z.1-1,z.2):=by
 unfold zVp; rw [if_neg (by omega),if_pos h]
theorem jHk (l:List Mc) : -(l.length:Int)<=(zWu l).1/\(zWu l).1<=l.length:=by
 have key:∀ (l:List Mc) (z:Int × Px),z.1-l.length<=(l.foldl zVp z).1/\(l.foldl zVp z).1<=z.1+l.length:=by
  intro l
  induction l with
  | nil=>intro z; simp
  | cons t l ih=>
   intro z;have h:=ih (zVp z t);have hz:z.1-1<=(zVp z t).1/\(zVp z t).1<=z.1+1:=by
    unfold zVp;split
    ·simp only; omega
    ·split
     ·simp only; omega
     ·split
      ·simp only; omega
      ·omega
   rw [wX8,wQu];omega
 have:=key l (0,.zero);unfold zWu;simp only at this;omega
theorem jZ6 (l:List Mc) (i:Int) (o:Oq) (p:Px) (mask m:Int):zWu (zX1 l i o p mask m).1=zWu l:=by
 unfold zX1;split
 ·rw [zXX,zXX,jVf (.inr (.inr rfl)),jVf (.inr (.inl rfl))]
 ·rw [zXX,jVf (.inr (.inr rfl))]
theorem jUa {l:List Mc} (h:t∈(zX1 l i o p mask m).1):t∈l\/t.at_=i:=by
 unfold zX1 at h;split at h
 ·simp only [List.mem_append,wQk] at h
  rcases h with (h | h) | h
  ·exact .inl h
  ·subst h; exact .inr rfl
  ·subst h; exact .inr rfl
 ·simp only [List.mem_append,wQk] at h
  rcases h with h | h
  ·exact .inl h
  ·subst h; exact .inr rfl
def colB (L:List Lv):Px:=((L[0]?).getD zQI).acc.col
theorem jHv {P:List Lv} {t u:Lv} (h:P≠[]):colB (P++[t])=colB (P++[u]):=by
 cases P with
 | nil=>exact absurd rfl h
 | cons q P=>rfl
structure jK2 (m:Int) (k:Nat) (z:List Mc × List Lv):Prop where
  snd:jQ9 m z.1
  fold:zWu z.1=((z.2.length:Int)-1,colB z.2)
  at_:∀ t∈z.1,0<=t.at_/\t.at_<k
theorem jK2.start:jK2 m 0 ([],[zQI]):=⟨λi h=>absurd h (by simp),rfl,λt h=>by simp at h⟩
variable {ms:List Im} {st:List Oq}
theorem jK2.step {bits:Int} {k:Nat} {z:List Mc × List Lv} (hi:zJo m ms) (hb:zQi bits=m) (hv:StV bits ms.length st) (hs:StOk m st z.2) (h0:0<=o.opac) (he:errO bits ms.length o st=0) (x y:Int) (h:jK2 m k z):jK2 m (k+1) (stT m ms x y k z o):=by
 obtain ⟨tr,L⟩:=z;obtain ⟨s,fo,at_⟩:=h;simp only at s fo at_ hs;have at1:∀ t∈tr,0<=t.at_/\t.at_<((k+1:Nat):Int):=λt ht=>by have:=at_ t ht; omega
 obtain ⟨P,t,rfl⟩:=hs.split
 rcases zYe he with hk | hk | ⟨hk,hne⟩
 ·obtain ⟨_,_,_,f1,f2,f3,f4,_⟩:=zQL (.inl hk) he;have ⟨s1,s2⟩:=zHM hi o x y;have ⟨m1,m2⟩:=zJM hi o x y;obtain ⟨a,e,_⟩:=zUW hi hb hs hk h0 he x y;have e2:zYV m (P++[t]) o (srcS ms o x y) (zQJ ms o x y)=P++[⟨t.op,a,t.back⟩]:=by
   rw [<- e]; unfold zXb; rw [if_pos hk]
  unfold stT;rw [if_pos hk,e2];obtain ⟨g1,g2,g3⟩:=jZB (i:=(k:Int)) hi.full (s.snoc (t:=⟨k,1,.zero,.zero,0,srcS ms o x y⟩) (.inl (.inl rfl))) (zHN _ _) (zJi _ _) s1 s2 m1 m2 h0 (by omega:o.opac<=m);refine ⟨g1.snoc (.inr ⟨g2,g3,.inl rfl⟩),?_,λu hu=>?_⟩
  ·rw [zXX,jZ6,zXX,fo,jVe rfl,jVf (.inl rfl)];simp only [zQT,wQh,wZW];by_cases hP:P=[]
   ·subst hP; rfl
   ·have hl:0<P.length:=wZJ.2 hP;rw [if_neg (by omega),jHv (u:=⟨t.op,a,t.back⟩) hP]
  ·rcases List.mem_append.1 hu with hu | hu
   ·rcases jUa hu with hu | hu
    ·rcases List.mem_append.1 hu with hu | hu
     ·exact at1 u hu
     ·rw [wQk.1 hu]; simp; omega
    ·rw [hu]; omega
   ·rw [wQk.1 hu]; simp; omega
 ·obtain ⟨e,_⟩:=zVH hb hs hk h0 he x y (ms:=ms);have k1:¬ o.kind=1:=by omega
  have e2:zZ2 (P++[t]) o=(P++[t])++[⟨o,(zQM o.iso t.op.kno t.acc t.back).1,(zQM o.iso t.op.kno t.acc t.back).2⟩]:=by
   rw [<- e]; unfold zXb; rw [if_neg k1,if_pos hk]
  unfold stT;rw [if_neg k1,if_pos hk,e2];refine ⟨s.snoc (.inl (.inr (.inl rfl))),?_,λu hu=>?_⟩
  ·rw [zXX,fo,jHN rfl];simp only [wQh,wZW];have:colB (P++[t]++[⟨o,(zQM o.iso t.op.kno t.acc t.back).1,(zQM o.iso t.op.kno t.acc t.back).2⟩])=colB (P++[t]):=by
    cases P<;>rfl
   rw [this,show ((P.length+1:Nat):Int)-1+1=((P.length+1+1:Nat):Int)-1 by omega]
  ·rcases List.mem_append.1 hu with hu | hu
   ·exact at1 u hu
   ·rw [wQk.1 hu]; simp; omega
 ·rcases wZn st with rfl | ⟨st',g,rfl⟩
  ·exact absurd rfl hne
  ·rw [wZo] at hv hs;obtain ⟨q1,q2⟩:=hv st' g [] rfl;obtain ⟨_,_,_,f1,f2,f3,f4,_⟩:=zQL (.inr q1) q2;obtain ⟨eo,hp⟩:=hs.pre;obtain ⟨P',v,rfl⟩:=hp.split;have k3:o.kind=3:=by rw [hk]; rfl
   have k1:¬ o.kind=1:=by omega
   have k2:¬ o.kind=2:=by omega
   obtain ⟨e3,a,e4,_⟩:=jZS hi hs f2 f3 f4 x y;have ⟨r1,r2⟩:=zKs (hs.lv t (by simp));have ⟨m1,m2⟩:=zJM hi g x y;have ⟨o1,o2⟩:=hs.opac g (by simp);have er:resE t.acc t.back m=zZb t.acc t.back m:=by
    rw [<- jYQ]; unfold resL resB; rw [if_pos (hs.lv t (by simp)).ok]
   have e5:popL m (P'++[v]++[t]) (zQJ ms g x y)=P'++[⟨v.op,a,v.back⟩]:=by
    rw [<- e4,<- e3];have p3:popO.kind=3:=rfl;unfold zXb;rw [if_neg (by omega),if_neg (by omega),if_pos p3,zQT,eo]
   unfold stT;rw [if_neg k1,if_neg k2,if_pos k3];simp only [zQT,eo,e5,er,wQN];obtain ⟨g1,g2,g3⟩:=jZB (i:=(k:Int)) (o:=g) hi.full (s.snoc (t:=⟨k,6,.zero,.zero,0,zZb t.acc t.back m⟩) (.inl (.inr (.inr rfl)))) (zHN _ _) (zJi _ _) r1 r2 m1 m2 o1 o2;refine ⟨g1.snoc (.inr ⟨g2,g3,.inl rfl⟩),?_,λu hu=>?_⟩
   ·rw [zXX,jZ6,zXX,fo,jVe rfl,jHM rfl];simp only [wQh,wZW];by_cases hP:P'=[]
    ·subst hP; rfl
    ·have hl:0<P'.length:=wZJ.2 hP;have:colB (P'++[⟨v.op,a,v.back⟩])=colB (P'++[v]++[t]):=by
      cases P' with
      | nil=>exact absurd rfl hP
      | cons q P'=>rfl
     rw [this,if_neg (by omega),show ((P'.length+1+1:Nat):Int)-1-1=((P'.length+1:Nat):Int)-1 by omega]
   ·rcases List.mem_append.1 hu with hu | hu
    ·rcases jUa hu with hu | hu
     ·rcases List.mem_append.1 hu with hu | hu
      ·exact at1 u hu
      ·rw [wQk.1 hu]; simp; omega
     ·rw [hu]; omega
    ·rw [wQk.1 hu]; simp; omega
theorem jK9 {m bits:Int} {ms:List Im} {l:List Oq} (hi:zJo m ms) (hb:zQi bits=m) (ho:∀ o∈l,0<=o.opac) (h:okO bits ms.length l []=some []) (x y:Int):∀ k,k<=l.length->jK2 m k (runT m ms x y l k)
 | 0,_=>.start
 | k+1,hk=>by
  have ih:=jK9 hi hb ho h x y k (by omega);obtain ⟨st,h1,h2⟩:=zHz h k;obtain ⟨he,_⟩:=zUE h1 h2 hk;obtain ⟨hv,hs⟩:=zGg hi hb x y (l.take k) [] st [zQI] h1 (λo hq=>ho o (wXP hq)) .nil (zV1 hi.full);rw [<- zKP k (by omega)] at hs;rw [runT,List.getElem?_eq_getElem hk,wQG];exact ih.step hi hb hv hs (ho _ (List.getElem_mem hk)) he x y
theorem jXE {c own:Int} (hm:0<m) (h0:0<=c) (h1:c<=own):remS m c own 0=c:=by
 unfold remS;rw [wZA,Int.sub_zero,zXI hm];split
 ·omega
 ·rename_i h;have:¬ 0<c:=λq=>h (wZz hm q);omega
theorem jKo {a:Ac} {i k:Bool} (h:LvOk m i k a .zero) (hi:i=true) (hk:k=false):zZb a .zero m=a.col:=by
 obtain ⟨⟨q1,q2,q3⟩,hf,⟨q4,q5,q6,q7⟩,_⟩:=Ac.ok_iff.1 h.ok;obtain ⟨n1,n2,n3,n4⟩:=h.nn;have ho:=h.own hi hk;have hm:=(zQO hf).1;unfold zZb Ac.col;simp only [Px.zero];rw [jXE hm n1 (by omega),jXE hm n2 (by omega),jXE hm n3 (by omega),ho]
section
variable {s:Scr} (hn:Neat s)
include hn
theorem Neat.trace_end (x y:Int):∃ a,(runT (zQi s.bits) s.ims x y s.ops s.ops.length).2=[⟨zQI.op,a,.zero⟩]/\a.col=ptV s x y:=by
 obtain ⟨ok,e⟩:=zXm hn.run;have h1:okO s.bits s.ims.length (foOf s).flat []=some []:=by
  rw [<- e]; exact (zYx hn.run).2
 have hop:∀ o∈s.ops,0<=o.opac:=hn.opac;rw [e] at hop;obtain ⟨a,e1,e2⟩:=zKO hn.ims rfl x y (foOf s) [] [] zQI (jQn _ [] [] ok h1).1 hop (zV1 hn.ims.full);rw [<- e] at e1;have e3:runM (zQi s.bits) s.ims x y s.ops [zQI]=[⟨zQI.op,a,.zero⟩]:=e1;refine ⟨a,?_,?_⟩
 ·rw [zKP _ (Nat.le_refl _),wZw,e3]
 ·have hl:=e2.lv ⟨zQI.op,a,.zero⟩ (by simp [zQI]);have hr:=jKo hl rfl rfl;unfold ptV zYo;simp only [e3,wZW,Nat.lt_irrefl,if_false,wXz,wQG];unfold resL resB;simp only;rw [if_pos hl.ok,hr]
end
theorem jYC (hf:zQH m=true) (hp:p.ok m=true):zQq m o p mask=zQh m o p mask:=by
 unfold zQq zQh;split
 ·have:zXd p m m=true:=by unfold zXd; rw [hf,hp]; simp
  unfold zXM;rw [if_pos this,jJ9 (zQO hf).1]
 ·rfl
theorem jH6 {bits:Int} (hi:zJo m ms) (hb:zQi bits=m) (hI:ms.length<=1000000) (hv:StV bits ms.length st) (hs:StOk m st L) (h0:0<=o.opac) (he:errO bits ms.length o st=0) (x y:Int):jW1 m ms x y L o:=by
 obtain ⟨P,t,rfl⟩:=hs.split;have hlen:=hs.len;unfold jW1
 rcases zYe he with hk | hk | ⟨hk,hne⟩
 ·obtain ⟨_,⟨_,g2⟩,n,f1,f2,f3,f4,_⟩:=zQL (.inl hk) he;have ⟨s1,s2⟩:=zHM hi o x y;have ⟨m1,m2⟩:=zJM hi o x y;obtain ⟨e,s3,s4⟩:=zJa (o:=o) hi.full s1 s2 m1 m2 h0 (by omega);obtain ⟨pb,_⟩:=zJB hs s3 s4 f2 f3 f4;have eo:zKg (P++[t]) o=o:=by unfold zKg; rw [if_neg (by omega)]
  rw [eo];exact ⟨⟨n,by omega,f2,f3⟩,.inl ⟨hk,s1,jYC hi.full s1,by rw [e],pb⟩⟩
 ·obtain ⟨_,⟨_,g2⟩,n,f1,f2,f3,f4,f5⟩:=zQL (.inr hk) he;have f5:=f5 hk;have eo:zKg (P++[t]) o=o:=by unfold zKg; rw [if_neg (by omega)]
  rw [eo];exact ⟨⟨n,by omega,f2,f3⟩,.inr (.inl ⟨hk,by omega⟩)⟩
 ·rcases wZn st with rfl | ⟨st',g,rfl⟩
  ·exact absurd rfl hne
  ·rw [wZo] at hv hs hlen;obtain ⟨q1,q2⟩:=hv st' g [] rfl;obtain ⟨_,⟨_,g2⟩,n,f1,f2,f3,f4,_⟩:=zQL (.inr q1) q2;obtain ⟨eo,hp⟩:=hs.pre;obtain ⟨P',v,rfl⟩:=hp.split;have k3:o.kind=3:=by rw [hk]; rfl
   have hu:=hs.lv t (by simp);have ⟨r1,r2⟩:=zKs hu;have ⟨m1,m2⟩:=zJM hi g x y;have ⟨o1,o2⟩:=hs.opac g (by simp);have er:resE t.acc t.back m=zZb t.acc t.back m:=by
    rw [<- jYQ]; unfold resL resB; rw [if_pos hu.ok]
   obtain ⟨e,s3,s4⟩:=zJa (o:=g) hi.full r1 r2 m1 m2 o1 o2;obtain ⟨pb,_⟩:=zJB hp s3 s4 f2 f3 f4;have ea:zKg (P'++[v]++[t]) o=g:=by unfold zKg; rw [if_pos k3,zQT,eo]
   rw [ea,zQT,eo,er,wQN];exact ⟨⟨n,by omega,f2,f3⟩,.inr (.inr ⟨k3,by simp,λ_=>m2,o2,hu.ok,jYC hi.full r1,by rw [e],pb⟩)⟩
theorem jGE {s:Scr} (hi:zJo (zQi s.bits) s.ims) (hu:∀ m∈s.ims,m.isU) (hl:s.ops.length<=5000) (hI:s.ims.length<=1000000) (ho:∀ o∈s.ops,0<=o.opac) (h:okO s.bits s.ims.length s.ops []=some []) {x y:Int} (hx : -1073741824<=x/\x<=1073741824) (hy : -1073741824<=y/\y<=1073741824):yQ5 s x y:=by
 refine ⟨hi.full,hu,hl,hx,hy,λk o hk=>?_,?_⟩
 ·have hlt:k<s.ops.length:=by
   rcases wQp k s.ops.length with q | q
   ·exact q
   ·rw [wQM q] at hk; cases hk
  rw [List.getElem?_eq_getElem hlt] at hk;simp only [wQa] at hk;subst hk;rw [zKP k (by omega)];obtain ⟨st,h1,h2⟩:=zHz h k;obtain ⟨he,_⟩:=zUE h1 h2 hlt;obtain ⟨hv,hs⟩:=zGg hi rfl x y (s.ops.take k) [] st [zQI] h1 (λo hq=>ho o (wXP hq)) .nil (zV1 hi.full);exact jH6 hi rfl hI hv hs (ho _ (List.getElem_mem hlt)) he x y
 ·rw [zKP _ (Nat.le_refl _),wZw];exact (zGg hi rfl x y s.ops [] [] [zQI] h ho .nil (zV1 hi.full)).2.len
section
attribute [local irreducible] Ans AnsO AnsG AnsN AnsI
def jHc:Gam:=yQF.add [.p 61 (λv=>some (rJ 0)),
 .p 22 (λv=>some (RV.d (dQ true))),
 .q 21 ([true,true,true],0,1) (λv b=>let f:=uv v 0;let e:=zQo (cAt f 9);let c:=runT (zQi (nAt f 0)) (zQF (cAt f 8)) (nAt (ut v) 1) (nAt (ut v) 2) e e.length;some ⟨AV.tup [AV.one (Cl.ref 0 c.1.length),aJ 0],[Bx.row 79 18 (mcs c.1)],false⟩)]
theorem jQa (s:Scr) (x y:Int) (hu:∀ m∈s.ims,m.isU) (hc:zYL s=(0,0)) (hh:s.c.has x y=true):Ans prog 61 [rA (sD s),rJ (x),rJ (y)] (rJ (0)):=
 wc jHc aL Tryz.func61 (let a:=Rc.has s.c x y;let b:=(zYL (uK s s.c)).fst;bH (oT 34 (pA s [kO s,kP s,iM s]) (zK (zYL (uK s s.c)))) (bI (sZ b) (dB b 0) (nJ (dX b) (aFZ (Ans prog 104 (rA (cG s.c)::iF x y) (rD (DV.bool a))) a (dB 20 0) (gW a (eS (gE 0))))))) λhwf=>by
  delta eS aB gE bI dB eC eF cG bH gJ zK nJ iF dX gW oT yX aFZ eO aHB kO iM kP jJ pA sZ uK;simp only [sS];clear hwf;simp only [zY2];have V:=zJV s hu;rw [hc] at V |-;refine ⟨V,λh=>absurd h (by decide),λ_=>⟨zKy s.c.a s.c.b s.c.c s.c.d x y,λh=>?_,λ_=>trivial⟩⟩;have hh:Rc.has ⟨s.c.a,s.c.b,s.c.c,s.c.d⟩ x y=true:=hh;rw [hh] at h; cases h
theorem jQc (s:Scr) (x y:Int) (hu:∀ m∈s.ims,m.isU) (hc:zYL s=(0,0)) (hh:s.c.has x y=true) (hr:yQ5 s x y):AnsG prog 21 0 [AV.agg (sC s),aJ ((x)),aJ ((y))] [] ⟨AV.tup [aO (Cl.ref 0 ((runT (zQi s.bits) s.ims x y s.ops s.ops.length).1.length)),aJ ((0))],[bR 79 18 (mcs (runT (zQi s.bits) s.ims x y s.ops s.ops.length).1)],false⟩:=
 wd jHc (jA (uj True (wN x y (aAC 9 9 []) 3 (uH s []) 9 [Cl.ref 9001 0] (pQ 9001 79 18 [])) aL)) Tryz.func21 (let c:=jI (lS s) s.ims x y s.ops;let a:=mcs c.fst;let b:=c.fst;let d:=wX (fO 0 b) yJ 79 18 a [] false;let e:=jI (lS s) (zQF (eO s)) x y (zQo (jJ s));let f:=mcs e.fst;let g:=e.fst;let h:=pA s [kO s,kP s,iM s];bF (True/\True/\True/\lE 61 h (iF x y) 0/\fQ (sZ 0) (mP (aGX (0=List.length b) jD (([]:List DV)=a)) d) (zE (rI 0) (∃ j:Unit,True/\aF (oZ x y (eS (0:Nat)/\True)) (eS h) (eS (0:Nat)/\True) (eS ([]:List DV))) (∀ i:Unit,lM (True/\True/\True/\aHP 62 1 (cL (uH s []) (gN x (gN y [aO (Cl.clo 63 [uN 0])]))) (yK 0) 79 18 [] [] (aDJ (aHD (jI (lS s) (zQF (eO s)) x y (zQo (jJ s))).snd (lS s))) [fO 1 g] f/\mP (aGX (aGW g b) jD (f=a)) d))))) λhwf hbx=>by
  delta eS aB gE aE aF bZ aX gL jK dE eF zE fQ pR aCC bF iF jD dX lE bJ fN cN mP lM aGK rI oZ aDJ cL gN yJ yK eO fO aHB kO iM kP jI jJ lS uH wX aGW pA sZ aGX aHD uN aLV aHP;simp only [sS];clear hwf hbx;have CK:=jQa s x y hu hc hh;have RU:=jXH s x y hr;simp only [zQS,zQz];exact ⟨CK,λh=>absurd h (by decide),λ_=>⟨⟨(),trivial⟩,RU,by simp [zZd]⟩⟩
def aEC (a:Nat) (b:List Mc):Prop:=a<=List.length b
def mW (a:List Mc) (b:Nat):Prop:=cM (mcs a) b
def uO (a:List Mc) (b:Nat):Int:=cE (mcs a) b
theorem jQd (most:Int) (l:List Mc) (hl:l.length<=100000) (h:jQ9 most l):Ans prog 22 [rD (dK most),rD (dS l.length (mcs l))] (rD (dQ true)):=
 wc jHc (let e:=List.length l;let g:=DV.sl e (mcs l);sA (um (λn=>aEC n l) (λm=>nT (aBH 0 most 1 g (aHL 9 e (mcs l) 10 11 m))) (λk=>e-k) (λf=>let h:=wY 0 most (gH 1 g 5 (cI f) (fG 6 6 (aHL 9 e (mcs l) 10 11 f)));aHN (ul Mc (λj=>l[f]?=some j) (λb=>let d:=b.inp;qP h 6 (aHM b d.a d.b d.c d.al d.f (aEJ b.back.al b.back.f b.k b.out [])) []) (λa=>let c:=a.inp;uj (a.kind=2\/a.kind=3\/a.kind=4) (qP h 6 (aHM a c.a c.b c.c c.al c.f (aEJ a.back.al a.back.f a.k a.out [])) []) aL))))) Tryz.func22 (let f:=List.length l;let h:=bE false true;let x:=mJ f;let b:=mcs l;let y:=DV.sl f b;let m:=eS y;oG (∃ w:Nat,aEC w l/\dE (aE most) m (aW m x (dF w))/\True) (∀ a:Nat,let n:=(∃ q:Nat,aW (aEC q l) (dM (List.length l) q a) (dE (aE most) m (aW m x (bS a q))));let r:=aR (dT a) 18;let o:=r+13;let s:=o+1;let z:=s+1;let B:=r+13;let E:=eS (aE most)/\dE y (mJ a) (rV (eS (0:Nat)) f b (mJ a));let e:=aV a 18;let J:=bG (bG e);let K:=cB (bG e)+1;let p:=aV a 18;yW (aEC a l) (dP a f->(True/\cX a f 18 b/\aN (fW b a 18/\mH b a 18/\mW l e/\mW l (iP a 18)/\mT b p/\mW l (pW a 18)/\bV (mW l (bG p)) (mW l (nI a 18)) (mW l (xN a 18)) (mW l K) (mW l J) (mW l (fE e)) (mW l (rP a 18)) (mW l (fS p)) (aF (mW l (gO e)) (mW l (iY e)) (mW l (sX e)) (mW l (sY e)))) (∃ v:Mc,aW (l[a]?=some v) E (aB (cY b a 18)::aB (fX b a 18)::nP (gU b a 18) (fY b a 18) (kW b a 18) (aLK (tL b a 18) (zO b a 18) (uO l e) (uO l (iP a 18)) (uO l (cB p)) (uO l (pW a 18)) (uO l (bG p)) (uO l (nI a 18)) [aE (uO l (xN a 18)),aE (uO l K),aE (uO l J),aE (uO l (fE e)),aE (uO l (rP a 18))])=aHO v)))/\(∀ g:Mc,let d:=g.inp;let A:=wM (nAt b o==d.a) (nAt b s==d.b) (nAt b z==d.c) (nAt b (z+1)==d.al) (kL b r 13==d.f);let c:=g.kind;let C:=c=2\/c=3\/c=4;let D:=uS c 4 h;let F:=(∃ O:Unit,aW C E (eS (aHO g)));let L:=(c==4)=true;let G:=(zQm d g.k most).snd;let j:=g.out;let k:=qA d g.k most;let t:=True/\True/\True/\True/\xV 64 (aI d) g.k most d/\bL (bI (gC G) (aCO (wM (k.a==j.a) (k.b==j.b) (k.c==j.c) (k.al==j.al) (k.f==j.f)) h F) (hZ G h));let u:=dO (c==2) (dN c 3 t/\cS (c==3) (L->F) D);let H:=cS (c==2) (L->F) D;let I:=mI c 2 (dN c 2 t) H;zE (l[a]?=some g) (qT c 1 (dC c 1 n/\cS (c==1) I u) (cS (c==1) (mI c 5 (dC c 5 n) (cS (c==5) I u)) (mG (c==5) (dC c 6 n) c 6 (mI c 2 (dN c 2 t) H) u))) (∀ M:Unit,C->zG (bK (a:Int)=false) (mX (dT a) f 18 b) (aY (fT (bY b o) (bY b s) (mW l B) (mW l (o+1)) (mT b B)) (qV (yX A h) (oV A n))) (mE (bK (a:Int)) (gI (eS true) h))))) a f (eS (rD (DV.bool true))))) λhwf=>by
  delta eS aB aR bI mX aE aT aF fD bQ aY bU bK dC fT dN uS dE aN dO zE cI aW aV mE bS bP iP fQ dF zG aI bV gI zN cS cX cY dP iQ fX fY fW mG gU kW mH oG mI kL cE cB bG bL dM dT qT mJ pW tL qV xN nI zO sF bE gC vH aCO oV hZ nP eY xU qA xV yX aDT bY wM cM fS fE gO iY sY sX aJD mT aLK yL rP aEC yW rV mW uO aHO;simp only [sS];clear hwf;refine ⟨⟨0,wQi _,rfl⟩,λk hk=>⟨λhlt=>?_,λ_=>trivial⟩⟩;have hk:k<l.length:=by omega
  have q1:=jVF hk;have q2:=jVG hk;have w1:IntKind.wrap .i64 ((k:Int)+1)=((k+1:Nat):Int):=zXj (by omega);have hs:=h k hk;simp only [Nat.add_zero] at q1 q2;simp only [q2,q1,w1,and_self,true_and];clear q1 q2;refine ⟨⟨⟨by omega,by omega,by rw [zZL]; omega⟩,l[k],List.getElem?_eq_getElem hk,⟨rfl,rfl,rfl,rfl,rfl,rfl,rfl,rfl,rfl,rfl,rfl,rfl,rfl,rfl,rfl,rfl,rfl,rfl⟩⟩,λu hu=>?_⟩;rw [List.getElem?_eq_getElem hk] at hu;simp only [wQa] at hu;rw [hu] at hs;have PX:=zXE u.inp u.k most;have go:∃ k':Nat,k'<=l.length/\l.length-k'<l.length-k/\((k+1:Nat):Int)=(k':Int):=⟨k+1,by omega,by omega,rfl⟩
  refine ⟨?_,λhw=>?_⟩
  ·rcases hs with (hk2 | hk2 | hk2) | ⟨ne,lo,hk2 | ⟨hk2 | hk2,hsc⟩⟩
   ·simp only [hk2];simp;exact go
   ·simp only [hk2];simp;exact go
   ·simp only [hk2];simp;exact go
   ·simp [hk2]
   ·rw [hsc] at PX |-;simp [hk2,PX]
   ·rw [hsc] at PX |-;simp [hk2,PX]
  ·obtain ⟨ne,lo⟩:l.take k≠[]/\zW3 (l.take k)=u.inp:=by
    rcases hs with hk2 | ⟨ne,lo,_⟩
    ·omega
    ·exact ⟨ne,lo⟩
   have kp:0<k:=wYw λe=>ne (by rw [e]; rfl);have k1:k-1<l.length:=by omega
   have lg:(l.take k).getLast?=some l[k-1]:=by
    rw [wYn,wQq,wQJ (by omega),wQA,if_pos (by omega),List.getElem?_eq_getElem k1]
   have lo:l[k-1].out=u.inp:=by rw [<- lo]; unfold zW3; rw [lg]; rfl
   have wm:IntKind.wrap .i64 ((k:Int)-1)=((k-1:Nat):Int):=by rw [wQb _ ⟨by omega,by omega⟩]; omega
   have r1:=jVF k1;have r2:=jVG k1;rw [lo] at r1 r2;simp only [wm,wQl,Nat.add_assoc,Nat.reduceAdd,r1,r2,and_self,true_and,beq_self_eq_true,Bool.and_self];refine ⟨λ_=>⟨⟨by omega,by omega,by rw [zZL]; omega⟩,λh=>absurd h (by decide),λ_=>go⟩,λh=>?_⟩;simp at h; omega
end
def zXQ (P:Program) (ls:List TypeId) (n:Nat) (xs:List DV):Prop:=
 xs.length=n*ls.length/\∀ (j:Nat) d,xs[j]?=some d->∃ t',ls[j%ls.length]?=some t'/\∃ q,zYn P q t' d
variable {t:TypeId} {P:Program} {n:Nat} {xs:List DV}
theorem zXQ.at_ {ls:List TypeId} (h:zXQ P ls n xs) {k r:Nat} (hk:k<n) (hr:ls[r]?=some t):∃ d q,xs[k*ls.length+r]?=some d/\zYn P q t d:=by
 obtain ⟨hn,hx⟩:=h;have hr':r<ls.length:=(wQK.1 hr).1;have hle:(k+1)*ls.length<=n*ls.length:=wQV _ (by omega);rw [wQn] at hle;have hj:k*ls.length+r<xs.length:=by omega
 obtain ⟨t',a,q,b⟩:=hx _ _ (List.getElem?_eq_getElem hj);rw [wQD k,Nat.mul_add_mod,wQR hr',hr] at a;injection a with a
 subst a;exact ⟨_,q,List.getElem?_eq_getElem hj,b⟩
theorem zXQ.int {P:Program} {ls:List TypeId} {n:Nat} {xs:List DV} (h:zXQ P ls n xs) {k r:Nat} {t:TypeId} {kk:IntKind} (hk:k<n) (hr:ls[r]?=some t) (hu:P.underlying t=some (.int kk)):xs[k*ls.length+r]?=some (.int kk (nAt xs (k*ls.length+r))):=by
 obtain ⟨d,q,e,b⟩:=h.at_ hk hr;obtain ⟨v,rfl⟩:=b.int hu;simp only [nAt,e]
theorem zXQ.bool {P:Program} {ls:List TypeId} {n:Nat} {xs:List DV} (h:zXQ P ls n xs) {k r:Nat} {t:TypeId} (hk:k<n) (hr:ls[r]?=some t) (hu:P.underlying t=some .bool):xs[k*ls.length+r]?=some (.bool (bAt xs (k*ls.length+r))):=by
 obtain ⟨d,q,e,b⟩:=h.at_ hk hr;obtain ⟨v,rfl⟩:=b.bool hu;simp only [bAt,e]
theorem zXQ.sl {P:Program} {ls:List TypeId} {n:Nat} {xs:List DV} (h:zXQ P ls n xs) {k r:Nat} {t e:TypeId} {ms:List TypeId} (hk:k<n) (hr:ls[r]?=some t) (hu:P.underlying t=some (.slice e)) (hl:lv P e=some ms) :
  xs[k*ls.length+r]?=some (.sl (lAt xs (k*ls.length+r)) (cAt xs (k*ls.length+r)))/\zXQ P ms (lAt xs (k*ls.length+r)) (cAt xs (k*ls.length+r)):=by
 obtain ⟨d,q,e1,b⟩:=h.at_ hk hr;obtain ⟨m,ys,rfl,_,h1,h2⟩:=b.slice hu hl;simp only [lAt,cAt,e1];exact ⟨trivial,h1,h2⟩
theorem zXQ.ints {P:Program} {t:TypeId} {n:Nat} {xs:List DV} (h:zXQ P [t] n xs) (hu:P.underlying t=some (.int .i64)):xs=is (ints xs)/\n=xs.length:=
 jHW (by have:=h.1; simpa using this) λj d hj=>by obtain ⟨t',a,q,b⟩:=h.2 j d hj; exact jVM hu a b
theorem zXQ.five (h:zXQ P [t,t,t,t,t] n xs) (hu:P.underlying t=some (.int .i64)):Is5 n xs:=
 yZp h.1 λj d hj=>by obtain ⟨t',a,q,b⟩:=h.2 j d hj; exact jG6 hu a b
theorem zXQ.pics {ts e:TypeId} (h:zXQ P [t,t,t,t,ts] n xs) (hu:P.underlying t=some (.int .i64)) (hs:P.underlying ts=some (.slice e)) (hl:lv P e=some [t,t,t,t,t]):jH0 n xs:=
 ⟨h.1,λk hk=>⟨h.int (r:=0) hk rfl hu,h.int (r:=1) hk rfl hu,h.int (r:=2) hk rfl hu,h.int (r:=3) hk rfl hu,(h.sl (r:=4) hk rfl hs hl).1,(h.sl (r:=4) hk rfl hs hl).2.five hu⟩⟩
theorem zXQ.raws (h:zXQ P [t,t,t,t,t,t,t,t,t,t,t] n xs) (hu:P.underlying t=some (.int .i64)):yZJ n xs:=by
 refine ⟨h.1,λi hi=>?_⟩;have hr:[t,t,t,t,t,t,t,t,t,t,t][i%11]?=some t:=by
  have h2:i%11<11:=wQ8 _ (by omega);generalize i%11=r at *
  match r,h2 with
  | 0,_ | 1,_ | 2,_ | 3,_ | 4,_ | 5,_ | 6,_ | 7,_ | 8,_ | 9,_ | 10,_=>rfl
 have:=h.int (k:=i / 11) (r:=i%11) (by omega) hr hu;have e:i / 11*[t,t,t,t,t,t,t,t,t,t,t].length+i%11=i:=by show i / 11*11+i%11=i; omega
 rw [e] at this;exact this
theorem jGj {ys:List DV} {m:Nat} (hx:xs.length=n*m) (hy:ys.length=n*m) (h:∀ k,k<n->∀ j,j<m->xs[k*m+j]?=ys[k*m+j]?):xs=ys:=by
 refine wZ0 λi=>?_;by_cases hi:i<n*m
 ·have hm:0<m:=by
   rcases wZ2 m with h0 | h0
   ·subst h0; simp at hi
   ·exact h0
  have:=h (i / m) (Nat.div_lt_of_lt_mul (by rw [wQD]; exact hi)) (i%m) (wQ8 _ hm);have e:i / m*m+i%m=i:=by rw [wQD]; exact wZy i m
  rw [e] at this;exact this
 ·rw [wQM (by omega),wQM (by omega)]
variable {b:TypeId}
theorem zXQ.ops {u:TypeId} (h:zXQ P [t,t,t,t,t,t,t,u,t,t,b,b] n xs) (ht:P.underlying t=some (.int .i64)) (hu:P.underlying u=some (.int .u16)) (hb:P.underlying b=some .bool):yZK n xs:=by
 have hl:xs.length=n*12:=h.1;have hn:(zQo xs).length=n:=by unfold zQo; rw [wQC,wZt,hl]; omega
 refine ⟨jGj hl (by rw [zQK,hn]) λk hk j hj=>?_,hn.symm⟩;have e:(zQo xs)[k]'(by omega)=oqAt xs (k*12):=by simp [zQo]
 rw [jXK (by omega) j hj,e];have key:=λr (hr:r<12)=>h.at_ (k:=k) (r:=r) (t:=[t,t,t,t,t,t,t,u,t,t,b,b][r]) hk (List.getElem?_eq_getElem hr)
 match j,hj with
 | 0,_=>exact h.int (r:=0) hk rfl ht
 | 1,_=>exact h.int (r:=1) hk rfl ht
 | 2,_=>exact h.int (r:=2) hk rfl ht
 | 3,_=>exact h.int (r:=3) hk rfl ht
 | 4,_=>exact h.int (r:=4) hk rfl ht
 | 5,_=>exact h.int (r:=5) hk rfl ht
 | 6,_=>exact h.int (r:=6) hk rfl ht
 | 7,_=>exact h.int (r:=7) hk rfl hu
 | 8,_=>exact h.int (r:=8) hk rfl ht
 | 9,_=>exact h.int (r:=9) hk rfl ht
 | 10,_=>exact h.bool (r:=10) hk rfl hb
 | 11,_=>exact h.bool (r:=11) hk rfl hb
def IsBs (n:Nat) (xs:List DV):Prop:=xs.length=n/\∀ i,i<n->xs[i]?=some (.bool (bAt xs i))
theorem zXQ.bools (h:zXQ P [b] n xs) (hb:P.underlying b=some .bool):IsBs n xs:=
 ⟨by have:=h.1; simpa using this,λi hi=>by
  have:=h.bool (k:=i) (r:=0) hi rfl hb
  simpa using this⟩
section
attribute [local irreducible] Ans AnsO AnsG AnsN AnsI
theorem Scn.neat (s:Scn):Neat s.scr:=by
 have CF:=s.c_facts;have FF:=s.facts;have lo:=s.ops_len;refine ⟨s.with_check (by omega) s.ops_ok,?_,s.dim_ok,s.op0,⟨?_,?_⟩,⟨?_,?_⟩,⟨?_,?_⟩,?_,?_⟩
 ·show zJo (zQi s.bits) s.ims
  rw [s.bits_most]; exact s.ims_ok
 ·show 1<=s.c.c-s.c.a; omega
 ·show s.c.c-s.c.a<=1000; omega
 ·show 1<=s.c.d-s.c.b; omega
 ·show s.c.d-s.c.b<=1000; omega
 ·show -268435456<=s.c.a; omega
 ·show s.c.a<=268435456; omega
 ·show -268435456<=s.c.b; omega
 ·show s.c.b<=268435456; omega
def vw (l:List DV):Scn:=⟨nAt l 0,nAt l 1,nAt l 2,nAt l 3,nAt l 4,nAt l 5,nAt l 6,lAt l 7,cAt l 7,lAt l 8,cAt l 8,lAt l 9,cAt l 9⟩
def zW6:Gam:=jHc.add [.p 17 (λv=>let c:=ptB (vd (ur v 0)) (nAt (uq v) 1) (nAt (uq v) 2);some (RV.tup [rJ c.1,rJ c.2])),
 .q 7 ([true],0,3) (λv b=>let e:=vw (uv v 0);some ⟨AV.agg [cJ e.bits,cJ e.c.a,cJ e.c.b,cJ e.c.c,cJ e.c.d,cJ e.gtw,cJ e.gth,Cl.ref 0 e.ord.length,Cl.ref 1 e.ims.length,Cl.ref 2 e.ops.length],[Bx.row 3 1 (is e.ord),Bx.row 43 28 (ims e.ims),Bx.row 61 12 (ops e.ops)],false⟩)]
def aMU (a b:List Nat) (c:Ann):Ann:=Ann.ice a b Ann.leaf c
def aED (a:Nat) (b:Scn) (d e:Int):Int:=(zWu (List.take a (jI (zQi (Scn.bits b)) (Scn.ims b) (ptB (Scn.c b) d e).fst (ptB (Scn.c b) d e).snd (Scn.ops b)).fst)).fst
def aEE (a:Nat) (b:Scn) (d e:Int):Px:=(zWu (List.take a (jI (zQi (Scn.bits b)) (Scn.ims b) (ptB (Scn.c b) d e).fst (ptB (Scn.c b) d e).snd (Scn.ops b)).fst)).snd
def aJN (a b c:Int) (d:List Im) (e:List Oq) (f:Prop):Prop:=nN a b (List.length (jI c d a b e).fst) (mcs (jI c d a b e).fst) f
theorem zYu (s:Scn) (x y:Int) (hs:s.ok):Ans prog 5 [rA [dJ s.b,dJ s.x,dJ s.y,dJ s.w,dJ s.h,dJ s.tw,dJ s.th,dS s.on s.oxs,dS s.pn s.pxs,dS s.rn s.rxs],rJ (x),rJ (y)] (rD (dQ true)):=
 wc zW6 (let k:=Scn.ops s;let b:=Scn.c s;let p:=ptB b x y;let c:=p.snd;let d:=p.fst;let l:=zQi (Scn.bits s);let n:=zQo (ops k);let o:=zQF (ims (Scn.ims s));let a:=zWX ⟨Scn.bits s,⟨b.a,b.b,b.c,b.d⟩,Scn.gtw s,Scn.gth s,ints (is (Scn.ord s)),o,n⟩;let e:=a.p4;let f:=a.p3;let g:=a.p2;let h:=a.p1;let i:=a.p0;let j:=a.c;cU (aMU [1021,2021,3021] [] (cU (aMU [1034] [10,35] (xH (jL (um (λr=>aEC r (jI l (Scn.ims s) d c k).fst) (λm=>aJM (fG 7 7 (nZ 8 d (aIK 9 c 10 (List.length (jI l o d c n).fst) (mcs (jI l o d c n).fst) (dU 12 12 17 17 (aFB 18 (aED m s x y) 19 (cI m) []))))) 7 (aEZ s b.a b.b b.c b.d 1021 2021 (aCE 3021 k [])) 12 (gL a.w a.h (DV.bool a.so) (aE j.a) (fN j.b j.c j.al j.f (aAM i.w i.h i.s i.n i.xs (sU h.w h.h h.s h.n h.xs g.w g.h g.s g.n g.xs (sU f.w f.h f.s f.n f.xs e.w e.h e.s e.n e.xs []))))) 17 (cN (aEE m s x y)) [(1021,Bx.ice (is (Scn.ord s))),(2021,Bx.ice (ims (Scn.ims s))),(3021,Bx.ice (ops k))]) (λq=>List.length (jI l (Scn.ims s) d c k).fst-q) (λt=>aFE (tN (aMU [] [85] aL)))))))))) Tryz.func5 (let m:=bE false true;let S:=True/\True/\True/\m;let h:=Scn.ops s;let j:=ops h;let f:=zQo j;let k:=Scn.c s;let M:=ptB k x y;let c:=M.snd;let d:=M.fst;let g:=zQF (ims (Scn.ims s));let l:=Scn.bits s;let e:=zQi l;let n:=zYo e g d c f;let U:=List.length h;let V:=DV.sl U (ops h);let E:=Scn.ims s;let W:=DV.sl (List.length E) (ims E);let O:=k.d;let P:=k.c;let u:=k.b;let v:=k.a;let X:=eF l v u P O (Scn.gtw s) (Scn.gth s) [aHB (Scn.ord s),W,V];let Y:=bU c u;let Z:=bU d v;let F:=zWX ⟨l,k,Scn.gtw s,Scn.gth s,ints (is (Scn.ord s)),g,f⟩;let w:=Im.at_ F Z Y;let z0:=imR F;let G:=List.length (jI e g d c f).fst;let z1:=jI e g d c f;let b:=mcs z1.fst;let A:=Im.ds F;let B:=vA s (eS (List.length (Scn.ims s))) (aFI h);let Q:=(jI e E d c h).fst;let I:=List.length Q;let J:=List.length (jI e E d c h).fst;let z5:=(U:Int);bH (tE 7 (cL (aCC s.b s.x s.y s.w s.h s.tw s.th (DV.sl s.on s.oxs) (DV.sl s.pn s.pxs) (DV.sl s.rn s.rxs) []) []) ⟨AV.agg (aEZ s v u P O 0 1 (aCE 2 h [])),[bR 3 1 (is (Scn.ord s)),bR 43 28 (ims (Scn.ims s)),bR 61 12 j],false⟩) (gK (Ans prog 17 (rA (cG k)::iF x y) (zK M)) (aH (aN (tE 21 (cL (aCC l v u P O (Scn.gtw s) (Scn.gth s) (aHB (Scn.ord s)) W V []) (gN d (gN c []))) (wX (fO 0 z1.fst) yJ 79 18 b [] false)) (aBQ (oT 8 X (rT (z0::yF (yF [])))) (cQ (kB 14 l (xQ (zQi l) l)) (Ans prog 10 [] (rD (DV.bool true))/\True/\True/\gW true (eH (rI 0) (dO (dX 0) (yD (Ans prog 22 [rD (aE e),rD (DV.sl G b)] (rD (DV.bool true))) true m (oV true (True/\True/\True/\(∃ D:Nat,eW (aEC D Q) (bM (aJN d c e g f (jE (cO (aED D s x y)) (dF D)))) B A (aFJ (dV=aI (aEE D s x y)) s j))/\(∀ a:Nat,let i:=aEE a s x y;let T:=i.al;let z:=aV a 18;let H:=nAt b (z+0);let C:=aED a s x y;let z2:=(∃ p:Nat,dR p J (eW (dM I p a) (bM (aJN d c e g f (jE (aZ C (aED p s x y)) (bS a p)))) B A (aFJ (rL i (aEE p s x y)) s j)));let o:=fX b a 18;let z3:=bK C;let K:=z+13;let R:=K+1;let z4:=R+1;let L:=cX a G 18 b;let z6:=zN b z 0;aEC a Q->cV (fQ (dP a G) (aM L (aAK z6 (iN (kR H) L (aY (z6/\True) (aFG h maxLen/\True/\True/\eS true/\aFT H z5 m/\(uI H z5->aM L (aAK (mH b a 18) (dC o 5 (True/\True/\True/\True/\(∃ t:Nat,dR t J (eW (dM I t a) (bM (aJN d c e g f (jE (qI C (aED t s x y)) (bS a t)))) B A (aFJ (rL i (aEE t s x y)) s j))))) (mG (o==5) (dC o 6 (True/\True/\True/\True/\(∃ r:Nat,dR r J (eW (dM I r a) (bM (aJN d c e g f (jE (pU (C-1) (aED r s x y)) (bS a r)))) B A (aFJ (rL i (aEE r s x y)) s j))))) o 6 (dN o 4 (True/\(z3=true->True/\True/\L/\True/\fT (bY b K) (bY b R) (cM b (z+13)) (cM b (K+1)) (mT b (z+13))/\True/\True/\True/\True/\(∃ q:Nat,dR q J (eW (dM I q a) (bM (aJN d c e g f (jE (aZ C (aED q s x y)) (bS a q)))) B A (aFJ (bQ (nAt b K) (nAt b R) (nAt b z4) (nAt b (z4+1)) (kL b z 13)=aI (aEE q s x y)) s j))))/\nJ z3 z2)) (nJ (o==4) z2))))))) (iG H 0->cV (gI (eS true) m)))) (iQ a G->aFK (Ans prog 13 [z0,rD (dZ d v),rD (dZ c u)] (aLI F Z Y)) (aHC (wM (w.a==i.a) (w.b==i.b) (w.c==i.c) (w.al==T) (w.f==i.f)) (True/\True/\True/\kV 23 X (iF d c) n/\cT (bE (wM (i.a==n.a) (i.b==n.b) (i.c==n.c) (T==n.al) (i.f==n.f)) true)) (True/\eS true/\m))))))))/\qU (dX 0) m) (sT 0 S))/\lF true (True/\True/\S)))))))) λhwf=>by
  delta eS aB aR iG kR aE aT aF fD aH bQ bZ aM aY bU cQ bK dC fT dZ tE aBQ dN aX gL mR jK aER dE pV aN lZ eC eF bM dO cT cG xM iN cI aW aV mE bS fQ dF aI gI cV zN cS bH kD cX dP iQ dV fX mG kV mH gJ zK aKL aCE aCC aEZ kL cB aZ pU oM kB dR gK eW aFG nJ iF dM uJ qU aFI vA aFK aFJ dX sF gW lF jE bE eH oT uI xQ gC oV aFT qI yX yD bY cO nN aAK yF sT rI wM cM cL gN rL yJ mT fO aHB jI wX aLI aEC aED aEE aHC aJN;simp only [sS,zK7];simp only [zZY,zQS,zQz];have hS:(⟨s.bits,s.c,s.gtw,s.gth,s.ord,s.ims,s.ops⟩:Scr)=s.scr:=rfl;simp only [hS];have hr:s.scr.run.1=0:=by rw [s.scr_run]
  have hso:s.scr.ops=s.ops:=rfl;have lo:=s.ops_len;have CF:=s.c_facts;have FF:=s.facts;have hM:=uh
  have hn:=s.neat;have hu:∀ m∈s.scr.ims,m.isU:=s.ims_isU;have li:=s.ims_len;have lo:=s.ops_len;have hI:s.scr.ims.length<=1000000:=by show s.ims.length<=_; omega
  have hO:s.scr.ops.length<=5000:=by show s.ops.length<=_; omega
  have hpt:=yQj (r:=s.c) ⟨by omega,by omega,by omega,by omega,by omega,by omega⟩ x y;have pt:=jK5 s.c x y;generalize ptB s.c x y=q at *;obtain ⟨U,V⟩:=q;simp only at hpt pt |-;obtain ⟨⟨u1,u2⟩,u3,u4⟩:=jVO hpt;have ok:okO s.scr.bits s.scr.ims.length s.scr.ops []=some []:=(zYx hn.run).2;have rg:=jGE (s:=s.scr) hn.ims hu hO hI hn.opac ok (x:=U) (y:=V) ⟨by omega,by omega⟩ ⟨by omega,by omega⟩;have TI:jK2 (zQi s.bits) s.ops.length (runT (zQi s.bits) s.ims U V s.ops s.ops.length):=jK9 hn.ims rfl hn.opac ok U V s.ops.length (Nat.le_refl _);obtain ⟨a,e1,e2⟩:=hn.trace_end U V;have e1:(runT (zQi s.bits) s.ims U V s.ops s.ops.length).2=[⟨zQI.op,a,.zero⟩]:=e1;have TA:=jQc s.scr U V hu hn.chk hpt rg;have VA:=jYn s.scr U V (jGD hn.ims hu hO hn.opac ok U V);have VE:zYo (zQi s.bits) s.ims U V s.ops=a.col:=e2.symm;have RA:=zKx s.scr hu hI hn.rend;have lenT:=(zUu (zQi s.bits) s.ims U V s.ops s.ops.length).1;have SO:=jQd (zQi s.bits) (runT (zQi s.bits) s.ims U V s.ops s.ops.length).1 (by omega) TI.snd;have IP:(zWX s.scr).at_ (U-s.c.a) (V-s.c.b)=a.col:=by rw [e2]; exact hn.image_px hpt
  have I2:=zY7 (zWX s.scr) (U-s.c.a) (V-s.c.b) (jXZ _ _ _);have wU:IntKind.wrap .i64 (U-s.c.a)=U-s.c.a:=wQb _ ⟨by omega,by omega⟩;have wV:IntKind.wrap .i64 (V-s.c.b)=V-s.c.b:=wQb _ ⟨by omega,by omega⟩;rw [wU,wV];refine ⟨jJZ s hs,pt,TA,RA,zYZ s.bits,?_⟩;clear TA RA pt;generalize runT (zQi s.bits) s.ims U V s.ops s.ops.length=z at *;obtain ⟨tr,L⟩:=z;simp only at e1 lenT SO TI |-;have nf:((0:Int) !=0)=true->false=true:=λh=>absurd h (by decide);have FE:zWu tr=(0,a.col):=by
   have:=TI.fold;simp only at this;rw [this,e1]; rfl
  refine ⟨⟨λ_=>⟨λ_=>⟨SO,id,⟨0,wQi _,⟨rfl,rfl⟩,rfl,rfl,rfl,rfl,rfl⟩,λi hi=>⟨λhlt=>?_,λhge=>?_⟩⟩,nf⟩,nf⟩,id⟩
  ·have hk:i<tr.length:=by omega
   have q1:=jVF hk;have q2:=jVG hk;have b1:0<=(i:Int)/\(i:Int)<(tr.length:Int)/\i*18<(mcs tr).length:=⟨by omega,by omega,by rw [zZL]; omega⟩
   have w1:IntKind.wrap .i64 ((i:Int)+1)=((i+1:Nat):Int):=zXj (by omega);have F1:zWu (tr.take (i+1))=zVp (zWu (tr.take i)) tr[i]:=by rw [wYG hk,zXX]
   have at_:=TI.at_ tr[i] (List.getElem_mem hk);have bd:=jHk (tr.take i);have bl:(tr.take i).length<=i:=List.length_take_le ..;simp only [Nat.add_assoc,Nat.reduceAdd,q1,q2,and_self,true_and];clear q1 q2;generalize tr[i]=u at *;generalize zWu (tr.take i)=fi at *;obtain ⟨o,p⟩:=fi;simp only at bd |-;have wp:IntKind.wrap .i64 (o+1)=o+1:=wQb _ ⟨by omega,by omega⟩;have wm:IntKind.wrap .i64 (o-1)=o-1:=wQb _ ⟨by omega,by omega⟩;refine ⟨b1,λ_=>⟨b1,hM _ (by omega),λh=>absurd h (by omega),λ_=>⟨b1,λh5=>?_,λh5=>⟨λh6=>?_,λh6=>⟨λh4=>⟨λho=>⟨b1,?_⟩,λho=>?_⟩,λh4=>?_⟩⟩⟩⟩,λh=>absurd h (by omega)⟩
   ·have h5:u.kind=5:=by simpa using h5
    rw [jHN h5] at F1;exact ⟨i+1,by omega,by omega,⟨by rw [F1]; exact wp,w1⟩,by rw [F1]; exact ⟨rfl,rfl,rfl,rfl,rfl⟩⟩
   ·have h6:u.kind=6:=by simpa using h6
    rw [jHM h6] at F1;exact ⟨i+1,by omega,by omega,⟨by rw [F1]; exact wm,w1⟩,by rw [F1]; exact ⟨rfl,rfl,rfl,rfl,rfl⟩⟩
   ·have h4:u.kind=4:=by simpa using h4
    have ho:o=0:=by simpa using ho
    rw [jVe h4,if_pos ho] at F1;exact ⟨i+1,by omega,by omega,⟨by rw [F1],w1⟩,by rw [F1]; exact ⟨rfl,rfl,rfl,rfl,rfl⟩⟩
   ·have h4:u.kind=4:=by simpa using h4
    have ho:¬ o=0:=by simpa using ho
    rw [jVe h4,if_neg ho] at F1;exact ⟨i+1,by omega,by omega,⟨by rw [F1],w1⟩,by rw [F1]; exact ⟨rfl,rfl,rfl,rfl,rfl⟩⟩
   ·have h5:¬ u.kind=5:=by simpa using h5
    have h6:¬ u.kind=6:=by simpa using h6
    have h4:¬ u.kind=4:=by simpa using h4
    have F1:zWu (tr.take (i+1))=(o,p):=by rw [F1]; unfold zVp; rw [if_neg h5,if_neg h6,if_neg h4]
    exact ⟨i+1,by omega,by omega,⟨by rw [F1],w1⟩,by rw [F1]; exact ⟨rfl,rfl,rfl,rfl,rfl⟩⟩
  ·have ei:i=tr.length:=by omega
   subst ei;rw [wZw,FE];rw [IP] at I2 |-;have VA:Ans prog 23 [scrR s.scr,RV.d (DV.int .i64 U),RV.d (DV.int .i64 V)] (pxR (zYo (zQi s.bits) s.ims U V s.ops)):=VA;rw [VE] at VA |-;refine ⟨I2,λ_=>⟨VA,by simp⟩,λh=>?_⟩;simp at h
end
end Go.Proofs.YtbnmadpcdlnleaaGreatDoor
namespace Go.Proofs.YtbnmadpcdlnleaaGreatDoor.closed
open Go
set_option linter.unusedVariables false
set_option linter.unusedSimpArgs false
def headL:List Nat:=[104,97,114,110,101,115,115,32,51,97,55,100,98,54,49,54,50,48,101,51,57,48,101,53,97,56,48,50,57,102,99,101,101,102,51,51,99,54,54,54,97,56,53,56,102,56,55,53,54,101,99,55,102,102,49,50,100,101,101,50,54,101,102,56,98,98,50,56,102,51,52,57,32,99,117,116,32,97,116,32,99,111,109,112,111,115,105,116,111,114,47,99,111,109,112,111,115,105,116,111,114,116,111,112,46,84,111,112,84,105,108,101,115,84,111,103,101,116,104,101,114,32,99,111,109,112,111,115,105,116,111,114,47,99,111,109,112,111,115,105,116,111,114,116,111,112,46,84,111,112,79,110,101,83,116,101,112,73,115,72,97,108,102,65,85,110,105,116,32,99,111,109,112,111,115,105,116,111,114,47,99,111,109,112,111,115,105,116,111,114,116,111,112,46,84,111,112,84,114,97,99,101,69,120,112,108,97,105,110,115,32,99,111,109,112,111,115,105,116,111,114,47,99,111,109,112,111,115,105,116,111,114,116,111,112,46,84,111,112,65,110,121,79,114,100,101,114,79,102,82,117,108,101,115]
set_option maxRecDepth 100000 in
theorem jHb:Tryz.prog.initOrder=String.ofList (headL.map Char.ofNat):=by kernel_rfl
set_option maxRecDepth 100000 in
theorem jQF:Tryz.prog.initOrder.toList=(headL.map Char.ofNat):=by rw [jHb,String.toList_ofList]
set_option maxRecDepth 100000 in
theorem enters:Tryz.prog.mayEnter=true:=by
 unfold Program.mayEnter Program.doorFits;rw [jQF]
 kernel_rfl
set_option maxRecDepth 100000 in
theorem liftsNot:Tryz.prog.liftsFinal=false:=by
 unfold Program.liftsFinal Program.headLifts;rw [jQF]
 kernel_rfl
set_option maxRecDepth 100000 in
theorem made:Tryz.prog.make=some .cut:=by
 unfold Program.make;rw [jQF]
 kernel_rfl
theorem own:ownKnob Tryz.prog.godebug=none:=by kernel_rfl
theorem laidOut:laidOutB Tryz.prog=true:=by kernel_rfl
theorem mapsRow:mapsRowed Tryz.prog=true:=by kernel_rfl
theorem noStops:(Tryz.prog.stops==[])=true:=by kernel_rfl
theorem noKnobs:(Tryz.prog.stopKnobs==[])=true:=by kernel_rfl
theorem plain:Tryz.prog.plainKeys=true:=by kernel_rfl
theorem heard:Tryz.prog.stopsHeard=true:=by kernel_rfl
end Go.Proofs.YtbnmadpcdlnleaaGreatDoor.closed
namespace Go.Proofs.YtbnmadpcdlnleaaGreatDoor
open Go.RowKit
set_option linter.unusedVariables false
set_option linter.unusedSimpArgs false
set_option maxRecDepth 20000
variable {sp:Nat->Bool} {va:Bool} {H:Type} {w:World} {laid:List (String × DataW Unit)}
section
open Go.ChangeShapes
open Go.WideShapes
def jQZ {H:Type} (P:Program):Nat->TypeId->DataW H->Nat->Option DV
 | 0,_,_,_=>none
 | fuel+1,t,d,i=>
  match P.underlying t,d with
  | some (.int k),.lit (.int k' n)=>if i=0/\k'=k then some (.int k n) else none
  | some .bool,.lit (.bool b)=>if i=0 then some (.bool b) else none
  | some .string,.lit (.string s)=>if i=0/\s.length<=maxLen then some (.str ⟨s.toArray⟩) else none
  | some (.struct fs),.agg ds=>(fs.toList.zip ds).findSome? λx=>if x.1.offset<=i/\i<x.1.offset+P.cellsOf x.1.type then jQZ P fuel x.1.type x.2 (i-x.1.offset) else none
  | some (.array _ e),.agg ds=>if P.cellsOf e=0 then none else match ds[i / P.cellsOf e]? with
   | some d=>jQZ P fuel e d (i%P.cellsOf e)
   | none=>none
  | _,_=>none
section
variable {H:Type} {enc:TypeId × Value->H} {P:Program} {w:World}
theorem jJO {V:Nat->Prop}:∀ (fuel:Nat) (t:TypeId) (cs:List Value) (d:DataW H) (ps:List MemPlace) (q i:Nat) (dv:DV),
  DataW.trod enc P w 0 sp va fuel t cs=some (d,ps)->jQZ P q t d i=some dv->∃ u,cs[i]?=some u/\RepD w V dv u:=by
 intro fuel
 induction fuel with
 | zero=>intro t cs d ps q i dv h; simp [DataW.trod] at h
 | succ fuel ih=>
  intro t cs d ps q i dv h hq
  cases q with
  | zero=>simp [jQZ] at hq
  | succ q=>
  unfold DataW.trod at h;unfold jQZ at hq;split at h
  ·rename_i b hu;simp only [wQa,wQc] at h;obtain ⟨rfl,_⟩:=h;simp only [hu] at hq;split at hq
   ·rename_i e; subst e; cases hq; exact ⟨_,rfl,by simp only [RepD]⟩
   ·cases hq
  ·rename_i k k' n hu;split at h
   ·rename_i hk;obtain ⟨rfl,hwf⟩:=hk;simp only [wQa,wQc] at h;obtain ⟨rfl,_⟩:=h;simp only [hu] at hq;split at hq
    ·rename_i e; obtain ⟨rfl,_⟩:=e; cases hq; exact ⟨_,rfl,by simp only [RepD]; exact ⟨trivial,hwf⟩⟩
    ·cases hq
   ·cases h
  ·rename_i hu;simp only [hu] at hq;cases hq
  ·rename_i s hu;split at h
   ·simp only [wQa,wQc] at h;obtain ⟨rfl,_⟩:=h;simp only [hu] at hq;split at hq
    ·rename_i e; obtain ⟨rfl,hl⟩:=e; cases hq;exact ⟨_,rfl,by simp only [RepD]; exact ⟨by simp,by simpa using hl⟩⟩
    ·cases hq
   ·cases h
  ·rename_i hu; simp only [hu] at hq; cases hq
  ·rename_i hu; simp only [hu] at hq; cases hq
  ·rename_i hu; simp only [hu] at hq; cases hq
  ·rename_i hu; simp only [hu] at hq; cases hq
  ·rename_i fs hu;split at h
   ·obtain ⟨xs,hxs,h⟩:=wQO.1 h;simp only [wQc] at h;obtain ⟨rfl,_⟩:=h;simp only [hu] at hq;obtain ⟨x,hx,hx2⟩:=List.exists_of_findSome?_eq_some hq;split at hx2
    ·rename_i hr;obtain ⟨j,hj,e⟩:=wYk hx;rw [List.getElem_zip] at e;simp only [List.length_zip,wQC] at hj;have h1:=wZ7 hxs j _ (List.getElem?_eq_getElem (by omega));rw [List.getElem?_eq_getElem (show j<xs.length by omega)] at h1;subst e;simp only [List.getElem_map] at hx2 hr;obtain ⟨u,hu1,hu2⟩:=ih _ _ _ _ q _ dv h1 hx2;refine ⟨u,?_,hu2⟩;rw [wQA,if_pos (by omega),wZd] at hu1;rwa [show _+(i-_)=i from Nat.add_sub_of_le hr.1] at hu1
    ·cases hx2
   ·cases h
  ·rename_i n e hu;split at h
   ·obtain ⟨xs,hxs,h⟩:=wQO.1 h;simp only [wQc] at h;obtain ⟨rfl,_⟩:=h;simp only [hu] at hq;split at hq
    ·cases hq
    ·rename_i hne;split at hq
     ·rename_i d hd;rw [wQS] at hd;obtain ⟨x,hx,rfl⟩:=wQO.1 hd;have hl:=wXy hxs;simp only [wZt] at hl;have hlt:i / P.cellsOf e<xs.length:=(wQK.1 hx).1;have h1:=wZ7 hxs (i / P.cellsOf e) (i / P.cellsOf e) (wZS (by omega));rw [hx] at h1;obtain ⟨u,hu1,hu2⟩:=ih _ _ _ _ q _ dv h1 hq;refine ⟨u,?_,hu2⟩;rw [wQA,if_pos (wQ8 _ (wYw hne)),wZd,wQD] at hu1;rwa [wZy] at hu1
     ·cases hq
   ·cases h
  all_goals first | (cases h; done) | (clear h ih; simp_all; done) | (clear h ih; split at hq<;>simp_all; done)
end
variable {P:Program}
def jH4 (P:Program) (laid:List (String × DataW Unit)) (p:Nat × List DV):Prop:=
 ∃ x t,x∈laid/\P.globalNamed x.1=some p.1/\(P.globals[p.1]?).map (·.type)=some t/\(List.range p.2.length).map (jQZ P 6 t x.2)=p.2.map some
def jW7 (P:Program) (laid:List (String × DataW Unit)) (g:Nat):Prop:=∃ x,x∈laid/\P.globalNamed x.1=some g/\∃ nm d,x.2=.iface nm d
def yZq (P:Program) (g:Nat):Prop:=∀ w:World,w.ShapedOpen P->∃ m,w.cell? ⟨g,0,none⟩=some (.int .i64 m)
theorem jX1 {enc:TypeId × Value->H}:∀ {fuel:Nat} {t:TypeId} {cs:List Value} {nm:String} {d:DataW H} {ps:List MemPlace},DataW.trod enc P w 0 sp va fuel t cs=some (.iface nm d,ps)->∃ u v,cs=[.iface u v]:=by
 intro fuel t cs nm d ps h
 cases fuel with
 | zero=>simp [DataW.trod] at h
 | succ fuel=>
  unfold DataW.trod at h;split at h
  all_goals first
   | exact ⟨_,_,rfl⟩
   |(simp at h; done)
   |(split at h<;>simp at h; done)
   |(exfalso; obtain ⟨x,_,h⟩:=wQO.1 h; cases h; done)
   |(exfalso; split at h; (obtain ⟨x,_,h⟩:=wZq.1 h; obtain ⟨y,_,h⟩:=wQO.1 h; cases h); cases h)
   |(exfalso; split at h; (split at h; (obtain ⟨x,_,h⟩:=wZq.1 h; simp only at h; split at h<;>cases h); cases h); cases h)
theorem zVN {P:Program} {w:World}:∀ {l:List (String × DataW Unit)} {ps:List MemPlace},DataW.LaidVars P w l ps->∀ x∈l,∃ g t cs fuel p,P.globalNamed x.1=some g/\(P.globals[g]?).map (·.type)=some t/\w.var? P x.1=some cs/\DataW.trod (λ_=>()) P w 0 (λ_=>true) false fuel t cs.toList=some (x.2,p)
 | [],_,_,x,hx=>by cases hx
 |(n,d)::r,ps,h,x,hx=>by
  obtain ⟨g,t,cs,fuel,p,q,h1,h2,h3,h4,h5,_⟩:=h
  rcases wQB.1 hx with rfl | hx
  ·exact ⟨g,t,cs,fuel,p,h1,h2,h3,h4⟩
  ·exact zVN h5 x hx
theorem jUV (hm:laidMetH P laid w) (hp:(laid.all λx=>x.2.handleName?.isNone)=true) (ht:∀ p∈zW5,jH4 P laid p) (hs:∀ g∈zUN,jW7 P laid g) (hi:∀ g∈zUO,∃ m,w.cell? ⟨g,0,none⟩=some (.int .i64 m)):zJR w (λ_=>True):=by
 rw [MakeChecks.laidMetH_plain _ _ _ hp] at hm;obtain ⟨ps,hl,_⟩:=hm;refine ⟨λp hp _=>?_,λg hg=>⟨trivial,?_⟩,λg hg=>⟨trivial,hi g hg⟩⟩
 rotate_left
 ·obtain ⟨x,hx,h1,nm,d,hd⟩:=hs g hg;obtain ⟨g',t',cs,fuel,q,g1,g2,g3,g4⟩:=zVN hl x hx;rw [g1] at h1; injection h1 with h1; subst h1
  rw [hd] at g4;obtain ⟨u,v,hc⟩:=jX1 g4;refine ⟨u,v,?_⟩;rw [World.var?_cell g1 g3 0,<- wXK,hc];rfl
 obtain ⟨x,t,hx,h1,h2,h3⟩:=ht p hp;obtain ⟨g,t',cs,fuel,q,g1,g2,g3,g4⟩:=zVN hl x hx;rw [g1] at h1; injection h1 with h1; subst h1
 rw [g2] at h2; injection h2 with h2; subst h2
 refine ⟨trivial,RepCells.of_at λi d hi=>?_⟩;have hlt:i<p.2.length:=(wQK.1 hi).1;have h4:((List.range p.2.length).map (jQZ P 6 t' x.2))[i]?=(p.2.map some)[i]?:=by rw [h3]
 rw [wQS,wZS hlt,wQS,hi] at h4;simp only [wQt,wQa] at h4;obtain ⟨u,hu1,hu2⟩:=jJO (V:=λ_=>True) fuel t' cs.toList x.2 q 6 i d g4 h4;refine ⟨u,?_,hu2⟩;rw [Nat.zero_add,World.var?_cell g1 g3 i,<- wXK];exact hu1
theorem jXX {enc:TypeId × Value->H} {C:Checked} {os:Os} {f:FuncId} {fn:Func} {s:ChangeSpec} {tb:TypeId}
  (own:ownKnob C.prog.godebug=none) (started:os.Started) (noInit:C.prog.inits.idxOf? f=none) (hfn:C.prog.funcs[f]?=some fn)
  (witness:∃ (w:World) (tape:Tape) (i:Input),w.os=os/\(w.forCall tape i).Shaped C.prog/\i.vars=[]/\Input.okWide C.prog (w.forCall tape i) .any w.heap.size f i /\
   ((s.pre enc C.prog fn [] false (w.forCall tape i).memory i.args/\laidMetH C.prog laid (w.forCall tape i).memory)/\sizedMet enc C.prog fn (OpenSpec.ofChange s) false (w.forCall tape i).memory i.args)/\({}:Assume).holds C.prog (lone (Frame.enter C.prog f i.args .normal) [] (w.forCall tape i)))
  (hspec:∀ ds:List (DataW H),ds.length=fn.params.toList.length->s.fn H ds={ results:=[.lit (.bool true)],args:=ds }) (hvars:s.vars=[])
  (hres:fn.resultTypes=#[tb]) (hb:C.prog.underlying tb=some .bool) (laidO:laidOutB C.prog=true)
  (hread:∀ t∈fn.params.toList,C.prog.readableRec t=true/\t<C.prog.types.size)
  (hp:(laid.all λx=>x.2.handleName?.isNone)=true) (ht:∀ p∈zW5,jH4 C.prog laid p) (hsn:∀ g∈zUN,jW7 C.prog laid g) (hin:∀ g∈zUO,yZq C.prog g)
  (walk:∀ (W:World) (args:Array Value),zJR W (λ_=>True)->Args C.prog W fn.params.toList args.toList->Calls C.prog f args W λe W'=>e=.returned (.bool true)/\Below W.heap.size W W') :
  ReturnsInHanded {} C os f .any (λw args=>(s.pre enc C.prog fn [] false w args/\laidMetH C.prog laid w)/\sizedMet enc C.prog fn (OpenSpec.ofChange s) false w args) (s.post enc C.prog fn false true false false):=by
 refine returnsInHanded_of_calls own started noInit witness ?_;intro w0 tape i0 _ hshape _ hok hpre _;obtain ⟨_,_,_,fn',hfn',_,_,_,_,hval⟩:=hok;have efn:=wYy (hfn'.symm.trans hfn);subst efn;obtain ⟨⟨⟨ds,gs,before,hW0,_⟩,hlaid0⟩,hz⟩:=hpre;have hW:=DataW.Whole.of_heap (w':=w0.forCall tape i0) (by rfl) hW0;have hsz:(DataW.weightsEach C.prog (fn'.params.toList++s.plain.varTypes C.prog) (ds++gs)).all (·<=reachBytes)=true:=hz.weights hW0;have hlaid:laidMetH C.prog laid (w0.forCall tape i0):=laidMetH.of_heap (w:=(w0.forCall tape i0).memory) (by rfl) hlaid0
 suffices h:Calls C.prog f i0.args (w0.forCall tape i0) λe W'=>∃ v,e=.returned v/\s.post enc C.prog fn' false true false false (w0.forCall tape i0) i0.args v W' from
  h.mono λe W' ⟨v,he,hp⟩=>by subst he; exact ChangeSpec.post_blind hp
 generalize w0.forCall tape i0=W at *;generalize i0.args=args at *;have hW':=hW;obtain ⟨p,q,hA,hV,rfl,_,_⟩:=hW;rw [hvars] at hV;obtain ⟨rfl,rfl⟩:=trodVars_none hV;have hvt:s.plain.varTypes C.prog=[]:=by simp [ChangeSpec.plain,DataSpec.varTypes,hvars]
 rw [hvt,wQ1,wQ1] at hsz;obtain ⟨ha,hlen⟩:=zV2 hA (λn hn=>by simpa using List.all_eq_true.1 hsz n hn) (λj t v ht hv=>jQY (hval j t v (by simpa using ht) (by simpa using hv)));refine (walk W args (jUV hlaid hp ht hsn λg hg=>hin g hg W hshape) ha).mono λe W' ⟨he,bel⟩=>?_;subst he;have hs:=hspec ds hlen;refine ⟨_,rfl,ds,[],p++[],[],p,[],hW',?_,?_,?_,bel.frame _,λh=>by cases h⟩
 ·rw [wQ1,hs,hres];exact trodAll_mk1 (shut_bool hb _)
 ·rw [wQ1,hs];exact zUi laidO bel hread hA
 ·rw [wQ1,hs,hvars];rfl
end
open Go.Proofs.Tryz (prog)
abbrev jKD:List (String × DataW Unit):=[("compositor/operator.rules", Rows.laid_compositor_operator_rules),("compositor/blend.names", Rows.laid_compositor_blend_names)]
set_option maxRecDepth 100000 in
theorem yZb:∀ p∈zW5,jH4 prog jKD p:=by
 intro p hp;simp only [zW5,wQB,wYx,or_false] at hp
 rcases hp with rfl | rfl
 ·exact ⟨("compositor/blend.names", Rows.laid_compositor_blend_names),306,(List.mem_cons_of_mem _ List.mem_cons_self),by kernel_rfl,by kernel_rfl,by kernel_rfl⟩
 ·exact ⟨("compositor/operator.rules", Rows.laid_compositor_operator_rules),318,List.mem_cons_self,by kernel_rfl,by kernel_rfl,by kernel_rfl⟩
set_option maxRecDepth 100000 in
theorem yQc:∀ g∈zUN,jW7 prog jKD g:=by
 intro g hg;simp [zUN] at hg
theorem yQz:∀ g∈zUO,yZq prog g:=by
 intro g hg;simp only [zUO,wQB,wYx,or_false] at hg
theorem jWr:(jKD.all λx=>x.2.handleName?.isNone)=true:=by kernel_rfl
set_option maxRecDepth 100000 in
theorem jHs (os:Os) (args:Array Value):laidMetH prog jKD ((World.doorLaid prog 400 os).forCall (λ_ _=>0) ⟨#[],args,[]⟩).memory:=
 laidMetH_of_parts3 (fuel:=8) (laidMet_of_run' 8 (by kernel_rfl) (by kernel_rfl)) (by kernel_rfl) (by kernel_rfl)
end Go.Proofs.YtbnmadpcdlnleaaGreatDoor
