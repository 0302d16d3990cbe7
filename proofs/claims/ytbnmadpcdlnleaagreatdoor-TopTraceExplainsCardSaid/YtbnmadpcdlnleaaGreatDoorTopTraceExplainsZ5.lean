/-
  Part 5 of what TopTraceExplains rests on.
-/
import Derived.Test.YtbnmadpcdlnleaaGreatDoorTopTraceExplainsZ4
namespace Go.Proofs.YtbnmadpcdlnleaaGreatDoor
open Go.IntKind (wrap)
open Go.RowKit
set_option linter.unusedVariables false
set_option linter.unusedSimpArgs false
set_option maxRecDepth 20000
open Go.Proofs.Tryz (prog)
section
attribute [local irreducible] Ans AnsO AnsG AnsN AnsI
abbrev aD (q:Ac):List DV:=[DV.int .u16 q.a,DV.int .u16 q.b,DV.int .u16 q.c,DV.int .u16 q.al,DV.int .u16 q.own,DV.int .u16 q.f]
def gZ35:List RV->Option RV:=λv=>let c:=zQm (vg (ur v 0)) (nAt (uq v) 1) (nAt (uq v) 2);some (RV.tup [RV.agg (pD (c.1)),RV.d (dQ c.2)])
def gZ36:List RV->Option RV:=λv=>let c:=zXM (vg (ur v 0)) (nAt (uq v) 1) (nAt (uq v) 2) (nAt (uq v) 3);some (RV.tup [RV.agg (pD (c.1)),RV.d (dQ c.2)])
def vt (l:List DV):Ac:=⟨nAt l 0,nAt l 1,nAt l 2,nAt l 3,nAt l 4,nAt l 5⟩
def gZ37:List RV->Option RV:=λv=>some (RV.d (dQ (Ac.ok (vt (ur v 0)) (vg (ur v 1)) (nAt (uq v) 2))))
def gZ38:List RV->Option RV:=λv=>let c:=zQM (bAt (uq v) 0) (bAt (uq v) 1) (vt (ur v 2)) (vg (ur v 3));some (RV.tup [RV.agg (aD (c.1)),RV.agg (pD (c.2))])
def gZ39:List RV->Option RV:=λv=>let c:=nAt (uq v) 3;let e:=nAt (uq v) 2;let f:=nAt (uq v) 1;let g:=bAt (uq v) 0;let h:=vt (ur v 5);let i:=vg (ur v 6);let j:=vg (ur v 4);some (RV.tup [RV.agg (aD (zY9 g f e c j h i)),RV.d (dQ (zZn g f e c j h i))])
def gZ40:List RV->Option RV:=λv=>let c:=nAt (uq v) 2;let e:=vt (ur v 0);let f:=vg (ur v 1);some (RV.tup [RV.agg (pD (resE e f c)),RV.d (dQ (Ac.ok e f c))])
def jX4:Gam:=zGE.add [.p 118 (λv=>some (RV.d (DV.int .u32 (zQP (nAt (uq v) 0) 255)))),
 .p 119 (λv=>some (RV.d (DV.int .u64 (zQP (nAt (uq v) 0) 65535)))),
 .p 64 gZ35,
 .p 229 gZ36,
 .p 182 gZ37,
 .p 181 gZ38,
 .p 244 (λv=>some (RV.tup [RV.agg (aD (accS true 4 (nAt (uq v) 0) (nAt (uq v) 1) (vg (ur v 2)) (vt (ur v 3)) (vg (ur v 4)))),RV.d (dQ true)])),
 .p 230 gZ39,
 .p 183 (λv=>some (RV.d (dK (remS (nAt (uq v) 3) (nAt (uq v) 0) (nAt (uq v) 2) (nAt (uq v) 1))))),
 .p 109 gZ40]
def cN (d:Px):wi:=bJ d.a (fN d.b d.c d.al d.f [])
def aOB (a:we) (b:wi) (c:Nat) (d:wi) (e:wg):Snap:=lY a 3 b c d e
def aPZ (a:Nat) (b:Int) (c:Nat) (d:Int) (e:we) (f:wi) (g:Nat) (h:wi) (i:wg):Snap:=aOB (qY a b c d e) f g h i
def aQB (a:Nat) (b:Int) (c:Nat) (d:Int) (e:we) (f:wi) (g:Nat) (h:wi) (i:wg):Snap:=aPZ a b c d e f g (iV (cP h)) i
def aNM (a:Nat) (b:Int) (c:Nat) (d:Int) (e:we) (f:wi) (g:Nat) (h:wi) (i:wg):Snap:=aQB a b c d e f g (cP h) i
def aNU (a:Nat) (b:Int) (c:Nat) (d:Int) (e:Nat) (f:we) (g h:wi) (i:wg):Snap:=aNM a b c d (aAC e e f) g e h i
def aHZ (a:Nat) (b:Int) (c:Nat) (d:Int) (e f:Nat) (g:wi) (h:Nat) (i:Int) (j k:wi) (l:wg):Snap:=aNU a b c d e (aNJ f g h i) j k l
def eY (a:Px × Bool):List DV:=aI a.fst
def aCU (a b:Int) (c:Prop):Prop:=eS (aE a)/\iA b c
def aGV (a:Int) (b:List DV):List DV:=aE 0::aE 0::aE 0::aE a::b
def xE (a:FuncId) (b:DV) (c:RV) (e:Prop):Prop:=cQ (Ans prog a [RV.d b] c) e
def aKG (a:Int):Int:=fH (zQP a 65535)
def aKF (a:Int):Int:=fH (zQP a 255)
def aMC (a:Int) (b c:Prop):Prop:=qT a 255 b (uS a 255 c)
def xF (a:Px) (b c d e:Int) (f:Prop):Prop:=aF (zXd a b c=true) (aCU b c (jE (bM (aF (eS (1:Nat)) (eS (2:Nat)) (eS (3:Nat)) (eS (4:Nat)))) (qI d e))) f (eS [aE 0,aE 0,aE 0,aE 0,aE 0])
def aIA (a:Px) (b c:Int) (d:Prop):Prop:=zXd a b c=true->True/\d
theorem zXE (p:Px) (k m:Int):Ans prog 64 [rA (pD p),rD (dK k),rD (dK m)] (rT [rA (pD ((zQm p k m).1)),rD (dQ ((zQm p k m).2))]):=
 wc jX4 (let a:=zZZ p k m;let b:=[Cl.ptr 3 0,Cl.ptr 3 1,Cl.ptr 3 2,Cl.ptr 3 3,Cl.ptr 3 4];let d:=zXd p k m=true;let c:=a.a;cU (uj d (aNU 1 k 2 m 6 [] (cN p) [] []) (zM (ui d (aHZ 1 k 2 m 6 37 b 38 0 (cN p) [] []) aBE (ui d (aHZ 1 k 2 m 6 37 b 38 1 (bJ c (fN p.b p.c p.al p.f [])) [] []) aBE (ui d (aHZ 1 k 2 m 6 37 b 38 2 (bJ c (fN a.b p.c p.al p.f [])) [] []) aBE (ui d (aHZ 1 k 2 m 6 37 b 38 3 (bJ c (fN a.b a.c p.al p.f [])) [] []) aBE (ui d (aHZ 1 k 2 m 6 37 b 38 4 (bJ a.a (fN a.b a.c a.al p.f [])) [] []) aBE (ui d (aHZ 1 k 2 m 6 37 b 38 5 (cN a) [] []) yU aL))))))))) Tryz.func64 (let g:=(zQm p k m).snd;let h:=eY (zQm p k m);let a:=zZZ p k m;let e:=jV k;let x:=jV p.f*e;let i:=jV x;let y:=aG i;let q:=a.al;let r:=a.c;let s:=a.b;let t:=a.a;let z:=bQ t s r q p.f;let A:=jV p.al*e;let j:=jV A;let B:=aG j;let u:=a.c;let c:=a.b;let b:=a.a;let d:=p.al;let C:=aFY b c u d p.f;let D:=jV p.c*e;let l:=jV D;let E:=aG l;let v:=[aE p.f];let F:=aDT b c p v;let G:=jV p.b*e;let n:=jV G;let H:=aG n;let w:=zXd p k m=true;let I:=bQ b p.b p.c d p.f;let J:=jV p.a*e;let o:=jV J;let K:=aG o;let f:=aGV 0 [aE 0];let L:=yA (Px.ok p m) (iH k m (mK f false h g) (fL k m->(∃ z6:Unit,nW w (aCU k m (eS (0:Nat)/\True)) (aI p) f))) (xZ (Px.ok p m) (tO f false h g));let M:=xY 117 (aI p) m p;True/\True/\True/\aHC (m !=255) (True/\True/\True/\cS (m !=65535) M L/\qU (m !=65535) (cZ (rT [rA f,rD (DV.bool false)]) (rT [rA h,rD (DV.bool g)]))) (True/\True/\True/\M/\L)/\(∀ z5:Unit,aIA p k m (jH (jX 3) (pP 3) True (aCP (aDC (∃ z4:Unit,nW w (aCU k m (jE (bM (aF (eS (1:Nat)) (eS (2:Nat)) (eS (3:Nat)) (eS (4:Nat)))) jD)) (aI p) f) (∀ z3:Unit,aIA p k m (gD 0/\jX 5/\aH (aMC m (xE 118 (lX (jV J)) (aHX o) (∃ z2:Unit,xF p k m 0 1 (bQ (aKF o) p.b p.c d p.f=I))) (xE 119 (bX o) (aHY K) (∃ z1:Unit,xF p k m 0 1 (bQ (aKG K) p.b p.c d p.f=I)))))) (∀ z0:Unit,w->zD (gD 1) (pP 5) (bF (qT m 255 (xE 118 (lX (jV G)) (aHX n) (∃ Z:Unit,xF p k m 1 2 (aDT b (aKF n) p v=F))) (dO (m==255) (True/\gI (Ans prog 119 [rD (bX n)] (aHY H)) (True/\True/\True/\True/\(∃ Y:Unit,xF p k m 1 2 (aDT b (aKG H) p v=F)))))))) (∀ X:Unit,aIA p k m (gD 2/\qM 5/\aH (aMC m (xE 118 (lX (jV D)) (aHX l) (∃ W:Unit,xF p k m 2 3 (bQ b c (aKF l) d p.f=C))) (xE 119 (bX l) (aHY E) (∃ V:Unit,xF p k m 2 3 (bQ b c (aKG E) d p.f=C)))))) (∀ U:Unit,aIA p k m (gD 3/\oE 3 3 5/\aH (aMC m (xE 118 (lX (jV A)) (aHX j) (∃ T:Unit,xF p k m 3 4 (bQ b c u (aKF j) p.f=z))) (xE 119 (bX j) (aHY B) (∃ S:Unit,xF p k m 3 4 (bQ b c u (aKG B) p.f=z)))))) (∀ R:Unit,aIA p k m (gD 4/\oE 4 4 5/\aH (aMC m (xE 118 (lX (jV x)) (aHX i) (∃ Q:Unit,xF p k m 4 5 (bQ t s r q (aKF i)=aI a))) (xE 119 (bX i) (aHY y) (∃ P:Unit,xF p k m 4 5 (bQ t s r q (aKG y)=aI a)))))) (∀ O:Unit,aIA p k m (aN aDB (tP (aI a) h g)))))))) λhwf=>by
  delta eS aB dY aE aT aF aH bQ aM oE cQ jX uS dE aN bM dO iA xM zD aW iH fQ aI fL gI pP qM cS jM fH pU bF jD qT qU aK fR cZ mK zQ lB aG bX gW jE iS tO tP vL aCP nP eY aFY qI xY aCU yA xZ aDT nW gD aDC aDB jH aGV aHC xE lX jV aHX aHY aKG aKF aMC xF aIA;simp only [sS];simp only [RV.wfs,RV.wf,DV.wf,DV.wfs,uc] at hwf;obtain ⟨⟨⟨a0,a1⟩,⟨b0,b1⟩,⟨c0,c1⟩,⟨l0,l1⟩,⟨f0,f1⟩,_⟩,⟨k0,k1⟩,⟨m0,m1⟩,_⟩:=hwf;have s1:zQm p k m=if zXd p k m then (zZZ p k m,true) else (.zero,false):=rfl
  have bad:¬ (zQH m=true/\p.ok m=true/\k<=m)->(0=(zQm p k m).1.a/\0=(zQm p k m).1.b/\0=(zQm p k m).1.c/\0=(zQm p k m).1.al/\0=(zQm p k m).1.f)/\false=(zQm p k m).2:=λhn=>by
   have:zQm p k m=(.zero,false):=by
    rw [s1,if_neg];intro e;simp only [zXd,wQe,wQj] at e;exact hn ⟨e.1,e.2.1,e.2.2⟩
   rw [this]; exact ⟨⟨rfl,rfl,rfl,rfl,rfl⟩,rfl⟩
  have vp:=zQr p.a p.b p.c p.al p.f m;change Ans _ _ _ (RV.d (DV.bool (p.ok m))) at vp;have nf:(m !=255)=true->(m !=65535)=true->¬ zQH m=true:=λh1 h2 h=>by
   have h1:=wQP.1 h1;have h2:=wQP.1 h2
   rcases zGG h with h | h<;>contradiction
  have fa:(m !=65535)=false->zQH m=true:=λh=>decide_eq_true (.inr (wZm.1 h));have fb:(m !=255)=false->zQH m=true:=λh=>decide_eq_true (.inl (wZm.1 h));have sb:zQH m=true->p.ok m=true->¬ k>m->zXd p k m=true:=λh1 h2 h3=>by
   unfold zXd; rw [h1,h2,decide_eq_true (show k<=m by omega)]; rfl
  have tail:zQH m=true->_/\(p.ok m=true->(k>m->_/\_)/\(¬ k>m->∃ _:Unit,zXd p k m=true))/\(p.ok m=false->_/\_):=λhf=>⟨vp,λhp=>⟨λhk=>bad (λh=>by omega),λhk=>⟨(),sb hf hp hk⟩⟩,λhp=>bad (λh=>by rw [hp] at h; exact absurd h.2.1 (by decide))⟩
  refine ⟨⟨λh1=>⟨λh2=>tail (fa h2),λh2=>bad (λh=>nf h1 h2 h.1)⟩,λh1=>tail (fb h1)⟩,λhs=>?_⟩;clear bad nf fa fb sb tail vp;have hs':=hs;unfold zXd at hs';simp only [wQe,wQj] at hs';obtain ⟨hf,hp,hk⟩:=hs';have hm:=(zQO hf).1;have e:zQm p k m=(zZZ p k m,true):=by rw [s1,if_pos hs]
  rw [e];clear e s1;obtain ⟨o1,o2⟩:=zUq hm hp ⟨a0,b0,c0⟩ k0 hk;obtain ⟨x1,x2,x3,x4,x5⟩:=Px.ok_iff.1 o1;obtain ⟨y1,y2,y3⟩:=o2;have W32:∀ x:Int,0<=x->x<4294967296->wrap .u32 x=x:=λx x0 x1=>wXG x ⟨x0,by omega⟩;have W64:∀ x:Int,0<=x->x<18446744073709551616->wrap .u64 x=x:=λx x0 x1=>wQd x ⟨x0,by omega⟩;have U:=uf;have ch:∀ v:Int,0<=v->v<=65535->wrap .u32 (wrap .u32 v*wrap .u32 k)=v*k/\wrap .u64 (v*k)=v*k:=λv v0 v1=>by
   have:=zQc v0 v1 k0 k1;rw [W32 v v0 (by omega),W32 k k0 (by omega),W32 _ this.1 (by omega),W64 _ this.1 (by omega)];exact ⟨rfl,rfl⟩
  have ca:=ch _ a0 a1;have cb:=ch _ b0 b1;have cc:=ch _ c0 c1;have cl:=ch _ l0 l1;have cf:=ch _ f0 f1;simp only [ca.1,ca.2,cb.1,cb.2,cc.1,cc.2,cl.1,cl.2,cf.1,cf.2];clear ch ca cb cc cl cf;have w1:wrap .i64 (0+1)=1:=by decide
  have w2:wrap .i64 (1+1)=2:=by decide
  have w3:wrap .i64 (2+1)=3:=by decide
  have w4:wrap .i64 (3+1)=4:=by decide
  have w5:wrap .i64 (4+1)=5:=by decide
  have fin:∀ (v z r:Int),z=zQP (v*k) m->0<=z->z<=65535->((m==255)=true->wrap .u16 (zQP (v*k) 255)=z)/\((m==255)=false->wrap .u16 (zQP (v*k) 65535)=z):=λv z r hz z0 z1=>by
   subst hz
   rcases zGG hf with rfl | rfl
   ·exact ⟨λ_=>U _ z0 z1,λh=>by cases h⟩
   ·exact ⟨λh=>absurd h (by decide),λ_=>U _ z0 z1⟩
  have g1:=fin p.a (zZZ p k m).a 0 rfl y1 (by omega);have g2:=fin p.b (zZZ p k m).b 0 rfl y2 (by omega);have g3:=fin p.c (zZZ p k m).c 0 rfl y3 (by omega);have g4:=fin p.al (zZZ p k m).al 0 rfl (by omega) (by omega);have g5:=fin p.f (zZZ p k m).f 0 rfl (by omega) (by omega);have B1:=λv=>zXF (v*k);have B2:=λv=>zXS (v*k)
  (repeat' (first | intro _ | apply And.intro | refine Exists.intro () ?_))<;>first | exact hs | exact B1 _ | exact B2 _ | exact w1 | exact w2 | exact w3 | exact w4 | exact w5 | decide | rfl | exact g1.1 ‹_› | exact g1.2 ‹_› | exact g2.1 ‹_› | exact g2.2 ‹_› | exact g3.1 ‹_› | exact g3.2 ‹_› | exact g4.1 ‹_› | exact g4.2 ‹_› | exact g5.1 ‹_› | exact g5.2 ‹_› | omega
def xU (a:FuncId) (b:List DV) (c:List RV) (e:List DV) (f:Px × Bool):Prop:=Ans prog a (RV.agg b::c) (RV.tup [RV.agg e,RV.d (DV.bool f.snd)])
def qA (a:Px) (b c:Int):Px:=(zQm a b c).fst
def xV (a:FuncId) (b:List DV) (c e:Int) (f:Px):Prop:=xU a b [RV.d (aE c),RV.d (aE e)] (eY (zQm f c e)) (zQm f c e)
theorem zWF (p:Px) (j k m:Int):Ans prog 229 [rA (pD p),rD (dK j),rD (dK k),rD (dK m)] (rT [rA (pD ((zXM p j k m).1)),rD (dQ ((zXM p j k m).2))]):=
 wc jX4 aL Tryz.func229 (let a:=(zXM p j k m).snd;let b:=aAB (zXM p j k m).fst;bF (bH (xV 64 (aI p) j m p) (aCO (zQm p j m).snd (mK dV false b a) (bH (xV 64 (eY (zQm p j m)) k m (qA p j m)) (tO (eY (zQm (qA p j m) k m)) (zQm (qA p j m) k m).snd b a))))) λhwf=>by
  delta eS aE bQ aI bH dV bF fR mK gC vH aCO tO nP eY xU aFY qA xV aAB;simp only [sS];have S:=zXE p j m;have S2:=zXE (zQm p j m).1 k m;refine ⟨S,λh=>?_,λh=>⟨S2,?_⟩⟩
  ·have:zXd p j m=false:=by
    cases e:zXd p j m with
    | false=>rfl
    | true=>unfold zQm at h; rw [if_pos e] at h; cases h
   unfold zXM;rw [this];exact ⟨⟨rfl,rfl,rfl,rfl,rfl⟩,rfl⟩
  ·have:zXd p j m=true:=by
    cases e:zXd p j m with
    | true=>rfl
    | false=>unfold zQm at h; rw [e] at h; cases h
   have e:zXM p j k m=zQm (zQm p j m).1 k m:=by
    unfold zXM;rw [if_pos this];have:zQm p j m=(zZZ p j m,true):=by unfold zQm; rw [if_pos this]
    rw [this]
   rw [e];exact ⟨⟨rfl,rfl,rfl,rfl,rfl⟩,rfl⟩
def aBF (a b c:Int) (d:Ac) (e:wi):wi:=oW a b (fN c d.al d.own d.f e)
def aSU (d:we) (e:Ac) (f:wi) (g:Nat) (h:wi) (i:wg):Snap:=aOB d (aBF e.a e.b e.c e f) g h i
def aIS (a:we) (b:Ac) (c:wi) (d:Nat) (e:Px) (f:wg):Snap:=aSU a b c d (cN e) f
def aPA (a:Nat) (b:Int) (c d:Nat) (e:we):we:=wY a b (aAC c d e)
def aPX (a:Nat) (b:Int) (c d:Nat) (e:we) (f:Ac) (g:wi) (h:Nat) (i:Px) (j:wg):Snap:=aIS (aPA a b c d e) f g h i j
def aQA (a:Int) (b c:Nat) (d:we) (e:Ac) (f:wi) (g:Nat) (h:Px) (i:wg):Snap:=aPX 2 a b c d e f g h i
def aQC (a:Int) (b:Nat) (c:we) (d:Ac) (e:wi) (f:Nat) (g:Px) (h:wg):Snap:=aQA a 4 b c d e f g h
def aQD (a:Int) (b:we) (c:Ac) (d:wi) (e:Nat) (f:Px) (g:wg):Snap:=aQC a 4 b c d e f g
def aQE (a:Int) (b:we) (c:Ac) (d:Nat) (e:Px) (f:wg):Snap:=aQD a b c [] d e f
def yC (a:Int) (b:we) (c:Ac) (d:Px) (e:wg):Snap:=aQE a b c 4 d e
def aPN (b:Nat) (c:Ac) (d e:Int) (f:Nat) (g:Int):we:=aKE b c.a d e f g
def aPO (a:Nat) (c:Ac) (d:Int) (e:Nat) (f:Int):we:=aPN a c c.b d e f
def rR (a:Nat) (b:Ac) (d:Nat) (e:Int):we:=aPO a b b.c d e
def aLP (a:Int) (b:Nat) (c:Ac) (d:Nat) (e:Int) (f:Px) (g:wg):Snap:=yC a (rR b c d e) c f g
def eX (a b c d e f:Int):List DV:=[aE a,aE b,aE c,aE d,aE e,aE f]
def dH (d:Ac):List DV:=eX d.a d.b d.c d.al d.own d.f
def aAH (a:Prop) (b:Int) (c:Prop) (d:Ac) (e:Px):Prop:=nW a (iA b c) (dH d) (aI e)
theorem zVR (x:Ac) (k:Px) (m:Int):Ans prog 182 [rA (aD x),rA (pD k),rD (dK m)] (rD (dQ (Ac.ok x k m))):=
 wc jX4 (let a:=x.a<=x.al;sA (ui True (aLP m 10 x 11 0 k []) aBE (ui (a/\True) (aLP m 10 x 11 1 k []) aBE (ui (a/\x.b<=x.al/\True) (aLP m 10 x 11 2 k []) aBE (ui (aW a (x.b<=x.al) (x.c<=x.al)) (aLP m 10 x 11 3 k []) yU aL))))) Tryz.func182 (let a:=Ac.ok x k m;let d:=aH (bE false a);let b:=x.al;let f:=gK (lH x.own b->True/\True/\True/\True/\eH (lH x.own x.f) (gK (lH b m->True/\True/\True/\True/\gK (lH x.f m->eU (aBW (xY 117 (aI k) m k) (Px.ok k m) (bL (bE (k.f==k.al) a)) (iW (Px.ok k m) (aBO a)))) (mM (decide (x.f<=m)) true a)) (tX b m (gZ false a))) (sJ (decide (x.own<=x.f)) true d)) (tX x.own b d);let e:=x.a<=x.al;let g:=aW e (x.b<=x.al) (x.c<=x.al);let c:=nP x.a x.b x.c [];let h:=e/\x.b<=x.al/\True;let i:=e/\True;bF (True/\True/\True/\(∃ s:Unit,aAH True m (jE (eS c) jD) x k)/\aF (∀ r:Unit,True->dY vP (pG 0 x.a) (True/\aEI x.a b a (∃ q:Unit,aAH i m (rU c 0 1) x k))) (∀ p:Unit,i->True/\cR vQ (pG 1 x.b) (aEI x.b b a (∃ o:Unit,aAH h m (rU c 1 2) x k))) (∀ n:Unit,h->True/\cR vR (pG 2 x.c) (aEI x.c b a (∃ l:Unit,aAH g m (rU c 2 3) x k))) (∀ j:Unit,bP g vT (True/\True/\True/\uS m 255 (True/\True/\True/\((m==65535)=true->True/\True/\True/\True/\True/\f)/\mA (m==65535) (True/\d))/\mE (m==255) (bL f))))) λhwf=>by
  delta eS aB dY aE aT aF aH bQ uS dE cR iA xM mA aBW aW iH mE bP aI fL jM eU pU bF bL gK jD lB jE bE eH gZ lH iW tX mM sJ eX dH nP xW qI vP vR vQ vT xY nW aBO aAH aHG pG rU aEI;simp only [sS];simp only [RV.wfs,RV.wf,DV.wf,DV.wfs,uc] at hwf;have vp:=zQr k.a k.b k.c k.al k.f m;change Ans _ _ _ (RV.d (DV.bool (k.ok m))) at vp;have no:¬ ((x.a<=x.al/\x.b<=x.al/\x.c<=x.al)/\zQH m=true/\(x.own<=x.al/\x.own<=x.f/\x.al<=m/\x.f<=m)/\k.ok m=true/\k.f=k.al)->false=x.ok k m:=λh=>by
   cases e:x.ok k m with
   | false=>rfl
   | true=>exact absurd (Ac.ok_iff.1 e) h
  have w1:wrap .i64 (0+1)=1:=by decide
  have w2:wrap .i64 (1+1)=2:=by decide
  have w3:wrap .i64 (2+1)=3:=by decide
  have tail:(x.a<=x.al/\x.b<=x.al/\x.c<=x.al)->zQH m=true->(x.own<=x.al->(x.own<=x.f->(x.al<=m->(x.f<=m->_/\(k.ok m=true->(k.f==k.al)=x.ok k m)/\(k.ok m=false->false=x.ok k m))/\(¬ x.f<=m->false=x.ok k m))/\(¬ x.al<=m->false=x.ok k m))/\(¬ x.own<=x.f->false=x.ok k m))/\(¬ x.own<=x.al->false=x.ok k m):=λh3 hf=>⟨λg1=>⟨λg2=>⟨λg3=>⟨λg4=>⟨vp,λhk=>(by
   by_cases e:k.f=k.al
   ·rw [Ac.ok_iff.2 ⟨h3,hf,⟨g1,g2,g3,g4⟩,hk,e⟩];simpa using e
   ·rw [<- no (λq=>e q.2.2.2.2)]
    simpa using e),λhk=>no (λq=>by rw [hk] at q; exact absurd q.2.2.2.1 (by decide))⟩,λh=>no (λq=>by omega)⟩,λh=>no (λq=>by omega)⟩,λh=>no (λq=>by omega)⟩,λh=>no (λq=>by omega)⟩
  refine ⟨⟨(),trivial⟩,⟨by decide,by decide,λh=>no (λq=>by omega),λh=>⟨(),by omega,w1⟩⟩,λh1=>⟨by decide,by decide,λh=>no (λq=>by omega),λh=>⟨(),⟨h1,by omega⟩,w2⟩⟩,λh2=>⟨by decide,by decide,λh=>no (λq=>by omega),λh=>⟨(),⟨h2.1,h2.2,by omega⟩,w3⟩⟩,λh3=>⟨by decide,λm1=>⟨λm2=>tail h3 (decide_eq_true (.inr (by simpa using m2))),λm2=>no λq=>?_⟩,λm1=>tail h3 (decide_eq_true (.inl (by simpa using m1)))⟩⟩
  rcases zGG q.2.1 with h | h
  ·rw [h] at m1; cases m1
  ·rw [h] at m2; cases m2
def yB (a b c:Int):List DV:=eX a b 0 0 0 c
def tR (a b:List DV):RV:=RV.tup [RV.agg a,RV.agg b]
def zV:List DV:=yB 0 0 0
theorem zVS (iso kno:Bool) (x:Ac) (k:Px):Ans prog 181 [rD (dQ iso),rD (dQ kno),rA (aD x),rA (pD k)] (rT [rA (aD ((zQM iso kno x k).1)),rA (pD ((zQM iso kno x k).2))]):=
 wc jX4 aL Tryz.func181 (let a:=(zQM iso kno x k).fst;let b:=tR (aGQ a.a a.b a.c a.al a.own [aE a.f]) (aI (zQM iso kno x k).snd);bF (True/\True/\True/\(iso=true->True/\bL (cT (tR zV dV=b)))/\(iso=false->vH kno (sL (cT (tR (eX x.a x.b x.c x.al 0 0) (aEU x.a x.b x.c x.al)=b))) (gW kno (True/\True/\True/\True/\cT (tR (eX k.a k.b k.c k.al 0 0) (aI k)=b)))))) λhwf=>by
  delta eS aE aH bQ cT aI aEU dV bF bL gW vH eX yB tR zV sL aGQ;simp only [sS];unfold zQM;cases iso<;>cases kno<;>simp [Px.zero]
def aKU (a:we) (b:Nat) (c:Px) (d:Nat) (e:wi) (f:Nat) (g:wi) (h:wg):Snap:=aJM a b (cN c) d e f g h
def aEH (a b c d:Nat) (e:we):we:=dU a a b b (dU c c d d e)
def aPJ (a:Nat) (b:wi) (c:Nat) (d:wi) (e:wg):wg:=pK a (cP b) c d e
def aQF (a:Nat) (b:wi) (c:Nat) (d:wi) (e:wg):wg:=aPJ a (cP (cP b)) c d e
def qE (d:Ac):wi:=aBF d.a d.b d.c d []
def aAG (a b c d e:Nat) (f:we):we:=fG a a (aEH b c d e f)
def aQH (a b:Nat) (c:wi) (d:wg):wg:=aQF a [] b c d
def aJP (a b:Nat) (c:wi):wg:=aQH a b c []
def aQR (a:we) (b:Nat) (c:Px) (d:Nat) (e:Ac) (f:Nat) (g:wi) (h:wg):Snap:=aKU a b c d (qE e) f g h
def aQT (a:we) (b:Nat) (c:Px) (d:Nat) (e:Ac) (f:Nat) (g:Px) (h:wg):Snap:=aQR a b c d e f (cN g) h
def aCV (a:we) (b:Nat) (c:Px) (d:Nat) (e:Ac) (f:Nat) (g:Px) (h i:Nat) (j:wi):Snap:=aQT a b c d e f g (aJP h i j)
def aGD (a:FuncId) (b c d e f g h i:Int):Prop:=Ans prog a (tT b c (vV d e (iT f g h i))) (fK (knoC b c d e f g h i))
def aGC (a:FuncId) (b c e f g:Int):Prop:=Ans prog a (tT b c [RV.d (aE e),RV.d (aE f)]) (nC g)
def aLO (a b c:Int) (d:Prop):Prop:=eS (nP a b c [])/\d/\True
def yV (d:Ac) (e f:Int):Prop:=aLO d.a d.b d.c (qI e f)
def aHF (a:Prop) (b:Bool) (c:List DV) (d:Ac) (e:Bool) (f:Prop):Prop:=yD a b (mK c false (dH d) e) (zS b f)
theorem zGC (mode m:Int) (p:Px) (x:Ac) (k:Px) (hs:zZn true 4 mode m p x k=true):Ans prog 244 [rJ (mode),rD (dK m),rA (pD p),rA (aD x),rA (pD k)] (rT [rA (aD (accS true 4 mode m p x k)),rD (dQ true)]):=
 wc jX4 (let a:=accS true 4 mode m p x k;let c:=a.b;let b:=a.a;jL (ui True (aCV (qO 0 mode 1 m (aAG 7 8 9 10 12 (rR 19 x 20 0))) 7 p 8 x 9 k 10 12 (qE x)) aBE (ui True (aCV (qO 0 mode 1 m (aAG 7 8 9 10 12 (rR 19 x 20 1))) 7 p 8 x 9 k 10 12 (aBF b x.b x.c x [])) aBE (ui True (aCV (qO 0 mode 1 m (aAG 7 8 9 10 12 (rR 19 x 20 2))) 7 p 8 x 9 k 10 12 (aBF b c x.c x [])) aBE (ui True (aCV (qO 0 mode 1 m (aAG 7 8 9 10 12 (rR 19 x 20 3))) 7 p 8 x 9 k 10 12 (aBF b c a.c x [])) yU aL))))) Tryz.func244 (let c:=accS true 4 mode m p x k;let i:=zXc 4 p.f x.f m;let a:=p.al;let b:=k.al;let j:=c.c;let g:=c.b;let d:=c.a;let e:=x.own;let f:=x.al;let h:=eS (aI p);aFK (∃ u:Unit,True/\eW (pR mode (iA m (bW (bW (aLO x.a x.b x.c jD))))) h (eS (dH x)) (aI k) (eS zV/\eS (dH x)/\True)) (aF (∀ t:Unit,bP True vP (aY (pG 0 x.a) (oG (jX 3) (aH (vL 0 0 (aGD 259 mode m p.a a p.f x.a k.a b/\True/\True/\True/\True/\True/\aHF (eS true) true zV c true (vL 0 0 (∃ s:Unit,True/\pR mode (iA m (bW (bW (yV x 0 1))))/\h/\gA (dH x) (aI k) zV (eX (knoC mode m p.a a p.f x.a k.a b) x.b x.c f e x.f=eX d x.b x.c f e x.f))))))))) (∀ r:Unit,lM (jH vQ (pG 1 x.b) True (aAL (pP 3) (aM (pP 3) (cQ (aGD 259 mode m p.b a p.f x.b k.b b) (aHF (eS true) true zV c true (vL 1 1 (∃ q:Unit,True/\pR mode (iA m (bW (bW (yV x 1 2))))/\h/\gA (dH x) (aI k) zV (eX d (knoC mode m p.b a p.f x.b k.b b) x.c f e x.f=eX d g x.c f e x.f))))))))) (∀ o:Unit,lM (jH vR (pG 2 x.c) True (aAL (qM 3) (aM (qM 3) (cQ (aGD 259 mode m p.c a p.f x.c k.c b) (aHF (eS true) true zV c true (aCP (∃ n:Unit,True/\pR mode (iA m (bW (bW (yV x 2 3))))/\h/\gA (dH x) (aI k) zV (eX d g (knoC mode m p.c a p.f x.c k.c b) f e x.f=eX d g j f e x.f))))))))) (∀ l:Unit,lM (aN vT (jO (aCS 260 m (iT a p.f x.al b) (fK (knoA m a p.f x.al b))) (aH (aBQ (Ans prog 261 (iT m a p.f x.own) (fK (knoA m a p.f x.own 0))) (cQ (aGC 247 4 p.f x.f m i) (zQ (eX d g j (knoA m a p.f x.al b) (knoA m a p.f x.own 0) i)=zQ (dH c)))))))))) λhwf=>by
  delta eS aB aE aT aF aH bQ aM aY oE cQ jX aBQ nC dE aN dL bW gA iA aW bP aI pP qM pR oG pU eW jD aFK fR mK zQ gW lG zS fK vL aCP vV tT eX dH yB zV nP iT aCS qI yX vP vR vQ vT jO aGD aGC yD lM aAL jH aHG aLO pG yV aHF;simp only [sS];simp only [RV.wfs,RV.wf,DV.wf,DV.wfs,uc] at hwf;obtain ⟨_,⟨m0,m1⟩,⟨⟨pa0,_⟩,⟨pb0,_⟩,⟨pc0,_⟩,⟨pl0,_⟩,⟨pf0,_⟩,_⟩,⟨⟨xa0,_⟩,⟨xb0,_⟩,⟨xc0,_⟩,⟨xl0,_⟩,⟨xo0,_⟩,⟨xf0,_⟩,_⟩,⟨⟨ka0,_⟩,⟨kb0,_⟩,⟨kc0,_⟩,⟨kl0,_⟩,⟨kf0,_⟩,_⟩,_⟩:=hwf;unfold zZn at hs;simp only [wQe] at hs;obtain ⟨h1,h2,h3,h4,h5⟩:=hs;obtain ⟨⟨q1,q2,q3⟩,hf,⟨q4,q5,q6,q7⟩,hk2,hk3⟩:=Ac.ok_iff.1 h3;obtain ⟨r1,r2,r3,r4,r5⟩:=Px.ok_iff.1 hk2;obtain ⟨p1,p2,p3,p4,p5⟩:=Px.ok_iff.1 h4;have sh:=zJY 4 p.f x.f m hf h1 p5 q7;have k1:=zYB mode m p.a p.al p.f x.a k.a k.al hf h2 p1 p4 p5 r1 (by omega) (by omega);have k2:=zYB mode m p.b p.al p.f x.b k.b k.al hf h2 p2 p4 p5 r2 (by omega) (by omega);have k3:=zYB mode m p.c p.al p.f x.c k.c k.al hf h2 p3 p4 p5 r3 (by omega) (by omega);have ka:=zJ1 m p.al p.f x.al k.al hf p4 p5 q6 (by omega);have ko:=zHp m p.al p.f x.own hf p4 p5 (by omega);have w1:wrap .i64 (0+1)=1:=by decide
  have w2:wrap .i64 (1+1)=2:=by decide
  have w3:wrap .i64 (2+1)=3:=by decide
  (repeat' (first | intro _ | apply And.intro | refine Exists.intro () ?_))<;>first | exact sh | exact k1 | exact k2 | exact k3 | exact ka | exact ko | exact w1 | exact w2 | exact w3 | exact trivial | rfl | decide | (exfalso; contradiction) | omega
def aAE (a:Px) (b:Int):List RV:=RV.agg (aI a)::jM b []
def aHE (a b c:Int) (d:Prop):Prop:=lZ a (aB b) (eS (aE c)) (eS (0:Nat)) (bM (bW d))
def aKV (a:FuncId) (b c d e f g h:Int):Prop:=tU a b (tT c d (iT e f g h)) (fK (colS b c d e f g h))
def yI (a b:List DV):List RV:=[RV.agg a,RV.agg b]
theorem zWL (kno:Bool) (op mode m:Int) (p:Px) (x:Ac) (k:Px) (ho:isNm op=true) (hm:isNm mode=true):Ans prog 230 [rD (dQ kno),rJ (op),rJ (mode),rD (dK m),rA (pD p),rA (aD x),rA (pD k)] (rT [rA (aD (zY9 kno op mode m p x k)),rD (dQ (zZn kno op mode m p x k))]):=
 wc jX4 (let c:=accS kno op mode m p x k;let e:=c.b;let d:=c.a;let a:=qE x;let b:=cN p;let f:=zZn kno op mode m p x k=true;let g:=kno=false/\f;cU (uj f (lY (aBT 0 kno 1 (aB op) (qO 2 mode 3 m (aEH 11 12 13 14 []))) 11 b 12 a (pK 13 (oW k.a k.b (bJ k.c (oW k.al k.f []))) 14 (cP (cP (cP []))) [])) (jL (ui g (lY (nZ 1 op (qO 2 mode 3 m (aEH 11 12 14 16 (rR 51 x 52 0)))) 11 b 12 a (aJP 14 16 a)) aBE (ui g (lY (nZ 1 op (qO 2 mode 3 m (aEH 11 12 14 16 (rR 51 x 52 1)))) 11 b 12 a (aJP 14 16 (aBF d x.b x.c x []))) aBE (ui g (lY (nZ 1 op (qO 2 mode 3 m (aEH 11 12 14 16 (rR 51 x 52 2)))) 11 b 12 a (aJP 14 16 (aBF d e x.c x []))) aBE (ui g (wN op mode (wY 3 m (aEH 11 12 14 16 (rR 51 x 52 3))) 11 b 12 a (aJP 14 16 (aBF d e c.c x []))) yU aL))))))) Tryz.func230 (let c:=zZn kno op mode m p x k;let i:=zY9 kno op mode m p x k;let f:=dH i;let g:=x.own;let a:=p.al;let b:=x.al;let s:=zXa op a b m;let n:=accS kno op mode m p x k;let t:=n.c;let j:=n.b;let l:=n.a;let u:=c=true;let d:=kno=false/\u;let v:=nP b g x.f [];let e:=dH x;let h:=aI p;let o:=[aE x.c,aE b,aE g,aE x.f];let q:=aE l;let w:=aE x.b::o;let y:=dH (accS true 4 mode m p x k);let r:=Ac.ok x k m;let z:=(∃ J:Unit,u/\(eS (DV.bool kno)/\aHE op mode m True)/\gA h e (aI k) (eS zV));kX (bF (Ans prog 182 (rA e::aAE k m) (rD (DV.bool r))/\True/\True/\cS (!r) (xY 117 (aI p) m p) (True/\True/\True/\cS (!(Px.ok p m)) (kno=true->True/\True/\True/\True/\((op !=4)=true->True/\mK zV false f c)/\((op !=4)=false->z)) (iW kno z)/\xZ (Px.ok p m) (tO zV false f c))/\hZ r (cZ (rT [rA zV,rD (DV.bool false)]) (rT [rA f,rD (DV.bool c)])))) (∀ I:Unit,xB c (uW kno (bH (Ans prog 244 (tT mode m (rA (aI p)::yI e (aI k))) (zQ y)) (tP y f c))) (nJ kno (True/\True/\True/\(∃ H:Unit,eW d (aHE op mode m (aLO x.a x.b x.c jD)) (eS h) e (eS zV/\eS e/\True))/\aF (∀ G:Unit,d->True/\vP/\True/\pG 0 x.a/\zJ (jX 3) (cQ (nY 245 (aB op) (aB mode) (jM m (iT p.a a x.a b)) (fK (colS op mode m p.a a x.a b))) (aHF (eS true) true zV i c (vL 0 0 (∃ F:Unit,d/\aHE op mode m (yV x 0 1)/\gA h e zV (aE (colS op mode m p.a a x.a b)::w=q::w)))))) (∀ E:Unit,d->True/\vQ/\True/\pG 1 x.b/\zJ (pP 3) (cQ (aKV 245 op mode m p.b a x.b b) (aHF (eS true) true zV i c (vL 1 1 (∃ D:Unit,d/\aHE op mode m (yV x 1 2)/\gA h e zV (q::aE (colS op mode m p.b a x.b b)::o=q::aE j::o)))))) (∀ C:Unit,d->True/\vR/\True/\pG 2 x.c/\zJ (qM 3) (cQ (aKV 245 op mode m p.c a x.c b) (aHF (eS true) true zV i c (aCP (∃ B:Unit,d/\aHE op mode m (yV x 2 3)/\gA h e zV (nP l j (colS op mode m p.c a x.c b) v=nP l j t v)))))) (∀ A:Unit,d->dL vT (aN (tU 246 op (vV a b (jM m [])) (nC s)) (aAL (aGC 246 op a g m (zXa op a g m)) (cQ (aGC 247 op p.f x.f m (zXc op p.f x.f m)) (tP (eX l j t s (zXa op a g m) (zXc op p.f x.f m)) f c))))))))) λhwf=>by
  delta eS aB aE aT aF bQ aM aY oE cQ jX nY nC pV aN lZ bM dL bW gA uW aW bP aI pP qM cS bH jM kX zJ pU bF eW nJ jD fR cZ mK zQ lB gW lG zS fK tO tP iW vL aCP vV tT eX dH yB zV hZ nP iT tU qI yX vP vR vQ vT aAE xY xZ aHE aKV aGC yD aAL yI xB aHG aLO pG yV aHF;simp only [sS];simp only [RV.wfs,RV.wf,DV.wf,DV.wfs,uc] at hwf;obtain ⟨_,_,_,⟨m0,m1⟩,⟨⟨pa0,_⟩,⟨pb0,_⟩,⟨pc0,_⟩,⟨pl0,_⟩,⟨pf0,_⟩,_⟩,⟨⟨xa0,_⟩,⟨xb0,_⟩,⟨xc0,_⟩,⟨xl0,_⟩,⟨xo0,_⟩,⟨xf0,_⟩,_⟩,⟨⟨ka0,_⟩,⟨kb0,_⟩,⟨kc0,_⟩,⟨kl0,_⟩,⟨kf0,_⟩,_⟩,_⟩:=hwf;have va:=zVR x k m;have vp:=zQr p.a p.b p.c p.al p.f m;change Ans _ _ _ (RV.d (DV.bool (p.ok m))) at vp;have mk:x.ok k m=true->p.ok m=true->(kno=true->op=4)->zZn kno op mode m p x k=true:=λh3 h4 h5=>by
   unfold zZn;rw [ho,hm,h3,h4]
   cases kno with
   | false=>rfl
   | true=>rw [h5 rfl]; rfl
  have e0:zY9 kno op mode m p x k=if zZn kno op mode m p x k then accS kno op mode m p x k else .zero:=rfl
  have bad:¬ (x.ok k m=true/\p.ok m=true/\(kno=true->op=4))->(0=(zY9 kno op mode m p x k).a/\0=(zY9 kno op mode m p x k).b/\0=(zY9 kno op mode m p x k).c/\0=(zY9 kno op mode m p x k).al/\0=(zY9 kno op mode m p x k).own/\0=(zY9 kno op mode m p x k).f)/\false=zZn kno op mode m p x k:=λhn=>by
   have hf:zZn kno op mode m p x k=false:=by
    cases e:zZn kno op mode m p x k with
    | false=>rfl
    | true=>
     unfold zZn at e;simp only [wQe] at e
     exact absurd ⟨e.2.2.1,e.2.2.2.1,λhk=>by
      have:=e.2.2.2.2;rw [hk] at this
      simpa using this⟩ hn
   rw [e0,hf];exact ⟨⟨rfl,rfl,rfl,rfl,rfl,rfl⟩,rfl⟩
  refine ⟨⟨va,λhx=>⟨vp,λhp=>⟨λhk=>⟨λh4=>bad λq=>absurd (q.2.2 hk) (wQP.1 h4),λh4=>⟨(),mk hx hp λ_=>wZm.1 h4⟩⟩,λhk=>⟨(),mk hx hp λh=>by rw [hk] at h; cases h⟩⟩,λhp=>bad λq=>by rw [hp] at q; exact absurd q.2.1 (by decide)⟩,λhx=>bad λq=>by rw [hx] at q; exact absurd q.1 (by decide)⟩,λhs=>?_⟩;clear bad mk va vp;have e1:zY9 kno op mode m p x k=accS kno op mode m p x k:=by rw [e0,if_pos hs]
  rw [e1,hs];clear e0 e1;have hs':=hs;unfold zZn at hs';simp only [wQe] at hs';obtain ⟨h1,h2,h3,h4,h5⟩:=hs';obtain ⟨⟨q1,q2,q3⟩,hf,⟨q4,q5,q6,q7⟩,hk2,hk3⟩:=Ac.ok_iff.1 h3;obtain ⟨r1,r2,r3,r4,r5⟩:=Px.ok_iff.1 hk2;obtain ⟨p1,p2,p3,p4,p5⟩:=Px.ok_iff.1 h4
  cases kno with
  | true=>
   have h6:op=4:=by simpa using h5
   subst h6;exact ⟨λ_=>⟨zGC mode m p x k hs,⟨rfl,rfl,rfl,rfl,rfl,rfl⟩,rfl⟩,λh=>(by cases h)⟩
  | false=>
   have sh:=zJY op p.f x.f m hf h1 p5 q7;have c1:=zK1 op mode m p.a p.al x.a x.al hf h1 h2 p1 (by omega) q1 q6;have c2:=zK1 op mode m p.b p.al x.b x.al hf h1 h2 p2 (by omega) q2 q6;have c3:=zK1 op mode m p.c p.al x.c x.al hf h1 h2 p3 (by omega) q3 q6;have a1:=zJZ op p.al x.al m hf h1 (by omega) q6;have a2:=zJZ op p.al x.own m hf h1 (by omega) (by omega);have w1:wrap .i64 (0+1)=1:=by decide
   have w2:wrap .i64 (1+1)=2:=by decide
   have w3:wrap .i64 (2+1)=3:=by decide
   (repeat' (first | intro _ | apply And.intro | refine Exists.intro () ?_))<;>first | exact sh | exact c1 | exact c2 | exact c3 | exact a1 | exact a2 | exact w1 | exact w2 | exact w3 | exact hs | exact trivial | rfl | decide | (exfalso; contradiction) | omega
theorem zGD (c k own m:Int) (h1:own<=m) (hm:0<m):Ans prog 183 [rD (dK c),rD (dK k),rD (dK own),rD (dK m)] (rD (dK (remS m c own k))):=
 wc jX4 aL Tryz.func183 (let a:=dG (fH (m-own)) k;let b:=dG m c;let d:=fJ b a;oU (aH (tQ b a (fU 0 (remS m c own k)) (dO (decide (b<=a)) (bH (vN 228 (b-a) (bX m) (iS (zQP d (aG m)))) (fU (Min.min (oS d m) own) (remS m c own k))))))) λhwf=>by
  delta eS aE aH nC fU dO bH fH bF aK aG bX aU fJ iS tQ dG vN oS oU;simp only [sS];simp only [RV.wfs,RV.wf,DV.wf,DV.wfs,uc] at hwf;have W:=ud;have U:=uf;obtain ⟨⟨c0,c1⟩,⟨k0,k1⟩,⟨o0,o1⟩,⟨m0,m1⟩,_⟩:=hwf;have n1:=zQc m0 m1 c0 c1;have n2:=zQc (x:=m-own) (y:=k) (A:=65535) (B:=65535) (by omega) (by omega) k0 k1;rw [W m m0 (by omega),W c c0 (by omega),W k k0 (by omega),U (m-own) (by omega) (by omega),W (m-own) (by omega) (by omega),W (m*c) n1.1 (by omega),W ((m-own)*k) n2.1 (by omega)];unfold remS;refine ⟨λh=>by rw [if_neg (by omega)],λh=>?_⟩;rw [if_pos (by omega),W (m*c-(m-own)*k) (by omega) (by omega)];have u0:=zJj (n:=m*c-(m-own)*k) hm (by omega);have u1:=zXy (n:=m*c-(m-own)*k) (k:=c) hm (by omega);exact ⟨zQD _ _,by rw [U _ u0 (by omega)]⟩
def aSO (a:Nat) (b:wi) (c:Nat) (d:wi) (e:wg):wg:=pK a (iV (cP b)) c d e
def aPH (a:Nat) (b:wi) (c:Nat) (d:wi) (e:wg):wg:=aSO a (cP b) c d e
def xX (a b:Nat) (c:wi) (d:wg):wg:=aPH a [] b c d
def aCT (a:Int) (b:wi):wi:=oW a 0 b
def aIT (a:Ac) (b:Px) (c:Int) (d e:Prop):Prop:=Ac.ok a b c=true/\d/\gA (dH a) (aI b) dV e
theorem zYg (x:Ac) (k:Px) (m:Int):Ans prog 109 [rA (aD x),rA (pD k),rD (dK m)] (rT [rA (pD (resE x k m)),rD (dQ (Ac.ok x k m))]):=
 wc jX4 (let a:=zZb x k m;let b:=a.a;let d:=Ac.ok x k m=true;let c:=oW x.own x.f [];pX (ui d (yC m (lI (rR 23 x 24 0)) x k (xX 6 8 (iV (cP c)) [])) aBE (ui d (yC m (lI (rR 23 x 24 1)) x k (xX 6 8 (aCT b (iV c)) [])) aBE (ui d (yC m (lI (rR 23 x 24 2)) x k (xX 6 8 (bJ b (fN a.b 0 x.own x.f [])) [])) aBE (ui d (yC m (lI (rR 23 x 24 3)) x k (xX 6 8 (bJ b (fN a.b a.c x.own x.f [])) [])) yU aL))))) Tryz.func109 (let b:=Ac.ok x k m;let a:=x.own;let d:=zZb x k m;let e:=d.b;let c:=d.a;let f:=bQ c e d.c a x.f;let g:=b=true;let h:=remS m x.c a k.c;let i:=remS m x.b a k.b;let j:=remS m x.a a k.a;bL (aFZ (Ans prog 182 (rA (dH x)::aAE k m) (rD (DV.bool b))) b (mK dV false (aI (resE x k m)) b) (oV b (True/\True/\True/\True/\oG (∃ t:Unit,aIT x k m (iA m (bM (bW (aLO x.a x.b x.c jD)))) (eS (bQ 0 0 0 a x.f))) (aF (∀ s:Unit,xB b vP (True/\aN (pG 0 x.a) (True/\True/\True/\jX 3/\bF (True/\Ans prog 183 (iT x.a k.a a m) (nC j)/\True/\jX 3/\aY (eS true) (∃ r:Unit,aIT x k m (iA m (bM (bW (yV x 0 1)))) (bQ j 0 0 a x.f=bQ c 0 0 a x.f)))))) (∀ q:Unit,xB b vQ (dL (pG 1 x.b) (vL 1 1 (True/\Ans prog 183 (iT x.b k.b a m) (nC i)/\True/\pP 3/\aY (eS true) (∃ p:Unit,fP g (iA m (bM (bW (yV x 1 2)))) (eS (dH x)) (aW (eS (aI k)) (eS dV) (bQ c i 0 a x.f=bQ c e 0 a x.f))))))) (∀ o:Unit,xB b vR (dL (pG 2 x.c) (aCP (True/\Ans prog 183 (iT x.c k.c a m) (nC h)/\True/\qM 3/\aY (eS true) (∃ n:Unit,aIT x k m (iA m (bM (bW (yV x 2 3)))) (bQ c e h a x.f=f)))))) (∀ l:Unit,g->True/\aN vT (tP f (aI (resE x k m)) b))))))) λhwf=>by
  delta eS aB aE aT aF bQ aY oE jX nC dE aN bM dL bW gA iA aW bP aI pP qM jM dV oG pU bF bL fP jD fR mK zQ gC tP vL aCP vV eX dH oV nP iT qI yX vP vR vQ vT aIT aAE aFZ xB aHG aLO pG yV;simp only [sS];simp only [RV.wfs,RV.wf,DV.wf,DV.wfs,uc] at hwf;obtain ⟨⟨⟨xa0,xa1⟩,⟨xb0,xb1⟩,⟨xc0,xc1⟩,⟨xl0,xl1⟩,⟨xo0,xo1⟩,⟨xf0,xf1⟩,_⟩,⟨⟨ka0,ka1⟩,⟨kb0,kb1⟩,⟨kc0,kc1⟩,⟨kl0,kl1⟩,⟨kf0,kf1⟩,_⟩,⟨m0,m1⟩,_⟩:=hwf;have va:=zVR x k m;have e0:resE x k m=if x.ok k m then zZb x k m else .zero:=rfl
  cases hx:x.ok k m with
  | false=>
   rw [hx] at e0 va;have e0:resE x k m=.zero:=e0;rw [e0];exact ⟨va,λ_=>⟨⟨rfl,rfl,rfl,rfl,rfl⟩,rfl⟩,λh=>by cases h⟩
  | true=>
   rw [hx] at e0 va;have e0:resE x k m=zZb x k m:=e0;rw [e0];obtain ⟨⟨q1,q2,q3⟩,hf,⟨q4,q5,q6,q7⟩,hk2,hk3⟩:=Ac.ok_iff.1 hx;have hm:=(zQO hf).1;have R:=λc k=>zGD c k x.own m (by omega) hm;have w1:wrap .i64 (0+1)=1:=by decide
   have w2:wrap .i64 (1+1)=2:=by decide
   have w3:wrap .i64 (2+1)=3:=by decide
   (repeat' (first | intro _ | apply And.intro | refine Exists.intro () ?_))<;>first | exact va | exact R _ _ | exact w1 | exact w2 | exact w3 | exact hx | exact trivial | rfl | decide | (exfalso; contradiction) | omega
end
variable {k:Nat}
theorem yQu {l:List Lv} (h:k<l.length) (j:Nat) (hj:j<23):(lvs l)[k*23+j]?=l[k].cells[j]?:=by
 induction l generalizing k with
 | nil=>simp at h
 | cons o l ih=>
  have e:lvs (o::l)=o.cells++lvs l:=by simp [lvs]
  have ec:o.cells.length=23:=rfl;rw [e]
  cases k with
  | zero=>simp only [wXa]; rw [wQF (by omega)]; simp
  | succ k=>
   rw [wQo (by omega)];have:=ih (k:=k) (by simpa using h);simp only [wQ3];rw [<- this];congr 1;omega
theorem zVk {l:List Lv} (h:k<l.length):(lvs l)[k*23+0]?=some (.int .i64 l[k].op.kind)/\(lvs l)[k*23+1]?=some (.int .i64 l[k].op.image)/\(lvs l)[k*23+2]?=some (.int .i64 l[k].op.x)/\(lvs l)[k*23+3]?=some (.int .i64 l[k].op.y)/\(lvs l)[k*23+4]?=some (.int .i64 l[k].op.mask)/\(lvs l)[k*23+5]?=some (.int .i64 l[k].op.mx)/\(lvs l)[k*23+6]?=some (.int .i64 l[k].op.my)/\(lvs l)[k*23+7]?=some (.int .u16 l[k].op.opac)/\(lvs l)[k*23+8]?=some (.int .i64 l[k].op.oper)/\(lvs l)[k*23+9]?=some (.int .i64 l[k].op.mode)/\(lvs l)[k*23+10]?=some (.bool l[k].op.iso)/\(lvs l)[k*23+11]?=some (.bool l[k].op.kno)/\(lvs l)[k*23+12]?=some (.int .u16 l[k].acc.a)/\(lvs l)[k*23+13]?=some (.int .u16 l[k].acc.b)/\(lvs l)[k*23+14]?=some (.int .u16 l[k].acc.c)/\(lvs l)[k*23+15]?=some (.int .u16 l[k].acc.al)/\(lvs l)[k*23+16]?=some (.int .u16 l[k].acc.own)/\(lvs l)[k*23+17]?=some (.int .u16 l[k].acc.f)/\(lvs l)[k*23+18]?=some (.int .u16 l[k].back.a)/\(lvs l)[k*23+19]?=some (.int .u16 l[k].back.b)/\(lvs l)[k*23+20]?=some (.int .u16 l[k].back.c)/\(lvs l)[k*23+21]?=some (.int .u16 l[k].back.al)/\(lvs l)[k*23+22]?=some (.int .u16 l[k].back.f):=by
 have g:=λj hj=>yQu h j hj;exact ⟨g 0 (by omega),g 1 (by omega),g 2 (by omega),g 3 (by omega),g 4 (by omega),g 5 (by omega),g 6 (by omega),g 7 (by omega),g 8 (by omega),g 9 (by omega),g 10 (by omega),g 11 (by omega),g 12 (by omega),g 13 (by omega),g 14 (by omega),g 15 (by omega),g 16 (by omega),g 17 (by omega),g 18 (by omega),g 19 (by omega),g 20 (by omega),g 21 (by omega),g 22 (by omega)⟩
theorem zVl {l:List Lv} (h:k<l.length):nAt (lvs l) (k*23+0)=l[k].op.kind/\nAt (lvs l) (k*23+1)=l[k].op.image/\nAt (lvs l) (k*23+2)=l[k].op.x/\nAt (lvs l) (k*23+3)=l[k].op.y/\nAt (lvs l) (k*23+4)=l[k].op.mask/\nAt (lvs l) (k*23+5)=l[k].op.mx/\nAt (lvs l) (k*23+6)=l[k].op.my/\nAt (lvs l) (k*23+7)=l[k].op.opac/\nAt (lvs l) (k*23+8)=l[k].op.oper/\nAt (lvs l) (k*23+9)=l[k].op.mode/\bAt (lvs l) (k*23+10)=l[k].op.iso/\bAt (lvs l) (k*23+11)=l[k].op.kno/\nAt (lvs l) (k*23+12)=l[k].acc.a/\nAt (lvs l) (k*23+13)=l[k].acc.b/\nAt (lvs l) (k*23+14)=l[k].acc.c/\nAt (lvs l) (k*23+15)=l[k].acc.al/\nAt (lvs l) (k*23+16)=l[k].acc.own/\nAt (lvs l) (k*23+17)=l[k].acc.f/\nAt (lvs l) (k*23+18)=l[k].back.a/\nAt (lvs l) (k*23+19)=l[k].back.b/\nAt (lvs l) (k*23+20)=l[k].back.c/\nAt (lvs l) (k*23+21)=l[k].back.al/\nAt (lvs l) (k*23+22)=l[k].back.f:=by
 obtain ⟨e0,e1,e2,e3,e4,e5,e6,e7,e8,e9,e10,e11,e12,e13,e14,e15,e16,e17,e18,e19,e20,e21,e22⟩:=zVk h;simp only [nAt,bAt,e0,e1,e2,e3,e4,e5,e6,e7,e8,e9,e10,e11,e12,e13,e14,e15,e16,e17,e18,e19,e20,e21,e22,and_self]
def lvAt (xs:List DV) (i:Nat):Lv:=⟨⟨nAt xs (i+0),nAt xs (i+1),nAt xs (i+2),nAt xs (i+3),nAt xs (i+4),nAt xs (i+5),nAt xs (i+6),nAt xs (i+7),nAt xs (i+8),nAt xs (i+9),bAt xs (i+10),bAt xs (i+11)⟩,⟨nAt xs (i+12),nAt xs (i+13),nAt xs (i+14),nAt xs (i+15),nAt xs (i+16),nAt xs (i+17)⟩,⟨nAt xs (i+18),nAt xs (i+19),nAt xs (i+20),nAt xs (i+21),nAt xs (i+22)⟩⟩
theorem jG4 {l:List Lv} (h:k<l.length):lvAt (lvs l) (k*23)=l[k]:=by
 obtain ⟨e0,e1,e2,e3,e4,e5,e6,e7,e8,e9,e10,e11,e12,e13,e14,e15,e16,e17,e18,e19,e20,e21,e22⟩:=zVl h;simp only [lvAt,e0,e1,e2,e3,e4,e5,e6,e7,e8,e9,e10,e11,e12,e13,e14,e15,e16,e17,e18,e19,e20,e21,e22]
def zZF (xs:List DV):List Lv:=(List.range (xs.length / 23)).map λk=>lvAt xs (k*23)
theorem zXk (l:List Lv):zZF (lvs l)=l:=by
 have e:(lvs l).length / 23=l.length:=by rw [zXo]; omega
 unfold zZF;rw [e];refine wQT (by simp) λi h1 h2=>?_;simp only [List.getElem_map,wQ4];exact jG4 h2
structure Mc where
  at_:Int
  kind:Int
  inp:Px
  back:Px
  k:Int
  out:Px
def Mc.cells (t:Mc):List DV:=[.int .i64 t.at_,.int .i64 t.kind]++(t.inp.ds++(t.back.ds++([.int .u16 t.k]++t.out.ds)))
def mcs (l:List Mc):List DV:=l.flatMap Mc.cells
theorem zKF (l k:List Mc):mcs l++mcs k=mcs (l++k):=by simp [mcs]
theorem zZL (l:List Mc):(mcs l).length=l.length*18:=by
 induction l with
 | nil=>rfl
 | cons t l ih=>
  show (t.cells++mcs l).length=_
  rw [wQh,ih];simp only [Mc.cells,Px.ds,wQh,wQu,wQQ];omega
theorem yQs {l:List Mc} (h:k<l.length) (j:Nat) (hj:j<18):(mcs l)[k*18+j]?=l[k].cells[j]?:=by
 induction l generalizing k with
 | nil=>simp at h
 | cons o l ih=>
  have e:mcs (o::l)=o.cells++mcs l:=by simp [mcs]
  have ec:o.cells.length=18:=rfl;rw [e]
  cases k with
  | zero=>simp only [wXa]; rw [wQF (by omega)]; simp
  | succ k=>
   rw [wQo (by omega)];have:=ih (k:=k) (by simpa using h);simp only [wQ3];rw [<- this];congr 1;omega
theorem jVF {l:List Mc} (h:k<l.length):(mcs l)[k*18+0]?=some (.int .i64 l[k].at_)/\(mcs l)[k*18+1]?=some (.int .i64 l[k].kind)/\(mcs l)[k*18+2]?=some (.int .u16 l[k].inp.a)/\(mcs l)[k*18+3]?=some (.int .u16 l[k].inp.b)/\(mcs l)[k*18+4]?=some (.int .u16 l[k].inp.c)/\(mcs l)[k*18+5]?=some (.int .u16 l[k].inp.al)/\(mcs l)[k*18+6]?=some (.int .u16 l[k].inp.f)/\(mcs l)[k*18+7]?=some (.int .u16 l[k].back.a)/\(mcs l)[k*18+8]?=some (.int .u16 l[k].back.b)/\(mcs l)[k*18+9]?=some (.int .u16 l[k].back.c)/\(mcs l)[k*18+10]?=some (.int .u16 l[k].back.al)/\(mcs l)[k*18+11]?=some (.int .u16 l[k].back.f)/\(mcs l)[k*18+12]?=some (.int .u16 l[k].k)/\(mcs l)[k*18+13]?=some (.int .u16 l[k].out.a)/\(mcs l)[k*18+14]?=some (.int .u16 l[k].out.b)/\(mcs l)[k*18+15]?=some (.int .u16 l[k].out.c)/\(mcs l)[k*18+16]?=some (.int .u16 l[k].out.al)/\(mcs l)[k*18+17]?=some (.int .u16 l[k].out.f):=by
 have g:=λj hj=>yQs h j hj;exact ⟨g 0 (by omega),g 1 (by omega),g 2 (by omega),g 3 (by omega),g 4 (by omega),g 5 (by omega),g 6 (by omega),g 7 (by omega),g 8 (by omega),g 9 (by omega),g 10 (by omega),g 11 (by omega),g 12 (by omega),g 13 (by omega),g 14 (by omega),g 15 (by omega),g 16 (by omega),g 17 (by omega)⟩
theorem jVG {l:List Mc} (h:k<l.length):nAt (mcs l) (k*18+0)=l[k].at_/\nAt (mcs l) (k*18+1)=l[k].kind/\nAt (mcs l) (k*18+2)=l[k].inp.a/\nAt (mcs l) (k*18+3)=l[k].inp.b/\nAt (mcs l) (k*18+4)=l[k].inp.c/\nAt (mcs l) (k*18+5)=l[k].inp.al/\nAt (mcs l) (k*18+6)=l[k].inp.f/\nAt (mcs l) (k*18+7)=l[k].back.a/\nAt (mcs l) (k*18+8)=l[k].back.b/\nAt (mcs l) (k*18+9)=l[k].back.c/\nAt (mcs l) (k*18+10)=l[k].back.al/\nAt (mcs l) (k*18+11)=l[k].back.f/\nAt (mcs l) (k*18+12)=l[k].k/\nAt (mcs l) (k*18+13)=l[k].out.a/\nAt (mcs l) (k*18+14)=l[k].out.b/\nAt (mcs l) (k*18+15)=l[k].out.c/\nAt (mcs l) (k*18+16)=l[k].out.al/\nAt (mcs l) (k*18+17)=l[k].out.f:=by
 obtain ⟨e0,e1,e2,e3,e4,e5,e6,e7,e8,e9,e10,e11,e12,e13,e14,e15,e16,e17⟩:=jVF h;simp only [nAt,bAt,e0,e1,e2,e3,e4,e5,e6,e7,e8,e9,e10,e11,e12,e13,e14,e15,e16,e17,and_self]
def mcAt (xs:List DV) (i:Nat):Mc:=⟨nAt xs (i+0),nAt xs (i+1),⟨nAt xs (i+2),nAt xs (i+3),nAt xs (i+4),nAt xs (i+5),nAt xs (i+6)⟩,⟨nAt xs (i+7),nAt xs (i+8),nAt xs (i+9),nAt xs (i+10),nAt xs (i+11)⟩,nAt xs (i+12),⟨nAt xs (i+13),nAt xs (i+14),nAt xs (i+15),nAt xs (i+16),nAt xs (i+17)⟩⟩
theorem jG0 {l:List Mc} (h:k<l.length):mcAt (mcs l) (k*18)=l[k]:=by
 obtain ⟨e0,e1,e2,e3,e4,e5,e6,e7,e8,e9,e10,e11,e12,e13,e14,e15,e16,e17⟩:=jVG h;simp only [mcAt,e0,e1,e2,e3,e4,e5,e6,e7,e8,e9,e10,e11,e12,e13,e14,e15,e16,e17]
def zKp (xs:List DV):List Mc:=(List.range (xs.length / 18)).map λk=>mcAt xs (k*18)
theorem zUk (l:List Mc):zKp (mcs l)=l:=by
 have e:(mcs l).length / 18=l.length:=by rw [zZL]; omega
 unfold zKp;rw [e];refine wQT (by simp) λi h1 h2=>?_;simp only [List.getElem_map,wQ4];exact jG0 h2
def zX1 (l:List Mc) (i:Int) (o:Oq) (p:Px) (mask m:Int):List Mc × Px:=
 if o.mask≠0 then
  (l++[⟨i,2,p,.zero,mask,(zQm p mask m).1⟩]++[⟨i,3,(zQm p mask m).1,.zero,o.opac,(zQm (zQm p mask m).1 o.opac m).1⟩],(zQm (zQm p mask m).1 o.opac m).1)
 else (l++[⟨i,3,p,.zero,o.opac,(zQm p o.opac m).1⟩],(zQm p o.opac m).1)
def Ac.col (x:Ac):Px:=⟨x.a,x.b,x.c,x.al,x.f⟩
variable {x y dx dy:Int}
theorem yZm {m:Im} (h:¬ (x<dx\/y<dy\/x-dx>=1099511627776\/y-dy>=1099511627776)):zJL m x y dx dy=m.at_ (x-dx) (y-dy):=by
 unfold zJL; rw [if_neg h]
variable {ms:List Im} {i:Int}
theorem jQE (h0:0<=i) (h:i.toNat<ms.length):zXg ms i x y dx dy=zJL ms[i.toNat] x y dx dy:=by
 unfold zXg; rw [if_pos h0,List.getElem?_eq_getElem h]
theorem zGB (h:¬ (0<=i/\i<ms.length)):zXg ms i x y dx dy=.zero:=by
 unfold zXg;split
 ·rename_i h0;rw [wQM (by omega)]
 ·rfl
def acs (l:List Ac):List DV:=l.flatMap Ac.ds
theorem jWJ (l k:List Ac):acs l++acs k=acs (l++k):=by simp [acs]
theorem zYr (l:List Ac):(acs l).length=l.length*6:=by
 induction l with
 | nil=>rfl
 | cons t l ih=>
  show (t.ds++acs l).length=_
  rw [wQh,ih];simp only [Ac.ds,wQu,wQQ];omega
theorem yQ4 {l:List Ac} (h:k<l.length) (j:Nat) (hj:j<6):(acs l)[k*6+j]?=l[k].ds[j]?:=by
 induction l generalizing k with
 | nil=>simp at h
 | cons o l ih=>
  have e:acs (o::l)=o.ds++acs l:=by simp [acs]
  have ec:o.ds.length=6:=rfl;rw [e]
  cases k with
  | zero=>simp only [wXa]; rw [wQF (by omega)]; simp
  | succ k=>
   rw [wQo (by omega)];have:=ih (k:=k) (by simpa using h);simp only [wQ3];rw [<- this];congr 1;omega
theorem jQ7 {l:List Ac} (h:k<l.length):(acs l)[k*6+0]?=some (.int .u16 l[k].a)/\(acs l)[k*6+1]?=some (.int .u16 l[k].b)/\(acs l)[k*6+2]?=some (.int .u16 l[k].c)/\(acs l)[k*6+3]?=some (.int .u16 l[k].al)/\(acs l)[k*6+4]?=some (.int .u16 l[k].own)/\(acs l)[k*6+5]?=some (.int .u16 l[k].f):=by
 have g:=λj hj=>yQ4 h j hj;exact ⟨g 0 (by omega),g 1 (by omega),g 2 (by omega),g 3 (by omega),g 4 (by omega),g 5 (by omega)⟩
theorem jQ8 {l:List Ac} (h:k<l.length):nAt (acs l) (k*6+0)=l[k].a/\nAt (acs l) (k*6+1)=l[k].b/\nAt (acs l) (k*6+2)=l[k].c/\nAt (acs l) (k*6+3)=l[k].al/\nAt (acs l) (k*6+4)=l[k].own/\nAt (acs l) (k*6+5)=l[k].f:=by
 obtain ⟨e0,e1,e2,e3,e4,e5⟩:=jQ7 h;simp only [nAt,bAt,e0,e1,e2,e3,e4,e5,and_self]
def acAt (xs:List DV) (i:Nat):Ac:=⟨nAt xs (i+0),nAt xs (i+1),nAt xs (i+2),nAt xs (i+3),nAt xs (i+4),nAt xs (i+5)⟩
theorem jHE {l:List Ac} (h:k<l.length):acAt (acs l) (k*6)=l[k]:=by
 obtain ⟨e0,e1,e2,e3,e4,e5⟩:=jQ8 h;simp only [acAt,e0,e1,e2,e3,e4,e5]
def jYw (xs:List DV):List Ac:=(List.range (xs.length / 6)).map λk=>acAt xs (k*6)
theorem zUl (l:List Ac):jYw (acs l)=l:=by
 have e:(acs l).length / 6=l.length:=by rw [zYr]; omega
 unfold jYw;rw [e];refine wQT (by simp) λi h1 h2=>?_;simp only [List.getElem_map,wQ4];exact jHE h2
structure Fr where
  op:Oq
  acc:List Ac
  back:List Px
def Fr.cells (t:Fr):List DV:=t.op.cells++[.sl t.acc.length (acs t.acc),.sl t.back.length (pxs t.back)]
def frs (l:List Fr):List DV:=l.flatMap Fr.cells
theorem jWz (l k:List Fr):frs l++frs k=frs (l++k):=by simp [frs]
theorem zGH (l:List Fr):(frs l).length=l.length*14:=by
 induction l with
 | nil=>rfl
 | cons t l ih=>
  show (t.cells++frs l).length=_
  rw [wQh,ih];simp only [Fr.cells,Oq.cells,wQh,wQu,wQQ];omega
theorem yQO {l:List Fr} (h:k<l.length) (j:Nat) (hj:j<14):(frs l)[k*14+j]?=l[k].cells[j]?:=by
 induction l generalizing k with
 | nil=>simp at h
 | cons o l ih=>
  have e:frs (o::l)=o.cells++frs l:=by simp [frs]
  have ec:o.cells.length=14:=rfl;rw [e]
  cases k with
  | zero=>simp only [wXa]; rw [wQF (by omega)]; simp
  | succ k=>
   rw [wQo (by omega)];have:=ih (k:=k) (by simpa using h);simp only [wQ3];rw [<- this];congr 1;omega
theorem jJy {l:List Fr} (h:k<l.length):(frs l)[k*14+0]?=some (.int .i64 l[k].op.kind)/\(frs l)[k*14+1]?=some (.int .i64 l[k].op.image)/\(frs l)[k*14+2]?=some (.int .i64 l[k].op.x)/\(frs l)[k*14+3]?=some (.int .i64 l[k].op.y)/\(frs l)[k*14+4]?=some (.int .i64 l[k].op.mask)/\(frs l)[k*14+5]?=some (.int .i64 l[k].op.mx)/\(frs l)[k*14+6]?=some (.int .i64 l[k].op.my)/\(frs l)[k*14+7]?=some (.int .u16 l[k].op.opac)/\(frs l)[k*14+8]?=some (.int .i64 l[k].op.oper)/\(frs l)[k*14+9]?=some (.int .i64 l[k].op.mode)/\(frs l)[k*14+10]?=some (.bool l[k].op.iso)/\(frs l)[k*14+11]?=some (.bool l[k].op.kno)/\(frs l)[k*14+12]?=some (.sl l[k].acc.length (acs l[k].acc))/\(frs l)[k*14+13]?=some (.sl l[k].back.length (pxs l[k].back)):=by
 have g:=λj hj=>yQO h j hj;exact ⟨g 0 (by omega),g 1 (by omega),g 2 (by omega),g 3 (by omega),g 4 (by omega),g 5 (by omega),g 6 (by omega),g 7 (by omega),g 8 (by omega),g 9 (by omega),g 10 (by omega),g 11 (by omega),g 12 (by omega),g 13 (by omega)⟩
theorem jJA {l:List Fr} (h:k<l.length):nAt (frs l) (k*14+0)=l[k].op.kind/\nAt (frs l) (k*14+1)=l[k].op.image/\nAt (frs l) (k*14+2)=l[k].op.x/\nAt (frs l) (k*14+3)=l[k].op.y/\nAt (frs l) (k*14+4)=l[k].op.mask/\nAt (frs l) (k*14+5)=l[k].op.mx/\nAt (frs l) (k*14+6)=l[k].op.my/\nAt (frs l) (k*14+7)=l[k].op.opac/\nAt (frs l) (k*14+8)=l[k].op.oper/\nAt (frs l) (k*14+9)=l[k].op.mode/\bAt (frs l) (k*14+10)=l[k].op.iso/\bAt (frs l) (k*14+11)=l[k].op.kno/\(lAt (frs l) (k*14+12)=l[k].acc.length/\cAt (frs l) (k*14+12)=acs l[k].acc)/\lAt (frs l) (k*14+13)=l[k].back.length/\cAt (frs l) (k*14+13)=pxs l[k].back:=by
 obtain ⟨e0,e1,e2,e3,e4,e5,e6,e7,e8,e9,e10,e11,e12,e13⟩:=jJy h;simp only [nAt,bAt,lAt,cAt,e0,e1,e2,e3,e4,e5,e6,e7,e8,e9,e10,e11,e12,e13,and_self]
def frAt (xs:List DV) (i:Nat):Fr:=⟨⟨nAt xs (i+0),nAt xs (i+1),nAt xs (i+2),nAt xs (i+3),nAt xs (i+4),nAt xs (i+5),nAt xs (i+6),nAt xs (i+7),nAt xs (i+8),nAt xs (i+9),bAt xs (i+10),bAt xs (i+11)⟩,jYw (cAt xs (i+12)),zQk (cAt xs (i+13))⟩
theorem jHj {l:List Fr} (h:k<l.length):frAt (frs l) (k*14)=l[k]:=by
 obtain ⟨e0,e1,e2,e3,e4,e5,e6,e7,e8,e9,e10,e11,⟨_,e12⟩,_,e13⟩:=jJA h;simp only [frAt,e0,e1,e2,e3,e4,e5,e6,e7,e8,e9,e10,e11,e12,e13,zUl,zZO]
def zHb (xs:List DV):List Fr:=(List.range (xs.length / 14)).map λk=>frAt xs (k*14)
theorem jYv (l:List Fr):zHb (frs l)=l:=by
 have e:(frs l).length / 14=l.length:=by rw [zGH]; omega
 unfold zHb;rw [e];refine wQT (by simp) λi h1 h2=>?_;simp only [List.getElem_map,wQ4];exact jHj h2
theorem zGd {cs:List DV}:∀ (ys xs:List DV) (i:Nat),sets (cs++xs) (i+cs.length) ys=cs++sets xs i ys
 | [],xs,i=>rfl
 | y::ys,xs,i=>by
  rw [sets,sets,List.set_append_right _ _ (by omega),show i+cs.length-cs.length=i by omega,show i+cs.length+1=(i+1)+cs.length by omega];exact zGd ys _ _
def u16s (l:List Int):List DV:=l.map (.int .u16)
theorem zHH (l:List Int):(u16s l).length=l.length:=by simp [u16s]
theorem jWS {l:List Int} (h:k<l.length):(u16s l)[k]?=some (.int .u16 l[k]):=by simp [u16s,h]
theorem jK7 {l:List Int} (h:k<l.length):nAt (u16s l) k=l[k]:=by simp [nAt,jWS h]
theorem jJ1 (l k:List Int):u16s l++u16s k=u16s (l++k):=by simp [u16s]
theorem jUM (l:List Int):ints (u16s l)=l:=by
 unfold ints u16s;rw [wQ9];exact (List.map_congr_left λx _=>rfl).trans (List.map_id' l)
def pxN (l:List Px) (j:Nat):Px:=(l[j]?).getD .zero
def acN (l:List Ac) (j:Nat):Ac:=(l[j]?).getD .zero
def ksN (mk:List Int) (m:Int) (j:Nat):Int:=if mk.length=0 then m else (mk[j]?).getD 0
def scR (m opac:Int) (l:List Px) (mk:List Int):List Px:=(List.range l.length).map λj=>(zXM (pxN l j) (ksN mk m j) opac m).1
def stR (kno:Bool) (op mode m:Int) (l:List Px) (acc:List Ac) (back:List Px):List Ac:=(List.range l.length).map λj=>accS kno op mode m (pxN l j) (acN acc j) (pxN back j)
def rsR (m:Int) (acc:List Ac) (back:List Px):List Px:=(List.range acc.length).map λj=>zZb (acN acc j) (pxN back j) m
theorem zJJ {l:List Px} (h:k<l.length):pxN l k=l[k]:=by unfold pxN; rw [List.getElem?_eq_getElem h]; rfl
theorem jXj {l:List Ac} (h:k<l.length):acN l k=l[k]:=by unfold acN; rw [List.getElem?_eq_getElem h]; rfl
def yZI (l:List Px) (acc:List Ac) (back:List Px) (k:Nat):Prop:=0<k/\pxN l k=pxN l (k-1)/\acN acc k=acN acc (k-1)/\pxN back k=pxN back (k-1)
theorem zKc (m opac:Int) (l:List Px) (mk:List Int):(scR m opac l mk).length=l.length:=by simp [scR]
theorem jJ6 (kno:Bool) (op mode m:Int) (l:List Px) (acc:List Ac) (back:List Px):(stR kno op mode m l acc back).length=l.length:=by simp [stR]
theorem zGi (m:Int) (acc:List Ac) (back:List Px):(rsR m acc back).length=acc.length:=by simp [rsR]
variable {m:Int} {mk:List Int}
theorem jUb {opac:Int} {l:List Px} (h:k<(scR m opac l mk).length):(scR m opac l mk)[k]=(zXM (pxN l k) (ksN mk m k) opac m).1:=by simp [scR]
variable {acc:List Ac} {back:List Px}
theorem jHP {kno:Bool} {op mode:Int} {l:List Px} (h:k<(stR kno op mode m l acc back).length):(stR kno op mode m l acc back)[k]=accS kno op mode m (pxN l k) (acN acc k) (pxN back k):=by simp [stR]
theorem jUd (h:k<(rsR m acc back).length):(rsR m acc back)[k]=zZb (acN acc k) (pxN back k) m:=by simp [rsR]
section
attribute [local irreducible] Ans AnsO AnsG AnsN AnsI
def jHd:Gam:=jX4.add []
def eQ (a:List Px):DV:=DV.sl (List.length a) (pxs a)
def aLZ (a:Nat) (b:List Px) (c d:Nat):we:=rQ a (List.length b) c d
def aMA (a:List Int):DV:=DV.sl (List.length a) (u16s a)
def yZ (a:Nat) (b:List Px):List DV:=pxs (List.take a b)
def zA (a:Nat) (b:List Px):Prop:=a<=List.length b
def aJY (a:List Px):Int:=(List.length a:Int)
def aKA (a:Nat) (b:List Px) (c:Nat):Prop:=cX a (List.length b) c (pxs b)
def aJZ (a:Prop) (b:List Px) (c:Prop):Prop:=aF a (eS (eQ b)) (eS (cI (List.length b))) c
def aKD (a:List DV) (b c:Nat):Px:=⟨cY a b c,fX a b c,gU a b c,fY a b c,kW a b c⟩
theorem ug:∀ n:Nat,n<=100000->n<=maxLen:=λn h=>by unfold maxLen; omega
theorem jZi (l:List Px) (mk:List Int) (opac m:Int) (hl:l.length<=100000) (hm:mk.length=0\/mk.length=l.length) (hok:∀ j,j<l.length->(zXM (pxN l j) (ksN mk m j) opac m).2=true):Ans prog 212 [rD (dS l.length (pxs l)),rD (dS mk.length (u16s mk)),rD (dK opac),rD (dK m)] (rT [rD (dS ((scR m opac l mk).length) (pxs (scR m opac l mk))),rD (dQ true)]):=
 wc jHd (let b:=pxs l;cU (uj True (nT (gH 0 (eQ l) 1 (aMA mk) (qY 2 opac 3 m []))) (sA (um (λg=>zA g l) (λc=>aES (mV 1 (aMA mk) (qY 2 opac 3 m (kU 10 1010 c (mV 26 (eQ l) (aLZ 27 l 28 c))))) 1010 37 5 (yZ c (scR m opac l mk))) (λf=>List.length l-f) (λa=>aHN (jA (ul Int (λe=>e=ksN mk m a) (λd=>(⟨mV 1 (aMA mk) (qY 2 opac 3 m (kU 10 1010 a (fG 12 12 (aBH 13 d 26 (eQ l) (aLZ 27 l 28 a))))),aLW 1010 37 5 (yZ a (scR m opac l mk)) 12 (cD (fD b (aV a 5))::aX (fD b (iP a 5)) (fD b (cB (aV a 5))) (aX (fD b (pW a 5)) (fD b (bG (aV a 5))) [])) []⟩:Snap)) (λh=>aL)))))))) Tryz.func212 (let g:=scR m opac l mk;let k:=lG (eQ g);let b:=pxs l;let n:=eS (aE m);let e:=aMA mk;let i:=(List.length mk:Int);let u:=(∃ w:Unit,True/\fV (eQ l) e (eS (aE opac)) n/\True);gK (True/\aHC (dX i) (True/\True/\vE (rG i (aJY l)) (DV.sl 0 []) k ((i !=aJY l)=false->u)) u) (∀ v:Unit,lM (True/\True/\True/\(∃ f:Nat,aW (zA f l) (eS e/\dE (aE opac) n (aJZ (0=f) l (dF f))) (([]:List DV)=yZ f g))/\(∀ a:Nat,let d:=yZ a g;let o:=[aE (cY b a 5),aE (fX b a 5),aE (gU b a 5),aE (fY b a 5),aE (kW b a 5)];let p:=ksN mk m a;bP (zA a l) (aHJ (dP a (List.length l)) (aKA a l 5) (uM b a) (aBY (List.length mk) (dY (cX a (List.length mk) 1 (u16s mk)) (bY (u16s mk) (aV a 1)/\True) (∃ r:Int,nW (r=p) (aGY e (aE opac) (aE m) (eS a) (eS (0:Nat)) (aJZ (fD (u16s mk) (aV a 1)=aE r) l (mJ a))) d o)) (xI i (∃ q:Int,nW (q=p) (aGY e (aE opac) (aE m) (eS a) (eS (0:Nat)) (aJZ (aE m=aE q) l (mJ a))) d o))) (∀ j:Int,let h:=zXM (aKD b a 5) j opac m;let s:=eY h;let t:=h.snd;j=p->eU (cQ (xU 229 o (jM j [rD (aE opac),rD (aE m)]) (eY h) h) (bF (aCK (gX t) (DV.sl 0 []) k/\zS t (aN (zXe 5 10 a 1 d s) (∃ c:Nat,aF (zA c l) (dM (List.length l) c a) (pV e (eS (aE opac)) n (a+1=c) (aW (eS (eQ l)) (mJ (List.length l)) (bS a c))) (d++s=yZ c g)))))))) (eG (iQ a (List.length l)) (lG (DV.sl a d)=k)))))) λhwf=>by
  delta eS aB aR bI dY aE aT aF fD bQ aM cQ fT dE pV aN cR xM cI aW iH aV bS bP fV iP dF aBY aI fL xI cX cY dP iQ jM eG fX fY gU kW eU cB bF gK dM mJ dX gW lG oN aCK gX zS vE eY xU nW bY lM rG cM mT aGY aHC uM aHJ eQ aJY aKA aJZ aMA aKD yZ zA;simp only [sS,zQw];clear hwf;have hM:=ug
  refine ⟨⟨λh1=>⟨λh2=>?_,λ_=>⟨(),trivial⟩⟩,λ_=>⟨(),trivial⟩⟩,⟨0,wQi _,⟨rfl,rfl⟩,rfl⟩,λk hk=>⟨λhlt=>?_,λhge=>?_⟩⟩
  ·have h1:=wQP.1 h1;have h2:=wQP.1 h2;omega
  ·have h:k<l.length:=by omega
   obtain ⟨e1,e2,e3,e4,e5⟩:=zQU h;have q:=zKz h;have hw:wrap .i64 ((k:Int)+1)=((k+1:Nat):Int):=by rw [wQb _ ⟨by omega,by omega⟩]; omega
   have ok:=hok k h;have en:=zJJ h;have hmk:0<mk.length->k<mk.length:=by omega
   simp only [e1,e2,e3,e4,e5,wQr];generalize l[k]=P at *;rw [en] at ok;refine ⟨⟨by omega,by omega,by omega⟩,q,⟨λh1=>⟨⟨by omega,by have:=hmk (by omega); omega,by rw [zHH]; exact hmk (by omega)⟩,(by rw [jK7 (hmk (by omega))]; exact jWS (hmk (by omega))),ksN mk m k,rfl,?_⟩,λh1=>⟨ksN mk m k,rfl,?_⟩⟩,λw hw2=>?_⟩
   ·rw [jK7 (hmk (by omega))];unfold ksN;rw [if_neg (by omega),List.getElem?_eq_getElem (hmk (by omega))]; rfl
   ·unfold ksN;rw [if_pos (by omega)]
   ·have hs:k<(scR m opac l mk).length:=by rw [zKc]; exact h
    have ts:=wZl (l:=scR m opac l mk) (i:=k);rw [List.getElem?_eq_getElem hs,jUb hs,en,<- hw2] at ts;have ap:zXe 5 10 k 1 (pxs ((scR m opac l mk).take k)) (Px.ds (zXM P w opac m).1):=⟨by rw [zQw,wQq,wQJ (by omega)],rfl,hM _ (by omega),by omega⟩
    rw [<- hw2] at ok;refine ⟨zWF P w opac m,λh1=>(by rw [ok] at h1; cases h1),λ_=>⟨ap,k+1,by omega,by omega,⟨rfl,hw⟩,?_⟩⟩;rw [ts,<- zJA]; rfl
  ·have:k=l.length:=by omega
   subst this;rw [wQW (by rw [zKc]; omega)];exact ⟨(zKc _ _ _ _).symm,rfl⟩
def aKB (a:List Ac):DV:=DV.sl (List.length a) (acs a)
def aIB (a:Nat) (b:List Ac):List DV:=acs (List.take a b)
def aDM (a:FuncId) (b:Bool) (c:List RV) (e:RV):Prop:=Ans prog a (RV.d (DV.bool b)::c) e
def tA (a:List DV) (b c:Nat):Int:=nAt a (aR (dT b) c)
theorem jXp (kno:Bool) (op mode m:Int) (l:List Px) (acc:List Ac) (back:List Px) (hl:l.length<=100000) (ha:acc.length=l.length) (hb:back.length=l.length) (ho:isNm op=true) (hmo:isNm mode=true) (hok:∀ j,j<l.length->zZn kno op mode m (pxN l j) (acN acc j) (pxN back j)=true):Ans prog 214 [rD (dQ kno),rJ (op),rJ (mode),rD (dK m),rD (dS l.length (pxs l)),rD (dS acc.length (acs acc)),rD (dS back.length (pxs back))] (rT [rD (dS ((stR kno op mode m l acc back).length) (acs (stR kno op mode m l acc back))),rD (dQ true)]):=
 wc jHd (let c:=stR kno op mode m l acc back;cU (uj True (nT (aIJ 0 kno (aJS op mode (aBH 3 m 4 (eQ l) (gH 5 (aKB acc) 6 (eQ back) []))))) (sA (um (λg=>zA g l) (λb=>aES (aIJ 0 kno (aJS op mode (aBH 3 m 4 (eQ l) (gH 5 (aKB acc) 6 (eQ back) (kU 16 1016 b (aLZ 33 l 34 b)))))) 1016 199 6 (aIB b c)) (λf=>List.length l-f) (λa=>jL (tN (ul Bool (λe=>e=true->yZI l acc back a) (λd=>aES (aIJ 0 kno (aJS op mode (aBH 3 m 4 (eQ l) (gH 5 (aKB acc) 6 (eQ back) (kU 16 1016 a (aMZ 17 a 33 (List.length l) (aAI 34 a 74 (DV.bool d) []))))))) 1016 199 6 (aIB a c)) (λh=>aL)))))))) Tryz.func214 (let t:=lG (aKB (stR kno op mode m l acc back));let u:=stR kno op mode m l acc back;let z:=List.length l;let e:=pxs back;let b:=acs acc;let f:=pxs l;let H:=List.length l;let p:=mJ H;let I:=eS (eQ back);let q:=eS (aKB acc);let v:=eS (eQ l);let j:=aE m;let w:=eS (aB op);let r:=DV.bool kno;let K:=DV.sl 0 [];let L:=List.length acc;let z1:=aJY l !=(L:Int);gK (bF (aLU z1 (vE (rG (aJY l) (aJY back)) K t ((aJY l !=aJY back)=false->(∃ z3:Unit,True/\(eS r/\oM op mode (fV j (eQ l) (eS (aKB acc)) (eS (eQ back))))/\True))) (qU z1 (True/\oN K=t)))) (∀ z2:Unit,lM (True/\True/\True/\(∃ s:Nat,aW (zA s l) (dE r w (lZ mode j v q (aF I (0=s) p (dF s)))) (([]:List DV)=aIB s u))/\(∀ a:Nat,let d:=aIB a u;let A:=tL b a 6;let B:=kW b a 6;let C:=fY b a 6;let D:=gU b a 6;let E:=fX b a 6;let F:=cY b a 6;let Q:=(⟨F,E,D,C,B,A⟩:Ac);let i:=zY9 kno op mode m (aKD f a 5) Q (aKD e a 5);let G:=nP i.a i.b i.c (nP i.al i.own i.f []);let J:=zZn kno op mode m (aKD f a 5) Q (aKD e a 5);let x:=aV a 6;let R:=cF (bY b x) (bY b (x+1)) (cM b x) (cM b (iP a 6)) (mT b x) (cM b (pW a 6));let S:=cX a L 6 b;let k:=dT a;let c:=dT a;let T:=eX (tA d a 6) (iE d c 6) (mF d c 6) (jC d c 6) (jZ d c 6) (nQ d k 6);let g:=aR c 6;let U:=g+1;let M:=yZI l acc back a;let V:=eS d;let W:=(∃ O:Bool,aW (O=true->M) (eS r/\oM op mode (pV j (eS (eQ l)) q (eS (eQ back)) (eS a/\dE (cI a) p (iR (cI a) (kC false O))))) V);let X:=cT W;let Y:=wM (cY f a 5==tA f a 5) (fX f a 5==iE f c 5) (gU f a 5==mF f c 5) (fY f a 5==jC f c 5) (kW f a 5==jZ f c 5);let Z:=sF (Bool.and (F==tA b a 6) (sF (E==iE b c 6) (D==mF b c 6) true)) (C==jC b c 6) (sF (B==jZ b c 6) (A==nQ b k 6) true);let h:=aR c 5;let z0:=h+1;bP (zA a l) (iN (dP a H) (aBY a (dY (aKA a l 5) (uM f a) (True/\True/\mX k H 5 f/\fT (bY f h) (bY f z0) (cM f h) (cM f (gT c 5)) (mT f h)/\True/\True/\True/\(Y=true->True/\dY S R (True/\True/\mX k L 6 b/\fP (bY b g) (bY b U) (cM b g) (aW (cM b (gT c 6)) (mT b g) (cM b (lQ k 6)))/\True/\True/\True/\(Z=true->True/\True/\aKA a back 5/\aN (uM e a) (cR (mX k (List.length back) 5 e) (fT (bY e h) (bY e z0) (cM e h) (cM e (gT c 5)) (mT e h)) (eS true/\(∃ P:Bool,aW (P=true->M) (dE r w (lZ mode j v q (pV (eQ back) (eS a) (mJ a) p (iR (cI a) (kC (wM (cY e a 5==tA e a 5) (fX e a 5==iE e c 5) (gU e a 5==mF e c 5) (fY e a 5==jC e c 5) (kW e a 5==jZ e c 5)) P))))) V))))/\bP (Z=(!true)) (eS true) W))/\sJ Y true X)) (iW (decide ((a:Int)>0)) X)) (∀ y:Bool,(y=true->M)->(y=true->True/\True/\True/\dY (mO c a) (cF (bY d g) (bY d U) (cM d g) (cM d (gT c 6)) (mT d g) (cM d (lQ k 6))) (aN (zXe 6 12 a 1 d T) (∃ o:Nat,aF (zA o l) (dM z o a) (dE r w (lZ mode j v q (aF I (a+1=o) p (bS a o)))) (d++T=aIB o u))))/\nJ y (True/\True/\True/\aKA a l 5/\uM f a/\True/\True/\S/\R/\True/\True/\aKA a back 5/\cR (uM e a) (aDM 230 kno (rD (aB op)::tT mode m (rA (aFY (cY f a 5) (fX f a 5) (gU f a 5) (fY f a 5) (kW f a 5))::yI (nP F E D (nP C B A [])) (bQ (cY e a 5) (fX e a 5) (gU e a 5) (fY e a 5) (kW e a 5)))) (rT [rA G,rD (DV.bool J)])) (pS (eS true) (aCK (gX J) K t) (zS J (aN (zXe 6 12 a 1 d G) (∃ n:Nat,aF (zA n l) (dM z n a) (dE r w (lZ mode j v q (aF I (a+1=n) p (bS a n)))) (d++G=aIB n u)))))))) (eG (iQ a z) (lG (DV.sl a d)=t)))))) λhwf=>by
  delta eS aB aR bI mX dY aE aT aF fD bQ bU fT dE pV aN lZ cR cT iN cI aW mO iH aV bS bP fV iP dF aBY cX cY dP iQ eG fX fY gT iE gU pS jC jZ mF kW kL cB bF iR oM fP gK nJ dM kC dT qU mJ pW tL sF gW lG oN aCK gX zS vE iW sJ tT eX nP aFY bY cF lM rG wM aLU cM lQ nQ yI aDM mT tA uM eQ aJY aKA aKB aKD zA aIB;simp only [sS];clear hwf;have hM:=ug
  have pxe:∀ p q:Px,((p.a==q.a&&(p.b==q.b&&(p.c==q.c&&true)))&&(p.al==q.al&&(p.f==q.f&&true)))=true->p=q:=λp q h=>by
   simp only [wQe,wXY,and_true] at h;obtain ⟨a,b,c,d,e⟩:=p;obtain ⟨a',b',c',d',e'⟩:=q;simp only at h;obtain ⟨⟨h1,h2,h3⟩,h4,h5⟩:=h;rw [h1,h2,h3,h4,h5]
  have ace:∀ p q:Ac,((p.a==q.a&&(p.b==q.b&&(p.c==q.c&&true)))&&(p.al==q.al&&(p.own==q.own&&(p.f==q.f&&true))))=true->p=q:=λp q h=>by
   simp only [wQe,wXY,and_true] at h;obtain ⟨a,b,c,d,e,g⟩:=p;obtain ⟨a',b',c',d',e',g'⟩:=q;simp only at h;obtain ⟨⟨h1,h2,h3⟩,h4,h5,h6⟩:=h;rw [h1,h2,h3,h4,h5,h6]
  have ebad:∀ h:¬ (acc.length=l.length/\back.length=l.length),(0=(stR kno op mode m l acc back).length/\[]=acs (stR kno op mode m l acc back))/\false=true:=λh=>absurd ⟨ha,hb⟩ h;refine ⟨⟨λh1=>⟨λh2=>ebad (by have:=wQP.1 h2; omega),λ_=>⟨(),trivial⟩⟩,λh1=>ebad (by have:=wQP.1 h1; omega)⟩,⟨0,wQi _,⟨rfl,rfl⟩,rfl⟩,λk hk=>⟨λhlt=>?_,λhge=>?_⟩⟩
  ·have h:k<l.length:=by omega
   have h':k<acc.length:=by omega
   have h'':k<back.length:=by omega
   have w1:wrap .i64 ((k:Int)+1)=((k+1:Nat):Int):=by rw [wQb _ ⟨by omega,by omega⟩]; omega
   have hs:k<(stR kno op mode m l acc back).length:=by rw [jJ6]; exact h
   have ts:=wZl (l:=stR kno op mode m l acc back) (i:=k);rw [List.getElem?_eq_getElem hs,jHP hs] at ts;have tl:((stR kno op mode m l acc back).take k).length=k:=by rw [wQq,wQJ (by omega)]
   have ok:=hok k h;have ap:∀ x:Ac,zXe 6 12 k 1 (acs ((stR kno op mode m l acc back).take k)) (Ac.ds x):=λx=>⟨by rw [zYr,tl],rfl,hM _ (by omega),by omega⟩
   have nx:∀ x:Ac,x=accS kno op mode m (pxN l k) (acN acc k) (pxN back k)->∃ k',k'<=l.length/\l.length-k'<l.length-k/\(k+1=k'/\wrap .i64 ((k:Int)+1)=(k':Int))/\acs ((stR kno op mode m l acc back).take k)++Ac.ds x=acs ((stR kno op mode m l acc back).take k'):=λx hx=>⟨k+1,by omega,by omega,⟨rfl,w1⟩,by rw [ts,<- hx,<- jWJ]; rfl⟩
   clear ts;refine ⟨⟨λh0=>?_,λh0=>⟨false,λq=>(by cases q),rfl⟩⟩,λc hc=>⟨λhc1=>?_,λhc1=>?_⟩⟩
   ·obtain ⟨j,rfl⟩:∃ j,k=j+1:=⟨k-1,by omega⟩
    have wj:wrap .i64 (((j+1:Nat):Int)-1)=(j:Int):=by rw [wQb _ ⟨by omega,by omega⟩]; omega
    have g:j<l.length:=by omega
    have g':j<acc.length:=by omega
    have g'':j<back.length:=by omega
    obtain ⟨e1,e2,e3,e4,e5⟩:=zQU h;obtain ⟨f1,f2,f3,f4,f5⟩:=zQU g;obtain ⟨a1,a2,a3,a4,a5,a6⟩:=jQ8 h';obtain ⟨b1,b2,b3,b4,b5,b6⟩:=jQ8 g';obtain ⟨c1,c2,c3,c4,c5⟩:=zQU h'';obtain ⟨d1,d2,d3,d4,d5⟩:=zQU g'';simp only [Nat.add_zero] at a1 b1;simp only [wj,wQl,e1,e2,e3,e4,e5,f1,f2,f3,f4,f5,a1,a2,a3,a4,a5,a6,b1,b2,b3,b4,b5,b6,c1,c2,c3,c4,c5,d1,d2,d3,d4,d5];have R1:=zKz h;have R2:=zKz g;have R3:=jQ7 h';have R4:=jQ7 g';have R5:=zKz h'';have R6:=zKz g'';simp only [Nat.add_zero] at R3 R4;have n1:=zJJ h;have n2:=zJJ g;have n3:=jXj h';have n4:=jXj g';have n5:=zJJ h'';have n6:=zJJ g'';refine ⟨⟨by omega,by omega,by rw [zQw]; omega⟩,R1,⟨by omega,by omega,by rw [zQw]; omega⟩,R2,λq1=>⟨⟨by omega,by omega,by rw [zYr]; omega⟩,R3,⟨by omega,by omega,by rw [zYr]; omega⟩,R4,λq2=>⟨⟨by omega,by omega,by rw [zQw]; omega⟩,R5,⟨by omega,by omega,by rw [zQw]; omega⟩,R6,_,λq3=>?_,rfl⟩,λ_=>⟨false,λq=>(by cases q),rfl⟩⟩,λ_=>⟨false,λq=>(by cases q),rfl⟩⟩;have z1:=pxe _ _ q1;have z2:=ace _ _ q2;have z3:=pxe _ _ q3;exact ⟨by omega,by rw [n1,wZL,n2,z1],by rw [n3,wZL,n4,z2],by rw [n5,wZL,n6,z3]⟩
   ·obtain ⟨k0,s1,s2,s3⟩:=hc hc1;obtain ⟨j,rfl⟩:∃ j,k=j+1:=⟨k-1,by omega⟩
    have wj:wrap .i64 (((j+1:Nat):Int)-1)=(j:Int):=by rw [wQb _ ⟨by omega,by omega⟩]; omega
    rw [wZL] at s1 s2 s3;have hj:j<((stR kno op mode m l acc back).take (j+1)).length:=by rw [tl]; omega
    obtain ⟨a1,a2,a3,a4,a5,a6⟩:=jQ8 hj;have R:=jQ7 hj;have ev:((stR kno op mode m l acc back).take (j+1))[j]=accS kno op mode m (pxN l (j+1)) (acN acc (j+1)) (pxN back (j+1)):=by rw [List.getElem_take,jHP,s1,s2,s3]
    simp only [Nat.add_zero] at a1 R;simp only [wj,wQl,a1,a2,a3,a4,a5,a6];exact ⟨⟨by omega,by omega⟩,R,ap _,nx _ ev⟩
   ·obtain ⟨e1,e2,e3,e4,e5⟩:=zQU h;obtain ⟨a1,a2,a3,a4,a5,a6⟩:=jQ8 h';obtain ⟨c1,c2,c3,c4,c5⟩:=zQU h'';simp only [Nat.add_zero] at a1;simp only [e1,e2,e3,e4,e5,a1,a2,a3,a4,a5,a6,c1,c2,c3,c4,c5];have R1:=zKz h;have R3:=jQ7 h';have R5:=zKz h'';simp only [Nat.add_zero] at R3;have n1:=zJJ h;have n3:=jXj h';have n5:=zJJ h'';have se:zY9 kno op mode m l[k] acc[k] back[k]=accS kno op mode m (pxN l k) (acN acc k) (pxN back k):=by
     rw [n1,n3,n5] at ok |-;unfold zY9;rw [if_pos ok]
    have S:=zWL kno op mode m l[k] acc[k] back[k] ho hmo;rw [n1,n3,n5] at ok;refine ⟨⟨by omega,by omega,by rw [zQw]; omega⟩,R1,⟨by omega,by omega,by rw [zYr]; omega⟩,R3,⟨by omega,by omega,by rw [zQw]; omega⟩,R5,S,λq=>(by rw [ok] at q; cases q),λ_=>⟨ap _,nx _ se⟩⟩
  ·have:k=l.length:=by omega
   subst this;rw [wQW (by rw [jJ6]; omega)];exact ⟨(jJ6 _ _ _ _ _ _ _).symm,rfl⟩
def aEN (a:Nat) (b:List Ac):Prop:=a<=List.length b
def aDL (a:FuncId) (b:List DV) (c:List RV) (e:List DV) (f:Ac) (g:Px) (h:Int):Prop:=Ans prog a (RV.agg b::c) (RV.tup [RV.agg e,RV.d (DV.bool (Ac.ok f g h))])
theorem zVC (acc:List Ac) (back:List Px) (m:Int) (hl:acc.length<=100000) (hb:back.length=acc.length) (hok:∀ j,j<acc.length->(acN acc j).ok (pxN back j) m=true):Ans prog 158 [rD (dS acc.length (acs acc)),rD (dS back.length (pxs back)),rD (dK m)] (rT [rD (dS ((rsR m acc back).length) (pxs (rsR m acc back))),rD (dQ true)]):=
 wc jHd (let a:=List.length acc;cU (uj True (nT (rZ 0 a (acs acc) (gH 1 (eQ back) 2 (aE m) []))) (sA (um (λd=>aEN d acc) (λb=>aES (rZ 0 a (acs acc) (gH 1 (eQ back) 2 (aE m) (kU 8 1008 b (rQ 18 a 19 b)))) 1008 37 5 (yZ b (rsR m acc back))) (λc=>a-c) (λe=>aL))))) Tryz.func158 (let g:=rsR m acc back;let i:=lG (eQ g);let d:=List.length acc;let c:=pxs back;let b:=acs acc;let q:=mJ d;let n:=eS (eQ back);let s:=(d:Int);gK (True/\True/\vE (rG s (aJY back)) (DV.sl 0 []) i ((s !=aJY back)=false->(∃ u:Unit,True/\aW (eS (aKB acc)) n (eS (aE m))/\True))) (∀ t:Unit,lM (True/\True/\True/\(∃ f:Nat,aW (aEN f acc) (dE (aKB acc) n (aF (eS (aE m)) (0=f) q (dF f))) (([]:List DV)=yZ f g))/\(∀ a:Nat,let j:=yZ a g;let k:=aKD c a 5;let l:=(⟨cY b a 6,fX b a 6,gU b a 6,fY b a 6,kW b a 6,tL b a 6⟩:Ac);let o:=resE l k m;let p:=aI o;let r:=Ac.ok l k m;let h:=aV a 6;bP (aEN a acc) (dP a d->eU (True/\True/\cX a d 6 b/\cF (bY b h) (bY b (h+1)) (cM b h) (cM b (iP a 6)) (mT b h) (cM b (pW a 6))/\True/\True/\aKA a back 5/\uM c a/\dL (aDL 109 (eX (cY b a 6) (fX b a 6) (gU b a 6) (fY b a 6) (kW b a 6) (tL b a 6)) (rA (aFY (cY c a 5) (fX c a 5) (gU c a 5) (fY c a 5) (kW c a 5))::jM m []) (aI o) l k m) (eS true/\True/\True/\aCK (gX r) (DV.sl 0 []) i/\zS r (aN (zXe 5 10 a 1 j p) (∃ e:Nat,aF (aEN e acc) (dM d e a) (dE (aKB acc) n (aF (eS (aE m)) (a+1=e) q (bS a e))) (j++p=yZ e g)))))) (eG (iQ a d) (lG (DV.sl a j)=i)))))) λhwf=>by
  delta eS aB aR bI aE aT aF fD bQ aY fT dE aN dL cI aW aV bS bP iP dF aI cX cY dP iQ jM eG fX fY gU kW eU kL cB gK dM mJ pW tL gW lG oN aCK gX zS vE eX nP aFY bY cF lM rG cM aDL mT uM eQ aJY aKA aKB aEN aKD yZ;simp only [sS];clear hwf;have hM:=ug
  refine ⟨⟨λh1=>absurd hb (by have:=wQP.1 h1; omega),λ_=>⟨(),trivial⟩⟩,⟨0,wQi _,⟨rfl,rfl⟩,rfl⟩,λk hk=>⟨λhlt=>?_,λhge=>?_⟩⟩
  ·have h':k<acc.length:=by omega
   have h'':k<back.length:=by omega
   have w1:wrap .i64 ((k:Int)+1)=((k+1:Nat):Int):=by rw [wQb _ ⟨by omega,by omega⟩]; omega
   have hs:k<(rsR m acc back).length:=by rw [zGi]; exact h'
   have ts:=wZl (l:=rsR m acc back) (i:=k);rw [List.getElem?_eq_getElem hs,jUd hs] at ts;have tl:((rsR m acc back).take k).length=k:=by rw [wQq,wQJ (by omega)]
   have ok:=hok k h';have ap:∀ x:Px,zXe 5 10 k 1 (pxs ((rsR m acc back).take k)) (Px.ds x):=λx=>⟨by rw [zQw,tl],rfl,hM _ (by omega),by omega⟩
   have nx:∀ x:Px,x=zZb (acN acc k) (pxN back k) m->∃ k',k'<=acc.length/\acc.length-k'<acc.length-k/\(k+1=k'/\wrap .i64 ((k:Int)+1)=(k':Int))/\pxs ((rsR m acc back).take k)++Px.ds x=pxs ((rsR m acc back).take k'):=λx hx=>⟨k+1,by omega,by omega,⟨rfl,w1⟩,by rw [ts,<- hx,<- zJA]; rfl⟩
   clear ts;obtain ⟨a1,a2,a3,a4,a5,a6⟩:=jQ8 h';obtain ⟨c1,c2,c3,c4,c5⟩:=zQU h'';simp only [Nat.add_zero] at a1;simp only [a1,a2,a3,a4,a5,a6,c1,c2,c3,c4,c5];have R3:=jQ7 h';have R5:=zKz h'';simp only [Nat.add_zero] at R3;have n3:=jXj h';have n5:=zJJ h'';rw [n3,n5] at ok nx;have se:resE acc[k] back[k] m=zZb acc[k] back[k] m:=by unfold resE; rw [if_pos ok]
   exact ⟨⟨by omega,by omega,by rw [zYr]; omega⟩,R3,⟨by omega,by omega,by rw [zQw]; omega⟩,R5,zYg acc[k] back[k] m,λq=>(by rw [ok] at q; cases q),λ_=>⟨ap _,nx _ se⟩⟩
  ·have:k=acc.length:=by omega
   subst this;rw [wQW (by rw [zGi]; omega)];exact ⟨(zGi _ _ _).symm,rfl⟩
end
def StV (bits:Int) (mn:Nat) (st:List Oq):Prop:=∀ (p:List Oq) (q:Oq) (r:List Oq),st=p++q::r->q.kind=2/\errO bits mn q p=0
variable {mn:Nat}
theorem StV.nil {bits:Int}:StV bits mn []:=λp q r h=>by simp at h
abbrev wZn:=@List.eq_nil_or_concat
variable {st:List Oq} {o:Oq}
theorem StV.push {bits:Int} (h:StV bits mn st) (hk:o.kind=2) (he:errO bits mn o st=0):StV bits mn (st++[o]):=λp q r e=>by
 rcases wZn r with rfl | ⟨r',z,rfl⟩
 ·have ⟨e1,e2⟩:=wYv e rfl;simp only [wQL,and_true] at e2;subst e1 e2;exact ⟨hk,he⟩
 ·have e:st++[o]=(p++q::r')++[z]:=by rw [e]; simp
  exact h p q r' (wYv e rfl).1
abbrev wZo:=@List.concat_eq_append
theorem StV.pop {bits:Int} (h:StV bits mn st):StV bits mn st.dropLast:=λp q r e=>by
 rcases wZn st with rfl | ⟨s',z,rfl⟩
 ·simp at e
 ·rw [wZo,wQN] at e;exact h p q (r++[z]) (by rw [wZo,e]; simp)
variable {L:List Lv}
theorem jYx (hk:o.kind=3):zXb m ms x y L o=zXb m ms x y L popO:=by
 have k3:popO.kind=3:=rfl;unfold zXb;rw [if_neg (by omega),if_neg (by omega),if_pos hk,if_neg (by omega),if_neg (by omega),if_pos k3]
theorem jW0 {bits:Int} (hi:zJo m ms) (hb:zQi bits=m) (hv:StV bits ms.length st) (h:StOk m st L) (h0:0<=o.opac) (he:errO bits ms.length o st=0) (x y:Int):
  StV bits ms.length (zXR o st)/\StOk m (zXR o st) (zXb m ms x y L o):=by
 obtain ⟨P,t,rfl⟩:=h.split
 rcases zYe he with hk | hk | ⟨hk,hne⟩
 ·rw [zUo hk];obtain ⟨a,e,h1⟩:=zUW hi hb h hk h0 he x y;rw [e];exact ⟨hv,h1⟩
 ·rw [zUn hk];obtain ⟨e,h1⟩:=zVH hb h hk h0 he x y (ms:=ms);rw [e];exact ⟨hv.push hk he,h1⟩
 ·rcases wZn st with rfl | ⟨st',q,rfl⟩
  ·exact absurd rfl hne
  ·have hk:o.kind=3:=by rw [hk]; rfl
   rw [wZo] at hv h hne |-;have e:zXR o (st'++[q])=st':=by unfold zXR; rw [if_neg (by omega),if_pos hk,wQN]
   obtain ⟨q1,q2⟩:=hv st' q [] rfl;obtain ⟨_,_,_,_,f2,f3,f4,_⟩:=zQL (.inr q1) q2;obtain ⟨P',u,rfl⟩:=h.pre.2.split;obtain ⟨e3,a,e4,s3⟩:=jZS hi h f2 f3 f4 x y;rw [e,jYx hk,e3,e4];have:=hv.pop;rw [wQN] at this;exact ⟨this,s3⟩
theorem zGg {m:Int} {bits:Int} {ms:List Im} (hi:zJo m ms) (hb:zQi bits=m) (x y:Int):∀ (l st st':List Oq) (L:List Lv),okO bits ms.length l st=some st'->(∀ o∈l,0<=o.opac)->StV bits ms.length st->StOk m st L->StV bits ms.length st'/\StOk m st' (runM m ms x y l L)
 | [],st,st',L,h,_,hv,hs=>by
  simp only [okO,wQa] at h;subst h;exact ⟨hv,hs⟩
 | o::l,st,st',L,h,ho,hv,hs=>by
  simp only [okO] at h;split at h
  ·rename_i he;obtain ⟨h1,h2⟩:=jW0 hi hb hv hs (ho o (by simp)) he x y;rw [zZ1];exact zGg hi hb x y l _ st' _ h (λq hq=>ho q (by simp [hq])) h1 h2
  ·cases h
theorem zWf (m:Int) (L:List Lv) (o:Oq) (p:Px):(zQB m L o p).length=L.length:=by
 unfold zQB; split<;>simp
theorem jJN (m:Int) (L:List Lv) (o:Oq) (p:Px) (k:Int):(zYV m L o p k).length=L.length:=by
 unfold zYV; split
 ·exact zWf _ _ _ _
 ·rfl
theorem jYX (o:Oq) (h:1<=L.length/\L.length<=65):1<=(zZ2 L o).length/\(zZ2 L o).length<=65:=by
 unfold zZ2; split
 ·simp; omega
 ·exact h
theorem jVs (k:Int) (h:1<=L.length/\L.length<=65):1<=(popL m L k).length/\(popL m L k).length<=65:=by
 unfold popL;split
 ·exact h
 ·split
  ·exact h
  ·split
   ·rw [zWf]; simp; omega
   ·exact h
theorem jYy (o:Oq) (h:1<=L.length/\L.length<=65):1<=(zXb m ms x y L o).length/\(zXb m ms x y L o).length<=65:=by
 unfold zXb;split
 ·rw [jJN]; exact h
 ·split
  ·exact jYX o h
  ·split
   ·exact jVs _ h
   ·exact h
def stT (m:Int) (ms:List Im) (x y i:Int) (z:List Mc × List Lv) (o:Oq):List Mc × List Lv:=
 if o.kind=1 then
  let c:=zX1 (z.1++[⟨i,1,.zero,.zero,0,srcS ms o x y⟩]) i o (srcS ms o x y) (zQJ ms o x y) m
  let L:=zYV m z.2 o (srcS ms o x y) (zQJ ms o x y)
  (c.1++[⟨i,4,c.2,(topL z.2).acc.col,0,(topL L).acc.col⟩],L)
 else if o.kind=2 then (z.1++[⟨i,5,.zero,.zero,0,(topL (zZ2 z.2 o)).back⟩],zZ2 z.2 o)
 else if o.kind=3 then
  let t:=topL z.2
  let k:=zQJ ms t.op x y
  let r:=resE t.acc t.back m
  let c:=zX1 (z.1++[⟨i,6,.zero,.zero,0,r⟩]) i t.op r k m
  let L:=popL m z.2 k
  (c.1++[⟨i,4,c.2,(topL z.2.dropLast).acc.col,0,(topL L).acc.col⟩],L)
 else z
theorem jJ5 (m:Int) (ms:List Im) (x y i:Int) (z:List Mc × List Lv) (o:Oq):(stT m ms x y i z o).2=zXb m ms x y z.2 o:=by
 unfold stT zXb;split
 ·rfl
 ·split
  ·rfl
  ·split<;>rfl
theorem zVD (l:List Mc) (i:Int) (o:Oq) (p:Px) (k m:Int):(zX1 l i o p k m).1.length<=l.length+2:=by
 unfold zX1; split<;>simp
theorem jH7 (m:Int) (ms:List Im) (x y i:Int) (z:List Mc × List Lv) (o:Oq):(stT m ms x y i z o).1.length<=z.1.length+4:=by
 unfold stT;split
 ·have:=zVD (z.1++[⟨i,1,.zero,.zero,0,srcS ms o x y⟩]) i o (srcS ms o x y) (zQJ ms o x y) m;simp only [wQh,wQu,wQQ] at this |-;omega
 ·split
  ·simp
  ·split
   ·have:=zVD (z.1++[⟨i,6,.zero,.zero,0,resE (topL z.2).acc (topL z.2).back m⟩]) i (topL z.2).op (resE (topL z.2).acc (topL z.2).back m) (zQJ ms (topL z.2).op x y) m;simp only [wQh,wQu,wQQ] at this |-;omega
   ·omega
def runT (m:Int) (ms:List Im) (x y:Int) (l:List Oq):Nat->List Mc × List Lv
 | 0=>([],[zQI])
 | k+1=>stT m ms x y k (runT m ms x y l k) ((l[k]?).getD popO)
theorem zKP {m:Int} {ms:List Im} {x y:Int} {l:List Oq}:∀ k,k<=l.length->(runT m ms x y l k).2=runM m ms x y (l.take k) [zQI]
 | 0,_=>rfl
 | k+1,hk=>by
  rw [runT,jJ5,zKP k (by omega),wZl,List.getElem?_eq_getElem (by omega),zY3];rfl
theorem zUu (m:Int) (ms:List Im) (x y:Int) (l:List Oq):∀ k,(runT m ms x y l k).1.length<=4*k/\1<=(runT m ms x y l k).2.length/\(runT m ms x y l k).2.length<=65
 | 0=>⟨Nat.le_refl _,by simp [runT],by simp [runT]⟩
 | k+1=>by
  obtain ⟨h1,h2,h3⟩:=zUu m ms x y l k;have h4:=jH7 m ms x y k (runT m ms x y l k) ((l[k]?).getD popO);have h5:=jYy (m:=m) (ms:=ms) (x:=x) (y:=y) ((l[k]?).getD popO) ⟨h2,h3⟩;rw [<- jJ5 (i:=(k:Int))] at h5;exact ⟨by rw [runT]; omega,h5⟩
theorem zYv (h:1<=L.length):topL L=L[L.length-1]:=by
 unfold topL; rw [List.getElem?_eq_getElem (by omega)]; rfl
theorem jYQ (m:Int) (t:Lv):resL m t=resE t.acc t.back m:=by
 unfold resL resE resB;rfl
def jYt (ms:List Im):Prop:=∀ i∈ms,(0<=i.w/\i.w<=16777216)/\0<=i.h/\i.h<=16777216
theorem zVL {v:Int} (h:zZX v=true) : -1048576<=v/\v<=1048576:=wQE h
theorem at_out {m:Im} (h:¬ (0<=x/\x<m.w/\0<=y/\y<m.h)):m.at_ x y=.zero:=by
 unfold Im.at_;rw [if_neg];simp;omega
variable {s:Scr}
theorem jZT (hd:jYt s.ims) (hi:0<=i/\i<s.ims.length) (n1:zZX dx=true) (n2:zZX dy=true) (hc:s.c.has x y=true) (h:(zXh s i dx dy).has x y=false):zXg s.ims i x y dx dy=.zero:=by
 have hk:i.toNat<s.ims.length:=by omega
 have a1:=zVL n1;have a2:=zVL n2;obtain ⟨⟨w0,w1⟩,h0,h1⟩:=hd s.ims[i.toNat] (List.getElem_mem hk);rw [jZU dx dy hi.1 hk,if_neg (by simp [farB]; omega),Rc.inter_has,hc,wXE] at h;unfold zXg;rw [if_pos hi.1,List.getElem?_eq_getElem hk];simp only;unfold zJL;split
 ·rfl
 ·rename_i hn;apply at_out;intro q;have e:Rc.empty ⟨dx,dy,dx+s.ims[i.toNat].w,dy+s.ims[i.toNat].h⟩=false:=by
   rw [Rc.empty_iff];simp only;omega
  have:Rc.has ⟨dx,dy,dx+s.ims[i.toNat].w,dy+s.ims[i.toNat].h⟩ x y=true:=by
   rw [Rc.has_iff];refine ⟨e,?_⟩;simp only;omega
  rw [this] at h;cases h
theorem jH9 (hd:jYt s.ims) {bits:Int} (hk:o.kind=1) (he:errO bits s.ims.length o st=0) (hc:s.c.has x y=true) (h:(imgR s o).has x y=false):srcS s.ims o x y=.zero:=by
 obtain ⟨f1,_,⟨n1,n2,_⟩,_⟩:=zQL (.inl hk) he;unfold imgR at h;rw [if_pos hk] at h;unfold srcS;rw [if_pos hk];exact jZT hd (f1 hk) n1 n2 hc h
theorem jG1 (hd:jYt s.ims) {bits:Int} (hk:o.kind=1\/o.kind=2) (he:errO bits s.ims.length o st=0) (hc:s.c.has x y=true) (h:(zHo s o).has x y=false):o.mask≠0/\zQJ s.ims o x y=0:=by
 obtain ⟨_,f2,⟨_,_,n1,n2⟩,_⟩:=zQL hk he;unfold zHo at h;by_cases h0:o.mask=0
 ·rw [if_pos h0,Rc.inter_has,hc] at h;cases h
 ·refine ⟨h0,?_⟩;rw [if_neg h0,if_neg (by omega)] at h;unfold zQJ;split
  ·rw [jZT hd (by omega) n1 n2 hc h]; rfl
  ·rfl
variable {m:Int}
theorem jZz (hd:jYt s.ims) {bits:Int} (hi:zJo m s.ims) (hk:o.kind=1\/o.kind=2) (he:errO bits s.ims.length o st=0) (hb:zQi bits=m) (h0:0<=o.opac) (hc:s.c.has x y=true) {src:Rc} (h:(boxF s o src).has x y=false) {p:Px} (hp:p.ok m=true) (hn:p.nn) (hs:zZz o.oper=true->src.has x y=false->p=.zero):
  zZz o.oper=true/\(zQh m o p (zQJ s.ims o x y)).1=.zero:=by
 have hm:=(zQO hi.full).1;obtain ⟨_,_,_,f1,_⟩:=zQL hk he;have ⟨m1,m2⟩:=zJM hi o x y;obtain ⟨e,_⟩:=zJa (o:=o) hi.full hp hn m1 m2 h0 (by omega);rw [e];unfold boxF at h
 cases hq:zZz o.oper with
 | false=>rw [if_pos hq,hc] at h; cases h
 | true=>
  refine ⟨rfl,?_⟩;rw [if_neg (by rw [hq]; simp)] at h;split at h
  ·rename_i hz;rw [hz]; exact zUr hm
  ·rw [Rc.inter_has] at h
   cases h1:src.has x y with
   | false=>
    have:=hs hq h1;subst this;simp only [jZA hm]
   | true=>
    rw [h1,wXW] at h;have ⟨a,b⟩:=jG1 hd hk he hc h;rw [if_neg a,b,zUr hm];exact jZA hm
variable {P:List Lv} {t:Lv}
theorem jVU (hd:jYt s.ims) {bits:Int} (hi:zJo m s.ims) (hb:zQi bits=m) (h:StOk m st (P++[t])) (hk:o.kind=1) (h0:0<=o.opac) (he:errO bits s.ims.length o st=0) (hc:s.c.has x y=true) (ho:(boxF s o (imgR s o)).has x y=false):
  zXb m s.ims x y (P++[t]) o=P++[t]:=by
 have ⟨p1,p2⟩:=zHM hi o x y;have ⟨n,e⟩:=jZz hd hi (.inl hk) he hb h0 hc ho p1 p2 (λ_ h=>jH9 hd hk he hc h);unfold zXb zYV;rw [if_pos hk];split
 ·rw [e]; exact jZW h n
 ·rfl
theorem jJp {x y:Int}:∀ (l:List Rc) (a:Rc),(a.has x y=true\/∃ r∈l,r.has x y=true)->(l.foldl Rc.hull a).has x y=true
 | [],a,h=>by
  rcases h with h | ⟨r,hr,_⟩
  ·exact h
  ·simp at hr
 | b::l,a,h=>by
  refine jJp l (a.hull b) ?_
  rcases h with h | ⟨r,hr,h⟩
  ·exact .inl (Rc.hull_has (.inl h))
  ·rcases wQB.1 hr with rfl | hr
   ·exact .inl (Rc.hull_has (.inr h))
   ·exact .inr ⟨r,hr,h⟩
theorem jHa {l:List Rc} (h:(zZ3 l).has x y=false):∀ r∈l,r.has x y=false:=λr hr=>by
 cases e:r.has x y with
 | false=>rfl
 | true=>
  have:(zZ3 l).has x y=true:=jJp l _ (.inr ⟨r,hr,e⟩);rw [this] at h; cases h
abbrev wYK:=@List.append_cancel_left
theorem zHV {s:Scr} (hd:jYt s.ims) {m bits:Int} (hi:zJo m s.ims) (hb:zQi bits=m) {x y:Int} (hc:s.c.has x y=true):∀ (f:Fo) (st:List Oq) (P:List Lv) (t:Lv),f.vf bits s.ims.length st->(∀ o∈f.flat,0<=o.opac)->StOk m st (P++[t]) ->
  (∀ r∈zQQ s f,r.has x y=false)->runM m s.ims x y f.flat (P++[t])=P++[t]
 | .nil,st,P,t,_,_,h,_=>rfl
 | .draw o r,st,P,t,hv,ho,h,hx=>by
  rw [Fo.flat,zZ1,jVU hd hi hb h hv.1 (ho o (by simp [Fo.flat])) hv.2.1 hc (hx _ (by simp [zQQ]))];exact zHV hd hi hb hc r st P t hv.2.2 (λq hq=>ho q (by simp [Fo.flat,hq])) h (λq hq=>hx q (by simp [zQQ,hq]))
 | .grp o k r,st,P,t,hv,ho,h,hx=>by
  obtain ⟨h1,h2,h3,h4⟩:=hv;obtain ⟨e1,s1⟩:=zVH hb h h1 (ho o (by simp [Fo.flat])) h2 x y (ms:=s.ims);obtain ⟨_,_,_,_,f2,f3,f4,_⟩:=zQL (.inr h1) h2;have hok:∀ q∈k.flat,0<=q.opac:=λq hq=>ho q (by simp [Fo.flat,hq]);have hbx:=hx (boxF s o (zZ3 (zQQ s k))) (by simp [zQQ]);obtain ⟨b,e2,s2⟩:=zKO hi hb x y k (st++[o]) (P++[t]) _ h3 hok s1;have hu:=s2.lv ⟨o,b,(zQM o.iso t.op.kno t.acc t.back).2⟩ (by simp);have ⟨r1,r2⟩:=zKs hu
  have ⟨n,e⟩:=jZz hd hi (.inr h1) h2 hb (ho o (by simp [Fo.flat])) hc hbx r1 r2 (λ_ hh=>by
   have e3:=zHV hd hi hb hc k (st++[o]) (P++[t]) _ h3 hok s1 (jHa hh);rw [e2] at e3;have e4:=wYK e3;simp only [wQL,Lv.mk.injEq,and_true,true_and] at e4;simp only [e4]
   exact jYO)
  obtain ⟨e3,_⟩:=jZS hi s2 f2 f3 f4 x y;rw [Fo.flat,zZ1,e1,zY3,e2,zZ1,e3];simp only at e |-;rw [e,jZW h n];exact zHV hd hi hb hc r st P t h4 (λq hq=>ho q (by simp [Fo.flat,hq])) h (λq hq=>hx q (by simp [zQQ,hq]))
def hit (r b:Rc):Bool:=!(b.inter r).empty
def Fo.act (s:Scr) (r:Rc):Fo->Fo
 | .nil=>.nil
 | .draw o k=>if hit r (boxF s o (imgR s o)) then .draw o (k.act s r) else k.act s r
 | .grp o g k=>if hit r (boxF s o (zZ3 (zQQ s g))) then .grp o (g.act s r) (k.act s r) else k.act s r
theorem jUQ {r b:Rc} (h:hit r b=false) (hr:r.has x y=true):b.has x y=false:=by
 cases e:b.has x y with
 | false=>rfl
 | true=>
  have:(b.inter r).has x y=true:=by rw [Rc.inter_has,e,hr]; rfl
  rw [Rc.has_iff] at this;unfold hit at h;rw [this.1] at h;cases h
theorem jXh {bits:Int} {mn:Nat} (s:Scr) (r:Rc):∀ (f:Fo) (st:List Oq),f.vf bits mn st->(f.act s r).vf bits mn st
 | .nil,st,h=>trivial
 | .draw o k,st,h=>by
  unfold Fo.act;split
  ·exact ⟨h.1,h.2.1,jXh s r k st h.2.2⟩
  ·exact jXh s r k st h.2.2
 | .grp o g k,st,h=>by
  unfold Fo.act;split
  ·exact ⟨h.1,h.2.1,jXh s r g _ h.2.2.1,jXh s r k st h.2.2.2⟩
  ·exact jXh s r k st h.2.2.2
abbrev wYx:=@List.not_mem_nil
theorem zGh {s:Scr} (hd:jYt s.ims) {m bits:Int} (hi:zJo m s.ims) (hb:zQi bits=m) {r:Rc} {x y:Int} (hc:s.c.has x y=true) (hr:r.has x y=true):∀ (f:Fo) (st:List Oq) (P:List Lv) (t:Lv),f.vf bits s.ims.length st->(∀ o∈f.flat,0<=o.opac)->StOk m st (P++[t]) ->
  runM m s.ims x y (f.act s r).flat (P++[t])=runM m s.ims x y f.flat (P++[t])
 | .nil,st,P,t,_,_,h=>rfl
 | .draw o k,st,P,t,hv,ho,h=>by
  have hok:∀ q∈k.flat,0<=q.opac:=λq hq=>ho q (by simp [Fo.flat,hq]);unfold Fo.act;split
  ·obtain ⟨a,e,h1⟩:=zUW hi hb h hv.1 (ho o (by simp [Fo.flat])) hv.2.1 x y;rw [Fo.flat,Fo.flat,zZ1,zZ1,e];exact zGh hd hi hb hc hr k st P _ hv.2.2 hok h1
  ·rename_i hn;rw [Fo.flat,zZ1,jVU hd hi hb h hv.1 (ho o (by simp [Fo.flat])) hv.2.1 hc (jUQ (by simpa using hn) hr)];exact zGh hd hi hb hc hr k st P t hv.2.2 hok h
 | .grp o g k,st,P,t,hv,ho,h=>by
  have hok:∀ q∈k.flat,0<=q.opac:=λq hq=>ho q (by simp [Fo.flat,hq]);have hog:∀ q∈g.flat,0<=q.opac:=λq hq=>ho q (by simp [Fo.flat,hq]);obtain ⟨h1,h2,h3,h4⟩:=hv;unfold Fo.act;split
  ·obtain ⟨e1,s1⟩:=zVH hb h h1 (ho o (by simp [Fo.flat])) h2 x y (ms:=s.ims);obtain ⟨_,_,_,_,f2,f3,f4,_⟩:=zQL (.inr h1) h2;have eg:=zGh hd hi hb hc hr g (st++[o]) (P++[t]) _ h3 hog s1;obtain ⟨b,e2,s2⟩:=zKO hi hb x y g (st++[o]) (P++[t]) _ h3 hog s1;obtain ⟨e3,a,e4,s3⟩:=jZS hi s2 f2 f3 f4 x y;rw [Fo.flat,Fo.flat,zZ1,zZ1,e1,zY3,zY3,eg,e2,zZ1,zZ1,e3,e4];exact zGh hd hi hb hc hr k st P _ h4 hok s3
  ·rename_i hn
   have e:=zHV hd hi hb hc (.grp o g .nil) st P t ⟨h1,h2,h3,trivial⟩ (λq hq=>by
    simp only [Fo.flat,wQB,List.mem_append,wYx,or_false] at hq
    rcases hq with hq | hq | hq
    ·exact ho q (by simp [Fo.flat,hq])
    ·exact hog q hq
    ·rw [hq]; decide) h (λq hq=>by
    simp only [zQQ,wQk] at hq
    rw [hq]; exact jUQ (by simpa using hn) hr)
   rw [show (Fo.grp o g k).flat=(Fo.grp o g .nil).flat++k.flat by simp [Fo.flat],zY3,e];exact zGh hd hi hb hc hr k st P t h4 hok h
def rng {α:Type} (n:Nat) (f:Nat->α):List α:=(List.range n).map f
variable {α:Type}
theorem zXs (n:Nat) (f:Nat->α):(rng n f).length=n:=by simp [rng]
variable {n j:Nat}
theorem jVk {f:Nat->α} (h:j<(rng n f).length):(rng n f)[j]=f j:=by simp [rng]
theorem zYa {f g:Nat->α} (h:∀ j,j<n->f j=g j):rng n f=rng n g:=List.map_congr_left λj hj=>h j (by simpa using hj)
theorem zVG {f:Nat->Px} (h:j<n):pxN (rng n f) j=f j:=by rw [zJJ (by rw [zXs]; exact h),jVk]
theorem zUc {f:Nat->Ac} (h:j<n):acN (rng n f) j=f j:=by rw [jXj (by rw [zXs]; exact h),jVk]
def lvN (L:List Lv) (t:Nat):Lv:=(L[t]?).getD zQI
def colA (n:Nat) (L:Nat->List Lv) (t:Nat):Fr:=⟨(lvN (L 0) t).op,rng n λj=>(lvN (L j) t).acc,rng n λj=>(lvN (L j) t).back⟩
def colF (n:Nat) (L:Nat->List Lv):List Fr:=rng (L 0).length (colA n L)
def zG3 (n:Nat):Fr:=⟨zQI.op,List.replicate n .zero,List.replicate n .zero⟩
def topF (F:List Fr):Fr:=(F[F.length-1]?).getD (zG3 0)
def zKD (m:Int) (F:List Fr) (o:Oq) (src:List Px) (mk:List Int):List Fr:=
 F.set (F.length-1) ⟨(topF F).op,stR (topF F).op.kno o.oper o.mode m (scR m o.opac src mk) (topF F).acc (topF F).back,(topF F).back⟩
def zUx (F:List Fr) (o:Oq):List Fr:=
 F++[⟨o,rng (topF F).acc.length λj=>(zQM o.iso (topF F).op.kno (acN (topF F).acc j) (pxN (topF F).back j)).1,rng (topF F).acc.length λj=>(zQM o.iso (topF F).op.kno (acN (topF F).acc j) (pxN (topF F).back j)).2⟩]
theorem zYM (F:List Fr) (t:Fr):topF (F++[t])=t:=by simp [topF]
theorem jHS {i:Nat} (h:i<P.length):lvN (P++[t]) i=lvN P i:=by
 unfold lvN; rw [wQF h]
theorem jVH (P:List Lv) (t:Lv):lvN (P++[t]) P.length=t:=by simp [lvN]
theorem zY5 (n:Nat) (L:Nat->List Lv):(colF n L).length=(L 0).length:=zXs _ _
variable {L:Nat->List Lv}
theorem jWE {L':Nat->List Lv} {t:Nat} (h0:lvN (L 0) t=lvN (L' 0) t) (h:∀ j,j<n->lvN (L j) t=lvN (L' j) t):colA n L t=colA n L' t:=by
 unfold colA;rw [h0,zYa (λj hj=>by rw [h j hj]),zYa (g:=λj=>(lvN (L' j) t).back) (λj hj=>by rw [h j hj])]
variable {P:Nat->List Lv} {t:Nat->Lv}
theorem zXY (hk:∀ j,(P j).length=k):
  colF n (λj=>P j++[t j])=colF n P++[⟨(t 0).op,rng n λj=>(t j).acc,rng n λj=>(t j).back⟩]:=by
 have g:∀ (Q:Nat->List Lv) (u:Nat),u<(Q 0).length->(colF n Q)[u]?=some (colA n Q u):=λQ u h=>by
  unfold colF;rw [List.getElem?_eq_getElem (by rw [zXs]; exact h),jVk]
 have e0:∀ j,lvN (P j++[t j]) k=t j:=λj=>by have:=jVH (P j) (t j); rwa [hk j] at this
 refine wZ0 λi=>?_;by_cases e:i<k
 ·rw [g _ i (by simp [hk]; omega),wQF (by rw [zY5,hk]; exact e),g _ i (by rw [hk]; exact e)];exact congrArg some (jWE (jHS (by rw [hk]; exact e)) λj _=>jHS (by rw [hk]; exact e))
 ·by_cases e2:i=k
  ·subst e2;rw [g _ i (by simp [hk]),wQo (by rw [zY5,hk]; omega),zY5,hk,wZs];simp only [colA,e0,wXz]
  ·rw [wQM (by rw [zY5]; simp [hk]; omega),wQM (by simp [zY5,hk]; omega)]
theorem jGc (n:Nat):colF n (λ_=>[zQI])=[zG3 n]:=by
 have:=zXY (n:=n) (k:=0) (P:=λ_=>[]) (t:=λ_=>zQI) (λ_=>rfl);have e:∀ {α:Type} (a:α),rng n (λ_=>a)=List.replicate n a:=λa=>by unfold rng; rw [wXD,wZt]
 rw [e,e] at this;exact this
theorem zUp (h:∀ j,StOk m st (L j)):∃ (P:Nat->List Lv) (t:Nat->Lv),(∀ j,L j=P j++[t j])/\(∀ j,(P j).length=st.length)/\∀ j,(t j).op=(t 0).op:=by
 have hs:=λj=>(h j).split;refine ⟨λj=>(L j).dropLast,λj=>lvN (L j) st.length,λj=>?_,λj=>?_,λj=>?_⟩
 ·obtain ⟨P,t,e⟩:=hs j;have hl:=(h j).len;rw [e] at hl;have hp:P.length=st.length:=by simpa using hl
  show L j=(L j).dropLast++[lvN (L j) st.length]
  rw [e,wQN,<- hp,jVH]
 ·have hl:=(h j).len;rw [wZV]; omega
 ·have g:∀ j,((L j)[st.length]?).map Lv.op=(zQI.op::st)[st.length]?:=λj=>by rw [<- (h j).ops,wQS]
  have k:∀ j,st.length<(L j).length:=λj=>by have:=(h j).len; omega
  have q:∀ j,lvN (L j) st.length=(L j)[st.length]'(k j):=λj=>by unfold lvN; rw [List.getElem?_eq_getElem (k j)]; rfl
  have a:=g j;have b:=g 0;rw [List.getElem?_eq_getElem (k _)] at a b
  show (lvN (L j) st.length).op=(lvN (L 0) st.length).op
  rw [q,q];rw [<- b] at a;simpa using a
theorem jGz (A:List α) (x y:α):(A++[x]).set ((A++[x]).length-1) y=A++[y]:=by simp
theorem jGb (hk:∀ j,(P j).length=k) (hop:∀ j,(t j).op=(t 0).op) {src:List Px} {q:Nat->Px} (hl:src.length=n)
  (hq:∀ j,j<n->(zXM (pxN src j) (ksN mk m j) o.opac m).1=q j) (hb:∀ j,zZc m (P j++[t j]) o (q j)=true) :
  colF n (λj=>zQB m (P j++[t j]) o (q j))=zKD m (colF n λj=>P j++[t j]) o src mk:=by
 have e:∀ j,zQB m (P j++[t j]) o (q j)=P j++[⟨(t j).op,accS (t j).op.kno o.oper o.mode m (q j) (t j).acc (t j).back,(t j).back⟩]:=λj=>by
  unfold zQB;rw [if_pos (hb j),zQT,zWa]
 simp only [e];rw [zXY hk,zXY hk];unfold zKD;rw [jGz,zYM];congr 1;congr 1;congr 1;unfold stR;rw [zKc,hl];refine List.map_congr_left λj hj=>?_;have hj:j<n:=by simpa using hj
 have e2:pxN (scR m o.opac src mk) j=q j:=by
  rw [zJJ (by rw [zKc,hl]; exact hj),jUb,hq j hj]
 rw [e2,zUc hj,zVG hj,hop j]
theorem jHu (hk:∀ j,(P j).length=k) (hop:∀ j,(t j).op=(t 0).op) (h2:o.kind=2) (h65:k<64):
  colF n (λj=>zZ2 (P j++[t j]) o)=zUx (colF n λj=>P j++[t j]) o:=by
 have e:∀ j,zZ2 (P j++[t j]) o=(P j++[t j])++[⟨o,(zQM o.iso (t j).op.kno (t j).acc (t j).back).1,(zQM o.iso (t j).op.kno (t j).acc (t j).back).2⟩]:=λj=>by
  unfold zZ2;rw [if_pos ⟨h2,by simp [hk]; omega⟩,zQT]
 simp only [e];rw [zXY (k:=k+1) (λj=>by simp [hk]),zXY hk];unfold zUx;rw [zYM];simp only [zXs];congr 1;congr 1;have a:rng n (λj=>(zQM o.iso (t j).op.kno (t j).acc (t j).back).1)=rng n λj=>(zQM o.iso (t 0).op.kno (acN (rng n λj=>(t j).acc) j) (pxN (rng n λj=>(t j).back) j)).1:=zYa λj hj=>by rw [zUc hj,zVG hj,hop j]
 have b:rng n (λj=>(zQM o.iso (t j).op.kno (t j).acc (t j).back).2)=rng n λj=>(zQM o.iso (t 0).op.kno (acN (rng n λj=>(t j).acc) j) (pxN (rng n λj=>(t j).back) j)).2:=zYa λj hj=>by rw [zUc hj,zVG hj,hop j]
 rw [a,b]
def jX0 (ms:List Im) (i x y:Int):Px:=if 0<=i then match ms[i.toNat]? with
 | some m=>m.at_ x y
 | none=>.zero
 else .zero
def pixR (ms:List Im) (i x y:Int) (n:Nat):List Px:=rng n λj=>jX0 ms i (x+j) y
def maR (ms:List Im) (o:Oq) (x y:Int) (n:Nat):List Int:=if o.mask=0 then [] else (pixR ms (o.mask-1) (x-o.mx) (y-o.my) n).map Px.al
variable {i:Int}
theorem jUB (hx:x-dx<1099511627776) (hy:y-dy<1099511627776):zXg ms i x y dx dy=jX0 ms i (x-dx) (y-dy):=by
 unfold zXg jX0;split
 ·cases ms[i.toNat]? with
  | none=>rfl
  | some q=>
   show zJL q x y dx dy=q.at_ (x-dx) (y-dy)
   unfold zJL;split
   ·rw [at_out (by omega)]
   ·rfl
 ·rfl
theorem zKW (ms:List Im) (i x y:Int) (n:Nat):(pixR ms i x y n).length=n:=zXs _ _
theorem jGy (hk:o.kind=1) (hj:j<n) (hx:x+j-o.x<1099511627776) (hy:y-o.y<1099511627776):pxN (pixR ms o.image (x-o.x) (y-o.y) n) j=srcS ms o (x+j) y:=by
 unfold pixR;rw [zVG hj,srcS,if_pos hk,jUB hx hy];congr 1; omega
theorem jG2 (h0:0<=o.mask) (hj:j<n) (hx:x+j-o.mx<1099511627776) (hy:y-o.my<1099511627776):ksN (maR ms o x y n) m j=if o.mask=0 then m else zQJ ms o (x+j) y:=by
 unfold ksN maR;by_cases h:o.mask=0
 ·rw [if_pos h,if_pos h]; rfl
 ·rw [if_neg h,if_neg h,if_neg (by rw [wQC,zKW]; omega),wQS,List.getElem?_eq_getElem (by rw [zKW]; exact hj)];unfold zQJ;rw [if_pos (by omega),jUB hx hy];simp only [wQt,wQG,pixR,jVk];congr 2; omega
theorem yQt (ms:List Im) (o:Oq) (x y:Int) (n:Nat):(maR ms o x y n).length=0\/(maR ms o x y n).length=n:=by
 unfold maR;split
 ·exact .inl rfl
 ·exact .inr (by rw [wQC,zKW])
def Cl.thaw (bx:Nat->Bx):Cl->Option DV
 | .d v=>some v
 | .nil=>some (.sl 0 [])
 | .ref b n=>match zXH (bx b) with
  | some xs=>some (.sl n xs)
  | none=>none
 | _=>none
def jWV (bx:Nat->Bx):List Cl->Option (List DV)
 | []=>some []
 | c::cs=>match c.thaw bx,jWV bx cs with
  | some d,some ds=>some (d::ds)
  | _,_=>none
mutual
def AV.thaw (bx:Nat->Bx):AV->Option RV
 | .one c=>match c.thaw bx with
  | some d=>some (.d d)
  | none=>none
 | .agg cs=>match jWV bx cs with
  | some ds=>some (.agg ds)
  | none=>none
 | .tup vs=>match AV.thawL bx vs with
  | some rs=>some (.tup rs)
  | none=>none
def AV.thawL (bx:Nat->Bx):List AV->Option (List RV)
 | []=>some []
 | x::xs=>match x.thaw bx,AV.thawL bx xs with
  | some r,some rs=>some (r::rs)
  | _,_=>none
end
section
variable {w:World} {V V':Nat->Prop} {ι:zQj} {bx:Nat->Bx}
theorem jWW (hk:∀ g,V g->V' g) (hb:∀ b,zX6 w V ι bx b (bx b)) (ho:∀ b g c,(bx b).live=true->ι b=some (g,c)->V' g) {c:Cl} {d:DV} {v:Value} (h:c.thaw bx=some d) (hr:zQp w V ι bx c v):RepD w V' d v:=by
 have hkk:zZN w V w V':=λg off u hV hu=>⟨hk g hV,hu⟩
 cases c with
 | d x=>
  simp only [Cl.thaw,wQa] at h;subst h;exact RepD.keep hkk hr
 | nil=>
  simp only [Cl.thaw,wQa] at h;subst h;simp only [zQp] at hr;simp only [RepD];exact ⟨none,0,hr,Nat.le_refl _,wQi _,λhne=>absurd rfl hne⟩
 | ref b n=>
  simp only [Cl.thaw] at h;split at h
  ·rename_i xs hin;simp only [wQa] at h;subst h;simp only [zQp] at hr;have hbb:=hb b
   cases hB:bx b with
   | row e size ys=>
    rw [hB] at hin hbb;simp only [zXH,wQa] at hin;subst hin;obtain ⟨_,⟨h1,h2,h3⟩ | ⟨g,cap,h1,h2,h3⟩⟩:=hr
    ·rcases hbb with ⟨h4,h5⟩ | ⟨g,cap,cur,h4,_⟩
     ·subst h5 h2;simp only [RepD];exact ⟨none,0,h3,Nat.le_refl _,wQi _,λhne=>absurd rfl hne⟩
     ·rw [h1] at h4; cases h4
    ·rcases hbb with ⟨h4,h5⟩ | ⟨g',cap',cur,h4,h5,h6,h7,h8⟩
     ·rw [h1] at h4; cases h4
     ·rw [h1] at h4;injection h4 with h4
      injection h4 with h4 h4'
      subst h4 h4';simp only [RepD];exact ⟨_,cap,h2,h3,h6,λhne=>⟨g,0,rfl,ho b g cap (by rw [hB]; rfl) h1,RepCells.of_row h5 (h8.keep hkk)⟩⟩
   | ice ys=>
    rw [hB] at hin hbb;simp only [zXH,wQa] at hin;subst hin;obtain ⟨_,⟨h1,h2,h3⟩ | ⟨g,cap,h1,h2,h3⟩⟩:=hr
    ·rcases hbb with ⟨h4,h5⟩ | ⟨g,cap,h4,_⟩
     ·subst h5 h2;simp only [RepD];exact ⟨none,0,h3,Nat.le_refl _,wQi _,λhne=>absurd rfl hne⟩
     ·rw [h1] at h4; cases h4
    ·rcases hbb with ⟨h4,h5⟩ | ⟨g',cap',h4,h5,h6⟩
     ·rw [h1] at h4; cases h4
     ·rw [h1] at h4;injection h4 with h4
      injection h4 with h4 h4'
      subst h4 h4';simp only [RepD];refine ⟨_,cap,h2,h3,h6,λhne=>⟨g,0,rfl,?_⟩⟩;have h9:=Lies.keep hkk h5;exact h9 hne
   | fresh=>rw [hB] at hin; cases hin
   | gone=>rw [hB] at hin; cases hin
   | cells cs=>rw [hB] at hin; cases hin
  ·cases h
 | sub b o n=>cases h
 | lit u=>cases h
 | ptr b off=>cases h
 | vp cs off=>cases h
 | clo f cs=>cases h
 | dead=>cases h
theorem jVa (hk:∀ g,V g->V' g) (hb:∀ b,zX6 w V ι bx b (bx b)) (ho:∀ b g c,(bx b).live=true->ι b=some (g,c)->V' g):∀ {cs:List Cl} {ds:List DV} {vs:List Value},jWV bx cs=some ds->zQR w V ι bx cs vs->zZq w V' ds vs
 | [],ds,vs,h,hr=>by
  simp only [jWV,wQa] at h;subst h
  cases vs with
  | nil=>trivial
  | cons _ _=>exact hr.elim
 | c::cs,ds,vs,h,hr=>by
  simp only [jWV] at h;split at h
  ·rename_i d ds' h1 h2;simp only [wQa] at h;subst h
   cases vs with
   | nil=>exact hr.elim
   | cons v vs=>exact ⟨jWW hk hb ho h1 hr.1,jVa hk hb ho h2 hr.2⟩
  ·cases h
mutual
theorem jWX (hk:∀ g,V g->V' g) (hb:∀ b,zX6 w V ι bx b (bx b)) (ho:∀ b g c,(bx b).live=true->ι b=some (g,c)->V' g):∀ {x:AV} {r:RV} {v:Value},x.thaw bx=some r->zQe w V ι bx x v->RepR w V' r v
 | .one c,r,v,h,hr=>by
  simp only [AV.thaw] at h;split at h
  ·rename_i d h1;simp only [wQa] at h;subst h;simp only [zQe] at hr;simp only [RepR];exact jWW hk hb ho h1 hr
  ·cases h
 | .agg cs,r,v,h,hr=>by
  simp only [AV.thaw] at h;split at h
  ·rename_i d h1;simp only [wQa] at h;subst h;simp only [zQe] at hr;obtain ⟨cur,e,hr⟩:=hr;simp only [RepR];exact ⟨cur,e,jVa hk hb ho h1 hr⟩
  ·cases h
 | .tup vs,r,v,h,hr=>by
  simp only [AV.thaw] at h;split at h
  ·rename_i d h1;simp only [wQa] at h;subst h;simp only [zQe] at hr;obtain ⟨cur,e,hr⟩:=hr;simp only [RepR];exact ⟨cur,e,thaw_avs hk hb ho h1 hr⟩
  ·cases h
theorem thaw_avs (hk:∀ g,V g->V' g) (hb:∀ b,zX6 w V ι bx b (bx b)) (ho:∀ b g c,(bx b).live=true->ι b=some (g,c)->V' g):∀ {xs:List AV} {rs:List RV} {vs:List Value},AV.thawL bx xs=some rs->RepAVs w V ι bx xs vs->RepRs w V' rs vs
 | [],rs,vs,h,hr=>by
  simp only [AV.thawL,wQa] at h;subst h
  cases vs with
  | nil=>simp only [RepRs]
  | cons _ _=>simp only [RepAVs] at hr
 | x::xs,rs,vs,h,hr=>by
  simp only [AV.thawL] at h;split at h
  ·rename_i d ds' h1 h2;simp only [wQa] at h;subst h
   cases vs with
   | nil=>simp only [RepAVs] at hr
   | cons v vs=>
    simp only [RepAVs] at hr;simp only [RepRs];exact ⟨jWX hk hb ho h1 hr.1,thaw_avs hk hb ho h2 hr.2⟩
  ·cases h
end
end
theorem AnsG.ans {P:Program} {f:FuncId} {args:List AV} {rs:List RV} {r:Ret} {res:RV} (h:AnsG P f 0 args [] r) (ha:args=RV.avs rs) (hr:r.res.thaw (zQN r.outs)=some res):Ans P f rs res:=by
 subst ha;intro w S vs hg hrep;have hno:∀ b,(zQN ([]:List Bx) b)=.fresh:=λb=>by simp [zQN]
 have hnone:∀ g,¬ OwnB (zQN ([]:List Bx)) (λ_=>none) g:=λg ⟨b,c,hl,e⟩=>by rw [hno] at hl; cases hl
 have hh:jZf w S (λ_=>none) (RV.avs rs) [] vs.toList:=by
  refine ⟨λb g c hl e=>?_,λb b' g c c' hl hl' hne e=>?_,λb=>?_,rep_avs hrep⟩
  ·rw [hno] at hl; cases hl
  ·rw [hno] at hl; cases hl
  ·rw [hno]; trivial
 refine (h w S _ vs hg hh).mono λed w' hp=>?_;obtain ⟨v,ι',rfl,ha⟩:=hp;refine ⟨v,rfl,jWX (λg hV=>?_) ha.bx (λb g c hl e=>?_) hr ha.rep,ha.bel.below hnone⟩
 ·rcases hV.1 with ⟨_,h⟩ | h | h
  ·exact .inl h
  ·exact .inr h
  ·exact absurd h (hnone g)
 ·rcases (ha.own b g c hl e).1 with h | h
  ·exact .inr h
  ·exact absurd h (hnone g)
section
attribute [local irreducible] Ans AnsO AnsG AnsN AnsI
def rngK {α:Type} (n k:Nat) (f:Nat->α) (z:α):List α:=rng n λj=>if j<k then f j else z
theorem zHt (n k:Nat) (f:Nat->α) (z:α):(rngK n k f z).length=n:=zXs _ _
theorem jYG (n:Nat) (f:Nat->α) (z:α):rngK n 0 f z=List.replicate n z:=by
 unfold rngK;rw [zYa (g:=λ_=>z) λj _=>if_neg (by omega)];unfold rng;rw [wXD,wZt]
theorem jYH (f:Nat->α) (z:α) (h:n<=k):rngK n k f z=rng n f:=zYa λj hj=>if_pos (by omega)
def jWh (t:Fr) (o:Oq) (j:Nat):Ac:=(zQM o.iso t.op.kno (acN t.acc j) (pxN t.back j)).1
def jWg (t:Fr) (o:Oq) (j:Nat):Px:=(zQM o.iso t.op.kno (acN t.acc j) (pxN t.back j)).2
def pixK (ms:List Im) (i x y:Int) (n k:Nat):List Px:=rng n λj=>if j<k then jX0 ms i (x+j) y else .zero
theorem jVu (ms:List Im) (i x y:Int) (n k:Nat):(pixK ms i x y n k).length=n:=zXs _ _
theorem jUg (n k:Nat) (f:Nat->α) (v:α):(rng n f).set k v=rng n λj=>if j=k then v else f j:=by
 refine wZ0 λi=>?_;rw [wX7];unfold rng;simp only [wQS,wQC,wZt];by_cases h:k=i
 ·subst h;by_cases hk:k<n
  ·simp [hk]
  ·simp [hk,wQM]
 ·rw [if_neg h];by_cases hi:i<n
  ·simp [hi,Ne.symm h]
  ·simp [hi]
theorem jVl (n k:Nat) (f:Nat->α) (z:α):(rngK n k f z).set k (f k)=rngK n (k+1) f z:=by
 unfold rngK;rw [jUg];refine zYa λj hj=>?_;by_cases h:j=k
 ·subst h; simp
 ·rw [if_neg h];by_cases h2:j<k
  ·rw [if_pos h2,if_pos (by omega)]
  ·rw [if_neg h2,if_neg (by omega)]
theorem jGO (ms:List Im) (i x y:Int) (n k:Nat):(pixK ms i x y n k).set k (jX0 ms i (x+k) y)=pixK ms i x y n (k+1):=by
 unfold pixK;rw [jUg];refine zYa λj hj=>?_;by_cases h:j=k
 ·subst h; simp
 ·rw [if_neg h];by_cases h2:j<k
  ·rw [if_pos h2,if_pos (by omega)]
  ·rw [if_neg h2,if_neg (by omega)]
theorem jG9 (h0:0<=i) (h:i.toNat<ms.length) (x y:Int):jX0 ms i x y=ms[i.toNat].at_ x y:=by
 unfold jX0; rw [if_pos h0,List.getElem?_eq_getElem h]
theorem jVq {l:List Px} (h:k<l.length) (p:Px):sets (pxs l) (k*5) p.ds=pxs (l.set k p):=by
 induction l generalizing k with
 | nil=>simp at h
 | cons q l ih=>
  cases k with
  | zero=>rfl
  | succ k=>
   have e:∀ t,pxs ((q::l).set (k+1) t)=q.ds++pxs (l.set k t):=λt=>by simp [pxs]
   have:=zGd (cs:=q.ds) p.ds (pxs l) (k*5);rw [e,<- ih (by simpa using h),<- this]
   show sets (q.ds++pxs l) _ _=_
   congr 1
   show (k+1)*5=k*5+5
   omega
theorem jHh {l:List Fr} (h:k<l.length) (a:List Ac):(frs l).set (k*14+12) (.sl a.length (acs a))=frs (l.set k ⟨l[k].op,a,l[k].back⟩):=by
 induction l generalizing k with
 | nil=>simp at h
 | cons q l ih=>
  have e0:frs (q::l)=q.cells++frs l:=by simp [frs]
  have ec:q.cells.length=14:=rfl
  cases k with
  | zero=>
   rw [e0,List.set_append_left _ _ (by omega)];rfl
  | succ k=>
   have e:∀ t,frs ((q::l).set (k+1) t)=q.cells++frs (l.set k t):=λt=>by simp [frs]
   rw [e0,e,List.set_append_right _ _ (by omega),ec,show (k+1)*14+12-14=k*14+12 by omega,ih (by simpa using h)];rfl
theorem jHD {l:List Ac} (h:k<l.length) (p:Ac):sets (acs l) (k*6) p.ds=acs (l.set k p):=by
 induction l generalizing k with
 | nil=>simp at h
 | cons q l ih=>
  cases k with
  | zero=>rfl
  | succ k=>
   have e:∀ t,acs ((q::l).set (k+1) t)=q.ds++acs (l.set k t):=λt=>by simp [acs]
   have:=zGd (cs:=q.ds) p.ds (acs l) (k*6);rw [e,<- ih (by simpa using h),<- this]
   show sets (q.ds++acs l) _ _=_
   congr 1
   show (k+1)*6=k*6+6
   omega
def jUW:Gam:=jHd.add [.p 212 (λv=>let a:=(scR (nAt (uq v) 3) (nAt (uq v) 2) (zQk (cAt (uq v) 0)) (ints (cAt (uq v) 1)));some (RV.tup [RV.d (dS a.length (pxs a)),RV.d (dQ true)])),
 .p 214 (λv=>let a:=(stR (bAt (uq v) 0) (nAt (uq v) 1) (nAt (uq v) 2) (nAt (uq v) 3) (zQk (cAt (uq v) 4)) (jYw (cAt (uq v) 5)) (zQk (cAt (uq v) 6)));some (RV.tup [RV.d (dS a.length (acs a)),RV.d (dQ true)])),
 .q 161 ([false,true,true,true,true],2,1000) (λv b=>let c:=pixR (zQF (cAt (uy (uw b 0)) 8)) (nAt (ut v) 1) (nAt (ut v) 2) (nAt (ut v) 3) (nAt (ut v) 4).toNat;some ⟨AV.one (Cl.d (dS c.length (pxs c))),b,false⟩),
 .q 213 ([false,true,true,true,true],2,1000) (λv b=>let c:=maR (zQF (cAt (uy (uw b 0)) 8)) (vm (uv v 1)) (nAt (ut v) 2) (nAt (ut v) 3) (nAt (ut v) 4).toNat;some ⟨AV.one (Cl.d (dS c.length (u16s c))),b,false⟩),
 .q 159 ([false,true,true,true,true],1,1) (λv b=>let c:=uy (uw b 0);let f:=vm (uv v 1);let g:=nAt c 10;let e:=zKD g (zHb (ux b 1)) f (zQk (cAt (ut v) 2)) (maR (zQF (cAt c 8)) f (nAt (ut v) 3) (nAt (ut v) 4) (lAt (ut v) 2));some ⟨AV.tup [],[bC [cJ (nAt c 0),cJ (nAt c 1),cJ (nAt c 2),cJ (nAt c 3),cJ (nAt c 4),cJ (nAt c 5),cJ (nAt c 6),Cl.d (dS (lAt c 7) (cAt c 7)),Cl.d (dS (lAt c 8) (cAt c 8)),Cl.d (dS (lAt c 9) (cAt c 9)),cK g,Cl.d (dS (lAt c 11) (cAt c 11)),Cl.ref 1 e.length],Bx.row 249 14 (frs e)],false⟩),
 .q 160 ([false,true],1,1) (λv b=>let c:=uy (uw b 0);let e:=zUx (zHb (ux b 1)) (vm (uv v 1));some ⟨AV.tup [],[bC [cJ (nAt c 0),cJ (nAt c 1),cJ (nAt c 2),cJ (nAt c 3),cJ (nAt c 4),cJ (nAt c 5),cJ (nAt c 6),Cl.d (dS (lAt c 7) (cAt c 7)),Cl.d (dS (lAt c 8) (cAt c 8)),Cl.d (dS (lAt c 9) (cAt c 9)),cK (nAt c 10),Cl.d (dS (lAt c 11) (cAt c 11)),Cl.ref 1 e.length],Bx.row 249 14 (frs e)],false⟩)]
def uB (a:Int) (b:Nat):Nat:=cB (bG (aR a b))+1
def jQ (a:Int) (b:Nat):Nat:=bG (bG (aR a b))
def wT (a:Int) (b:Nat):Nat:=bG (bG (jQ a b))
def aP (a:Scr) (b:Nat):Int:=cE (ims a.ims) b
def eO (a:Scr):List DV:=ims a.ims
def gQ (a:Scr) (b:Nat):Nat:=lAt (eO a) (fS b)
def gR (a:Scr) (b:Nat):List DV:=cAt (eO a) (fS b)
def aHB (a:List Int):DV:=DV.sl (List.length a) (is a)
def kO (a:Scr):DV:=aHB a.ord
def iM (a:Scr):DV:=DV.sl (List.length a.ops) (ops a.ops)
def kP (a:Scr):DV:=DV.sl (List.length a.ims) (ims a.ims)
def aAP (a b c:Nat) (d:List DV) (e:Nat) (f:wi) (g h i:Nat) (j:List DV):wg:=aLW a b c d e f (pQ g h i j)
def aJW (a:Scr) (b c d e f:Int) (g:List Int) (h:wi):wi:=jK a.bits b c d (gL e a.tw (aB a.th) (kO a) (aX (kP a) (iM a) (aX (aE f) (aHB g) h)))
def rW (e:Scr) (f:Int) (g:List Int) (h:Nat) (i:List Fr):wi:=aJW e e.c.a e.c.b e.c.c e.c.d f g [Cl.ref h (List.length i)]
def rM (a:Scr) (b:Nat):Prop:=bN (ims a.ims) b
def gP (a:Scr) (b:Nat):Prop:=rM a (bG b+1)
def jR (a:Scr) (b:Nat):Prop:=cM (eO a) b
def jT (a:Scr) (b:Nat):Prop:=rM a (fS b)
def jS (a:Scr) (b:Nat):Prop:=rM a (cB (bG (bG b)))
def jU (a:Scr) (b c d e:Nat):Pl:=⟨aP a b,aP a c,aP a d,lAt (eO a) (fS e),cAt (eO a) (fS e)⟩
def aGR (a:Scr):Nat:=List.length a.ims
def gS (a:Scr) (b:Nat):Prop:=(eO a)[fS b]?=qR (eO a) (fS b)
def aNC (a:Scr) (b c d e:Int) (f:Prop):Prop:=pR a.bits (lZ b (aB c) (eS (aB d)) (eS (aB e)) (lZ a.tw (aB a.th) (eS (kO a)) (eS (kP a)) f))
def aJX (a:AV) (b:wi) (c:Nat) (d:List Fr):Ret:=⟨a,[Bx.cells b,Bx.row 249 c (frs d)],false⟩
def aEM (e:Scr) (f:Int) (g:List Int) (h:Prop):Prop:=aNC e e.c.a e.c.b e.c.c e.c.d (fV (iM e) (aE f) (eS (aHB g)) h)
def tB (e:AV) (f:Scr) (g:Int) (h:List Int) (i:Nat) (j:List Fr) (k:wi):Ret:=aJX e (aJW f f.c.a f.c.b f.c.c f.c.d g h (Cl.ref i (List.length j)::k)) 14 j
abbrev wXj:=@List.map_replicate
abbrev wXi:=@List.flatMap_def
abbrev vz (q:Scr) (m:Int) (e:List Int) (b n:Nat):List Cl:=[cJ q.bits,cJ q.c.a,cJ q.c.b,cJ q.c.c,cJ q.c.d,cJ q.tw,cJ q.th,cD (dS q.ord.length (is q.ord)),cD (dS q.ims.length (ims q.ims)),cD (dS q.ops.length (ops q.ops)),cK m,cD (dS e.length (is e)),Cl.ref b n]
theorem zYb (s:Scr) (most:Int) (e:List Int) (F:List Fr) (i x y n:Int) (hi:0<=i/\i<s.ims.length) (hu:∀ m∈s.ims,m.isU) (hn:0<=n/\n<=100000) (hx : -4294967296<=x/\x<=4294967296):AnsG prog 161 2 [aPz,aJ ((i)),aJ ((x)),aJ ((y)),aJ ((n))] [bC (vz s most e 1 F.length),bR 249 14 (frs F)] ⟨aO (cD (dS ((pixR s.ims i x y n.toNat).length) (pxs (pixR s.ims i x y n.toNat)))),[bC (vz s most e 1 F.length),bR 249 14 (frs F)],false⟩:=
 wd jUW (let a:=aR i 28;let c:=bG (aR i 28);let b:=eO s;let f:=gL (nAt (eO s) (aR i 28)) (iE (eO s) i 28) (DV.bool (bAt b (lN i 28))) (fD b (lQ i 28)) (aX (fD b c) (fD b (iJ i 28)) (aX (fD b (mS i 28)) (fD b (uB i 28)) (aAM (aP s (gT i 28)) (aP s (lN i 28)) (aP s (lQ i 28)) (gQ s a) (gR s a) (sU (aP s (iJ i 28)) (aP s (mS i 28)) (aP s (uB i 28)) (gQ s c) (gR s c) (aP s (fE a)) (aP s (iK i 28)) (aP s (iL i 28)) (gQ s (jQ i 28)) (gR s (jQ i 28)) (sU (aP s (iY a)) (aP s (sX a)) (aP s (sY a)) (gQ s (gO a)) (gR s (gO a)) (aP s (fE (jQ i 28))) (aP s (uC a)) (aP s (uD a)) (gQ s (wT i 28)) (gR s (wT i 28)) [])))));jA (cU (uj True (qP (nZ 2 x (zL 3 y 4 n (fG 11 11 (zF 12 23 n [])))) 11 f (aAP 23 37 5 (repl (Int.toNat n) dV) 0 (rW s most e 1 F) 1 249 14 (frs F))) (zM (um (λh=>h<=8589934592) (λd=>qP (nZ 2 x (zL 3 y 4 n (fG 11 11 (zF 12 1012 n (pL 13 d []))))) 11 f (aAP 1012 37 5 (pxs (pixK s.ims i x y (Int.toNat n) d)) 0 (rW s most e 1 F) 1 249 14 (frs F))) (λg=>oB n g) (λj=>aL)))))) Tryz.func161 (let h:=Int.toNat n;let B:=pixR s.ims i x y h;let u:=tB (bZ (eQ B)) s most e 1 F [];let m:=eS (frs F);let j:=aEM s most e (eS (List.length F));let C:=eQ B;let E:=zZd u;let o:=nAt (eO s) (aR i 28);let k:=wT i 28;let a:=aR i 28;let g:=gO a;let c:=jQ i 28;let d:=bG (aR i 28);let q:=lN i 28;let b:=eO s;let G:=bAt b q;let r:=iE (eO s) i 28;let H:=kK o r G (jC b i 28) (jZ b i 28) (nQ b i 28) (qF b i 28) (aP s a) (jU s (gT i 28) q (lQ i 28) a) (jU s (iJ i 28) (mS i 28) (uB i 28) d) (jU s (fE a) (iK i 28) (iL i 28) c) (jU s (iY a) (sX a) (sY a) g) (jU s (fE (jQ i 28)) (uC a) (uD a) k);let I:=nM o r G (jC b i 28) (jZ b i 28) (nQ b i 28) (qF b i 28) (aP s a) (aP s (gT i 28)) (aP s q) (aP s (lQ i 28)) (gQ s a) (gR s a) (dA (aP s (iJ i 28)) (aP s (mS i 28)) (aP s (uB i 28)) (gQ s d) (gR s d) (aP s (fE a)) (aP s (iK i 28)) (aP s (iL i 28)) (gQ s c) (gR s c) (dA (aP s (iY a)) (aP s (sX a)) (aP s (sY a)) (gQ s g) (gR s g) (aP s (fE c)) (aP s (uC a)) (aP s (uD a)) (gQ s k) (gR s k) []));let w:=eS I;let z:=eS (Int.toNat n);let A:=repl h dV;let J:=aW (rX (aEP n A=C)) j m;oU (cR (mX i (aGR s) 28 b) (bV (jW b i 28) (oF b i 28) (dW b q) (jR s (gT i 28)) (mT b a) (jR s (lQ i 28)) (jR s d) (jR s (iJ i 28)) (bV (gP s a) (rM s (mS i 28)) (rM s (uB i 28)) (gS s a) (gP s d) (jS s a) (jT s a) (gS s d) (bV (gP s c) (jS s d) (jT s d) (gS s c) (gP s g) (jS s c) (jT s c) (gS s g) (aF (gP s k) (jS s g) (jT s g) (gS s k))))) (True/\pM n 10/\True/\bI (kR y) (pI y r (True/\J/\E) (uI y r->(∃ L:Unit,True/\pR x (fV (aB y) (aB n) (eS (0:Nat)) z)/\aF w (eS A) j (eS (frs F))))) (iG y 0->mP J u)/\(∀ K:Unit,lM (True/\True/\True/\(∃ t:Nat,cF (t<=8589934592) (oM x y (aF (eS (aB n)) (eS (0:Nat)) z (aB (Max.max (0:Int) (bU 0 x))=cI t))) w (A=pxs (pixK s.ims i x y h t)) j m)/\(∀ f:Nat,let v:=pxs (pixK s.ims i x y h f);let D:=aW (rX (aEP n v=C)) j m;let p:=aT (x+(f:Int));f<=8589934592->cV (eH (decide ((f:Int)<n)=true) (aBS p o (True/\True/\True/\True/\True/\True/\kV 215 I [rD (aB (aT (x+(f:Int)))),rD (aB y)] (Im.at_ H p y)/\uX (f:Int) n/\aN (jB (aV f 5+5) v) (∃ l:Nat,dR l 8589934592 (cF (aBX n l f) (oM x y (aF (eS (aB n)) (eS (0:Nat)) z (bS f l))) w (sets v (aV f 5) (aI (Im.at_ H p y))=pxs (pixK s.ims i x y h l)) j m))) (iN (decide (p<o)=false) D E)) (vB (f:Int) n->mP D u)))))))) λhwf hbx=>by
  delta eS aB aR bI mX pI iG jW kR aE aT aF fD bQ bZ bU aEP aIY aBS aX gL jK dE pV aN lZ cR iN cI oB aW mO aV jB bS fV uX aBX pM aI bV cV zN bN pR kD dV gT iE jC jZ oF kV kL cE cB bG bF qR oM dR dW vB eH uI oU sR dA kK aGQ nM bY cF mP lM rX cM fS fE gO lN lQ mS iJ iY iL iK nQ qF sY sX uB uD uC jQ wT aP rM eO mT gP gQ gR jR jT jS jU aGR gS aHB kO iM kP eQ aJW aNC aJX aEM tB;simp only [sS];have ime:∀ m:Im,(⟨m.w,m.h,m.so,⟨m.c.a,m.c.b,m.c.c,m.c.al,m.c.f⟩,⟨m.p0.w,m.p0.h,m.p0.s,m.p0.n,m.p0.xs⟩,⟨m.p1.w,m.p1.h,m.p1.s,m.p1.n,m.p1.xs⟩,⟨m.p2.w,m.p2.h,m.p2.s,m.p2.n,m.p2.xs⟩,⟨m.p3.w,m.p3.h,m.p3.s,m.p3.n,m.p3.xs⟩,⟨m.p4.w,m.p4.h,m.p4.s,m.p4.n,m.p4.xs⟩⟩:Im)=m:=λ_=>rfl;clear hwf hbx;have hM:=ug
  have k1:i.toNat<s.ims.length:=by omega
  have q1:=zGW k1;have IA:=λu v=>jQC s.ims[i.toNat] u v (hu _ (List.getElem_mem k1));have ag:=λu v=>jG9 hi.1 k1 u v;simp only [zGX k1,q1,and_self,true_and,ime];clear q1;generalize s.ims[i.toNat]=g at *;have en:(n.toNat:Int)=n:=by omega
  have z:repl n.toNat [DV.int .u16 0,DV.int .u16 0,DV.int .u16 0,DV.int .u16 0,DV.int .u16 0]=pxs (List.replicate n.toNat Px.zero):=by
   unfold repl pxs;rw [wXi,wXj]; rfl
  have zr:∀ f:Nat->Px,(∀ j,j<n.toNat->f j=.zero)->List.replicate n.toNat Px.zero=rng n.toNat f:=λf hf=>by
   rw [zYa hf];unfold rng;rw [wXD,wZt]
  have wn:wrap .i64 (0-x) = -x:=by rw [wQb _ ⟨by omega,by omega⟩]; omega
  have Z:∀ hy:y<0\/y>=g.h,n.toNat=(pixR s.ims i x y n.toNat).length/\repl n.toNat [DV.int .u16 0,DV.int .u16 0,DV.int .u16 0,DV.int .u16 0,DV.int .u16 0]=pxs (pixR s.ims i x y n.toNat):=λhy=>by
   refine ⟨(zKW _ _ _ _ _).symm,?_⟩;rw [z]; unfold pixR;exact congrArg pxs (zr _ λj _=>by show jX0 s.ims i (x+j) y=_; rw [ag]; exact at_out (by omega))
  have X:∀ k:Nat,(∀ j:Nat,k<=j->j<n.toNat->g.at_ (x+j) y=.zero)->pixK s.ims i x y n.toNat k=pixR s.ims i x y n.toNat:=λk h=>by
   unfold pixK pixR;refine zYa λj hj=>?_;by_cases hk:j<k
   ·rw [if_pos hk]
   ·rw [if_neg hk,ag,h j (by omega) hj]
  have Y:∀ k:Nat,(∀ j:Nat,k<=j->j<n.toNat->g.at_ (x+j) y=.zero)->n.toNat=(pixR s.ims i x y n.toNat).length/\pxs (pixK s.ims i x y n.toNat k)=pxs (pixR s.ims i x y n.toNat):=λk h=>⟨(zKW _ _ _ _ _).symm,by rw [X k h]⟩
  rw [wn];refine ⟨⟨hi.1,hi.2,by rw [zYT]; omega⟩,⟨hn.1,by omega,by have:=hM n.toNat (by omega); omega,by omega⟩,⟨λh0=>⟨λh1=>⟨Z (.inr h1),trivial⟩,λh1=>⟨(),trivial⟩⟩,λh0=>⟨Z (.inl h0),trivial⟩⟩,⟨(max 0 (-x)).toNat,by omega,by omega,?_⟩,λk hk=>⟨λh1=>?_,λh1=>⟨Y k λj hj h2=>by omega,trivial⟩⟩⟩
  ·rw [z]; unfold pixK;rw [zr _ λj hj=>?_];split
   ·rw [ag]; exact at_out (by omega)
   ·rfl
  ·have wk:wrap .i64 (x+(k:Int))=x+k:=wQb _ ⟨by omega,by omega⟩;have wk1:wrap .i64 ((k:Int)+1)=(k:Int)+1:=wQb _ ⟨by omega,by omega⟩;rw [wk,wk1];refine ⟨λh2=>⟨IA _ _,⟨by omega,by omega⟩,?_,k+1,by omega,by omega,by omega,?_⟩,λh2=>⟨Y k λj hj h3=>at_out (by omega),trivial⟩⟩
   ·rw [zQw,jVu]; omega
   ·have:=jVq (l:=pixK s.ims i x y n.toNat k) (k:=k) (by rw [jVu]; omega) (jX0 s.ims i (x+k) y);rw [jGO,ag] at this;exact this
def lU (a:wi) (b c:Nat) (d:List DV) (e:List Bx):List Bx:=Bx.cells a::Bx.row b c d::e
def aBJ (a:FuncId) (b c:Nat) (d:List AV) (e:wi) (f:List DV) (g:List Bx) (h:Ret):Prop:=AnsG prog a b (AV.one (Cl.ptr c 0)::d) (Bx.cells e::Bx.row 249 14 f::g) h
abbrev oC (q:Oq):List Cl:=[Cl.d (DV.int .i64 q.kind),Cl.d (DV.int .i64 q.image),Cl.d (DV.int .i64 q.x),Cl.d (DV.int .i64 q.y),Cl.d (DV.int .i64 q.mask),Cl.d (DV.int .i64 q.mx),Cl.d (DV.int .i64 q.my),Cl.d (DV.int .u16 q.opac),Cl.d (DV.int .i64 q.oper),Cl.d (DV.int .i64 q.mode),Cl.d (DV.bool q.iso),Cl.d (DV.bool q.kno)]
theorem zKV (s:Scr) (most:Int) (e:List Int) (F:List Fr) (o:Oq) (x y n:Int) (hu:∀ m∈s.ims,m.isU) (hI:s.ims.length<=1000000) (hxy:(-1073741824<=x/\x<=1073741824) /\ -1073741824<=y/\y<=1073741824) (hmk:(0<=o.mask/\o.mask<=s.ims.length)/\(-1073741824<=o.mx/\o.mx<=1073741824) /\ -1073741824<=o.my/\o.my<=1073741824) (hn:0<=n/\n<=100000):AnsG prog 213 2 [aPz,AV.agg (oC o),aJ ((x)),aJ ((y)),aJ ((n))] [bC (vz s most e 1 F.length),bR 249 14 (frs F)] ⟨aO (cD (dS ((maR s.ims o x y n.toNat).length) (u16s (maR s.ims o x y n.toNat)))),[bC (vz s most e 1 F.length),bR 249 14 (frs F)],false⟩:=
 wd jUW (let b:=pixR (zQF (eO s)) (bU o.mask 1) (bU x o.mx) (bU y o.my) (Int.toNat n);pX (um (λd=>mB d n) (λa=>(⟨kU 11 1011 a (mV 30 (eQ b) (aLZ 31 b 32 a)),aAP 1011 34 1 (u16s (List.take a (maR s.ims o x y (Int.toNat n)))) 0 (rW s most e 1 F) 1 249 14 (frs F)⟩:Snap)) (λc=>oB n c) (λf=>aL))) Tryz.func213 (let h:=aMA (maR s.ims o x y (Int.toNat n));let k:=zZd (tB (bZ h) s most e 1 F []);let f:=eS (frs F);let g:=aEM s most e (eS (List.length F));let i:=maR s.ims o x y (Int.toNat n);let b:=pixR (zQF (eO s)) (bU o.mask 1) (bU x o.mx) (bU y o.my) (Int.toNat n);let l:=pxs b;kX (bP ((o.mask==0)=true) (aW (rX (DV.sl 0 []=h)) g f) k) (dO (bK o.mask) (oU (fZ ((aBJ 161 2 0 (bZ (dZ o.mask 1)::bZ (dZ x o.mx)::bZ (dZ y o.my)::gN n []) (rW s most e 1 F) (frs F) [] (tB (bZ (eQ b)) s most e 1 F [])/\eS (lU (rW s most e 1 F) 249 14 (frs F) []))/\True/\True/\(∃ d:Nat,fT (mB d n) (aJZ (0=d) b (dF d)) (([]:List DV)=u16s (List.take d i)) g f)/\(∀ a:Nat,let j:=u16s (List.take a i);let m:=[aE (fY l a 5)];bP (mB a n) (dP a (List.length b)->cR (aKA a b 5) (uM l a) (True/\True/\True/\True/\aN (zXe 1 2 a 1 j m) (∃ c:Nat,cF (mB c n) (aBX n c a) (aJZ (a+1=c) b (bS a c)) (j++m=u16s (List.take c i)) g f))) (iN (iQ a (List.length b)) (aW (rX (DV.sl a j=h)) g f) k))))))) λhwf hbx=>by
  delta eS aB aR aE aT aF fD bZ bU bK fT dZ aX gL jK pV aN lZ cR dO iN cI oB mB aW aV bS bP fV iP dF aBX pR cX dP iQ fY kX fZ cB bF oU bY cF rX cM lU gN eO mT aHB kO iM kP uM eQ aJW rW aNC aJX aEM tB aBJ aKA aJZ aMA;simp only [sS];clear hwf hbx;have hM:=ug
  rw [zQS];have w1:1<=o.mask->wrap .i64 (o.mask-1)=o.mask-1:=λh=>wQb _ ⟨by omega,by omega⟩;have w2:wrap .i64 (x-o.mx)=x-o.mx:=wQb _ ⟨by omega,by omega⟩;have w3:wrap .i64 (y-o.my)=y-o.my:=wQb _ ⟨by omega,by omega⟩;refine ⟨λh=>?_,λh=>?_⟩
  ·have h0:o.mask=0:=wZk h;have ee:maR s.ims o x y n.toNat=[]:=by unfold maR; rw [if_pos h0]
   rw [ee];exact ⟨⟨rfl,rfl⟩,trivial⟩
  ·have h0:o.mask≠0:=λh2=>by rw [h2] at h; cases h
   have h1:1<=o.mask:=by omega
   rw [w1 h1,w2,w3];have ee:maR s.ims o x y n.toNat=(pixR s.ims (o.mask-1) (x-o.mx) (y-o.my) n.toNat).map Px.al:=by unfold maR; rw [if_neg h0]
   rw [ee];have A:=zYb s most e F (o.mask-1) (x-o.mx) (y-o.my) n ⟨by omega,by omega⟩ hu hn ⟨by omega,by omega⟩;have hl:=zKW s.ims (o.mask-1) (x-o.mx) (y-o.my) n.toNat;generalize pixR s.ims (o.mask-1) (x-o.mx) (y-o.my) n.toNat=L at *;refine ⟨A,⟨0,wQi _,⟨rfl,rfl⟩,rfl⟩,λk hk=>⟨λhlt=>?_,λhge=>?_⟩⟩
   ·have hk2:k<L.length:=by omega
    obtain ⟨q1,q2,q3,q4,q5⟩:=zQU hk2;have q:=zKz hk2;have ts:=wZl (l:=L.map Px.al) (i:=k);rw [wQS,List.getElem?_eq_getElem hk2] at ts;rw [q1,q2,q3,q4,q5];refine ⟨⟨by omega,by omega,by rw [zQw]; omega⟩,q,⟨by rw [zHH,wQq,wQC,wQJ (by omega)]; omega,rfl,hM _ (by omega),by omega⟩,k+1,by omega,by omega,⟨rfl,?_⟩,?_⟩
    ·rw [wQb _ ⟨by omega,by omega⟩]; omega
    ·rw [ts,<- jJ1]; rfl
   ·have:k=L.length:=by omega
    subst this;rw [wQW (by rw [wQC]; omega),wQC];exact ⟨⟨rfl,rfl⟩,trivial⟩
def cL (a:wi) (b:List AV):List AV:=AV.agg a::b
def xD (a:Scr) (b:Int) (c:List Int) (d e:List Fr):Prop:=aEM a b c (List.length d=List.length e)
def aHW (a:List DV) (b:Nat):DV:=DV.sl (lAt a b) (cAt a b)
def aMB (a:List Fr) (b:Nat):Nat:=aR (dT (List.length a)) b
theorem zKw (s:Scr) (most:Int) (e:List Int) (F:List Fr) (o:Oq) (l:List Px) (x y:Int) (hF:1<=F.length/\F.length<=66) (hu:∀ m∈s.ims,m.isU) (hI:s.ims.length<=1000000) (hxy:(-1073741824<=x/\x<=1073741824) /\ -1073741824<=y/\y<=1073741824) (hmk:(0<=o.mask/\o.mask<=s.ims.length)/\(-1073741824<=o.mx/\o.mx<=1073741824) /\ -1073741824<=o.my/\o.my<=1073741824) (hl:l.length<=100000) (ho:isNm o.oper=true) (hmo:isNm o.mode=true) (ha:(topF F).acc.length=l.length) (hb:(topF F).back.length=l.length) (hok1:∀ j,j<l.length->(zXM (pxN l j) (ksN (maR s.ims o x y l.length) most j) o.opac most).2=true) (hok2:∀ j,j<l.length->zZn (topF F).op.kno o.oper o.mode most (pxN (scR most o.opac l (maR s.ims o x y l.length)) j) (acN (topF F).acc j) (pxN (topF F).back j)=true):AnsG prog 159 1 [aPz,AV.agg (oC o),aO (cD (dS l.length (pxs l))),aJ ((x)),aJ ((y))] [bC (vz s most e 1 F.length),bR 249 14 (frs F)] ⟨AV.tup [],[bC (vz s most e 1 (((zKD most F o l (maR s.ims o x y l.length))).length)),bR 249 14 (frs (zKD most F o l (maR s.ims o x y l.length)))],false⟩:=
 wd jUW aL Tryz.func159 (let c:=zKD most F o l (maR s.ims o x y (List.length l));let d:=aMB F 14;let f:=d+13;let b:=d+12;let j:=maR (zQF (eO s)) o x y (aDZ (List.length l));let k:=scR most o.opac (zQk (pxs l)) (ints (u16s j));let m:=d+0+11;let a:=frs F;let n:=bAt a m;let p:=aKB (stR n o.oper o.mode most (zQk (pxs k)) (jYw (cAt (frs F) b)) (zQk (cAt (frs F) f)));let q:=eQ k;let g:=List.length F;let r:=aMA j;let h:=jK s.bits s.c.a s.c.b s.c.c (gL s.c.d s.tw (aB s.th) (kO s) (cD (kP s)::aX (iM s) (aE most) [cD (aHB e),Cl.ref 1 g]));bL (cQ (aBJ 213 2 0 (cL (aBK o []) (gN x (gN y [bZ (cI (List.length l))]))) h a [] (aJX (bZ r) h 14 F)/\eS (lU h 249 14 a [])) (aY (nY 212 (eQ l) r [rD (aE o.opac),rD (aE most)] (lG q)) (cQ (eS true) (True/\True/\True/\List.length F<=maxLen/\True/\mO (dT g) g/\True/\eS true/\True/\True/\True/\True/\qZ (dW a m/\True) (aM (a[b]?=qR a b/\True) (True/\True/\(a[f]?=qR a f/\True)/\aDM 214 n [rD (aB o.oper),rD (aB o.mode),rD (aE most),rD q,rD (aHW a b),rD (aHW a f)] (lG p)/\True/\True/\True/\True/\True/\jB (d+12+1) a/\eS true/\aW (True/\True) (xD s most e F c) (List.set a b p=frs c)/\zZd (aJX (AV.tup []) (aER s.bits s.c.a s.c.b s.c.c s.c.d s.tw s.th (cD (kO s)::aX (kP s) (iM s) (aX (aE most) (aHB e) [Cl.ref 1 (List.length c)]))) 14 c)))))))) λhwf hbx=>by
  delta eS aB aR aE aT aF aH bZ aM aY bU cQ nY aX gL mR jK aER aBK pV lZ cI aW mO jB fV pR bL qR dW dT lG qZ lU cL gN aDM eO aHB kO iM kP aDZ eQ aNC aJX aEM xD aBJ aMA aHW aMB aKB;simp only [sS];clear hwf hbx;have hM:=ug
  have wF:wrap .i64 ((F.length:Int)-1)=(F.length:Int)-1:=wQb _ ⟨by omega,by omega⟩;have nF:((F.length:Int)-1).toNat=F.length-1:=by omega
  have kF:F.length-1<F.length:=by omega
  have tF:F[F.length-1]=topF F:=by unfold topF; rw [List.getElem?_eq_getElem kF]; rfl
  have r:=jJy kF;have q:=jJA kF;rw [tF] at r q;simp only [Nat.add_zero] at r q;rw [zQS,zZO,jUM];simp only [zZO,wF,nF,Nat.add_assoc,Nat.add_zero,Nat.zero_add,Nat.reduceAdd];obtain ⟨p0,p1,p2,p3,p4,p5,p6,p7,p8,p9,p10,p11,p12,p13⟩:=q;obtain ⟨s0,s1,s2,s3,s4,s5,s6,s7,s8,s9,s10,s11,s12,s13⟩:=r;rw [p11,p12.1,p12.2,p13.1,p13.2,zUl,zZO];have M:=zKV s most e F o x y l.length hu hI hxy hmk ⟨by omega,by omega⟩;have Q:=yQt s.ims o x y l.length;refine ⟨M,jZi l (maR s.ims o x y l.length) o.opac most hl Q hok1,hM _ (by omega),⟨by omega,by omega⟩,s11,s12,s13,jXp (topF F).op.kno o.oper o.mode most (scR most o.opac l (maR s.ims o x y l.length)) (topF F).acc (topF F).back (by rw [zKc]; exact hl) (by rw [zKc]; exact ha) (by rw [zKc]; exact hb) ho hmo (by rw [zKc]; exact hok2),by rw [zGH]; omega,⟨?_,?_⟩,trivial⟩
  ·unfold zKD; rw [wQ7]
  ·rw [jHh kF,tF]; rfl
def tC (a:List Fr) (b:Nat):Prop:=bN (frs a) b
theorem zKT (s:Scr) (most:Int) (e:List Int) (F:List Fr) (o:Oq) (hF:1<=F.length/\F.length<=66) (ha:(topF F).acc.length<=100000) (hb:(topF F).back.length=(topF F).acc.length):AnsG prog 160 1 [aPz,AV.agg (oC o)] [bC (vz s most e 1 F.length),bR 249 14 (frs F)] ⟨AV.tup [],[bC (vz s most e 1 (((zUx F o)).length)),bR 249 14 (frs (zUx F o))],false⟩:=
 wd jUW (let f:=(topF F).acc;let j:=List.length f;let a:=frs F;let g:=aMB F 14;let h:=lAt a (gO g);let i:=List.length F;let b:=dT i;let c:=dT i;pX (um (λl=>aEN l f) (λd=>lY (aEH 0 3 4 5 (rQ 31 (aDZ h) 32 d)) 0 (rW s most e 1 F) 3 (uT o) (pK 4 (aCC (tA a i 14) (iE a c 14) (mF a c 14) (jC a c 14) (jZ a c 14) (nQ a b 14) (qF a b 14) (fD a (cB (bG g)+1)) (aB (cE (frs F) (gT c 14))) (aB (cE (frs F) (lN b 14))) (aX (DV.bool (bAt a (iK b 14))) (DV.bool (bAt a (iL b 14))) (aX (aHW a (gO g)) (aHW a (iY g)) []))) 5 (aBK o (aKC 23 h (aKC 27 h []))) (aND 1 249 14 a 23 199 6 (acs (rngK j d (jWh (topF F) o) Ac.zero)) (pQ 27 37 5 (pxs (rngK j d (jWg (topF F) o) Px.zero)))))) (λk=>List.length f-k) (λm=>aL))) Tryz.func160 (let x:=jWg (topF F) o;let r:=(topF F).acc;let h:=List.length r;let l:=aMB F 14;let t:=gO l;let b:=frs F;let m:=lAt b t;let f:=aDZ m;let z:=jWh (topF F) o;let u:=List.length F;let v:=iY l;let n:=frs F;let g:=cAt n v;let c:=cAt n t;let p:=List.length F;let d:=dT p;let B:=bAt b (iL d 14);let O:=eS f;let P:=pR o.kind (lZ o.image (aB o.x) (eS (aB o.y)) (eS (aB o.mask)) (lZ o.mx (aB o.my) (eS (aE o.opac)) (eS (aB o.oper)) (lZ o.mode (DV.bool o.iso) (eS (DV.bool o.kno)) O (O/\True))));let Q:=lAt b v;let R:=iK d 14;let S:=lN d 14;let j:=dT p;let T:=gT j 14;let U:=eF (tA b p 14) (iE b j 14) (mF b j 14) (jC b j 14) (jZ b j 14) (nQ b d 14) (qF b d 14) (eV (cE n l) (cE n T) (cE n S) (bAt b R) B (DV.sl m c::uP Q g));let V:=aEM s most e (eS p);let W:=cI f;let X:=List.length r;let Z:=(m:Int);True/\True/\True/\True/\fZ (dR u maxLen (dY (mO j p) (jW b (dT u) 14/\oF b d 14/\bV (uZ b d 14) (tC F l) (tC F T) (tC F S) (tC F (lQ d 14)) (cM b (iJ d 14)) (tC F (iJ d 14)) (tC F (mS d 14)) (aF (dW b R) (rK b l) (b[t]?=qR b t) (b[v]?=qR b v))) (True/\iB (True/\gI (pM Z 12) (aM (pM Z 10) (aM (eS true) (True/\f<=maxLen/\True/\(∃ q:Nat,dR q X (eW (bW (bW (iR W (dF q)))) V (eS (Oq.cells o)) U (aF P (eS b) (repl f zV=acs (rngK h q z Ac.zero)) (repl f dV=pxs (rngK h q x Px.zero)))))/\(∀ a:Nat,let y:=pxs (rngK h a x Px.zero);let A:=acs (rngK h a z Ac.zero);let C:=aLG o (DV.sl f A::uP f y);let D:=tL c a 6;let E:=kW c a 6;let G:=fY c a 6;let H:=gU c a 6;let I:=fX c a 6;let J:=cY c a 6;let K:=zQM o.iso B ⟨J,I,H,G,E,D⟩ (aKD g a 5);let L:=K.snd;let M:=dH K.fst;let Y:=aEA a m;let w:=aV a 6;yW (aEN a r) (dP a f->kJ (cR (cX a m 6 c) (cF (bY c w) (bY c (w+1)) (cM c w) (cM c (iP a 6)) (mT c w) (cM c (pW a 6))) (True/\cX a Q 5 g/\uM g a/\aDM 181 o.iso (rD (DV.bool B)::yI (eX J I H G E D) (bQ (cY g a 5) (fX g a 5) (gU g a 5) (fY g a 5) (kW g a 5))) (tR M (aI L))/\True/\True/\True/\Y/\jB (aV a 6+6) A/\Y/\cR (jB (aV a 5+5) y) (eS true) (∃ k:Nat,aEN k r/\dM X k a/\eW (bW (bW (iR W (bS a k)))) V (eS (Oq.cells o)) U (aF P (eS b) (sets A (aV a 6) M=acs (rngK h k z Ac.zero)) (sets y (aV a 5) (aI L)=pxs (rngK h k x Px.zero))))))) a f (jO (zXe 14 136 u 1 b C) (qV (aW (True/\True) (aEM s most e (u+1=List.length (zUx F o))) (b++C=frs (zUx F o))) (zZd (tB (AV.tup []) s most e 1 (zUx F o) []))))))))))))) λhwf hbx=>by
  delta eS aB aR dY jW aE aT aF fD aH bQ aM bU fT uP aX gL jK pV aN lZ eF eV bW cR aLG cI aW mO aV jB bS bP fV iP uX dF iB pM aI bV gI zN bN pR cX cY dP iQ dV fX fY gT iE gU jC jZ oF mF kW uZ fZ kL cE cB bG iR qR dR eW dW dM dT pW tL qV kJ eX dH yB tR zV jO bY cF cM fS rK gO lN lQ mS iJ iY iL iK nQ qF yI aDM mT aHB kO iM kP aDZ tA aEA yW uM aJW aNC aJX aEM tB aMB aEN tC aKD;simp only [sS];clear hwf hbx;have hM:=ug
  have wF:wrap .i64 ((F.length:Int)-1)=(F.length:Int)-1:=wQb _ ⟨by omega,by omega⟩;have nF:((F.length:Int)-1).toNat=F.length-1:=by omega
  have kF:F.length-1<F.length:=by omega
  have tF:F[F.length-1]=topF F:=by unfold topF; rw [List.getElem?_eq_getElem kF]; rfl
  have r:=jJy kF;have q:=jJA kF;rw [tF] at r q;simp only [Nat.add_zero] at r q;simp only [wF,nF,Nat.add_assoc,Nat.add_zero,Nat.zero_add,Nat.reduceAdd];obtain ⟨p0,p1,p2,p3,p4,p5,p6,p7,p8,p9,p10,p11,p12,p13⟩:=q;obtain ⟨s0,s1,s2,s3,s4,s5,s6,s7,s8,s9,s10,s11,s12,s13⟩:=r;simp only [p0,p1,p2,p3,p4,p5,p6,p7,p8,p9,p10,p11,p12.1,p12.2,p13.1,p13.2,s0,s1,s2,s3,s4,s5,s6,s7,s8,s9,s10,s11,s12,s13,true_and,and_true];clear p0 p1 p2 p3 p4 p5 p6 p7 p8 p9 p10 p11 p12 p13 s0 s1 s2 s3 s4 s5 s6 s7 s8 s9 s10 s11 s12 s13;have hP:zUx F o=F++[⟨o,rng (topF F).acc.length (jWh (topF F) o),rng (topF F).acc.length (jWg (topF F) o)⟩]:=rfl;have hL:(zUx F o).length=F.length+1:=by rw [hP,wQh]; rfl
  generalize topF F=t at *;have za:repl t.acc.length [DV.int .u16 0,DV.int .u16 0,DV.int .u16 0,DV.int .u16 0,DV.int .u16 0,DV.int .u16 0]=acs (rngK t.acc.length 0 (jWh t o) .zero):=by
   rw [jYG]; unfold repl acs;rw [wXi,wXj]; rfl
  have zb:repl t.acc.length [DV.int .u16 0,DV.int .u16 0,DV.int .u16 0,DV.int .u16 0,DV.int .u16 0]=pxs (rngK t.acc.length 0 (jWg t o) .zero):=by
   rw [jYG]; unfold repl pxs;rw [wXi,wXj]; rfl
  refine ⟨hM _ (by omega),⟨by omega,by omega⟩,⟨by omega,Int.le_refl _,by have:=hM _ ha; omega,by omega⟩,⟨by omega,Int.le_refl _,by have:=hM _ ha; omega,by omega⟩,hM _ ha,⟨0,wQi _,⟨rfl,za,zb⟩⟩,λk hk=>⟨λhlt=>?_,λhge=>?_⟩⟩
  ·have k1:k<t.acc.length:=by omega
   have k2:k<t.back.length:=by omega
   obtain ⟨a0,a1,a2,a3,a4,a5⟩:=jQ8 k1;obtain ⟨c0,c1,c2,c3,c4⟩:=zQU k2;have ra:=jQ7 k1;have rb:=zKz k2;simp only [Nat.add_zero] at a0 ra;have hA:=jXj k1;have hB:=zJJ k2;simp only [a0,a1,a2,a3,a4,a5,c0,c1,c2,c3,c4,Nat.add_assoc,Nat.reduceAdd] at ra rb |-;rw [<- hA] at ra |-;rw [<- hB] at rb |-;have hw:wrap .i64 ((k:Int)+1)=((k+1:Nat):Int):=by rw [wQb _ ⟨by omega,by omega⟩]; omega
   refine ⟨⟨by omega,by omega,by rw [zYr]; omega⟩,ra,⟨by omega,by omega,by rw [zQw]; omega⟩,rb,zVS o.iso t.op.kno (acN t.acc k) (pxN t.back k),⟨by omega,by omega⟩,by rw [zYr,zHt]; omega,⟨by omega,by omega⟩,by rw [zQw,zHt]; omega,k+1,by omega,by omega,hw,?_,?_⟩
   ·have:=jHD (l:=rngK t.acc.length k (jWh t o) .zero) (k:=k) (by rw [zHt]; omega) (jWh t o k);rw [jVl] at this;exact this
   ·have:=jVq (l:=rngK t.acc.length k (jWg t o) .zero) (k:=k) (by rw [zHt]; omega) (jWg t o k);rw [jVl] at this;exact this
  ·have e:k=t.acc.length:=by omega
   subst e;rw [jYH _ _ (Nat.le_refl _),jYH _ _ (Nat.le_refl _)];refine ⟨⟨by rw [zGH],rfl,hM _ (by omega),by omega⟩,⟨hL.symm,?_⟩,trivial⟩;rw [hP,<- jWz];unfold frs Fr.cells;simp only [wZa,List.flatMap_nil,wQ1,zXs];rfl
end
def popF (s:Scr) (m x y:Int) (F:List Fr):List Fr:=
 zKD m F.dropLast (topF F).op (rsR m (topF F).acc (topF F).back) (maR s.ims (topF F).op x y (rsR m (topF F).acc (topF F).back).length)
def yQR (s:Scr) (m x y n:Int) (F:List Fr) (o:Oq):List Fr:=
 zKD m F o (pixR s.ims o.image (x-o.x) (y-o.y) n.toNat) (maR s.ims o x y (pixR s.ims o.image (x-o.x) (y-o.y) n.toNat).length)
def jZj (s:Scr) (m:Int) (e:List Int) (act:List Bool) (x y n:Int) (q:Nat × List Fr) (o:Oq):Nat × List Fr:=
 if o.kind=3 then (q.1+1,popF s m x y q.2)
 else if (act[q.1]?).getD false=false then (((e[q.1]?).getD 0).toNat+1,q.2)
 else if o.kind=2 then (q.1+1,zUx q.2 o)
 else (q.1+1,yQR s m x y n q.2 o)
def zGk (s:Scr) (m:Int) (e:List Int) (act:List Bool) (x y n:Int) (q:Nat × List Fr):Nat × List Fr:=
 match s.ops[q.1]? with
 | none=>q
 | some o=>jZj s m e act x y n q o
def zXr (s:Scr) (m:Int) (e:List Int) (act:List Bool) (x y n:Int):Nat->Nat × List Fr
 | 0=>(0,[zG3 n.toNat])
 | k+1=>zGk s m e act x y n (zXr s m e act x y n k)
def zJc (s:Scr) (m:Int) (e:List Int) (act:List Bool) (x y n:Int):List Fr:=(zXr s m e act x y n s.ops.length).2
def frN (F:List Fr) (k:Nat):Fr:=(F[k]?).getD (zG3 0)
def zJb (s:Scr) (m:Int) (e:List Int) (act:List Bool) (x y n:Int):List Px:=
 rsR m (frN (zJc s m e act x y n) 0).acc (frN (zJc s m e act x y n) 0).back
structure zGL (s:Scr) (m:Int) (F:List Fr) (o:Oq) (l:List Px) (x y:Int):Prop where
  len:1<=F.length/\F.length<=66
  mask:(0<=o.mask/\o.mask<=s.ims.length)/\(-1073741824<=o.mx/\o.mx<=1073741824) /\ -1073741824<=o.my/\o.my<=1073741824
  src:l.length<=100000
  oper:isNm o.oper=true
  mode:isNm o.mode=true
  acc:(topF F).acc.length=l.length
  back:(topF F).back.length=l.length
  ok1:∀ j,j<l.length->(zXM (pxN l j) (ksN (maR s.ims o x y l.length) m j) o.opac m).2=true
  ok2:∀ j,j<l.length->zZn (topF F).op.kno o.oper o.mode m (pxN (scR m o.opac l (maR s.ims o x y l.length)) j) (acN (topF F).acc j) (pxN (topF F).back j)=true
def FrOk (m:Int) (t:Fr):Prop:=t.acc.length<=100000/\t.back.length=t.acc.length/\∀ j,j<t.acc.length->(acN t.acc j).ok (pxN t.back j) m=true
structure jGu (s:Scr) (m:Int) (e:List Int) (act:List Bool) (x y n:Int) (q:Nat × List Fr) (o:Oq):Prop where
  len:1<=q.2.length/\q.2.length<=65
  fr:FrOk m (topF q.2)
  pop:o.kind=3->2<=q.2.length/\zGL s m q.2.dropLast (topF q.2).op (rsR m (topF q.2).acc (topF q.2).back) x y
  inA:o.kind≠3->q.1<act.length
  skip:o.kind≠3->act[q.1]?=some false->∃ v:Nat,e[q.1]?=some (v:Int)/\q.1<=v/\v<s.ops.length
  draw:o.kind≠3->o.kind≠2->act[q.1]?=some true->zGL s m q.2 o (pixR s.ims o.image (x-o.x) (y-o.y) n.toNat) x y/\(0<=o.image/\o.image<s.ims.length)/\(-1073741824<=o.x/\o.x<=1073741824) /\ -1073741824<=o.y/\o.y<=1073741824
structure jZc (s:Scr) (m:Int) (e:List Int) (act:List Bool) (x y n:Int):Prop where
  step:∀ k o,s.ops[(zXr s m e act x y n k).1]?=some o->jGu s m e act x y n (zXr s m e act x y n k) o
  last:1<=(zJc s m e act x y n).length/\(zJc s m e act x y n).length<=65/\FrOk m (frN (zJc s m e act x y n) 0)
  wide:(frN (zJc s m e act x y n) 0).acc.length=n.toNat
variable {n:Int} {q:Nat × List Fr} {e:List Int}
theorem zGj {act:List Bool} (h:q.1<s.ops.length):zGk s m e act x y n q=jZj s m e act x y n q s.ops[q.1]:=by
 unfold zGk; rw [List.getElem?_eq_getElem h]
theorem zHY {act:List Bool} (h:s.ops.length<=q.1):zGk s m e act x y n q=q:=by
 unfold zGk; rw [wQM h]
theorem zWb (s:Scr) (m:Int) (e:List Int) (act:List Bool) (x y n:Int) (k:Nat):zXr s m e act x y n (k+1)=zGk s m e act x y n (zXr s m e act x y n k):=rfl
theorem jVj {act:List Bool} (h:jGu s m e act x y n q o):q.1<(jZj s m e act x y n q o).1:=by
 unfold jZj;split
 ·exact Nat.lt_succ_self _
 ·next h3=>
  split
  ·next h2=>
   have hl:=h.inA h3;have ha:act[q.1]?=some false:=by
    rw [List.getElem?_eq_getElem hl] at h2 |-;exact congrArg some h2
   obtain ⟨v,hv,h1,_⟩:=h.skip h3 ha;rw [hv]
   show q.1<((v:Int).toNat+1)
   omega
  ·split<;>exact Nat.lt_succ_self _
theorem zWc {s:Scr} {m:Int} {e:List Int} {act:List Bool} {x y n:Int} {k:Nat} (h:s.ops.length<=(zXr s m e act x y n k).1):∀ j,zXr s m e act x y n (k+j)=zXr s m e act x y n k
 | 0=>rfl
 | j+1=>by
  rw [<- Nat.add_assoc,zWb,zWc h j,zHY h]
theorem jXv {s:Scr} {m:Int} {e:List Int} {act:List Bool} {x y n:Int} (g:∀ k o,s.ops[(zXr s m e act x y n k).1]?=some o->jGu s m e act x y n (zXr s m e act x y n k) o):∀ k,min k s.ops.length<=(zXr s m e act x y n k).1
 | 0=>by omega
 | k+1=>by
  have ih:=jXv g k
  rcases wQp (zXr s m e act x y n k).1 s.ops.length with h | h
  ·have:=jVj (g k _ (List.getElem?_eq_getElem h));rw [zWb,zGj h]; omega
  ·have:=zWc (s:=s) (k:=k) h 1;rw [this]; omega
theorem jUf {act:List Bool} (g:jZc s m e act x y n) (h:s.ops.length<=(zXr s m e act x y n k).1):(zXr s m e act x y n k).2=zJc s m e act x y n:=by
 unfold zJc;have hl:s.ops.length<=(zXr s m e act x y n s.ops.length).1:=by have:=jXv g.step s.ops.length; omega
 rcases Nat.le_total k s.ops.length with hk | hk
 ·obtain ⟨j,ej⟩:=Nat.le.dest hk;rw [<- ej,zWc h j]
 ·obtain ⟨j,ej⟩:=Nat.le.dest hk;rw [<- ej,zWc hl j]
theorem jHg (l:List Fr) (k:Nat):(frs l).take (k*14)=frs (l.take k):=by
 induction l generalizing k with
 | nil=>simp [frs]
 | cons q l ih=>
  have e0:∀ t,frs (q::t)=q.cells++frs t:=λt=>by simp [frs]
  have ec:q.cells.length=14:=rfl
  cases k with
  | zero=>simp [frs]
  | succ k=>
   rw [e0,wXU,ec,wQW (by omega),show (k+1)*14-14=k*14 by omega,ih,wYg,e0]
theorem jJz (l:List Fr):(frs l).take ((l.length-1)*14)=frs l.dropLast:=by
 rw [jHg,wZU]
def toBs (xs:List DV):List Bool:=(List.range xs.length).map (bAt xs)
theorem jH3 (l:List Bool):toBs (bs l)=l:=by
 unfold toBs;rw [jQ0];refine wQT (by simp) λi h1 h2=>?_;simp only [List.getElem_map,wQ4];exact jGg (List.getElem?_eq_getElem h2)
section
attribute [local irreducible] Ans AnsO AnsG AnsN AnsI
def vu (l:List DV):Scr:=⟨nAt l 0,⟨nAt l 1,nAt l 2,nAt l 3,nAt l 4⟩,nAt l 5,nAt l 6,ints (cAt l 7),zQF (cAt l 8),zQo (cAt l 9)⟩
def yZt:Gam:=jUW.add [.p 158 (λv=>let a:=(rsR (nAt (uq v) 2) (jYw (cAt (uq v) 0)) (zQk (cAt (uq v) 1)));some (RV.tup [RV.d (dS a.length (pxs a)),RV.d (dQ true)])),
 .q 82 ([false,true,true,true,true],1,1) (λv b=>let c:=uy (uw b 0);let g:=toBs (cAt (ut v) 4);let h:=nAt c 10;let i:=cAt c 11;let j:=nAt (ut v) 3;let k:=nAt (ut v) 2;let l:=nAt (ut v) 1;let e:=zJc (vu c) h (ints i) g l k j;let f:=zJb (vu c) h (ints i) g l k j;some ⟨AV.one (Cl.d (dS f.length (pxs f))),[bC [cJ (nAt c 0),cJ (nAt c 1),cJ (nAt c 2),cJ (nAt c 3),cJ (nAt c 4),cJ (nAt c 5),cJ (nAt c 6),Cl.d (dS (lAt c 7) (cAt c 7)),Cl.d (dS (lAt c 8) (cAt c 8)),Cl.d (dS (lAt c 9) (cAt c 9)),cK h,Cl.d (dS (lAt c 11) i),Cl.ref 1 e.length],Bx.row 249 14 (frs e)],false⟩)]
def aLM (a:List Bool):DV:=DV.sl (List.length a) (bs a)
def jJ (a:Scr):List DV:=ops a.ops
def lW (a:List Oq) (b:Nat):Prop:=bN (ops a) b
def aAS (a:Scr):Nat:=List.length a.ops
def pF (a:Scr) (b:Nat):Int:=cE (jJ a) b
def uL (a:Scr) (b c:Nat):Prop:=oK a.ops b<oK a.ops c
def aJE (a b c:Prop) (d:Scr) (e f g h:Nat) (i:Prop) (j k:Nat) (l:Prop):Prop:=bV a b c (lW d.ops e) (lW d.ops f) (lW d.ops g) (lW d.ops h) i (aF (lW d.ops j) (lW d.ops k) l (rK (jJ d) e))
theorem zVq (s:Scr) (most:Int) (e:List Int) (F:List Fr) (x y n:Int) (act:List Bool) (hu:∀ m∈s.ims,m.isU) (hI:s.ims.length<=1000000) (hG:jZc s most e act x y n) (hn:0<=n/\n<=100000) (hxy:(-536870912<=x/\x<=536870912) /\ -536870912<=y/\y<=536870912) (hM:s.ops.length<=1000000):AnsG prog 82 1 [aPz,aJ ((x)),aJ ((y)),aJ ((n)),aO (cD (dS act.length (bs act)))] [bC (vz s most e 1 F.length),bR 249 14 (frs F)] ⟨aO (cD (dS ((zJb s most e act x y n).length) (pxs (zJb s most e act x y n)))),[bC (vz s most e 1 (((zJc s most e act x y n)).length)),bR 249 14 (frs (zJc s most e act x y n))],false⟩:=
 wd yZt (jL (um (λf=>True) (λc=>let a:=zXr s most e act x y n c;aNT 0 0 (nZ 1 x (zL 2 y 3 n (gH 4 (aLM act) 11 (cI a.fst) []))) 0 (rW s most e 1 a.snd) (pQ 1 249 14 (frs a.snd))) (λb=>oK s.ops (zXr s most e act x y n b).fst) (λd=>aL))) Tryz.func82 (let K:=zJc s most e act x y n;let Y:=zJb s most e act x y n;let o:=eS true;let O:=Int.toNat n;let c:=jJ s;let P:=zQF (eO s);let p:=eS (aLM act);let q:=aB n;let r:=aB y;let t:=aB x;let w4:=eF 2 0 0 0 0 0 0 (eV 0 0 0 true false (DV.sl (Int.toNat n) (repl O zV)::uP (Int.toNat n) (repl O dV)));let w5:=pN 0 14 (frs F);fZ (aY ((0:Int)<=0/\0<=(List.length F:Int)) (jH (pM n 12) (pM n 10) True (aY (zXe 14 136 (Int.toNat 0) 1 w5 w4) (True/\o/\True/\(∃ v1:Nat,let X:=zXr s most e act x y n v1;aF True (qQ t (fV r q p (dF X.fst))) (aEM s most e (Int.toNat 0+1=List.length X.snd)) (w5++w4=frs X.snd))/\(∀ v0:Nat,let m:=zXr s most e act x y n v0;let a:=frs m.snd;let f:=m.snd;let g:=frs f;let L:=cAt g 13;let M:=cAt g 12;let Z:=eQ (rsR most (jYw M) (zQk L));let z0:=lAt a 13;let z1:=lAt a 12;let u:=List.length f;let z2:=jX u;let b:=m.fst;let w:=fY c b 12;let z:=gU c b 12;let A:=fX c b 12;let B:=pixR P A (bU x z) (bU y w) O;let z3:=aV b 12;let z4:=fS z3;let z5:=rP b 12;let z6:=cB z3;let z7:=pF s z6;let z8:=iP b 12;let z9:=pF s z8;let Q:=aV b 12;let y0:=zO c b 12;let y1:=tL c b 12;let y2:=kW c b 12;let j:=cY c b 12;let R:=(⟨j,A,z,w,y2,y1,y0,pF s Q,z9,z7,bAt (jJ s) z5,bAt (jJ s) z4⟩:Oq);let y3:=zHb a;let S:=zKD most y3 R (zQk (pxs B)) (maR P R x y (List.length B));let C:=m.fst;let T:=rW s most e 1 f;let y4:=jK j A z w (gL y2 y1 (aB y0) (fD c (cB (bG Q)+1)) (gL z9 z7 (DV.bool (bAt c z5)) (DV.bool (bAt c z4)) []));let h:=m.snd;let U:=zUx y3 R;let y5:=aV b 1;let y6:=bAt (bs act) y5;let k:=aMB f 14;let H:=iY k;let I:=gO k;let V:=rsR most (jYw (cAt g I)) (zQk (cAt g H));let J:=List.length f;let d:=dT J;let y7:=iK d 14;let y8:=lN d 14;let y9:=cE g y8;let l:=dT J;let x0:=gT l 14;let x1:=cE g x0;let x2:=qF a d 14;let x3:=nQ a d 14;let x4:=jZ a l 14;let x5:=jC a l 14;let x6:=mF a l 14;let x7:=iE a l 14;let x8:=tA a J 14;let x9:=(⟨x8,x7,x6,x5,x4,x3,x2,cE g k,x1,y9,bAt a y7,bAt a (iL d 14)⟩:Oq);let w0:=dT u;let w1:=pN w0 14 a;let W:=zKD most (zHb w1) x9 (zQk (pxs V)) (maR P x9 x y (List.length V));let w2:=eQ V;let w3:=u<=maxLen;lM (nE (eG (dP b (aAS s)) (True/\True/\True/\cX b (aAS s) 12 c/\aN (aJE (fW c b 12) (mH c b 12) (pT c b 12) s Q z8 z6 (pW b 12) (cM c (nI b 12)) (nI b 12) (xN b 12) (dW c (rP b 12))) (True/\True/\True/\((j==3)=true->True/\bL (True/\jH w3 (mO l J) (jW a w0 14/\oF a d 14/\bV (uZ a d 14) (tC h k) (tC h x0) (tC h y8) (tC h (lQ d 14)) (cM a (iJ d 14)) (tC h (iJ d 14)) (tC h (mS d 14)) (aF (dW a y7) (rK a k) (a[I]?=qR a I) (a[H]?=qR a H))) (aM o (aH (jH w3 (aCG u) True (cQ o (bH (Ans prog 158 [rD (aHW a I),rD (aHW a H),rD (aE most)] (lG w2)) (dL o (aN (aBJ 159 1 0 (cL (jK x8 x7 x6 x5 (gL x4 x3 (aB x2) (fD a (cB (bG k)+1)) (gL x1 y9 (DV.bool (bAt a (iK d 14))) (DV.bool (bAt a (iL d 14))) []))) (bZ w2::gN x (gN y []))) (aJW s s.c.a s.c.b s.c.c s.c.d most e [Cl.ref 1 (Int.toNat d)]) w1 [] (tB (AV.tup []) s most e 1 W [])) (∃ w9:Nat,let G:=zXr s most e act x y n w9;xL (uL s G.fst C) (qQ t (fV r q p (bS b G.fst))) (xD s most e W G.snd) (frs W=frs G.snd)))))))))))/\cS (j==3) (cX b (List.length act) 1 (bs act)) (yD (dW (bs act) y5/\True) y6 (True/\True/\aAZ (cX b (List.length e) 1 (is e)) (fW (is e) b 1) (True/\True/\True/\True/\(∃ w8:Nat,let E:=zXr s most e act x y n w8;xL (uL s E.fst C) (qQ t (fV r q p (aB (aT (cY (is e) b 1+1))=cI E.fst))) (xD s most e f E.snd) (a=frs E.snd)))) (gW y6 (mL j 2 (aN (aBJ 160 1 0 (cL y4 []) T a [] (tB (AV.tup []) s most e 1 U [])) (∃ w7:Nat,let D:=zXr s most e act x y n w7;xL (uL s D.fst C) (qQ t (fV r q p (bS b D.fst))) (xD s most e U D.snd) (frs U=frs D.snd))) (dO (j==2) (sL ((aBJ 161 2 0 (gN A (bZ (dZ x z)::bZ (dZ y w)::gN n [])) T a [] (tB (bZ (eQ B)) s most e 1 f [])/\eS (lU (rW s most e 1 h) 249 14 a []))/\True/\True/\aBJ 159 1 0 (cL y4 (bZ (eQ B)::gN x (gN y []))) T a [] (tB (AV.tup []) s most e 1 S [])/\iB (∃ w6:Nat,let v:=zXr s most e act x y n w6;xL (uL s v.fst C) (qQ t (fV r q p (bS b v.fst))) (xD s most e S v.snd) (frs S=frs v.snd))))))))))) (iQ b (aAS s)->True/\True/\True/\True/\jH z2 (a[(12:Nat)]?=some (DV.sl z1 M)/\True) True (True/\True/\True/\z2/\aY (a[(13:Nat)]?=some (DV.sl z0 L)/\True) (cQ (Ans prog 158 [rD (DV.sl z1 M),rD (DV.sl z0 L),rD (aE most)] (lG Z)) (o/\True/\True/\aW (rX (Z=eQ Y)) (xD s most e f K) (a=frs K)/\zZd (tB (bZ (eQ Y)) s most e 1 K [])))))))))))) λhwf hbx=>by
  delta eS aB aR bI jW aE aT aF fD aH bQ bZ aM aY oE bU cQ dZ jX uP aX gL jK pV aN lZ eF eV dL dO nE cI aW mO aV bS fV iP dF pN iB pM bV zN bN cS bH pR cX cY dP iQ eG dV fX fY fW gT iE gU jC jZ oF mF kW mH uZ pT fZ oK kL cE cB bG bL qR dW dT pW qQ aCG tL xL xN nI zO gW lG mL eX yB zV sL yX yD bY lM rX jH cM lU cL gN fS rK gO lN lQ mS iJ iY iL iK nQ qF eO aHB kO iM kP jJ lW aAS pF uL rP aJE aAZ aLM tA eQ aJW rW aNC aJX aEM xD tB aBJ aHW aMB tC;simp only [sS];clear hwf hbx;have hM2:∀ n:Nat,n<=100000->n<=maxLen:=λn h=>by unfold maxLen; omega
  have en:(n.toNat:Int)=n:=by omega
  have za:repl n.toNat [DV.int .u16 0,DV.int .u16 0,DV.int .u16 0,DV.int .u16 0,DV.int .u16 0,DV.int .u16 0]=acs (List.replicate n.toNat .zero):=by
   unfold repl acs;rw [wXi,wXj]; rfl
  have zb:repl n.toNat [DV.int .u16 0,DV.int .u16 0,DV.int .u16 0,DV.int .u16 0,DV.int .u16 0]=pxs (List.replicate n.toNat .zero):=by
   unfold repl pxs;rw [wXi,wXj]; rfl
  have hmx:=hM2 n.toNat (by omega);refine ⟨⟨by omega,by omega⟩,⟨hn.1,Int.le_refl _,by omega,by omega⟩,⟨hn.1,Int.le_refl _,by omega,by omega⟩,⟨rfl,rfl,hM2 _ (by decide),by decide⟩,⟨0,rfl,rfl,?_⟩,λk=>⟨λhlt=>?_,λhge=>?_⟩⟩
  ·rw [za,zb]
   show _=frs [zG3 n.toNat]
   unfold frs Fr.cells zG3;simp only [wZa,List.flatMap_nil,wQ1,wXx];rfl
  ·have h:(zXr s most e act x y n k).1<s.ops.length:=by omega
   have G:=hG.step k _ (List.getElem?_eq_getElem h);have su:=(zWb s most e act x y n k).trans (zGj h);have up:=jVj G;have eu:=congrArg Prod.fst su;rw [<- eu] at up;clear eu;have fu:=congrArg Prod.snd su;obtain ⟨GL,GF,GP,GA,GS,GD⟩:=G;generalize hq:zXr s most e act x y n k=q at *;have r:=zVi h;have a:=zVj h;have hon:s.ops[q.1]?=some s.ops[q.1]:=List.getElem?_eq_getElem h;generalize s.ops[q.1]=o at *;simp only [Nat.add_assoc,Nat.reduceAdd] at r a;obtain ⟨a0,a1,a2,a3,a4,a5,a6,a7,a8,a9,a10,a11⟩:=a;obtain ⟨r0,r1,r2,r3,r4,r5,r6,r7,r8,r9,r10,r11⟩:=r;simp only [Nat.add_assoc,Nat.reduceAdd,a0,a1,a2,a3,a4,a5,a6,a7,a8,a9,a10,a11,r0,r1,r2,r3,r4,r5,r6,r7,r8,r9,r10,r11,true_and,and_true,and_self];clear a0 a1 a2 a3 a4 a5 a6 a7 a8 a9 a10 a11 r0 r1 r2 r3 r4 r5 r6 r7 r8 r9 r10 r11;have kF:q.2.length-1<q.2.length:=by omega
   have wF:wrap .i64 ((q.2.length:Int)-1)=(q.2.length:Int)-1:=wQb _ ⟨by omega,by omega⟩;have nF:((q.2.length:Int)-1).toNat=q.2.length-1:=by omega
   have tF:q.2[q.2.length-1]=topF q.2:=by unfold topF; rw [List.getElem?_eq_getElem kF]; rfl
   have r:=jJy kF;have a:=jJA kF;rw [tF] at r a;simp only [Nat.add_zero] at r a;obtain ⟨a0,a1,a2,a3,a4,a5,a6,a7,a8,a9,a10,a11,a12,a13⟩:=a;obtain ⟨r0,r1,r2,r3,r4,r5,r6,r7,r8,r9,r10,r11,r12,r13⟩:=r;simp only [wF,nF,Nat.add_assoc,Nat.reduceAdd,a0,a1,a2,a3,a4,a5,a6,a7,a8,a9,a10,a11,a12.1,a12.2,a13.1,a13.2,r0,r1,r2,r3,r4,r5,r6,r7,r8,r9,r10,r11,r12,r13,true_and,and_true,and_self];clear a0 a1 a2 a3 a4 a5 a6 a7 a8 a9 a10 a11 a12 a13 r0 r1 r2 r3 r4 r5 r6 r7 r8 r9 r10 r11 r12 r13;have hm:=hM2 q.2.length (by omega);have h2:2<=q.2.length->q.2.length-1=q.2.dropLast.length:=λ_=>wZV.symm;have go:∀ {i:Int} {F:List Fr},(zXr s most e act x y n (k+1))=(i.toNat,F)->0<=i->∃ k',s.ops.length-(zXr s most e act x y n k').1<s.ops.length-q.1/\i=((zXr s most e act x y n k').1:Int)/\F.length=(zXr s most e act x y n k').2.length/\frs F=frs (zXr s most e act x y n k').2:=λhi h0=>⟨k+1,by omega,by rw [hi]; show _=(_:Int); omega,by rw [hi],by rw [hi]⟩
   have w1:wrap .i64 ((q.1:Int)+1)=(q.1:Int)+1:=wQb _ ⟨by omega,by omega⟩;have n1:((q.1:Int)+1).toNat=q.1+1:=by omega
   have pk:∀ {F:List Fr} {o:Oq} {l:List Px},zGL s most F o l x y->AnsG prog 159 1 _ _ _:=λ{F o l} h=>zKw s most e F o l x y h.len hu hI ⟨⟨by omega,by omega⟩,by omega,by omega⟩ h.mask h.src h.oper h.mode h.acc h.back h.ok1 h.ok2;rw [jJz];simp only [zQS,jYv,zZO,zUl,wQr];rw [w1];refine ⟨⟨by omega,by omega,by rw [zQK]; omega⟩,λh3=>?_,λh3=>?_⟩
   ·have h3:o.kind=3:=wZk h3;obtain ⟨p1,p2⟩:=GP h3;rw [h2 p1];refine ⟨hm,⟨by omega,by omega⟩,hm,⟨by omega,by omega⟩,zVC (topF q.2).acc (topF q.2).back most GF.1 GF.2.1 GF.2.2,pk p2,go (su.trans ?_) (by omega)⟩;unfold jZj;rw [if_pos h3,n1]; rfl
   ·have h3:o.kind≠3:=wZT.1 h3;have hl:=GA h3;have ha:=List.getElem?_eq_getElem hl;have hb:=jGg ha;have hg:=jGf ha;rw [hb];refine ⟨⟨by omega,by omega,by rw [jQ0]; exact hl⟩,hg,λhf=>?_,λhf=>?_⟩
    ·rw [hf] at ha;obtain ⟨v,v1,v2,v3⟩:=GS h3 ha;rw [jUJ v1];have hle:q.1<e.length:=by
      rcases wQp q.1 e.length with hh | hh
      ·exact hh
      ·rw [wQM hh] at v1; cases v1
     refine ⟨⟨by omega,by omega,by rw [zQE]; exact hle⟩,jVL v1,?_⟩;have w2:wrap .i64 ((v:Int)+1)=(v:Int)+1:=wQb _ ⟨by omega,by omega⟩;rw [w2];refine go (su.trans ?_) (by omega);unfold jZj;rw [if_neg h3,ha,v1]
     show ((v:Int).toNat+1,q.2)=_
     congr 1
    ·rw [hf] at ha;refine ⟨λh2=>?_,λh2=>?_⟩
     ·have h2:o.kind=2:=wZk h2;refine ⟨zKT s most e q.2 o ⟨by omega,by omega⟩ GF.1 GF.2.1,go (su.trans ?_) (by omega)⟩;unfold jZj;rw [if_neg h3,ha,if_neg (by decide),if_pos h2,n1]
     ·have h2:o.kind≠2:=wZT.1 h2;obtain ⟨d1,d2,⟨d3,d4⟩,d5,d6⟩:=GD h3 h2 ha;have wx:wrap .i64 (x-o.x)=x-o.x:=wQb _ ⟨by omega,by omega⟩;have wy:wrap .i64 (y-o.y)=y-o.y:=wQb _ ⟨by omega,by omega⟩;rw [wx,wy];refine ⟨zYb s most e q.2 o.image (x-o.x) (y-o.y) n d2 hu hn ⟨by omega,by omega⟩,pk d1,go (su.trans ?_) (by omega)⟩;unfold jZj;rw [if_neg h3,ha,if_neg (by decide),if_neg h2,n1]; rfl
  ·have h:s.ops.length<=(zXr s most e act x y n k).1:=by omega
   rw [jUf hG h];obtain ⟨L1,L2,L3⟩:=hG.last;unfold zJb;generalize zJc s most e act x y n=G at *;have r:=jJy (l:=G) (k:=0) (by omega);have a:=jJA (l:=G) (k:=0) (by omega);have tF:G[0]=frN G 0:=by unfold frN; rw [List.getElem?_eq_getElem (by omega)]; rfl
   rw [tF] at r a;simp only [Nat.zero_mul,Nat.zero_add] at r a;obtain ⟨a0,a1,a2,a3,a4,a5,a6,a7,a8,a9,a10,a11,a12,a13⟩:=a;obtain ⟨r0,r1,r2,r3,r4,r5,r6,r7,r8,r9,r10,r11,r12,r13⟩:=r;simp only [a12.1,a12.2,a13.1,a13.2,r12,r13,zUl,zZO];exact ⟨⟨by omega,by omega⟩,trivial,⟨by omega,by omega⟩,trivial,zVC (frN G 0).acc (frN G 0).back most L3.1 L3.2.1 L3.2.2,⟨⟨trivial,trivial⟩,trivial,trivial⟩,trivial⟩
end
def actL (s:Scr) (r:Rc):List Bool:=(zXN s r).1
def zKC (s:Scr) (m:Int) (e:List Int) (r:Rc) (F:List Fr):Nat->List Fr
 | 0=>F
 | k+1=>zJc s m e (actL s r) r.a (r.b+k) (r.c-r.a)
def zXG (s:Scr) (m:Int) (e:List Int) (r:Rc):Nat->List Px
 | 0=>[]
 | k+1=>zXG s m e r k++zJb s m e (actL s r) r.a (r.b+k) (r.c-r.a)
def zQ1 (r:Rc):Nat:=(r.d-r.b).toNat
structure zU8 (s:Scr) (m:Int) (e:List Int) (r:Rc):Prop where
  row:∀ k:Nat,k<zQ1 r->jZc s m e (actL s r) r.a (r.b+k) (r.c-r.a)
  wide:0<=r.c-r.a/\r.c-r.a<=1000
  high:r.d-r.b<=1000
  at_:(-536870912<=r.a/\r.a<=536870912) /\ -536870912<=r.b/\r.d<=536870912
theorem jZH {act:List Bool} (g:jZc s m e act x y n):(zJb s m e act x y n).length=n.toNat:=by
 unfold zJb;rw [zGi]; exact g.wide
theorem zKB {s:Scr} {m:Int} {e:List Int} {r:Rc} (h:zU8 s m e r):∀ k,k<=zQ1 r->(zXG s m e r k).length=k*(r.c-r.a).toNat
 | 0,_=>by simp [zXG]
 | k+1,hk=>by
  rw [zXG,wQh,zKB h k (by omega),jZH (h.row k (by omega)),wQn,wXb]
abbrev wYL:=@Nat.add_sub_cancel_left
theorem jVv {s:Scr} {m:Int} {e:List Int} {r:Rc} (h:zU8 s m e r):∀ k,k<=zQ1 r->∀ y x:Nat,y<k->x<(r.c-r.a).toNat->pxN (zXG s m e r k) (y*(r.c-r.a).toNat+x)=pxN (zJb s m e (actL s r) r.a (r.b+y) (r.c-r.a)) x
 | 0,_,y,x,hy,_=>by omega
 | k+1,hk,y,x,hy,hx=>by
  have hl:=zKB h k (by omega);unfold pxN;rw [zXG]
  rcases wQp y k with hlt | hge
  ·have h1:y*(r.c-r.a).toNat+x<k*(r.c-r.a).toNat:=by
    have:(y+1)*(r.c-r.a).toNat<=k*(r.c-r.a).toNat:=wQV _ hlt;rw [wQn,wXb] at this; omega
   rw [wQF (by omega)];exact jVv h k (by omega) y x hlt hx
  ·have:y=k:=by omega
   subst this;rw [wQo (by omega),hl,wYL]
def jJ2 (s:Scr):Int:=wrap .i64 ((cntS s.c s.tw s.th).1*(cntS s.c s.tw s.th).2.1)
def zXD (s:Scr):List Int:=zXw s.ord (jJ2 s)
def zZm (s:Scr):List Rc:=(zXD s).map λi=>(zGr s.c s.tw s.th i).1
section
attribute [local irreducible] Ans AnsO AnsG AnsN AnsI
def jKS:Gam:=yZt.add [.p 195 (λv=>some (RV.d (dQ (zZz (nAt (uq v) 0))))),
 .p 256 (λv=>some (RV.d (dQ (farB (nAt (uq v) 0))))),
 .p 236 (λv=>some (RV.agg (qD (zXh (vu (ur v 0)) (nAt (uq v) 1) (nAt (uq v) 2) (nAt (uq v) 3))))),
 .p 197 (λv=>some (RV.agg (qD (imgR (vu (ur v 0)) (vm (ur v 1)))))),
 .p 235 (λv=>some (RV.agg (qD (zHo (vu (ur v 0)) (vm (ur v 1)))))),
 .p 210 (λv=>some (RV.agg (qD (boxF (vu (ur v 0)) (vm (ur v 1)) (vd (ur v 2))))))]
theorem zZE (op:Int):Ans prog 195 [rJ (op)] (rD (dQ (zZz op))):=
 wc jKS aL Tryz.func195 (let a:=zYt op 3;let c:=bI ((a==2)=false) (gZ (a==3) (zZz op)) (yG (a==2) (bE true (zZz op)));let b:=zYt op 2;cQ (kB 216 op (rT [rA (DV.str (zZW op)::aBA (zYt op 1) b a),rD (DV.bool (mN op))])) (True/\True/\True/\(mN op=true->True/\aLU (b==1) (aDE (b==3) c (bE false (zZz op))) (lB (b==1) false c))/\mM (mN op) true (zZz op))) λhwf=>by
  delta eS aB bI aM cQ mE kB nJ lB bE gZ iW mM mN aDE yG aLU aBA;simp only [sS,zQg,zQt];by_cases h:1<=op/\op<13
  ·rcases zYz h with rfl | rfl | rfl | rfl | rfl | rfl | rfl | rfl | rfl | rfl | rfl | rfl<;>decide +kernel
  ·have h2:zZz op=false:=by unfold zZz; simp; omega
   simp [h,h2]
theorem zY6 (v:Int):Ans prog 256 [rJ (v)] (rD (dQ (farB v))):=
 wc jKS aL Tryz.func256 (let a:=(-(1099511627776:Int));True/\eH (decide (v<a)=false) (bE (decide (v>1099511627776)) (farB v)) (iG v a->eU (bE true (farB v)))) λhwf=>by
  delta eS iG eU bE eH;simp only [sS,zQg,zQt,zZE];unfold farB;grind
def aLN (a:FuncId) (b:Int):Prop:=kB a b (RV.d (DV.bool (farB b)))
abbrev sD (q:Scr):List DV:=[DV.int .i64 q.bits,DV.int .i64 q.c.a,DV.int .i64 q.c.b,DV.int .i64 q.c.c,DV.int .i64 q.c.d,DV.int .i64 q.tw,DV.int .i64 q.th,DV.sl q.ord.length (is q.ord),DV.sl q.ims.length (ims q.ims),DV.sl q.ops.length (ops q.ops)]
theorem zKJ (s:Scr) (i x y:Int):Ans prog 236 [rA (sD s),rJ (i),rJ (x),rJ (y)] (rA (qD (zXh s i x y))):=
 wc jKS aL Tryz.func236 (let a:=nD tI (cG (zXh s i x y));let g:=nAt (eO s) (aR i 28);let j:=farB g;let h:=iE (eO s) i 28;let k:=aT (y+h);let l:=aT (x+g);let m:=Rc.inter ⟨x,y,l,k⟩ s.c;let n:=farB h;let b:=aR i 28;let e:=gO b;let f:=jQ i 28;let c:=bG (aR i 28);let d:=eO s;kX (eG (kR i) (bI (fI i (aFC s.ims)) a (mY i (aFC s.ims) (True/\True/\cR (mX i (aGR s) 28 d) (bV (jW d i 28) (oF d i 28) (dW d (lN i 28)) (jR s (gT i 28)) (mT d b) (jR s (lQ i 28)) (jR s c) (jR s (iJ i 28)) (bV (gP s b) (rM s (mS i 28)) (rM s (uB i 28)) (gS s b) (gP s c) (jS s b) (jT s b) (gS s c) (bV (gP s f) (jS s c) (jT s c) (gS s f) (gP s e) (jS s f) (jT s f) (gS s e) (aF (gP s (wT i 28)) (jS s e) (jT s e) (gS s (wT i 28)))))) (True/\aLN 256 x/\True/\(farB x=false->True/\aLN 256 y/\True/\True/\dO (farB y) (aLN 256 g/\True/\True/\(j=false->True/\True/\aLN 256 h/\True/\uW n a/\nJ n (aH (aM (kD 157 (eC x y l k) [rA (cG s.c)] (cG m)) (aBB m (zXh s i x y)))))/\yG j a)/\mE (farB y) (True/\True/\True/\True/\a))/\mE (farB x) (bL a)))))) (eG (iG i 0) a)) λhwf=>by
  delta eS aB aR bI mY mX iG jW kR aE aT aF fD aH aM eC nD cR dO cG uW mE bV zN bN kD eG gT iE oF kX tI aFC cB bG bL qR kB dW nJ fI bY yG cM fS gO lN lQ mS iJ uB jQ wT rM eO mT gP jR jT jS aGR gS aBB aLN;simp only [sS,zQg,zQt,zZE,zY6]
  (try simp only [zKb,zY2,zZY,zQS,zQz])
  have hsE:(⟨s.bits,s.c,s.tw,s.th,s.ord,s.ims,s.ops⟩:Scr)=s:=rfl
  (try simp only [hsE])
  clear hsE;have hfw:∀ a b:Int,farB a=false->farB b=false->wrap .i64 (a+b)=a+b:=λa b h1 h2=>by
   unfold farB at h1 h2;have h1:=wXH h1;have h2:=wXH h2;exact wQb _ ⟨by omega,by omega⟩
  have z:zXh s i x y=Rc.zero->0=(zXh s i x y).a/\0=(zXh s i x y).b/\0=(zXh s i x y).c/\0=(zXh s i x y).d:=λh=>by rw [h]; exact ⟨rfl,rfl,rfl,rfl⟩
  refine ⟨λh0=>⟨λh1=>z (jQh x y (.inr h1)),λh1=>?_⟩,λh0=>z (jQh x y (.inl h0))⟩;have hk:i.toNat<s.ims.length:=by omega
  have e:=jZU x y (show 0<=i by omega) hk;have q1:=zGW hk;have q2:=zGX hk;simp only [q2];have fin:farB x=false->farB y=false->farB s.ims[i.toNat].w=false->farB s.ims[i.toNat].h=false->Rc.inter ⟨x,y,wrap .i64 (x+s.ims[i.toNat].w),wrap .i64 (y+s.ims[i.toNat].h)⟩ s.c=zXh s i x y:=λf1 f2 f3 f4=>by
   rw [e,hfw _ _ f1 f3,hfw _ _ f2 f4,f1,f2,f3,f4]; rfl
  refine ⟨⟨by omega,by omega,by rw [zYT]; omega⟩,q1,λf1=>⟨λf2=>⟨λf3=>⟨λf4=>z (by rw [e,f4]; simp),λf4=>?_⟩,λf3=>z (by rw [e,f3]; simp)⟩,λf2=>z (by rw [e,f2]; simp)⟩,λf1=>z (by rw [e,f1]; simp)⟩;rw [<- fin f1 f2 f3 f4];exact ⟨zQt _ _ _ _ _ _ _ _,rfl,rfl,rfl,rfl⟩
def pA (e:Scr) (f:List DV):List DV:=eF e.bits e.c.a e.c.b e.c.c e.c.d e.tw e.th f
def uK (a:Scr) (b:Rc):Scr:=⟨a.bits,b,a.tw,a.th,ints (is a.ord),zQF (eO a),zQo (jJ a)⟩
theorem zWw (s:Scr) (o:Oq):Ans prog 197 [rA (sD s),rA (oD o)] (rA (qD (imgR s o))):=
 wc jKS aL Tryz.func197 (let a:=zXh (uK s s.c) o.image o.x o.y;bF (bI (rG o.kind 1) (nD tI (cG (imgR s o))) (aGL o.kind 1 (jO (kD 236 (pA s [kO s,kP s,iM s]) (rD (aB o.image)::iF o.x o.y) (cG a)) (aBB a (imgR s o)))))) λhwf=>by
  delta eS aB bI aM eC eF nD cG kD tI bF iF jO rG aGL eO aHB kO iM kP jJ pA uK aBB;simp only [sS,zQg,zQt,zZE,zY6]
  (try simp only [zKb,zY2,zZY,zQS,zQz])
  have hsE:(⟨s.bits,s.c,s.tw,s.th,s.ord,s.ims,s.ops⟩:Scr)=s:=rfl
  (try simp only [hsE])
  clear hsE;refine ⟨λh=>?_,λh=>?_⟩
  ·have h:¬ o.kind=1:=by simpa using h
   unfold imgR;rw [if_neg h];exact ⟨rfl,rfl,rfl,rfl⟩
  ·have h:o.kind=1:=by simpa using h
   unfold imgR;rw [if_pos h];exact ⟨zKJ s o.image o.x o.y,rfl,rfl,rfl,rfl⟩
theorem zUa (s:Scr) (o:Oq):Ans prog 235 [rA (sD s),rA (oD o)] (rA (qD (zHo s o))):=
 wc jKS aL Tryz.func235 (let a:=o.mask;let b:=zXh (uK s s.c) (bU a 1) o.mx o.my;bF (mL a 0 (aM (kD 157 (cG s.c) [rA (cG s.c)] (cG (Rc.inter s.c s.c))) (aBB (Rc.inter s.c s.c) (zHo s o))) (bK a=false->bI (decide (a<0)=true) (nD tI (cG (zHo s o))) (kR a->eU (jO (kD 236 (pA s [kO s,kP s,iM s]) (rD (dZ a 1)::iF o.mx o.my) (cG b)) (aBB b (zHo s o))))))) λhwf=>by
  delta eS aB bI kR aT aM bU bK dZ eC eF nD cG kD tI eU bF iF mL jO eO aHB kO iM kP jJ pA uK aBB;simp only [sS,zQg,zQt,zZE,zY6]
  (try simp only [zKb,zY2,zZY,zQS,zQz])
  have hsE:(⟨s.bits,s.c,s.tw,s.th,s.ord,s.ims,s.ops⟩:Scr)=s:=rfl
  (try simp only [hsE])
  clear hsE;refine ⟨λh=>?_,λh=>⟨λh2=>?_,λh2=>?_⟩⟩
  ·have h:o.mask=0:=by simpa using h
   unfold zHo;rw [if_pos h];exact ⟨zQt _ _ _ _ _ _ _ _,rfl,rfl,rfl,rfl⟩
  ·have h:¬ o.mask=0:=by simpa using h
   unfold zHo;rw [if_neg h,if_pos h2];exact ⟨rfl,rfl,rfl,rfl⟩
  ·have h:¬ o.mask=0:=by simpa using h
   unfold zHo;rw [if_neg h,if_neg h2];simp only [RV.wfs,RV.wf,DV.wf,DV.wfs] at hwf;have hr : -9223372036854775808<=o.mask/\o.mask<=9223372036854775807:=hwf.2.1.2.2.2.2.1;rw [wQb _ ⟨by omega,by omega⟩];exact ⟨zKJ s (o.mask-1) o.mx o.my,rfl,rfl,rfl,rfl⟩
theorem zWM (s:Scr) (o:Oq) (r:Rc):Ans prog 210 [rA (sD s),rA (oD o),rA [dJ r.a,dJ r.b,dJ r.c,dJ r.d]] (rA (qD (boxF s o r))):=
 wc jKS aL Tryz.func210 (let a:=boxF s o r;let b:=zHo (uK s s.c) o;let d:=Rc.inter r b;let c:=zZz o.oper;bL (yD (kB 195 o.oper (rD (DV.bool c))) c (True/\True/\aBB s.c a) (gW c (mL o.opac 0 (nD tI (cG a)) (nJ (bK o.opac) (kD 235 (pA s [kO s,kP s,iM s]) [rA (Oq.cells o)] (cG b)/\kD 157 (cG r) [rA (cG b)] (cG d)/\True/\eS true/\aBB d a)))))) λhwf=>by
  delta eS aB bI bK eC eF nD cG kD tI bL kB nJ gW mL yX yD eO aHB kO iM kP jJ pA uK aBB;simp only [sS,zQg,zQt,zZE,zY6]
  (try simp only [zKb,zY2,zZY,zQS,zQz])
  have hsE:(⟨s.bits,s.c,s.tw,s.th,s.ord,s.ims,s.ops⟩:Scr)=s:=rfl
  (try simp only [hsE])
  clear hsE;refine ⟨λh=>?_,λh=>⟨λh2=>?_,λh2=>?_⟩⟩
  ·unfold boxF;rw [if_pos h];exact ⟨rfl,rfl,rfl,rfl⟩
  ·have h2:o.opac=0:=by simpa using h2
   unfold boxF;rw [if_neg (by rw [h]; decide),if_pos h2];exact ⟨rfl,rfl,rfl,rfl⟩
  ·have h2:¬ o.opac=0:=by simpa using h2
   unfold boxF;rw [if_neg (by rw [h]; decide),if_neg h2];exact ⟨zUa s o,zQt _ _ _ _ _ _ _ _,rfl,rfl,rfl,rfl⟩
end
section
variable {α:Type} {f:α->List DV} {m:Nat}
theorem flat_len (hf:∀ a,(f a).length=m) (l:List α):(l.flatMap f).length=l.length*m:=by
 induction l with
 | nil=>simp
 | cons a l ih=>rw [wZa,wQh,hf,ih,wQu,wQn]; omega
theorem jQN (hf:∀ a,(f a).length=m):∀ (l:List α) (k:Nat),(l.flatMap f).take (k*m)=(l.take k).flatMap f
 | [],k=>by simp
 | a::l,0=>by simp
 | a::l,k+1=>by
  rw [wZa,wYg,wZa,wXU,hf,wQW (by rw [hf,wQn]; omega),show (k+1)*m-m=k*m by rw [wQn]; omega,jQN hf l k]
theorem jJD (hf:∀ a,(f a).length=m):∀ (l:List α) (k:Nat),(l.flatMap f).drop (k*m)=(l.drop k).flatMap f
 | [],k=>by simp
 | a::l,0=>by simp
 | a::l,k+1=>by
  rw [wZa,List.drop_succ_cons,List.drop_append,hf,List.drop_of_length_le (by rw [hf,wQn]; omega),show (k+1)*m-m=k*m by rw [wQn]; omega,jJD hf l k,List.nil_append]
theorem jQO (hf:∀ a,(f a).length=m) {l:List α} (h:k<l.length) (a:α):sets (l.flatMap f) (k*m) (f a)=(l.set k a).flatMap f:=by
 have hle:(k+1)*m<=l.length*m:=wQV _ (by omega);rw [zGe _ _ _ (by rw [flat_len hf,hf]; rw [wQn] at hle; omega),hf,jQN hf,show k*m+m=(k+1)*m by rw [wQn]; omega,jJD hf,List.set_eq_take_append_cons_drop,if_pos h];simp
end
variable {p:Nat}
section
attribute [local irreducible] Ans AnsO AnsG AnsN AnsI
theorem zHu {l:List Rc} (h:k<l.length) (r:Rc):sets (rcs l) (k*4) r.cells=rcs (l.set k r):=jQO (f:=Rc.cells) (m:=4) (λ_=>rfl) h r
theorem jGL (l:List Rc) (k:Nat):(rcs l).take (k*4)=rcs (l.take k):=jQN (f:=Rc.cells) (m:=4) (λ_=>rfl) l k
theorem yQi (l m:List Rc):rcs (l++m)=rcs l++rcs m:=by simp [rcs]
theorem yQh (r:Rc):rcs [r]=r.cells:=by simp [rcs]
theorem jVn:∀ n:Nat,repl n Rc.zero.cells=rcs (List.replicate n Rc.zero)
 | 0=>rfl
 | n+1=>by
  have h:=jVn n;unfold repl at h |-;rw [wZF,List.flatten_cons,h,wZF];rfl
def yZB:Gam:=jKS.add []
def uH (e:Scr) (f:wi):wi:=aCC e.bits e.c.a e.c.b e.c.c e.c.d e.tw e.th (kO e) (kP e) (iM e) f
def kN (a:Nat) (b:Scr):Prop:=a<=List.length b.ops
def aPD (a b:Nat) (c:List DV) (d e f:Nat) (g:List DV):wg:=xK 9001 a b c d e f g
def aMS (a b:Nat) (c:List DV) (d e:Nat) (f:List DV):wg:=aPD a b c 9002 d e f
def yR (a:Bst):List DV:=rcs a.fst
def yQ (a:Bst):Nat:=List.length a.snd.snd
def yT (a:Bst):List DV:=rcs a.snd.snd
def yS (a:Bst):List DV:=is a.snd.fst
def aJK (a:List Rc):DV:=DV.sl (List.length a) (rcs a)
abbrev wYy:=@Option.some.inj
theorem zHq (s:Scr):Ans prog 156 [rA (sD s)] (rT [rD (dS ((zXA s).1.length) (rcs (zXA s).1)),rJ (((zXA s).2))]):=
 wc yZB (xH (jL (um (λh=>kN h s) (λd=>let c:=runB s d;aJL (aMR 6 24 (aAS s) (kU 7 9001 (List.length c.snd.fst) (kU 8 9002 (yQ c) (mV 28 (iM s) (rQ 29 (aAS s) 30 d))))) (uH s []) (kA 24 28 4 (yR c) (aMS 3 1 (yS c) 28 4 (yT c)))) (λg=>oK s.ops g) (λb=>let e:=Option.getD s.ops[b]? popO;jL (ul Bst (λf=>e.kind≠2/\f=zHd s b e (runB s b)) (λa=>aJL (aMR 6 24 (aAS s) (kU 7 9001 (List.length a.snd.fst) (kU 8 9002 (yQ a) (aAI 9 b 28 (iM s) (rQ 29 (aAS s) 30 b))))) (uH s []) (kA 24 28 4 (yR a) (aMS 3 1 (yS a) 28 4 (yT a)))) (λj=>aL)))))) Tryz.func156 (let R:=gJ (aJK (zXA s).fst) (aB (zXA s).snd);let e:=aAS s;let H:=aDZ e;let U:=[kO s,kP s,iM s];let V:=pA s U;let x:=eS V;let J:=mJ e;let D:=eS (iM s);let y:=eS H;let b:=jJ s;let M:=uK s s.c;let P:=pA s U;let w0:=opsE s.bits s.c s.tw s.th (ints (is s.ord)) (aGR s) (zQo (jJ s));let w1:=w0.fst;True/\bH (oT 46 V (zK w0)) (yP (dX w1) (fR (gJ (DV.sl 0 []) (aB w1)) R) (dL (pM (e:Int) 32) (True/\True/\True/\(∃ G:Nat,let A:=runB s G;cF (kN G s) (bM (cF y (pO 0 A.snd.fst) (1=yQ A) D J (dF G))) x (repl H tI=yR A) (([]:List DV)=yS A) (tI=yT A))/\(∀ a:Nat,let k:=runB s a;let v:=yR k;let E:=aEA a e;let W:=Option.getD s.ops[a]? popO;let K:=zHd s a W k;let L:=W.kind≠2;let d:=yT k;let j:=yQ k;let l:=dT j;let t:=yS k;let m:=List.length k.snd.fst;let F:=dT m;let X:=jC d l 4;let Y:=mF d l 4;let Z:=iE d l 4;let z0:=tA d j 4;let c:=tA t m 1;let z1:=bAt b (iL c 12);let z2:=iK c 12;let z3:=bAt b z2;let z4:=lN c 12;let z5:=pF s z4;let z6:=gT c 12;let z7:=pF s z6;let z8:=aR c 12;let z9:=pF s z8;let y0:=qF b c 12;let y1:=nQ b c 12;let y2:=jZ b c 12;let y3:=jC b c 12;let y4:=mF b c 12;let y5:=iE b c 12;let y6:=nAt b (aR c 12);let y7:=boxF M ⟨y6,y5,y4,y3,y2,y1,y0,z9,z7,z5,z3,z1⟩ ⟨z0,Z,Y,X⟩;let g:=sets v (aV a 4) (cG y7);let y8:=aR c 4;let y9:=mJ a/\D/\iR (cI e) (mJ a);let O:=dT j;let x0:=j<=maxLen;let x1:=List.length k.snd.fst<=maxLen;let x2:=jB (aV a 4+4) v;let u:=cY b a 12;let x3:=bAt (jJ s) (fS (aV a 12));let x4:=bAt (jJ s) (rP a 12);let x5:=pF s (cB (aV a 12));let x6:=(⟨u,fX b a 12,gU b a 12,fY b a 12,kW b a 12,tL b a 12,zO b a 12,pF s (aV a 12),pF s (iP a 12),x5,x4,x3⟩:Oq);let Q:=imgR M x6;let x7:=boxF M x6 Q;let x8:=aB u::aB (fX b a 12)::aB (gU b a 12)::aB (fY b a 12)::aB (kW b a 12)::aB (tL b a 12)::aB (zO b a 12)::eV (pF s (aV a 12)) (pF s (iP a 12)) x5 x4 x3 [];let x9:=[aB (a:Int)];bP (kN a s) (dP a e->cV (cX a e 12 b/\aJE (fW b a 12) (mH b a 12) (pT b a 12) s (aV a 12) (iP a 12) (cB (aV a 12)) (pW a 12) (cM b (nI a 12)) (nI a 12) (xN a 12) (dW b (rP a 12))/\True/\True/\True/\(True/\qT u 2 (True/\True/\True/\zXe 1 8 m 1 t x9/\bH (zXe 4 32 j 1 d tI) (∃ C:Nat,let z:=runB s C;kN C s/\cF (uL s C a) (bM (cF y (pO (m+1) z.snd.fst) (j+1=yQ z) D J (bS a C))) x (v=yR z) (t++x9=yS z) (d++tI=yT z))) (cS (u==2) (dN u 1 (kX (kD 197 P [rA x8] (cG Q)) (kD 210 P (yI x8 (cG Q)) (cG x7)/\E/\x2/\eS true/\(∃ p:Bst,cF (L/\p=K) (eS (0:Nat)/\y/\pO m p.snd.fst/\j=yQ p/\y9) x (sets v (aV a 4) (cG x7)=yR p) (t=yS p) (d=yT p))))) (dO (u==1) (jH x1 (mO F m) (jW t F 1/\True) (nE (mX c e 12 b) (aJE (jW b c 12) (oF b c 12) (uZ b c 12) s z8 z6 z4 (lQ c 12) (cM b (iJ c 12)) (iJ c 12) (mS c 12) (dW b z2)/\True/\True/\x0/\True/\mO l j/\aF (jW d l 4) (oF d O 4) (uZ d O 4) (bN d (aR l 4))/\kD 210 P (yI (eF y6 y5 y4 y3 y2 y1 y0 (eV z9 z7 z5 z3 z1 [])) (eC z0 Z Y X)) (cG y7)/\E/\x2/\eS true/\True/\True/\True/\True/\E/\aF (fW g a 4) (mH g a 4) (pT g a 4) (bN g (aV a 4))/\uX c (e:Int)/\jB (y8+4) g/\True/\True/\x1/\True/\aCG m/\aM x0 (aCG j/\True/\True/\eS true/\(∃ o:Bst,cF (L/\o=K) (eS (0:Nat)/\y/\pO (Int.toNat F) o.snd.fst/\tZ O (yQ o)/\y9) x (sets g y8 (eC (cY g a 4) (fX g a 4) (gU g a 4) (fY g a 4))=yR o) (pN F 1 t=yS o) (pN l 4 d=yT o)))))))))/\(∀ n:Bst,let h:=yR n;let q:=yQ n;let r:=dT q;let f:=yT n;let S:=aB (tA f q 4)::aB (iE f r 4)::aB (mF f r 4)::aB (jC f r 4)::aB (cY h a 4)::aBA (fX h a 4) (gU h a 4) (fY h a 4);let T:=cG (zZ3 (zHI S));let I:=aR r 4;L/\n=K->cV (True/\q<=maxLen/\True/\mO r q/\pS (aF (jW f r 4) (oF f (dT q) 4) (uZ f (dT q) 4) (bN f I)) E (jH (aF (fW h a 4) (mH h a 4) (pT h a 4) (bN h (aV a 4))) (Ans prog 211 [rD (DV.sl 2 S)] (rA T)) True (cR (jB (I+4) f) (eS true) (∃ B:Nat,let w:=runB s B;kN B s/\cF (uL s B a) (bM (cF y (pO (List.length n.snd.fst) w.snd.fst) (q=yQ w) D J (bS a B))) x (h=yR w) (yS n=yS w) (sets f I T=yT w)))))))) (eG (iQ a e) (gJ (DV.sl H v) (aB 0)=R))))))) λhwf=>by
  delta eS aB aR mX jW aE aT aF fD aM aY bU dN eC eF bM eV dL cR dO cG nE cI mO aV jB bS bP iP fQ uX dF pN pO pM bV cV zN bN cS bH kD cX cY dP iQ eG fX fY fW gT iE gU pS jC jZ oF kX mF kW mH uZ pT tI gJ zK oK kL cE cB bG iR dW dT qT mJ pW aCG tL xN nI zO dX fR oT bY cF tZ jH cM fS rK lN lQ mS iJ iL iK nQ qF yI eO aGR aHB kO iM kP jJ kN lW aAS pF uL pA rP aJE uK aJK aDZ yP yR yQ yT yS tA aEA aBA;simp only [sS]
  (try simp only [zKb,zY2,zZY,zQS,zQz])
  have hsE:(⟨s.bits,s.c,s.tw,s.th,s.ord,s.ims,s.ops⟩:Scr)=s:=rfl
  (try simp only [hsE])
  clear hsE;have eB:zXA s=if s.run.1=0 then ((runB s s.ops.length).1,0) else ([],s.run.1):=rfl
  have oA:=zHa s;have hE:opsE s.bits s.c s.tw s.th s.ord s.ims.length s.ops=s.run:=rfl;simp only [hE];refine ⟨oA,λh=>?_,λh=>?_⟩
  ·have h:s.run.1≠0:=by simpa using h
   rw [eB,if_neg h]; exact ⟨⟨rfl,rfl⟩,rfl⟩
  ·have h0:s.run.1=0:=by simpa using h
   have F:=jZG h0;obtain ⟨fl1,fl2⟩:=jJB (zYx h0).1;have hM:∀ n:Nat,n<=10000->n<=maxLen:=λn h=>by unfold maxLen; omega
   rw [eB,if_pos h0];clear eB hE oA h hwf;refine ⟨⟨by omega,Int.le_refl _,by have:=hM s.ops.length (by omega); omega,by omega⟩,⟨0,wQi _,⟨rfl,rfl,rfl⟩,jVn _,rfl,rfl⟩,λk hk=>⟨λhlt=>?_,λhge=>?_⟩⟩
   ·have hlt:k<s.ops.length:=by omega
    obtain ⟨st,g1,g2,g3,g4,g5,g6,g7⟩:=F k hk;have q1:=zVi hlt;have q2:=zVj hlt;have eo:(s.ops[k]?).getD popO=s.ops[k]:=by rw [List.getElem?_eq_getElem hlt]; rfl
    obtain ⟨he1,he2⟩:=zUE g1 g2 hlt;have w1:wrap .i64 ((k:Int)+1)=((k+1:Nat):Int):=zXj (by omega);have rS:runB s (k+1)=zHc s k s.ops[k] (runB s k):=by rw [<- eo]; rfl
    have oeta:(⟨s.ops[k].kind,s.ops[k].image,s.ops[k].x,s.ops[k].y,s.ops[k].mask,s.ops[k].mx,s.ops[k].my,s.ops[k].opac,s.ops[k].oper,s.ops[k].mode,s.ops[k].iso,s.ops[k].kno⟩:Oq)=s.ops[k]:=rfl;simp only [q2,eo,oeta,w1];generalize s.ops[k]=o at *;clear oeta eo;generalize hz:runB s k=z at *;obtain ⟨z1,z2,z3⟩:=z;simp only at *;refine ⟨⟨by omega,by omega,by rw [zQK]; omega⟩,q1,⟨λhp=>?_,λhp=>⟨λhd=>?_,λhd=>?_⟩⟩,λy hy=>?_⟩
    ·have hk2:o.kind=2:=by simpa using hp
     have e:runB s (k+1)=(z1,z2++[(k:Int)],z3++[Rc.zero]):=by rw [rS]; unfold zHc; rw [if_pos hk2]
     refine ⟨⟨by simp [zQE],rfl,hM _ (by omega),by omega⟩,⟨by simp [zXU],rfl,hM _ (by omega),by omega⟩,k+1,by omega,by omega,⟨?_,?_,rfl⟩,?_,?_,?_⟩
     ·rw [e]; simp
     ·rw [e]; simp
     ·rw [e]
     ·rw [e]; simp [is]
     ·rw [e,yQi,yQh]; rfl
    ·have hk1:o.kind=1:=by simpa using hd
     have e:zHd s k o (z1,z2,z3)=(z1.set k (boxF s o (imgR s o)),z2,z3):=by unfold zHd; rw [if_pos hk1]
     exact ⟨zWw s o,zWM s o (imgR s o),⟨by omega,by omega⟩,by rw [zXU]; omega,_,⟨by omega,e.symm⟩,⟨rfl,rfl⟩,zHu (by omega) _,rfl,rfl⟩
    ·have hk1:o.kind≠1:=by simpa using hd
     have hk2:o.kind≠2:=by simpa using hp
     have hz2:0<z2.length:=by
      rcases zYe he1 with h | h | ⟨_,h⟩
      ·exact absurd h hk1
      ·exact absurd h hk2
      ·have:=wZJ.2 h; omega
     have w2:wrap .i64 ((z2.length:Int)-1)=((z2.length-1:Nat):Int):=by rw [wQb _ ⟨by omega,by omega⟩]; omega
     have w3:wrap .i64 ((z3.length:Int)-1)=((z3.length-1:Nat):Int):=by rw [wQb _ ⟨by omega,by omega⟩]; omega
     obtain ⟨p,hp2⟩:∃ p,z2[z2.length-1]?=some p:=⟨_,List.getElem?_eq_getElem (by omega)⟩
     obtain ⟨h,hh2⟩:∃ h,z3[z3.length-1]?=some h:=⟨_,List.getElem?_eq_getElem (by omega)⟩
     have hpb:=g7 p (wZ5 hp2);have hpl:p.toNat<s.ops.length:=by omega
     have n2:nAt (is z2) (z2.length-1)=p:=by simp [nAt,is,hp2]
     have n2':(is z2)[z2.length-1]?=some (.int .i64 p):=by simp [is,hp2]
     have hl3:z3.length-1<z3.length:=by omega
     have eh:z3[z3.length-1]=h:=by rw [List.getElem?_eq_getElem hl3] at hh2; exact wYy hh2
     have r1:=zWI z3 _ hl3;have r2:=zWZ hl3;rw [eh] at r1 r2;have q1':=zVi hpl;have q2':=zVj hpl;have eop:(s.ops[p.toNat]?).getD popO=s.ops[p.toNat]:=by rw [List.getElem?_eq_getElem hpl]; rfl
     have e:zHd s k o (z1,z2,z3)=((z1.set k (boxF s s.ops[p.toNat] h)).set p.toNat (boxF s s.ops[p.toNat] h),z2.dropLast,z3.dropLast):=by
      unfold zHd;rw [if_neg hk1];simp only [hp2,hh2,wQG,eop]
     have oeta:(⟨s.ops[p.toNat].kind,s.ops[p.toNat].image,s.ops[p.toNat].x,s.ops[p.toNat].y,s.ops[p.toNat].mask,s.ops[p.toNat].mx,s.ops[p.toNat].my,s.ops[p.toNat].opac,s.ops[p.toNat].oper,s.ops[p.toNat].mode,s.ops[p.toNat].iso,s.ops[p.toNat].kno⟩:Oq)=s.ops[p.toNat]:=rfl;have heta:(⟨h.a,h.b,h.c,h.d⟩:Rc)=h:=rfl;simp only [w2,w3,wQl,wQr,n2,r2,q2',oeta,heta];have bx:=zWM s s.ops[p.toNat] h;generalize s.ops[p.toNat]=q at *;clear oeta heta eop;generalize boxF s q h=B at *;have es:sets (rcs z1) (k*4) [DV.int .i64 B.a,DV.int .i64 B.b,DV.int .i64 B.c,DV.int .i64 B.d]=rcs (z1.set k B):=zHu (by omega) B;have hl1:k<(z1.set k B).length:=by simp; omega
     have b1:=zWI (z1.set k B) k hl1;have b2:=zWZ hl1;rw [List.getElem_set_self] at b1 b2;simp only [es,b2];have es2:sets (rcs (z1.set k B)) (p.toNat*4) [DV.int .i64 B.a,DV.int .i64 B.b,DV.int .i64 B.c,DV.int .i64 B.d]=rcs ((z1.set k B).set p.toNat B):=zHu (by simp; omega) B;simp only [es2];refine ⟨hM _ (by omega),⟨by omega,by omega⟩,n2',⟨by omega,by omega,by rw [zQK]; omega⟩,q1',hM _ (by omega),⟨by omega,by omega⟩,r1,bx,⟨by omega,by omega⟩,by rw [zXU]; omega,⟨by omega,by omega⟩,b1,⟨by omega,by omega⟩,by rw [zXU,wQ7]; omega,hM _ (by omega),⟨by omega,by omega⟩,hM _ (by omega),⟨by omega,by omega⟩,_,⟨hk2,e.symm⟩,⟨by simp,by simp⟩,rfl,?_,?_⟩
     ·rw [wZU]; simp [is]
     ·show _=rcs z3.dropLast
      rw [wZU,jGL]
    ·obtain ⟨y1,y2,y3⟩:=y;obtain ⟨hk2,hy⟩:=hy;simp only at hk2 hy |-;have yl:0<y3.length/\y3.length<=5000/\y1.length=s.ops.length:=by
      unfold zHd at hy;split at hy
      ·simp only [wQc] at hy;obtain ⟨rfl,rfl,rfl⟩:=hy;rw [wQ7]; omega
      ·rename_i hk1;simp only [wQc] at hy;obtain ⟨rfl,rfl,rfl⟩:=hy;have hz2:0<z2.length:=by
        rcases zYe he1 with h | h | ⟨_,h⟩
        ·exact absurd h hk1
        ·exact absurd h hk2
        ·have:=wZJ.2 h; omega
       simp; omega
     obtain ⟨yl1,yl2,yl3⟩:=yl;have w3:wrap .i64 ((y3.length:Int)-1)=((y3.length-1:Nat):Int):=by rw [wQb _ ⟨by omega,by omega⟩]; omega
     have hl3:y3.length-1<y3.length:=by omega
     have hl1:k<y1.length:=by omega
     have r1:=zWI y3 _ hl3;have r2:=zWZ hl3;have b1:=zWI y1 _ hl1;have b2:=zWZ hl1;have e:runB s (k+1)=(y1,y2,y3.set (y3.length-1) (zZ3 [y3[y3.length-1],y1[k]])):=by
      rw [rS];unfold zHc;rw [if_neg hk2];simp only [<- hy,topB];rw [List.getElem?_eq_getElem hl3,List.getElem?_eq_getElem hl1];rfl
     simp only [w3,wQl,r2,b2];generalize y3[y3.length-1]=c at *;generalize y1[k]=B at *;have hu:=jXG 2 (rcs [c,B]) (jUK [c,B]);have et:zHI [DV.int .i64 c.a,DV.int .i64 c.b,DV.int .i64 c.c,DV.int .i64 c.d,DV.int .i64 B.a,DV.int .i64 B.b,DV.int .i64 B.c,DV.int .i64 B.d]=[c,B]:=rfl;simp only [zVA] at hu;simp only [et];refine ⟨hM _ (by omega),⟨by omega,by omega⟩,r1,⟨by omega,by omega⟩,b1,hu,by rw [zXU]; omega,k+1,by omega,by omega,⟨?_,?_,rfl⟩,?_,?_,?_⟩
     ·rw [e]
     ·rw [e]; simp
     ·rw [e]
     ·rw [e]
     ·rw [e]; exact zHu hl3 _
   ·have:k=s.ops.length:=by omega
    subst this;exact ⟨⟨by have:=(F _ hk).choose_spec.2.2.1; exact this.symm,rfl⟩,rfl⟩
def yZz:Gam:=yZB.add []
def aIC (a:Nat × List Int × List Int) (b:Int):Prop:=Membership.mem a.snd.snd b
def aID (a:Nat × List Int × List Int) (b:List Oq):List Int × Int:=runE (List.drop a.fst b) a.fst a.snd.fst a.snd.snd
def aIE (a:Nat × List Int × List Int) (b:List Oq) (c d:Prop):Prop:=a.fst<=List.length b/\qS (List.length a.snd.fst) b/\List.length a.snd.snd<=a.fst/\c/\d
def aDY (a:List Oq):DV:=aHB (zZx a).fst
def aHR (a:Prop) (b:DV) (c:List Oq) (d:Prop):Prop:=aF a (eS b) (eS (cI (List.length c))) d
def aME (a:Prop) (b:List Oq) (c:Prop):Prop:=aHR a (DV.sl (List.length b) (ops b)) b c
theorem zUj (l:List Oq) (hl:l.length<=100000):Ans prog 77 [rD (dS l.length (ops l))] (rT [rD (dS ((zZx (zQo (ops l))).1.length) (is (zZx (zQo (ops l))).1)),rJ (((zZx (zQo (ops l))).2))]):=
 wc yZz (pX (Ann.loop (Inv.mk (Nat × List Int × List Int) (λ(a:Nat × List Int × List Int)=>aIE a l (∀ c:Int,aIC a c->tK c l) (aID a l=zZx l)) (λ(b:Nat × List Int × List Int)=>(⟨aIM 4 10 l (kU 5 9005 (List.length b.snd.snd) (mV 11 (DV.sl (List.length l) (ops l)) (rQ 12 (List.length l) 13 b.fst))),aEY 10 3 (is b.snd.fst) 9005 3 1 (is b.snd.snd)⟩:Snap)) (λ(d:Nat × List Int × List Int)=>oK l d.fst)) (λ(e:Nat × List Int × List Int)=>aL))) Tryz.func77 (let b:=ops l;let q:=gJ (aDY (zQo b)) (aB (zZx (zQo b)).snd);let s:=List.length l;let C:=gJ (DV.sl 0 []) (aB 18)=q;let n:=List.length l;let u:=eS s;let k:=zZx l;let G:=(s:Int);bF (aY (pM G 8) (True/\True/\True/\(∃ i:Nat × List Int × List Int,aF (aIE i l (∀ A:Int,aIC i A->tK A l) (aID i l=k)) (qS (aDZ n) l/\aME (pO 0 i.snd.snd) l (dF i.fst)) (aET G (aB 0) (is i.snd.fst)) (([]:List DV)=is i.snd.snd))/\(∀ h:Nat × List Int × List Int,let r:=is h.snd.fst;let c:=List.length h.snd.snd;let B:=(c:Int);let D:=(c:Int);let m:=List.length h.snd.snd<=maxLen;let a:=h.fst;let j:=cY b a 12;let E:=j==3;let d:=is h.snd.snd;let o:=dT c;let t:=tA d c 1;let p:=List.set r (aV a 1) (cI a);let v:=oK l a;let F:=[aB (a:Int)];bP (aIE h l (∀ z:Int,aIC h z->tK z l) (aID h l=k)) (dP a n->zD (cX a n 12 b) (fP (fW b a 12) (mH b a 12) (pT b a 12) (bV (lW l (aV a 12)) (lW l (iP a 12)) (lW l (cB (aV a 12))) (lW l (pW a 12)) (cM b (nI a 12)) (lW l (nI a 12)) (lW l (xN a 12)) (dW b (rP a 12)) (rK b (aV a 12)/\True))) (dY (tK (a:Int) l) (jB (iP a 1) r) (mL j 1 (∃ g:Nat × List Int × List Int,aIE g l (∀ y:Int,aIC g y->tK y l) (aID g l=k)/\oK l g.fst<v/\(u/\aME (pO c g.snd.snd) l (bS a g.fst))/\p=is g.snd.fst/\d=is g.snd.snd/\True) (mG (j==1) (dN j 2 (True/\True/\aN (zXe 1 8 c 1 d F) (∃ f:Nat × List Int × List Int,fT (aIE f l (∀ x:Int,aIC f x->tK x l) (aID f l=k)) (oK l f.fst<v) (u/\aME (pO (c+1) f.snd.snd) l (bS a f.fst)) (p=is f.snd.fst) (d++F=is f.snd.snd)))) j 2 (E=true->True/\m/\True/\dC D 0 C/\dO (bK B) (True/\m/\True/\mO o c/\(jW d o 1/\True)/\dY (tK t l) (jB (gT t 1) p) (True/\gI m (aN (aCG c) (∃ e:Nat × List Int × List Int,fT (aIE e l (∀ w:Int,aIC e w->tK w l) (aID e l=k)) (oK l e.fst<v) (u/\aME (pO (Int.toNat o) e.snd.snd) l (bS a e.fst)) (List.set p (aR t 1) (cI a)=is e.snd.fst) (pN o 1 d=is e.snd.snd)))))) (dO E (gJ (DV.sl 0 []) (aB 9)=q)))))) (iQ a n->True/\m/\True/\(jY D 0->eU C)/\iO B 0 (fR (gJ (DV.sl s r) (aB 0)) q)))))) λhwf=>by
  delta eS aB aR bI dY jW aE aT aF fD aY bU bK dC fT dN aN dO zD cI mO iO aV jB bS bP iP aET dF pN pO jY pM bV gI zN bN cS cX cY dP iQ fW gT mG mH pT gJ oK eU cB bG bF qS fP tK dW dT pW aCG xN nI fR mL bY cM fS rK aHB lW rP aDY aDZ tA aHR aIC aID aIE aME;simp only [sS];simp only [zQz];have hM:=ug
  clear hwf;refine ⟨⟨by omega,by omega,by have:=hM _ hl; omega,by omega⟩,⟨(0,List.replicate l.length 0,[]),⟨wQi _,by simp,by simp,by simp,rfl⟩,?_⟩,λz hz=>⟨λhlt=>?_,λhge=>?_⟩⟩
  ·exact ⟨⟨rfl,rfl⟩,by simp [is],rfl⟩
  ·obtain ⟨k,out,op⟩:=z;obtain ⟨z1,z2,z3,z4,z5⟩:=hz;simp only at *;have hk:k<l.length:=by omega
   have q1:=zVi hk;have q2:=zVj hk;have w1:wrap .i64 ((k:Int)+1)=((k+1:Nat):Int):=by rw [wQb _ ⟨by omega,by omega⟩]; omega
   have hd:l.drop k=l[k]::l.drop (k+1):=wXC hk;have is_s:∀ (L:List Int) (j:Nat) (v:Int),(is L).set j (.int .i64 v)=is (L.set j v):=λL j v=>by simp [is]
   have io:(is out).length=out.length:=zQE out;rw [hd,runE] at z5;simp only [Nat.add_zero,q2,w1,wQr,is_s];generalize l[k]=o at *;refine ⟨⟨by omega,by omega,by rw [zQK]; omega⟩,q1,⟨by omega,by omega⟩,by omega,λh1=>?_,λh1=>⟨λh2=>?_,λh2=>⟨λh3=>?_,λh3=>?_⟩⟩⟩
   ·have h1:o.kind=1:=by simpa using h1
    rw [if_pos h1] at z5;exact ⟨(k+1,out.set k k,op),⟨by simp only; omega,by simp only [wQ7]; omega,by simp only; omega,z4,z5⟩,by simp only; omega,⟨rfl,rfl⟩,rfl,rfl⟩
   ·have h1:¬ o.kind=1:=by simpa using h1
    have h2:o.kind=2:=by simpa using h2
    rw [if_neg h1,if_pos h2] at z5;refine ⟨⟨by simp [zQE],rfl,hM _ (by omega),by omega⟩,(k+1,out.set k k,op++[(k:Int)]),⟨by simp only; omega,by simp only [wQ7]; omega,by simp; omega,?_,z5⟩,by simp only; omega,⟨by simp,rfl⟩,rfl,by simp [is]⟩;intro p hp
    rcases List.mem_append.1 hp with hp | hp
    ·exact z4 p hp
    ·rw [wQk] at hp; omega
   ·have h1:¬ o.kind=1:=by simpa using h1
    have h2:¬ o.kind=2:=by simpa using h2
    have h3:o.kind=3:=by simpa using h3
    rw [if_neg h1,if_neg h2,if_pos h3] at z5;refine ⟨hM _ (by omega),λh4=>?_,λh4=>?_⟩
    ·have h4:op=[]:=List.length_eq_zero_iff.1 (by simpa using h4);rw [if_pos h4] at z5;rw [<- z5];exact ⟨⟨rfl,rfl⟩,rfl⟩
    ·have h4:0<op.length:=by
      have:¬ op.length=0:=by simpa using h4
      omega
     have h5:op≠[]:=by intro e; rw [e] at h4; simp at h4
     rw [if_neg h5] at z5;have w2:wrap .i64 ((op.length:Int)-1)=((op.length-1:Nat):Int):=by rw [wQb _ ⟨by omega,by omega⟩]; omega
     obtain ⟨p,hp2⟩:∃ p,op[op.length-1]?=some p:=⟨_,List.getElem?_eq_getElem (by omega)⟩
     have hpb:=z4 p (wZ5 hp2);have n2:nAt (is op) (op.length-1)=p:=by simp [nAt,is,hp2]
     have n2':(is op)[op.length-1]?=some (.int .i64 p):=by simp [is,hp2]
     rw [hp2,wQG] at z5;simp only [w2,wQl,n2];refine ⟨hM _ (by omega),⟨by omega,by omega⟩,n2',⟨by omega,by omega⟩,by rw [zQE,wQ7]; omega,hM _ (by omega),⟨by omega,by omega⟩,(k+1,(out.set k k).set p.toNat k,op.dropLast),⟨by simp only; omega,by simp only [wQ7]; omega,by simp; omega,λq hq=>z4 q (List.dropLast_subset _ hq),z5⟩,by simp only; omega,⟨by simp,rfl⟩,rfl,?_⟩;simp [is,wZU]
   ·have h1:¬ o.kind=1:=by simpa using h1
    have h2:¬ o.kind=2:=by simpa using h2
    have h3:¬ o.kind=3:=by simpa using h3
    rw [if_neg h1,if_neg h2,if_neg h3] at z5;rw [<- z5];exact ⟨⟨rfl,rfl⟩,rfl⟩
  ·obtain ⟨k,out,op⟩:=z;obtain ⟨z1,z2,z3,z4,z5⟩:=hz;simp only at *;have hk:k=l.length:=by omega
   subst hk;rw [wYo,runE] at z5;refine ⟨hM _ (by omega),λh=>?_,λh=>?_⟩
   ·have h5:op≠[]:=by intro e; rw [e] at h; simp at h
    rw [if_neg h5] at z5;rw [<- z5];exact ⟨⟨rfl,rfl⟩,rfl⟩
   ·have h5:op=[]:=List.length_eq_zero_iff.1 (by omega);rw [if_pos h5] at z5;rw [<- z5];exact ⟨⟨z2.symm,rfl⟩,rfl⟩
theorem Occ.next (hv:s.run.1=0) {f:Fo} (h:Occ s (foOf s) k f) (hf:0<f.size):∃ f2,Occ s (foOf s) (enAt s k+1) f2/\enAt s k+1+f2.size=k+f.size/\zQQ s f=bxAt s k::zQQ s f2/\(opAt s k).kind≠3/\k<=enAt s k/\k<s.ops.length:=by
 have hz:=zZS hv;have hs:=(zXm hv).2;have g:∀ {q:Nat} {o:Oq},(foOf s).flat[q]?=some o->opAt s q=o:=λ{q o} hq=>by
  unfold opAt;have:s.ops[q]?=some o:=by rw [<- hq]; exact congrArg (λl:List Oq=>l[q]?) hs
  rw [this]; rfl
 cases f with
 | nil=>simp [Fo.size] at hf
 | draw o r=>
  obtain ⟨k1,k0,k2,k3,k4,k5⟩:=h.draw;have hk:k<s.ops.length:=by omega
  have e:enAt s k=k:=by rw [(zXL hv hk).2,k3]
  exact ⟨r,by rw [e]; exact k5,by rw [e]; simp only [Fo.size]; omega,by rw [zK9 hv hk,k4]; rfl,by rw [g k2,k1]; decide,by omega,hk⟩
 | grp o kf r=>
  obtain ⟨k1,k0,k2,k3,k4,k5,k6,k7,k8,k9⟩:=h.grp;have hk:k<s.ops.length:=by omega
  have e:enAt s k=k+kf.size+1:=by rw [(zXL hv hk).2,k4]
  exact ⟨r,by rw [e]; exact k9,by rw [e]; simp only [Fo.size]; omega,by rw [zK9 hv hk,k6]; rfl,by rw [g k2,k1]; decide,by omega,hk⟩
theorem yQq (h:p<s.ops.length):opAt s p=s.ops[p]:=by unfold opAt; rw [List.getElem?_eq_getElem h]; rfl
end
theorem jQU (h:s.run.1=0) {q:Nat} (hp:p<s.ops.length) (h1:p<q) (h2:q<enAt s p):enAt s q<enAt s p:=by
 have he:=zGI h hp;have:=zK5 (foOf s) 0 p q (by omega) (by rw [<- zZS h]; omega) h1 (by rw [<- (zXL h hp).2]; exact h2);rw [(zXL h hp).2,(zXL h (p:=q) (by omega)).2];exact this
theorem zXO (s:Scr) (r:Rc) (i:Nat):zXZ s r i=true↔hitB s r i=true/\∀ j,j<i->(opAt s j).kind=2->i<enAt s j->hitB s r j=true:=by
 unfold zXZ jGs;rw [wQe,List.all_eq_true];refine and_congr_right λ_=>⟨λh j h1 h2 h3=>?_,λh j h1=>?_⟩
 ·have:=h j (wQx.2 h1);simpa [h2,h3] using this
 ·have:=h j (wQx.1 h1);by_cases c1:(opAt s j).kind=2<;>by_cases c2:i<enAt s j<;>simp [c1,c2];exact this c1 c2
theorem jK1 (h:s.run.1=0) (r:Rc) (hp:p<s.ops.length) (h2:(opAt s p).kind=2):zXZ s r (enAt s p)=zXZ s r p:=by
 obtain ⟨p1,p2,p3,p4⟩:=jYW h hp h2;have he:=zGI h hp;rw [wYf,zXO,zXO];have e:hitB s r (enAt s p)=hitB s r p:=by unfold hitB; rw [p3]
 rw [e];refine and_congr_right λhb=>⟨λg j j1 j2 j3=>?_,λg j j1 j2 j3=>?_⟩
 ·refine g j (by omega) j2 ?_;exact jQU h (by omega) j1 j3
 ·rcases wYu j p with c | c | c
  ·exact g j c j2 (by omega)
  ·subst c; exact hb
  ·have:=jQU h hp c j1;omega
def Scn.scr (s:Scn):Scr:=⟨s.bits,s.c,s.gtw,s.gth,s.ord,s.ims,s.ops⟩
theorem Scn.scr_run (s:Scn):s.scr.run=(0,0):=by
 have li:=s.ims_len;have lo:=s.ops_len;have f:=s.frame_ok (mn:=s.ims.length) (pn:=s.ops.length) (by omega) (by omega)
 show opsE s.bits s.c s.gtw s.gth s.ord s.ims.length s.ops=_
 unfold opsE;rw [if_pos f];exact s.ops_run
section
attribute [local irreducible] Ans AnsO AnsG AnsN AnsI
def yZA:Gam:=yZz.add [.p 156 (λv=>let c:=zXA (vu (ur v 0));some (RV.tup [RV.d (dS c.1.length (rcs c.1)),rJ c.2])),
 .p 77 (λv=>let a:=(zZx (zQo (cAt (uq v) 0)));some (RV.tup [RV.d (dS a.1.length (is a.1)),rJ a.2]))]
theorem zGK (s:Scr) (r:Rc):Ans prog 81 [rA (sD s),rA [dJ r.a,dJ r.b,dJ r.c,dJ r.d]] (rT [rD (dS ((zXN s r).1.length) (bs (zXN s r).1)),rJ (((zXN s r).2))]):=
 wc yZA (xH (jL (um (λb=>kN b s/\Live s r b) (λa=>lY (dU 2 2 3 3 (gH 6 (aJK (zXA (uK s ⟨s.c.a,s.c.b,s.c.c,s.c.d⟩)).fst) 8 (aDY (zQo (jJ s))) (aNN 10 28 s.ops 11 a []))) 2 (uH s []) 3 (jK r.a r.b r.c r.d []) (pQ 28 4 1 (bs (zJy s r a)))) (λc=>oK s.ops c) (λd=>aL)))) Tryz.func81 (let p:=gJ (aLM (zXN s r).fst) (aB (zXN s r).snd);let l:=(zXA (uK s s.c)).fst;let c:=List.length l;let b:=rcs l;let h:=pA s [kO s,kP s,iM s];let n:=zQo (jJ s);let i:=aDY n;let j:=aJK l;let A:=(zZx n).fst;let o:=is A;let C:=(zXA (uK s s.c)).snd;let D:=aB C;True/\True/\bH (oT 156 h (gJ j D)) (yP (dX C) (fR (gJ (DV.sl 0 []) D) p) (aN (Ans prog 77 [rD (iM s)] (gJ i (aB (zZx n).snd))) (pS (pM (c:Int) 1) (∃ f:Nat,(kN f s/\Live s r f)/\aF (bW (fV j i (qS (aDZ c) s.ops) (dF f))) (eS h) (eS (cG r)) (aET (c:Int) (DV.bool false) (bs (zJy s r f)))) (∀ a:Nat,let k:=bs (zJy s r a);let q:=fY b a 4;let t:=gU b a 4;let u:=fX b a 4;let v:=cY b a 4;let m:=Rc.inter ⟨v,u,t,q⟩ r;let w:=Rc.empty m;let g:=List.set k (aV a 1) (DV.bool (!w));let x:=(∃ d:Nat,(kN d s/\Live s r d)/\uL s d a/\qL (bW (fV j i (eS (aAS s)) (bS a d))) h (cG r) g (bs (zJy s r d)));let y:=nAt (jJ s) (aV a 12+0);let z:=bAt g (aV a 1);let B:=tK (a:Int) s.ops;kN a s/\Live s r a->cV (bI (dP a c) (True/\True/\cX a c 4 b/\aF (fW b a 4) (mH b a 4) (pT b a 4) (bN b (aV a 4))/\dY (kD 157 (eC v u t q) [rA (cG r)] (cG m)) (pY 40 (cG m) w) (B/\jB (iP a 1) k/\eS true/\True/\aM (cX a (aAS s) 12 (jJ s)) (aAK (zN (jJ s) (aV a 12) 0) (dN y 2 (True/\B/\aAK (dW g (aV a 1)) (gX z->aAZ (cX a (List.length A) 1 o) (fW o a 1) (True/\True/\True/\True/\(∃ e:Nat,(kN e s/\Live s r e)/\uL s e a/\qL (bW (fV j i (eS (aAS s)) (aB (aT (cY o a 1+1))=cI e))) h (cG r) g (bs (zJy s r e))))) (zS z x))) (lB (y==2) true x)))) (eG (iQ a c) (gJ (DV.sl (List.length s.ops) k) (aB 0)=p)))))))) λhwf=>by
  delta eS aB aR bI dY aT aF aM dN aN eC eF bW dO cG qL cI mO aV jB bS fV iP aET dF pM cV zN bN bH kD cX cY dP iQ eG fX fY fW gU pS mH pT gJ oK qS tK dW dX fR lB gW pY gX zS oT aAK eO aHB kO iM kP jJ kN aAS uL pA uK aJK aDY aDZ yP aAZ aLM;simp only [sS,zQt,zQX,zZf]
  (try simp only [zKb,zY2,zZY,zQS,zQz])
  have hsE:(⟨s.bits,s.c,s.tw,s.th,s.ord,s.ims,s.ops⟩:Scr)=s:=rfl
  (try simp only [hsE])
  clear hsE;have bA:=zHq s
  try simp only [zKb,zY2,zZY,zQS,zQz] at bA
  by_cases h0:¬ s.run.1=0
  ·have e1:=jGh h0;have e2:zXN s r=([],s.run.1):=by unfold zXN; rw [if_neg h0]
   rw [e1] at bA;rw [e1,e2];exact ⟨bA,λ_=>⟨⟨rfl,rfl⟩,rfl⟩,λh=>absurd (by simpa using h) h0⟩
  have h0:s.run.1=0:=wXc.1 h0;obtain ⟨_,e2,e3⟩:=jVV h0;have eA:zXN s r=((List.range s.ops.length).map (zXZ s r),0):=by unfold zXN; rw [if_pos h0]
  refine ⟨bA,λh=>absurd e2 (by simpa using h),λ_=>?_⟩;obtain ⟨fl1,fl2⟩:=jJB (zYx h0).1;have hM:∀ n:Nat,n<=10000->n<=maxLen:=λn h=>by unfold maxLen; omega
  have el:=(jHn h0).1;have eE:=zUj s.ops (by omega);rw [zQz] at eE;rw [eA];simp only [e3];clear hwf bA;refine ⟨eE,⟨by omega,Int.le_refl _,by have:=hM s.ops.length (by omega); omega,by omega⟩,⟨0,⟨wQi _,jUE s r⟩,⟨trivial,rfl⟩,by rw [jWI,yQV]⟩,λk hk=>⟨λhlt=>?_,λhge=>?_⟩⟩
  ·obtain ⟨hk0,hL⟩:=hk;have hk:k<s.ops.length:=by omega
   have b1:=zWI (zXA s).1 k (by omega);have b2:=zWZ (show k<(zXA s).1.length by omega);have eb:(zXA s).1[k]=bxAt s k:=by unfold bxAt; rw [List.getElem?_eq_getElem (by omega)]; rfl
   rw [eb] at b1 b2;have heta:(⟨(bxAt s k).a,(bxAt s k).b,(bxAt s k).c,(bxAt s k).d⟩:Rc)=bxAt s k:=rfl;have eh:(!((bxAt s k).inter r).empty)=hitB s r k:=rfl;simp only [b2,heta,eh];have q1:=zVi hk;have q2:=zVj hk;have eo:opAt s k=s.ops[k]:=yQq hk;have w1:wrap .i64 ((k:Int)+1)=((k+1:Nat):Int):=zXj (by omega);simp only [Nat.add_zero,wQr,q2,<- eo,yZH,<- zUI hL,jXi];have ng:=jVL (jKW h0 hk);have ne:=jUJ (jKW h0 hk);have ei:=zGI h0 hk;have g:(zJy s r (k+1))[k]?=some (hitB s r k):=by rw [<- zUI hL]; simp [zJy,hk]
   have gb:=jGg g;have gg:=jGf g;simp only [gb,ne,w1];refine ⟨⟨by omega,by omega,by rw [zXU]; omega⟩,b1,zQt _ _ _ _ _ _ _ _,zQX _ _ _ _,⟨by omega,by omega⟩,by rw [jQ0,jGq]; omega,⟨by omega,by omega,by rw [zQK]; omega⟩,by rw [eo]; exact q1.1,λh2=>⟨⟨by omega,by omega⟩,gg,λhb=>?_,λhb=>?_⟩,λh2=>?_⟩
   ·have h2:(opAt s k).kind=2:=by simpa using h2
    obtain ⟨l1,l2⟩:=jUF h0 hk hL h2 hb;have l3:zJy s r (k+1)=zJy s r k:=by
     rw [<- jXi,zUI hL,hb];refine wQT (by simp) λi i1 i2=>?_;rw [List.getElem_set];split
     ·rename_i e; subst e; simp [zJy]
     ·rfl
    exact ⟨⟨by omega,by omega,by rw [zQE]; omega⟩,ng,enAt s k+1,⟨by omega,l1⟩,by omega,by rw [wQb _ ⟨by omega,by omega⟩]; omega,by rw [l2,l3]⟩
   ·exact ⟨k+1,⟨by omega,jJb hL (by rw [hb]; simp)⟩,by omega,rfl,rfl⟩
   ·have h2:(opAt s k).kind≠2:=by simpa using h2
    exact ⟨k+1,⟨by omega,jJb hL (λh=>h2 h.1)⟩,by omega,rfl,rfl⟩
  ·obtain ⟨hk0,hL⟩:=hk;have:k=s.ops.length:=by omega
   subst this;rw [jGr];exact ⟨⟨by simp,rfl⟩,trivial⟩
def yZs:Gam:=yZA.add [.p 81 (λv=>let c:=zXN (vu (ur v 0)) (vd (ur v 1));some (RV.tup [RV.d (dS c.1.length (bs c.1)),rJ c.2])),
 .q 37 ([false,true],1,1) (λv b=>let c:=uy (uw b 0);let g:=vd (uv v 1);let h:=nAt c 10;let i:=cAt c 11;let e:=zKC (vu c) h (ints i) g (zHb (ux b 1)) (zQ1 g);let f:=zXG (vu c) h (ints i) g (zQ1 g);some ⟨AV.one (Cl.d (dS f.length (pxs f))),[bC [cJ (nAt c 0),cJ (nAt c 1),cJ (nAt c 2),cJ (nAt c 3),cJ (nAt c 4),cJ (nAt c 5),cJ (nAt c 6),Cl.d (dS (lAt c 7) (cAt c 7)),Cl.d (dS (lAt c 8) (cAt c 8)),Cl.d (dS (lAt c 9) (cAt c 9)),cK h,Cl.d (dS (lAt c 11) i),Cl.ref 1 e.length],Bx.row 249 14 (frs e)],false⟩)]
abbrev qC (q:Rc):List Cl:=[Cl.d (DV.int .i64 q.a),Cl.d (DV.int .i64 q.b),Cl.d (DV.int .i64 q.c),Cl.d (DV.int .i64 q.d)]
theorem zKU (s:Scr) (most:Int) (e:List Int) (F:List Fr) (r:Rc) (hu:∀ m∈s.ims,m.isU) (hI:s.ims.length<=1000000) (hP:zU8 s most e r) (hM:s.ops.length<=1000000):AnsG prog 37 1 [aPz,AV.agg (qC r)] [bC (vz s most e 1 F.length),bR 249 14 (frs F)] ⟨aO (cD (dS ((zXG s most e r (zQ1 r)).length) (pxs (zXG s most e r (zQ1 r))))),[bC (vz s most e 1 (((zKC s most e r F (zQ1 r))).length)),bR 249 14 (frs (zKC s most e r F (zQ1 r)))],false⟩:=
 wd yZs (let b:=(zXN (uK s ⟨s.c.a,s.c.b,s.c.c,s.c.d⟩) r).fst;pX (um (λd=>d<=zQ1 r) (λa=>lY (dU 0 0 3 3 (rZ 5 (List.length b) (bs b) (kU 7 1007 (List.length (zXG s most e r a)) (lK 8 (r.b+(a:Int)))))) 0 (rW s most e 1 (zKC s most e r F a)) 3 (jK r.a r.b r.c r.d []) (xK 1007 37 5 (pxs (zXG s most e r a)) 1 249 14 (frs (zKC s most e r F a)))) (λc=>zQ1 r-c) (λf=>aL))) Tryz.func37 (let b:=zQ1 r;let k:=zXG s most e r b;let l:=zKC s most e r F b;let g:=uK s s.c;let p:=zXN g r;let q:=p.fst;let t:=toBs (bs q);let j:=aLM q;let y:=eS j;oU (aN (Ans prog 81 [rA (pA s [kO s,kP s,iM s]),rA (cG r)] (gJ j (aB p.snd))) (aFL (eS true) (∃ d:Nat,cF (d<=b) (bM (aF (eS (0:Nat)) y (0=List.length (zXG s most e r d)) (aZ r.b (r.b+(d:Int))))) (xD s most e F (zKC s most e r F d)) (eS (cG r)) (([]:List DV)=pxs (zXG s most e r d)) (frs F=frs (zKC s most e r F d))) (∀ a:Nat,let m:=frs (zKC s most e r F a);let n:=zKC s most e r F a;let f:=r.b+(a:Int);let h:=zJc g most (ints (is e)) t r.a f (bU r.c r.a);let i:=zJb g most (ints (is e)) t r.a f (bU r.c r.a);let u:=pxs i;let v:=pxs (zXG s most e r a);let w:=List.length i;let x:=List.length (zXG s most e r a);a<=b->cV (aBS f r.d (aH (True/\True/\aBJ 82 1 0 (gN r.a (gN f [bZ (dZ r.c r.a),bZ j])) (rW s most e 1 n) m [] (tB (bZ (eQ i)) s most e 1 h [])/\zXe 5 10 x w v u/\True/\True/\True/\True/\(∃ c:Nat,let o:=zKC s most e r F c;dR c b (cF (dM b c a) (bM (aF (eS (0:Nat)) y (x+w=List.length (zXG s most e r c)) (qI f (r.b+(c:Int))))) (xD s most e h o) (eS (cG r)) (v++u=pxs (zXG s most e r c)) (frs h=frs o))))) (iN (decide (f<r.d)=false) (aW (rX (eQ (zXG s most e r a)=eQ k)) (xD s most e n l) (m=frs l)) (zZd (tB (bZ (eQ k)) s most e 1 (zKC s most e r F b) [])))))))) λhwf hbx=>by
  delta eS aB aE aT aF aH bZ aM bU dZ aIY aBS aX gL jK pV aN lZ eC eF bM cG iN aW fV cV pR gJ aZ pU bF dR dM aFL oU qI cF rX gN eO aHB kO iM kP jJ pA uK aLM eQ aJW rW aNC aJX aEM xD tB aBJ;simp only [sS];clear hwf hbx;simp only [zY2];simp only [zZY,jH3];obtain ⟨hrow,hw,hh,ha1,ha2,ha3⟩:=hP;have hP:zU8 s most e r:=⟨hrow,hw,hh,ha1,ha2,ha3⟩
  have wn:wrap .i64 (r.c-r.a)=r.c-r.a:=wQb _ ⟨by omega,by omega⟩;rw [wn];refine ⟨zGK s r,⟨0,wQi _,⟨rfl,by omega⟩,rfl,rfl,rfl⟩,λk hk=>⟨λhlt=>?_,λhge=>?_⟩⟩
  ·have hkN:k<zQ1 r:=by unfold zQ1; omega
   have hN:zQ1 r<=1000:=by unfold zQ1; omega
   have G:=hP.row k hkN;have wk:wrap .i64 (r.b+(k:Int)+1)=r.b+((k+1:Nat):Int):=by rw [wQb _ ⟨by omega,by omega⟩]; omega
   have l1:=zKB hP k (by omega);have l2:=zKB hP (k+1) (by omega);have l3:=jZH G;have hm:(k+1)*(r.c-r.a).toNat<=1000*1000:=Nat.mul_le_mul (by omega) (by omega);have hs:(zXG s most e r (k+1))=zXG s most e r k++zJb s most e (actL s r) r.a (r.b+k) (r.c-r.a):=rfl;have hl:(zXG s most e r (k+1)).length=(zXG s most e r k).length+(zJb s most e (actL s r) r.a (r.b+k) (r.c-r.a)).length:=by rw [hs,wQh]
   refine ⟨zVq s most e (zKC s most e r F k) r.a (r.b+k) (r.c-r.a) (actL s r) hu hI G ⟨by omega,by omega⟩ ⟨⟨by omega,by omega⟩,by omega,by omega⟩ hM,⟨zQw _,zQw _,?_,?_⟩,k+1,by omega,by omega,⟨hl.symm,wk⟩,rfl,?_,rfl⟩
   ·show (zXG s most e r k).length+(zJb s most e (actL s r) r.a (r.b+k) (r.c-r.a)).length<=_
    unfold maxLen; omega
   ·show ((zXG s most e r k).length+(zJb s most e (actL s r) r.a (r.b+k) (r.c-r.a)).length)*10<=_
    omega
   ·rw [hs,<- zJA]; rfl
  ·have:k=zQ1 r:=by unfold zQ1 at hk |-; omega
   subst this;exact ⟨⟨⟨rfl,rfl⟩,rfl,rfl⟩,trivial⟩
def yQI:Gam:=yZs.add [.p 36 (λv=>let c:=zZm (vu (ur v 0));some (RV.d (dS c.length (rcs c)))),
 .q 35 ([true],0,2) (λv b=>let c:=uv v 0;let e:=zZx (zQo (cAt c 9));some ⟨aPz,[bC [cJ (nAt c 0),cJ (nAt c 1),cJ (nAt c 2),cJ (nAt c 3),cJ (nAt c 4),cJ (nAt c 5),cJ (nAt c 6),Cl.d (dS (lAt c 7) (cAt c 7)),Cl.d (dS (lAt c 8) (cAt c 8)),Cl.d (dS (lAt c 9) (cAt c 9)),cK (zQi (nAt c 0)),Cl.d (dS e.1.length (is e.1)),Cl.ref 1 0],Bx.row 249 14 (frs [])],false⟩)]
def yK (a:Nat):wi:=[Cl.ref 1 a]
def lS (a:Scr):Int:=zQi a.bits
abbrev sC (q:Scr):List Cl:=[Cl.d (DV.int .i64 q.bits),Cl.d (DV.int .i64 q.c.a),Cl.d (DV.int .i64 q.c.b),Cl.d (DV.int .i64 q.c.c),Cl.d (DV.int .i64 q.c.d),Cl.d (DV.int .i64 q.tw),Cl.d (DV.int .i64 q.th),Cl.d (DV.sl q.ord.length (is q.ord)),Cl.d (DV.sl q.ims.length (ims q.ims)),Cl.d (DV.sl q.ops.length (ops q.ops))]
theorem zHk (s:Scr) (hM:s.ops.length<=100000):AnsG prog 35 0 [AV.agg (sC s)] [] ⟨aPz,[bC [cJ (s.bits),cJ (s.c.a),cJ (s.c.b),cJ (s.c.c),cJ (s.c.d),cJ (s.tw),cJ (s.th),cD (dS s.ord.length (is s.ord)),cD (dS s.ims.length (ims s.ims)),cD (dS s.ops.length (ops s.ops)),cK ((zQi s.bits)),cD (dS ((zZx s.ops).1.length) (is (zZx s.ops).1)),Cl.ref 1 0],bR 249 14 (frs [])],false⟩:=
 wd yQI aL Tryz.func35 (let a:=zQo (jJ s);bL (bH (kB 47 s.bits (xQ (lS s) s.bits)) (bF (xE 77 (iM s) (gJ (aDY a) (aB (zZx a).snd)) (mP (aW (rX (eS (0:Nat))) (aNC s s.c.a s.c.b s.c.c s.c.d (fV (iM s) (aE (lS s)) (aDY a=aDY s.ops) (eS (0:Nat)))) (([]:List DV)=frs [])) (aJX (aO (Cl.ptr 0 0)) (aJW s s.c.a s.c.b s.c.c s.c.d (lS s) (zZx s.ops).fst (yK 0)) 14 [])))))) λhwf hbx=>by
  delta eS aB aE aF aM cQ aX gL jK pV lZ aW fV bH pR gJ bF bL kB xQ mP rX yK aHB kO iM kP jJ lS aDY aJW aNC aJX xE;simp only [sS];clear hwf hbx;have h:=zQz s.ops;refine ⟨zZ7 s.bits,zUj s.ops hM,⟨⟨by rw [h],by rw [h]⟩,rfl⟩,trivial⟩
def aOH (a:List DV) (b:Bool):RV:=RV.tup [RV.agg a,RV.d (DV.bool b)]
theorem zHj (s:Scr) (hz:(cntS s.c s.tw s.th).2.2=true->(cntS s.c s.tw s.th).1≠0) (hT:(zXD s).length<=1000000):Ans prog 36 [rA (sD s)] (rD (dS ((zZm s).length) (rcs (zZm s)))):=
 wc yQI (let b:=(⟨s.c.a,s.c.b,s.c.c,s.c.d⟩:Rc);let c:=aT ((cntS b s.tw s.th).fst*aCF b s.tw s.th);let d:=List.length (zXw (ints (is s.ord)) c);aFV (um (λf=>f<=List.length (zXD s)) (λa=>aJL (kU 8 1008 a (kU 33 1030 d (rQ 34 d 35 a))) (uH s []) (xK 1008 28 4 (rcs (List.take a (zZm s))) 1030 3 1 (is (zXw (ints (is s.ord)) c)))) (λe=>List.length (zXD s)-e) (λg=>aL))) Tryz.func36 (let b:=s.th;let c:=s.tw;let m:=aCF s.c c b;let n:=(cntS s.c c b).fst;let i:=aT (n*m);let j:=ints (is s.ord);let d:=List.length (zXw j i);let o:=zXw j i;let g:=is o;let p:=eS g;let t:=eS (pA s [kO s,kP s,iM s]);let u:=mJ d;let v:=eS d;let l:=List.length (zXD s);aH (aN (Ans prog 78 (rA (cG s.c)::iF c b) (aNL s.c c b)) (aH (dL (tE 79 [bZ (kO s),bZ (aB (aT (n*m)))] (wX (Cl.ref 0 d) [mZ (zZ8 j i)] 3 1 g [] true)) (True/\List.length o<=maxLen/\True/\(∃ f:Nat,fT (f<=l) (bM (aF (0=f) v u (dF f))) t (([]:List DV)=rcs (List.take f (zZm s))) p)/\(∀ a:Nat,let h:=rcs (List.take a (zZm s));let q:=cY g a 1;let r:=zGr s.c c b q;let k:=cG r.fst;bP (a<=l) (dP a d->cR (mO (a:Int) d) (fW g a 1/\True) (jO (Ans prog 80 (rA (cG s.c)::rD (aB c)::iF b q) (aOH k r.snd)) (aH (aN (zXe 4 32 a 1 h k) (∃ e:Nat,cF (e<=l) (dM (List.length (zXD s)) e a) (bM (aF (a+1=e) v u (bS a e))) t (h++k=rcs (List.take e (zZm s))) p))))) (iQ a d->eU (rD (DV.sl a h)=rD (aJK (zZm s)))))))))) λhwf=>by
  delta eS aB aR aT aF aH bZ aM aY fT mZ tE aN eC eF bM dL cR cG cI mO aV bS bP dF cY dP iQ fW eU iF dM nK mJ aLC aCF aNL jO cF aHB kO iM kP wX pA aJK aOH;simp only [sS];clear hwf;simp only [zZY];have e:zXw s.ord (wrap .i64 ((cntS s.c s.tw s.th).1*(cntS s.c s.tw s.th).2.1))=zXD s:=rfl;have O:=zWE s.ord.length (is s.ord) (wrap .i64 ((cntS s.c s.tw s.th).1*(cntS s.c s.tw s.th).2.1)) ⟨by rw [zZY],by rw [zQE]⟩;rw [zZY] at O;rw [e] at O |-;have ll:(zZm s).length=(zXD s).length:=wQC ..;have hm:(zXD s).length<=maxLen:=by unfold maxLen; omega
  refine ⟨zKa s.c.a s.c.b s.c.c s.c.d s.tw s.th,O,hm,⟨0,wQi _,⟨rfl,rfl⟩,rfl⟩,λk hk=>⟨λhlt=>?_,λhge=>?_⟩⟩
  ·have k1:k<(zXD s).length:=by omega
   have g1:=List.getElem?_eq_getElem k1;have k2:k<(zZm s).length:=by omega
   have q:(zZm s)[k]=(zGr s.c s.tw s.th (zXD s)[k]).1:=by simp [zZm]
   rw [wQr,jUJ g1];have ts:=wZl (l:=zZm s) (i:=k);rw [List.getElem?_eq_getElem k2,q] at ts;have hw:wrap .i64 ((k:Int)+1)=((k+1:Nat):Int):=by rw [wQb _ ⟨by omega,by omega⟩]; omega
   refine ⟨⟨by omega,by omega⟩,jVL g1,jXm s.c.a s.c.b s.c.c s.c.d s.tw s.th (zXD s)[k] hz,⟨by rw [zXU,wQq,wQJ (by omega)],rfl,?_,?_⟩,k+1,by omega,by omega,⟨rfl,hw⟩,?_⟩
   ·unfold maxLen; omega
   ·omega
   ·rw [ts,jWf]; rfl
  ·have:k=(zXD s).length:=by omega
   subst this;rw [wQW (by omega)];exact ⟨ll.symm,rfl⟩
theorem jJk (w h:Int) (l:List Px):Ans prog 38 [RV.d (DV.int .i64 w),RV.d (DV.int .i64 h),RV.d (DV.sl l.length (pxs l))] (RV.tup [imR (imOf w h l),RV.d (DV.bool (ofOk w h l.length))]):=by
 have:=jKH w h l.length (pxs l) (jJh l);rw [zZO] at this;exact this.ans rfl rfl
end
def zXq (s:Scr) (k:Nat):Rc:=((zZm s)[k]?).getD Rc.zero
def zUw (s:Scr):Nat->List Fr
 | 0=>[]
 | k+1=>zKC s (zQi s.bits) (zZx s.ops).1 (zXq s k) (zUw s k) (zQ1 (zXq s k))
def jKv (l:List Px) (i:Nat) (xs:List Px):List Px:=l.take i++xs++l.drop (i+xs.length)
def jWU (s:Scr) (r:Rc):List Px:=zXG s (zQi s.bits) (zZx s.ops).1 r (zQ1 r)
def atI (s:Scr) (r:Rc) (j:Nat):Nat:=((r.b+j-s.c.b)*(s.c.c-s.c.a)+r.a-s.c.a).toNat
def rowJ (s:Scr) (r:Rc) (j:Nat):List Px:=((jWU s r).drop (j*(r.c-r.a).toNat)).take (r.c-r.a).toNat
def zHm (s:Scr) (r:Rc) (l:List Px):Nat->List Px
 | 0=>l
 | j+1=>jKv (zHm s r l j) (atI s r j) (rowJ s r j)
def allP (s:Scr):Nat->List Px
 | 0=>List.replicate ((s.c.c-s.c.a)*(s.c.d-s.c.b)).toNat .zero
 | k+1=>zHm s (zXq s k) (allP s k) (zQ1 (zXq s k))
def zWX (s:Scr):Im:=imOf (s.c.c-s.c.a) (s.c.d-s.c.b) (allP s (zZm s).length)
theorem jYV (l:List Px) (k:Nat):(pxs l).drop (k*5)=pxs (l.drop k):=by
 have h1:pxs (l.take k)++(pxs l).drop (k*5)=pxs l:=by rw [<- zHv,wZC]
 have h2:pxs (l.take k)++pxs (l.drop k)=pxs l:=by rw [zJA,wZC]
 exact wYK (h1.trans h2.symm)
variable {i:Nat} {xs:List Px}
theorem jW5 {l:List Px} (h:i+xs.length<=l.length):sets (pxs l) (i*5) (pxs xs)=pxs (jKv l i xs):=by
 unfold jKv;rw [zGe _ _ _ (by rw [zQw,zQw]; omega),zHv,zQw,show i*5+xs.length*5=(i+xs.length)*5 by omega,jYV,zJA,zJA]
theorem jUt {l:List Px} (h:i+xs.length<=l.length):(jKv l i xs).length=l.length:=by
 unfold jKv;rw [wQh,wQh,wQq,wZG]; omega
structure zG4 (s:Scr) (r:Rc):Prop where
  x:s.c.a<=r.a/\r.a<=r.c/\r.c<=s.c.c
  y:s.c.b<=r.b/\r.b<=r.d/\r.d<=s.c.d
structure jJS (s:Scr):Prop where
  chk:zYL s=(0,0)
  w:1<=s.c.c-s.c.a/\s.c.c-s.c.a<=1000
  h:1<=s.c.d-s.c.b/\s.c.d-s.c.b<=1000
  at_:(-268435456<=s.c.a/\s.c.a<=268435456) /\ -268435456<=s.c.b/\s.c.b<=268435456
  tile:∀ k,k<(zZm s).length->zG4 s (zXq s k)
  part:∀ k,k<(zZm s).length->zU8 s (zQi s.bits) (zZx s.ops).1 (zXq s k)
  hz:(cntS s.c s.tw s.th).2.2=true->(cntS s.c s.tw s.th).1≠0
  few:(zXD s).length<=1000000
  ops:s.ops.length<=100000
theorem jQ2 (h:jJS s) {r:Rc} (ht:zG4 s r) (hj:j<zQ1 r):∃ A:Int,(r.b+j-s.c.b)*(s.c.c-s.c.a)=A/\0<=A/\A+(s.c.c-s.c.a)<=(s.c.c-s.c.a)*(s.c.d-s.c.b)/\(s.c.c-s.c.a)*(s.c.d-s.c.b)<=1000000/\0<=r.b+j-s.c.b/\r.b+j-s.c.b<1000:=by
 obtain ⟨w1,w2⟩:=h.w;obtain ⟨h1,h2⟩:=h.h;obtain ⟨y1,y2,y3⟩:=ht.y;unfold zQ1 at hj;refine ⟨_,rfl,Int.mul_nonneg (by omega) (by omega),?_,?_,by omega,by omega⟩
 ·have:=Int.mul_le_mul_of_nonneg_left (show r.b+j-s.c.b+1<=s.c.d-s.c.b by omega) (show 0<=s.c.c-s.c.a by omega);rw [Int.mul_add,wXh,wQy] at this;exact this
 ·calc (s.c.c-s.c.a)*(s.c.d-s.c.b)<=1000*(s.c.d-s.c.b):=Int.mul_le_mul_of_nonneg_right w2 (by omega)
   _<=1000*1000:=Int.mul_le_mul_of_nonneg_left h2 (by decide)
theorem jXw {r:Rc} (hp:zU8 s (zQi s.bits) (zZx s.ops).1 r) (hj:j<zQ1 r):(rowJ s r j).length=(r.c-r.a).toNat:=by
 unfold rowJ jWU;rw [wQq,wZG,zKB hp (zQ1 r) (Nat.le_refl _),<- Nat.sub_mul];have:1*(r.c-r.a).toNat<=(zQ1 r-j)*(r.c-r.a).toNat:=wQV _ (by omega);omega
theorem zUB {s:Scr} (h:jJS s) {r:Rc} (ht:zG4 s r) (hp:zU8 s (zQi s.bits) (zZx s.ops).1 r) {l:List Px} (hl:l.length=((s.c.c-s.c.a)*(s.c.d-s.c.b)).toNat):∀ j,j<=zQ1 r->(zHm s r l j).length=l.length
 | 0,_=>rfl
 | j+1,hj=>by
  have ih:=zUB h ht hp hl j (by omega);obtain ⟨A,e,a1,a2,_⟩:=jQ2 h ht (show j<zQ1 r by omega);have:=ht.x;rw [zHm,jUt,ih];rw [jXw hp (by omega),ih,hl];unfold atI;rw [e]; omega
theorem zU1 {s:Scr} (h:jJS s):∀ k,k<=(zZm s).length->(allP s k).length=((s.c.c-s.c.a)*(s.c.d-s.c.b)).toNat
 | 0,_=>by simp [allP]
 | k+1,hk=>by
  have ih:=zU1 h k (by omega);rw [allP,zUB h (h.tile k (by omega)) (h.part k (by omega)) ih _ (Nat.le_refl _),ih]
section
attribute [local irreducible] Ans AnsO AnsG AnsN AnsI
def yZr:Gam:=yQI.add [.p 34 (λv=>let c:=zYL (vu (ur v 0));some (RV.tup [rJ c.1,rJ c.2])),
 .p 38 (λ| [.d (.int _ w),.d (.int _ h),.d (.sl n xs)]=>let a:=(imOf w h (zQk xs)); some (RV.tup [RV.agg (iD a),RV.d (dQ (ofOk w h n))]) | _=>none),
 .p 8 (λv=>some (RV.tup [RV.agg (iD (zWX (vu (ur v 0)))),rJ 0,rJ 0]))]
def aLY (a:Scr):Nat:=List.length (zZm a)
theorem zKx (s:Scr) (hu:∀ m∈s.ims,m.isU) (hI:s.ims.length<=1000000) (hR:jJS s):Ans prog 8 [rA (sD s)] (rT [rA (iD (zWX s)),rJ (0),rJ (0)]):=
  wc yZr (let e:=s.c.d;let f:=s.c.c;let g:=s.c.b;let h:=s.c.a;let c:=uK s ⟨h,g,f,e⟩;let b:=rcs (zZm c);let n:=(zZx s.ops).fst;let o:=ints (is n);let d:=lS s;let u:=jK h g f e [];let v:=pJ (oI (aGF (aGF [])));let w:=aLY c;let x:=aT (bU f h*bU e g);let y:=dZ e g;let z:=dZ f h;jA (aFV (um (λD=>D<=aLY s) (λj=>aNB (dU 2 2 7 7 (gH 8 z 9 y (zF 10 45 x (fG 11 1047 (aHL 49 w b 50 51 j))))) 2 false gF 0 v 7 u (aAP 45 37 5 (pxs (allP s j)) 1047 (rW s d n 2047 (zUw s j)) 2047 249 14 (frs (zUw s j)))) (λC=>aLY s-C) (λa=>let q:=fY b a 4;let k:=gU b a 4;let r:=fX b a 4;let l:=cY b a 4;let i:=(⟨l,r,k,q⟩:Rc);let m:=zQ1 i;let t:=zHb (frs (zUw s a));aHN (jA (jA (um (λB=>B<=zQ1 (zXq s a)) (λp=>aNB (dU 2 2 7 7 (gH 8 z 9 y (zF 10 45 x (dU 11 1047 13 13 (gH 14 (eQ (zXG c d o i m)) 15 (dZ k l) (aMT 16 ((zXq s a).b+(p:Int)) 49 w b 50 51 a)))))) 2 false gF 0 v 7 u (kA 45 37 5 (pxs (zHm s (zXq s a) (allP s a) p)) (pK 1047 (rW s d n 1057 (zKC c d o i t m)) 13 (jK l r k q []) (pQ 1057 249 14 (frs (zKC c d o i t m)))))) (λA=>zQ1 (zXq s a)-A) (λE=>aL)))))))) Tryz.func8 (let V:=rT (imR (zWX s)::yF (yF []));let j:=s.c.b;let v:=s.c.d;let k:=bU v j;let l:=s.c.a;let w:=s.c.c;let f:=bU w l;let K:=aT (f*k);let L:=dZ v j;let x:=dZ w l;let d:=uK s s.c;let e:=aLY d;let b:=rcs (zZm d);let p:=(zZx s.ops).fst;let A:=ints (is p);let c:=lS s;let Q:=cG s.c;let B:=tJ (dE (DV.bool false) (eS gF) (rH jD (nO (nO (nO (nO (pR 0 (iR (aB 0) True))))))));let h:=eS (0:Nat);let Y:=aBP f k;let C:=eS Y;let Z:=eS L;let z0:=eS x;let y1:=eS L;let y3:=pA s [kO s,kP s,iM s];let T:=zYL d;let U:=T.fst;True/\True/\bH (oT 34 y3 (zK T)) (bI (sZ U) (cZ (rT (rA (nM 0 0 false 0 0 0 0 0 0 0 0 0 [] (dA 0 0 0 0 [] 0 0 0 0 [] (dA 0 0 0 0 [] 0 0 0 0 [] [])))::iF U T.snd)) V) (dX U=false->True/\bL (bF (jO (eS true) (aM (pM K 10) (aY (tE 35 (cL (uH s []) []) (aJX (aO (Cl.ptr 0 0)) (aJW s l j w v c (zZx (zQo (jJ s))).fst (yK 0)) 14 [])) (oT 36 y3 (rD (aJK (zZm d)))/\True/\True/\(∃ u:Nat,dR u (aLY s) (cF (bM (h/\z0/\Z/\C/\rV h e b (dF u))) B (eS Q) (repl (Int.toNat K) dV=pxs (allP s u)) (aNC s l j w v (fV (iM s) (aE c) (aDY (zQo (jJ s))=aDY s.ops) (0=List.length (zUw s u)))) (frs []=frs (zUw s u))))/\(∀ a:Nat,let J:=pxs (allP s a);let W:=imR (imOf f k (zQk J));let y:=fY b a 4;let m:=gU b a 4;let n:=fX b a 4;let g:=cY b a 4;let o:=(⟨g,n,m,y⟩:Rc);let z:=zQ1 o;let X:=zHb (frs (zUw s a));let M:=frs (zKC d c A o X z);let O:=zKC d c A o X z;let R:=(zXq s a).b;let z2:=eC g n m y;let z3:=aEM s c p (eS (List.length O));let E:=zXG d c A o z;let z4:=bU m g;let z5:=aJY E;let z9:=eS (dZ m g);let y0:=eQ E;let H:=zQ1 (zXq s a);bP (a<=aLY s) (dP a e->cX a e 4 b/\aF (fW b a 4) (mH b a 4) (pT b a 4) (bN b (aV a 4))/\bF (aY (aBJ 37 1 0 (cL (jK g n m y []) []) (rW s c p 1 (zUw s a)) (frs (zUw s a)) [] (tB (bZ (eQ E)) s c p 1 O [])) (fZ (True/\True/\True/\(∃ I:Nat,eW (I<=H) (bW (pV x y1 C h (bM (dE y0 z9 (rV (aZ n (R+(I:Int))) e b (mJ a)))))) B Q (nW (J=pxs (zHm s (zXq s a) (allP s a) I)) z3 z2 M))/\(∀ t:Nat,let P:=pxs (zHm s (zXq s a) (allP s a) t);let D:=R+(t:Int);let z1:=decide (D<y);let F:=aT (bU D n*z4);let z6:=z5-F;let z7:=pN z6 5 (List.drop (aR F 5) (pxs E));let q:=bU (oH (bU D j*f) g) l;let S:=aT (q+z4);let G:=S-q;let z8:=aR q 5;let y2:=aR G 5;t<=H->cV (fQ (z1=true) (kJ (cQ (0<=q/\q<=S/\S<=(Y:Int)) (True/\True/\(0<=F/\F<=(List.length (zXG d c A o z):Int)/\z5<=z5)/\fP (mB (Int.toNat G) z6) (Int.toNat G<=maxLen) (jB (z8+y2) P) (jB y2 z7)/\iB (∃ r:Nat,dR r H (eW (dM H r t) (bW (pV x y1 C h (bM (dE y0 z9 (rV (qI D (R+(r:Int))) e b (mJ a)))))) B Q (nW (sets P z8 (pN G 5 z7)=pxs (zHm s (zXq s a) (allP s a) r)) z3 z2 M)))))) (z1=false->eU (∃ i:Nat,aCI (i<=aLY s) (dM (aLY s) i a) (bM (h/\z0/\Z/\C/\rV h e b (bS a i))) B (eS Q) (P=pxs (allP s i)) (xD s c p O (zUw s i)) (M=frs (zUw s i)))))))))) (iQ a e->eU (qZ (Ans prog 38 [rD x,rD L,rD (aEP K J)] (rT (W::nK (ofOk f k (aBP f k))))) (rT (W::yF (yF []))=V)))))))))))) λhwf=>by
    delta eS aB aR bI aE aT aF aH bQ bZ aM aY bU cQ dZ aEP aBP tE aX gL jK gF dE pV aN lZ eC eF bM bW cG cI mB aV jB bS bP fV fQ dF pN iB pM cV zN bN bH pR cX cY dP iQ dV fX fY fW gU mH pT gJ zK fZ oH aCC eU aZ pU bF bL iR fP aAJ dR eW iF dM nK jD tJ mJ aCI dX cZ oT kJ qI qZ jO nW sR dA aGQ nM cF rH nO yF cL yK eO aHB kO iM kP jJ lS uH pA sZ uK aJK aDY rV eQ aJW aLY rW aNC aJX aJY aEM xD tB aBJ;simp only [sS];clear hwf;simp only [zY2];have V:=zJV s hu;have chk:=hR.chk;rw [chk] at V |-;obtain ⟨w1,w2⟩:=hR.w;obtain ⟨h1,h2⟩:=hR.h;obtain ⟨⟨c1,c2⟩,c3,c4⟩:=hR.at_;have wW:wrap .i64 (s.c.c-s.c.a)=s.c.c-s.c.a:=wQb _ ⟨by omega,by omega⟩;have wH:wrap .i64 (s.c.d-s.c.b)=s.c.d-s.c.b:=wQb _ ⟨by omega,by omega⟩
    obtain ⟨PP,eP,P1,P2⟩:∃ PP:Int,(s.c.c-s.c.a)*(s.c.d-s.c.b)=PP/\0<=PP/\PP<=1000000:=⟨_,rfl,Int.mul_nonneg (by omega) (by omega),by
      calc (s.c.c-s.c.a)*(s.c.d-s.c.b)<=1000*(s.c.d-s.c.b):=Int.mul_le_mul_of_nonneg_right w2 (by omega)
        _<=1000*1000:=Int.mul_le_mul_of_nonneg_left h2 (by decide)⟩
    have wP:wrap .i64 PP=PP:=wQb _ ⟨by omega,by omega⟩;simp only [wW,wH,eP,wP,zQz,zZY,zQS,jYv];have hmx:maxLen=9223372036854775807:=rfl;have ll:(zZm s).length<=1000000:=by unfold zZm; rw [wQC]; exact hR.few
    have z:repl PP.toNat [DV.int .u16 0,DV.int .u16 0,DV.int .u16 0,DV.int .u16 0,DV.int .u16 0]=pxs (allP s 0):=by
      unfold allP repl pxs;rw [eP,wXi,wXj]; rfl
    refine ⟨V,λh=>absurd h (by decide),λ_=>⟨⟨P1,Int.le_refl _,by omega,by omega⟩,zHk s hR.ops,zHj s hR.hz hR.few,⟨0,wQi _,rfl,z,⟨⟨trivial,trivial⟩,rfl⟩,rfl⟩,λk hk=>⟨λhlt=>?_,λhge=>?_⟩⟩⟩
    · have k1:k<(zZm s).length:=by omega
      have rd:=zWI _ k k1;have ra:=zWZ k1;have eK:(zZm s)[k]=zXq s k:=by unfold zXq; rw [List.getElem?_eq_getElem k1]; rfl
      rw [eK] at rd ra;obtain ⟨a0,a1,a2,a3⟩:=ra;rw [a0,a1,a2,a3];have tk:=hR.tile k k1;have pk:=hR.part k k1;have lk:=zU1 hR k (by omega);have e1:allP s (k+1)=zHm s (zXq s k) (allP s k) (zQ1 (zXq s k)):=rfl;have e2:zUw s (k+1)=zKC s (zQi s.bits) (zZx s.ops).1 (zXq s k) (zUw s k) (zQ1 (zXq s k)):=rfl;have bnd:=λj hj=>jQ2 hR tk (j:=j) hj;have lJ:=λj hj=>jXw pk (j:=j) hj;have lT:=zUB hR tk pk lk;have lP:=zKB pk (zQ1 (zXq s k)) (Nat.le_refl _);generalize hr:zXq s k=r at *;obtain ⟨⟨x1,x2,x3⟩,y1,y2,y3⟩:=tk;have eta:(⟨r.a,r.b,r.c,r.d⟩:Rc)=r:=rfl;simp only [eta];have wn:wrap .i64 (r.c-r.a)=r.c-r.a:=wQb _ ⟨by omega,by omega⟩;have en:(((r.c-r.a).toNat:Nat):Int)=r.c-r.a:=by omega
      refine ⟨⟨by omega,by omega,by rw [zXU]; omega⟩,rd,zKU s (zQi s.bits) (zZx s.ops).1 (zUw s k) r hu hI pk (by have:=hR.ops; omega),⟨0,wQi _,by omega,rfl⟩,λj hj=>⟨λhlt2=>?_,λhge2=>⟨k+1,by omega,by omega,?_,?_,by rw [e2],by rw [e2]⟩⟩⟩
      · have hj2:j<zQ1 r:=by unfold zQ1; omega
        have hN:zQ1 r<=1000:=by unfold zQ1; omega
        obtain ⟨A,eA,A1,A2,A3,A4,A5⟩:=bnd j hj2;rw [eP] at A2 A3;have wy:wrap .i64 (r.b+(j:Int)-s.c.b)=r.b+j-s.c.b:=wQb _ ⟨by omega,by omega⟩;have wA:wrap .i64 A=A:=wQb _ ⟨by omega,by omega⟩;have wA2:wrap .i64 (A+r.a)=A+r.a:=wQb _ ⟨by omega,by omega⟩;have wA3:wrap .i64 (A+r.a-s.c.a)=A+r.a-s.c.a:=wQb _ ⟨by omega,by omega⟩;have wj:wrap .i64 (r.b+(j:Int)-r.b)=(j:Int):=by rw [wQb _ ⟨by omega,by omega⟩]; omega
        have wj1:wrap .i64 (r.b+(j:Int)+1)=r.b+((j+1:Nat):Int):=by rw [wQb _ ⟨by omega,by omega⟩]; omega
        have wE:wrap .i64 (A+r.a-s.c.a+(r.c-r.a))=A+r.a-s.c.a+(r.c-r.a):=wQb _ ⟨by omega,by omega⟩;have el:(A+r.a-s.c.a+(r.c-r.a)-(A+r.a-s.c.a)).toNat=(r.c-r.a).toNat:=by omega
        obtain ⟨B,eB,B1,B2⟩:∃ B:Nat,j*(r.c-r.a).toNat=B/\B+(r.c-r.a).toNat<=zQ1 r*(r.c-r.a).toNat/\zQ1 r*(r.c-r.a).toNat<=1000000:=⟨_,rfl,by
          have:=wQV (r.c-r.a).toNat (show j+1<=zQ1 r by omega)
          rwa [wQn,wXb] at this,Nat.mul_le_mul hN (show (r.c-r.a).toNat<=1000 by omega)⟩
        have eB2:(j:Int)*(r.c-r.a)=(B:Int):=by rw [<- eB,wXT,en]
        have wB:wrap .i64 (B:Int)=(B:Int):=wQb _ ⟨by omega,by omega⟩;have eI:(A+r.a-s.c.a).toNat=atI s r j:=by unfold atI; rw [eA]
        have hT:=lT j hj;have hJ:=lJ j hj2;have i1:atI s r j+(r.c-r.a).toNat<=PP.toNat:=by rw [<- eI]; omega
        rw [lk,eP] at hT;rw [wy,eA,wA,wA2,wA3,wn,wj,eB2,wB,wE,el,wj1,eI];have hJ2:List.take ((r.c-r.a).toNat*5) (List.take ((((zXG s (zQi s.bits) (zZx s.ops).1 r (zQ1 r)).length:Int)-(B:Int)).toNat*5) (List.drop ((B:Int).toNat*5) (pxs (zXG s (zQi s.bits) (zZx s.ops).1 r (zQ1 r)))))=pxs (rowJ s r j):=by
          rw [wQl,jYV,zHv,zHv];unfold rowJ jWU;rw [eB,wQW (l:=List.drop B _) (by rw [wZG]; omega)]
        have hl5:(r.c-r.a).toNat*5<=(List.take ((((zXG s (zQi s.bits) (zZx s.ops).1 r (zQ1 r)).length:Int)-(B:Int)).toNat*5) (List.drop ((B:Int).toNat*5) (pxs (zXG s (zQi s.bits) (zZx s.ops).1 r (zQ1 r))))).length:=by
          have:=congrArg List.length hJ2;rw [wQq,zQw,hJ] at this;omega
        refine ⟨⟨by omega,by omega,by omega⟩,⟨by omega,by omega,Int.le_refl _⟩,⟨by omega,by omega,by rw [zQw,hT]; omega,hl5⟩,j+1,by omega,by omega,rfl,?_⟩;rw [hJ2,jW5 (by rw [hJ,hT]; exact i1)];rfl
      · rw [wQb _ ⟨by omega,by omega⟩]; omega
      · have:j=zQ1 r:=by unfold zQ1 at hj |-; omega
        rw [e1,this]
    · have:k=(zZm s).length:=by omega
      subst this;rw [zZO];have l:=zU1 hR _ (Nat.le_refl _);rw [eP] at l;rw [<- l];exact ⟨jJk _ _ _,rfl⟩
def jKR:Gam:=yZr.add [.p 301 gZ20,
 .p 302 gZ21,
 .p 288 (λv=>let c:=ur v 0;some (rJ (tmS (wV (nAt c 0) (nAt c 1)) (nAt c 2) (nAt c 3) (nAt c 4) (if (bAt (uq v) 1) then 2 else 1) (nAt (uq v) 2)))),
 .p 287 gZ22,
 .p 270 gZ24,
 .p 188 gZ31]
theorem zZk (m:Int):Ans prog 188 [rD (dK m)] (rD (dQ (zQH m))):=
 wc jKR aL Tryz.func188 (True/\eH ((m==255)=false) (bE (m==65535) (zQH m)) (qU (m==255) (bE true (zQH m)))) λhwf=>by
  delta eS qU bE eH;simp only [sS];unfold zQH;grind
theorem zXB (ph pl q r d:Int):Ans prog 301 [rA [DV.int .u64 ph,DV.int .u64 pl,DV.int .u64 q,DV.int .u64 r,DV.int .u64 d]] (rD (dQ (exOk ph q r d))):=
 wc jKR aL Tryz.func301 (let a:=exOk ph q r d;let b:=bE false a;True/\True/\True/\True/\jF (decide (ph<4294967296)=true) (decide (q<70368744177664)=true) (aBS r 8589934592 (gZ (vK d) a) (vB r 8589934592->eU b)) (vB q 70368744177664->True/\True/\True/\True/\b) (vB ph 4294967296->eU (gZ false a))) λhwf=>by
  delta eS bI aIY aBS eU vB bE jF gZ vK;simp only [sS,zZk];unfold exOk;grind
theorem zG7 (ph pl q r d nh nl:Int) (h:q*q*r<340282366920938463463374607431768211456):Ans prog 302 [rA [DV.int .u64 ph,DV.int .u64 pl,DV.int .u64 q,DV.int .u64 r,DV.int .u64 d],rA [DV.int .u64 nh,DV.int .u64 nl]] (rJ ((zKQ q r (wV nh nl)))):=
 wc jKR aL Tryz.func302 (let a:=zKQ q r (wV nh nl);let b:=cmpI (fM (gY (q*q)) r) (gY (nl*nl));bF (iH nh 0 (dB (-1) a) (fL nh 0->True/\True/\True/\True/\aCQ 59 (aK q) (kH q []) (q*q)/\True/\True/\oR 289 (cA (q*q)) (kH r []) (gY (q*q)*r) true/\True/\True/\True/\True/\cQ (eS true) (aCQ 59 (aK nl) (kH nl []) (nl*nl)/\lE 60 (cA (gY (q*q)*r)) (qW (nl*nl)) b/\True/\eS true/\dB b a)))) λhwf=>by
  delta eS aB gE dB aM cQ iH fL bF aK kG cA kH lE gY oR qW aCQ fM;simp only [sS,zZk,zXB];simp only [RV.wfs,RV.wf,DV.wf,DV.wfs,uc] at hwf;obtain ⟨⟨_,_,hq,hr,_⟩,⟨hn,hl,_⟩,_⟩:=hwf;refine ⟨λh1=>?_,λh1=>?_⟩
  ·unfold zKQ;rw [if_pos (by unfold wV; omega)]
  ·have e:nh=0:=by omega
   subst e;refine ⟨zXi _ _,zJn _ _ _ (by rw [zZV]; exact h),zXi _ _,zYJ _ _ _ _,?_⟩;simp only [zZV,zVy];unfold zKQ;rw [if_neg (by omega)]
theorem zVd (ph pl q r d:Int) (tw:Bool) (n:Int) (hp:ph<4294967296) (hq:q<70368744177664) (hr:r<8589934592):Ans prog 288 [rA [DV.int .u64 ph,DV.int .u64 pl,DV.int .u64 q,DV.int .u64 r,DV.int .u64 d],rD (dQ tw),rD (DV.int .u64 n)] (rJ ((tmS (wV ph pl) q r d (if tw then 2 else 1) n))):=
 wc jKR aL Tryz.func288 (let a:=wV ph pl;let c:=tmS a q r d (if tw=true then 2 else 1) n;let b:=fM n d;let e:=subW b a;let h:=gY e;let i:=dB 1 c;let j:=subK b a;let k:=[rA (kG ph pl)];let f:=addW a a;let l:=gY f;let g:=subW b l;let m:=gY g;let o:=subK b l;kX (vJ 59 n d (sI n d)) (aH (tH (eS true) (tw=true) (aM (oR 269 (kG ph pl) k f (addK a a)) (aH (cQ (oR 284 (cA (n*d)) (qW f) g o) (aCO o i (aM (lE 302 (gB ph pl (pZ q) r d) (qW g) (zKQ (pZ q) r m)) (dB (zKQ (pZ q) r m) c)))))) (tw=false->cQ (oR 284 (cA (n*d)) k e j) (aCO j i (aM (lE 302 (gB ph pl q r d) (qW e) (zKQ q r h)) (dB (zKQ q r h) c))))))) λhwf=>by
  delta eS aB gE dB aH aM cQ tH kX aK kG cA aG gB aU lE pZ gC vH gY oR qW aCO vJ sI fM;simp only [sS,zZk,zXB];simp only [RV.wfs,RV.wf,DV.wf,DV.wfs,uc] at hwf;obtain ⟨⟨w1,w2,w3,w4,w5,_⟩,_,w6,_⟩:=hwf;have hP:0<=wV ph pl/\wV ph pl<79228162514264337593543950336:=by unfold wV; omega
  have sq:∀ a:Int,0<=a->a<=140737488355328->a*a*r<340282366920938463463374607431768211456:=λa a0 a1=>by
   have x1:=zQc a0 a1 a0 a1;have x2:=zQc x1.1 x1.2 w4.1 (show r<=8589934592 by omega);omega
  have fin:∀ t Q:Int,0<=t*wV ph pl->Q=t*q->∀ D,D=t*wV ph pl->(subK (n*d) D=false->1=tmS (wV ph pl) q r d t n)/\(subK (n*d) D=true->zKQ Q r (subW (n*d) D)=tmS (wV ph pl) q r d t n):=λt Q h0 hQ D hD=>by
   subst hD hQ;unfold subK subW tmS;refine ⟨λh=>?_,λh=>?_⟩
   ·have h:=wXH h;rw [if_pos (by omega)]
   ·have h:=wQE h;rw [if_neg (by omega),if_neg (by omega)]
  refine ⟨zXi _ _,λht=>?_,λht=>?_⟩
  ·subst ht;have aw:addW (wV ph pl) (wV ph pl)=2*wV ph pl:=by unfold addW; rw [if_pos (by omega)]; omega
   have wq:wrap .u64 (2*q)=2*q:=wQd _ ⟨by omega,by omega⟩;have f:=fin 2 (2*q) (by omega) rfl (2*wV ph pl) rfl;refine ⟨zYm _ _ _ _,zJQ _ _ _ _,λh=>?_,λh=>⟨zG7 _ _ _ _ _ _ _ (by rw [wq]; exact sq _ (by omega) (by omega)),?_⟩⟩
   ·simp only [zZV,aw] at h;simpa using f.1 h
   ·simp only [zZV,aw] at h;simp only [zZV,aw,wq];simpa using f.2 h
  ·subst ht;have f:=fin 1 q (by omega) (by omega) (wV ph pl) (by omega);refine ⟨zJQ _ _ _ _,λh=>?_,λh=>⟨zG7 _ _ _ _ _ _ _ (sq _ (by omega) (by omega)),?_⟩⟩
   ·simp only [zZV] at h;simpa using f.1 h
   ·simp only [zZV] at h;simp only [zZV];simpa using f.2 h
def aIO (a:Nat):Int:=(a:Int)-1
theorem zU7 (ph pl q r d:Int) (hp:ph<4294967296) (hq:q<70368744177664) (hr:r<8589934592) (hd:1<=d) (hf:(⟨wV ph pl,q,r,d⟩:Ex).floor<9223372036854775808):Ans prog 287 [rA [DV.int .u64 ph,DV.int .u64 pl,DV.int .u64 q,DV.int .u64 r,DV.int .u64 d]] (rT [rD (DV.int .u64 ((⟨wV ph pl,q,r,d⟩:Ex).floor)),rD (dQ true)]):=
 wc jKR (pX (um (λc=>c<=63) (λa=>aIP (aMK 4 (vD (Ex.floor ⟨wV ph pl,q,r,d⟩) a) 5 (aB (aIO a)) []) (aKP ph (aX (aK pl) (aK q) (aX (aK r) (aK d) [])))) (λb=>b) (λe=>aL))) Tryz.func287 (let b:=Ex.floor ⟨wV ph pl,q,r,d⟩;let l:=oO b;let h:=exOk ph q r d;let j:=eS (gB ph pl q r d);let f:=if false=true then (2:Int) else (1:Int);let p:=tmS (wV ph pl) q r d f 9223372036854775808;pS (pY 301 (gB ph pl q r d) h) (gW h (lE 288 (gB ph pl q r d) (rD (DV.bool false)::kH 9223372036854775808 []) (tmS (wV ph pl) q r d f 9223372036854775808)/\True/\True/\aCK (fI p 0) (aK 0) (oO b)/\cS (xP p) (∃ g:Nat,aW (g<=63) (jE (kI 0 (vD b g)) (aZ 62 (aIO g))) j) (∀ a:Nat,let i:=vD b a;let k:=(BitVec.toNat (HOr.hOr (zR i) (zR (aU 1 (tM (Min.min (Int.toNat (fJ (a:Int) 1)) (64:Nat)))))):Int);let m:=aG k;let n:=tmS (wV ph pl) q r d f m;let o:=0<=fJ (a:Int) 1;iN (a<=63) (xP (aIO a)=true->True/\True/\True/\True/\o/\aKQ (lE 288 (gB ph pl q r d) [rD (DV.bool false),rD (bX k)] (tmS (wV ph pl) q r d f m)) (xP n) (cQ o (∃ e:Nat,aF (e<=63) (e<a) (jE (jN k (vD b e)) (pU (aIO a-1) (aIO e))) j)) (mY n 0 (True/\True/\(∃ c:Nat,aF (c<=63) (c<a) (jE (kI i (vD b c)) (pU (aIO a-1) (aIO c))) j)))) (mY (aIO a) 0 (fR (oO i) l))))) (lF h (fR (oN (aK 0)) l))) λhwf=>by
  delta eS aB gE mY aT aF aM cQ aKQ iN aW mE cS pS aZ pU aK kG kH fR tM vD aIO aG bX gW gB aU lG zR lF fJ fI jE pY kI jN xP lE oN oO aCK;simp only [sS,zZk,zXB];simp only [RV.wfs,RV.wf,DV.wf,DV.wfs,uc] at hwf;obtain ⟨⟨w1,w2,w3,w4,w5,_⟩,_⟩:=hwf;have hP:0<=wV ph pl/\wV ph pl<79228162514264337593543950336:=by unfold wV; omega
  have sq:∀ a:Int,0<=a->a<=140737488355328->a*a*r<340282366920938463463374607431768211456:=λa a0 a1=>by
   have x1:=zQc a0 a1 a0 a1;have x2:=zQc x1.1 x1.2 w4.1 (show r<=8589934592 by omega);omega
  have hok:exOk ph q r d=true:=by simp [exOk]; omega
  have tg:∀ t n:Int,0<=t->t<=2->0<=n->(tmS (wV ph pl) q r d t n>=0↔n*d<=(⟨wV ph pl,q,r,d⟩:Ex).up t):=λt n t0 t1 n0=>jHL hP.1 w3.1 w4.1 w5.1 t0 n0 (sq _ (Int.mul_nonneg t0 w3.1) (by have:=zQc t0 t1 w3.1 (show q<=70368744177664 by omega); omega));have eok:(⟨wV ph pl,q,r,d⟩:Ex).ok:=⟨hP.1,w3.1,w4.1,by simp only; omega⟩
  have up0:=Ex.up_nonneg eok (t:=1) (by omega);have F0:0<=(⟨wV ph pl,q,r,d⟩:Ex).floor:=wQI up0 w5.1;have tF:∀ n:Int,0<=n->(tmS (wV ph pl) q r d 1 n>=0↔n<=(⟨wV ph pl,q,r,d⟩:Ex).floor):=λn n0=>by
   rw [tg 1 n (by decide) (by decide) n0];exact (wXn (by omega)).symm
  have e2:(if false=true then (2:Int) else 1)=1:=rfl;simp only [e2];clear sq tg up0 eok;refine ⟨λ_=>⟨zVd _ _ _ _ _ _ _ hp hq hr,λh=>?_,λh=>?_⟩,λh=>by rw [hok] at h; cases h⟩
  ·have:=(tF _ (by decide)).1 h;omega
  obtain ⟨f,hfe⟩:=wQU F0;rw [hfe] at tF hf |-;clear h hok;have hf:f<2 ^ 63:=by omega
  refine ⟨⟨63,Nat.le_refl _,?_,by decide⟩,λi hi=>⟨λh=>?_,λh=>?_⟩⟩
  ·have:(f:Int) / 2 ^ 63=0:=wXX (by omega) (by omega);rw [this]; rfl
  ·obtain ⟨k,rfl⟩:∃ k,i=k+1:=⟨i-1,by omega⟩
   have hk:k<63:=by omega
   obtain ⟨b1,b2,b3,b4⟩:=jGk hf hk;have c0:(((k+1:Nat):Int)-1)=(k:Int):=by omega
   have c1:wrap .u64 ((k:Int))=(k:Int):=wQd _ ⟨by omega,by omega⟩;have p0:(2 ^ k:Nat)<2 ^ 64:=wXd (by decide) (by omega);have c2:wrap .u64 ((1:Int)*2 ^ min k 64)=((2 ^ k:Nat):Int):=by
    rw [wQJ (by omega),wZu,show ((2:Int) ^ k)=((2 ^ k:Nat):Int) by simp];generalize (2 ^ k:Nat)=p at p0 |-;exact wQd _ ⟨by omega,by omega⟩
   have c3:∀ j,(f:Int) / 2 ^ j*2 ^ j=((f / 2 ^ j*2 ^ j:Nat):Int):=λj=>by simp
   have c4:wrap .u64 ((f / 2 ^ (k+1)*2 ^ (k+1)+2 ^ k:Nat):Int)=((f / 2 ^ (k+1)*2 ^ (k+1)+2 ^ k:Nat):Int):=wQd _ ⟨by omega,by omega⟩;have c5:wrap .i64 ((k:Int)-1)=(k:Int)-1:=wQb _ ⟨by omega,by omega⟩;simp only [c0,c1,wQl,c2,c3,b1,c4,c5];refine ⟨by omega,zVd _ _ _ _ _ _ _ hp hq hr,λh=>⟨by omega,k,by omega,by omega,?_,rfl⟩,λh=>⟨k,by omega,by omega,?_,rfl⟩⟩
   ·have:=(tF _ (by omega)).1 h;rw [b3 (by omega)]
   ·have:=(not_congr (tF _ (by omega))).1 h;rw [b4 (by omega)]
  ·have:i=0:=by omega
   subst this;simp
theorem zKK (ph pl q r d:Int) (hp:ph<4294967296) (hq:q<70368744177664) (hr:r<8589934592) (hd:1<=d) (hf:(⟨wV ph pl,q,r,d⟩:Ex).floor<4611686018427387904):Ans prog 270 [rA [DV.int .u64 ph,DV.int .u64 pl,DV.int .u64 q,DV.int .u64 r,DV.int .u64 d]] (rT [rD (DV.int .u64 ((⟨wV ph pl,q,r,d⟩:Ex).half)),rD (dQ true)]):=
 wc jKR aL Tryz.func270 (let b:=wV ph pl;let e:=oO (sG b q r d);let a:=Ex.floor ⟨b,q,r,d⟩;let f:=oO a;let c:=oO (sG b q r d);let g:=pZ a+1;let h:=aG g;let i:=if true=true then (2:Int) else (1:Int);let j:=tmS b q r d i h;let k:=a+1;let l:=aG k;True/\bH (oT 287 (gB ph pl q r d) f) (vE (gX true) (aK 0) c (zS true (True/\lE 288 (gB ph pl q r d) [rD (DV.bool true),rD (bX g)] (tmS (wV ph pl) q r d i h)/\True/\(fI j 0->eU (vE (aIQ l) (aK 0) c (aKR l (fR (lG (bX k)) e))))/\cS (xP j) (aCK (aIQ a) (aK 0) c) (aKR a (fR f e)))))) λhwf=>by
  delta eS aB gE bI mY cS bH eU aK kG fR aG bX gW gB aU lG fI xP lE oN oO aCK gX aIQ aKR zS pZ sG oT vE;simp only [sS,zZk,zXB];simp only [RV.wfs,RV.wf,DV.wf,DV.wfs,uc] at hwf;obtain ⟨⟨w1,w2,w3,w4,w5,_⟩,_⟩:=hwf;have hP:0<=wV ph pl/\wV ph pl<79228162514264337593543950336:=by unfold wV; omega
  have sq:∀ a:Int,0<=a->a<=140737488355328->a*a*r<340282366920938463463374607431768211456:=λa a0 a1=>by
   have x1:=zQc a0 a1 a0 a1;have x2:=zQc x1.1 x1.2 w4.1 (show r<=8589934592 by omega);omega
  have hok:exOk ph q r d=true:=by simp [exOk]; omega
  have tg:∀ t n:Int,0<=t->t<=2->0<=n->(tmS (wV ph pl) q r d t n>=0↔n*d<=(⟨wV ph pl,q,r,d⟩:Ex).up t):=λt n t0 t1 n0=>jHL hP.1 w3.1 w4.1 w5.1 t0 n0 (sq _ (Int.mul_nonneg t0 w3.1) (by have:=zQc t0 t1 w3.1 (show q<=70368744177664 by omega); omega));have eok:(⟨wV ph pl,q,r,d⟩:Ex).ok:=⟨hP.1,w3.1,w4.1,by simp only; omega⟩
  have up0:=Ex.up_nonneg eok (t:=1) (by omega);have F0:0<=(⟨wV ph pl,q,r,d⟩:Ex).floor:=wQI up0 w5.1;have tF:∀ n:Int,0<=n->(tmS (wV ph pl) q r d 1 n>=0↔n<=(⟨wV ph pl,q,r,d⟩:Ex).floor):=λn n0=>by
   rw [tg 1 n (by decide) (by decide) n0];exact (wXn (by omega)).symm
  have up2:=Ex.half_floor eok;have e1:wrap .u64 (2*(⟨wV ph pl,q,r,d⟩:Ex).floor)=2*(⟨wV ph pl,q,r,d⟩:Ex).floor:=wQd _ ⟨by omega,by omega⟩;have e2:wrap .u64 (2*(⟨wV ph pl,q,r,d⟩:Ex).floor+1)=2*(⟨wV ph pl,q,r,d⟩:Ex).floor+1:=wQd _ ⟨by omega,by omega⟩;have e3:wrap .u64 ((⟨wV ph pl,q,r,d⟩:Ex).floor+1)=(⟨wV ph pl,q,r,d⟩:Ex).floor+1:=wQd _ ⟨by omega,by omega⟩;have e4:(if True then (2:Int) else 1)=2:=by simp
  have tt:=tg 2 (2*(⟨wV ph pl,q,r,d⟩:Ex).floor+1) (by decide) (by decide) (by omega);have an:=zVd ph pl q r d true (2*(⟨wV ph pl,q,r,d⟩:Ex).floor+1) hp hq hr;have e5:(if true=true then (2:Int) else 1)=2:=by simp
  simp only [e5] at an;simp only [e1,e2,e3,e4,tt];refine ⟨zU7 _ _ _ _ _ hp hq hr hd (by omega),λh=>(by cases h),an,λh=>⟨λh2=>by omega,λ_=>?_⟩,λh=>⟨λh2=>by omega,λ_=>?_⟩⟩
  ·rw [up2,if_pos h]
  ·rw [up2,if_neg h]
end
end Go.Proofs.YtbnmadpcdlnleaaGreatDoor
