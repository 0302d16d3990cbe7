/-
  Part 6 of what TopTraceExplains rests on.
-/
import Derived.Test.YtbnmadpcdlnleaaGreatDoorTopTraceExplainsZ5
namespace Go.Proofs.YtbnmadpcdlnleaaGreatDoor
open Go.IntKind (wrap)
open Go.RowKit
set_option linter.unusedVariables false
set_option linter.unusedSimpArgs false
set_option maxRecDepth 20000
open Go.Proofs.Tryz (prog)
variable {m:Int} {o:Oq}
section
attribute [local irreducible] Ans AnsO AnsG AnsN AnsI
def jWx:Gam:=jKR.add [.p 281 (λv=>some (RV.agg [DV.int .u64 0,DV.int .u64 (nAt (uq v) 0),DV.int .u64 0,DV.int .u64 0,DV.int .u64 1])),
 .p 283 (λv=>let e:=(nAt (uq v) 0)*(nAt (uq v) 1)*(nAt (uq v) 2);some (RV.agg [DV.int .u64 (hiW e),DV.int .u64 (loW e)])),
 .p 282 (λv=>some (RV.d (DV.int .u64 (zJN (nAt (uq v) 0) (nAt (uq v) 1) (nAt (uq v) 2) (nAt (uq v) 3))))),
 .p 285 gZ23,
 .p 268 gZ25]
theorem zJz (p:Int):Ans prog 281 [rD (DV.int .u64 p)] (rA [DV.int .u64 0,DV.int .u64 p,DV.int .u64 0,DV.int .u64 0,DV.int .u64 1]):=
 wc jWx aL Tryz.func281 (fZ (eS (rA [aK 0,aK p,aK 0,aK 0,aK 1]))) λhwf=>by
  delta eS fZ aK;simp only [sS]
theorem zZ5 (a b c:Int) (h:a*b*c<340282366920938463463374607431768211456):Ans prog 283 [rD (DV.int .u64 a),rD (DV.int .u64 b),rD (DV.int .u64 c)] (rA [DV.int .u64 (hiW (a*b*c)),DV.int .u64 (loW (a*b*c))]):=
 wc jWx aL Tryz.func283 (True/\True/\True/\vJ 59 a b (sI a b)/\True/\oR 289 (cA (a*b)) (kH c []) (fM a b*c) true/\aH (sI (fM a b) c=sI (a*b) c)) λhwf=>by
  delta eS aH aK kG cA kH gY oR vJ sI fM;simp only [sS,zJz];exact ⟨zXi _ _,zJn _ _ _ (by rw [zZV]; exact h),by rw [zZV],by rw [zZV]⟩
theorem zG6 (s a d b:Int) (h0:0<=s) (h1:s<=a) (h2:0<=d) (h3:d<=b) (ha:a<=65535) (hb:b<=65535):Ans prog 282 [rD (DV.int .u64 s),rD (DV.int .u64 a),rD (DV.int .u64 d),rD (DV.int .u64 b)] (rD (DV.int .u64 (zJN s a d b))):=
 wc jWx aL Tryz.func282 (let c:=iS (zJN s a d b);True/\True/\gV (aCY 2 s a) (cZ (vF (pZ s*d)) c) (sL (vF (aU a b-aU (pZ (fJ b d)) (fJ a s))=c))) λhwf=>by
  delta eS aH aK gV cZ aG bX aU fJ pZ iS vF sL aCY;simp only [sS,zJz];have W:=ud;have p1:=zQc (x:=2*s) (y:=d) (A:=131070) (B:=65535) (by omega) (by omega) h2 (by omega);have p2:=zQc (x:=a) (y:=b) (A:=65535) (B:=65535) (by omega) ha (by omega) hb;have p3:=zQc (x:=2*(b-d)) (y:=a-s) (A:=131070) (B:=65535) (by omega) (by omega) (by omega) (by omega);simp only [W (2*s) (by omega) (by omega),W (b-d) (by omega) (by omega),W (2*(b-d)) (by omega) (by omega),W (a-s) (by omega) (by omega),W (a*b) (by omega) (by omega),W (2*s*d) (by omega) (by omega),W (2*(b-d)*(a-s)) (by omega) (by omega)];have hh:=zUM h0 h1 h2 h3;unfold zJN at hh |-;refine ⟨λh=>by rw [if_pos h],λh=>?_⟩;rw [if_neg h] at hh |-;exact W _ hh.1 (by omega)
def aIR (a:DV) (b:Int):Prop:=Ans prog 281 [RV.d a] (kQ b)
def zZ (a:Int) (b:List RV) (c:Int):Prop:=aCQ 283 (bX a) b c
theorem jJU (s a d b:Int) (h0:0<=s) (h1:s<=a) (h2:0<=d) (h3:d<=b) (ha:a<=65535) (hb:b<=65535):Ans prog 285 [rD (DV.int .u64 s),rD (DV.int .u64 a),rD (DV.int .u64 d),rD (DV.int .u64 b)] (rA [DV.int .u64 (hiW (zYw s a d b).p),DV.int .u64 (loW (zYw s a d b).p),DV.int .u64 ((zYw s a d b).q),DV.int .u64 ((zYw s a d b).r),DV.int .u64 ((zYw s a d b).d)]):=
 wc jWx aL Tryz.func285 (let e:=zYw s a d b;let c:=pZ s;let h:=aU (aU 12 d) b;let i:=aU (aU 16 d) d+aU (aU 3 b) b;let f:=aU (aG (c-a)) d*sK i h;let j:=aU d a*aG (b*b);let k:=fM j 1;let l:=addW k (fM f 1);let m:=f*1;let n:=j*1;let o:=aU (aG (a-c)) d*fJ b d;let p:=fM o 1;let q:=fM (aU d a*b) 1;let g:=subW q p;let r:=o*1;let t:=aU d a*b*1;True/\qT b 0 (gI (aIR (aK 0) 0) (jG (kQ 0) (zYw s a d b))) (dO (bK b) (bI (lH c a) (aM (zZ (d*a) (vW (aK b) 1) t) (aH (cR (zZ (fJ a c*d) (vW (bX (b-d)) 1) r) (oR 284 (cA t) (qW r) g (subK q p)) (aH (jG (rA (gB (hiW g) (loW g) 0 0 b)) e))))) (dO (aCY 2 s a) (tQ (aU 4 d) b (aEQ (zZ (d*a) (vW (bX (b*b)) 1) n) (kJ (True/\True/\zZ (fJ c a*d) (vW (bX (aG i-h)) 1) m/\zT 269 n m k (fM f 1)/\sL (jG (rA (gB (hiW l) (loW l) 0 0 (aG (b*b)))) e)))) (aCY 4 d b=false->kJ (jG (rA (gB 0 (aU (pZ d) (fJ a s)) (fJ c a) (aU d b) 1)) e))))))) λhwf=>by
  delta eS bI aH aM aY bK aEQ cR dO fQ gI qT aK kG cA vW aG bX gB aU fJ pZ gY oR qW zT kJ lH tQ aCQ fM aGZ kQ sL sK aIR zZ aCY jG;simp only [sS,zJz];have W:=ud;have p1:=zQc (x:=d) (y:=a) (A:=65535) (B:=65535) h2 (by omega) (by omega) ha;have p2:=zQc (x:=b) (y:=b) (A:=65535) (B:=65535) (by omega) hb (by omega) hb;have p5:=zQc (x:=d) (y:=b) (A:=65535) (B:=65535) h2 (by omega) (by omega) hb;have p6:=zQc (x:=d*a) (y:=b) (A:=4294836225) (B:=65535) p1.1 (by omega) (by omega) hb;have z1:hiW 1=0:=rfl;have hz:hiW 0=0/\loW 0=0:=⟨rfl,rfl⟩
  have su:=zWV h0 h1 h2 h3;simp only [W (2*s) (by omega) (by omega),W (d*a) p1.1 (by omega),W (b-d) (by omega) (by omega),W (a-s) (by omega) (by omega),W (b*b) p2.1 (by omega),W (4*d) (by omega) (by omega),W (d*b) p5.1 (by omega),W (16*d) (by omega) (by omega),W (3*b) (by omega) (by omega),W (12*d) (by omega) (by omega),W (2*d) (by omega) (by omega),wXh];unfold zYw at su |-;refine ⟨λh=>?_,λh=>⟨λc1=>?_,λc1=>⟨λc2=>?_,λc2=>?_⟩⟩⟩
  ·have h:b=0:=by simpa using h
   rw [if_pos h]
   (repeat' (first | exact trivial | rfl | apply And.intro))
  ·have h:¬ b=0:=by simpa using h
   rw [if_neg h,if_pos c1] at su |-;have q1:=zQc (x:=a-2*s) (y:=d) (A:=65535) (B:=65535) (by omega) (by omega) h2 (by omega);have q2:=zQc (x:=(a-2*s)*d) (y:=b-d) (A:=4294836225) (B:=65535) q1.1 (by omega) (by omega) (by omega);have q3:=su.ok.p;simp only at q3;simp only [W (a-2*s) (by omega) (by omega),W ((a-2*s)*d) q1.1 (by omega)];have w1:=zZ5 (d*a) b 1 (by omega);have w2:=zZ5 ((a-2*s)*d) (b-d) 1 (by omega);simp only [wXh] at w1 w2;have e:subW (d*a*b) ((a-2*s)*d*(b-d))=d*a*b-(a-2*s)*d*(b-d):=by unfold subW; rw [if_neg (by omega)]
   refine ⟨w1,w2,zJQ _ _ _ _,?_⟩;simp only [zZV,e]
   (repeat' (first | exact trivial | rfl | apply And.intro))
  ·have h:¬ b=0:=by simpa using h
   rw [if_neg h,if_neg c1,if_pos c2] at su |-;have ⟨k1,k2⟩:=jXq h2 c2;have e16:16*d*d=16*(d*d):=by grind
   have e12:12*d*b=12*(d*b):=by grind
   have e3:3*b*b=3*(b*b):=by grind
   have p7:=zQc (x:=d) (y:=d) (A:=65535) (B:=65535) h2 (by omega) h2 (by omega);have q1:=zQc (x:=2*s-a) (y:=d) (A:=65535) (B:=65535) (by omega) (by omega) h2 (by omega);have q4:=zQc (x:=d*a) (y:=b*b) (A:=4294836225) (B:=4294836225) p1.1 (by omega) p2.1 (by omega);have kk:16*d*d+3*b*b-12*d*b<=81601888275:=by omega
   have q5:=zQc (x:=(2*s-a)*d) (y:=16*d*d+3*b*b-12*d*b) (A:=4294836225) (B:=81601888275) q1.1 (by omega) k1 kk;simp only [W (16*d*d) (by omega) (by omega),W (3*b*b) (by omega) (by omega),W (16*d*d+3*b*b) (by omega) (by omega),W (12*d*b) (by omega) (by omega),W (16*d*d+3*b*b-12*d*b) k1 (by omega),W (2*s-a) (by omega) (by omega),W ((2*s-a)*d) q1.1 (by omega)];have w1:=zZ5 (d*a) (b*b) 1 (by omega);have w2:=zZ5 ((2*s-a)*d) (16*d*d+3*b*b-12*d*b) 1 (by omega);simp only [wXh] at w1 w2;have e:addW (d*a*(b*b)) ((2*s-a)*d*(16*d*d+3*b*b-12*d*b))=d*a*(b*b)+(2*s-a)*d*(16*d*d+3*b*b-12*d*b):=by unfold addW; rw [if_pos (by omega)]
   refine ⟨w1,w2,zYm _ _ _ _,?_⟩;simp only [zZV,e]
   (repeat' (first | exact trivial | rfl | apply And.intro))
  ·have h:¬ b=0:=by simpa using h
   rw [if_neg h,if_neg c1,if_neg c2];have q1:=zQc (x:=2*d) (y:=a-s) (A:=131070) (B:=65535) (by omega) (by omega) (by omega) (by omega);simp only [W (2*d*(a-s)) q1.1 (by omega),W (2*s-a) (by omega) (by omega)];refine ⟨(zYf q1.1 (by omega)).symm,(zXW q1.1 (by omega)).symm,?_⟩
   (repeat' (first | exact trivial | rfl | apply And.intro))
def tS (a b c:Int):Int:=dG (aG a-aG b) c
def zY (a:DV) (b c d e f g:Int):Prop:=aY (aIR a b) (xS (zX b 1 true) c d e f g)
theorem zU5 (mode s a d b:Int):Ans prog 268 [rJ (mode),rD (dK s),rD (dK a),rD (dK d),rD (dK b)] (rT [rA [DV.int .u64 (hiW (blE mode s a d b).p),DV.int .u64 (loW (blE mode s a d b).p),DV.int .u64 ((blE mode s a d b).q),DV.int .u64 ((blE mode s a d b).r),DV.int .u64 ((blE mode s a d b).d)],rD (dQ (blK mode s a d b))]):=
 wc jWx aL Tryz.func268 (let n:=aFN mode s a d b;let o:=zX 0 0 false;let c:=aG d;let e:=aG s;let v:=aU (pZ e) c;let g:=dG d a;let f:=dG s b;let p:=f+g;let w:=aG p;let j:=Min.min f g;let k:=Max.max f g;let h:=aG b;let i:=aG a;let x:=zYw e i c h;let y:=[rD (bX d),rD (bX b)];let l:=zJN e i c h;let z:=sK b c*aG a;let A:=fM z i;let q:=aG a*aG b;let B:=fM q e;let r:=subW B A;let C:=z*aG a;let D:=q*aG s;let t:=rD (bX a);let E:=fR (zX 0 1 true) n;let F:=zY (bX q) (dG a b) mode s a d b;let u:=i*i*aG d;let G:=dG b (aG a-e);let m:=zJN c h e i;bF (aFR (zW 249 mode) (mN mode) (sM s a (iH d b (fR o n) (fL d b->True/\True/\True/\True/\aH (mL mode 1 (zY (bX (aG s*aG b)) f mode s a d b) (mG (mode==1) (dC mode 2 (zY (bX (aG s*aG d)) (dG s d) mode s a d b)) mode 2 (dC mode 3 (aH (zY (bX (w-dG s d)) (sK p (dG s d)) mode s a d b))) (xT mode 3 (aFO mode 4 (cR (nY 282 (bX d) (bX b) [rD (bX s),t] (iS m)) (aIR (aK m) m) (xS (zX m 1 true) mode s a d b))) 4 (dC mode 5 (True/\True/\True/\True/\zY (aK j) j mode s a d b)) 5 (dC mode 6 (True/\True/\True/\True/\zY (aK k) k mode s a d b)) 6 (dN mode 7 (True/\mI c 0 (aIR (aK 0) 0) E/\dO (bK c) (True/\True/\True/\True/\bI (fI g G) F (aAA g G (dL (zZ a [t,rD (bX d)] u) (xS (aFP (hiW u) (loW u) 0 0 (sK a e) true) mode s a d b)))))) (xT mode 7 ((mode==8)=true->mL c h F (dO (c==h) (True/\True/\True/\True/\fQ (fI (tS b d a) f) (aIR (aK 0) 0/\E) (aAA (tS b d a) f (aY (zZ a [rD (bX b),rD (bX s)] D) (True/\True/\True/\nY 283 (bX (aG b-c)) (bX a) [t] (rA (cA C))/\aN (oR 284 (cA D) (qW C) r (subK B A)) (aH (xS (aFP (hiW r) (loW r) 0 0 e true) mode s a d b)))))))) 8 (aFO mode 9 (cR (nY 282 (bX s) (bX a) y (iS l)) (aIR (aK l) l) (xS (zX l 1 true) mode s a d b))) 9 (dN mode 10 (True/\True/\aY (nY 285 (bX s) (bX a) y (aFQ x)) (xS (vM x true) mode s a d b))) 10 (dC mode 11 (sL (zY (bX (k-j)) (fJ k j) mode s a d b))) (nJ (mode==11) (aH (zY (bX (w-v)) (sK p v) mode s a d b))))))))) (lB (decide (s>a)) false (xS o mode s a d b))) (hZ (mN mode) (cZ o n)))) λhwf=>by
  delta eS aB bI aH aY bK dC nY dN aN dL cR dO iH iO fQ fL cS mG mI bF kB nJ aK kG cA fR cZ lB aG bX gB aU fJ fI pZ iS uI aAA mL gC gY oR qW aCQ fM dG aFP aGZ kQ xT oV hZ mN zX zW sM sL sK vM aIR tS xS zZ zY aFR aFO aFQ aFN;simp only [sS,zJz];simp only [RV.wfs,RV.wf,DV.wf,DV.wfs,uc] at hwf;have W:=ud;obtain ⟨_,⟨s0,s1⟩,⟨a0,a1⟩,⟨d0,d1⟩,⟨b0,b1⟩,_⟩:=hwf;simp only [W s s0 (by omega),W a a0 (by omega),W d d0 (by omega),W b b0 (by omega)];have bad:¬ (isNm mode=true/\s<=a/\d<=b)->blK mode s a d b=false/\blE mode s a d b=.zero:=λhn=>by
   have:blK mode s a d b=false:=by
    cases e:blK mode s a d b with
    | false=>rfl
    | true=>
     simp only [blK,wQe,wQj] at e;exact absurd ⟨e.1,e.2.1,e.2.2⟩ hn
   exact ⟨this,by unfold blE; rw [this]; rfl⟩
  have good:isNm mode=true->s<=a->d<=b->blK mode s a d b=true/\blE mode s a d b=zQd mode s a d b:=λh1 h2 h3=>by
   have:blK mode s a d b=true:=by unfold blK; rw [h1,decide_eq_true h2,decide_eq_true h3]; rfl
   exact ⟨this,by unfold blE; rw [if_pos this]⟩
  refine ⟨zZu _,λhm=>⟨λhsa=>⟨λhdb=>?_,λhdb=>?_⟩,λhsa=>?_⟩,λhm=>?_⟩
  case refine_1=>rw [(bad λh=>by omega).1,(bad λh=>by omega).2]; exact ⟨⟨rfl,rfl,rfl,rfl,rfl⟩,rfl⟩
  case refine_3=>rw [(bad λh=>by omega).1,(bad λh=>by omega).2]; exact ⟨⟨rfl,rfl,rfl,rfl,rfl⟩,rfl⟩
  case refine_4=>rw [(bad λh=>hm (wQE h.1)).1,(bad λh=>hm (wQE h.1)).2]; exact ⟨⟨rfl,rfl,rfl,rfl,rfl⟩,rfl⟩
  have h1:s<=a:=by omega
  have h2:d<=b:=by omega
  obtain ⟨g1,g2⟩:=good (decide_eq_true hm) h1 h2;clear good bad hsa hdb hm;have hu:=zZy (mode:=mode) s0 h1 d0 h2;rw [g1,g2];clear g1 g2;have sb:=zQc (x:=s) (y:=b) (A:=65535) (B:=65535) s0 s1 b0 b1;have da:=zQc (x:=d) (y:=a) (A:=65535) (B:=65535) d0 d1 a0 a1;have sd:=zQc (x:=s) (y:=d) (A:=65535) (B:=65535) s0 s1 d0 d1;have ab:=zQc (x:=a) (y:=b) (A:=65535) (B:=65535) a0 a1 b0 b1;have ba:=zQc (x:=b) (y:=a-s) (A:=65535) (B:=65535) b0 b1 (by omega) (by omega);have bd:=zQc (x:=b-d) (y:=a) (A:=65535) (B:=65535) (by omega) (by omega) a0 a1;have s2:=zQc (x:=2*s) (y:=d) (A:=131070) (B:=65535) (by omega) (by omega) d0 d1;simp only [W (s*b) sb.1 (by omega),W (d*a) da.1 (by omega),W (s*d) sd.1 (by omega),W (a*b) ab.1 (by omega),W (a-s) (by omega) (by omega),W (b-d) (by omega) (by omega),W (b*(a-s)) ba.1 (by omega),W ((b-d)*a) bd.1 (by omega),W (2*s) (by omega) (by omega),W (2*s*d) s2.1 (by omega),W (s*b+d*a) (by omega) (by omega)];have fin:∀ n X:Int,zQd mode s a d b=zZe n->(0<=n->n<=a*b->X=n)->(0=hiW (zQd mode s a d b).p/\X=loW (zQd mode s a d b).p/\0=(zQd mode s a d b).q/\0=(zQd mode s a d b).r/\1=(zQd mode s a d b).d):=λn X e hX=>by
   rw [e] at hu |-;have n0:0<=n:=hu.ok.p;have n1:n<=a*b*1:=hu.p;have n2:n<=a*b:=by omega
   rw [hX n0 n2];exact ⟨(zYf n0 (by omega)).symm,(zXW n0 (by omega)).symm,rfl,rfl,rfl⟩
  have fex:∀ x y:Ex,y=x->(hiW x.p=hiW y.p/\loW x.p=loW y.p/\x.q=y.q/\x.r=y.r/\x.d=y.d):=λx y h=>by rw [h]; exact ⟨rfl,rfl,rfl,rfl,rfl⟩
  refine ⟨λc=>?_,λc1=>?_⟩
  ·have c:mode=1:=by simpa using c
   exact ⟨fin (s*b) _ (by rw [c]; rfl) λ_ _=>rfl,trivial⟩
  refine ⟨λc=>?_,λc2=>?_⟩
  ·have c:mode=2:=by simpa using c
   exact ⟨fin (s*d) _ (by rw [c]; rfl) λ_ _=>rfl,trivial⟩
  refine ⟨λc=>?_,λc3=>?_⟩
  ·have c:mode=3:=by simpa using c
   exact ⟨fin (s*b+d*a-s*d) _ (by rw [c]; rfl) λq0 q1=>W _ q0 (by omega),trivial⟩
  refine ⟨λc=>?_,λc4=>?_⟩
  ·have c:mode=4:=by simpa using c
   exact ⟨zG6 d b s a d0 h2 s0 h1 b1 a1,fin (zJN d b s a) _ (by rw [c]; rfl) λ_ _=>rfl,trivial⟩
  refine ⟨λc=>?_,λc5=>?_⟩
  ·have c:mode=5:=by simpa using c
   exact ⟨fin (min (s*b) (d*a)) _ (by rw [c]; rfl) λ_ _=>rfl,trivial⟩
  refine ⟨λc=>?_,λc6=>?_⟩
  ·have c:mode=6:=by simpa using c
   exact ⟨fin (max (s*b) (d*a)) _ (by rw [c]; rfl) λ_ _=>rfl,trivial⟩
  refine ⟨λc=>?_,λc7=>?_⟩
  ·have c:mode=7:=by simpa using c
   have e7:zQd mode s a d b=if d=0 then zZe 0 else if d*a>=b*(a-s) then zZe (a*b) else ⟨a*a*d,0,0,a-s⟩:=by rw [c]; rfl
   refine ⟨λk=>?_,λk=>⟨λk2=>?_,λk2=>?_⟩⟩
   ·have k:d=0:=by simpa using k
    exact ⟨fin 0 0 (by rw [e7,if_pos k]) λ_ _=>rfl,trivial⟩
   ·have k:¬ d=0:=by simpa using k
    exact ⟨fin (a*b) _ (by rw [e7,if_neg k,if_pos k2]) λ_ _=>rfl,trivial⟩
   ·have k:¬ d=0:=by simpa using k
    have aa:=zQc (x:=a) (y:=a) (A:=65535) (B:=65535) a0 a1 a0 a1;have aad:=zQc (x:=a*a) (y:=d) (A:=4294836225) (B:=65535) aa.1 (by omega) d0 d1;exact ⟨zZ5 a a d (by omega),fex ⟨a*a*d,0,0,a-s⟩ _ (by rw [e7,if_neg k,if_neg k2]),trivial⟩
  refine ⟨λc=>?_,λc8=>?_⟩
  ·have c:mode=8:=by simpa using c
   have e8:zQd mode s a d b=if d=b then zZe (a*b) else if (b-d)*a>=s*b then zZe 0 else ⟨a*b*s-(b-d)*a*a,0,0,s⟩:=by rw [c]; rfl
   refine ⟨λk=>?_,λk=>⟨λk2=>?_,λk2=>?_⟩⟩
   ·have k:d=b:=by simpa using k
    exact ⟨fin (a*b) _ (by rw [e8,if_pos k]) λ_ _=>rfl,trivial⟩
   ·have k:¬ d=b:=by simpa using k
    exact ⟨fin 0 0 (by rw [e8,if_neg k,if_pos k2]) λ_ _=>rfl,trivial⟩
   ·have k:¬ d=b:=by simpa using k
    have e:zQd mode s a d b=⟨a*b*s-(b-d)*a*a,0,0,s⟩:=by rw [e8,if_neg k,if_neg k2]
    have q0:=hu.ok.p;rw [e] at q0;simp only at q0;have abs:=zQc (x:=a*b) (y:=s) (A:=4294836225) (B:=65535) ab.1 (by omega) s0 s1;have bda:=zQc (x:=(b-d)*a) (y:=a) (A:=4294836225) (B:=65535) bd.1 (by omega) a0 a1;have es:subW (a*b*s) ((b-d)*a*a)=a*b*s-(b-d)*a*a:=by unfold subW; rw [if_neg (by omega)]
    refine ⟨zZ5 a b s (by omega),zZ5 (b-d) a a (by omega),zJQ _ _ _ _,?_⟩;simp only [zZV,es];exact ⟨fex ⟨a*b*s-(b-d)*a*a,0,0,s⟩ _ e,trivial⟩
  refine ⟨λc=>?_,λc9=>?_⟩
  ·have c:mode=9:=by simpa using c
   exact ⟨zG6 s a d b s0 h1 d0 h2 a1 b1,fin (zJN s a d b) _ (by rw [c]; rfl) λ_ _=>rfl,trivial⟩
  refine ⟨λc=>?_,λc10=>?_⟩
  ·have c:mode=10:=by simpa using c
   exact ⟨jJU s a d b s0 h1 d0 h2 a1 b1,fex _ _ (by rw [c]; rfl),trivial⟩
  refine ⟨λc=>?_,λc11=>?_⟩
  ·have c:mode=11:=by simpa using c
   exact ⟨fin (max (s*b) (d*a)-min (s*b) (d*a)) _ (by rw [c]; rfl) λq0 q1=>W _ q0 (by omega),trivial⟩
  ·have n:∀ k:Int,(mode==k)=false->¬ mode=k:=λk h=>by simpa using h
   exact ⟨fin (s*b+d*a-2*s*d) _ (by unfold zQd; rw [if_neg (n _ c1),if_neg (n _ c2),if_neg (n _ c3),if_neg (n _ c4),if_neg (n _ c5),if_neg (n _ c6),if_neg (n _ c7),if_neg (n _ c8),if_neg (n _ c9),if_neg (n _ c10),if_neg (n _ c11)]) λq0 q1=>W _ q0 (by omega),trivial⟩
def jX5:Gam:=jWx.add [.p 272 gZ26,
 .p 255 gZ27,
 .p 250 gZ28,
 .p 271 gZ29,
 .p 252 gZ30,
 .p 251 gZ32,
 .p 253 gZ33,
 .p 254 gZ34]
theorem zV6 (op a b m:Int):Ans prog 272 [rJ (op),rD (dK a),rD (dK b),rD (dK m)] (rT [rD (dK (fcA op a b m)),rD (dK (fcB op a b m)),rD (dQ (fcK op a b m))]):=
 wc jX5 aL Tryz.func272 (let c:=aMN op a b m;let f:=rT (rD gF::jM 0 (nK false));let d:=fH (m-a);let e:=fH (m-b);pS (zW 248 op) (oV (mN op) (sM a m (iH b m (fR f c) (fL b m->eH ((op==2)=true) (qX (sN m 0) op a b m) (mG (op==2) (aFO op 3 (qX (sN 0 m) op a b m)) op 3 (dN op 4 (bL (qX (sN m d) op a b m))) (xT op 4 (dN op 5 (bL (qX (sN e m) op a b m))) 5 (aFO op 6 (qX (sN b 0) op a b m)) 6 (aFO op 7 (qX (sN 0 a) op a b m)) 7 (dC op 8 (cZ (sN e 0) c)) (xT op 8 (dC op 9 (cZ (sN 0 d) c)) 9 (dN op 10 (bL (qX (sN b d) op a b m))) 10 (dN op 11 (bL (qX (sN e a) op a b m))) 11 (dN op 12 (aH (qX (sN e d) op a b m))) (nJ (op==12) (qX (rT (rD gF::jM 0 (nK true))) op a b m))))))) (lB (decide (a>m)) false (qX f op a b m)))) (hZ (mN op) (cZ f c))) λhwf=>by
  delta eS aB aE aH dC dN gF iH iO fL cS jM mG pS fH bL kB nJ nK fR cZ lB eH gC vV aMN xT oV hZ mN zW sM aFO sN qX;simp only [sS];simp only [RV.wfs,RV.wf,DV.wf,DV.wfs,uc] at hwf;have W:=ud;have U:=uf;have fbad:¬ (isNm op=true/\a<=m/\b<=m)->fcK op a b m=false/\fcA op a b m=0/\fcB op a b m=0:=λhn=>by
   have:fcK op a b m=false:=by
    cases e:fcK op a b m with
    | false=>rfl
    | true=>
     simp only [fcK,wQe,wQj] at e;exact absurd ⟨e.1,e.2.1,e.2.2⟩ hn
   exact ⟨this,by unfold fcA; rw [this]; rfl,by unfold fcB; rw [this]; rfl⟩
  have fgood:isNm op=true->a<=m->b<=m->fcK op a b m=true/\fcA op a b m=facA op a b m/\fcB op a b m=facB op a b m:=λh1 h2 h3=>by
   have:fcK op a b m=true:=by unfold fcK; rw [h1,decide_eq_true h2,decide_eq_true h3]; rfl
   exact ⟨this,by unfold fcA; rw [if_pos this],by unfold fcB; rw [if_pos this]⟩
  obtain ⟨_,⟨a0,a1⟩,⟨b0,b1⟩,⟨m0,m1⟩,_⟩:=hwf;refine ⟨zZJ _,λho=>⟨λhx=>⟨λhy=>?_,λhy=>?_⟩,λhx=>?_⟩,λho=>?_⟩
  case refine_1=>obtain ⟨e1,e2,e3⟩:=fbad (λh=>by omega); rw [e1,e2,e3]; exact ⟨rfl,rfl,rfl⟩
  case refine_3=>obtain ⟨e1,e2,e3⟩:=fbad (λh=>by omega); rw [e1,e2,e3]; exact ⟨rfl,rfl,rfl⟩
  case refine_4=>obtain ⟨e1,e2,e3⟩:=fbad (λh=>ho (wQE h.1)); rw [e1,e2,e3]; exact ⟨rfl,rfl,rfl⟩
  obtain ⟨e1,e2,e3⟩:=fgood (decide_eq_true ho) (by omega) (by omega);rw [e1,e2,e3,U (m-a) (by omega) (by omega),U (m-b) (by omega) (by omega)];clear fbad fgood e1 e2 e3
  rcases zYz ho with rfl | rfl | rfl | rfl | rfl | rfl | rfl | rfl | rfl | rfl | rfl | rfl<;>simp [facA,facB]
def aCR (a b c:Int):Prop:=vN 194 a (bX b) (iS (zQP c (aG b)))
theorem zU6 (op a b m:Int) (hf:zQH m=true) (ho:isNm op=true) (h1:a<=m) (h3:b<=m):Ans prog 255 [rJ (op),rD (dK a),rD (dK b),rD (dK m)] (rD (dK (zXa op a b m))):=
 wc jX5 aL Tryz.func255 (let c:=dG (fcB op a b m) b;let d:=dG (fcA op a b m) a;let e:=aG (d+c);fZ (aN (aKS 272 op a b m) (kJ (aY (aCR (d+c) m e) (fU (oS e m) (zXa op a b m)))))) λhwf=>by
  delta eS aB aE aH aY nC fU aN fH fZ nK aK aG bX aU iS kJ vV dG vN tT oS aCR aMN aKS;simp only [sS];simp only [RV.wfs,RV.wf,DV.wf,DV.wfs,uc] at hwf;have W:=ud;have U:=uf;have fbad:¬ (isNm op=true/\a<=m/\b<=m)->fcK op a b m=false/\fcA op a b m=0/\fcB op a b m=0:=λhn=>by
   have:fcK op a b m=false:=by
    cases e:fcK op a b m with
    | false=>rfl
    | true=>
     simp only [fcK,wQe,wQj] at e;exact absurd ⟨e.1,e.2.1,e.2.2⟩ hn
   exact ⟨this,by unfold fcA; rw [this]; rfl,by unfold fcB; rw [this]; rfl⟩
  have fgood:isNm op=true->a<=m->b<=m->fcK op a b m=true/\fcA op a b m=facA op a b m/\fcB op a b m=facB op a b m:=λh1 h2 h3=>by
   have:fcK op a b m=true:=by unfold fcK; rw [h1,decide_eq_true h2,decide_eq_true h3]; rfl
   exact ⟨this,by unfold fcA; rw [if_pos this],by unfold fcB; rw [if_pos this]⟩
  obtain ⟨_,⟨a0,a1⟩,⟨b0,b1⟩,⟨m0,m1⟩,_⟩:=hwf;have hm:=(zQO hf).1;obtain ⟨e1,e2,e3⟩:=fgood ho h1 h3;have ⟨⟨f0,f1⟩,f2,f3⟩:=jQS (op:=op) a0 h1 b0 h3;have fa:=zV6 op a b m;rw [e1,e2,e3] at fa;rw [e1,e2,e3];have q1:=zQc f0 (show facA op a b m<=65535 by omega) a0 a1;have q2:=zQc f2 (show facB op a b m<=65535 by omega) b0 b1;rw [W (facA op a b m) (by omega) (by omega),W (facB op a b m) (by omega) (by omega),W a (by omega) (by omega),W b (by omega) (by omega),W m (by omega) (by omega),W (facA op a b m*a) q1.1 (by omega),W (facB op a b m*b) q2.1 (by omega),W (facA op a b m*a+facB op a b m*b) (by omega) (by omega)];have al:=zV3 (op:=op) hm a0 h1 b0 h3;have aS:=zZ4 (op:=op) (a:=a) (f:=m) (b:=b) (g:=m) hm a0 h1 (Int.le_refl _) b0 h3 (Int.le_refl _);exact ⟨fa,zZj _ _,U _ al (by unfold zXa at *; omega)⟩
def aGA (a b c:Int):Prop:=aCR (aG a*aG b) c (dG a b)
theorem jYr (op f g m:Int) (hf:zQH m=true) (ho:isNm op=true) (h1:f<=m) (h3:g<=m):Ans prog 250 [rJ (op),rD (dK f),rD (dK g),rD (dK m)] (rD (dK (zXc op f g m))):=
 wc jX5 aL Tryz.func250 (let e:=zXc op f g m;let a:=fU 0 e;let b:=True/\True/\aY (aGA f g m) (fU (oS (dG f g) m) e);let d:=mI op 6 (dN op 6 b) (uS op 6 a);let l:=aG (dG m f+tS m f g);let c:=aH (aY (aCR (dG m f+tS m f g) m l) (fU (oS l m) e));let n:=mI op 5 (dN op 5 c) (aEW op 5 d 6 7 b a);let o:=aEW op 4 d 6 7 b a;let h:=fU g (zXc op f g m);let i:=xT op 9 (dC op 10 h) 10 (mI op 4 (dN op 4 c) o) 4 n 5 (dN op 12 c) (aEW op 12 d 6 7 b a);let p:=xT op 4 n 5 (dN op 12 c) 12 d 6 (dN op 7 b) (uS op 7 a);let q:=mI op 4 (dN op 4 c) o;let r:=cS (op==9) q p;let s:=dC op 9 h;let j:=mI op 3 (dC op 3 h) (cS (op==3) q p);let k:=fU f (zXc op f g m);let t:=mI op 9 s r;True/\True/\aFR (zW 248 op) (mN op) (sM f m (iH g m a (iO g m (aH (qT op 2 (dC op 2 k/\mG (op==2) j op 3 t i) (xT op 2 (mI op 8 (dC op 8 k) (mG (op==8) j op 3 t i)) 8 (dC op 11 k) 11 j 3 (mI op 9 s r) i))))) (aGB f m a)) (xZ (mN op) a)) λhwf=>by
  delta eS aB aE aH aY dC nC dN fU uS iH iO fQ cS mG fH mI aEW kB qT qU aK lB aG bX aU iS gC dG vN oS aCR xT oV mN zW sM tS aFR xZ aGA aGB;simp only [sS];simp only [RV.wfs,RV.wf,DV.wf,DV.wfs,uc] at hwf;have W:=ud;have U:=uf;obtain ⟨_,⟨f0,f1⟩,⟨g0,g1⟩,⟨m0,m1⟩,_⟩:=hwf;have hm:=(zQO hf).1;have ho':=wQE ho;have sh:=zZ4 (op:=op) (a:=0) (f:=f) (b:=0) (g:=g) hm (Int.le_refl _) f0 h1 (Int.le_refl _) g0 h3;have s0:=zV3 (op:=op) (a:=0) (b:=0) hm (Int.le_refl _) (by omega) (Int.le_refl _) (by omega);have s1:0<=zXc op f g m/\zXc op f g m<=65535:=by omega
  clear sh s0;have q1:=zQc m0 m1 f0 f1;have q2:=zQc (x:=m-f) (y:=g) (A:=65535) (B:=65535) (by omega) (by omega) g0 g1;have q3:=zQc f0 f1 g0 g1;rw [W f (by omega) (by omega),W g (by omega) (by omega),W m (by omega) (by omega),W (m*f) q1.1 (by omega),W (m-f) (by omega) (by omega),W ((m-f)*g) q2.1 (by omega),W (m*f+(m-f)*g) (by omega) (by omega),W (f*g) q3.1 (by omega)];have hi:=zZJ op;have ha:=zZj (m*f+(m-f)*g) m;have hb:=zZj (f*g) m;have e1:∀ p,(op=4\/op=5\/op=12)->p=zXc op f g m->wrap .u16 p=zXc op f g m:=λp _ h=>by rw [h]; exact U _ s1.1 s1.2
  have n1:¬ f>m:=by omega
  have n2:¬ g>m:=by omega
  generalize hx:zQP (m*f+(m-f)*g) m=X at *;generalize hy:zQP (f*g) m=Y at *;refine ⟨hi,λ_=>⟨λ_=>⟨λh=>absurd h n2,λ_=>?_⟩,λh=>absurd h n1⟩,λh=>absurd ho' h⟩;clear hi ho hf
  rcases zYz ho' with rfl | rfl | rfl | rfl | rfl | rfl | rfl | rfl | rfl | rfl | rfl | rfl<;>simp [zXc,hx,hy] at s1 |-<;>(first | exact ⟨ha,U _ s1.1 s1.2⟩ | exact ⟨hb,U _ s1.1 s1.2⟩ | skip)
def aFS (a:Int):Prop:=aBC 188 (aE a) (zQH a)
theorem jYq (op mode m s a d b:Int):Ans prog 271 [rJ (op),rJ (mode),rD (dK m),rD (dK s),rD (dK a),rD (dK d),rD (dK b)] (rT [rA [DV.int .u64 (hiW (vlE op mode m s a d b).p),DV.int .u64 (loW (vlE op mode m s a d b).p),DV.int .u64 ((vlE op mode m s a d b).q),DV.int .u64 ((vlE op mode m s a d b).r),DV.int .u64 ((vlE op mode m s a d b).d)],rD (dQ (vlK op mode m s a d b))]):=
 wc jX5 aL Tryz.func271 (let k:=vlK op mode m s a d b;let l:=vlE op mode m s a d b;let n:=vM l k;let f:=zX 0 0 false;let o:=vM l k;let e:=blE mode s a d b;let c:=e.d;let g:=fcA op a b m;let h:=aG g;let i:=dG (fcB op a b m) d*aG m;let j:=tS m b s*h;let p:=e.p;let q:=gY p;let r:=fM q (aG g);let t:=addW r (fM j c);let u:=gY t;let v:=addW u (fM i c);let w:=i*c;let x:=j*c;let y:=q*h;let z:=bX g;bL (qZ (tU 268 mode (iT s a d b) (aFN mode s a d b)) (aN (aKS 272 op a b m) (nE (gW (blK mode s a d b) (yA (fcK op a b m) (yD (aFS m) (zQH m) (fR f n) (oV (zQH m) (nE (oR 289 (cA p) [rD z] y true) (kJ (aN (zZ (sK m (aG b)*aG s) (vW z c) x) (zJ (zZ (aG (fcB op a b m)*aG d) (vW (bX m) c) w) (aN (zT 269 y x r (fM j c)) (bH (zT 269 t w u (fM i c)) (kJ (aFP (hiW v) (loW v) (aU h e.q) e.r (aU (aG (aG m*aG m)) c) true=o)))))))))) (xZ (fcK op a b m) (f=o)))) (hZ (blK mode s a d b) (cZ f n)))))) λhwf=>by
  delta eS aB aE aH aY aN nE bH zJ bL nK aK kG cA fR cZ vW lB aG bX gW gB aU fJ gC gY oR qW zT kJ aCQ fM vV dG tT aMN aKS aFP oV hZ zX sK vM tS zZ aFN iT tU aBC aFS yX qZ yA xZ yD;simp only [sS];simp only [RV.wfs,RV.wf,DV.wf,DV.wfs,uc] at hwf;have W:=ud;have U:=uf;have fbad:¬ (isNm op=true/\a<=m/\b<=m)->fcK op a b m=false/\fcA op a b m=0/\fcB op a b m=0:=λhn=>by
   have:fcK op a b m=false:=by
    cases e:fcK op a b m with
    | false=>rfl
    | true=>
     simp only [fcK,wQe,wQj] at e;exact absurd ⟨e.1,e.2.1,e.2.2⟩ hn
   exact ⟨this,by unfold fcA; rw [this]; rfl,by unfold fcB; rw [this]; rfl⟩
  have fgood:isNm op=true->a<=m->b<=m->fcK op a b m=true/\fcA op a b m=facA op a b m/\fcB op a b m=facB op a b m:=λh1 h2 h3=>by
   have:fcK op a b m=true:=by unfold fcK; rw [h1,decide_eq_true h2,decide_eq_true h3]; rfl
   exact ⟨this,by unfold fcA; rw [if_pos this],by unfold fcB; rw [if_pos this]⟩
  obtain ⟨_,_,⟨m0,m1⟩,⟨s0,s1⟩,⟨a0,a1⟩,⟨d0,d1⟩,⟨b0,b1⟩,_⟩:=hwf;refine ⟨zU5 _ _ _ _ _,zV6 _ _ _ _,?_⟩;have no:vlK op mode m s a d b=false->vlE op mode m s a d b=.zero:=λh=>by unfold vlE; rw [h]; rfl
  have k0:vlK op mode m s a d b=(blK mode s a d b&&(fcK op a b m&&zQH m)):=rfl
  cases kb:blK mode s a d b with
  | false=>
   rw [kb,wX1] at k0;rw [k0,no k0];exact ⟨λh=>(by cases h),λ_=>⟨⟨rfl,rfl,rfl,rfl,rfl⟩,rfl⟩⟩
  | true=>
   cases kf:fcK op a b m with
   | false=>
    rw [kb,kf,wX1,wXF] at k0;rw [k0,no k0];exact ⟨λ_=>⟨λh=>(by cases h),λ_=>⟨⟨rfl,rfl,rfl,rfl,rfl⟩,rfl⟩⟩,λh=>by cases h⟩
   | true=>
    cases km:zQH m with
    | false=>
     have fm:=zZk m;rw [km] at fm;rw [kb,kf,km] at k0;have k0:vlK op mode m s a d b=false:=k0;rw [k0,no k0];exact ⟨λ_=>⟨λ_=>⟨fm,λ_=>⟨⟨rfl,rfl,rfl,rfl,rfl⟩,rfl⟩,λh=>by cases h⟩,λh=>by cases h⟩,λh=>by cases h⟩
    | true=>
     have fm:=zZk m;rw [km] at fm;rw [kb,kf,km] at k0;have k0:vlK op mode m s a d b=true:=k0;have ve:vlE op mode m s a d b=valS op mode m s a d b:=by unfold vlE; rw [if_pos k0]
     simp only [blK,wQe,wQj] at kb;simp only [fcK,wQe,wQj] at kf;obtain ⟨kb1,kb2,kb3⟩:=kb;obtain ⟨kf1,kf2,kf3⟩:=kf;have be:blE mode s a d b=zQd mode s a d b:=by unfold blE; rw [if_pos (by unfold blK; rw [kb1,decide_eq_true kb2,decide_eq_true kb3]; rfl)]
     obtain ⟨e1,e2,e3⟩:=fgood kf1 kf2 kf3;obtain ⟨ok,t1,t2,t3,t4⟩:=zYX (mode:=mode) s0 kb2 d0 kb3 a1 b1;have ⟨⟨f0,f1⟩,f2,f3⟩:=jQS (op:=op) a0 kf2 b0 kf3;have tp:=ok.p;have tq:=ok.q;have td:=ok.d;rw [k0,ve,be,e2,e3];have vS:valS op mode m s a d b=⟨(zQd mode s a d b).p*facA op a b m+(m-b)*s*facA op a b m*(zQd mode s a d b).d+facB op a b m*d*m*(zQd mode s a d b).d,facA op a b m*(zQd mode s a d b).q,(zQd mode s a d b).r,m*m*(zQd mode s a d b).d⟩:=rfl;rw [vS];clear vS ve be e1 e2 e3 fbad fgood k0 no;generalize facA op a b m=A at *;generalize facB op a b m=F at *;generalize (zQd mode s a d b).p=p at *;generalize (zQd mode s a d b).q=q at *;generalize (zQd mode s a d b).r=r at *;generalize (zQd mode s a d b).d=e at *;simp only at *;have q1:=zQc (x:=m-b) (y:=s) (A:=65535) (B:=65535) (by omega) (by omega) s0 s1;have q2:=zQc (x:=F) (y:=d) (A:=65535) (B:=65535) f2 (by omega) d0 d1;have q3:=zQc (x:=p) (y:=A) (A:=4294836225*4294836225) (B:=65535) tp t2 f0 (by omega);have q4:=zQc (x:=(m-b)*s) (y:=A) (A:=4294836225) (B:=65535) q1.1 (by omega) f0 (by omega);have q5:=zQc (x:=(m-b)*s*A) (y:=e) (A:=281462092005375) (B:=4294836225) q4.1 (by omega) (by omega) t1;have q6:=zQc (x:=F*d) (y:=m) (A:=4294836225) (B:=65535) q2.1 (by omega) m0 m1;have q7:=zQc (x:=F*d*m) (y:=e) (A:=281462092005375) (B:=4294836225) q6.1 (by omega) (by omega) t1;have q8:=zQc (x:=A) (y:=q) (A:=65535) (B:=65535) f0 (by omega) tq t3;have q9:=zQc (x:=m) (y:=m) (A:=65535) (B:=65535) m0 m1 m0 m1;have q10:=zQc (x:=m*m) (y:=e) (A:=4294836225) (B:=4294836225) q9.1 (by omega) (by omega) t1;simp only [W m m0 (by omega),W b b0 (by omega),W s s0 (by omega),W d d0 (by omega),W A f0 (by omega),W F f2 (by omega),W (m-b) (by omega) (by omega),W ((m-b)*s) q1.1 (by omega),W (F*d) q2.1 (by omega),W (A*q) q8.1 (by omega),W (m*m) q9.1 (by omega),W (m*m*e) q10.1 (by omega)];have ad:∀ x y:Int,x+y<340282366920938463463374607431768211456->addW x y=x+y:=λx y h=>by unfold addW; rw [if_pos h]
     refine ⟨λ_=>⟨λ_=>⟨fm,λh=>(by cases h),λ_=>⟨zJn _ _ _ (by rw [zZV]; omega),zZ5 _ _ _ (by omega),zZ5 _ _ _ (by omega),zYm _ _ _ _,zYm _ _ _ _,?_⟩⟩,λh=>(by cases h)⟩,λh=>by cases h⟩;simp only [zZV];rw [ad (p*A) ((m-b)*s*A*e) (by omega),ad (p*A+(m-b)*s*A*e) (F*d*m*e) (by omega)]
     (repeat' (first | exact trivial | rfl | apply And.intro))
theorem zVc (op mode m s a d b:Int) (hf:zQH m=true) (ho:isNm op=true) (hm:isNm mode=true) (h1:s<=a) (h2:a<=m) (h3:d<=b) (h4:b<=m):Ans prog 252 [rJ (op),rJ (mode),rD (dK m),rD (dK s),rD (dK a),rD (dK d),rD (dK b)] (rT [rD (dK (colS op mode m s a d b)),rD (dQ true)]):=
 wc jX5 aL Tryz.func252 (let i:=fK (colS op mode m s a d b);let c:=vlE op mode m s a d b;let e:=c.d;let f:=c.r;let g:=c.q;let j:=gY c.p;let k:=c.p;let h:=vlK op mode m s a d b;oU (cQ (tU 271 op (tT mode m (iT s a d b)) (vM c h)) (vE (gX h) gF i (gW h (gI (oT 270 (gB (hiW k) (loW k) g f e) (oO (sG j g f e))) (aH (fK (fH (sG j g f e))=i))))))) λhwf=>by
  delta eS aB bI aE aH aM cQ gF gI fH bF aK kG gW gB lG oN oO gX sG oT vE fK gY vV tT aFP vM iT oU tU;simp only [sS];simp only [RV.wfs,RV.wf,DV.wf,DV.wfs,uc] at hwf;have W:=ud;have U:=uf;obtain ⟨_,_,⟨m0,m1⟩,⟨s0,s1⟩,⟨a0,a1⟩,⟨d0,d1⟩,⟨b0,b1⟩,_⟩:=hwf;have hM:=(zQO hf).1;have kb:blK mode s a d b=true:=by unfold blK; rw [hm,decide_eq_true h1,decide_eq_true h3]; rfl
  have kf:fcK op a b m=true:=by unfold fcK; rw [ho,decide_eq_true h2,decide_eq_true h4]; rfl
  have k:vlK op mode m s a d b=true:=by unfold vlK; rw [kb,kf,hf]; rfl
  have ve:vlE op mode m s a d b=valS op mode m s a d b:=by unfold vlE; rw [if_pos k]
  have va:=jYq op mode m s a d b;rw [k,ve] at va;rw [k,ve];obtain ⟨ok,l1,l2⟩:=zHF (op:=op) (mode:=mode) hM s0 h1 h2 d0 h3 h4;obtain ⟨bk,t1,t2,t3,t4⟩:=zYX (mode:=mode) s0 h1 d0 h3 a1 b1;have ⟨⟨f0,f1⟩,f2,f3⟩:=jQS (op:=op) a0 h2 b0 h4;have ⟨c0,c1⟩:=jQX (op:=op) (mode:=mode) hM s0 h1 h2 d0 h3 h4;have aS:=zZ4 (op:=op) (a:=a) (f:=m) (b:=b) (g:=m) hM a0 h2 (Int.le_refl _) b0 h4 (Int.le_refl _);have hq:(valS op mode m s a d b).q=facA op a b m*(zQd mode s a d b).q:=rfl;have hr:(valS op mode m s a d b).r=(zQd mode s a d b).r:=rfl;have hh:(valS op mode m s a d b).half=colS op mode m s a d b:=rfl;have hfl:=Ex.half_floor ok;have n1:=zQc f0 (show facA op a b m<=65535 by omega) bk.q t3;have g1:=zQc f0 (show facA op a b m<=65535 by omega) a0 a1;have g2:=zQc f2 (show facB op a b m<=65535 by omega) b0 b1;have g3:=zQc (x:=(zQd mode s a d b).d) (y:=m) (A:=4294836225) (B:=65535) (by have:=bk.d; omega) t1 m0 m1;have g4:=zQc (x:=(zQd mode s a d b).d*m) (y:=facA op a b m*a+facB op a b m*b) (A:=281462092005375) (B:=8589672450) g3.1 (by omega) (by omega) (by omega);have eta:(⟨wV (hiW (valS op mode m s a d b).p) (loW (valS op mode m s a d b).p),(valS op mode m s a d b).q,(valS op mode m s a d b).r,(valS op mode m s a d b).d⟩:Ex)=valS op mode m s a d b:=by rw [zZV]
  have ha:=zKK (hiW (valS op mode m s a d b).p) (loW (valS op mode m s a d b).p) (valS op mode m s a d b).q (valS op mode m s a d b).r (valS op mode m s a d b).d (by unfold hiW; omega) (by rw [hq]; omega) (by rw [hr]; omega) (by have:=ok.d; omega) (by rw [eta]; rw [hh] at hfl; split at hfl<;>omega);refine ⟨va,λh=>(by cases h),λ_=>⟨ha,?_⟩⟩;rw [eta,hh];exact U _ c0 (by omega)
theorem zYI (mode m s a f c d b:Int) (hf:zQH m=true) (hm:isNm mode=true) (h1:s<=a) (h2:a<=f) (h3:f<=m) (h4:d<=b) (h5:b<=m) (h6:c<=m):Ans prog 251 [rJ (mode),rD (dK m),rD (dK s),rD (dK a),rD (dK f),rD (dK c),rD (dK d),rD (dK b)] (rT [rD (dK (knoC mode m s a f c d b)),rD (dQ true)]):=
 wc jX5 aL Tryz.func251 (let h:=fK (knoC mode m s a f c d b);let g:=oN gF=h;let p:=aH g;let i:=blE mode s a d b;let e:=i.d;let k:=aU (aG m) e;let l:=i.r;let n:=i.q;let q:=aG (tS m f c+tS f a d);let j:=aG (q+tS m b s);let r:=i.p;let t:=gY r;let o:=addW t (fM j e);let u:=gY o;bF (zW 249 mode/\True/\True/\bP (gC (mN mode)) (aFS m) (bI (gC (zQH m)) (jF (fL s a) (fL a f) (jF (fL f m) (fL d b) (sM b m (bI (jY c m) g (iO c m (True/\True/\cQ (Ans prog 268 (tT mode s (jM a [rD (aE d),rD (aE b)])) (aFN mode s a d b)) (kJ (kJ (True/\True/\True/\vN 59 (q+tS m b s) (aK e) (sI j e)/\aN (zT 269 r (j*e) t (fM j e)) (cT (aH (aM (oT 270 (gB (hiW o) (loW o) n l k) (oO (sG u n l k))) (aH (fK (fH (sG u n l k))=h))))))))))) (qB b m (fR (oN gF) h))) (qB d b (cZ (oN gF) h)) (qB f m (bL g))) (qB a f p) (qB s a (aCB g))) (lF (zQH m) (sL g)))/\lF (mN mode) (bL p))) λhwf=>by
  delta eS aB bI aE aH aM cQ gF aN cT iO mE bP jY fL jM aCB fH bF bL kB aK kG cA fR cZ aG bX gB aU lG lF oN oO sG oT fK gC gY oR qW zT sI kJ jF fM dG vN tT aFP mN zW sM sL vM tS aFN qB aBC aFS;simp only [sS];simp only [RV.wfs,RV.wf,DV.wf,DV.wfs,uc] at hwf;have W:=ud;have U:=uf;obtain ⟨_,⟨m0,m1⟩,⟨s0,s1⟩,⟨a0,a1⟩,⟨f0,f1⟩,⟨c0,c1⟩,⟨d0,d1⟩,⟨b0,b1⟩,_⟩:=hwf;have hM:=(zQO hf).1;have kb:blK mode s a d b=true:=by unfold blK; rw [hm,decide_eq_true h1,decide_eq_true h4]; rfl
  have be:blE mode s a d b=zQd mode s a d b:=by unfold blE; rw [if_pos kb]
  have bl:=zU5 mode s a d b;rw [kb,be] at bl;rw [kb,be];have fm:=zZk m;rw [hf] at fm;rw [hf];have im:=zZu mode;obtain ⟨ok,l1,l2⟩:=jQv (mode:=mode) hM s0 h1 h2 h3 d0 h4 h5 c0 h6;obtain ⟨bk,t1,t2,t3,t4⟩:=zYX (mode:=mode) s0 h1 d0 h4 a1 b1;have ⟨k0,k1⟩:=zGw (mode:=mode) hM s0 h1 h2 h3 d0 h4 h5 c0 h6;have ka:=zGx (acc:=m) (b:=b) hM a0 h2 h3 m0 (Int.le_refl _) b0 h5;have hh:(knoX mode m s a f c d b).half=knoC mode m s a f c d b:=rfl;have hfl:=Ex.half_floor ok;rw [hh] at hfl;have td:=bk.d;have tp:=bk.p;have q1:=zQc (x:=m-f) (y:=c) (A:=65535) (B:=65535) (by omega) (by omega) c0 c1;have q2:=zQc (x:=f-a) (y:=d) (A:=65535) (B:=65535) (by omega) (by omega) d0 d1;have q3:=zQc (x:=m-b) (y:=s) (A:=65535) (B:=65535) (by omega) (by omega) s0 s1;have q4:=zQc (x:=(m-f)*c+(f-a)*d+(m-b)*s) (y:=(zQd mode s a d b).d) (A:=12884508675) (B:=4294836225) (by omega) (by omega) (by omega) t1;have q5:=zQc (x:=m) (y:=(zQd mode s a d b).d) (A:=65535) (B:=4294836225) m0 m1 (by omega) t1;simp only [W m m0 (by omega),W f f0 (by omega),W c c0 (by omega),W a a0 (by omega),W d d0 (by omega),W b b0 (by omega),W s s0 (by omega),W (m-f) (by omega) (by omega),W ((m-f)*c) q1.1 (by omega),W (f-a) (by omega) (by omega),W ((f-a)*d) q2.1 (by omega),W ((m-f)*c+(f-a)*d) (by omega) (by omega),W (m-b) (by omega) (by omega),W ((m-b)*s) q3.1 (by omega),W ((m-f)*c+(f-a)*d+(m-b)*s) (by omega) (by omega),W (m*(zQd mode s a d b).d) q5.1 (by omega)];have kx:knoX mode m s a f c d b=⟨(zQd mode s a d b).p+((m-f)*c+(f-a)*d+(m-b)*s)*(zQd mode s a d b).d,(zQd mode s a d b).q,(zQd mode s a d b).r,m*(zQd mode s a d b).d⟩:=rfl;have ae:addW (zQd mode s a d b).p (((m-f)*c+(f-a)*d+(m-b)*s)*(zQd mode s a d b).d)=(zQd mode s a d b).p+((m-f)*c+(f-a)*d+(m-b)*s)*(zQd mode s a d b).d:=by unfold addW; rw [if_pos (by omega)]
  have mu:=zXi ((m-f)*c+(f-a)*d+(m-b)*s) (zQd mode s a d b).d;have ad:=zYm (hiW (zQd mode s a d b).p) (loW (zQd mode s a d b).p) (hiW (((m-f)*c+(f-a)*d+(m-b)*s)*(zQd mode s a d b).d)) (loW (((m-f)*c+(f-a)*d+(m-b)*s)*(zQd mode s a d b).d));have ha:=zKK (hiW (knoX mode m s a f c d b).p) (loW (knoX mode m s a f c d b).p) (knoX mode m s a f c d b).q (knoX mode m s a f c d b).r (knoX mode m s a f c d b).d (by rw [kx]; unfold hiW; simp only; omega) (by rw [kx]; simp only; omega) (by rw [kx]; simp only; omega) (by have:=ok.d; omega) (by rw [zZV]; change (knoX mode m s a f c d b).floor<_; split at hfl<;>omega);rw [zZV] at ha;change Ans _ _ _ (RV.tup [RV.d (DV.int .u64 (knoX mode m s a f c d b).half),_]) at ha;rw [hh,kx] at ha;simp only [zZV,ae] at ad |-;have hh2:(⟨(zQd mode s a d b).p+((m-f)*c+(f-a)*d+(m-b)*s)*(zQd mode s a d b).d,(zQd mode s a d b).q,(zQd mode s a d b).r,m*(zQd mode s a d b).d⟩:Ex).half=knoC mode m s a f c d b:=hh;simp only [hh2];have uk:wrap .u16 (knoC mode m s a f c d b)=knoC mode m s a f c d b:=by
   have ⟨_,kk⟩:=zGw (mode:=mode) (A:=m) hM s0 h1 h2 h3 d0 h4 h5 c0 h6;exact U _ k0 (by omega)
  have hm':=wQE hm;clear hfl ok l1 l2 hh hh2 kx
  (repeat' (first | apply And.intro | intro _))<;>first | exact bl | exact fm | exact im | exact mu | exact ad | exact ha | exact uk | (exfalso; omega) | (exfalso; contradiction) | skip
theorem zJ9 (m a f acc b:Int) (hf:zQH m=true) (h1:a<=f) (h2:f<=m) (h4:acc<=m) (h5:b<=m):Ans prog 253 [rD (dK m),rD (dK a),rD (dK f),rD (dK acc),rD (dK b)] (rT [rD (dK (knoA m a f acc b)),rD (dQ true)]):=
 wc jX5 aL Tryz.func253 (let c:=fK (knoA m a f acc b);let d:=oN gF=c;let e:=aG (tS m f acc+tS f a b);let g:=aG (e+dG m a);bF (aFR (aFS m) (zQH m) (jF (fL a f) (fL f m) (sM acc m (bI (jY b m) d (xW b m (aH (kJ (aN (aCR (e+dG m a) m g) (fK (oS g m)=c)))))) (qB acc m (fR (oN gF) c))) (qB f m (cZ (oN gF) c)) (qB a f (bL d))) (lF (zQH m) (aH d)))) λhwf=>by
  delta eS bI aE aH gF aN iO mE jY fL fH bF bL aK fR cZ aG bX aU lG lF oN iS fK gC kJ jF dG vN oS aCR oV sM tS aFR qB xW aBC aFS;simp only [sS];simp only [RV.wfs,RV.wf,DV.wf,DV.wfs,uc] at hwf;have W:=ud;have U:=uf;obtain ⟨⟨m0,m1⟩,⟨a0,a1⟩,⟨f0,f1⟩,⟨c0,c1⟩,⟨b0,b1⟩,_⟩:=hwf;have hM:=(zQO hf).1;have fm:=zZk m;rw [hf] at fm;rw [hf];have ka:=zGx (acc:=acc) (b:=b) hM a0 h1 h2 c0 h4 b0 h5;have q1:=zQc (x:=m-f) (y:=acc) (A:=65535) (B:=65535) (by omega) (by omega) c0 c1;have q2:=zQc (x:=f-a) (y:=b) (A:=65535) (B:=65535) (by omega) (by omega) b0 b1;have q3:=zQc (x:=m) (y:=a) (A:=65535) (B:=65535) m0 m1 a0 a1;simp only [W m m0 (by omega),W f f0 (by omega),W acc c0 (by omega),W a a0 (by omega),W b b0 (by omega),W (m-f) (by omega) (by omega),W ((m-f)*acc) q1.1 (by omega),W (f-a) (by omega) (by omega),W ((f-a)*b) q2.1 (by omega),W ((m-f)*acc+(f-a)*b) (by omega) (by omega),W (m*a) q3.1 (by omega),W ((m-f)*acc+(f-a)*b+m*a) (by omega) (by omega)];have ha:=zZj ((m-f)*acc+(f-a)*b+m*a) m;have uk:wrap .u16 (zQP ((m-f)*acc+(f-a)*b+m*a) m)=knoA m a f acc b:=U _ ka.1 (by unfold knoA at ka; omega)
  (repeat' (first | apply And.intro | intro _))<;>first | exact fm | exact ha | exact uk | (exfalso; omega) | (exfalso; contradiction) | skip
theorem zHr (m a f own:Int) (hf:zQH m=true) (h1:a<=f) (h2:f<=m) (h4:own<=m):Ans prog 254 [rD (dK m),rD (dK a),rD (dK f),rD (dK own)] (rT [rD (dK (knoA m a f own 0)),rD (dQ true)]):=
 wc jX5 aL Tryz.func254 (let b:=knoA m a f own 0;bF (bH (aCS 253 m (iT a f own 0) (fK b)) (eS (fK b)))) λhwf=>by
  delta eS aE bH bF lG fK vV iT aCS;simp only [sS];simp only [RV.wfs,RV.wf,DV.wf,DV.wfs,uc] at hwf;exact zJ9 _ _ _ _ _ hf h1 h2 h4 (by omega)
def jKQ:Gam:=jX5.add [.p 189 gZ35,
 .p 232 gZ36,
 .p 193 gZ37,
 .p 192 gZ38,
 .p 233 gZ39,
 .p 128 gZ40]
theorem zVb (p:Px) (k m:Int):Ans prog 189 [rA (pD p),rD (dK k),rD (dK m)] (rT [rA (pD ((zQm p k m).1)),rD (dQ ((zQm p k m).2))]):=
 wc jKQ (let c:=oS (dG p.b k) m;let b:=oS (dG p.a k) m;let a:=iV (cP (cP []));pX (ui True (aNM 1 k 2 m (aCA (lI (lK 9 0))) (cN p) 6 [] (vG 8 a [])) (aAD true) (ui True (aKU (qY 1 k 2 m (aCA (lI (lK 9 1)))) 3 p 6 a 8 (aCT b (iV (cP []))) []) (aAD true) (ui True (aKU (qY 1 k 2 m (aCA (lI (lK 9 2)))) 3 p 6 a 8 (bJ b (aCT c (cP []))) []) (aAD true) (ui True (aKU (qY 1 k 2 m (aCA (lI (lK 9 3)))) 3 p 6 a 8 (fN b c (oS (dG p.c k) m) 0 (iV [])) []) sO aL))))) Tryz.func189 (let a:=(zQm p k m).snd;let b:=eY (zQm p k m);let e:=oS (dG p.c k) m;let d:=oS (dG p.b k) m;let c:=oS (dG p.a k) m;pS (aFS m) (cS (!(zQH m)) (xY 231 (aI p) m p) (yA (Px.ok p m) (iH k m (mK dV false b a) (cS (decide (k>m)) (∃ o:Unit,True/\aCU k m (bM (kE jD))/\eS (aI p)/\eS dV/\eS dV/\True) (aF (∀ n:Unit,True->True/\True/\aN vP (vL 0 0 (aAF (aGA p.a k m) (jX 3) (∃ l:Unit,True/\uJ (aCU k m (bM (eZ 0 1))) (aI p) dV (bQ c 0 0 0 0))))) (∀ j:Unit,True->True/\True/\aN vQ (vL 1 1 (aAF (aGA p.b k m) (pP 3) (∃ i:Unit,True/\uJ (aCU k m (bM (eZ 1 2))) (aI p) dV (bQ c d 0 0 0))))) (∀ h:Unit,True->True/\True/\aN vR (aCP (aAF (aGA p.c k m) (qM 3) (∃ g:Unit,True/\uJ (aCU k m (bM (eZ 2 3))) (aI p) dV (aFY c d e 0 0))))) (∀ f:Unit,True->True/\True/\aN vT (True/\True/\True/\True/\qZ (aGA p.al k m) (dL (aGA p.f k m) (tP (bQ c d e (oS (dG p.al k) m) (oS (dG p.f k) m)) b a))))))) (xZ (Px.ok p m) (tO dV false b a)))) (hZ (zQH m) (cZ (rT [rA dV,rD (DV.bool false)]) (rT [rA b,rD (DV.bool a)])))) λhwf=>by
  delta eS aB aE aT aF aH bQ aY oE jX dE aN bM dL iA iH aI pP qM cS jM dV pS fH pU kE jD uJ aK fR cZ mK zQ lB aG bX gW aU iS tO tP vL aCP dG vN oS aCR hZ nP eY aFY aBC aFS qI vP vR vQ vT eZ qZ xY aCU yA aAF xZ aGA;simp only [sS];simp only [RV.wfs,RV.wf,DV.wf,DV.wfs,uc] at hwf;have W:=ud;have U:=uf;obtain ⟨⟨⟨a0,a1⟩,⟨b0,b1⟩,⟨c0,c1⟩,⟨l0,l1⟩,⟨f0,f1⟩,_⟩,⟨k0,k1⟩,⟨m0,m1⟩,_⟩:=hwf;have s1:zQm p k m=if zXd p k m then (zZZ p k m,true) else (.zero,false):=rfl
  have bad:¬ (zQH m=true/\p.ok m=true/\k<=m)->zQm p k m=(.zero,false):=λhn=>by
   rw [s1,if_neg];intro e;simp only [zXd,wQe,wQj] at e;exact hn ⟨e.1,e.2.1,e.2.2⟩
  have q:∀ v:Int,0<=v->v<=65535->wrap .u64 (wrap .u64 v*wrap .u64 k)=v*k:=λv v0 v1=>by
   have:=zQc v0 v1 k0 k1;rw [W v v0 (by omega),W k k0 (by omega),W _ this.1 (by omega)]
  rw [q p.a a0 a1,q p.b b0 b1,q p.c c0 c1,q p.al l0 l1,q p.f f0 f1,W m m0 (by omega)];have ful:=zZk m;have vp:=zQu p.a p.b p.c p.al p.f m;change Ans _ _ _ (RV.d (DV.bool (p.ok m))) at vp;refine ⟨ful,λhf=>⟨vp,λhp=>⟨λhk=>?_,λhk=>?_⟩,λhp=>?_⟩,λhf=>?_⟩
  ·rw [bad (λh=>by omega)]; exact ⟨⟨rfl,rfl,rfl,rfl,rfl⟩,rfl⟩
  ·have hk:k<=m:=by omega
   have hm:=(zQO hf).1;have e:zQm p k m=(zZZ p k m,true):=by
    rw [s1,if_pos];unfold zXd;rw [hf,hp,decide_eq_true hk]; rfl
   rw [e];obtain ⟨o1,o2⟩:=zUq hm hp ⟨a0,b0,c0⟩ k0 hk;obtain ⟨x1,x2,x3,x4,x5⟩:=Px.ok_iff.1 o1;obtain ⟨y1,y2,y3⟩:=o2;have H:=λv=>zZj (v*k) m;have w1:wrap .i64 (0+1)=1:=by decide
   have w2:wrap .i64 (1+1)=2:=by decide
   have w3:wrap .i64 (2+1)=3:=by decide
   simp only [zZZ] at x1 x2 x3 x4 x5 y1 y2 y3 |-;refine ⟨⟨(),trivial⟩,⟨by decide,by decide,H _,by decide,(),w1⟩,⟨by decide,by decide,H _,by decide,(),w2⟩,⟨by decide,by decide,H _,by decide,(),w3⟩,by decide,H _,H _,⟨U _ y1 (by omega),U _ y2 (by omega),U _ y3 (by omega),U _ (by omega) (by omega),U _ (by omega) (by omega)⟩,trivial⟩
  ·rw [bad (λh=>by rw [hp] at h; exact absurd h.2.1 (by decide))]; exact ⟨⟨rfl,rfl,rfl,rfl,rfl⟩,rfl⟩
  ·rw [bad (λh=>by rw [hf] at h; exact absurd h.1 (by decide))]; exact ⟨⟨rfl,rfl,rfl,rfl,rfl⟩,rfl⟩
theorem jJW (p:Px) (j k m:Int):Ans prog 232 [rA (pD p),rD (dK j),rD (dK k),rD (dK m)] (rT [rA (pD ((zXM p j k m).1)),rD (dQ ((zXM p j k m).2))]):=
 wc jKQ aL Tryz.func232 (let b:=(zXM p j k m).snd;let c:=eY (zXM p j k m);let a:=qA p j m;True/\True/\True/\True/\cQ (xU 189 (aI p) [rD (aE j),rD (aE m)] (aAB a) (zQm p j m)) (aCO (zQm p j m).snd (mK dV false c b) (bH (xV 189 (aAB a) k m a) (tO (eY (zQm (qA p j m) k m)) (zQm a k m).snd c b)))) λhwf=>by
  delta eS aE bQ aM cQ aI bH dV fR mK gC vH aCO tO nP eY xU aFY qA xV aAB;simp only [sS];have S:=zVb p j m;have S2:=zVb (zQm p j m).1 k m;refine ⟨S,λh=>?_,λh=>⟨S2,?_⟩⟩
  ·have:zXd p j m=false:=by
    cases e:zXd p j m with
    | false=>rfl
    | true=>unfold zQm at h; rw [if_pos e] at h; cases h
   unfold zXM;rw [this];exact ⟨⟨rfl,rfl,rfl,rfl,rfl⟩,rfl⟩
  ·have:zXd p j m=true:=by
    cases e:zXd p j m with
    | true=>rfl
    | false=>unfold zQm at h; rw [e] at h; cases h
   have e:zXM p j k m=zQm (zQm p j m).1 k m:=by
    unfold zXM;rw [if_pos this];have:zQm p j m=(zZZ p j m,true):=by unfold zQm; rw [if_pos this]
    rw [this]
   rw [e];exact ⟨⟨rfl,rfl,rfl,rfl,rfl⟩,rfl⟩
theorem zJ8 (x:Ac) (k:Px) (m:Int):Ans prog 193 [rA (aD x),rA (pD k),rD (dK m)] (rD (dQ (Ac.ok x k m))):=
 wc jKQ (let a:=x.a<=x.al;sA (ui True (yC m (lK 7 0) x k []) (aAD true) (ui (a/\True) (yC m (lK 7 1) x k []) (aAD true) (ui (a/\x.b<=x.al/\True) (yC m (lK 7 2) x k []) (aAD true) (ui (aW a (x.b<=x.al) (x.c<=x.al)) (yC m (lK 7 3) x k []) sO aL))))) Tryz.func193 (let b:=Ac.ok x k m;let c:=bE false b;let d:=aH c;let a:=x.al;let e:=x.a<=x.al;let f:=aW e (x.b<=x.al) (x.c<=x.al);let g:=e/\x.b<=x.al/\True;let h:=e/\True;oG (∃ r:Unit,aAH True m (kE jD) x k) (aF (∀ q:Unit,True->aM vP (xR (qV (aIU x.a a c) (iO x.a a (True/\True/\(∃ p:Unit,aAH h m (eZ 0 1) x k)))))) (∀ o:Unit,h->aM vQ (aFX (qV (aIU x.b a c) (iO x.b a (True/\True/\(∃ n:Unit,aAH g m (eZ 1 2) x k)))))) (∀ l:Unit,g->aM vR (oX 2 2 3 (qV (aIU x.c a c) (iO x.c a (True/\True/\(∃ j:Unit,aAH f m (eZ 2 3) x k)))))) (∀ i:Unit,iN f vT (aCX (aFS m) (zQH m) (eH (lH x.own a) (tQ x.own x.f (True/\True/\tQ a m (True/\True/\bI (lH x.f m) (aBW (xY 231 (aI k) m k) (Px.ok k m) (bL (bE (k.f==k.al) b)) (iW (Px.ok k m) (aBO b))) (mM (decide (x.f<=m)) true b)) (tX a m (gZ false b))) (sJ (decide (x.own<=x.f)) true d)) (tX x.own a d)) (lB (zQH m) true d))))) λhwf=>by
  delta eS aB bI aE aT aF aH bQ aM aY oE dE iA iN aBW aW iO aI jM oG pU bL kE jD qV lB bE eH gZ lH iW oX tQ tX mM xR sJ eX dH aBC aFS qI vP vR vQ vT aFX eZ xY aCX nW aBO aIU aAH;simp only [sS];simp only [RV.wfs,RV.wf,DV.wf,DV.wfs,uc] at hwf;have ful:=zZk m;have vp:=zQu k.a k.b k.c k.al k.f m;change Ans _ _ _ (RV.d (DV.bool (k.ok m))) at vp;have no:¬ ((x.a<=x.al/\x.b<=x.al/\x.c<=x.al)/\zQH m=true/\(x.own<=x.al/\x.own<=x.f/\x.al<=m/\x.f<=m)/\k.ok m=true/\k.f=k.al)->false=x.ok k m:=λh=>by
   cases e:x.ok k m with
   | false=>rfl
   | true=>exact absurd (Ac.ok_iff.1 e) h
  have w1:wrap .i64 (0+1)=1:=by decide
  have w2:wrap .i64 (1+1)=2:=by decide
  have w3:wrap .i64 (2+1)=3:=by decide
  refine ⟨⟨(),trivial⟩,⟨by decide,by decide,λh=>no (λq=>by omega),λh=>⟨(),by omega,w1⟩⟩,λh1=>⟨by decide,by decide,λh=>no (λq=>by omega),λh=>⟨(),⟨h1,by omega⟩,w2⟩⟩,λh2=>⟨by decide,by decide,λh=>no (λq=>by omega),λh=>⟨(),⟨h2.1,h2.2,by omega⟩,w3⟩⟩,λh3=>⟨by decide,ful,λhf=>⟨λg1=>⟨λg2=>⟨λg3=>⟨λg4=>⟨vp,λhk=>?_,λhk=>no (λq=>by rw [hk] at q; exact absurd q.2.2.2.1 (by decide))⟩,λh=>no (λq=>by omega)⟩,λh=>no (λq=>by omega)⟩,λh=>no (λq=>by omega)⟩,λh=>no (λq=>by omega)⟩,λhf=>no (λq=>by rw [hf] at q; exact absurd q.2.1 (by decide))⟩⟩;by_cases e:k.f=k.al
  ·rw [Ac.ok_iff.2 ⟨h3,hf,⟨g1,g2,g3,g4⟩,hk,e⟩];simpa using e
  ·rw [<- no (λq=>e q.2.2.2.2)];simpa using e
theorem jYs (iso kno:Bool) (x:Ac) (k:Px):Ans prog 192 [rD (dQ iso),rD (dQ kno),rA (aD x),rA (pD k)] (rT [rA (aD ((zQM iso kno x k).1)),rA (pD ((zQM iso kno x k).2))]):=
 wc jKQ aL Tryz.func192 (let a:=tR (dH (zQM iso kno x k).fst) (aI (zQM iso kno x k).snd);bL (bI (gX iso) (True/\True/\True/\True/\gV kno (bL (cT (tR (eX k.a k.b k.c k.al 0 0) (aI k)=a))) (True/\True/\True/\True/\cT (tR (eX x.a x.b x.c x.al 0 0) (aEU x.a x.b x.c x.al)=a))) (gW iso (True/\True/\True/\True/\cT (tR zV dV=a))))) λhwf=>by
  delta eS bI aE bQ cT aI aEU dV bL gV gW gX eX dH yB tR zV;simp only [sS];unfold zQM;cases iso<;>cases kno<;>simp [Px.zero]
def aCW (a:Bool) (b c d:Int) (e:Px) (f:Ac) (g:Px) (h:Prop) (i:List DV) (j:Prop):Prop:=fP (zZn a b c d e f g=true) (eS (DV.bool a)/\aHE b c d h) (eS (vU e)) (gA (dH f) (aI g) i j)
abbrev wYz:=@false_implies
theorem jJV (kno:Bool) (op mode m:Int) (p:Px) (x:Ac) (k:Px):Ans prog 233 [rD (dQ kno),rJ (op),rJ (mode),rD (dK m),rA (pD p),rA (aD x),rA (pD k)] (rT [rA (aD (zY9 kno op mode m p x k)),rD (dQ (zZn kno op mode m p x k))]):=
 wc jKQ (let a:=accS kno op mode m p x k;let b:=oW 0 a.f [];let d:=a.b;let c:=a.a;let e:=zZn kno op mode m p x k=true;pX (ui e (aCV (aBT 0 kno 1 (aB op) (qO 2 mode 3 m (aAG 11 12 13 14 16 (lK 17 0)))) 11 p 12 x 13 k 14 16 (cP (cP b))) (aAD true) (ui e (aCV (aBT 0 kno 1 (aB op) (qO 2 mode 3 m (aAG 11 12 13 14 16 (lK 17 1)))) 11 p 12 x 13 k 14 16 (aCT c (cP b))) (aAD true) (ui e (lY (aBT 0 kno 1 (aB op) (qO 2 mode 3 m (aAG 11 12 13 14 16 (lK 17 2)))) 11 (cN p) 12 (qE x) (pK 13 (cN k) 14 (cP (cP (cP []))) (vG 16 (bJ c (aCT d (iV b))) []))) (aAD true) (ui e (aCV (aBT 0 kno 1 (aB op) (qO 2 mode 3 m (aAG 11 12 13 14 16 (lK 17 3)))) 11 p 12 x 13 k 14 16 (fN c d a.c 0 b)) sO aL))))) Tryz.func233 (let f:=zZn kno op mode m p x k;let i:=dH (zY9 kno op mode m p x k);let q:=tO zV false i f;let r:=aH q;let n:=Ac.ok x k m;let j:=accS kno op mode m p x k;let c:=j.f;let g:=x.own;let a:=p.al;let b:=x.al;let o:=j.c;let h:=j.b;let d:=j.a;let e:=k.al;let l:=f=true;let s:=eX d h o 0 0 c;let t:=yB d h c;let u:=yB d 0 c;let v:=aF (∀ I:Unit,l->True/\aCX vP kno (dL (jX 3) (xR (xR (qK (aGD 251 mode m p.a a p.f x.a k.a e) (jX 3) (iB (∃ H:Unit,aCW kno op mode m p x k (eZ 0 1) zV (yB (knoC mode m p.a a p.f x.a k.a e) 0 c=u))))))) (nJ kno (bH (jX 3) (xR (qK (aKV 252 op mode m p.a a x.a b) (jX 3) (iB (∃ G:Unit,aCW kno op mode m p x k (eZ 0 1) zV (yB (colS op mode m p.a a x.a b) 0 c=u)))))))) (∀ F:Unit,l->True/\aCX vQ kno (dL (pP 3) (aFX (aFX (qK (aGD 251 mode m p.b a p.f x.b k.b e) (pP 3) (iB (∃ E:Unit,aCW kno op mode m p x k (eZ 1 2) zV (yB d (knoC mode m p.b a p.f x.b k.b e) c=t))))))) (nJ kno (bH (pP 3) (aFX (qK (aKV 252 op mode m p.b a x.b b) (pP 3) (iB (∃ D:Unit,aCW kno op mode m p x k (eZ 1 2) zV (yB d (colS op mode m p.b a x.b b) c=t)))))))) (∀ C:Unit,l->True/\aCX vR kno (dL (qM 3) (oX 2 2 3 (oX 2 2 3 (qK (aGD 251 mode m p.c a p.f x.c k.c e) (qM 3) (iB (∃ B:Unit,aCW kno op mode m p x k (eZ 2 3) zV (eX d h (knoC mode m p.c a p.f x.c k.c e) 0 0 c=s))))))) (nJ kno (bH (qM 3) (oX 2 2 3 (qK (nY 252 (aB op) (aB mode) (vV m p.c (vV a x.c (jM b []))) (fK (colS op mode m p.c a x.c b))) (qM 3) (iB (∃ A:Unit,aCW kno op mode m p x k (eZ 2 3) zV (eX d h (colS op mode m p.c a x.c b) 0 0 c=s)))))))) (∀ z:Unit,l->True/\aKQ vT kno (bL (aM (aCS 253 m (iT a p.f b e) (fK (knoA m a p.f b e))) (aH (aBQ (Ans prog 254 (iT m a p.f g) (fK (knoA m a p.f g 0))) (tP (eX d h o (knoA m a p.f b e) (knoA m a p.f g 0) c) i f))))) (dO kno (True/\True/\True/\True/\aN (aGC 255 op a b m (zXa op a b m)) (bH (aGC 255 op a g m (zXa op a g m)) (iB (tP (eX d h o (zXa op a b m) (zXa op a g m) c) i f))))));let w:=(∃ J:Unit,aCW kno op mode m p x k (kE jD) zV (yB 0 0 (zXc op p.f x.f m)=yB 0 0 c));let y:=aGC 250 op p.f x.f m (zXc op p.f x.f m);bL (zW 248 op/\True/\True/\bP (gC (mN op)) (zW 249 mode) (zG (gC (mN mode)) (Ans prog 193 (rA (dH x)::aAE k m) (rD (DV.bool n))) (True/\True/\True/\cS (!n) (xY 231 (vU p) m p) (True/\True/\True/\cS (!(Px.ok p m)) (kno=true->True/\True/\True/\True/\((op !=4)=true->True/\mK zV false i f)/\(tW op 4->True/\True/\True/\True/\aFL y w v)) (iW kno (jO y (True/\True/\True/\w/\v)))/\xZ (Px.ok p m) q)/\hZ n (cZ (rT [rA zV,rD (DV.bool false)]) (rT [rA i,rD (DV.bool f)]))) (sJ (!(mN mode)) false r))/\hZ (mN op) r)) λhwf=>by
  delta eS aB aE aT aF aH bQ aM aY oE jX nY aKQ aBQ nC pV aN lZ bM dL bW dO gA qK bP fQ iB zG aI pP qM cS bH jM pU bL kE fP kB nJ jD aFL fR cZ mK zQ lB lG fK gC tO tP iW oX xR sJ vV tT eX dH yB zV hZ mN zW iT tU aCS qI vP vR vQ vT aAE aFX eZ xY xZ jO aDT tW vU aGD aHE aCX aCW aKV aGC;simp only [sS];simp only [RV.wfs,RV.wf,DV.wf,DV.wfs,uc] at hwf;obtain ⟨_,_,_,⟨m0,m1⟩,⟨⟨pa0,_⟩,⟨pb0,_⟩,⟨pc0,_⟩,⟨pl0,_⟩,⟨pf0,_⟩,_⟩,⟨⟨xa0,_⟩,⟨xb0,_⟩,⟨xc0,_⟩,⟨xl0,_⟩,⟨xo0,_⟩,⟨xf0,_⟩,_⟩,⟨⟨ka0,_⟩,⟨kb0,_⟩,⟨kc0,_⟩,⟨kl0,_⟩,⟨kf0,_⟩,_⟩,_⟩:=hwf;have va:=zJ8 x k m;have vp:=zQu p.a p.b p.c p.al p.f m;change Ans _ _ _ (RV.d (DV.bool (p.ok m))) at vp;have io:=zZJ op;have im:=zZu mode;have mk:1<=op/\op<13->1<=mode/\mode<13->x.ok k m=true->p.ok m=true->(kno=true->op=4)->zZn kno op mode m p x k=true:=λh1 h2 h3 h4 h5=>by
   unfold zZn isNm;rw [decide_eq_true h1,decide_eq_true h2,h3,h4]
   cases kno with
   | false=>rfl
   | true=>rw [h5 rfl]; rfl
  have e0:zY9 kno op mode m p x k=if zZn kno op mode m p x k then accS kno op mode m p x k else .zero:=rfl
  cases hs:zZn kno op mode m p x k with
  | false=>
   rw [hs] at e0 mk;have e0:zY9 kno op mode m p x k=.zero:=e0;rw [e0];have Z:(0=Ac.zero.a/\0=Ac.zero.b/\0=Ac.zero.c/\0=Ac.zero.al/\0=Ac.zero.own/\0=Ac.zero.f)/\false=false:=⟨⟨rfl,rfl,rfl,rfl,rfl,rfl⟩,rfl⟩
   refine ⟨io,λho=>⟨im,λhmo=>⟨va,λhx=>⟨vp,λhp=>⟨λhk=>⟨λh4=>Z,λh4=>?_⟩,λhk=>?_⟩,λhp=>Z⟩,λhx=>Z⟩,λhmo=>Z⟩,λho=>Z⟩
   ·have:=mk ho hmo hx hp (λ_=>by simpa using h4);cases this
   ·have:=mk ho hmo hx hp (λh=>by rw [hk] at h; cases h);cases this
  | true=>
   rw [hs] at e0;have e0:zY9 kno op mode m p x k=accS kno op mode m p x k:=e0;clear mk;unfold zZn at hs;simp only [wQe] at hs;obtain ⟨h1,h2,h3,h4,h5⟩:=hs;obtain ⟨⟨q1,q2,q3⟩,hf,⟨q4,q5,q6,q7⟩,hk2,hk3⟩:=Ac.ok_iff.1 h3;obtain ⟨r1,r2,r3,r4,r5⟩:=Px.ok_iff.1 hk2;obtain ⟨p1,p2,p3,p4,p5⟩:=Px.ok_iff.1 h4;have sh:=jYr op p.f x.f m hf h1 p5 q7;have k1:=zYI mode m p.a p.al p.f x.a k.a k.al hf h2 p1 p4 p5 r1 (by omega) (by omega);have k2:=zYI mode m p.b p.al p.f x.b k.b k.al hf h2 p2 p4 p5 r2 (by omega) (by omega);have k3:=zYI mode m p.c p.al p.f x.c k.c k.al hf h2 p3 p4 p5 r3 (by omega) (by omega);have c1:=zVc op mode m p.a p.al x.a x.al hf h1 h2 p1 (by omega) q1 q6;have c2:=zVc op mode m p.b p.al x.b x.al hf h1 h2 p2 (by omega) q2 q6;have c3:=zVc op mode m p.c p.al x.c x.al hf h1 h2 p3 (by omega) q3 q6;have ka:=zJ9 m p.al p.f x.al k.al hf p4 p5 q6 (by omega);have ko:=zHr m p.al p.f x.own hf p4 p5 (by omega);have a1:=zU6 op p.al x.al m hf h1 (by omega) q6;have a2:=zU6 op p.al x.own m hf h1 (by omega) (by omega);have w1:wrap .i64 (0+1)=1:=by decide
   have w2:wrap .i64 (1+1)=2:=by decide
   have w3:wrap .i64 (2+1)=3:=by decide
   have h1':1<=op/\op<13:=wQE h1;have h2':1<=mode/\mode<13:=wQE h2;rw [h3] at va;rw [h4] at vp;rw [e0,h3,h4]
   cases kno with
   | false=>
    (repeat' (first | apply And.intro | intro _ | refine Exists.intro () ?_))<;>first | exact io | exact im | exact va | exact vp | exact sh | exact c1 | exact c2 | exact c3 | exact a1 | exact a2 | exact w1 | exact w2 | exact w3 | rfl | decide | (exfalso; contradiction) | (exfalso; omega)
   | true=>
    have h5:op=4:=by simpa using h5
    have h6:(op !=4)=false:=by simpa using h5
    have nb:((op !=4)=true)=False:=by rw [h6]; simp
    simp only [nb,wYz,true_and]
    (repeat' (first | apply And.intro | intro _ | refine Exists.intro () ?_))<;>first | exact io | exact im | exact va | exact vp | exact sh | exact k1 | exact k2 | exact k3 | exact ka | exact ko | exact w1 | exact w2 | exact w3 | rfl | decide | (exfalso; contradiction) | (exfalso; omega)
def aFW (a:Ac) (b:Px) (c d e:Int) (f:Prop):Prop:=aIT a b c (bW (bW (iR (bX c) (qI d e)))) f
theorem zKk (x:Ac) (k:Px) (m:Int):Ans prog 128 [rA (aD x),rA (pD k),rD (dK m)] (rT [rA (pD (resE x k m)),rD (dQ (Ac.ok x k m))]):=
 wc jKQ (let a:=zZb x k m;let b:=a.a;let d:=Ac.ok x k m=true;let c:=oW x.own x.f [];aFV (ui d (aIS (aAC 4 4 (lI (gH 9 (bX m) 10 (aB 0) []))) x [] 4 k (xX 6 8 (iV (cP c)) [])) (aAD true) (ui d (aIS (aAC 4 4 (lI (gH 9 (bX m) 10 (aB 1) []))) x [] 4 k (xX 6 8 (aCT b (iV c)) [])) (aAD true) (ui d (aIS (aAC 4 4 (lI (gH 9 (bX m) 10 (aB 2) []))) x [] 4 k (xX 6 8 (bJ b (fN a.b 0 x.own x.f [])) [])) (aAD true) (ui d (aIS (aAC 4 4 (lI (gH 9 (bX m) 10 (aB 3) []))) x [] 4 k (xX 6 8 (bJ b (fN a.b a.c x.own x.f [])) [])) sO aL))))) Tryz.func128 (let b:=Ac.ok x k m;let a:=x.own;let l:=zZb x k m;let n:=l.b;let c:=l.a;let o:=aFY c n l.c a x.f;let d:=b=true;let p:=bQ c n 0 a x.f;let e:=tS m a k.c;let f:=dG m x.c;let q:=aG a;let s:=fJ f e;let r:=bQ c 0 0 a x.f;let g:=tS m a k.b;let h:=dG m x.b;let t:=fJ h g;let u:=bQ 0 0 0 a x.f;let i:=tS m a k.a;let j:=dG m x.a;let v:=fJ j i;bL (aFZ (Ans prog 193 (rA (dH x)::aAE k m) (rD (DV.bool b))) b (mK dV false (aI (resE x k m)) b) (gC b->aFK (∃ H:Unit,aIT x k m (bW (bW (iR (bX m) jD))) (eS u)) (aF (∀ G:Unit,d->aM vP (aM (jX 3) (aH (xR (cT (bI (jY j i) (bH (aCR (j-i) m v) (aM (jX 3) (iB (∃ F:Unit,aFW x k m 0 1 (bQ (fH (Min.min (zQP v (aG m)) q)) 0 0 a x.f=r))))) (iO j i (True/\True/\(∃ E:Unit,aFW x k m 0 1 (u=r)))))))))) (∀ D:Unit,d->aM vQ (aM (pP 3) (aH (aFX (cT (bI (jY h g) (bH (aCR (h-g) m t) (aM (pP 3) (iB (∃ C:Unit,aFW x k m 1 2 (bQ c (fH (Min.min (zQP t (aG m)) q)) 0 a x.f=p))))) (iO h g (True/\True/\(∃ B:Unit,aFW x k m 1 2 (r=p)))))))))) (∀ A:Unit,d->aM vR (aM (qM 3) (aH (oX 2 2 3 (cT (bI (jY f e) (bH (aCR (f-e) m s) (aM (qM 3) (iB (∃ z:Unit,aFW x k m 2 3 (bQ c n (fH (Min.min (zQP s (aG m)) q)) a x.f=o))))) (iO f e (True/\True/\(∃ y:Unit,aFW x k m 2 3 (p=o)))))))))) (∀ w:Unit,d->True/\True/\aN vT (tP o (aI (resE x k m)) b)))))) λhwf=>by
  delta eS aB bI aE aT aF aH bQ aM aY oE jX aN bW gA cT iO iB jY aI pP qM bH jM dV fH pU bL iR jD aFK aK fR mK zQ aG bX aU fJ iS gC tP oX xR dG vN aCR eX dH tS nP aFY qI yX vP vR vQ vT aIT aAE aFZ aFW aFX;simp only [sS];simp only [RV.wfs,RV.wf,DV.wf,DV.wfs,uc] at hwf;have W:=ud;have U:=uf;obtain ⟨⟨⟨xa0,xa1⟩,⟨xb0,xb1⟩,⟨xc0,xc1⟩,⟨xl0,xl1⟩,⟨xo0,xo1⟩,⟨xf0,xf1⟩,_⟩,⟨⟨ka0,ka1⟩,⟨kb0,kb1⟩,⟨kc0,kc1⟩,⟨kl0,kl1⟩,⟨kf0,kf1⟩,_⟩,⟨m0,m1⟩,_⟩:=hwf;have va:=zJ8 x k m;have e0:resE x k m=if x.ok k m then zZb x k m else .zero:=rfl
  cases hx:x.ok k m with
  | false=>
   rw [hx] at e0 va;have e0:resE x k m=.zero:=e0;rw [e0];exact ⟨va,λ_=>⟨⟨rfl,rfl,rfl,rfl,rfl⟩,rfl⟩,λh=>by cases h⟩
  | true=>
   rw [hx] at e0 va;have e0:resE x k m=zZb x k m:=e0;rw [e0];obtain ⟨⟨q1,q2,q3⟩,hf,⟨q4,q5,q6,q7⟩,hk2,hk3⟩:=Ac.ok_iff.1 hx;have hm:=(zQO hf).1;have w1:wrap .i64 (0+1)=1:=by decide
   have w2:wrap .i64 (1+1)=2:=by decide
   have w3:wrap .i64 (2+1)=3:=by decide
   simp only [W m m0 (by omega),W x.own xo0 (by omega),W (m-x.own) (by omega) (by omega)];have one:∀ c b:Int,0<=c->c<=65535->0<=b->b<=65535->(wrap .u64 (m*wrap .u64 c)=m*c/\wrap .u64 ((m-x.own)*wrap .u64 b)=(m-x.own)*b)/\(m*c>(m-x.own)*b->Ans prog 194 [RV.d (DV.int .u64 (wrap .u64 (m*c-(m-x.own)*b))),RV.d (DV.int .u64 m)] (RV.d (DV.int .u64 (zQP (wrap .u64 (m*c-(m-x.own)*b)) m)))/\wrap .u16 (min (zQP (wrap .u64 (m*c-(m-x.own)*b)) m) x.own)=remS m c x.own b)/\(¬ m*c>(m-x.own)*b->0=remS m c x.own b):=λc b c0 c1 b0 b1=>by
    have n1:=zQc m0 m1 c0 c1;have n2:=zQc (x:=m-x.own) (y:=b) (A:=65535) (B:=65535) (by omega) (by omega) b0 b1;refine ⟨⟨by rw [W c c0 (by omega),W _ n1.1 (by omega)],by rw [W b b0 (by omega),W _ n2.1 (by omega)]⟩,λh=>⟨zZj _ _,?_⟩,λh=>by unfold remS; rw [if_neg h]⟩;have:=jXF (c:=c) (b:=b) hm xo0;rw [W (m*c-(m-x.own)*b) (by omega) (by omega)];unfold remS at this |-;rw [if_pos h] at this |-;exact U _ this.1 (by omega)
   obtain ⟨⟨u1,u2⟩,u3,u4⟩:=one x.a k.a xa0 xa1 ka0 ka1;obtain ⟨⟨v1,v2⟩,v3,v4⟩:=one x.b k.b xb0 xb1 kb0 kb1;obtain ⟨⟨t1,t2⟩,t3,t4⟩:=one x.c k.c xc0 xc1 kc0 kc1;simp only [u1,u2,v1,v2,t1,t2];simp only [zZb];refine ⟨va,λh=>(by cases h),λ_=>⟨⟨(),trivial⟩,λ_=>⟨by decide,by decide,by decide,λh=>⟨(u3 h).1,by decide,(),trivial,w1,(u3 h).2⟩,λh=>⟨(),trivial,w1,u4 h⟩⟩,λ_=>⟨by decide,by decide,by decide,λh=>⟨(v3 h).1,by decide,(),trivial,w2,(v3 h).2⟩,λh=>⟨(),trivial,w2,v4 h⟩⟩,λ_=>⟨by decide,by decide,by decide,λh=>⟨(t3 h).1,by decide,(),trivial,w3,(t3 h).2⟩,λh=>⟨(),trivial,w3,t4 h⟩⟩,λ_=>⟨by decide,?_⟩⟩⟩
   (repeat' (first | exact trivial | rfl | apply And.intro))
def gZ41:List RV->Option RV:=λv=>let c:=zQF (cAt (ur v 0) 8);let e:=nAt (uq v) 3;let f:=nAt (uq v) 2;let g:=vm (ur v 1);some (RV.tup [RV.agg (pD (srcS c g f e)),RV.d (dK (zQJ c g f e))])
def gZ42:List RV->Option RV:=λv=>some (RV.agg (pD (Ac.col (vt (ur v 0)))))
def jUX:Gam:=jKQ.add [.p 91 (λv=>some (RV.agg (pD (zJL (vh (ur v 0)) (nAt (uq v) 1) (nAt (uq v) 2) (nAt (uq v) 3) (nAt (uq v) 4))))),
 .p 52 gZ41,
 .p 190 (λv=>let c:=zQh (nAt (uq v) 3) (vm (ur v 0)) (vg (ur v 1)) (nAt (uq v) 2);some (RV.tup [RV.agg (pD (c.1)),RV.d (dQ c.2)])),
 .p 122 gZ42]
def aLI (a:Im) (b c:Int):RV:=RV.agg (aI (Im.at_ a b c))
theorem jJT (m:Im) (x y dx dy:Int) (hu:m.isU):Ans prog 91 [rA (iD m),rJ (x),rJ (y),rJ (dx),rJ (dy)] (rA (pD (zJL m x y dx dy))):=
 wc jUX aL Tryz.func91 (let a:=qN dV (zJL m x y dx dy);let b:=True/\a;bF (bI (decide (x<dx)=false) (aIY (decide (y<dy)=false) (True/\True/\True/\True/\eH (uI (sK x (aG dx)) 1099511627776) (bI (fI (sK y (aG dy)) 1099511627776) a (mY (sK y (aG dy)) 1099511627776 (jO (Ans prog 13 [imR m,rD (dZ x dx),rD (dZ y dy)] (aLI m (bU x dx) (bU y dy))) (qN (aI (Im.at_ m (bU x dx) (bU y dy))) (zJL m x y dx dy))))) (mE (decide (sK x (aG dx)>=1099511627776)) (True/\b))) (iG y dy->cV (True/\True/\True/\b))) (iG x dx->cV (bL a)))) λhwf=>by
  delta eS aB bI mY iG aE aT bQ aM bU dZ aIY nD mE aI qN cV dV bF bL aG fJ fI eH uI sK jO aLI;simp only [sS];simp only [RV.wfs,RV.wf,DV.wf,DV.wfs] at hwf;have mi:IntKind.min .i64 = -9223372036854775808:=rfl;have ma:IntKind.max .i64=9223372036854775807:=rfl;have mj:IntKind.min .u16=0:=rfl;have mb:IntKind.max .u16=65535:=rfl;simp only [mi,ma,mj,mb] at hwf;obtain ⟨_,⟨x0,x1⟩,⟨y0,y1⟩,⟨u0,u1⟩,⟨v0,v1⟩,_⟩:=hwf;have z:(x<dx\/y<dy\/x-dx>=1099511627776\/y-dy>=1099511627776)->0=(zJL m x y dx dy).a/\0=(zJL m x y dx dy).b/\0=(zJL m x y dx dy).c/\0=(zJL m x y dx dy).al/\0=(zJL m x y dx dy).f:=λh=>by
   unfold zJL; rw [if_pos h]; exact ⟨rfl,rfl,rfl,rfl,rfl⟩
  simp only [wX2];refine ⟨λh1=>⟨λh2=>⟨λh3=>⟨λh4=>z (by omega),λh4=>?_⟩,λh3=>z (by omega)⟩,λh2=>z (by omega)⟩,λh1=>z (by omega)⟩;rw [wQb (x-dx) ⟨by omega,by omega⟩,wQb (y-dy) ⟨by omega,by omega⟩,yZm (by omega)];exact ⟨zY7 m _ _ hu,rfl,rfl,rfl,rfl,rfl⟩
def rN (a:List DV) (b:Int):RV:=RV.tup (RV.agg a::jM b [])
theorem zWR (s:Scr) (o:Oq) (x y:Int) (hu:∀ m∈s.ims,m.isU):Ans prog 52 [rA (sD s),rA (oD o),rJ (x),rJ (y)] (rT [rA (pD (srcS s.ims o x y)),rD (dK (zQJ s.ims o x y))]):=
 wc jUX aL Tryz.func52 (let l:=rN (vU (srcS s.ims o x y)) (zQJ s.ims o x y);let m:=o.mask;let q:=aFC s.ims;let H:=decide (m<=q)=false;let c:=bU m 1;let I:=aR c 28;let f:=bG I;let n:=gO f;let e:=aR c 28;let J:=uD e;let K:=uC e;let i:=bG (bG f);let L:=sY e;let M:=sX e;let j:=jQ c 28;let O:=iL c 28;let P:=iK c 28;let u:=uB c 28;let v:=mS c 28;let w:=iJ c 28;let z:=lQ c 28;let r:=lN c 28;let A:=gT c 28;let Q:=aP s e;let b:=eO s;let R:=qF b c 28;let S:=nQ b c 28;let T:=jZ b c 28;let U:=jC b c 28;let V:=bAt b r;let W:=iE (eO s) c 28;let X:=nAt (eO s) I;let Y:=zJL (kK X W V U T S R Q (jU s A r z e) (jU s w v u f) (jU s (fE e) P O j) (jU s (iY e) M L i) (jU s (iY f) K J n)) x y o.mx o.my;let Z:=Y.al;let z0:=kV 91 (nM X W V U T S R Q (aP s A) (aP s r) (aP s z) (gQ s e) (gR s e) (dA (aP s w) (aP s v) (aP s u) (gQ s f) (gR s f) (aP s (fE e)) (aP s P) (aP s O) (gQ s j) (gR s j) (dA (aP s (iY e)) (aP s M) (aP s L) (gQ s i) (gR s i) (aP s (iY f)) (aP s K) (aP s J) (gQ s n) (gR s n) []))) (rD (aB x)::rD (aB y)::iF o.mx o.my) Y;let z1:=bV (jW b c 28) (oF b c 28) (dW b r) (jR s A) (mT b e) (jR s z) (jR s f) (jR s w) (bV (gP s e) (rM s v) (rM s u) (gS s e) (gP s f) (jS s e) (jT s e) (gS s f) (bV (gP s j) (jS s f) (jT s f) (gS s j) (gP s i) (jS s j) (jT s j) (gS s i) (aF (gP s n) (jS s i) (jT s i) (gS s n))));let z2:=mX c (aGR s) 28 b;let B:=eH (fI m 1) (tQ m q (True/\True/\True/\True/\cR z2 z1 (pS z0 (eS true) (cZ (rN dV Z) l))) (H->True/\True/\True/\True/\rN dV 0=l)) (xM (vK m) (cZ (rN dV 0) l));let a:=o.image;let z3:=decide (a<q);let p:=wT a 28;let d:=aR a 28;let z4:=uD d;let z5:=uC d;let k:=gO d;let z6:=sY d;let z7:=sX d;let g:=jQ a 28;let h:=bG (aR a 28);let C:=uB a 28;let D:=mS a 28;let E:=iJ a 28;let F:=lQ a 28;let t:=lN a 28;let G:=gT a 28;let z8:=aP s d;let z9:=qF b a 28;let y0:=nQ b a 28;let y1:=jZ b a 28;let y2:=jC b a 28;let y3:=bAt b t;let y4:=iE (eO s) a 28;let y5:=nAt (eO s) (aR a 28);let y6:=zJL (kK y5 y4 y3 y2 y1 y0 z9 z8 (jU s G t F d) (jU s E D C h) (jU s (fE d) (iK a 28) (iL a 28) g) (jU s (iY d) z7 z6 k) (jU s (fE (jQ a 28)) z5 z4 p)) x y o.x o.y;let y7:=aI y6;let y8:=rN y7 0;oU (mL o.kind 1 (eH (fI a 0) (eH (z3=true) (cR (mX a (aGR s) 28 b) (bV (jW b a 28) (oF b a 28) (dW b t) (jR s G) (mT b d) (jR s F) (jR s h) (jR s E) (bV (gP s d) (rM s D) (rM s C) (gS s d) (gP s h) (jS s d) (jT s d) (gS s h) (bV (gP s g) (jS s h) (jT s h) (gS s g) (gP s k) (jS s g) (jT s g) (gS s k) (aF (gP s p) (jS s k) (jT s k) (gS s p))))) (True/\True/\True/\True/\jH (kV 91 (nM y5 y4 y3 y2 y1 y0 z9 z8 (aP s G) (aP s t) (aP s F) (gQ s d) (gR s d) (dA (aP s E) (aP s D) (aP s C) (gQ s h) (gR s h) (aP s (fE d)) (aP s (iK a 28)) (aP s (iL a 28)) (gQ s g) (gR s g) (dA (aP s (iY d)) (aP s z7) (aP s z6) (gQ s k) (gR s k) (aP s (fE g)) (aP s z5) (aP s z4) (gQ s p) (gR s p) []))) (rD (aB x)::rD (aB y)::iF o.x o.y) y6) (eS true) True (eH (fI m 1) (tQ m q (True/\True/\True/\True/\cR z2 z1 (pS z0 (eS true) (cZ (rN y7 Z) l))) (H->True/\True/\True/\True/\y8=l)) (xM (vK m) (cZ y8 l))))) (z3=false->cV B)) (iW (xP a) B)) (lB (o.kind==1) true B))) λhwf=>by
  delta eS aB aR bI mX jW aE aT aF fD bQ bU cR xM aI bV cV zN bN kD jM dV gT iE pS jC jZ oF kV aFC kL cE cB bG bF qR dW iF cZ lB fI xP eH mL vK iW tQ oU aDT vU sR dA kK aGQ nM bY jH cM fS fE gO lN lQ mS iJ iY iL iK nQ qF sY sX uB uD uC jQ wT aP rM eO mT gP gQ gR jR jT jS jU aGR rN gS;simp only [sS];have oeta:(⟨o.kind,o.image,o.x,o.y,o.mask,o.mx,o.my,o.opac,o.oper,o.mode,o.iso,o.kno⟩:Oq)=o:=rfl;have ime:∀ m:Im,(⟨m.w,m.h,m.so,⟨m.c.a,m.c.b,m.c.c,m.c.al,m.c.f⟩,⟨m.p0.w,m.p0.h,m.p0.s,m.p0.n,m.p0.xs⟩,⟨m.p1.w,m.p1.h,m.p1.s,m.p1.n,m.p1.xs⟩,⟨m.p2.w,m.p2.h,m.p2.s,m.p2.n,m.p2.xs⟩,⟨m.p3.w,m.p3.h,m.p3.s,m.p3.n,m.p3.xs⟩,⟨m.p4.w,m.p4.h,m.p4.s,m.p4.n,m.p4.xs⟩⟩:Im)=m:=λ_=>rfl;have wm:1<=o.mask->o.mask<=s.ims.length->wrap .i64 (o.mask-1)=o.mask-1:=λh1 h2=>by
   simp only [RV.wfs,RV.wf,DV.wf,DV.wfs] at hwf;have ma:IntKind.max .i64=9223372036854775807:=rfl;have hb:∃ l h,l<=o.mask/\o.mask<=9223372036854775807/\h=l:=⟨_,_,by omega,by have:=hwf.2.1; simp only [ma] at this; omega,rfl⟩
   obtain ⟨_,_,_,h3,_⟩:=hb;exact wQb _ ⟨by omega,by omega⟩
  clear hwf;have S1:o.kind=1->(h0:0<=o.image)->(h:o.image.toNat<s.ims.length)->srcS s.ims o x y=zJL s.ims[o.image.toNat] x y o.x o.y:=λh1 h2 h3=>by unfold srcS; rw [if_pos h1,jQE h2 h3]
  have SZ:¬ (o.kind=1/\0<=o.image/\o.image<s.ims.length)->srcS s.ims o x y=.zero:=λh=>by
   unfold srcS;split
   ·rename_i h1;exact zGB (λq=>h ⟨h1,q⟩)
   ·rfl
  have M1:1<=o.mask->(h:(o.mask-1).toNat<s.ims.length)->(zJL s.ims[(o.mask-1).toNat] x y o.mx o.my).al=zQJ s.ims o x y:=λh1 h3=>by unfold zQJ; rw [if_pos h1,jQE (by omega) h3]
  have MZ:¬ (1<=o.mask/\o.mask<=s.ims.length)->0=zQJ s.ims o x y:=λh=>by
   unfold zQJ;split
   ·rw [zGB (by omega)]; rfl
   ·rfl
  have Z:¬ (o.kind=1/\0<=o.image/\o.image<s.ims.length)->(0=(srcS s.ims o x y).a/\0=(srcS s.ims o x y).b/\0=(srcS s.ims o x y).c/\0=(srcS s.ims o x y).al/\0=(srcS s.ims o x y).f):=λh=>by rw [SZ h]; exact ⟨rfl,rfl,rfl,rfl,rfl⟩
  have N:=λi (hi:i<s.ims.length) u v=>jJT s.ims[i] x y u v (hu _ (List.getElem_mem hi));have lb:∀ i:Int,0<=i->i<s.ims.length->(0<=i/\i < ↑s.ims.length/\i.toNat*28<(ims s.ims).length):=λi h0 h1=>⟨h0,h1,by rw [zYT]; omega⟩
  by_cases hm:1<=o.mask/\o.mask<=s.ims.length
  ·have k2:(o.mask-1).toNat<s.ims.length:=by omega
   rw [wm hm.1 hm.2];have q2:=zGW k2;simp only [zGX k2,q2,and_self,true_and];clear q2;have N2:=N _ k2 o.mx o.my;by_cases hi:0<=o.image/\o.image<s.ims.length
   ·have k1:o.image.toNat<s.ims.length:=by omega
    have q1:=zGW k1;simp only [zGX k1,q1,and_self,true_and];clear q1;have N1:=N _ k1 o.x o.y;simp only [ime,oeta] at N1 N2 |-;refine ⟨λh1=>⟨λh2=>⟨λh3=>⟨lb _ hi.1 hi.2,N1,⟨λ_=>⟨λ_=>⟨lb _ (by omega) (by omega),N2,?_,M1 hm.1 k2⟩,λh=>absurd hm.2 h⟩,λh=>absurd hm.1 h⟩⟩,λh=>absurd hi.2 h⟩,λh=>absurd hi.1 h⟩,λh=>⟨λ_=>⟨λ_=>⟨lb _ (by omega) (by omega),N2,?_,M1 hm.1 k2⟩,λh=>absurd hm.2 h⟩,λh=>absurd hm.1 h⟩⟩
    ·have h1:o.kind=1:=by simpa using h1
     rw [S1 h1 hi.1 k1]; exact ⟨rfl,rfl,rfl,rfl,rfl⟩
    ·exact Z (λq=>by rw [q.1] at h; cases h)
   ·simp only [ime,oeta] at N2 |-;refine ⟨λh1=>⟨λh2=>⟨λh3=>absurd ⟨h2,h3⟩ hi,λh=>⟨λ_=>⟨λ_=>⟨lb _ (by omega) (by omega),N2,?_,M1 hm.1 k2⟩,λh=>absurd hm.2 h⟩,λh=>absurd hm.1 h⟩⟩,λh=>⟨λ_=>⟨λ_=>⟨lb _ (by omega) (by omega),N2,?_,M1 hm.1 k2⟩,λh=>absurd hm.2 h⟩,λh=>absurd hm.1 h⟩⟩,λh=>⟨λ_=>⟨λ_=>⟨lb _ (by omega) (by omega),N2,?_,M1 hm.1 k2⟩,λh=>absurd hm.2 h⟩,λh=>absurd hm.1 h⟩⟩
    all_goals exact Z (λq=>hi q.2)
  ·by_cases hi:0<=o.image/\o.image<s.ims.length
   ·have k1:o.image.toNat<s.ims.length:=by omega
    have q1:=zGW k1;simp only [zGX k1,q1,and_self,true_and];clear q1;have N1:=N _ k1 o.x o.y;simp only [ime,oeta] at N1 |-;refine ⟨λh9=>⟨λh2=>⟨λh3=>⟨lb _ hi.1 hi.2,N1,⟨λh1=>⟨λh2=>absurd ⟨h1,h2⟩ hm,λ_=>⟨?_,MZ hm⟩⟩,λ_=>⟨?_,MZ hm⟩⟩⟩,λh=>absurd hi.2 h⟩,λh=>absurd hi.1 h⟩,λh=>⟨λh1=>⟨λh2=>absurd ⟨h1,h2⟩ hm,λ_=>⟨?_,MZ hm⟩⟩,λ_=>⟨?_,MZ hm⟩⟩⟩
    ·have h9:o.kind=1:=by simpa using h9
     rw [S1 h9 hi.1 k1]; exact ⟨rfl,rfl,rfl,rfl,rfl⟩
    ·have h9:o.kind=1:=by simpa using h9
     rw [S1 h9 hi.1 k1]; exact ⟨rfl,rfl,rfl,rfl,rfl⟩
    all_goals exact Z (λq=>by rw [q.1] at h; cases h)
   ·refine ⟨λh1=>⟨λh2=>⟨λh3=>absurd ⟨h2,h3⟩ hi,λh=>⟨λh1=>⟨λh2=>absurd ⟨h1,h2⟩ hm,λ_=>⟨?_,MZ hm⟩⟩,λ_=>⟨?_,MZ hm⟩⟩⟩,λh=>⟨λh1=>⟨λh2=>absurd ⟨h1,h2⟩ hm,λ_=>⟨?_,MZ hm⟩⟩,λ_=>⟨?_,MZ hm⟩⟩⟩,λh=>⟨λh1=>⟨λh2=>absurd ⟨h1,h2⟩ hm,λ_=>⟨?_,MZ hm⟩⟩,λ_=>⟨?_,MZ hm⟩⟩⟩
    all_goals exact Z (λq=>hi q.2)
theorem zWQ (o:Oq) (p:Px) (mask most:Int):Ans prog 190 [rA (oD o),rA (pD p),rD (dK mask),rD (dK most)] (rT [rA (pD ((zQh most o p mask).1)),rD (dQ ((zQh most o p mask).2))]):=
 wc jUX aL Tryz.func190 (let c:=(zQh most o p mask).snd;let d:=eY (zQh most o p mask);let b:=zXM p most o.opac most;let e:=aAB b.fst;let f:=[rD (aE o.opac),rD (aE most)];let a:=zXM p mask o.opac most;bL (eH (sZ o.mask) (bH (xU 232 (aAB p) (jM mask f) (eY a) a) (tO (eY a) a.snd d c)) (dO (dX o.mask) (bH (xU 232 (aAB p) (jM most f) e b) (tO e b.snd d c))))) λhwf=>by
  delta eS aE bQ dO aI bH jM bL dX eH tO nP eY xU aFY aAB sZ;simp only [sS];clear hwf;have B:=λk=>jJW p k o.opac most;refine ⟨λh=>?_,λh=>?_⟩
  ·have h:o.mask≠0:=by simpa using h
   have e:zQh most o p mask=zXM p mask o.opac most:=by unfold zQh; rw [if_neg h]
   rw [e];exact ⟨B _,⟨rfl,rfl,rfl,rfl,rfl⟩,rfl⟩
  ·have h:o.mask=0:=by simpa using h
   have e:zQh most o p mask=zXM p most o.opac most:=by unfold zQh; rw [if_pos h]
   rw [e];exact ⟨B _,⟨rfl,rfl,rfl,rfl,rfl⟩,rfl⟩
theorem zYH (x:Ac):Ans prog 122 [rA (aD x)] (rA (pD (Ac.col x))):=
 wc jUX aL Tryz.func122 (aCB (qN (bQ x.a x.b x.c x.al x.f) (Ac.col x))) λhwf=>by
  delta eS aE aH bQ nD aI qN aCB;simp only [sS];exact ⟨rfl,rfl,rfl,rfl,rfl⟩
theorem jYB {cs:List DV}:∀ (ys xs:List DV) (i:Nat),sets (cs++xs) (i+cs.length) ys=cs++sets xs i ys
 | [],xs,i=>rfl
 | y::ys,xs,i=>by
  rw [sets,sets,List.set_append_right _ _ (by omega),show i+cs.length-cs.length=i by omega,show i+cs.length+1=(i+1)+cs.length by omega];exact jYB ys _ _
theorem jVg:∀ {l:List Lv} {k:Nat} (a:Ac) (h:k<l.length),sets (lvs l) (k*23+12) a.ds=lvs (l.set k ⟨l[k].op,a,l[k].back⟩)
 | q::l,0,a,_=>rfl
 | q::l,k+1,a,h=>by
  have ih:=jVg (l:=l) (k:=k) a (by simpa using h);have e:lvs (q::l)=q.cells++lvs l:=by simp [lvs]
  have e2:∀ t,lvs ((q::l).set (k+1) t)=q.cells++lvs (l.set k t):=λt=>by simp [lvs]
  have ec:q.cells.length=23:=rfl;have:=jYB (cs:=q.cells) a.ds (lvs l) (k*23+12);rw [e,e2,wQ3,<- ih,<- this];congr 1;omega
theorem jY3 {L:List Lv} {p:Px} (h:1<=L.length) (hb:zZc m L o p=true):sets (lvs L) ((L.length-1)*23+12) (accS (topL L).op.kno o.oper o.mode m p (topL L).acc (topL L).back).ds=lvs (zQB m L o p):=by
 have:=jVg (l:=L) (k:=L.length-1) (accS (topL L).op.kno o.oper o.mode m p (topL L).acc (topL L).back) (by omega);rw [this];unfold zQB;rw [if_pos hb,zYv h]
def gZ43:List AV->List Bx->Option Ret:=λv b=>some ⟨aJ (((uz (uw b 0) 1):Int)-1),b,false⟩
def jWw:Gam:=jUX.add [.q 127 ([false],2,1000) gZ43]
def wS (a:List Lv):Int:=(List.length a:Int)
def uE (a:Prop) (b:Int) (c d:Prop):Prop:=aW (a/\True) (iR (aE b) c) d
def iX (a:List Lv):Int:=wS a-1
def fC (a:List Lv):wi:=[Cl.ref 1 (List.length a)]
def sW (a:Prop) (b:Int) (c:List Lv):Prop:=uE a b (eS (List.length c)) (eS (lvs c))
def aGP (a:AV) (b:Int) (c:List Lv):Prop:=zZd ⟨a,[Bx.cells (bJ b (fC c)),Bx.row 217 23 (lvs c)],false⟩
def aAN (a:List Lv):Prop:=List.length a<=maxLen
theorem zZr (most:Int) (L:List Lv) (hn:1<=L.length) (hl:L.length<=66):AnsG prog 127 2 [aPz] [bC [cK (most),Cl.ref 1 L.length],bR 217 23 (lvs L)] ⟨aJ ((((L.length:Int)-1))),[bC [cK (most),Cl.ref 1 L.length],bR 217 23 (lvs L)],false⟩:=
 wd jWw aL Tryz.func127 (fZ (aAN L/\True/\True/\sW (dZ (wS L) 1=aB (iX L)) most L/\aGP (bZ (aB (iX L))) most L)) λhwf hbx=>by
  delta eS aB aE aT bZ dZ aW fZ iR bJ wS uE iX fC sW aGP aAN;simp only [sS];exact ⟨by unfold maxLen; omega,wQb _ ⟨by omega,by omega⟩,trivial⟩
theorem zXP (most:Int) (L:List Lv) (hn:1<=L.length) (hl:L.length<=66):AnsG prog 130 2 [aPz] [bC [cK (most),Cl.ref 1 L.length],bR 217 23 (lvs L)] ⟨aJ ((((L.length:Int)-1))),[bC [cK (most),Cl.ref 1 L.length],bR 217 23 (lvs L)],false⟩:=
 wd jWw aL Tryz.func130 (fZ (aAN L/\True/\True/\sW (dZ (wS L) 1=aB (iX L)) most L/\aGP (bZ (aB (iX L))) most L)) λhwf hbx=>by
  delta eS aB aE aT bZ dZ aW fZ iR bJ wS uE iX fC sW aGP aAN;simp only [sS];exact ⟨by unfold maxLen; omega,wQb _ ⟨by omega,by omega⟩,trivial⟩
def bD (a:List Lv) (b:Nat):Prop:=cM (lvs a) b
def uA (a:Int) (b:List Lv):Prop:=mO a (List.length b)
def gM (a:Int):Nat:=aR a 23
def sV (a:FuncId) (b:Int) (c:List Lv) (d:Nat) (e:List Bx) (f:Nat) (g:List Bx) (h:Nat) (i:List Bx):Prop:=AnsG prog a 2 [AV.one (Cl.ptr 0 0)] (Bx.cells (bJ b (fC c))::Bx.row d 23 (lvs c)::e) ⟨bZ (aB (iX c)),Bx.cells (bJ b (fC c))::Bx.row f 23 (lvs c)::g,false⟩/\eS (lU (bJ b (fC c)) h 23 (lvs c) i)
def aDF (a:List Lv) (b:Int) (c:Nat):Int:=nAt (lvs a) (gM b+c)
def aDG (a:List Lv) (b:Int) (c:Nat):Int:=nAt (lvs a) (gM b+c+1)
def aDH (a:List Lv) (b:Int) (c:Nat):Int:=nAt (lvs a) (gM b+c+1+1)
def aDI (a:List Lv) (b:Int) (c:Nat):Int:=nAt (lvs a) (gM b+c+1+1+1)
abbrev aC (q:Ac):List Cl:=[Cl.d (DV.int .u16 q.a),Cl.d (DV.int .u16 q.b),Cl.d (DV.int .u16 q.c),Cl.d (DV.int .u16 q.al),Cl.d (DV.int .u16 q.own),Cl.d (DV.int .u16 q.f)]
theorem zYl (most:Int) (L:List Lv) (hn:1<=L.length) (hl:L.length<=66):AnsG prog 123 2 [aPz] [bC [cK (most),Cl.ref 1 L.length],bR 217 23 (lvs L)] ⟨AV.agg (aC ((topL L).acc)),[bC [cK (most),Cl.ref 1 L.length],bR 217 23 (lvs L)],false⟩:=
 wd jWw aL Tryz.func123 (let a:=iX L;let c:=gM a;let b:=c+12;fZ (dY (sV 127 most L 217 [] 217 [] 217 []) (uA a L) (jH (cF (bY (lvs L) (gM a+12)) (bY (lvs L) (gM a+12+1)) (bD L b) (bD L (c+12+1)) (bD L (cB b)) (bD L (cB b+1))) (eS true) (sW (nP (aDF L a 12) (aDG L a 12) (aDH L a 12) (nP (aDI L a 12) (kL (lvs L) (gM a) 12) (kL (lvs L) (c+12) 1) [])=dH (topL L).acc) most L) (aGP (AV.agg (qE (topL L).acc)) most L)))) λhwf hbx=>by
  delta eS aB aR dY aE aF fD bZ aX aW mO fZ kL cB iR eX dH nP bJ fN oW aBF qE bY cF jH cM bD wS uE lU uA iX fC sW gM sV aDF aDG aDH aDI aGP;simp only [sS];have hk:L.length-1<L.length:=by omega
  have hT:L[L.length-1]=topL L:=(zYv hn).symm;have ei:((L.length:Int)-1).toNat=L.length-1:=by omega
  have bd:0<=(L.length:Int)-1/\(L.length:Int)-1<(L.length:Int):=by omega
  have tp:=zZr most L hn hl;have r1:=zVk (l:=L) (k:=L.length-1) hk;have r2:=zVl (l:=L) (k:=L.length-1) hk;rw [hT] at r1 r2;simp only [Nat.add_zero] at r1 r2;simp only [ei,Nat.add_assoc,Nat.reduceAdd,Nat.add_zero,Nat.zero_add,r1,r2,and_self,true_and,and_true];exact ⟨tp,bd,trivial⟩
def aDJ (a:Px):AV:=AV.agg (cN a)
abbrev pC (q:Px):List Cl:=[Cl.d (DV.int .u16 q.a),Cl.d (DV.int .u16 q.b),Cl.d (DV.int .u16 q.c),Cl.d (DV.int .u16 q.al),Cl.d (DV.int .u16 q.f)]
theorem zWB (most:Int) (L:List Lv) (hn:1<=L.length) (hl:L.length<=66):AnsG prog 126 2 [aPz] [bC [cK (most),Cl.ref 1 L.length],bR 217 23 (lvs L)] ⟨AV.agg (pC ((topL L).back)),[bC [cK (most),Cl.ref 1 L.length],bR 217 23 (lvs L)],false⟩:=
 wd jWw aL Tryz.func126 (let a:=iX L;let b:=gM a;fZ (dY (sV 127 most L 217 [] 217 [] 217 []) (uA a L) (jH (fT (bY (lvs L) (gM a+18)) (bY (lvs L) (gM a+18+1)) (bD L (b+18)) (bD L (b+18+1)) (bD L (cB (b+18)))) (eS true) (sW (bQ (aDF L a 18) (aDG L a 18) (aDH L a 18) (aDI L a 18) (kL (lvs L) (gM a) 18)=aI (topL L).back) most L) (aGP (aDJ (topL L).back) most L)))) λhwf hbx=>by
  delta eS aB aR dY aE aF fD bQ bZ fT aX aW mO aI fZ kL cB iR bJ fN cN bY jH cM bD wS uE lU uA iX fC sW gM sV aDF aDG aDH aDI aGP aDJ;simp only [sS];have hk:L.length-1<L.length:=by omega
  have hT:L[L.length-1]=topL L:=(zYv hn).symm;have ei:((L.length:Int)-1).toNat=L.length-1:=by omega
  have bd:0<=(L.length:Int)-1/\(L.length:Int)-1<(L.length:Int):=by omega
  have tp:=zZr most L hn hl;have r1:=zVk (l:=L) (k:=L.length-1) hk;have r2:=zVl (l:=L) (k:=L.length-1) hk;rw [hT] at r1 r2;simp only [Nat.add_zero] at r1 r2;simp only [ei,Nat.add_assoc,Nat.reduceAdd,Nat.add_zero,Nat.zero_add,r1,r2,and_self,true_and,and_true];exact ⟨tp,bd,trivial⟩
def nX (a b:List Lv):Prop:=List.length a=List.length b
def pE (a b:List Lv):Prop:=lvs a=lvs b
theorem zJk (most:Int) (L:List Lv) (o:Oq) (p:Px) (hn:1<=L.length) (hl:L.length<=66):AnsG prog 191 1 [aPz,AV.agg (oC o),AV.agg (pC p)] [bC [cK (most),Cl.ref 1 L.length],bR 217 23 (lvs L)] ⟨aO (cD (dQ (zZc most L o p))),[bC [cK (most),Cl.ref 1 (((zQB most L o p)).length)],bR 217 23 (lvs (zQB most L o p))],false⟩:=
 wd jWw aL Tryz.func191 (let f:=zQB most L o p;let j:=aGP (mZ (zZc most L o p)) most f;let k:=nX L f;let a:=iX L;let b:=lvs L;let l:=kL b (gM a) 18;let m:=(⟨aDF L a 18,aDG L a 18,aDH L a 18,aDI L a 18,l⟩:Px);let c:=gM a;let d:=lvs L;let n:=kL d (c+12) 1;let q:=kL b (gM a) 12;let r:=(⟨aDF L a 12,aDG L a 12,aDH L a 12,aDI L a 12,q,n⟩:Ac);let s:=c+0+11;let i:=bAt d s;let g:=zZn i o.oper o.mode most p r m;let t:=kC g (zZc most L o p);let u:=dH (zY9 i o.oper o.mode most p r m);let e:=c+12;let h:=uA a L;let v:=gM a;True/\True/\cQ (sV 127 most L 217 [] 217 [] 217 []) (aY h (aN (dW d s/\True) (aFK h (aY (cF (bY b (v+12)) (bY b (v+12+1)) (bD L e) (bD L (c+12+1)) (bD L (cB e)) (bD L (cB e+1))) (True/\True/\True/\h/\zD (fT (bY b (v+18)) (bY b (v+18+1)) (bD L (c+18)) (bD L (c+18+1)) (bD L (cB (c+18)))) (aDM 233 i (rD (aB o.oper)::tT o.mode most (rA (aI p)::yI (eX (aDF L a 12) (aDG L a 12) (aDH L a 12) (aDI L a 12) q n) (bQ (aDF L a 18) (aDG L a 18) (aDH L a 18) (aDI L a 18) l))) (rT [rA u,rD (DV.bool g)])) (aKQ (eS true) g (True/\True/\True/\True/\True/\h/\True/\jB (e+6) d/\eS true/\True/\True/\uE t most k (sets d e u=lvs f)/\j) (cS g (uE t most k (pE L f)) j)))))))) λhwf hbx=>by
  delta eS aB aR dY aE aF fD aH bQ bZ aM aY cQ fT mZ aKQ aN zD aW mO jB aI cS kL cB iR dW kC aFK tT eX dH bJ bY cF cM bD wS uE lU uA iX fC gM sV aDF aDG aDH aDI aGP nX pE yI aDM;simp only [sS];have hk:L.length-1<L.length:=by omega
  have hT:L[L.length-1]=topL L:=(zYv hn).symm;have ei:((L.length:Int)-1).toNat=L.length-1:=by omega
  have bd:0<=(L.length:Int)-1/\(L.length:Int)-1<(L.length:Int):=by omega
  have tp:=zZr most L hn hl;have r1:=zVk (l:=L) (k:=L.length-1) hk;have r2:=zVl (l:=L) (k:=L.length-1) hk;rw [hT] at r1 r2;simp only [Nat.add_zero] at r1 r2;simp only [ei,Nat.add_assoc,Nat.reduceAdd,Nat.add_zero,Nat.zero_add,r1,r2,and_self,true_and,and_true];clear r1 r2 hwf hbx;have S:=jJV (topL L).op.kno o.oper o.mode most p (topL L).acc (topL L).back;have lb:(L.length-1)*23+(12+6)<=(lvs L).length:=by rw [zXo]; omega
  refine ⟨tp,bd,bd,bd,S,λh=>⟨bd,by omega,⟨rfl,(zWf _ _ _ _).symm,?_⟩,trivial⟩,λh=>⟨⟨rfl,(zWf _ _ _ _).symm,?_⟩,trivial⟩⟩
  ·have hb:zZc most L o p=true:=h;have e:zY9 (topL L).op.kno o.oper o.mode most p (topL L).acc (topL L).back=accS (topL L).op.kno o.oper o.mode most p (topL L).acc (topL L).back:=by
    unfold zY9; exact if_pos hb
   rw [<- jY3 hn hb,<- e]; rfl
  ·have hb:zZc most L o p=false:=h;unfold zQB;rw [if_neg (by rw [hb]; decide)]
def zUX (m:Int) (L:List Lv) (o:Oq) (p:Px) (k:Int):Px × Int:=
 if o.kind=1/\(zQh m o p k).2=true then (if zZc m L o (zQh m o p k).1 then ((zQh m o p k).1,0) else (.zero,16)) else (.zero,20)
def jZm (L:List Lv) (o:Oq):Int:=if o.kind=2 then (if L.length<65 then 0 else 17) else 20
def popR (m:Int) (L:List Lv) (k:Int):Px × Int:=
 if L.length<=1 then (.zero,18)
 else if (zQh m (topL L).op (resL m (topL L)) k).2=false then (.zero,20)
 else if resB m (topL L)&&zZc m L.dropLast (topL L).op (zQh m (topL L).op (resL m (topL L)) k).1 then ((zQh m (topL L).op (resL m (topL L)) k).1,0)
 else (.zero,16)
theorem jUz (most:Int):zZd ⟨AV.tup [AV.one (Cl.ptr 0 0),AV.one (Cl.d (DV.int .i64 0))],[Bx.cells [Cl.d (DV.int .u16 most),Cl.ref 1 1],Bx.row 217 23 (lvs [zQI])],true⟩:=by
 refine ⟨⟨trivial,rfl,trivial⟩,⟨rfl,trivial,trivial⟩,λd hd=>?_,trivial⟩;have e:lvs [zQI]=zQI.cells:=by simp [lvs]
 rw [e] at hd;exact (by decide:∀ d∈zQI.cells,d.flat=true) d hd
def jUq (m:Int) (L:List Lv) (k:Int):Prop:=(zQh m (topL L).op (resL m (topL L)) k).2=true->resB m (topL L)=true/\zZc m L.dropLast (topL L).op (zQh m (topL L).op (resL m (topL L)) k).1=true
theorem jG3 (L:List Lv):List.take ((L.length-1)*23) (lvs L)=lvs L.dropLast:=by
 rcases wZn L with rfl | ⟨P,t,rfl⟩
 ·rfl
 ·rw [wZo,wQN,<- zWm];exact wZQ (by rw [zXo]; simp)
def resR (m:Int) (L:List Lv):Px × Int:=if 1<L.length then (.zero,18) else (resL m ((L[0]?).getD zQI),0)
def jKP:Gam:=jWw.add [.q 130 ([false],2,1000) gZ43,
 .q 191 ([false,true,true],1,1) (λv b=>let e:=nAt (uy (uw b 0)) 0;let f:=zZF (ux b 1);let g:=vm (uv v 1);let h:=vg (uv v 2);let c:=zQB e f g h;some ⟨AV.one (Cl.d (dQ (zZc e f g h))),[bC [cK e,Cl.ref 1 c.length],Bx.row 217 23 (lvs c)],false⟩)]
def aAO (a b:Prop) (c:Int) (d e:Prop) (f:AV) (g:wi) (h:Nat) (i:List Lv) (j:List Bx):Prop:=mP (uE (a/\b/\True) c d e) ⟨f,Bx.cells (bJ c g)::Bx.row h 23 (lvs i)::j,false⟩
def kM (a:List Lv):List Lv:=zZF (lvs a)
def yH (a:Oq) (b:Px) (c:List AV):List AV:=cL (aBK a []) (cL (cN b) c)
def aMP (a:FuncId) (b c:Nat) (d:List AV) (e:Int) (f:wi) (g:Nat) (h:List DV) (i:List Bx) (j:List Lv) (k:Oq) (l:Px):Prop:=AnsG prog a b (AV.one (Cl.ptr c 0)::d) (Bx.cells (bJ e f)::Bx.row g 23 h::i) ⟨mZ (zZc e j k l),[Bx.cells (bJ e (fC (zQB e j k l))),Bx.row g 23 (lvs (zQB e j k l))],false⟩
def aJO (a b:Prop) (c:Int) (d e:List Lv) (f:AV) (g:Nat):Prop:=aAO a b c (nX d e) (pE d e) f (fC e) g e []
def aDK (a:List DV) (b:Px × Int) (c:Prop) (d:Int) (e f:List Lv) (g:AV):Prop:=aJO (a=aI b.fst) c d e f g 217
theorem zWA (most:Int) (L:List Lv) (o:Oq) (p:Px) (mask:Int) (hn:1<=L.length) (hl:L.length<=66):AnsG prog 124 1 [aPz,AV.agg (oC o),AV.agg (pC p),aO (cK (mask))] [bC [cK (most),Cl.ref 1 L.length],bR 217 23 (lvs L)] ⟨AV.tup [AV.agg (pC ((zUX most L o p mask).1)),aJ ((((zUX most L o p mask).2)))],[bC [cK (most),Cl.ref 1 (((zYV most L o p mask)).length)],bR 217 23 (lvs (zYV most L o p mask))],false⟩:=
 wd jKP aL Tryz.func124 (let b:=zUX most L o p mask;let c:=b.snd;let d:=AV.tup (cL (cN b.fst) (gN c []));let f:=aDK dV b (aZ 20 c) most L (zYV most L o p mask) d;let g:=zQB most (kM L) o (zQh most o p mask).fst;let a:=zQh most o p mask;let e:=a.fst;let h:=zZc most (kM L) o e;let i:=a.snd;aH (bH (xU 190 (Oq.cells o) [rA (aI p),rD (aE mask),rD (aE most)] (eY a) a) (aM (eS true) (fQ (tW o.kind 1) (fQ (gX i) f (oV i (tH (aMP 191 1 0 (yH o e []) most (fC L) 217 (lvs L) [] (kM L) o e) (gX h) (aDK dV (zUX most L o p mask) (aZ 16 c) most g (zYV most L o p mask) d) (gC h->aDK (eY a) (zUX most L o p mask) (cO b.snd) most g (zYV most L o p mask) d)))) (mE (o.kind !=1) f))))) λhwf hbx=>by
  delta eS aB aE aH bQ bZ aM mZ aX gL jK aBK aW mE fQ aI tH bH dV aZ iR gX gC oV eY xU bJ fN cN tW cO mP uE fC cL nX aAO pE kM yH gN aMP aJO aDK;simp only [sS];simp only [zXk];clear hwf hbx;have S:=zWQ o p mask most;have PA:=zJk most L o (zQh most o p mask).1 hn hl;have bad:¬ (o.kind=1/\(zQh most o p mask).2=true)->zUX most L o p mask=(.zero,20)/\zYV most L o p mask=L:=λh=>by
   unfold zUX zYV; rw [if_neg h,if_neg h]; exact ⟨rfl,rfl⟩
  refine ⟨S,λhk=>⟨λhs=>?_,λhs=>⟨PA,λhb=>?_,λhb=>?_⟩⟩,λhk=>?_⟩
  ·obtain ⟨e1,e2⟩:=bad (λh=>by rw [hs] at h; exact absurd h.2 (by decide));rw [e1,e2]; exact ⟨⟨⟨⟨rfl,rfl,rfl,rfl,rfl⟩,rfl⟩,rfl,rfl⟩,trivial⟩
  ·have hk:o.kind=1:=by simpa using hk
   have e1:zUX most L o p mask=(.zero,16):=by unfold zUX; rw [if_pos ⟨hk,hs⟩,if_neg (by rw [hb]; decide)]
   have e2:zYV most L o p mask=zQB most L o (zQh most o p mask).1:=by unfold zYV; rw [if_pos ⟨hk,hs⟩]
   rw [e1,e2]; exact ⟨⟨⟨⟨rfl,rfl,rfl,rfl,rfl⟩,rfl⟩,rfl,rfl⟩,trivial⟩
  ·have hk:o.kind=1:=by simpa using hk
   have e1:zUX most L o p mask=((zQh most o p mask).1,0):=by unfold zUX; rw [if_pos ⟨hk,hs⟩,if_pos hb]
   have e2:zYV most L o p mask=zQB most L o (zQh most o p mask).1:=by unfold zYV; rw [if_pos ⟨hk,hs⟩]
   rw [e1,e2]; exact ⟨⟨⟨⟨rfl,rfl,rfl,rfl,rfl⟩,rfl⟩,rfl,rfl⟩,trivial⟩
  ·have hk:o.kind≠1:=by simpa using hk
   obtain ⟨e1,e2⟩:=bad (λh=>hk h.1);rw [e1,e2]; exact ⟨⟨⟨⟨rfl,rfl,rfl,rfl,rfl⟩,rfl⟩,rfl,rfl⟩,trivial⟩
def bO (a:List Lv) (b:Nat):Int:=cE (lvs a) b
def eM (a:List Lv) (b:Nat):Prop:=bN (lvs a) b
def aJD (a:Px):List DV:=[aE a.b,aE a.c,aE a.al,aE a.f]
def aLF (a:Prop) (b:Int) (c:List Lv) (d:Oq):Prop:=uE a b (nX c (zZ2 c d)) (pE c (zZ2 c d))
theorem zWz (most:Int) (L:List Lv) (o:Oq) (hn:1<=L.length) (hl:L.length<=66):AnsG prog 125 1 [aPz,AV.agg (oC o)] [bC [cK (most),Cl.ref 1 L.length],bR 217 23 (lvs L)] ⟨aJ (((jZm L o))),[bC [cK (most),Cl.ref 1 (((zZ2 L o)).length)],bR 217 23 (lvs (zZ2 L o))],false⟩:=
 wd jKP aL Tryz.func125 (let e:=jZm L o;let f:=aGP (bZ (aB e)) most (zZ2 L o);let b:=gM (iX L);let j:=bO L (sY b);let k:=bO L (sX b);let l:=bO L (iY b);let m:=bO L (gO b);let a:=iX L;let n:=bO L (iL a 23);let p:=bO L (iK a 23);let q:=bO L (fE b);let r:=bO L (jQ a 23);let s:=bO L (uB a 23);let t:=bO L (mS a 23);let g:=iJ a 23;let u:=bO L g;let c:=lvs L;let v:=bAt c (iL a 23);let w:=zQM o.iso v ⟨u,t,s,r,q,p⟩ ⟨n,m,l,k,j⟩;let h:=w.snd;let d:=w.fst;let x:=aLG o (aE d.a::aE d.b::aGQ d.c d.al d.own d.f h.a (aJD h));let i:=List.length L;kX (bP (rG o.kind 2) (aLF (aZ 20 e) most L o) f) ((o.kind !=2)=false->True/\sV 130 most L 217 [] 217 [] 217 []/\True/\bP (fI a 64) (aLF (aZ 17 e) most L o) f/\aAA a 64 (True/\True/\True/\sV 127 most L 217 [] 217 [] 217 []/\cR (uA (iX L) L) (aJC c a 23 (bV (eM L b) (eM L (gT a 23)) (eM L (lN a 23)) (eM L (lQ a 23)) (bD L g) (eM L g) (eM L (mS a 23)) (dW c (iK a 23)) (bV (rK c b) (bD L (iK a 23)) (bD L (iL a 23)) (bD L (gO b)) (bD L (iY b)) (bD L (sX b)) (bD L (sY b)) (bD L (wT a 23)) (aF (bD L (fE (jQ a 23))) (bD L (uC b)) (bD L (uD b)) (bD L (gO (jQ a 23))))))) (iB (jO (aDM 192 o.iso (rD (DV.bool v)::yI (eX u t s r q p) (bQ n m l k j)) (tR (dH d) (aI h))) (aH (bH (zXe 23 112 0 i [] c) (aY (zXe 23 112 i 1 c x) (True/\eS true/\True/\uE (cO e) most (i+1=List.length (zZ2 L o)) (c++x=lvs (zZ2 L o))/\f))))))))) λhwf hbx=>by
  delta eS aB aR jW aE aF fD aH bQ bZ aM aY aN eF eV cR aLG aW mO bP iB aI bV zN bN bH gT oF kX uZ kL cE cB bG aZ iR fP dW fI uI aAA eX dH tR bJ jO aGQ bY cO rG cM bD wS uE lU uA iX fC gM sV aGP nX pE bO fS eM rK fE gO lN lQ mS iJ iY iL iK sY sX uB uD uC jQ wT aJC aJD yI aDM aLF;simp only [sS];have hk:L.length-1<L.length:=by omega
  have hT:L[L.length-1]=topL L:=(zYv hn).symm;have ei:((L.length:Int)-1).toNat=L.length-1:=by omega
  have bd:0<=(L.length:Int)-1/\(L.length:Int)-1<(L.length:Int):=by omega
  have tp:=zZr most L hn hl;have r1:=zVk (l:=L) (k:=L.length-1) hk;have r2:=zVl (l:=L) (k:=L.length-1) hk;rw [hT] at r1 r2;simp only [Nat.add_zero] at r1 r2;simp only [ei,Nat.add_assoc,Nat.reduceAdd,Nat.add_zero,Nat.zero_add,r1,r2,and_self,true_and,and_true];clear r1 r2 hwf hbx;have dp:=zXP most L hn hl;have B:=jYs o.iso (topL L).op.kno (topL L).acc (topL L).back;refine ⟨λhk=>?_,λhk=>⟨dp,λh=>?_,λh=>⟨tp,bd,B,⟨rfl,zXo L,by unfold maxLen; omega,by omega⟩,⟨zXo L,rfl,by unfold maxLen; omega,by omega⟩,?_⟩⟩⟩
  ·have hk:o.kind≠2:=by simpa using hk
   have e1:jZm L o=20:=by unfold jZm; rw [if_neg hk]
   have e2:zZ2 L o=L:=by unfold zZ2; rw [if_neg (λh=>hk h.1)]
   rw [e1,e2]; exact ⟨⟨rfl,rfl,rfl⟩,trivial⟩
  ·have hk:o.kind=2:=by simpa using hk
   have e1:jZm L o=17:=by unfold jZm; rw [if_pos hk,if_neg (by omega)]
   have e2:zZ2 L o=L:=by unfold zZ2; rw [if_neg (λh=>by omega)]
   rw [e1,e2]; exact ⟨⟨rfl,rfl,rfl⟩,trivial⟩
  ·have hk:o.kind=2:=by simpa using hk
   have e1:jZm L o=0:=by unfold jZm; rw [if_pos hk,if_pos (by omega)]
   have e2:zZ2 L o=L++[⟨o,(zQM o.iso (topL L).op.kno (topL L).acc (topL L).back).1,(zQM o.iso (topL L).op.kno (topL L).acc (topL L).back).2⟩]:=by unfold zZ2; rw [if_pos ⟨hk,by omega⟩]
   rw [e1,e2,<- zWm];exact ⟨⟨rfl,by simp,rfl⟩,trivial⟩
def rL (a b:Px):Prop:=aI a=aI b
def uF (a:List Lv) (b:Nat):Int:=nAt (lvs a) b
def uG (a:List Lv) (b:Nat):Prop:=(lvs a)[b]?=some (fD (lvs a) b)
def aLH (a b:Prop) (c:Int) (d:List Lv) (e:AV) (f:Nat) (g:List Bx):Prop:=aAO a b c (eS (List.length d)) (eS (lvs d)) e (fC d) f d g
theorem zVw (most:Int) (L:List Lv) (hn:1<=L.length) (hl:L.length<=66):AnsG prog 66 2 [aPz] [bC [cK (most),Cl.ref 1 L.length],bR 217 23 (lvs L)] ⟨AV.tup [AV.agg (pC ((resR most L).1)),aJ ((((resR most L).2)))],[bC [cK (most),Cl.ref 1 L.length],bR 217 23 (lvs L)],false⟩:=
 wd jKP aL Tryz.func66 (let a:=resR most L;let b:=a.fst;let e:=AV.tup (cL (cN b) (gN a.snd []));let c:=(⟨uF L 18,uF L 19,uF L 20,uF L 21,uF L 22⟩:Px);let d:=(⟨uF L 12,uF L 13,uF L 14,uF L 15,uF L 16,uF L 17⟩:Ac);let f:=jX (List.length L);True/\True/\tH (sV 130 most L 217 [] 217 [] 217 []) (jY (iX L) 0) (aLH (dV=aI b) (aZ 18 a.snd) most L e 217 []) (xW (iX L) 0 (aM f (aN (cF (uG L 12) (uG L 13) (uG L 14) (uG L 15) (uG L 16) (uG L 17)) (True/\f/\True/\fT (uG L 18) (uG L 19) (uG L 20) (uG L 21) (uG L 22)/\True/\True/\True/\True/\aN (aDL 128 (eX (uF L 12) (uF L 13) (uF L 14) (uF L 15) (uF L 16) (uF L 17)) (rA (bQ (uF L 18) (uF L 19) (uF L 20) (uF L 21) (uF L 22))::jM most []) (aI (resE d c most)) d c most) (cT (aLH (rL (resE d c most) b) (cO a.snd) most L e 217 []))))))) λhwf hbx=>by
  delta eS aB aE aF fD bQ bZ aM oE fT jX aX aN cT aW jY aI fL tH jM dV aZ iR eX xW bJ fN cN cF cO mP wS uE lU iX fC sV cL aAO gN aDL rL uF uG aLH;simp only [sS];have h0:0<L.length:=hn;have dp:=zXP most L hn hl;have r1:=zVk (l:=L) (k:=0) h0;have r2:=zVl (l:=L) (k:=0) h0;obtain ⟨t,ht⟩:∃ t,t=L[0]:=⟨_,rfl⟩
  rw [<- ht] at r1 r2;simp only [Nat.zero_mul,Nat.zero_add] at r1 r2;simp only [r1,r2,and_self,true_and];clear r1 r2 hwf hbx;have R:=zKk t.acc t.back most;refine ⟨dp,λh=>?_,λh=>?_⟩
  ·have e:resR most L=(.zero,18):=by unfold resR; rw [if_pos (by omega)]
   rw [e]; exact ⟨⟨⟨rfl,rfl,rfl,rfl,rfl⟩,rfl⟩,trivial⟩
  ·have e:resR most L=(resE t.acc t.back most,0):=by
    unfold resR; rw [if_neg (by omega),List.getElem?_eq_getElem h0,<- ht,<- jYQ]; rfl
   rw [e];exact ⟨⟨by omega,by omega⟩,⟨by omega,by omega⟩,R,⟨⟨rfl,rfl,rfl,rfl,rfl⟩,rfl⟩,trivial⟩
def aBN (a:wi) (b:List Bx):List Bx:=Bx.cells a::b
def aBM (a b:Nat) (c:List DV) (d:List Bx):List Bx:=Bx.row a b c::d
def rO (a:Nat) (b:List AV):List AV:=AV.one (Cl.ptr a 0)::b
def aDN (a b c d e f g:Int) (h:List DV):List DV:=nP a b c (aE d::aE e::aE f::aE g::h)
def yJ:List AV:=[bZ (aB 0)]
theorem jK4 (most:Int) (hf:zQH most=true):AnsG prog 120 0 [aO (cK (most))] [] ⟨AV.tup [aPz,aJ ((0))],[bC [cK (most),Cl.ref 1 1],bR 217 23 (lvs [zQI])],true⟩:=
 wd jKP aL Tryz.func120 (let b:=(⟨AV.tup (rO 0 yJ),aBN (bJ most (yK 1)) (aBM 217 23 (lvs [zQI]) []),true⟩:Ret);let a:=aE 0;True/\True/\aFZ (aFS most) (zQH most) (True/\False/\zZd b) (gW (zQH most) (True/\True/\True/\True/\mP (uE (kE jD) most (eS (1:Nat)) (eF 2 0 0 0 0 0 0 (eV 0 0 0 true false (aDN 0 0 0 0 0 0 0 [a,a,a,a]))=lvs [zQI])) b))) λhwf hbx=>by
  delta eS aB aE bZ eF eV aW iR kE jD gW nP aBC aFS bJ yX aFZ mP uE aBN aBM rO aDN yJ yK;simp only [sS];clear hwf hbx;refine ⟨zZk most,λh=>?_,λ_=>⟨rfl,?_⟩⟩
  ·rw [hf] at h; cases h
  ·exact jUz most
def fO (a:Nat) (b:List Mc):Cl:=Cl.ref a (List.length b)
def mU (a:List Mc × Px):List DV:=mcs a.fst
def aLK (a b c d e f g h:Int) (i:List DV):List DV:=aE a::aE b::aE c::aE d::aE e::aE f::aE g::aE h::i
def yL (b c d e f g h:Int) (i:Px):List DV:=aLK b c d e f g h i.a (aJD i)
def aDS (a b:List Mc):Prop:=List.length a+1=List.length b
def aAT (a:List Mc) (b c:List DV):Prop:=zXe 18 48 (List.length a) 1 b c
def aNI (c:Px) (d:List DV):List DV:=aDT c.a c.b c d
theorem zV4 (l:List Mc) (at_:Int) (o:Oq) (p:Px) (mask most:Int) (hl:l.length<=100000):AnsG prog 121 0 [aO (Cl.ref 0 l.length),aJ ((at_)),AV.agg (oC o),AV.agg (pC p),aO (cK (mask)),aO (cK (most))] [bR 79 18 (mcs l)] ⟨AV.tup [aO (Cl.ref 0 ((zX1 l at_ o p mask most).1.length)),AV.agg (pC ((zX1 l at_ o p mask most).2))],[bR 79 18 (mcs (zX1 l at_ o p mask most).1)],false⟩:=
 wd jKP aL Tryz.func121 (let c:=zX1 l at_ o p mask most;let d:=mU c;let f:=c.snd;let e:=c.fst;let g:=zZd (wX (fO 0 e) (cL (cN f) []) 79 18 d [] false);let a:=o.opac;let h:=aB at_::aB 3::aNI p (yL p.f 0 0 0 0 0 a (qA p a most));let i:=vU f;let b:=qA p mask most;let j:=aB at_::aB 3::aNI b (yL b.f 0 0 0 0 0 a (qA b a most));let k:=aB at_::aB 2::aNI p (yL p.f 0 0 0 0 0 mask (qA p mask most));let m:=mcs l++k;True/\True/\True/\True/\bI (sZ o.mask) (qZ (xV 189 (aI p) mask most p) (bH (aAT l (mcs l) k) (bH (xV 189 (eY (zQm p mask most)) a most b) (aH (aM (zXe 18 48 (List.length l+1) 1 m j) (qV (aGX (cB (List.length l)=List.length e) (eY (zQm (qA p mask most) a most)=i) (m++j=d)) g)))))) (dX o.mask=false->True/\bH (xV 189 (aI p) a most p) (aH (aM (aAT l (mcs l) h) (qV (aGX (aDS l e) (eY (zQm p a most)=i) (mcs l++h=d)) g))))) λhwf hbx=>by
  delta eS aB bI aE aH bQ aM aY aX aI bH cB qV dX eY xU qA xV bJ fN cN qZ aDT vU aGK cL aJD fO wX mU aLK yL aDS aAT sZ aNI aGX;simp only [sS];clear hwf hbx;have S:=λq k=>zVb q k most;refine ⟨λh=>?_,λh=>?_⟩
  ·have h:o.mask≠0:=by simpa using h
   unfold zX1;rw [if_pos h];refine ⟨S _ _,⟨zZL l,rfl,by unfold maxLen; omega,by omega⟩,S _ _,⟨?_,rfl,by unfold maxLen; omega,by omega⟩,⟨⟨by simp,rfl,rfl,rfl,rfl,rfl⟩,?_⟩,trivial⟩
   ·rw [wQh,zZL]; simp only [wQu,wQQ]; omega
   ·rw [<- zKF,<- zKF]; rfl
  ·have h:o.mask=0:=by simpa using h
   unfold zX1;rw [if_neg (by simp [h])];refine ⟨S _ _,⟨zZL l,rfl,by unfold maxLen; omega,by omega⟩,⟨⟨by simp,rfl,rfl,rfl,rfl,rfl⟩,?_⟩,trivial⟩;rw [<- zKF]; rfl
theorem zUe (most:Int) (L:List Lv) (mask:Int) (hn:1<=L.length) (hl:L.length<=66) (hgo:jUq most L mask):AnsG prog 129 1 [aPz,aO (cK (mask))] [bC [cK (most),Cl.ref 1 L.length],bR 217 23 (lvs L)] ⟨AV.tup [AV.agg (pC ((popR most L mask).1)),aJ ((((popR most L mask).2)))],[bC [cK (most),Cl.ref 1 (((popL most L mask)).length)],bR 217 23 (lvs (popL most L mask))],false⟩:=
 wd jKP aL Tryz.func129 (let e:=popL most L mask;let f:=popR most L mask;let m:=f.snd;let g:=f.fst;let i:=AV.tup (cL (oW g.a g.b (bJ g.c (oW g.al g.f []))) (gN m []));let b:=lvs L;let a:=iX L;let j:=pN a 23 b;let q:=aAO (dV=aI g) (aZ 16 m) most (nX L e) (j=lvs e) i (fC e) 217 e [];let c:=gM (iX L);let F:=bO L (sY c);let G:=bO L (sX c);let H:=bO L (iY c);let I:=bO L (gO c);let r:=iL a 23;let J:=bO L r;let n:=(⟨J,I,H,G,F⟩:Px);let s:=iK a 23;let K:=bO L s;let M:=bO L (fE c);let O:=bO L (jQ a 23);let P:=bO L (uB a 23);let Q:=bO L (mS a 23);let t:=iJ a 23;let R:=bO L t;let o:=(⟨R,Q,P,O,M,K⟩:Ac);let p:=Ac.ok o n most;let S:=lF p q;let u:=resE o n most;let T:=bAt b (iL a 23);let U:=bAt b (iK a 23);let v:=bO L (lN a 23);let w:=bO L (gT a 23);let V:=bO L c;let x:=qF b a 23;let y:=nQ b a 23;let z:=jZ b a 23;let A:=jC b a 23;let W:=mF b a 23;let X:=iE b a 23;let B:=nAt b (aR a 23);let d:=(⟨B,X,W,A,z,y,x,V,w,v,U,T⟩:Oq);let h:=zZF j;let Y:=cO f.snd;let k:=zQh most d u mask;let C:=k.fst;let Z:=zZc most h d C;let z0:=[Cl.ref 1 (Int.toNat a)];let z1:=aB W;let z2:=aB X;let z3:=mR B (aX z2 z1 (mR A (gL z y (aB x) (fD b (uB a 23)) (gL w v (DV.bool (bAt b s)) (DV.bool (bAt b r)) []))));let z4:=gC p;let z5:=zXe 23 112 0 (Int.toNat a) [] j;let z6:=0<=a/\a<=wS L;let D:=sV 127 most L 217 [] 217 [] 217 [];let z7:=k.snd;let z8:=aDK dV f (aZ 20 m) most L e i;let z9:=[rD (aE mask),rD (aE most)];let y0:=aB B::z2::z1::aB A::aB z::aMG y x (eV V w v U T []);let y1:=(⟨0,0,0,0,0⟩:Px);let l:=zQh most d y1 mask;let E:=l.fst;let y2:=zZc most h d E;let y3:=l.snd;True/\True/\tH (sV 130 most L 217 [] 217 [] 217 []) ((a==0)=true) (aDK dV f (aZ 18 m) most L e i) (dO (bK a) (True/\True/\True/\D/\cR (uA (iX L) L) (aJC b a 23 (bV (eM L c) (eM L (gT a 23)) (eM L (lN a 23)) (eM L (lQ a 23)) (bD L t) (eM L t) (eM L (mS a 23)) (dW b (iK a 23)) (bV (rK b c) (bD L s) (bD L r) (bD L (gO c)) (bD L (iY c)) (bD L (sX c)) (bD L (sY c)) (bD L (wT a 23)) (aF (bD L (fE (jQ a 23))) (bD L (uC c)) (bD L (uD c)) (bD L (gO (jQ a 23))))))) (iB (aAL (aDL 128 (eX R Q P O M K) (rA (bQ J I H G F)::jM most []) (aI (resE o n most)) o n most) (yD (eS true) p (aH (dL (xU 190 y0 (rA dV::z9) (eY l) l) (eS true/\True/\True/\(gX y3->z8)/\(gC y3->aH (True/\D/\z6/\z5/\cT (eH z4 (aMP 191 1 0 (cL z3 (cL (cN E) [])) most z0 217 j [] h d E/\True/\True/\(gX y2->q)/\(gC y2->aH (aDK (eY l) f Y most (zQB most h d (zQh most d y1 mask).fst) e i))) S)))))) (gW p (bL (dL (xU 190 y0 (rA (aI u)::z9) (eY k) k) (eS true/\True/\True/\(gX z7->z8)/\(gC z7->aH (True/\D/\z6/\z5/\cT (eH z4 (aMP 191 1 0 (cL z3 (cL (cN C) [])) most z0 217 j [] h d C/\True/\True/\(gX Z->q)/\(gC Z->aH (aDK (eY k) f Y most (zQB most h d (zQh most d u mask).fst) e i))) S))))))))))))) λhwf hbx=>by
  delta eS aB aR jW aE aF fD aH bQ bZ aY bK mZ aX gL mR aN eV dL cR dO cT aW mO mE pN iB aI bV tH zN bN jM dV gT iE jC jZ oF mF uZ kL cE cB bG aZ bL iR fP dW gW lF eH gX gC eX eY xU bJ fN oW cN yX yD bY cO mP aAL cM bD wS uE lU uA iX fC gM sV cL nX aAO pE gN aMP aJO aDK aMG bO fS eM rK fE gO lN lQ mS iJ iY iL iK nQ qF sY sX uB uD uC jQ wT aDL aJC;simp only [sS];have hk:L.length-1<L.length:=by omega
  have hT:L[L.length-1]=topL L:=(zYv hn).symm;have ei:((L.length:Int)-1).toNat=L.length-1:=by omega
  have bd:0<=(L.length:Int)-1/\(L.length:Int)-1<(L.length:Int):=by omega
  have tp:=zZr most L hn hl;have r1:=zVk (l:=L) (k:=L.length-1) hk;have r2:=zVl (l:=L) (k:=L.length-1) hk;rw [hT] at r1 r2;simp only [Nat.add_zero] at r1 r2;simp only [ei,Nat.add_assoc,Nat.reduceAdd,Nat.add_zero,Nat.zero_add,r1,r2,and_self,true_and,and_true];clear r1 r2 hwf hbx hT;have dp:=zXP most L hn hl;have ea:∀ x:Ac,(⟨x.a,x.b,x.c,x.al,x.own,x.f⟩:Ac)=x:=λ_=>rfl;have eb:∀ x:Px,(⟨x.a,x.b,x.c,x.al,x.f⟩:Px)=x:=λ_=>rfl;have eo:∀ o:Oq,(⟨o.kind,o.image,o.x,o.y,o.mask,o.mx,o.my,o.opac,o.oper,o.mode,o.iso,o.kno⟩:Oq)=o:=λ_=>rfl;have ez:(⟨0,0,0,0,0⟩:Px)=.zero:=rfl;have tk:List.take ((L.length-1)*23) (lvs L)=lvs L.dropLast:=jG3 L;simp only [ea,eb,eo,ez,tk,zXk];have R:=zKk (topL L).acc (topL L).back most;have SC:=λp=>zWQ (topL L).op p mask most;have ln:L.dropLast.length=L.length-1:=by simp
  have PA:2<=L.length->∀ o p,_:=λh o p=>zJk most L.dropLast o p (by omega) (by omega);simp only [ln] at PA;have rE:=jYQ most (topL L);have rB:resB most (topL L)=(topL L).acc.ok (topL L).back most:=rfl;have ap:zXe 23 112 0 (L.length-1) [] (lvs L.dropLast):=⟨rfl,by rw [zXo,ln],by unfold maxLen; omega,by omega⟩
  unfold jUq at hgo;refine ⟨dp,λh=>?_,λh=>⟨tp,bd,R,λhok=>?_,λhok=>?_⟩⟩
  ·have h:L.length<=1:=by simp at h; omega
   have e1:popR most L mask=(.zero,18):=by unfold popR; rw [if_pos h]
   have e2:popL most L mask=L:=by unfold popL; rw [if_pos h]
   rw [e1,e2]; exact ⟨⟨⟨⟨rfl,rfl,rfl,rfl,rfl⟩,rfl⟩,rfl,rfl⟩,trivial⟩
  ·have h:¬ L.length<=1:=by simp at h; omega
   rw [<- rB] at hok;have rl:resL most (topL L)=.zero:=by unfold resL; rw [if_neg (by rw [hok]; decide)]
   rw [rl] at hgo;refine ⟨SC .zero,λhs=>?_,λhs=>?_⟩
   ·have e1:popR most L mask=(.zero,20):=by unfold popR; rw [if_neg h,rl,if_pos hs]
    have e2:popL most L mask=L:=by unfold popL; rw [if_neg h,rl,if_pos hs]
    rw [e1,e2]; exact ⟨⟨⟨⟨rfl,rfl,rfl,rfl,rfl⟩,rfl⟩,rfl,rfl⟩,trivial⟩
   ·have:=(hgo hs).1;rw [hok] at this; cases this
  ·have h:¬ L.length<=1:=by simp at h; omega
   rw [rE] at hgo;refine ⟨SC _,λhs=>?_,λhs=>?_⟩
   ·have e1:popR most L mask=(.zero,20):=by unfold popR; rw [if_neg h,rE,if_pos hs]
    have e2:popL most L mask=L:=by unfold popL; rw [if_neg h,rE,if_pos hs]
    rw [e1,e2]; exact ⟨⟨⟨⟨rfl,rfl,rfl,rfl,rfl⟩,rfl⟩,rfl,rfl⟩,trivial⟩
   ·obtain ⟨g1,g2⟩:=hgo hs;have hs':¬ (zQh most (topL L).op (resE (topL L).acc (topL L).back most) mask).2=false:=by rw [hs]; decide
    have e1:popR most L mask=((zQh most (topL L).op (resE (topL L).acc (topL L).back most) mask).1,0):=by
     unfold popR; rw [if_neg h,rE,if_neg hs',if_pos (by rw [g1,g2]; rfl)]
    have e2:popL most L mask=zQB most L.dropLast (topL L).op (zQh most (topL L).op (resE (topL L).acc (topL L).back most) mask).1:=by
     unfold popL; rw [if_neg h,rE,if_neg hs',if_pos (by rw [g1,g2]; rfl)]
    refine ⟨tp,⟨by omega,by omega⟩,ap,λ_=>⟨PA (by omega) _ _,λhb=>?_,λhb=>?_⟩,λhb=>?_⟩
    ·rw [g2] at hb; cases hb
    ·rw [e1,e2]; exact ⟨⟨⟨⟨rfl,rfl,rfl,rfl,rfl⟩,rfl⟩,rfl,rfl⟩,trivial⟩
    ·rw [hok] at hb; cases hb
end
set_option maxHeartbeats 4000000
variable {st:List Oq} {s:Scr}
section
attribute [local irreducible] Ans AnsO AnsG AnsN AnsI
theorem zUH (l:List Mc) (c:Mc):mcs l++c.cells=mcs (l++[c]):=by
 rw [<- zKF]; simp [mcs]
def yQd (s:Scr) (x y:Int):Prop:=zQH (zQi s.bits)=true/\(∀ m∈s.ims,m.isU)/\s.ops.length<=5000/\∀ (k:Nat) (o:Oq),s.ops[k]?=some o->o.kind=3 ->
 2<=(runT (zQi s.bits) s.ims x y s.ops k).2.length/\jUq (zQi s.bits) (runT (zQi s.bits) s.ims x y s.ops k).2 (zQJ s.ims (topL (runT (zQi s.bits) s.ims x y s.ops k).2).op x y)
def yZu:Gam:=jKP.add [.q 120 ([true],0,2) (λv b=>some ⟨AV.tup [aPz,aJ 0],[bC [cK (nAt (ut v) 0),Cl.ref 1 1],Bx.row 217 23 (lvs [zQI])],true⟩),
 .q 121 ([false,true,true,true,true,true],0,1) (λv b=>let c:=zX1 (zKp (ux b 0)) (nAt (ut v) 1) (vm (uv v 2)) (vg (uv v 3)) (nAt (ut v) 4) (nAt (ut v) 5);some ⟨AV.tup [AV.one (Cl.ref 0 c.1.length),AV.agg (pC (c.2))],[Bx.row 79 18 (mcs c.1)],false⟩),
 .q 123 ([false],2,1000) (λv b=>some ⟨AV.agg (aC ((topL (zZF (ux b 1))).acc)),b,false⟩),
 .q 126 ([false],2,1000) (λv b=>some ⟨AV.agg (pC ((topL (zZF (ux b 1))).back)),b,false⟩),
 .q 124 ([false,true,true,true],1,1) (λv b=>let f:=nAt (uy (uw b 0)) 0;let g:=zZF (ux b 1);let h:=nAt (ut v) 3;let i:=vm (uv v 1);let j:=vg (uv v 2);let c:=zYV f g i j h;let e:=zUX f g i j h;some ⟨AV.tup [AV.agg (pC (e.1)),aJ e.2],[bC [cK f,Cl.ref 1 c.length],Bx.row 217 23 (lvs c)],false⟩),
 .q 125 ([false,true],1,1) (λv b=>let e:=zZF (ux b 1);let f:=vm (uv v 1);let c:=zZ2 e f;some ⟨aJ (jZm e f),[bC [cK (nAt (uy (uw b 0)) 0),Cl.ref 1 c.length],Bx.row 217 23 (lvs c)],false⟩),
 .q 129 ([false,true],1,1) (λv b=>let c:=nAt (uy (uw b 0)) 0;let e:=zZF (ux b 1);let f:=nAt (ut v) 1;let g:=popR c e f;let h:=popL c e f;some ⟨AV.tup [AV.agg (pC (g.1)),aJ g.2],[bC [cK c,Cl.ref 1 h.length],Bx.row 217 23 (lvs h)],false⟩)]
def aSH (a:Nat) (b:Int) (c:Nat) (d:we):we:=wZ a b c 9003 d
def aSI (a:Nat) (b:Int) (c:Nat) (d:we):we:=aSH a (zQi b) c d
def aNV (a:Nat) (b:Scr) (c:Nat) (d:we):we:=aSI a b.bits c d
def nR (a:List Lv):Cl:=Cl.ref 9002 (List.length a)
def aOL (a b:Int) (c:we) (d:Nat) (e f:wi) (g:wg):Snap:=wN a b c d e 9003 f g
def aEJ (d e g:Int) (h:Px) (i:wi):wi:=fN d e g h.a (fN h.b h.c h.al h.f i)
def qG (a:Scr) (b c:Int) (d:Nat):List Mc:=(runT (zQi a.bits) a.ims b c a.ops d).fst
def iZ (a:Scr) (b c:Int) (d:Nat):List Lv:=(runT (zQi a.bits) a.ims b c a.ops d).snd
def aDP (a:Nat) (b:wi) (c:Nat) (d:Px) (e:wg):wg:=pK a b c (cN d) e
def aJT (a:List Mc):Cl:=fO 9001 a
def oY (a:Scr) (b c:Int) (d:Nat):List DV:=mcs (runT (zQi a.bits) a.ims b c a.ops d).fst
def aOJ (a:Nat) (b:List Mc) (c:we):we:=aJU a (aJT b) c
def aOK (a:Nat) (b:Scr) (c d:Nat) (e:List Mc) (f:we):we:=aNV a b c (aOJ d e f)
def aOM (a:Nat) (b:Scr) (c d:Nat) (e:List Mc) (f:we):we:=aCA (aOK a b c d e f)
def aNW (a b:Int) (c:Nat) (d:Scr) (e f:Nat) (g:List Mc) (h:we) (i:Nat) (j k:wi) (l:wg):Snap:=aOL a b (aOM c d e f g h) i j k l
def aPB (a b:Int) (c:Nat) (d:Scr) (e f g:Nat) (h:we) (i:Nat) (j k:wi) (l:wg):Snap:=aNW a b c d e f (qG d a b g) h i j k l
def lV (a:List Lv):Ac:=(topL (kM a)).acc
def aPI (a b:Int) (c:Nat) (d:Scr) (e f g h:Nat) (i:we) (j:Nat) (k l:wi) (m:wg):Snap:=aPB a b c d e f g (pL h g i) j k l m
def aPP (a b:Int) (c:Nat) (d:Scr) (e f g h:Nat) (i:we) (j:Nat) (k l:wi) (m:wg):Snap:=aPI a b c d e f g h i j k (bJ (zQi d.bits) l) m
def aDO (a b:Int) (c:Nat) (d:Scr) (e f g h:Nat) (i:we) (j:Nat) (k l:wi) (m:wg):Snap:=aPP a b c d e f g h i j (uH d k) l m
def aPS (a b:Int) (c:Nat) (d:Scr) (e f:Nat) (g:List Mc) (h:we) (i:Nat) (j k:wi) (l:wg):Snap:=aNW a b c d e f g h i (uH d j) k l
def aMW (d:Lv) (e:Ac) (g:Px) (h:wi):wi:=aX (aE d.op.opac) (aB d.op.oper) (aX (aB d.op.mode) (DV.bool d.op.iso) (aX (DV.bool d.op.kno) (aE e.a) (aX (aE e.b) (aE e.c) (aEJ e.al e.own e.f g h))))
def aGT (a b:Int) (c:Nat) (d:Scr) (e f:Nat) (g:List Mc) (h:we) (i:Nat) (j k:wi) (l:wg):Snap:=aPS a b c d e f g h i j (bJ (zQi d.bits) k) l
def xA (a:Lv) (b c:Int) (d:Ac) (e:Px) (f:wi):wi:=aER a.op.kind a.op.image b c a.op.mask a.op.mx a.op.my (aMW a d e f)
def aNA (a b c:Nat) (d:List DV) (e:Nat) (f:wi) (g:Nat) (h:Px) (i:wg):wg:=kA a b c d (aDP e f g h i)
def aAQ (a:Nat) (b:Int) (c:Px):Mc:=⟨(a:Int),b,Px.zero,Px.zero,0,c⟩
def aQZ (a b:Nat) (c:List DV) (d e:Nat) (f:List Lv):wg:=aMS a b c d e (lvs f)
def aAR (a:List Mc) (b:Nat) (c:Oq) (d:Px) (e:Int) (f:Scr):List Mc × Px:=zX1 a (b:Int) c d e (lS f)
def aRL (a b:Nat) (c:List DV) (d:Nat) (e:wi) (f:Nat) (g:Px) (h:wg):wg:=aNA 9001 a b c d e f g h
def aRE (a:Nat) (b:List DV) (c d:Nat) (e:List Lv):wg:=aQZ 79 a b c d e
def aRF (a:List DV) (b c:Nat) (d:List Lv):wg:=aRE 18 a b c d
def aMQ (a:List DV) (b:Nat) (c:List Lv):wg:=aRF a b 23 c
def aRM (a b:Nat) (c:List DV) (d:Nat) (e:wi) (f:Nat) (g:Px) (h i j:Nat) (k:List DV):wg:=aRL a b c d e f g (pQ h i j k)
def aRQ (a b:Nat) (c:List DV) (d:Nat) (e:wi) (f:Nat) (g:Px) (h i:Nat) (j:List DV):wg:=aRM a b c d e f g 9002 h i j
def aRU (a b:Nat) (c:List DV) (d:Nat) (e:wi) (f:Nat) (g:Px) (h:Nat) (i:List DV):wg:=aRQ a b c d e f g 217 h i
def aGS (a b:Nat) (c:List DV) (d:Nat) (e:wi) (f:Nat) (g:Px) (h:Nat) (i:List Lv):wg:=aRU a b c d e f g h (lvs i)
def aNG (a:FuncId) (b:Nat) (c:List AV) (d:wi) (e:List Bx) (f:Ret):Prop:=AnsG prog a b c (Bx.cells d::e) f
def aNF (a:AV) (b:Int) (c:wi) (d:Nat) (e:List Lv) (f:List Bx):Ret:=⟨a,Bx.cells (bJ b c)::Bx.row d 23 (lvs e)::f,false⟩
def jI (a:Int) (b:List Im) (c d:Int) (e:List Oq):List Mc × List Lv:=runT a b c d e (List.length e)
def aGW (a b:List Mc):Prop:=List.length a=List.length b
def pB (a:Scr) (b:Prop):Prop:=iR (aE (zQi a.bits)) b
def nS (a:Scr) (b c:Int) (d e:Nat):Prop:=bD (runT (zQi a.bits) a.ims b c a.ops d).snd e
def aIH (a:AV) (b:Int) (c:wi) (d:Nat) (e:List Lv):Ret:=⟨a,[Bx.cells (bJ b c),Bx.row d 23 (lvs e)],false⟩
def qH (a:Scr) (b c:Int) (d e:Nat):Int:=bO (iZ a b c d) e
def aJF (a:List Mc):Prop:=eS (List.length a)
def aKK (a:Prop) (b:Nat) (c:Prop):Prop:=eS (0:Nat)/\a/\dE (cI b) (eS (0:Nat)) c
def aAU (a:List Lv):Px:=(topL (kM a)).back
def aDU (d:Oq) (e:Ac) (g:Px):List DV:=aLG d (aDN e.a e.b e.c e.al e.own e.f g.a (aJD g))
def aDR (a:Int):List AV:=[bZ (aE a)]
def aLJ (a:Nat) (b:Scr) (c:Nat) (d e:Int) (f g:Prop) (h:List Lv) (i:Prop):Prop:=kN a b/\cF (uL b a c) (oZ d e (uY (lS b) 0 f (bS c a))) g (pB b (nX h (iZ b d e a))) i (pE h (iZ b d e a))
def yN (a:FuncId) (b:Nat) (c:List AV) (d:Scr) (e:List Lv) (f:Nat) (g:List Bx) (h:wi) (i:Nat) (j:List Bx) (k:wi) (l:Nat) (m:List Bx):Prop:=AnsG prog a 2 (AV.one (Cl.ptr b 0)::c) (Bx.cells (bJ (lS d) (fC e))::Bx.row f 23 (lvs e)::g) ⟨AV.agg h,Bx.cells (bJ (lS d) (fC e))::Bx.row i 23 (lvs e)::j,false⟩/\eS (lU (bJ (lS d) k) l 23 (lvs e) m)
def aGU (a:Prop) (b c:Int) (d:Nat) (e:Scr) (f:Prop) (g:Nat) (h:Prop) (i:List DV) (j k:Prop):Prop:=a/\tY b c d (eS (aE (lS e))) (aKK f g h)/\eS (pA e i)/\j/\k
theorem jK3 (s:Scr) (x y:Int) (hr:yQd s x y):AnsG prog 65 0 [AV.agg (sC s),aJ ((x)),aJ ((y))] [] ⟨AV.tup [aO (Cl.ref 0 ((runT (zQi s.bits) s.ims x y s.ops s.ops.length).1.length)),aO (Cl.ptr 1 0)],[bR 79 18 (mcs (runT (zQi s.bits) s.ims x y s.ops s.ops.length).1),bC [cK ((zQi s.bits)),Cl.ref 2 ((runT (zQi s.bits) s.ims x y s.ops s.ops.length).2.length)],bR 217 23 (lvs (runT (zQi s.bits) s.ims x y s.ops s.ops.length).2)],false⟩:=
 wd yZu (aFV (um (λX=>kN X s) (λm=>aDO x y 8 s 10 12 m 13 [] 3 [] [nR (iZ s x y m)] (aMQ (oY s x y m) 217 (iZ s x y m))) (λW=>oK s.ops W) (λa=>let b:=iZ s x y a;let f:=bU (iX b) 1;let g:=lvs b;let c:=[nR (iZ s x y a)];let h:=oY s x y a;sA (ul Oq (λV=>s.ops[a]?=some V) (λD=>aDO x y 8 s 10 12 a 13 (fG 14 14 (lK 50 D.kind)) 3 [] c (aAP 9001 79 18 h 14 (uT D) 9002 217 23 g)) (λd=>aDQ (ul (Px × Int) (λU=>U=(srcS s.ims d x y,zQJ s.ims d x y)) (λC=>aDO x y 8 s 10 12 a 13 (dU 14 14 15 15 (wY 16 C.snd [])) 3 [] c (aGS 79 18 h 14 (uT d) 15 C.fst 23 b)) (λB=>let j:=B.fst;ul (List Mc) (λT=>T=qG s x y a++[aAQ a 1 j]) (λA=>aGT x y 8 s 10 12 A (pL 13 a (dU 14 14 15 15 (wY 16 B.snd []))) 3 [] c (aGS 79 18 (mcs A) 14 (uT d) 15 j 23 b)) (λS=>cU (ul (List Mc × Px) (λR=>R=aAR S a d j B.snd s) (λr=>aGT x y 8 s 10 12 r.fst (pL 13 a (dU 14 14 15 15 (wZ 16 B.snd 17 17 []))) 3 [] c (aFD 9001 79 18 (mU r) 14 d (aDP 15 (cN j) 17 r.snd (pQ 9002 217 23 g)))) (λq=>cU (ul (List Lv) (λQ=>Q=zYV (lS s) b d j B.snd) (λz=>aGT x y 8 s 10 12 q.fst (pL 13 a (dU 17 17 18 18 [])) 3 [] [nR z] (aGS 79 18 (mU q) 17 (cN q.snd) 18 (Ac.col (lV b)) 23 z)) (λY=>aL))))))) (aDQ (ul (List Lv) (λP=>P=zZ2 b d) (λw=>aDO x y 8 s 10 12 a 13 [] 3 [] [nR w] (aMQ h 217 w)) (λY=>aL)) (aFE (ul Lv (λO=>O=topL b) (λl=>aDO x y 8 s 10 12 a 13 (fG 19 19 []) 3 [] c (aAP 9001 79 18 h 19 (xA l l.op.x l.op.y l.acc l.back []) 9002 217 23 g)) (λe=>let t:=xA e e.op.x e.op.y e.acc e.back [];ul Int (λM=>M=zQJ s.ims e.op x y) (λL=>aDO x y 8 s 10 12 a 13 (fG 19 19 (wY 21 L [])) 3 [] c (aAP 9001 79 18 h 19 t 9002 217 23 g)) (λk=>let E:=fG 19 19 (wZ 21 k 22 22 []);ul Px (λK=>K=resE e.acc e.back (lS s)) (λJ=>aDO x y 8 s 10 12 a 13 E 3 [] c (aGS 79 18 h 19 t 22 J 23 b)) (λp=>ul (List Mc) (λI=>I=qG s x y a++[aAQ a 6 p]) (λv=>aGT x y 8 s 10 12 v (pL 13 a E) 3 [] c (aGS 79 18 (mcs v) 19 t 22 p 23 b)) (λH=>cU (ul (List Mc × Px) (λG=>G=aAR H a e.op p k s) (λo=>aGT x y 8 s 10 12 o.fst (aAI 13 a 21 (aE k) (fG 24 24 [])) 3 [] c (aAP 9001 79 18 (mU o) 24 (cN o.snd) 9002 217 23 g)) (λn=>cU (ul (List Lv) (λF=>F=popL (lS s) b k) (λu=>aGT x y 8 s 10 12 n.fst (pL 13 a (dU 24 24 25 25 [])) 3 [] [nR u] (aGS 79 18 (mU n) 24 (cN n.snd) 25 (Ac.col ⟨aDF b f 12,aDG b f 12,aDH b f 12,aDI b f 12,kL (lvs b) (gM f) 12,kL g (gM f+12) 1⟩) 23 u)) (λY=>aL)))))))))))))))) Tryz.func65 (let b:=lS s;let Z:=(jI b s.ims x y s.ops).snd;let w7:=jI b s.ims x y s.ops;let w8:=mcs w7.fst;let w9:=w7.fst;let p:=eS (0:Nat);let t:=[kO s,kP s,iM s];let x1:=pA s t;let k:=eS x1;let z2:=aO (Cl.ptr 0 0);let z3:=lS s;let x8:=aDR b;let z6:=zQF (eO s);let t4:=rA x1;let g:=jJ s;fZ (aN (kB 14 s.bits (xQ b s.bits)) (bH (tE 120 x8 ⟨AV.tup (rO 0 yJ),aBN (bJ (zQi s.bits) (yK 1)) (aBM 217 23 (lvs [zQI]) []),true⟩) (True/\True/\True/\(∃ B:Nat,cF (kN B s) (oZ x y (uY b 0 (0=List.length (qG s x y B)) (dF B))) k (pB s (1=List.length (iZ s x y B))) (([]:List DV)=oY s x y B) (pE [zQI] (iZ s x y B)))/\(∀ a:Nat,let c:=iZ s x y a;let h:=oY s x y a;let j:=qG s x y a;let d:=iX c;let u:=bU d 1;let v0:=gM u;let z0:=v0+12;let f:=lvs c;let v1:=kL f z0 1;let D:=lvs c;let v2:=kL D (gM u) 12;let v3:=aDI c u 12;let v4:=aDH c u 12;let v5:=aDG c u 12;let v6:=aDF c u 12;let v:=Ac.col ⟨v6,v5,v4,v3,v2,v1⟩;let F:=kM c;let u0:=fC c;let u1:=bJ b u0;let x2:=[Bx.cells u1,bR 217 23 f];let x3:=v0+12;let w:=iZ s x y a;let u2:=[nR w];let x4:=iX c;let u3:=aNG 127 2 [z2] u1 (aBM 217 23 D []) (aNF (bZ (aB x4)) b u0 217 c [])/\eS (lU (bJ b u2) 217 23 D []);let x5:=eS D;let u7:=eS (List.length c);let P:=pB s u7;let x7:=eS (cI a);let z4:=pB s u7;let w1:=eS f;let z5:=eS h;let G:=aJF j;let t5:=topL c;let l:=gM x4;let t6:=sY l;let t7:=sX l;let t8:=iY l;let t9:=gO l;let s0:=iL d 23;let s1:=iK d 23;let s2:=jQ d 23;let s3:=mS d 23;let w2:=iJ d 23;let s4:=iK d 23;let s5:=lN d 23;let s6:=gT d 23;let w3:=lV c;let A:=Ac.col w3;kN a s->eU (zG (dP a (aAS s)) (cX a (aAS s) 12 g) (aJE (fW g a 12) (mH g a 12) (pT g a 12) s (aV a 12) (iP a 12) (cB (aV a 12)) (pW a 12) (cM g (nI a 12)) (nI a 12) (xN a 12) (dW g (rP a 12))/\True/\True/\(True/\True/\(∃ x0:Oq,s.ops[a]?=some x0/\cF (oZ x y (iA z3 (aF G x7 p (aZ (cY g a 12) x0.kind)))) k P z5 (eF (cY g a 12) (fX g a 12) (gU g a 12) (fY g a 12) (kW g a 12) (tL g a 12) (zO g a 12) (eV (pF s (aV a 12)) (pF s (iP a 12)) (pF s (cB (aV a 12))) (bAt (jJ s) (rP a 12)) (bAt (jJ s) (fS (aV a 12))) [])=Oq.cells x0) x5))/\(∀ e:Oq,let S:=e.kind;let s8:=zZ2 c e;let z7:=zZ2 F e;let q0:=(srcS s.ims e x y,zQJ s.ims e x y);let q1:=srcS z6 e x y;let q2:=zQJ z6 e x y;iN (s.ops[a]?=some e) (mI S 1 (bF (dL (Ans prog 52 (t4::rA (Oq.cells e)::iF x y) (rN (aI q1) q2)) (∃ y9:Px × Int,aGU (y9=q0) x y 0 s G a (kE (aE q2=aE y9.snd)) t z4 (aF z5 (eS (Oq.cells e)) (rL q1 y9.fst) w1)))) (∀ y8:Px × Int,let r:=y8.snd;let m:=y8.fst;let r0:=zYV b c e m r;let z8:=zYV b F e m r;let r3:=zUX b F e m r;let r8:=j++[aAQ a 1 m];let r9:=yM a 1 (aGV 0 (yL 0 0 0 0 0 0 0 m));y8=q0->bF (aM (aAT j h r9) (∃ y7:List Mc,aGU (y7=r8) x y 0 s (aDS j y7) a (kE (eS (aE r))) t z4 (uJ (h++r9=mcs y7) (Oq.cells e) (aI m) f)))/\(∀ O:List Mc,let r4:=aAR O a e m r s;let w4:=aAR (zKp (mcs O)) a e m r s;let r5:=w4.snd;let r6:=mU w4;let r7:=w4.fst;bP (O=r8) (True/\True/\True/\True/\cQ (AnsG prog 121 0 (aO (fO 0 O)::bZ (cI a)::yH e m (bZ (aE r)::x8)) [bR 79 18 (mcs O)] (wX (fO 0 r7) (cL (cN r5) []) 79 18 r6 [] false)) (∃ Y:List Mc × Px,Y=r4/\tY x y 0 (eS (aE z3)) (aKK (aGW r7 Y.fst) a (bM (iR (aE r) p)))/\k/\P/\r6=mU Y/\aF (eS (Oq.cells e)) (eS (aI m)) (rL r5 Y.snd) w1)) (∀ X:List Mc × Px,let T:=X.snd;bP (X=r4) (yN 123 0 [] s c 217 [] (qE w3) 217 [] u2 217 []) (kV 122 (dH w3) [] A/\True/\True/\oG (AnsG prog 124 1 (z2::yH e m (aDR r)) x2 (aIH (AV.tup (cL (cN r3.fst) (gN r3.snd []))) b (fC z8) 217 z8)) (∃ y6:List Lv,aGU (y6=r0) x y 0 s (aJF X.fst) a (p/\True) t (pB s (nX z8 y6)) (gA (mU X) (aI T) (aI A) (pE z8 y6)))/\(∀ M:List Lv,let s9:=yM a 4 (aDT T.a T.b T (yL T.f A.a A.b A.c A.al A.f 0 (Ac.col (lV M))));eG (M=r0) (True/\True/\yN 123 0 [] s M 217 [] (qE (lV M)) 217 [] [nR M] 217 []/\kV 122 (dH (lV M)) [] (Ac.col (lV M))/\aM (aAT X.fst (mU X) s9) (iB (∃ y5:Nat,aLJ y5 s a x y (aDS X.fst (qG s x y y5)) k M (mU X++s9=oY s x y y5)))))))))) (mG (S==1) (mI S 2 (gK (AnsG prog 125 1 (z2::cL (aBK e []) []) x2 (aIH (bZ (aB (jZm F e))) b (fC z7) 217 z7)) (∃ y4:List Lv,y4=s8/\oZ x y (uY b 0 G (mJ a))/\aF k (pB s (nX z7 y4)) (eS h) (pE z7 y4))) (∀ L:List Lv,let s7:=yM a 5 (aGV 0 (yL 0 0 0 0 0 0 0 (aAU L)));eG (L=s8) (yN 126 0 [] s L 217 [] (cN (aAU L)) 217 [] [nR L] 217 []/\True/\True/\aAT j h s7/\True/\True/\True/\True/\(∃ y3:Nat,aLJ y3 s a x y (aDS j (qG s x y y3)) k L (h++s7=oY s x y y3))))) S 2 (mI S 3 (bF (True/\True/\u3/\uA x4 c/\aJC f d 23 (bV (eM w l) (eM w s6) (eM w s5) (eM w (lQ d 23)) (nS s x y a w2) (eM w w2) (eM w s3) (dW f s4) (bV (rK f l) (nS s x y a s1) (nS s x y a s0) (nS s x y a t9) (nS s x y a t8) (nS s x y a t7) (nS s x y a t6) (nS s x y a (wT d 23)) (aF (nS s x y a (fE (jQ d 23))) (nS s x y a (uC l)) (nS s x y a (uD l)) (nS s x y a (gO s2)))))/\True/\True/\eS true/\(∃ K:Lv,let H:=K.acc;let z:=K.op;K=t5/\cF (tY x y 0 (eS (aE z3)) (eS (0:Nat)/\G/\iR (cI a) p)) k P z5 (eF (nAt f (aR d 23)) (iE f d 23) (mF f d 23) (jC f d 23) (jZ f d 23) (nQ f d 23) (qF f d 23) (eV (qH s x y a l) (qH s x y a s6) (qH s x y a s5) (bAt f s4) (bAt f (iL d 23)) (aDN (qH s x y a w2) (qH s x y a s3) (qH s x y a (uB d 23)) (qH s x y a s2) (qH s x y a (fE l)) (qH s x y a s1) (qH s x y a s0) [aE (qH s x y a t9),aE (qH s x y a t8),aE (qH s x y a t7),aE (qH s x y a t6)]))=aB K.op.kind::aB K.op.image::aB z.x::aB z.y::aB K.op.mask::aMG K.op.mx K.op.my (eV z.opac z.oper z.mode z.iso z.kno (aDN H.a H.b H.c H.al H.own H.f K.back.a (aJD K.back)))) x5))) (∀ W:Lv,let q:=W.op;let Q:=W.back;let R:=W.acc;let x9:=aDU q R Q;let w0:=resE R Q b;let t2:=zQJ s.ims q x y;let t3:=zQJ z6 q x y;W=t5->aAL (Ans prog 52 (t4::rA (Oq.cells q)::iF x y) (rN (aI (srcS z6 q x y)) t3)) (∃ w6:Int,fP (w6=t2) (oZ x y (iA z3 (aF G x7 p (aE t3=aE w6)))) (eS x1) (uJ P h x9 f))/\(∀ n:Int,let v8:=popL b c n;let z1:=popL b F n;let v9:=popR b F n;let t1:=iR (aE n) p;n=t2->aAL (aDL 128 (dH R) (aAE Q b) (aI (resE R Q b)) R Q b) (∃ w5:Px,aGU (w5=w0) x y 0 s G a t1 t z4 (aF z5 (eS x9) (rL w0 w5) w1))/\(∀ o:Px,let u9:=j++[aAQ a 6 o];let t0:=yM a 6 (aLK 0 0 0 0 0 0 0 0 (aGV o.a (aJD o)));o=w0->bF (aM (aAT j h t0) (∃ y2:List Mc,aGU (y2=u9) x y 0 s (aDS j y2) a t1 t z4 (uJ (h++t0=mcs y2) x9 (aI o) f)))/\(∀ J:List Mc,let u4:=aAR J a q o n s;let x6:=aAR (zKp (mcs J)) a q o n s;let u5:=x6.snd;let u6:=mU x6;let u8:=x6.fst;bP (J=u9) (fZ (cQ (AnsG prog 121 0 (aO (fO 0 J)::bZ (cI a)::yH q o (bZ (aE n)::x8)) [bR 79 18 (mcs J)] (wX (fO 0 u8) (cL (cN u5) []) 79 18 u6 [] false)) (∃ V:List Mc × Px,V=u4/\cF (oZ x y (iA z3 (aF (aGW u8 V.fst) x7 (eS (aE n)) p))) k P (u6=mU V) (aI u5=vU V.snd) x5))) (∀ U:List Mc × Px,let E:=U.snd;eG (U=u4) (aM u3 (jH (uA u c) (cF (bY D z0) (bY D (z0+1)) (nS s x y a x3) (nS s x y a (z0+1)) (nS s x y a (cB x3)) (nS s x y a (cB x3+1))) (kV 122 (eX v6 v5 v4 v3 v2 v1) [] v) (qV (gK (AnsG prog 129 1 (z2::aDR n) x2 (aIH (AV.tup (cL (cN v9.fst) (gN v9.snd []))) b (fC z1) 217 z1)) (∃ y1:List Lv,aGU (y1=v8) x y 0 s (aJF U.fst) a (p/\True) t (pB s (nX z1 y1)) (gA (mU U) (aI E) (aI v) (pE z1 y1)))) (∀ I:List Lv,let C:=Ac.col (lV I);let v7:=yM a 4 (aGQ E.a E.b E.c E.al E.f (aLK v.a v.b v.c v.al v.f 0 C.a C.b (nP C.c C.al C.f [])));eG (I=v8) (True/\True/\yN 123 0 [] s I 217 [] (qE (lV I)) 217 [] [nR I] 217 []/\kD 122 (dH (lV I)) [] (aAB C)/\aM (aAT U.fst (mU U) v7) (iB (∃ y0:Nat,aLJ y0 s a x y (aDS U.fst (qG s x y y0)) k I (mU U++v7=oY s x y y0)))))))))))))) (nJ (e.kind==3) (∃ z9:Nat,aLJ z9 s a x y (aGW j (qG s x y z9)) k c (h=oY s x y z9)))))) (iQ a (aAS s)->True/\mP (aF (aGK (aGW j w9) p) (h=w8) (pB s (nX c Z)) (pE c Z)) (wX (fO 0 w9) (rO 1 []) 79 18 w8 (lU (bJ b [Cl.ref 2 (List.length Z)]) 217 23 (lvs Z) []) false)))))))) λhwf hbx=>by
  delta eS aB aR jW aE aT aF fD bQ bZ aM aY bU cQ tE aX gL jK aBK dE pV aN lZ eF bM eV dL gA iA aLG iN cI mO aV bS bP iP fQ dF iB zG aI bV zN bN cS bH pR kD cX cY dP iQ jM eG fX fY fW gT mG iE gU jC uY jZ oF kV mF kW mH oG uZ pT fZ mI oK eU kL cE cB bG aZ bF iR kE fP kB gK dW nJ iF uJ mJ pW tL qV xN nI zO xQ eX dH nP aFY aAB bJ fN oW cN aBF aAE qE aDT vU aGQ bY cF mP tY aGK aAL jH oZ cM bD wS lU uA iX fC gM aDF aDG aDH aDI cL nX pE kM yH gN aMG bO fS eM rK fE gO lN lQ mS iJ iY iL iK nQ qF sY sX uB uD uC jQ wT aDL aJC aJD rL aBN aBM rO aDN yJ yK eO rN fO aHB aNG aNF kO iM kP jI jJ lS wX kN nR mU qG iZ oY lV aAQ aAR lW aLK aGW aAS pB nS pF aIH qH yL yM uL pA aJF aKK rP aAU aDS aDU aJE aDR aAT aLJ yN aGU aGV;simp only [sS];clear hwf hbx;obtain ⟨hf,hu,hl,hm⟩:=hr;simp only [zXk,zQS,zQz,zUk];have mx:=zYZ s.bits;generalize zQi s.bits=most at *;have hT:=zUu most s.ims x y s.ops;refine ⟨mx,jK4 most hf,⟨0,wQi _,⟨rfl,rfl⟩,rfl,rfl,rfl⟩,λk hk=>⟨λhlt=>?_,λhge=>?_⟩⟩
  ·have hk:k<s.ops.length:=by omega
   obtain ⟨t1,t2,t3⟩:=hT k;have hm:=hm k;have q1:=zVi hk;have q2:=zVj hk;have lb:0<=(k:Int)/\(k:Int)<(s.ops.length:Int)/\k*12<(ops s.ops).length:=⟨by omega,by omega,by rw [zQK]; omega⟩
   have w1:wrap .i64 ((k:Int)+1)=((k+1:Nat):Int):=zXj (by omega);have e1:∀ o,s.ops[k]?=some o->runT most s.ims x y s.ops (k+1)=stT most s.ims x y k (runT most s.ims x y s.ops k) o:=λo ho=>by rw [runT,ho]; rfl
   simp only [q2,w1];refine ⟨lb,q1,⟨s.ops[k],List.getElem?_eq_getElem hk,rfl,rfl⟩,λo ho=>?_⟩;clear q1 q2 lb;have e1:=e1 o ho;have hm:=hm o ho;clear ho hT;generalize runT most s.ims x y s.ops k=z at *;obtain ⟨tr,L0⟩:=z;simp only at t1 t2 t3 hm e1 |-;refine ⟨λh1=>?_,λh1=>⟨λh2=>?_,λh2=>⟨λh3=>?_,λh3=>?_⟩⟩⟩
   ·have h1:o.kind=1:=by simpa using h1
    refine ⟨⟨zWR s o x y hu,_,rfl,rfl,rfl,rfl,rfl,rfl,rfl⟩,λp hp=>⟨⟨⟨zZL _,rfl,by unfold maxLen; omega,by omega⟩,_,rfl,by simp,(by rw [<- zUH]; rfl)⟩,λl hl2=>?_⟩⟩;have ll:l.length=tr.length+1:=by rw [hl2]; simp
    refine ⟨⟨zV4 l k o p.1 p.2 most (by omega),_,rfl,rfl,rfl,rfl,rfl,rfl,rfl,rfl⟩,λq hq=>?_⟩;have lq:q.1.length<=l.length+2:=by rw [hq]; exact zVD _ _ _ _ _ _
    refine ⟨zYl most L0 t2 (by omega),zYH _,⟨zWA most L0 o p.1 p.2 t2 (by omega),_,rfl,rfl,rfl⟩,λL hL=>?_⟩;have lL:L.length=L0.length:=by rw [hL]; exact jJN _ _ _ _ _
    have e2:runT most s.ims x y s.ops (k+1)=(q.1++[⟨k,4,q.2,(topL L0).acc.col,0,(topL L).acc.col⟩],L):=by
     rw [e1]; unfold stT; rw [if_pos h1]; subst hp hl2 hq hL; rfl
    refine ⟨zYl most L (by omega) (by omega),zYH _,⟨zZL _,rfl,by unfold maxLen; omega,by omega⟩,k+1,by omega,by omega,⟨?_,rfl⟩,?_,?_,?_⟩<;>rw [e2]
    ·simp
    ·rw [<- zUH]; rfl
   ·have h1:¬ o.kind=1:=by simpa using h1
    have h2:o.kind=2:=by simpa using h2
    refine ⟨⟨zWz most L0 o t2 (by omega),_,rfl,rfl,rfl⟩,λL hL=>?_⟩;have lL:=jYX o ⟨t2,t3⟩;rw [<- hL] at lL;have e2:runT most s.ims x y s.ops (k+1)=(tr++[⟨k,5,.zero,.zero,0,(topL L).back⟩],L):=by
     rw [e1]; unfold stT; rw [if_neg h1,if_pos h2,hL]
    refine ⟨zWB most L lL.1 (by omega),⟨zZL _,rfl,by unfold maxLen; omega,by omega⟩,k+1,by omega,by omega,⟨?_,rfl⟩,?_,?_,?_⟩<;>rw [e2]
    ·simp
    ·rw [<- zUH]; rfl
   ·have h1:¬ o.kind=1:=by simpa using h1
    have h2:¬ o.kind=2:=by simpa using h2
    have h3:o.kind=3:=by simpa using h3
    obtain ⟨g1,g2⟩:=hm h3;have hk2:L0.length-1<L0.length:=by omega
    have hT2:L0[L0.length-1]=topL L0:=(zYv t2).symm;have ei:((L0.length:Int)-1).toNat=L0.length-1:=by omega
    have bd:0<=(L0.length:Int)-1/\(L0.length:Int)-1<(L0.length:Int):=by omega
    have tp:=zZr most L0 t2 (by omega);have r1:=zVk (l:=L0) (k:=L0.length-1) hk2;have r2:=zVl (l:=L0) (k:=L0.length-1) hk2;rw [hT2] at r1 r2;simp only [Nat.add_zero] at r1 r2;simp only [ei,Nat.add_assoc,Nat.reduceAdd,Nat.add_zero,Nat.zero_add,r1,r2,and_self,true_and,and_true];clear r1 r2;refine ⟨⟨tp,bd,_,rfl,rfl,rfl,rfl,rfl,rfl,rfl,rfl,rfl,rfl,rfl,rfl,rfl,rfl,rfl,rfl,rfl,rfl,rfl,rfl,rfl,rfl,rfl,rfl⟩,λg hg=>⟨⟨zWR s g.op x y hu,_,rfl,rfl⟩,λw hw=>⟨⟨zKk g.acc g.back most,_,rfl,rfl,rfl,rfl,rfl,rfl⟩,λr hrr=>⟨⟨⟨zZL _,rfl,by unfold maxLen; omega,by omega⟩,_,rfl,by simp,(by rw [<- zUH]; rfl)⟩,λl hl2=>?_⟩⟩⟩⟩;have ll:l.length=tr.length+1:=by rw [hl2]; simp
    refine ⟨⟨zV4 l k g.op r w most (by omega),_,rfl,rfl,rfl,rfl,rfl,rfl,rfl,rfl⟩,λq hq=>?_⟩;have lq:q.1.length<=l.length+2:=by rw [hq]; exact zVD _ _ _ _ _ _
    have k3:L0.length-2<L0.length:=by omega
    have eu:wrap .i64 ((L0.length:Int)-1-1)=((L0.length-2:Nat):Int):=by rw [wQb _ ⟨by omega,by omega⟩]; omega
    obtain ⟨u,hu2⟩:∃ u,u=L0[L0.length-2]:=⟨_,rfl⟩
    have hu3:u=topL L0.dropLast:=by
     rw [hu2,zYv (by simp; omega),List.getElem_dropLast];congr 1;simp; omega
    have r1:=zVk (l:=L0) (k:=L0.length-2) k3;have r2:=zVl (l:=L0) (k:=L0.length-2) k3;rw [<- hu2] at r1 r2;have ea:∀ x:Ac,(⟨x.a,x.b,x.c,x.al,x.own,x.f⟩:Ac)=x:=λ_=>rfl;simp only [eu,wQl,r1,r2,and_self,true_and,ea];clear r1 r2;refine ⟨tp,⟨by omega,by omega⟩,zYH _,⟨zUe most L0 w t2 (by omega) (by rw [hw,hg]; exact g2),_,rfl,rfl,rfl⟩,λL hL=>?_⟩;have lL:=jVs (m:=most) w ⟨t2,t3⟩;rw [<- hL] at lL;have e2:runT most s.ims x y s.ops (k+1)=(q.1++[⟨k,4,q.2,u.acc.col,0,(topL L).acc.col⟩],L):=by
     rw [e1]; unfold stT; rw [if_neg h1,if_neg h2,if_pos h3,hu3,hL,hq,hl2,hrr,hw,hg]
    refine ⟨zYl most L lL.1 (by omega),zYH _,⟨zZL _,rfl,by unfold maxLen; omega,by omega⟩,k+1,by omega,by omega,⟨?_,rfl⟩,?_,?_,?_⟩<;>rw [e2]
    ·simp
    ·rw [<- zUH]; rfl
   ·have h1:¬ o.kind=1:=by simpa using h1
    have h2:¬ o.kind=2:=by simpa using h2
    have h3:¬ o.kind=3:=by simpa using h3
    have e2:runT most s.ims x y s.ops (k+1)=(tr,L0):=by
     rw [e1]; unfold stT; rw [if_neg h1,if_neg h2,if_neg h3]
    refine ⟨k+1,by omega,by omega,⟨?_,rfl⟩,?_,?_,?_⟩<;>rw [e2]
  ·have:k=s.ops.length:=by omega
   subst this;exact ⟨⟨rfl,rfl,rfl,rfl⟩,trivial⟩
def ptB (r:Rc) (x y:Int):Int × Int:=(wrap .i64 (r.a+modS x (wrap .i64 (r.c-r.a))),wrap .i64 (r.b+modS y (wrap .i64 (r.d-r.b))))
theorem jWM (m:Int) (ms:List Im) (x y:Int) (l:List Oq):(resR m (runT m ms x y l l.length).2).1=zYo m ms x y l:=by
 rw [zKP l.length (Nat.le_refl _),wZw];unfold resR zYo;simp only;split<;>rfl
theorem yZi {ms:List Im} {P:List Lv} {t u:Lv} (hi:zJo m ms) (h:StOk m (st++[o]) ((P++[t])++[u])) (h1:isNm o.oper=true) (h2:isNm o.mode=true) (hop:o.oper=4\/ctxB st=true) (x y:Int):
  jUq m ((P++[t])++[u]) (zQJ ms (topL ((P++[t])++[u])).op x y):=by
 obtain ⟨eo,hs⟩:=h.pre;have hu:=h.lv u (by simp);have ⟨r1,r2⟩:=zKs hu;have ⟨m1,m2⟩:=zJM hi o x y;have ⟨o1,o2⟩:=h.opac o (by simp);obtain ⟨e,s3,s4⟩:=zJa (o:=o) hi.full r1 r2 m1 m2 o1 o2;obtain ⟨pb,a,ha,hs2⟩:=zJB hs s3 s4 h1 h2 hop;have rb:resB m u=true:=hu.ok;have rl:resL m u=zZb u.acc u.back m:=by unfold resL; rw [if_pos rb]
 unfold jUq;rw [zQT,eo,rl,wQN];exact λ_=>⟨rb,pb⟩
theorem jGD (hi:zJo (zQi s.bits) s.ims) (hu:∀ m∈s.ims,m.isU) (hl:s.ops.length<=5000) (ho:∀ o∈s.ops,0<=o.opac) (h:okO s.bits s.ims.length s.ops []=some []) (x y:Int):yQd s x y:=by
 refine ⟨hi.full,hu,hl,λk o hk h3=>?_⟩;have hlt:k<s.ops.length:=by
  rcases wQp k s.ops.length with q | q
  ·exact q
  ·rw [wQM q] at hk; cases hk
 rw [List.getElem?_eq_getElem hlt] at hk;simp only [wQa] at hk;subst hk;rw [zKP k (by omega)];obtain ⟨st,h1,h2⟩:=zHz h k;obtain ⟨he,_⟩:=zUE h1 h2 hlt;obtain ⟨hv,hs⟩:=zGg hi rfl x y (s.ops.take k) [] st [zQI] h1 (λo hq=>ho o (wXP hq)) .nil (zV1 hi.full);generalize runM (zQi s.bits) s.ims x y (s.ops.take k) [zQI]=L at *;have hlen:=hs.len
 rcases zYe he with q | q | ⟨q,hne⟩
 ·omega
 ·omega
 ·rcases wZn st with rfl | ⟨st',g,rfl⟩
  ·exact absurd rfl hne
  ·rw [wZo] at hv hs;obtain ⟨q1,q2⟩:=hv st' g [] rfl;obtain ⟨_,_,_,_,f2,f3,f4,_⟩:=zQL (.inr q1) q2;obtain ⟨P,u,rfl⟩:=hs.split;obtain ⟨P',t,rfl⟩:=hs.pre.2.split;exact ⟨by simp,yZi hi hs f2 f3 f4 x y⟩
theorem yQj {r:Rc} (h : -100<=r.a/\r.c<=100 /\ -100<=r.b/\r.d<=100/\r.a<r.c/\r.b<r.d) (x y:Int):r.has (ptB r x y).1 (ptB r x y).2=true:=by
 obtain ⟨h1,h2,h3,h4,h5,h6⟩:=h;unfold ptB;rw [wQb (r.c-r.a) ⟨by omega,by omega⟩,wQb (r.d-r.b) ⟨by omega,by omega⟩];have a:=@zZH x (r.c-r.a) (by omega) (by omega);have b:=@zZH y (r.d-r.b) (by omega) (by omega);rw [wQb _ ⟨by omega,by omega⟩,wQb _ ⟨by omega,by omega⟩];have he:r.empty=false:=by rw [Rc.empty_iff]; omega
 simp only [Rc.has,he];simp;omega
def yQJ:Gam:=yZu.add [.p 23 (λv=>let c:=ur v 0;let a:=(zYo (zQi (nAt c 0)) (zQF (cAt c 8)) (nAt (uq v) 1) (nAt (uq v) 2) (zQo (cAt c 9)));some (RV.agg (pD a))),
 .q 65 ([true,true,true],0,3) (λv b=>let e:=uv v 0;let f:=zQo (cAt e 9);let g:=zQi (nAt e 0);let c:=runT g (zQF (cAt e 8)) (nAt (ut v) 1) (nAt (ut v) 2) f f.length;some ⟨AV.tup [AV.one (Cl.ref 0 c.1.length),AV.one (Cl.ptr 1 0)],[Bx.row 79 18 (mcs c.1),bC [cK g,Cl.ref 2 c.2.length],Bx.row 217 23 (lvs c.2)],false⟩),
 .q 66 ([false],2,1000) (λv b=>let c:=resR (nAt (uy (uw b 0)) 0) (zZF (ux b 1));some ⟨AV.tup [AV.agg (pC (c.1)),aJ c.2],b,false⟩)]
theorem jK5 (r:Rc) (x y:Int):Ans prog 17 [rA [dJ r.a,dJ r.b,dJ r.c,dJ r.d],rJ (x),rJ (y)] (rT [rJ (((ptB r x y).1)),rJ (((ptB r x y).2))]):=
 wc yQJ aL Tryz.func17 (aCB (dL (aBV x (dZ r.c r.a) (bU r.c r.a)) (True/\True/\True/\aBV y (dZ r.d r.b) (bU r.d r.b)/\cT (gJ (aB (aT (r.a+modS x (bU r.c r.a)))) (aB (aT (r.b+modS y (bU r.d r.b))))=zK (ptB r x y))))) λhwf=>by
  delta eS aB gE aT aH aY bU uU aBV dZ dL cT gJ zK aCB;simp only [sS];simp [ptB,zQl]
theorem jYn (s:Scr) (x y:Int) (hr:yQd s x y):Ans prog 23 [rA (sD s),rJ (x),rJ (y)] (rA (pD (zYo (zQi s.bits) s.ims x y s.ops))):=
 wc yQJ aL Tryz.func23 (let a:=lS s;let b:=(jI a (zQF (eO s)) x y (zQo (jJ s))).snd;let d:=resR a (kM b);let e:=d.fst;let c:=lvs b;let f:=List.length b;let g:=fC b;let h:=jI a (zQF (eO s)) x y (zQo (jJ s));fZ (aN (tE 65 (cL (uH s []) (gN x (gN y []))) (wX (fO 0 h.fst) (rO 1 []) 79 18 (mcs h.fst) (lU (bJ a [Cl.ref 2 f]) 217 23 c []) false)) (aBQ (aNG 66 2 [aO (Cl.ptr 0 0)] (bJ a g) (aBM 217 23 c []) (aNF (AV.tup (cL (cN e) (gN d.snd []))) a g 217 b [])/\eS (lU (bJ a [Cl.ref 3015 f]) 217 23 c [])) (qN (aI e) (zYo a s.ims x y s.ops))))) λhwf=>by
  delta eS aB aE aH bQ bZ tE aBQ aX gL jK aN nD aI qN fZ aCC bJ fN cN lU fC cL kM gN aBM rO eO fO aHB aNG aNF kO iM kP jI jJ lS uH wX;simp only [sS];simp only [zQS,zQz,zXk];have hT:=zUu (zQi s.bits) s.ims x y s.ops s.ops.length;have V:=jWM (zQi s.bits) s.ims x y s.ops;refine ⟨jK3 s x y hr,zVw _ _ hT.2.1 (by omega),?_⟩;rw [<- V];exact ⟨rfl,rfl,rfl,rfl,rfl⟩
end
theorem yQN (r:Rw) (push:Bool) (n:Int) (c:Rc) (free:Bool) {most:Int} (h0:0<=most) (h1:most<=65535):0<=(gOp r push n c free most).opac:=by
 unfold gOp;simp only;split
 ·have:=zYU (wrap .i64 (Int.tdiv r.op 2)) h0 h1;omega
 ·omega
theorem Scn.run_op0 (s:Scn):∀ k,∀ o∈(s.run k).1,0<=o.opac
 | 0,o,ho=>by cases ho
 | k+1,o,ho=>by
  have hm:0<=s.most/\s.most<=65535:=by rcases s.most_in with h | h<;>rw [h]<;>omega
  have ih:=s.run_op0 k;have ho:o∈(s.step (rwAt s.rxs (k*11)) (s.run k)).1:=ho;unfold Scn.step at ho;split at ho
  ·rcases List.mem_append.1 ho with h | h
   ·exact ih o h
   ·rw [wQk] at h;subst h;decide
  ·rcases List.mem_append.1 ho with h | h
   ·exact ih o h
   ·rw [wQk] at h;subst h;exact yQN _ _ _ _ _ hm.1 hm.2
theorem Scn.op0 (s:Scn):∀ o∈s.ops,0<=o.opac:=λo ho=>by
 rcases List.mem_append.1 (show o∈(s.run (min s.rn 9)).1++List.replicate (s.run (min s.rn 9)).2.length popO from ho) with h | h
 ·exact s.run_op0 _ o h
 ·rw [List.eq_of_mem_replicate h];decide
theorem Scn.px_fine (s:Scn):∀ m∈s.ims,m.formed=true/\∀ p∈m.pixels,p.fine s.most:=by
 have CF:=s.c_facts;have hq:1<=s.c.c-s.c.a/\s.c.c-s.c.a<=100/\1<=s.c.d-s.c.b/\s.c.d-s.c.b<=100:=by have:=s.facts; omega
 have hm:0<=s.most/\s.most<=65535:=by rcases s.most_in with h | h<;>rw [h]<;>omega
 intro m hmem;refine ⟨(s.fine m hmem).1,?_⟩;unfold Scn.ims at hmem;split at hmem
 ·rw [wQk] at hmem;subst hmem;have F:=s.facts;have hf:zZs s.gw s.gh=true:=by
   have:=wQv F.2.2.1.2 F.2.2.2.1.2 (by omega) (by omega);simp [zZs]; omega
  intro p hp;change p∈(zZl s.gw s.gh ⟨s.most,0,0,s.most,s.most⟩).pixels at hp;rw [Im.pixels_of (zY0 _ hf),Im.list,wQw] at hp;obtain ⟨k,_,rfl⟩:=hp;have e:(zZl s.gw s.gh ⟨s.most,0,0,s.most,s.most⟩).nth k=⟨s.most,0,0,s.most,s.most⟩:=by simp [Im.nth,Im.px,zZl]
  change ((zZl s.gw s.gh ⟨s.most,0,0,s.most,s.most⟩).nth k).fine s.most;rw [e];exact ⟨by simp [Px.ok]; omega,by simp only; omega,by simp only; omega,by simp only; omega,by simp only; omega⟩
 ·simp only [Scn.pics,wQw] at hmem;obtain ⟨k,_,rfl⟩:=hmem;exact λp hp=>jQM _ _ _ _ _ _ _ _ _ _ hm.1 hm.2 hq p hp
variable {x y:Int}
theorem Im.at_mem {m:Im} (hf:m.formed=true) (hx:0<=x/\x<m.w) (hy:0<=y/\y<m.h):m.at_ x y∈m.pixels:=by
 have h1:=zX4 (Im.formed_of hf).1;rw [Im.at_in hf hx hy,Im.pixels_of hf,Im.list,wQw];have hlt:x.toNat<m.w.toNat:=by omega
 refine ⟨y.toNat*m.w.toNat+x.toNat,?_,?_⟩
 ·rw [wQx];have:(y.toNat+1)*m.w.toNat<=m.h.toNat*m.w.toNat:=wQV _ (by omega);rw [wQD m.w.toNat];rw [wQn] at this;omega
 ·have e1:(y.toNat*m.w.toNat+x.toNat)%m.w.toNat=x.toNat:=by
   rw [wQD,Nat.mul_add_mod,wQR hlt]
  have e2:(y.toNat*m.w.toNat+x.toNat) / m.w.toNat=y.toNat:=by
   rw [wQD,Nat.mul_add_div (by omega),wXM hlt,Nat.add_zero]
  unfold Im.nth;rw [e1,e2,wZ6 hx.1,wZ6 hy.1]
theorem Scn.full (s:Scn):zQH s.most=true:=by
 rcases s.most_in with h | h<;>rw [h]<;>rfl
theorem Scn.ims_ok (s:Scn):zJo s.most s.ims:=by
 refine ⟨s.full,λm hm x y=>?_⟩;obtain ⟨hf,hp⟩:=s.px_fine m hm;by_cases h:0<=x/\x<m.w/\0<=y/\y<m.h
 ·have:=hp _ (Im.at_mem hf ⟨h.1,h.2.1⟩ ⟨h.2.2.1,h.2.2.2⟩);exact ⟨this.1,this.2.1,this.2.2.1,this.2.2.2.1⟩
 ·rw [at_out h];exact zWT (by have:=(zQO s.full).1; omega)
theorem Scn.dim_ok (s:Scn):jYt s.ims:=λm hm=>by
 obtain ⟨hf,⟨h1,h2⟩,_⟩:=s.fine m hm;have:=zX4 (Im.formed_of hf).1;omega
theorem Scn.bits_most (s:Scn):zQi s.bits=s.most:=s.bits_max.1
theorem Scn.forest (s:Scn):∃ w:Fo,w.vf s.bits s.ims.length []/\s.ops=w.flat:=by
 obtain ⟨w,hw,e⟩:=jVQ s.ops_ok;have h:=s.ops_ok;rw [e] at h;exact ⟨w,(jQn w [] [] hw h).1,e⟩
def Fo.app:Fo->Fo->Fo
 | .nil,g=>g
 | .draw o r,g=>.draw o (r.app g)
 | .grp o k r,g=>.grp o k (r.app g)
theorem zYF:∀ f g:Fo,(f.app g).flat=f.flat++g.flat
 | .nil,g=>rfl
 | .draw o r,g=>by simp [Fo.app,Fo.flat,zYF r g]
 | .grp o k r,g=>by simp [Fo.app,Fo.flat,zYF r g]
theorem jYj:∀ f g:Fo,(f.app g).size=f.size+g.size
 | .nil,g=>by simp [Fo.app,Fo.size]
 | .draw o r,g=>by simp [Fo.app,Fo.size,jYj r g]; omega
 | .grp o k r,g=>by simp [Fo.app,Fo.size,jYj r g]; omega
theorem jJR {bits:Int} {mn:Nat} {st:List Oq}:∀ f g:Fo,(f.app g).vf bits mn st↔f.vf bits mn st/\g.vf bits mn st
 | .nil,g=>by simp [Fo.app,Fo.vf]
 | .draw o r,g=>by simp [Fo.app,Fo.vf,jJR r g,and_assoc]
 | .grp o k r,g=>by simp [Fo.app,Fo.vf,jJR r g,and_assoc]
theorem jYk (s:Scr):∀ (f g:Fo) (n:Nat),boxL s n (f.app g)=boxL s n f++boxL s (n+f.size) g
 | .nil,g,n=>by simp [Fo.app,Fo.size,boxL]
 | .draw o r,g,n=>by
  rw [Fo.app,zUY,zUY,jYk s r g];simp only [Fo.size,List.cons_append];rw [show n+1+r.size=n+(r.size+1) by omega]
 | .grp o k r,g,n=>by
  rw [Fo.app,zHD,zHD,jYk s r g];simp only [Fo.size,List.cons_append,List.append_assoc];rw [show n+k.size+2+r.size=n+(k.size+r.size+2) by omega]
theorem jQ6:∀ f g h:Fo,(f.app g).app h=f.app (g.app h)
 | .nil,g,h=>rfl
 | .draw o r,g,h=>by simp [Fo.app,jQ6 r g h]
 | .grp o k r,g,h=>by simp [Fo.app,jQ6 r g h]
def Fo.one:Fo->Fo × Fo
 | .nil=>(.nil,.nil)
 | .draw o r=>(.draw o .nil,r)
 | .grp o k r=>(.grp o k .nil,r)
theorem jKy:∀ f:Fo,f.one.1.app f.one.2=f
 | .nil=>rfl
 | .draw o r=>rfl
 | .grp o k r=>rfl
variable {A:Fo}
theorem Scn.outside (s:Scn) {E B:Fo} (hv:(A.app (E.app B)).vf s.bits s.ims.length []) (he:s.ops=(A.app (E.app B)).flat) (hc:s.c.has x y=true) (hb:∀ r∈zQQ s.scr E,r.has x y=false):
  zYo s.most s.ims x y (A.flat++B.flat)=zYo s.most s.ims x y s.ops:=by
 rw [jJR,jJR] at hv;obtain ⟨v1,v2,v3⟩:=hv;have hop:∀ o∈s.ops,0<=o.opac:=s.op0;rw [he,zYF,zYF] at hop;obtain ⟨a,e1,h1⟩:=zKO s.ims_ok s.bits_most x y A [] [] zQI v1 (λo ho=>hop o (by simp [ho])) (zV1 s.full);have e2:=zHV (s:=s.scr) s.dim_ok s.ims_ok s.bits_most hc E [] [] _ v2 (λo ho=>hop o (by simp [ho])) h1 hb;have key:runM s.most s.ims x y (A.flat++B.flat) [zQI]=runM s.most s.ims x y s.ops [zQI]:=by
  rw [he,zYF,zYF,zY3,zY3,zY3];rw [List.nil_append] at e1;rw [e1];change _=runM s.most s.ims x y B.flat (runM s.most s.scr.ims x y E.flat ([]++[_]));rw [e2]
 unfold zYo;rw [key]
def zZM (s:Scr) (r:Rc) (n:Nat):Nat->List Oq
 | 0=>[]
 | k+1=>zZM s r n k++(if zXZ s r (n+k) then [opAt s (n+k)] else [])
theorem zVO (s:Scr) (r:Rc) (n a:Nat):∀ b,zZM s r n (a+b)=zZM s r n a++zZM s r (n+a) b
 | 0=>by simp [zZM]
 | b+1=>by
  rw [<- Nat.add_assoc,zZM,zZM,zVO s r n a b,List.append_assoc,Nat.add_assoc]
theorem zGz (s:Scr) (r:Rc) (n b:Nat):zZM s r n (b+1)=(if zXZ s r n then [opAt s n] else [])++zZM s r (n+1) b:=by
 rw [wXZ,zVO];simp [zZM]
theorem zGy (s:Scr) (r:Rc) (n:Nat):∀ b,(∀ p,n<=p->p<n+b->zXZ s r p=false)->zZM s r n b=[]
 | 0,_=>rfl
 | b+1,h=>by
  rw [zZM,zGy s r n b (λp h1 h2=>h p h1 (by omega)),h (n+b) (by omega) (by omega)];rfl
variable {p:Nat}
theorem jKJ (h:s.run.1=0) (r:Rc) (hp:p<s.ops.length):hitB s r p=hit r (boxN s 0 (foOf s) p):=by
 unfold hitB hit;rw [zK9 h hp]
theorem jKw (h:s.run.1=0) (e:(foOf s).flat[p]?=some o):opAt s p=o:=by
 unfold opAt;rw [(zXm h).2,e]; rfl
theorem jHC (s:Scr) (r:Rc) (o:Oq) (k:Fo):(Fo.draw o k).act s r=if hit r (boxF s o (imgR s o)) then .draw o (k.act s r) else k.act s r:=by rw [Fo.act]
theorem yQ2 (s:Scr) (r:Rc) (o:Oq) (g k:Fo):(Fo.grp o g k).act s r=if hit r (boxF s o (zZ3 (zQQ s g))) then .grp o (g.act s r) (k.act s r) else k.act s r:=by rw [Fo.act]
theorem jQx {s:Scr} (h:s.run.1=0) (r:Rc):∀ (f:Fo) (n:Nat),Occ s (foOf s) n f->(∀ j,j<n->(opAt s j).kind=2->n<enAt s j->hitB s r j=true)->zZM s r n f.size=(f.act s r).flat
 | .nil,n,_,_=>rfl
 | .draw o k,n,ho,hg=>by
  obtain ⟨h1,h2,h3,h4,h5,h6⟩:=ho.draw;have hl:n<s.ops.length:=by rw [zZS h]; exact h2
  have eo:=jKw h h3
  have ih:=jQx h r k (n+1) h6 (λj hj hk he=>by
   rcases wQp j n with hlt | hge
   ·exact hg j hlt hk (by omega)
   ·have:j=n:=by omega
    subst this
    rw [eo] at hk; omega)
  have ha:zXZ s r n=hit r (boxF s o (imgR s o)):=by
   rw [<- h5,<- jKJ h r hl]
   cases hb:hitB s r n with
   | false=>
    cases q:zXZ s r n with
    | false=>rfl
    | true=>rw [((zXO s r n).1 q).1] at hb; cases hb
   | true=>exact (zXO s r n).2 ⟨hb,λj hj hk he=>hg j hj hk he⟩
  rw [Fo.size,zGz,ih,ha,eo];rw [jHC]
  cases hit r (boxF s o (imgR s o)) with
  | false=>rfl
  | true=>rfl
 | .grp o g k,n,ho,hg=>by
  obtain ⟨h1,h2,h3,h4,h5,h6,h7,h8,h9,h10⟩:=ho.grp;have hl:n<s.ops.length:=by rw [zZS h]; omega
  have hl2:n+g.size+1<s.ops.length:=by rw [zZS h]; exact h2
  have eo:=jKw h h3;have ep:=jKw h h4;have en:enAt s n=n+g.size+1:=by rw [(zXL h hl).2,h5]
  have k2:(opAt s n).kind=2:=by rw [eo]; exact h1
  have ha:zXZ s r n=hit r (boxF s o (zZ3 (zQQ s g))):=by
   rw [<- h7,<- jKJ h r hl]
   cases hb:hitB s r n with
   | false=>
    cases q:zXZ s r n with
    | false=>rfl
    | true=>rw [((zXO s r n).1 q).1] at hb; cases hb
   | true=>exact (zXO s r n).2 ⟨hb,λj hj hk he=>hg j hj hk he⟩
  have hp:zXZ s r (n+g.size+1)=zXZ s r n:=by rw [<- en]; exact jK1 h r hl k2
  have ih:=jQx h r k (n+g.size+2) h10 (λj hj hk he=>by
   rcases wQp j n with hlt | hge
   ·exact hg j hlt hk (by omega)
   ·rcases wQp n j with hnj | hnj
    ·rcases wQp j (n+g.size+1) with hin | hin
     ·have:=zUV h hl hnj (by rw [en]; omega);omega
     ·have:j=n+g.size+1:=by omega
      subst this;rw [ep] at hk; cases hk
    ·have:j=n:=by omega
     subst this
     omega)
  rw [Fo.size,show g.size+k.size+2=(1+(g.size+1))+k.size by omega,zVO,show n+(1+(g.size+1))=n+g.size+2 by omega,ih];rw [yQ2]
  cases hb:hit r (boxF s o (zZ3 (zQQ s g))) with
  | true=>
   have ha2:zXZ s r n=true:=by rw [ha,hb]
   have ig:=jQx h r g (n+1) h9 (λj hj hk he=>by
    rcases wQp j n with hlt | hge
    ·exact hg j hlt hk (by omega)
    ·have:j=n:=by omega
     subst this
     exact ((zXO s r j).1 ha2).1)
   rw [wXZ 1,zGz,zZM,ig,ha2,show n+1+g.size=n+g.size+1 by omega,hp,ha2,eo,ep];simp [Fo.flat]
  | false=>
   rw [zGy s r n]
   ·rfl
   ·intro p p1 p2
    rcases wQp n p with hnp | hnp
    ·rcases wQp p (n+g.size+1) with hin | hin
     ·cases q:zXZ s r p with
      | false=>rfl
      | true=>
       have:=((zXO s r p).1 q).2 n hnp k2 (by omega);rw [jKJ h r hl,h7,hb] at this;cases this
     ·have:p=n+g.size+1:=by omega
      rw [this,hp,ha,hb]
    ·have:p=n:=by omega
     rw [this,ha,hb]
def Scn.left (s:Scn) (r:Rc):List Oq:=zZM s.scr r 0 s.ops.length
def jX2 (s:Scr):Fo->Rc
 | .nil=>.zero
 | .draw o r=>boxF s o (imgR s o)
 | .grp o k r=>boxF s o (zZ3 (zQQ s k))
theorem yQW (s:Scr) (f:Fo) (hn:f≠.nil):zQQ s f.one.1=[jX2 s f]:=by
 cases f with
 | nil=>exact absurd rfl hn
 | draw o r=>rfl
 | grp o k r=>rfl
theorem jHw (s:Scr) (f:Fo) (n:Nat) (hn:f≠.nil):(boxL s n f)[0]?=some (jX2 s f):=by
 cases f with
 | nil=>exact absurd rfl hn
 | draw o r=>rw [zUY]; rfl
 | grp o k r=>rw [zHD]; rfl
abbrev OutZ:=Fo × Fo × Nat
structure zV8 (s:Scn) (z:OutZ):Prop where
  vf:(z.1.app z.2.1).vf s.bits s.ims.length []
  ops:s.ops=(z.1.app z.2.1).flat
variable {s:Scn} {z:OutZ}
theorem zV8.box (h:zV8 s z) (hn:z.2.1≠.nil):(zXA s.scr).1[z.1.size]?=some (jX2 s.scr z.2.1):=by
 have hr:s.scr.run.1=0:=by rw [s.scr_run]
 have e:=jVW (s:=s.scr) (jZy _ [] h.vf).1 h.ops;unfold zXA;rw [if_pos hr,e,jYk,wQo (by rw [zYi]; exact Nat.le_refl _),zYi,wZs];exact jHw _ _ _ hn
theorem zV8.len (h:zV8 s z):s.ops.length=z.1.size+z.2.1.size:=by
 rw [h.ops,Fo.flat_len,jYj]
theorem zV8.rest (h:zV8 s z):s.ops.drop z.1.size=z.2.1.flat:=by
 rw [h.ops,zYF,<- z.1.flat_len]; simp
variable {n:Nat}
theorem zV8.next {F:Fo} {m:Nat} (h:zV8 s (A,F,n)):zV8 s (A.app F.one.1,F.one.2,m):=by
 have e:(A.app F.one.1).app F.one.2=A.app F:=by rw [jQ6,jKy]
 exact ⟨by simpa only [e] using h.vf,by simpa only [e] using h.ops⟩
theorem zV8.start (s:Scn) (n:Nat):∃ w:Fo,zV8 s (.nil,w,n):=by
 obtain ⟨w,h1,h2⟩:=s.forest;exact ⟨w,h1,h2⟩
theorem zV8.ok {s:Scn} {z:OutZ} (h:zV8 s z):z.2.1.ok:=(jZy _ [] ((jJR _ _).1 h.vf).2).1
variable {j:Nat}
theorem zV8.op (h:zV8 s z) (hj:j<z.2.1.one.1.size) (hl:z.1.size+j<s.ops.length):s.ops[z.1.size+j]=z.2.1.one.1.flat[j]'(by rw [Fo.flat_len]; exact hj):=by
 have hj2:j<z.2.1.one.1.flat.length:=by rw [Fo.flat_len]; exact hj
 have e2:s.ops[z.1.size+j]?=some (z.2.1.one.1.flat[j]):=by
  rw [h.ops,zYF,wQo (by rw [Fo.flat_len]; omega),Fo.flat_len,wYL];have e:z.2.1.flat=z.2.1.one.1.flat++z.2.1.one.2.flat:=by rw [<- zYF,jKy]
  rw [e,wQF hj2,List.getElem?_eq_getElem hj2]
 rw [List.getElem?_eq_getElem hl] at e2;exact wYy e2
theorem zV8.value (h:zV8 s z) (hn:z.2.1≠.nil) (hc:s.c.has x y=true) (hb:(jX2 s.scr z.2.1).has x y=false):
  zYo s.most s.ims x y (s.ops.take z.1.size++s.ops.drop (z.1.size+z.2.1.one.1.size))=zYo s.most s.ims x y s.ops:=by
 have e:z.2.1=z.2.1.one.1.app z.2.1.one.2:=(jKy _).symm;have hv:=h.vf;have ho:=h.ops;rw [e] at hv ho
 have:=s.outside hv ho hc (λr hr=>by
  rw [yQW _ _ hn,wQk] at hr
  rw [hr]; exact hb)
 rw [<- this];congr 1;have l1:=z.1.flat_len;have l2:=z.2.1.one.1.flat_len;rw [ho,zYF,zYF,<- l1,<- l2];simp [List.drop_append]
theorem jJj {most:Int}:∀ (l:List Im) (i:Int),(∀ m∈l,m.valid most=0)->(imsE most l i).1=0
 | [],_,_=>rfl
 | m::l,i,h=>by
  simp only [imsE];rw [if_pos (h m (by simp))];exact jJj l _ λq hq=>h q (by simp [hq])
def Scn.withOps (s:Scn) (l:List Oq):Scr:=⟨s.bits,s.c,s.gtw,s.gth,s.ord,s.ims,l⟩
theorem Scn.with_check (s:Scn) {l:List Oq} (hl:l.length<=4096) (h:okO s.bits s.ims.length l []=some []):zYL (s.withOps l)=(0,0):=by
 have li:=s.ims_len;have f:=s.frame_ok (mn:=s.ims.length) (pn:=l.length) (by omega) hl;have e1:(s.withOps l).frame=0:=f;have e2:(imsE (zQi (s.withOps l).bits) (s.withOps l).ims 0).1=0:=by
  show (imsE (zQi s.bits) s.ims 0).1=0
  rw [s.bits_most];exact jJj _ _ λm hm=>(s.fine m hm).2.2.1
 have e3:(s.withOps l).run=(0,0):=by
  show opsE s.bits s.c s.gtw s.gth s.ord s.ims.length l=_
  unfold opsE;rw [if_pos f];have:=jKb l [] 0 [] [] h;rw [wQ1] at this;rw [this]; rfl
 unfold zYL;rw [if_pos e1,if_pos e2,e3]
variable {m:Int} {L:Nat->List Lv} {s:Scr}
theorem jY2 {src:List Px} {p:Nat->Px} (hi:zJo m s.ims) (hst:∀ j,StOk m st (L j)) (h65:st.length<=65)
  (hn:n<=100000) (hm:0<=o.mask/\o.mask<=s.ims.length) (nx:zZX o.mx=true) (ny:zZX o.my=true) (h0:0<=o.opac) (h1:o.opac<=m) (f1:isNm o.oper=true) (f2:isNm o.mode=true) (f3:o.oper=4\/ctxB st=true)
  (hl:src.length=n) (hp:∀ j,(p j).ok m=true/\(p j).nn) (hsrc:∀ j,j<n->pxN src j=p j) (hx:x<=536870912) (hy:y<=536870912) :
  zGL s m (colF n L) o src x y/\zKD m (colF n L) o src (maR s.ims o x y src.length)=colF n λj=>zQB m (L j) o (zQh m o (p j) (zQJ s.ims o (x+j) y)).1:=by
 obtain ⟨P,t,e,hk,hop⟩:=zUp hst;have eL:L=λj=>P j++[t j]:=funext e;have hs:∀ j,StOk m st (P j++[t j]):=λj=>by rw [<- e]; exact hst j
 have q:=λj=>zJa (m:=m) (o:=o) (p:=p j) (mask:=zQJ s.ims o (x+j) y) hi.full (hp j).1 (hp j).2 (zJM hi o (x+j) y).1 (zJM hi o (x+j) y).2 h0 h1;have pk:=λj=>(zJB (hs j) (q j).2.1 (q j).2.2 f1 f2 f3).1;have nx:=zVL nx;have ny:=zVL ny;have ks:∀ j,j<n->zXM (pxN src j) (ksN (maR s.ims o x y src.length) m j) o.opac m=zQh m o (p j) (zQJ s.ims o (x+j) y):=λj hj=>by
  rw [hsrc j hj,hl,jG2 hm.1 hj (by omega) (by omega)];rfl
 have eT:topF (colF n L)=⟨(t 0).op,rng n λj=>(t j).acc,rng n λj=>(t j).back⟩:=by rw [eL,zXY hk,zYM]
 have el:(colF n L).length=st.length+1:=by rw [zY5]; exact (hst 0).len
 refine ⟨⟨⟨by omega,by omega⟩,⟨hm,by omega,by omega⟩,by omega,f1,f2,by rw [eT,hl]; exact zXs _ _,by rw [eT,hl]; exact zXs _ _,λj hj=>?_,λj hj=>?_⟩,?_⟩
 ·rw [ks j (by omega),(q j).1]
 ·have hj:j<n:=by omega
  have e2:pxN (scR m o.opac src (maR s.ims o x y src.length)) j=(zQh m o (p j) (zQJ s.ims o (x+j) y)).1:=by
   rw [zJJ (by rw [zKc]; omega),jUb,ks j hj]
  rw [e2,eT];simp only [zUc hj,zVG hj];have:=pk j;unfold zZc at this;rw [zQT,hop j] at this;exact this
 ·have:=jGb (n:=n) (mk:=maR s.ims o x y src.length) (q:=λj=>(zQh m o (p j) (zQJ s.ims o (x+j) y)).1) hk hop hl (λj hj=>by rw [ks j hj]) pk;rw [eL];exact this.symm
theorem yQa (hk:o.kind=1) (nx:zZX o.x=true) (ny:zZX o.y=true) (hj:j<n) (hn:n<=100000) (hx:x<=536870912) (hy:y<=536870912):
  pxN (pixR s.ims o.image (x-o.x) (y-o.y) n) j=srcS s.ims o (x+j) y:=by
 have nx:=zVL nx;have ny:=zVL ny;exact jGy hk hj (by omega) (by omega)
theorem jHr {bits n:Int} (hi:zJo m s.ims) (hb:zQi bits=m) (hst:∀ j,StOk m st (L j)) (h65:st.length<=65) (hk:o.kind=1) (h0:0<=o.opac) (he:errO bits s.ims.length o st=0)
  (hn:0<=n/\n<=100000) (hx:x<=536870912) (hy:y<=536870912) :
  zGL s m (colF n.toNat L) o (pixR s.ims o.image (x-o.x) (y-o.y) n.toNat) x y/\yQR s m x y n (colF n.toNat L) o=colF n.toNat λj=>zXb m s.ims (x+j) y (L j) o:=by
 obtain ⟨_,g1,⟨g2,g3,g4,g5⟩,f1,f2,f3,f4,_⟩:=zQL (.inl hk) he;have r:=jY2 (n:=n.toNat) (o:=o) (src:=pixR s.ims o.image (x-o.x) (y-o.y) n.toNat) (p:=λj=>srcS s.ims o (x+j) y) (x:=x) (y:=y) hi hst h65 (by omega) g1 g4 g5 h0 (by omega) f2 f3 f4 (zKW _ _ _ _ _)
  (λj=>zHM hi o (x+j) y) (λj hj=>yQa hk g2 g3 hj (by omega) hx hy) hx hy
 refine ⟨r.1,?_⟩;unfold yQR;rw [r.2];congr 1;funext j;have ⟨m1,m2⟩:=zJM hi o (x+j) y;obtain ⟨e,_,_⟩:=zJa (o:=o) hi.full (zHM hi o (x+j) y).1 (zHM hi o (x+j) y).2 m1 m2 h0 (by omega);unfold zXb zYV;rw [if_pos hk,if_pos ⟨hk,by rw [e]⟩]
theorem jWT (n:Nat) (hst:∀ j,StOk m st (L j)) (hn:n<=100000):FrOk m (topF (colF n L))/\(topF (colF n L)).acc.length=n:=by
 obtain ⟨P,t,e,hk,hop⟩:=zUp hst;have eL:L=λj=>P j++[t j]:=funext e;rw [eL,zXY hk,zYM];refine ⟨⟨?_,?_,λj hj=>?_⟩,zXs _ _⟩
 ·show (rng n _).length<=_
  rw [zXs]; exact hn
 ·show (rng n _).length=(rng n _).length
  rw [zXs,zXs]
 ·have hj:j<n:=by
   have:j<(rng n λj=>(t j).acc).length:=hj;rwa [zXs] at this
  show (acN (rng n _) j).ok (pxN (rng n _) j) m=true
  rw [zUc hj,zVG hj];have:=(hst j).lv (t j) (by rw [e j]; simp);exact this.ok
theorem yQm {bits:Int} {n:Nat} (hi:zJo m s.ims) (hb:zQi bits=m) (hv:StV bits s.ims.length st) (hst:∀ j,StOk m st (L j)) (h65:st.length<=65) (hk:o.kind=3) (hne:st≠[])
  (hn:n<=100000) (hx:x<=536870912) (hy:y<=536870912) :
  2<=(colF n L).length/\zGL s m (colF n L).dropLast (topF (colF n L)).op (rsR m (topF (colF n L)).acc (topF (colF n L)).back) x y/\popF s m x y (colF n L)=colF n λj=>zXb m s.ims (x+j) y (L j) o:=by
 rcases wZn st with rfl | ⟨st',c,rfl⟩
 ·exact absurd rfl hne
 rw [wZo] at *;obtain ⟨P,t,e,hkl,hop⟩:=zUp hst;have eL:L=λj=>P j++[t j]:=funext e;have hs:∀ j,StOk m (st'++[c]) (P j++[t j]):=λj=>by rw [<- e]; exact hst j
 obtain ⟨q1,q2⟩:=hv st' c [] rfl;obtain ⟨_,g1,⟨g2,g3,g4,g5⟩,f1,f2,f3,f4,_⟩:=zQL (.inr q1) q2;have hc:=λj=>(hs j).pre;have ho:=(hs 0).opac c (by simp);have et:(t 0).op=c:=(hc 0).1;have ru:=λj=>zKs ((hs j).lv (t j) (by simp));have hlen:st'.length<=65:=by rw [wQh] at h65; omega
 have eT:colF n L=colF n P++[⟨(t 0).op,rng n λj=>(t j).acc,rng n λj=>(t j).back⟩]:=by rw [eL,zXY hkl]
 have lR:(rsR m (rng n λj=>(t j).acc) (rng n λj=>(t j).back)).length=n:=by rw [zGi,zXs]
 have r:=jY2 (n:=n) (o:=c) (src:=rsR m (rng n λj=>(t j).acc) (rng n λj=>(t j).back)) (p:=λj=>zZb (t j).acc (t j).back m) (x:=x) (y:=y) hi (λj=>(hc j).2) hlen hn g1 g4 g5 ho.1 ho.2 f2 f3 f4 lR
  ru (λj hj=>by rw [zJJ (by rw [lR]; exact hj),jUd,zUc hj,zVG hj]) hx hy
 have hl:(colF n L).length=(colF n P).length+1:=by rw [eT,wQh]; rfl
 have hP:1<=(colF n P).length:=by rw [zY5,hkl,wQh]; simp
 rw [eT,wQN,zYM];refine ⟨by rw [wQh]; simp; omega,by rw [et]; exact r.1,?_⟩;unfold popF;rw [wQN,zYM];simp only;rw [et,r.2];congr 1;funext j;obtain ⟨P',u,e'⟩:=(hc j).2.split;have:=jZS (x:=x+j) (y:=y) (ms:=s.ims) hi (by rw [<- e']; exact hs j) f2 f3 f4;rw [jYx hk,e,e',this.1]
theorem jUI (s:Scr) (r:Rc) (i:Nat):zZM s r 0 (i+1)=zZM s r 0 i++(if zXZ s r i then [opAt s i] else []):=by rw [zZM,Nat.zero_add]
theorem jUc (m:Int) (ms:List Im) (x y:Int) (l:List Oq) (o:Oq) (L:List Lv):runM m ms x y (l++[o]) L=zXb m ms x y (runM m ms x y l L) o:=by rw [zY3]; rfl
variable {i:Nat}
theorem jVA (h:i<s.ops.length):opAt s i=s.ops[i]:=by unfold opAt; rw [List.getElem?_eq_getElem h]; rfl
theorem jVC {bits:Int} {mn:Nat}:∀ {l st st':List Oq},okO bits mn l st=some st'->st.length<=64->st'.length<=64
 | [],st,st',h,hl=>by simp only [okO,wQa] at h; subst h; exact hl
 | o::l,st,st',h,hl=>by
  simp only [okO] at h;split at h
  ·rename_i he;refine jVC h ?_
   rcases zYe he with hk | hk | ⟨hk,_⟩
   ·rw [zUo hk]; exact hl
   ·rw [zUn hk,wQh];have:=(zQL (.inr hk) he).2.2.2.2.2.2.2 hk;simp; omega
   ·have hk:o.kind=3:=by rw [hk]; rfl
    unfold zXR;rw [if_neg (by omega),if_pos hk,wZV]; omega
  ·cases h
structure zYG (s:Scr) (m:Int):Prop where
  run:s.run.1=0
  ims:zJo m s.ims
  most:zQi s.bits=m
  opac:∀ o∈s.ops,0<=o.opac
theorem zYG.opAt0 (h:zYG s m) (p:Nat):0<=(opAt s p).opac:=by
 unfold opAt
 rcases wQp p s.ops.length with h1 | h1
 ·rw [List.getElem?_eq_getElem h1]; exact h.opac _ (List.getElem_mem h1)
 ·rw [wQM h1]; decide
theorem zYG.kept0 {s:Scr} {m:Int} (h:zYG s m) (r:Rc) (n:Nat):∀ k,∀ o∈zZM s r n k,0<=o.opac
 | 0,o,ho=>by simp [zZM] at ho
 | k+1,o,ho=>by
  rw [zZM] at ho
  rcases List.mem_append.1 ho with ho | ho
  ·exact h.kept0 r n k o ho
  ·split at ho
   ·rw [wQk.1 ho]; exact h.opAt0 _
   ·simp at ho
theorem zYG.kept (h:zYG s m) (r:Rc):okO s.bits s.ims.length (zZM s r 0 s.ops.length) []=some []:=by
 obtain ⟨ok,e⟩:=zXm h.run;have ho:=(zYx h.run).2;have h1:okO s.bits s.ims.length (foOf s).flat []=some []:=by
  rw [<- e]; exact ho
 have h2:=jQx h.run r (foOf s) 0 (Occ.whole s ok) (λj hj=>by omega);rw [<- zZS h.run] at h2;rw [h2];exact (jZy _ [] (jXh s r (foOf s) [] (jQn _ [] [] ok h1).1)).2
theorem zYG.at_ (h:zYG s m) (r:Rc) (hi:i<=s.ops.length):∃ st,okO s.bits s.ims.length (zZM s r 0 i) []=some st/\okO s.bits s.ims.length (zZM s r i (s.ops.length-i)) st=some []/\st.length<=64/\StV s.bits s.ims.length st /\
  ∀ x y,StOk m st (runM m s.ims x y (zZM s r 0 i) [zQI]):=by
 have e:=zVO s r 0 i (s.ops.length-i);rw [Nat.zero_add,show i+(s.ops.length-i)=s.ops.length by omega] at e;have hk:=h.kept r;rw [e,zKh] at hk
 cases hs:okO s.bits s.ims.length (zZM s r 0 i) [] with
 | none=>rw [hs] at hk; cases hk
 | some st=>
  rw [hs] at hk;have rp:=λx y=>zGg h.ims h.most x y (zZM s r 0 i) [] st [zQI] hs (h.kept0 r 0 i) .nil (zV1 h.ims.full);exact ⟨st,rfl,hk,jVC hs (by simp),(rp 0 0).1,λx y=>(rp x y).2⟩
theorem zHA {r:Rc} (hi:i<s.ops.length) (ha:zXZ s r i=true) (h:okO s.bits s.ims.length (zZM s r i (s.ops.length-i)) st=some []):errO s.bits s.ims.length (opAt s i) st=0:=by
 rw [show s.ops.length-i=(s.ops.length-i-1)+1 by omega,zGz,if_pos ha,List.singleton_append] at h;simp only [okO] at h;split at h
 ·assumption
 ·cases h
def jHF (s:Scr) (r:Rc) (k:Nat):Prop:=∀ j,j<k->(opAt s j).kind=2->k<=enAt s j->hitB s r j=true
variable {k:Nat}
theorem jHF.live {r:Rc} (h:jHF s r k):Live s r k:=λj h1 h2 h3=>h j h1 h2 (by omega)
structure jZb (s:Scr) (r:Rc) (m x y n:Int) (q:Nat × List Fr):Prop where
  le:q.1<=s.ops.length
  live:jHF s r q.1
  fr:q.2=colF n.toNat λj=>runM m s.ims (x+j) y (zZM s r 0 q.1) [zQI]
theorem jUp {r:Rc} (hv:s.run.1=0) (hi:i<s.ops.length) (hl:jHF s r i) (hk:(opAt s i).kind=3):zXZ s r i=true:=by
 rcases jY7 hv hi with h | h | ⟨_,q,q1,q2,q3,_⟩
 ·omega
 ·omega
 ·have hq:q<s.ops.length:=by omega
  have:=jK1 hv r hq q2;rw [q3] at this;rw [this,zXO];refine ⟨hl q q1 q2 (by omega),λj hj h2 h3=>?_⟩;have:=zUV hv (by omega:j<s.ops.length) hj (by omega);exact hl j (by omega) h2 (by omega)
theorem yQ3 {r:Rc} (hv:s.run.1=0) (hi:i<s.ops.length):(actL s r)[i]?=some (zXZ s r i):=by
 unfold actL zXN;rw [if_pos hv];simp [hi]
theorem yQ1 {r:Rc} (hv:s.run.1=0):(actL s r).length=s.ops.length:=by
 unfold actL zXN;rw [if_pos hv];simp
section
variable {s:Scr} {r:Rc} {m x y n:Int} {q:Nat × List Fr}
theorem jZb.start (hc:zYG s m):jZb s r m x y n (0,[zG3 n.toNat]):=by
 refine ⟨wQi _,λj hj=>by omega,?_⟩
 show [zG3 n.toNat]=colF n.toNat λj=>[zQI]
 rw [jGc]
theorem jZb.good (hc:zYG s m) (h:jZb s r m x y n q) (hi:q.1<s.ops.length) (hn:0<=n/\n<=100000) (hx:x<=536870912) (hy:y<=536870912) :
  jGu s m (zZx s.ops).1 (actL s r) x y n q (opAt s q.1)/\jZb s r m x y n (jZj s m (zZx s.ops).1 (actL s r) x y n q (opAt s q.1)):=by
 obtain ⟨i,F⟩:=q;obtain ⟨hle,hl,hF⟩:=h;simp only at hi hle hl hF |-;subst hF;obtain ⟨st,s1,s2,s3,s4,s5⟩:=hc.at_ r hle;have s5:∀ j:Nat,StOk m st (runM m s.ims (x+j) y (zZM s r 0 i) [zQI]):=λj=>s5 _ _;have el:(colF n.toNat λj=>runM m s.ims (x+j) y (zZM s r 0 i) [zQI]).length=st.length+1:=by rw [zY5]; exact (s5 0).len
 have tr:=jWT n.toNat s5 (by omega);have ei:=zGI hc.run hi;have ag:=yQ3 (r:=r) hc.run hi;have eg:=jKW hc.run hi;have hkd:=jY7 hc.run hi;have ho:=hc.opAt0 i
 have pop:(opAt s i).kind=3->_:=λhk=>yQm (x:=x) (y:=y) (n:=n.toNat) (o:=opAt s i) hc.ims hc.most s4 s5 (by omega) hk (by
  have he:=zHA hi (jUp hc.run hi hl hk) s2
  rcases zYe he with q | q | ⟨_,q⟩
  ·omega
  ·omega
  ·exact q) (by omega) hx hy
 have drw:(opAt s i).kind=1->zXZ s r i=true->_:=λhk ha=>jHr (x:=x) (y:=y) (n:=n) (o:=opAt s i) hc.ims hc.most s5 (by omega) hk ho (zHA hi ha s2) hn hx hy;have grow:zXZ s r i=true->∀ j:Nat,runM m s.ims (x+j) y (zZM s r 0 (i+1)) [zQI]=zXb m s.ims (x+j) y (runM m s.ims (x+j) y (zZM s r 0 i) [zQI]) (opAt s i):=λha j=>by
  rw [jUI,if_pos ha,jUc]
 refine ⟨⟨⟨by show 1<=(colF _ _).length; omega,by show (colF _ _).length<=65; omega⟩,tr.1,λhk=>?_,λ_=>by rw [yQ1 hc.run]; exact hi,λ_ ha=>⟨enAt s i,eg,ei.1,ei.2⟩,λk3 k2 ha=>?_⟩,?_⟩
 ·obtain ⟨a,b,_⟩:=pop hk;exact ⟨a,b⟩
 ·have ha:zXZ s r i=true:=by
   rw [ag] at ha; injection ha
  have k1:(opAt s i).kind=1:=by
   rcases hkd with h | h | ⟨h,_⟩
   ·exact h
   ·exact absurd h k2
   ·exact absurd h k3
  obtain ⟨g0,_,⟨g2,g3,_,_⟩,_⟩:=zQL (.inl k1) (zHA hi ha s2);have g2:=zVL g2;have g3:=zVL g3;exact ⟨(drw k1 ha).1,g0 k1,⟨by omega,by omega⟩,by omega,by omega⟩
 ·unfold jZj;simp only [ag,eg,wQG];by_cases k3:(opAt s i).kind=3
  ·have ha:=jUp hc.run hi hl k3;rw [if_pos k3,(pop k3).2.2];refine ⟨hi,λj hj h2 h3=>?_,?_⟩
   ·show hitB s r j=true
    have h3:i+1<=enAt s j:=h3
    rcases wQp j i with c | c
    ·exact hl j c h2 (by omega)
    ·have:j=i:=by have:j<i+1:=hj; omega
     subst this; omega
   ·show colF n.toNat _=colF n.toNat _
    simp only [grow ha]
  ·rw [if_neg k3]
   cases ha:zXZ s r i with
   | false=>
    rw [if_pos rfl];have en:((enAt s i:Nat):Int).toNat=enAt s i:=by omega
    have none_:zZM s r 0 (enAt s i+1)=zZM s r 0 i:=by
     have e:=zVO s r 0 i (enAt s i+1-i);rw [Nat.zero_add,show i+(enAt s i+1-i)=enAt s i+1 by omega] at e;rw [e,zGy s r i (enAt s i+1-i) (λp p1 p2=>?_),wQ1]
     rcases wQp i p with c | c
     ·have k2:(opAt s i).kind=2:=by
       rcases hkd with h | h | ⟨h,_⟩
       ·have:=jU7 hc.run hi (by omega); omega
       ·exact h
       ·exact absurd h k3
      have hb:hitB s r i=false:=by rw [<- zUI hl.live]; exact ha
      rcases wQp p (enAt s i) with c2 | c2
      ·cases hp:zXZ s r p with
       | false=>rfl
       | true=>
        have:=((zXO s r p).1 hp).2 i c k2 c2;rw [hb] at this; cases this
      ·have:p=enAt s i:=by omega
       rw [this,jK1 hc.run r hi k2,ha]
     ·have:p=i:=by omega
      rw [this,ha]
    refine ⟨by show (_:Int).toNat+1<=_; omega,λj hj h2 h3=>?_,?_⟩
    ·have hj:j<((enAt s i:Nat):Int).toNat+1:=hj;have h3:((enAt s i:Nat):Int).toNat+1<=enAt s j:=h3
     rcases wYu j i with c | c | c
     ·exact hl j c h2 (by omega)
     ·subst c; omega
     ·have:=zUV hc.run hi c (by omega);omega
    ·show colF n.toNat _=colF n.toNat _
     simp only [en,none_]
   | true=>
    rw [if_neg (by decide)];by_cases k2:(opAt s i).kind=2
    ·rw [if_pos k2];obtain ⟨P,t,e,hk,hop⟩:=zUp s5;have d64:=(zQL (.inr k2) (zHA hi ha s2)).2.2.2.2.2.2.2 k2;have cp:=jHu (n:=n.toNat) (o:=opAt s i) hk hop k2 d64;refine ⟨hi,λj hj h2 h3=>?_,?_⟩
     ·have h3:i+1<=enAt s j:=h3
      rcases wQp j i with c | c
      ·exact hl j c h2 (by omega)
      ·have:j=i:=by have:j<i+1:=hj; omega
       subst this;exact ((zXO s r j).1 ha).1
     ·show zUx (colF n.toNat _) _=colF n.toNat _
      simp only [grow ha];have e1:(λj:Nat=>runM m s.ims (x+j) y (zZM s r 0 i) [zQI])=λj=>P j++[t j]:=funext e;have e2:(λj:Nat=>zXb m s.ims (x+j) y (runM m s.ims (x+j) y (zZM s r 0 i) [zQI]) (opAt s i))=λj=>zZ2 (P j++[t j]) (opAt s i):=funext λj=>by
       rw [e j]; unfold zXb;rw [if_neg (by omega),if_pos k2]
      rw [e1,e2,cp]
    ·rw [if_neg k2];have k1:(opAt s i).kind=1:=by
      rcases hkd with h | h | ⟨h,_⟩
      ·exact h
      ·exact absurd h k2
      ·exact absurd h k3
     rw [(drw k1 ha).2];refine ⟨hi,λj hj h2 h3=>?_,?_⟩
     ·have h3:i+1<=enAt s j:=h3
      rcases wQp j i with c | c
      ·exact hl j c h2 (by omega)
      ·have:j=i:=by have:j<i+1:=hj; omega
       subst this; omega
     ·show colF n.toNat _=colF n.toNat _
      simp only [grow ha]
end
section
variable {s:Scr} {r:Rc} {m x y n:Int}
theorem zHZ (hc:zYG s m) (hn:0<=n/\n<=100000) (hx:x<=536870912) (hy:y<=536870912):∀ k,jZb s r m x y n (zXr s m (zZx s.ops).1 (actL s r) x y n k)
 | 0=>jZb.start hc
 | k+1=>by
  have ih:=zHZ hc hn hx hy k;rw [zWb]
  rcases wQp (zXr s m (zZx s.ops).1 (actL s r) x y n k).1 s.ops.length with h | h
  ·rw [zGj h,<- jVA h];exact (ih.good hc h hn hx hy).2
  ·rw [zHY h]; exact ih
theorem jVi (hc:zYG s m) (hn:0<=n/\n<=100000) (hx:x<=536870912) (hy:y<=536870912):∀ k o,s.ops[(zXr s m (zZx s.ops).1 (actL s r) x y n k).1]?=some o->jGu s m (zZx s.ops).1 (actL s r) x y n (zXr s m (zZx s.ops).1 (actL s r) x y n k) o:=λk o ho=>by
 have ih:=zHZ hc hn hx hy (r:=r) k;obtain ⟨h,e⟩:=wQK.1 ho;rw [<- e,<- jVA h];exact (ih.good hc h hn hx hy).1
theorem jYF (hc:zYG s m) (hn:0<=n/\n<=100000) (hx:x<=536870912) (hy:y<=536870912):zJc s m (zZx s.ops).1 (actL s r) x y n=colF n.toNat λj=>runM m s.ims (x+j) y (zZM s r 0 s.ops.length) [zQI]:=by
 have ih:=zHZ hc hn hx hy (r:=r) s.ops.length;have hg:=jXv (jVi hc hn hx hy (r:=r)) s.ops.length;have hl:=ih.le;have e:(zXr s m (zZx s.ops).1 (actL s r) x y n s.ops.length).1=s.ops.length:=by omega
 have hf:=ih.fr;rw [e] at hf;exact hf
theorem jVJ (hc:zYG s m) (r:Rc) (x y:Int):StOk m [] (runM m s.ims x y (zZM s r 0 s.ops.length) [zQI]):=by
 obtain ⟨st,s1,s2,_,_,s5⟩:=hc.at_ r (Nat.le_refl _);have:=hc.kept r;rw [this] at s1;injection s1 with s1
 subst s1;exact s5 x y
theorem jGF (hc:zYG s m) (hn:0<=n/\n<=100000) (hx:x<=536870912) (hy:y<=536870912):jZc s m (zZx s.ops).1 (actL s r) x y n:=by
 have he:=jYF hc hn hx hy (r:=r);have hs:∀ j:Nat,StOk m [] (runM m s.ims (x+j) y (zZM s r 0 s.ops.length) [zQI]):=λj=>jVJ hc r (x+j) y;have t:=jWT n.toNat hs (by omega);have l:(colF n.toNat λj=>runM m s.ims (x+j) y (zZM s r 0 s.ops.length) [zQI]).length=1:=by rw [zY5]; exact (hs 0).len
 have e:frN (colF n.toNat λj=>runM m s.ims (x+j) y (zZM s r 0 s.ops.length) [zQI]) 0=topF (colF n.toNat λj=>runM m s.ims (x+j) y (zZM s r 0 s.ops.length) [zQI]):=by
  unfold frN topF;rw [l]
 refine ⟨jVi hc hn hx hy,⟨by rw [he,l]; omega,by rw [he,l]; omega,by rw [he,e]; exact t.1⟩,by rw [he,e]; exact t.2⟩
theorem jUe (hc:zYG s m) (hn:0<=n/\n<=100000) (hx:x<=536870912) (hy:y<=536870912) (hj:j<n.toNat):pxN (zJb s m (zZx s.ops).1 (actL s r) x y n) j=zYo m s.ims (x+j) y (zZM s r 0 s.ops.length):=by
 have he:=jYF hc hn hx hy (r:=r);have hs:∀ j:Nat,StOk m [] (runM m s.ims (x+j) y (zZM s r 0 s.ops.length) [zQI]):=λj=>jVJ hc r (x+j) y;obtain ⟨P,t,e,hk,hop⟩:=zUp hs;have eP:∀ j,P j=[]:=λj=>List.eq_nil_of_length_eq_zero (by rw [hk]; rfl);have eL:(λj:Nat=>runM m s.ims (x+j) y (zZM s r 0 s.ops.length) [zQI])=λj=>P j++[t j]:=funext e;have e0:frN (colF n.toNat λj=>P j++[t j]) 0=⟨(t 0).op,rng n.toNat λj=>(t j).acc,rng n.toNat λj=>(t j).back⟩:=by
  rw [zXY hk];have:colF n.toNat P=[]:=List.eq_nil_of_length_eq_zero (by rw [zY5,hk]; rfl);rw [this]; rfl
 unfold zJb;rw [he,eL,e0];have lR:(rsR m (rng n.toNat λj=>(t j).acc) (rng n.toNat λj=>(t j).back)).length=n.toNat:=by rw [zGi,zXs]
 rw [zJJ (by rw [lR]; exact hj),jUd,zUc hj,zVG hj];unfold zYo;simp only [e j,eP j,List.nil_append];have ok:=((hs j).lv (t j) (by rw [e j]; simp)).ok;rw [if_neg (by simp)]
 show _=resL m (t j)
 unfold resL resB;rw [if_pos ok]
theorem jY1 (hc:zYG s m) (hw:0<=r.c-r.a/\r.c-r.a<=1000) (hh:r.d-r.b<=1000) (h1 : -536870912<=r.a/\r.a<=536870912) (h2 : -536870912<=r.b/\r.d<=536870912):zU8 s m (zZx s.ops).1 r:=
 ⟨λk hk=>by unfold zQ1 at hk; exact jGF hc ⟨hw.1,by omega⟩ h1.2 (by omega),hw,hh,h1,h2⟩
theorem jWk (hc:zYG s m) (hw:0<=r.c-r.a/\r.c-r.a<=1000) (hh:r.d-r.b<=1000) (h1 : -536870912<=r.a/\r.a<=536870912) (h2 : -536870912<=r.b/\r.d<=536870912) {u v:Nat} (hu:u<(r.c-r.a).toNat) (hv:v<zQ1 r) :
  pxN (zXG s m (zZx s.ops).1 r (zQ1 r)) (v*(r.c-r.a).toNat+u)=zYo m s.ims (r.a+u) (r.b+v) (zZM s r 0 s.ops.length):=by
 rw [jVv (jY1 hc hw hh h1 h2) (zQ1 r) (Nat.le_refl _) v u hv hu];unfold zQ1 at hv;exact jUe hc ⟨hw.1,by omega⟩ h1.2 (by omega) hu
end
variable {w:Int}
theorem yQE {h:Int} {l:List Px} (hk:ofOk w h l.length=true) (hx:0<=x/\x<w) (hy:0<=y/\y<h):(imOf w h l).at_ x y=pxN l (y*w+x).toNat:=by
 have hf:=zW2 hk;rw [zW4 hk];have e:(l.length:Int)=w*h:=by
  unfold ofOk at hk;rw [wQe] at hk;exact wQE hk.2
 have h1:(y+1)*w<=h*w:=Int.mul_le_mul_of_nonneg_right (by omega) (by omega);rw [wZ8,wZu] at h1;have h2:h*w=w*h:=wQy _ _;have h0:0<=y*w:=Int.mul_nonneg (by omega) (by omega);have hl:(y*w+x).toNat<l.length:=by omega
 unfold Im.at_;have c:((ofIm w h l).formed&&decide (0<=x)&&decide (x<(ofIm w h l).w)&&decide (0<=y)&&decide (y<(ofIm w h l).h))=true:=by
  rw [hf];have a:x<(ofIm w h l).w:=hx.2;have b:y<(ofIm w h l).h:=hy.2;simp [hx.1,hy.1,a,b]
 rw [if_pos c,jUy hl,zJJ hl]
theorem jU8 {a:Int} (h0:0<=a) (hw:0<w):0<=a / w/\a / w*w<=a/\a<a / w*w+w:=by
 have h1:=wZb a (by omega:w≠0);have h2:=wZc a hw;have h3:=wZI a w;rw [wQy] at h3;exact ⟨wQI h0 (by omega),by omega,by omega⟩
theorem zHs {W t:Int} (h1:1<=t) (h2:t<=W):1<=(W+t-1) / t/\(W+t-1) / t<=W/\W<=(W+t-1) / t*t/\((W+t-1) / t-1)*t<=W-1:=by
 obtain ⟨a,b,c⟩:=jU8 (a:=W+t-1) (w:=t) (by omega) (by omega);generalize (W+t-1) / t=n at *;have h3:(n-1)*t=n*t-t:=by rw [Int.sub_mul,wZu]
 refine ⟨?_,?_,by omega,by omega⟩
 ·rcases wZ9 n 1 with h | h
  ·have:=Int.mul_le_mul_of_nonneg_right (show n<=0 by omega) (show 0<=t by omega);rw [Int.zero_mul] at this; omega
  ·exact h
 ·rcases wZ9 W n with h | h
  ·have q:=Int.mul_le_mul_of_nonneg_right (show W+1<=n by omega) (show 0<=t by omega);rw [wZ8,wZu] at q;have r:=Int.mul_le_mul_of_nonneg_left h1 (show 0<=W by omega);rw [wXh] at r; omega
  ·exact h
structure Neat (s:Scr):Prop where
  chk:zYL s=(0,0)
  ims:zJo (zQi s.bits) s.ims
  dim:jYt s.ims
  opac:∀ o∈s.ops,0<=o.opac
  w:1<=s.c.c-s.c.a/\s.c.c-s.c.a<=1000
  h:1<=s.c.d-s.c.b/\s.c.d-s.c.b<=1000
  at_:(-268435456<=s.c.a/\s.c.a<=268435456) /\ -268435456<=s.c.b/\s.c.b<=268435456
section
variable {s:Scr} (hn:Neat s)
include hn
theorem Neat.frame:s.frame=0:=by
 have h:=hn.chk;unfold zYL at h;split at h
 ·assumption
 ·rename_i hf;exact absurd (congrArg Prod.fst h) hf
theorem Neat.run:s.run.1=0:=by
 have h:=hn.chk;unfold zYL at h;rw [if_pos hn.frame] at h;split at h
 ·exact congrArg Prod.fst h
 ·rename_i hf;exact absurd (congrArg Prod.fst h) hf
theorem Neat.ctx:zYG s (zQi s.bits):=⟨hn.run,hn.ims,rfl,hn.opac⟩
theorem Neat.parts:(cntS s.c s.tw s.th).2.2=true/\zZ8 s.ord (jJ2 s)=true/\s.ims.length<=64/\s.ops.length<=4096:=by
 have h:=hn.frame;unfold Scr.frame zYD at h;split at h
 ·cases h
 split at h
 ·cases h
 split at h
 ·cases h
 rename_i h3;split at h
 ·cases h
 rename_i h4;split at h
 ·cases h
 rename_i h5;refine ⟨by simpa using h3,?_,by omega,by omega⟩;have h4:¬ zZ8 s.ord (jJ2 s)=false:=h4;simpa using h4
theorem Neat.sides:(1<=s.tw/\s.tw<=s.c.c-s.c.a)/\(1<=s.th/\s.th<=s.c.d-s.c.b)/\(cntS s.c s.tw s.th).1=(s.c.c-s.c.a+s.tw-1) / s.tw/\(cntS s.c s.tw s.th).2.1=(s.c.d-s.c.b+s.th-1) / s.th:=by
 obtain ⟨w1,w2⟩:=hn.w;obtain ⟨h1,h2⟩:=hn.h;obtain ⟨⟨a1,a2⟩,a3,a4⟩:=hn.at_;have wW:wrap .i64 (s.c.c-s.c.a)=s.c.c-s.c.a:=wQb _ ⟨by omega,by omega⟩;have wH:wrap .i64 (s.c.d-s.c.b)=s.c.d-s.c.b:=wQb _ ⟨by omega,by omega⟩;have hp:=hn.parts.1
 have e:(if s.c.empty then (0,0,false)
  else if s.tw<1\/wrap .i64 (s.c.c-s.c.a)<s.tw\/s.th<1\/wrap .i64 (s.c.d-s.c.b)<s.th then (0,0,false)
  else (wrap .i64 (Int.tdiv (wrap .i64 (wrap .i64 (wrap .i64 (s.c.c-s.c.a)+s.tw)-1)) s.tw),wrap .i64 (Int.tdiv (wrap .i64 (wrap .i64 (wrap .i64 (s.c.d-s.c.b)+s.th)-1)) s.th),true))=cntS s.c s.tw s.th:=rfl
 rw [wW,wH] at e;rw [<- e] at hp |-;split at hp
 ·cases hp
 rename_i q1;split at hp
 ·cases hp
 rename_i q2;have t1:1<=s.tw/\s.tw<=s.c.c-s.c.a:=by omega
 have t2:1<=s.th/\s.th<=s.c.d-s.c.b:=by omega
 have b1:=zHs t1.1 t1.2;have b2:=zHs t2.1 t2.2;rw [if_neg q1,if_neg q2];refine ⟨t1,t2,?_,?_⟩
 ·show wrap .i64 _=_
  rw [wQb (s.c.c-s.c.a+s.tw) ⟨by omega,by omega⟩,wQb (s.c.c-s.c.a+s.tw-1) ⟨by omega,by omega⟩,wQY (by omega),wQb _ ⟨by omega,by omega⟩]
 ·show wrap .i64 _=_
  rw [wQb (s.c.d-s.c.b+s.th) ⟨by omega,by omega⟩,wQb (s.c.d-s.c.b+s.th-1) ⟨by omega,by omega⟩,wQY (by omega),wQb _ ⟨by omega,by omega⟩]
end
def zKe (s:Scr) (nx i:Int):Rc:=⟨s.c.a+i%nx*s.tw,s.c.b+i / nx*s.th,min (s.c.a+i%nx*s.tw+s.tw) s.c.c,min (s.c.b+i / nx*s.th+s.th) s.c.d⟩
variable {nx ny:Int}
section
variable {s:Scr} (hn:Neat s)
include hn
theorem Neat.num:∃ nx ny:Int,(cntS s.c s.tw s.th).1=nx/\(cntS s.c s.tw s.th).2.1=ny/\(1<=nx/\nx<=1000/\s.c.c-s.c.a<=nx*s.tw/\(nx-1)*s.tw<=s.c.c-s.c.a-1)/\(1<=ny/\ny<=1000/\s.c.d-s.c.b<=ny*s.th/\(ny-1)*s.th<=s.c.d-s.c.b-1)/\jJ2 s=nx*ny/\1<=nx*ny/\nx*ny<=1000000:=by
 obtain ⟨t1,t2,e1,e2⟩:=hn.sides;obtain ⟨a1,a2,a3,a4⟩:=zHs t1.1 t1.2;obtain ⟨b1,b2,b3,b4⟩:=zHs t2.1 t2.2;have w2:=hn.w.2;have h2:=hn.h.2;have m1:1*1<=(s.c.c-s.c.a+s.tw-1) / s.tw*((s.c.d-s.c.b+s.th-1) / s.th):=wQv a1 b1 (by omega) (by omega);have m2:(s.c.c-s.c.a+s.tw-1) / s.tw*((s.c.d-s.c.b+s.th-1) / s.th)<=1000*1000:=wQv (by omega) (by omega) (by omega) (by omega);refine ⟨_,_,e1,e2,⟨a1,by omega,a3,a4⟩,⟨b1,by omega,b3,b4⟩,?_,by omega,by omega⟩;unfold jJ2;rw [e1,e2,wQb _ ⟨by omega,by omega⟩]
theorem Neat.rect (e1:(cntS s.c s.tw s.th).1=nx) (e2:(cntS s.c s.tw s.th).2.1=ny) (n1:1<=nx/\nx<=1000/\s.c.c-s.c.a<=nx*s.tw/\(nx-1)*s.tw<=s.c.c-s.c.a-1) (n2:1<=ny/\ny<=1000/\s.c.d-s.c.b<=ny*s.th/\(ny-1)*s.th<=s.c.d-s.c.b-1)
  {i:Int} (hi:0<=i/\i<nx*ny):zGr s.c s.tw s.th i=(zKe s nx i,true)/\(zKe s nx i).a<(zKe s nx i).c/\(zKe s nx i).b<(zKe s nx i).d/\zG4 s (zKe s nx i):=by
 obtain ⟨t1,t2,_,_⟩:=hn.sides;obtain ⟨w1,w2⟩:=hn.w;obtain ⟨h1,h2⟩:=hn.h;obtain ⟨⟨a1,a2⟩,a3,a4⟩:=hn.at_;have i1:=wZb i (show nx≠0 by omega);have i2:=wZc i (show 0<nx by omega);have i3:=wQI hi.1 (show 0<=nx by omega);have i4:i / nx<ny:=wXf (by omega) (by rw [wQy]; exact hi.2);have m1:i%nx*s.tw<=(nx-1)*s.tw:=Int.mul_le_mul_of_nonneg_right (by omega) (by omega);have m2:i / nx*s.th<=(ny-1)*s.th:=Int.mul_le_mul_of_nonneg_right (by omega) (by omega);have m3:0<=i%nx*s.tw:=Int.mul_nonneg i1 (by omega);have m4:0<=i / nx*s.th:=Int.mul_nonneg i3 (by omega);refine ⟨?_,by unfold zKe; simp only; omega,by unfold zKe; simp only; omega,⟨by unfold zKe; simp only; omega,by unfold zKe; simp only; omega⟩⟩;unfold zGr zKe;rw [e1,e2,hn.parts.1,wQY hi.1,wZR hi.1];have q1:i / nx<=1000:=by omega
 rw [wQb (i / nx) ⟨by omega,by omega⟩,if_neg (by simp; omega)];simp only;rw [wQb (i%nx*s.tw) ⟨by omega,by omega⟩,wQb (i / nx*s.th) ⟨by omega,by omega⟩,wQb (s.c.a+i%nx*s.tw) ⟨by omega,by omega⟩,wQb (s.c.b+i / nx*s.th) ⟨by omega,by omega⟩,wQb (s.c.a+i%nx*s.tw+s.tw) ⟨by omega,by omega⟩,wQb (s.c.b+i / nx*s.th+s.th) ⟨by omega,by omega⟩]
theorem Neat.order (eN:jJ2 s=nx*ny) (h1:1<=nx*ny) (h2:nx*ny<=1000000):(zXD s).length=(nx*ny).toNat/\(∀ v∈zXD s,0<=v/\v<nx*ny)/\∀ i,0<=i->i<nx*ny->i∈zXD s:=by
 have ho:=hn.parts.2.1;have e:zXD s=seqL s.ord (jJ2 s):=by unfold zXD zXw; rw [if_pos ho]
 unfold zZ8 at ho;simp only [wQe,wQj,wZY] at ho;obtain ⟨⟨⟨_,_⟩,hl⟩,g1,g2⟩:=ho;have l:=jXs hl;rw [e];rw [eN] at g1 g2 l |-;refine ⟨l,g1,λi i0 i1=>?_⟩;have key:∀ (L:List Int),L.Nodup->(∀ v∈L,0<=v/\v<nx*ny)->L.length=(nx*ny).toNat->i∈L:=λL q1 q2 q3=>by
  rcases Decidable.em (i∈L) with h | h
  ·exact h
  ·exfalso;have n1:(i::L).Nodup:=wXv.2 ⟨h,q1⟩;have sub:(i::L) ⊆ upto (nx*ny).toNat:=λv hv=>by
    have hv2:0<=v/\v<nx*ny:=by
     rcases wQB.1 hv with h | h
     ·subst h; exact ⟨i0,i1⟩
     ·exact q2 v h
    unfold upto;refine wQw.2 ⟨v.toNat,wQx.2 (by omega),?_⟩
    show (v.toNat:Int)=v
    omega
   have:=List.Nodup.length_le_of_subset n1 sub;rw [wQu,q3] at this;unfold upto at this;rw [wQC,wZt] at this;omega
 exact key _ g2 g1 l
end
theorem jVO {r:Rc} (h:r.has x y=true):(r.a<=x/\x<r.c)/\r.b<=y/\y<r.d:=by
 unfold Rc.has at h;simp only [wQe,wQs,wQj] at h;omega
theorem jUR {r:Rc} (h:(r.a<=x/\x<r.c)/\r.b<=y/\y<r.d) (hv:(-1000000000<=r.a/\r.c<=1000000000) /\ -1000000000<=r.b/\r.d<=1000000000):r.has x y=true:=by
 have he:r.empty=false:=by rw [Rc.empty_iff]; omega
 unfold Rc.has;rw [he];simp; omega
def ptV (s:Scr) (x y:Int):Px:=zYo (zQi s.bits) s.ims x y s.ops
section
variable {s:Scr} (hn:Neat s)
include hn
theorem Neat.kept_value {r:Rc} (hc:s.c.has x y=true) (hr:r.has x y=true):zYo (zQi s.bits) s.ims x y (zZM s r 0 s.ops.length)=ptV s x y:=by
 obtain ⟨ok,e⟩:=zXm hn.run;have h1:okO s.bits s.ims.length (foOf s).flat []=some []:=by
  rw [<- e]; exact (zYx hn.run).2
 have h2:=jQx hn.run r (foOf s) 0 (Occ.whole s ok) (λj hj=>by omega);rw [<- zZS hn.run] at h2;have hop:∀ o∈s.ops,0<=o.opac:=hn.opac;rw [e] at hop;have key:=zGh (s:=s) hn.dim hn.ims rfl hc hr (foOf s) [] [] zQI (jQn _ [] [] ok h1).1 hop (zV1 hn.ims.full);rw [List.nil_append] at key;unfold ptV zYo;rw [h2,key,<- e]
theorem Neat.tileAt (hk:k<(zZm s).length):zG4 s (zXq s k)/\(zXq s k).a<(zXq s k).c/\(zXq s k).b<(zXq s k).d:=by
 obtain ⟨nx,ny,e1,e2,n1,n2,eN,p1,p2⟩:=hn.num;obtain ⟨l,o1,o2⟩:=hn.order eN p1 p2;have lt:(zZm s).length=(zXD s).length:=wQC ..;have k1:k<(zXD s).length:=by omega
 have eK:zXq s k=(zGr s.c s.tw s.th (zXD s)[k]).1:=by
  unfold zXq;rw [List.getElem?_eq_getElem hk];simp [zZm]
 obtain ⟨q1,q2,q3,q4⟩:=hn.rect e1 e2 n1 n2 (o1 _ (List.getElem_mem k1));rw [eK,q1];exact ⟨q4,q2,q3⟩
theorem Neat.good {r:Rc} (h:zG4 s r):zU8 s (zQi s.bits) (zZx s.ops).1 r:=by
 obtain ⟨w1,w2⟩:=hn.w;obtain ⟨h1,h2⟩:=hn.h;obtain ⟨⟨a1,a2⟩,a3,a4⟩:=hn.at_;obtain ⟨x1,x2,x3⟩:=h.x;obtain ⟨y1,y2,y3⟩:=h.y;exact jY1 hn.ctx ⟨by omega,by omega⟩ (by omega) ⟨by omega,by omega⟩ ⟨by omega,by omega⟩
theorem Neat.rend:jJS s:=by
 obtain ⟨nx,ny,e1,e2,n1,n2,eN,p1,p2⟩:=hn.num;obtain ⟨l,_,_⟩:=hn.order eN p1 p2;exact ⟨hn.chk,hn.w,hn.h,hn.at_,λk hk=>(hn.tileAt hk).1,λk hk=>hn.good (hn.tileAt hk).1,λ_=>by rw [e1]; omega,by rw [l]; omega,by have:=hn.parts.2.2.2; omega⟩
theorem Neat.part_px {r:Rc} (h:zG4 s r) (hx:r.a<=x/\x<r.c) (hy:r.b<=y/\y<r.d):pxN (jWU s r) ((y-r.b).toNat*(r.c-r.a).toNat+(x-r.a).toNat)=ptV s x y:=by
 obtain ⟨w1,w2⟩:=hn.w;obtain ⟨h1,h2⟩:=hn.h;obtain ⟨⟨a1,a2⟩,a3,a4⟩:=hn.at_;obtain ⟨x1,x2,x3⟩:=h.x;obtain ⟨y1,y2,y3⟩:=h.y;have:=jWk (r:=r) hn.ctx ⟨by omega,by omega⟩ (by omega) ⟨by omega,by omega⟩ ⟨by omega,by omega⟩ (u:=(x-r.a).toNat) (v:=(y-r.b).toNat) (by omega) (by unfold zQ1; omega);unfold jWU;rw [this,show r.a+((x-r.a).toNat:Int)=x by omega,show r.b+((y-r.b).toNat:Int)=y by omega];exact hn.kept_value (jUR ⟨⟨by omega,by omega⟩,by omega,by omega⟩ ⟨⟨by omega,by omega⟩,by omega,by omega⟩) (jUR ⟨hx,hy⟩ ⟨⟨by omega,by omega⟩,by omega,by omega⟩)
end
theorem jGN {l xs:List Px} {p:Nat} (h:i+xs.length<=l.length):pxN (jKv l i xs) p=if i<=p/\p<i+xs.length then pxN xs (p-i) else pxN l p:=by
 unfold jKv pxN;have hi:(l.take i).length=i:=by rw [wQq]; omega
 rw [List.append_assoc];by_cases h1:p<i
 ·rw [wQF (by omega),wQA,if_pos h1,if_neg (by omega)]
 ·rw [wQo (by omega),hi];by_cases h2:p-i<xs.length
  ·rw [wQF h2,if_pos (by omega)]
  ·rw [wQo (by omega),if_neg (by omega),wZd];congr 2; omega
section
variable {s:Scr} (hn:Neat s)
include hn
theorem Neat.over_px {r:Rc} (h:zG4 s r) {l:List Px} (hl:l.length=((s.c.c-s.c.a)*(s.c.d-s.c.b)).toNat) {x y:Int} (hc:s.c.has x y=true):∀ j,j<=zQ1 r ->
  pxN (zHm s r l j) ((y-s.c.b)*(s.c.c-s.c.a)+(x-s.c.a)).toNat=if (r.a<=x/\x<r.c)/\r.b<=y/\y<r.b+j then ptV s x y else pxN l ((y-s.c.b)*(s.c.c-s.c.a)+(x-s.c.a)).toNat
 | 0,_=>by
  rw [if_neg (by omega)]; rfl
 | j+1,hj=>by
  have ih:=Neat.over_px h hl hc j (by omega);obtain ⟨⟨c1,c2⟩,c3,c4⟩:=jVO hc;have hp:=hn.good h;have lT:=zUB hn.rend h hp hl j (by omega);have lJ:=jXw hp (show j<zQ1 r by omega);obtain ⟨A,eA,A1,A2,A3,A4,A5⟩:=jQ2 hn.rend h (show j<zQ1 r by omega);obtain ⟨x1,x2,x3⟩:=h.x;obtain ⟨y1,y2,y3⟩:=h.y;obtain ⟨w1,w2⟩:=hn.w;have eI:atI s r j=(A+r.a-s.c.a).toNat:=by unfold atI; rw [eA]
  have hfit:atI s r j+(rowJ s r j).length<=(zHm s r l j).length:=by rw [lT,lJ,hl,eI]; omega
  rw [zHm,jGN hfit,lJ,eI,ih];have hN:r.b+(j:Int)<r.d:=by unfold zQ1 at hj; omega
  by_cases hy:y=r.b+j
  ·subst hy;rw [eA];by_cases hx:r.a<=x/\x<r.c
   ·rw [if_pos ⟨by omega,by omega⟩,if_pos ⟨hx,by omega,by omega⟩];have:=hn.part_px h hx (y:=r.b+j) ⟨by omega,by omega⟩;rw [<- this];have e0:(r.b+(j:Int)-r.b).toNat=j:=by omega
    rw [e0];unfold rowJ pxN;rw [wQA,if_pos (by omega),wZd];congr 2;omega
   ·rw [if_neg (by omega),if_neg (by omega),if_neg (λq=>hx q.1)]
  ·
   have hd:(y-s.c.b)*(s.c.c-s.c.a)=A+(y-(r.b+j))*(s.c.c-s.c.a):=by
    rw [<- eA,<- wZ8]; congr 1; omega
   have hout:¬ ((A+r.a-s.c.a).toNat<=((y-s.c.b)*(s.c.c-s.c.a)+(x-s.c.a)).toNat/\((y-s.c.b)*(s.c.c-s.c.a)+(x-s.c.a)).toNat<(A+r.a-s.c.a).toNat+(r.c-r.a).toNat):=by
    have g0:0<=(y-s.c.b)*(s.c.c-s.c.a):=Int.mul_nonneg (by omega) (by omega);rw [hd] at g0 |-
    rcases Int.lt_or_gt_of_ne hy with q | q
    ·have:=Int.mul_le_mul_of_nonneg_right (show y-(r.b+j) <= -1 by omega) (show 0<=s.c.c-s.c.a by omega);omega
    ·have:=Int.mul_le_mul_of_nonneg_right (show 1<=y-(r.b+j) by omega) (show 0<=s.c.c-s.c.a by omega);omega
   rw [if_neg hout];have:((r.a<=x/\x<r.c)/\r.b<=y/\y<r.b+((j+1:Nat):Int))↔((r.a<=x/\x<r.c)/\r.b<=y/\y<r.b+(j:Int)):=by omega
   simp only [this]
theorem Neat.all_px {x y:Int} (hc:s.c.has x y=true):∀ k,k<=(zZm s).length->(∃ i,i<k/\(zXq s i).has x y=true)->pxN (allP s k) ((y-s.c.b)*(s.c.c-s.c.a)+(x-s.c.a)).toNat=ptV s x y
 | 0,_,⟨i,hi,_⟩=>by omega
 | k+1,hk,⟨i,hi,hh⟩=>by
  have lk:=zU1 hn.rend k (by omega);have t:=(hn.tileAt (show k<(zZm s).length by omega)).1;rw [allP,hn.over_px t lk hc (zQ1 (zXq s k)) (Nat.le_refl _)];have eN:((zQ1 (zXq s k):Nat):Int)=(zXq s k).d-(zXq s k).b:=by
   have:=t.y;unfold zQ1; omega
  split
  ·rfl
  ·rename_i hno;refine Neat.all_px hc k (by omega) ⟨i,?_,hh⟩
   rcases wQp i k with q | q
   ·exact q
   ·have:i=k:=by omega
    subst this;have:=jVO hh;exact absurd ⟨this.1,by omega,by omega⟩ hno
theorem Neat.image_px (hc:s.c.has x y=true):(zWX s).at_ (x-s.c.a) (y-s.c.b)=ptV s x y:=by
 obtain ⟨nx,ny,e1,e2,n1,n2,eN,p1,p2⟩:=hn.num;obtain ⟨l,o1,o2⟩:=hn.order eN p1 p2;obtain ⟨⟨c1,c2⟩,c3,c4⟩:=jVO hc;obtain ⟨t1,t2,_,_⟩:=hn.sides;obtain ⟨w1,w2⟩:=hn.w;obtain ⟨h1,h2⟩:=hn.h;have lA:=zU1 hn.rend _ (Nat.le_refl _);have m1:(s.c.c-s.c.a)*(s.c.d-s.c.b)<=1000*1000:=wQv (by omega) (by omega) (by omega) (by omega);have m0:0<=(s.c.c-s.c.a)*(s.c.d-s.c.b):=Int.mul_nonneg (by omega) (by omega);have ok:ofOk (s.c.c-s.c.a) (s.c.d-s.c.b) (allP s (zZm s).length).length=true:=by
  unfold ofOk zZs;rw [lA];simp only [wQe,wQj];refine ⟨⟨⟨by omega,by omega⟩,by omega⟩,by omega⟩
 unfold zWX;rw [yQE ok ⟨by omega,by omega⟩ ⟨by omega,by omega⟩];refine hn.all_px hc _ (Nat.le_refl _) ?_;obtain ⟨u1,u2,u3⟩:=jU8 (a:=x-s.c.a) (w:=s.tw) (by omega) (by omega);obtain ⟨v1,v2,v3⟩:=jU8 (a:=y-s.c.b) (w:=s.th) (by omega) (by omega);generalize (x-s.c.a) / s.tw=u at *;generalize (y-s.c.b) / s.th=v at *;have un:u<nx:=by
  rcases wZ9 u nx with q | q
  ·exact q
  ·have:=Int.mul_le_mul_of_nonneg_right q (show 0<=s.tw by omega); omega
 have vn:v<ny:=by
  rcases wZ9 v ny with q | q
  ·exact q
  ·have:=Int.mul_le_mul_of_nonneg_right q (show 0<=s.th by omega); omega
 have b0:0<=v*nx:=Int.mul_nonneg v1 (by omega);have b1:(v+1)*nx<=ny*nx:=Int.mul_le_mul_of_nonneg_right (by omega) (by omega);rw [wZ8,wZu,wQy ny] at b1;have hi:0<=v*nx+u/\v*nx+u<nx*ny:=⟨by omega,by omega⟩
 have hm:=o2 _ hi.1 hi.2;obtain ⟨k,hk,ek⟩:=wYk hm;have lt:(zZm s).length=(zXD s).length:=wQC ..;have k2:k<(zZm s).length:=by omega
 have eK:zXq s k=(zGr s.c s.tw s.th (v*nx+u)).1:=by
  unfold zXq;rw [List.getElem?_eq_getElem k2];simp [zZm,ek]
 refine ⟨k,k2,?_⟩;have tk:=(hn.rect e1 e2 n1 n2 hi).2.2.2;obtain ⟨⟨a1,a2⟩,a3,a4⟩:=hn.at_;have tx:=tk.x;have ty:=tk.y;rw [eK,(hn.rect e1 e2 n1 n2 hi).1];have d1:(v*nx+u)%nx=u:=by rw [wXA,wYF]; exact Int.emod_eq_of_lt u1 un
 have d2:(v*nx+u) / nx=v:=by rw [wXA,wYm _ _ (by omega),wXX u1 un]; omega
 have r0:zKe s nx (v*nx+u)=⟨s.c.a+u*s.tw,s.c.b+v*s.th,min (s.c.a+u*s.tw+s.tw) s.c.c,min (s.c.b+v*s.th+s.th) s.c.d⟩:=by unfold zKe; rw [d1,d2]
 refine jUR ?_ ⟨⟨by show _<=(zKe s nx (v*nx+u)).a; omega,by show (zKe s nx (v*nx+u)).c<=_; omega⟩,by show _<=(zKe s nx (v*nx+u)).b; omega,by show (zKe s nx (v*nx+u)).d<=_; omega⟩
 show ((zKe s nx (v*nx+u)).a<=x/\x<(zKe s nx (v*nx+u)).c)/\(zKe s nx (v*nx+u)).b<=y/\y<(zKe s nx (v*nx+u)).d
 rw [r0];simp only;omega
end
section
attribute [local irreducible] Ans AnsO AnsG AnsN AnsI
def awT:Scr:=⟨8,⟨0,0,3,2⟩,2,1,[],[zZl 1 1 ⟨200,0,0,255,255⟩],[⟨1,0,2,1,0,0,0,255,4,1,false,false⟩]⟩
theorem jYi:Neat awT where
  chk:=by decide +kernel
  ims:=⟨by decide,λi hi x y=>by
    have hi:i=zZl 1 1 ⟨200,0,0,255,255⟩:=wQk.1 hi;subst hi;unfold Im.at_;have e:(zZl 1 1 ⟨200,0,0,255,255⟩).px x y=⟨200,0,0,255,255⟩:=rfl;rw [e];split
    · exact ⟨by decide,by unfold Px.nn; decide⟩
    · exact ⟨by decide,by unfold Px.nn; decide⟩⟩
  dim:=λi hi=>by
    have hi:i=zZl 1 1 ⟨200,0,0,255,255⟩:=wQk.1 hi;subst hi;decide
  opac:=λo ho=>by
    have ho:o=⟨1,0,2,1,0,0,0,255,4,1,false,false⟩:=wQk.1 ho;subst ho;decide
  w:=by decide
  h:=by decide
  at_:=by decide
theorem yQX:ptV awT 2 1=⟨200,0,0,255,255⟩:=by decide +kernel
theorem jHy:ptV awT 1 1=.zero:=by decide +kernel
def yQH:Gam:=yQJ.add [.p 10 (λv=>some (RV.d (dQ true)))]
def zYE:Ann:=jA (Ann.cut (Inv.mk Unit (λ(d:Unit)=>True) (λ(c:Unit)=>lY (dU 1 1 2 2 []) 1 (aCT 200 (oW 0 255 (bJ 255 []))) 2 (aER awT.bits awT.c.a awT.c.b awT.c.c awT.c.d awT.tw awT.th [Cl.ref 7000 (List.length awT.ord),Cl.ref 7001 (List.length awT.ims),Cl.ref 7002 (aAS awT)]) (kA 7000 3 1 (is awT.ord) (xK 7001 43 28 (eO awT) 7002 61 12 (jJ awT)))) (λ(b:Unit)=>(0:Nat))) Ann.leaf (λ(a:Unit)=>Ann.leaf))
theorem zVu:vcg prog yQH 35 (zG2 Tryz.f10) (zYE ) kn0 (start []) (post prog Tryz.f10.results.toList (·=RV.d (DV.bool true))) =
 (let a:=zWX ⟨awT.bits,awT.c,awT.tw,awT.th,ints (is awT.ord),zQF (eO awT),zQo (jJ awT)⟩;let b:=Im.at_ a 1 1;let e:=imR a;let c:=Im.at_ a 2 1;let d:=awT.c;kX (True/\aH (∃ g:Unit,True/\cF (bW True) (eS (bQ 200 0 0 255 255)) (aZ 8 awT.bits/\cO d.a/\aCI (cO d.b) (aZ 3 d.c) (aZ 2 d.d) (aZ 2 awT.tw) (aZ 1 awT.th) (pO 0 awT.ord) (1=aGR awT) (qS 1 awT.ops)) (([]:List DV)=is awT.ord) (nM 1 1 true 200 0 0 255 255 0 0 0 0 [] (dA 0 0 0 0 [] 0 0 0 0 [] (dA 0 0 0 0 [] 0 0 0 0 [] []))=eO awT) (eF 1 0 2 1 0 0 0 (eV 255 4 1 false false [])=jJ awT))) (∀ f:Unit,lM (gI (oT 8 (eF awT.bits d.a d.b d.c d.d awT.tw awT.th [kO awT,kP awT,iM awT]) (RV.tup (e::yF (yF [])))) (oU (aHC (bK 0) (gI (Ans prog 13 (e::iF 2 1) (aLI a 2 1)) (aHC (wM (c.a==200) (bK c.b) (bK c.c) (c.al==255) (c.f==255)) (gI (Ans prog 13 [e,RV.d (aB 1),RV.d (aB 1)] (aLI a 1 1)) (cT (bE (wM (bK b.a) (bK b.b) (bK b.c) (bK b.al) (bK b.f)) true))) (True/\eS true/\bE false true))) (cT (bE false true))))))):=by kernel_rfl
theorem zK7:Ans prog 10 [] (rD (dQ true)):=
 zQa (Γ:=yQH) (zYE ) zQb Tryz.func10 rfl (nL rfl) λhwf=>by
  refine Eq.mpr (zVu ) ?_;delta eS aB aE aF aH bQ bK eF eV bW cT xM pO aI gI kX aZ bF qS iF aCI sF bE oT oU sR dA aGQ nM cF cO lM yF wM eO aGR aHB kO iM kP jJ aLI aHC;simp only [sS];have eS:(⟨awT.bits,awT.c,awT.tw,awT.th,ints (is awT.ord),zQF (ims awT.ims),zQo (ops awT.ops)⟩:Scr)=awT:=zKb awT;have hu:∀ m∈awT.ims,m.isU:=λi hi=>by
   have hi:i=zZl 1 1 ⟨200,0,0,255,255⟩:=wQk.1 hi;subst hi;exact zWU _ _ _
  have a:=zKx awT hu (by decide) jYi.rend;have p1:=jYi.image_px (x:=2) (y:=1) (by decide);have p2:=jYi.image_px (x:=1) (y:=1) (by decide);rw [yQX] at p1;rw [jHy] at p2;have p1:(zWX awT).at_ 2 1=⟨200,0,0,255,255⟩:=p1;have p2:(zWX awT).at_ 1 1=.zero:=p2;have ri:(zWX awT).isU:=jXZ _ _ _;have i1:=zY7 (zWX awT) 2 1 ri;have i2:=zY7 (zWX awT) 1 1 ri;simp only [eS,p1,p2] at a i1 i2 |-;exact ⟨⟨(),⟨rfl,rfl,rfl,rfl,rfl,rfl,rfl,rfl,rfl,rfl⟩,rfl,rfl,rfl⟩,a,λ_=>⟨i1,λ_=>⟨i2,by decide⟩,λh=>absurd h (by decide)⟩,λh=>absurd h (by decide)⟩
def zJ7 (L:List Lv):Ac:=if L.length<=1 then .zero else (lvN L (L.length-2)).acc
def zQq (m:Int) (o:Oq) (p:Px) (mask:Int):Px × Bool:=if o.mask=0 then zQm p o.opac m else zXM p mask o.opac m
abbrev lC (q:Lv):List Cl:=[Cl.d (DV.int .i64 q.op.kind),Cl.d (DV.int .i64 q.op.image),Cl.d (DV.int .i64 q.op.x),Cl.d (DV.int .i64 q.op.y),Cl.d (DV.int .i64 q.op.mask),Cl.d (DV.int .i64 q.op.mx),Cl.d (DV.int .i64 q.op.my),Cl.d (DV.int .u16 q.op.opac),Cl.d (DV.int .i64 q.op.oper),Cl.d (DV.int .i64 q.op.mode),Cl.d (DV.bool q.op.iso),Cl.d (DV.bool q.op.kno),Cl.d (DV.int .u16 q.acc.a),Cl.d (DV.int .u16 q.acc.b),Cl.d (DV.int .u16 q.acc.c),Cl.d (DV.int .u16 q.acc.al),Cl.d (DV.int .u16 q.acc.own),Cl.d (DV.int .u16 q.acc.f),Cl.d (DV.int .u16 q.back.a),Cl.d (DV.int .u16 q.back.b),Cl.d (DV.int .u16 q.back.c),Cl.d (DV.int .u16 q.back.al),Cl.d (DV.int .u16 q.back.f)]
def jKN:Gam:=yQH.add [.q 180 ([false],2,1000) (λv b=>some ⟨AV.agg (lC (topL (zZF (ux b 1)))),b,false⟩),
 .q 179 ([false],2,1000) (λv b=>some ⟨aJ (((uz (uw b 0) 1):Int)-1),b,false⟩),
 .q 110 ([false],2,1000) (λv b=>some ⟨AV.agg (aC ((topL (zZF (ux b 1))).acc)),b,false⟩),
 .q 108 ([false],2,1000) (λv b=>some ⟨AV.agg (pC ((topL (zZF (ux b 1))).back)),b,false⟩),
 .q 185 ([false],2,1000) (λv b=>some ⟨AV.agg (aC (zJ7 (zZF (ux b 1)))),b,false⟩),
 .q 186 ([false,true,true,true],2,1000) (λv b=>let c:=zQq (nAt (uy (uw b 0)) 0) (vm (uv v 1)) (vg (uv v 2)) (nAt (ut v) 3);some ⟨AV.tup [AV.agg (pC (c.1)),AV.one (Cl.d (dQ c.2))],b,false⟩)]
def aEG (a:AV) (b:Int) (c:List Lv):Prop:=zZd ⟨a,[Bx.cells (bJ b (fC c)),Bx.row 270 23 (lvs c)],false⟩
theorem zZw (most:Int) (L:List Lv) (hn:1<=L.length) (hl:L.length<=66):AnsG prog 180 2 [aPz] [bC [cK (most),Cl.ref 1 L.length],bR 270 23 (lvs L)] ⟨AV.agg (lC (topL L)),[bC [cK (most),Cl.ref 1 L.length],bR 270 23 (lvs L)],false⟩:=
 wd jKN aL Tryz.func180 (let d:=topL L;let e:=d.op;let a:=bU (wS L) 1;let c:=gM a;let g:=sY c;let h:=sX c;let i:=iY c;let j:=iL a 23;let k:=iK a 23;let l:=jQ a 23;let m:=mS a 23;let f:=iJ a 23;let b:=lvs L;let n:=iK a 23;let o:=lN a 23;let p:=gT a 23;oU (True/\True/\aAN L/\True/\uA a L/\jH (bV (jW b a 23) (oF b a 23) (uZ b a 23) (eM L c) (eM L p) (eM L o) (eM L (lQ a 23)) (bD L f) (eM L f/\eM L m/\dW b n/\rK b c/\bD L k/\fP (bD L j) (bD L (gO c)) (bD L i) (bD L h/\cF (bD L g) (bD L (wT a 23)) (bD L (fE (jQ a 23))) (bD L (uC c)) (bD L (uD c)) (bD L (gO l))))) (eS true) (sW (eF (nAt b (aR a 23)) (iE b a 23) (mF b a 23) (jC b a 23) (jZ b a 23) (nQ b a 23) (qF b a 23) (eV (bO L c) (bO L p) (bO L o) (bAt b n) (bAt b (iL a 23)) (aDN (bO L f) (bO L m) (bO L (uB a 23)) (bO L l) (bO L (fE c)) (bO L k) (bO L j) [aE (bO L (gO c)),aE (bO L i),aE (bO L h),aE (bO L g)]))=aDU e d.acc d.back) most L) (aEG (AV.agg (xA d e.x e.y d.acc d.back [])) most L))) λhwf hbx=>by
  delta eS aB aR jW aE aT aF fD bU aX gL mR jK aER eF eV aLG aW mO bV zN bN gT iE jC jZ oF mF uZ kL cE cB bG bF iR fP dW nP oU bJ fN bY cF jH cM bD wS uE uA fC sW gM aAN bO fS eM rK fE gO lN lQ mS iJ iY iL iK nQ qF sY sX uB uD uC jQ wT aJD aDN aEJ aMW xA aDU aEG;simp only [sS];clear hwf hbx;have hM:=uh
  have wF:wrap .i64 ((L.length:Int)-1)=(L.length:Int)-1:=wQb _ ⟨by omega,by omega⟩;have nF:((L.length:Int)-1).toNat=L.length-1:=by omega
  have hk:L.length-1<L.length:=by omega
  have hT:L[L.length-1]=topL L:=(zYv hn).symm;have r1:=zVk (l:=L) (k:=L.length-1) hk;have r2:=zVl (l:=L) (k:=L.length-1) hk;rw [hT] at r1 r2;simp only [Nat.add_zero] at r1 r2;simp only [wF,nF,Nat.add_assoc,Nat.reduceAdd,Nat.add_zero,r1,r2,and_self,true_and,and_true];exact ⟨hM _ (by omega),⟨by omega,by omega⟩,trivial⟩
theorem zZI (most:Int) (L:List Lv) (hn:1<=L.length) (hl:L.length<=66):AnsG prog 179 2 [aPz] [bC [cK (most),Cl.ref 1 L.length],bR 270 23 (lvs L)] ⟨aJ ((((L.length:Int)-1))),[bC [cK (most),Cl.ref 1 L.length],bR 270 23 (lvs L)],false⟩:=
 wd jKN (cU sO) Tryz.func179 (bH (eS false) (aAN L/\True/\True/\sW (dZ (wS L) 1=aB (iX L)) most L/\aEG (bZ (aB (iX L))) most L)) λhwf hbx=>by
  delta eS aB aE aT bZ dZ aW bH iR bJ wS uE iX fC sW aAN aEG;simp only [sS];exact ⟨by unfold maxLen; omega,wQb _ ⟨by omega,by omega⟩,trivial⟩
def aEF (a:FuncId) (b c:Nat) (d:List AV) (e:Int) (f:List Lv) (g:List Bx) (h:wi) (i j:List Bx):Prop:=AnsG prog a b (AV.one (Cl.ptr c 0)::d) (Bx.cells (bJ e (fC f))::Bx.row 270 23 (lvs f)::g) ⟨AV.agg h,Bx.cells (bJ e (fC f))::Bx.row 270 23 (lvs f)::i,false⟩/\eS (lU (bJ e (fC f)) 270 23 (lvs f) j)
theorem zXK (most:Int) (L:List Lv) (hn:1<=L.length) (hl:L.length<=66):AnsG prog 110 2 [aPz] [bC [cK (most),Cl.ref 1 L.length],bR 270 23 (lvs L)] ⟨AV.agg (aC ((topL L).acc)),[bC [cK (most),Cl.ref 1 L.length],bR 270 23 (lvs L)],false⟩:=
 wd jKN (cU sO) Tryz.func110 (True/\aM (eS false) (aEF 180 2 0 [] most L [] (xA (topL (kM L)) (topL (kM L)).op.x (topL (kM L)).op.y (lV L) (aAU L) []) [] []/\True/\True/\sW (dH (lV L)=dH (topL L).acc) most L/\aEG (AV.agg (qE (topL L).acc)) most L)) λhwf hbx=>by
  delta eS aB aE aM aX gL mR jK aER aW iR eX dH bJ fN oW aBF qE uE lU fC sW kM aEJ lV aMW xA aAU aEG aEF;simp only [sS];have tp:=zZw most L hn hl;simp only [zXk] at tp |-;refine ⟨tp,?_,trivial⟩;simp
theorem zYK (most:Int) (L:List Lv) (hn:1<=L.length) (hl:L.length<=66):AnsG prog 108 2 [aPz] [bC [cK (most),Cl.ref 1 L.length],bR 270 23 (lvs L)] ⟨AV.agg (pC ((topL L).back)),[bC [cK (most),Cl.ref 1 L.length],bR 270 23 (lvs L)],false⟩:=
 wd jKN (cU sO) Tryz.func108 (True/\aM (eS false) (aEF 180 2 0 [] most L [] (xA (topL (kM L)) (topL (kM L)).op.x (topL (kM L)).op.y (lV L) (aAU L) []) [] []/\True/\True/\sW (rL (aAU L) (topL L).back) most L/\aEG (aDJ (topL L).back) most L)) λhwf hbx=>by
  delta eS aB aE bQ aM aX gL mR jK aER aW aI iR bJ fN cN uE lU fC sW aDJ kM rL aEJ lV aMW xA aAU aEG aEF;simp only [sS];have tp:=zZw most L hn hl;simp only [zXk] at tp |-;refine ⟨tp,?_,trivial⟩;simp
theorem zK4 (most:Int) (L:List Lv) (hn:1<=L.length) (hl:L.length<=66):AnsG prog 185 2 [aPz] [bC [cK (most),Cl.ref 1 L.length],bR 270 23 (lvs L)] ⟨AV.agg (aC (zJ7 L)),[bC [cK (most),Cl.ref 1 L.length],bR 270 23 (lvs L)],false⟩:=
 wd jKN aL Tryz.func185 (let d:=aEG (AV.agg (qE (zJ7 L))) most L;let a:=bU (wS L) 2;let e:=gM a;let b:=e+12;let c:=e+12;True/\aBR (sV 179 most L 270 [] 270 [] 270 []) (bK (iX L)) (True/\sW (zV=dH (zJ7 L)) most L/\d) (aH (bV (aAN L) True (uA a L) True (cF (bY (lvs L) b) (bY (lvs L) (b+1)) (bD L c) (bD L (b+1)) (bD L (cB c)) (bD L (cB c+1))) True (eS true) (sW (eX (aDF L a 12) (aDG L a 12) (aDH L a 12) (aDI L a 12) (kL (lvs L) (gM a) 12) (kL (lvs L) b 1)=dH (zJ7 L)) most L) d))) λhwf hbx=>by
  delta eS aB aR aE aT aF fD aH bZ bU bK aKQ aBR aX aW mO bV kL cB iR eX dH yB zV bJ fN oW aBF qE bY cF cM bD wS uE lU uA iX fC sW gM sV aDF aDG aDH aDI aAN aEG;simp only [sS];clear hwf hbx;have hM:=uh
  refine ⟨zZI most L hn hl,λh=>⟨?_,trivial⟩,λh=>?_⟩
  ·have h:(L.length:Int)-1=0:=wZk h;have e:zJ7 L=.zero:=by unfold zJ7; rw [if_pos (by omega)]
   rw [e];exact ⟨rfl,rfl,rfl,rfl,rfl,rfl⟩
  ·have h:(L.length:Int)-1≠0:=wZT.1 h;have wF:wrap .i64 ((L.length:Int)-2)=(L.length:Int)-2:=wQb _ ⟨by omega,by omega⟩;have nF:((L.length:Int)-2).toNat=L.length-2:=by omega
   have hk:L.length-2<L.length:=by omega
   have e:zJ7 L=L[L.length-2].acc:=by
    unfold zJ7 lvN;rw [if_neg (by omega),List.getElem?_eq_getElem hk]; rfl
   have r1:=zVk (l:=L) (k:=L.length-2) hk;have r2:=zVl (l:=L) (k:=L.length-2) hk;rw [e];simp only [Nat.add_zero] at r1 r2;simp only [wF,nF,Nat.add_assoc,Nat.reduceAdd,Nat.add_zero,r1,r2,and_self,true_and,and_true];exact ⟨hM _ (by omega),⟨by omega,by omega⟩,trivial⟩
def aBD (a:Int) (b:Oq) (c:Px) (d:Int) (e:List AV):AV:=AV.tup (cL (cN (zQq a b c d).fst) e)
theorem zYq (most:Int) (n:Nat) (xs:List DV) (o:Oq) (p:Px) (mask:Int):AnsG prog 186 2 [aPz,AV.agg (oC o),AV.agg (pC p),aO (cK (mask))] [bC [cK (most),Cl.ref 1 n],bR 270 23 xs] ⟨AV.tup [AV.agg (pC ((zQq most o p mask).1)),aO (cD (dQ ((zQq most o p mask).2)))],[bC [cK (most),Cl.ref 1 n],bR 270 23 xs],false⟩:=
 wd jKN aL Tryz.func186 (let b:=(zQq most o p mask).snd;let d:=zZd ⟨aBD most o p mask [mZ b],aBN (bJ most (yK n)) (aBM 270 23 xs []),false⟩;let a:=o.opac;let c:=zXM p mask a most;let e:=eY (zQq most o p mask);let f:=vU c.fst;True/\True/\True/\True/\mL o.mask 0 (aEQ (xV 64 (aI p) a most p) (qV (uE (eY (zQm p a most)=e/\kC (zQm p a most).snd b/\True) most (eS n) (eS xs)) d)) (bK o.mask=false->True/\bL (aY (xU 229 (aI p) (jM mask [rD (aE a),rD (aE most)]) f c) (qV (uE (f=e/\kC c.snd b/\True) most (eS n) (eS xs)) d)))) λhwf hbx=>by
  delta eS bI aE bQ bZ aY bK mZ aEQ aX aW aI jM bL iR kC qV mL eY xU xV bJ fN cN aDT vU uE cL aBN aBM yK aBD;simp only [sS];refine ⟨λh=>?_,λh=>?_⟩
  ·have h:o.mask=0:=wZk h;have e:zQq most o p mask=zQm p o.opac most:=by unfold zQq; rw [if_pos h]
   rw [e];exact ⟨zXE p o.opac most,⟨⟨rfl,rfl,rfl,rfl,rfl⟩,rfl⟩,trivial⟩
  ·have h:o.mask≠0:=wZT.1 h;have e:zQq most o p mask=zXM p mask o.opac most:=by unfold zQq; rw [if_neg h]
   rw [e];exact ⟨zWF p mask o.opac most,⟨⟨rfl,rfl,rfl,rfl,rfl⟩,rfl⟩,trivial⟩
def zJX (m:Int) (L:List Lv) (o:Oq) (p:Px):Lv:=⟨(topL L).op,zY9 (topL L).op.kno o.oper o.mode m p (topL L).acc (topL L).back,(topL L).back⟩
def jWu:Gam:=jKN.add [.q 187 ([false,false,true,true],2,1000) (λv b=>let c:=nAt (uy (uw b 0)) 0;let e:=zZF (ux b 1);let f:=vm (uv v 2);let g:=vg (uv v 3);some ⟨AV.tup [AV.agg (lC (zJX c e f g)),AV.one (Cl.d (dQ (zZc c e f g)))],b,false⟩),
 .q 114 ([false,true,true,true],1,1) (λv b=>let e:=nAt (uy (uw b 0)) 0;let g:=vm (uv v 1);let c:=zQq e g (vg (uv v 2)) (nAt (ut v) 3);let f:=zQB e (zZF (ux b 1)) g c.1;some ⟨AV.tup [AV.agg (pC (c.1)),aJ 0],[bC [cK e,Cl.ref 1 f.length],Bx.row 270 23 (lvs f)],false⟩),
 .q 107 ([false,true],1,1) (λv b=>let c:=zZ2 (zZF (ux b 1)) (vm (uv v 1));some ⟨aJ 0,[bC [cK (nAt (uy (uw b 0)) 0),Cl.ref 1 c.length],Bx.row 270 23 (lvs c)],false⟩),
 .q 113 ([false,true],1,1) (λv b=>let f:=nAt (uy (uw b 0)) 0;let h:=zZF (ux b 1);let e:=topL h;let c:=zQq f e.op (resE e.acc e.back f) (nAt (ut v) 1);let g:=zQB f h.dropLast e.op c.1;some ⟨AV.tup [AV.agg (pC (c.1)),aJ 0],[bC [cK f,Cl.ref 1 g.length],Bx.row 270 23 (lvs g)],false⟩),
 .q 116 ([false],2,1000) (λv b=>let c:=topL (zZF (ux b 1));some ⟨AV.tup [AV.agg (pC (resE c.acc c.back (nAt (uy (uw b 0)) 0))),aJ 0],b,false⟩)]
theorem zYC (most:Int) (nn:Nat) (L:List Lv) (o:Oq) (p:Px) (hn:1<=L.length) (hl:L.length<=66) (h1:isNm o.oper=true) (h2:isNm o.mode=true):AnsG prog 187 2 [aPz,aO (Cl.ref 1 L.length),AV.agg (oC o),AV.agg (pC p)] [bC [cK (most),Cl.ref 1 nn],bR 270 23 (lvs L)] ⟨AV.tup [AV.agg (lC (zJX most L o p)),aO (cD (dQ (zZc most L o p)))],[bC [cK (most),Cl.ref 1 nn],bR 270 23 (lvs L)],false⟩:=
 wd jWu aL Tryz.func187 (let e:=zJX most L o p;let g:=e.op;let a:=bU (wS L) 1;let c:=gM a;let n:=sY c;let h:=bO L n;let q:=sX c;let i:=bO L q;let r:=iY c;let j:=bO L r;let k:=bO L (gO c);let s:=iL a 23;let l:=bO L s;let t:=(⟨l,k,j,i,h⟩:Px);let u:=iK a 23;let v:=bO L u;let w:=bO L (fE c);let x:=jQ a 23;let y:=bO L x;let z:=bO L (uB a 23);let A:=mS a 23;let B:=bO L A;let m:=iJ a 23;let C:=bO L m;let D:=(⟨C,B,z,y,w,v⟩:Ac);let b:=lvs L;let f:=bAt b (iL a 23);let E:=zZn f o.oper o.mode most p D t;let d:=zY9 f o.oper o.mode most p D t;let F:=iK a 23;let G:=lN a 23;let H:=gT a 23;jO (aAN L) (cR (uA a L) (aJC b a 23 (bV (eM L c) (eM L H) (eM L G) (eM L (lQ a 23)) (bD L m) (eM L m) (eM L A) (dW b F) (bV (rK b c) (bD L u) (bD L s) (bD L (gO c)) (bD L r) (bD L q) (bD L n) (bD L (wT a 23)) (aF (bD L (fE (jQ a 23))) (bD L (uC c)) (bD L (uD c)) (bD L (gO x)))))) (kJ (aN (aDM 230 f (rD (aB o.oper)::tT o.mode most (rA (aI p)::yI (eX C B z y w v) (bQ l k j i h))) (rT [rA (dH d),rD (DV.bool E)])) (bH (eS true) (aAO (eF (nAt b (aR a 23)) (iE b a 23) (mF b a 23) (jC b a 23) (jZ b a 23) (nQ b a 23) (qF b a 23) (eV (bO L c) (bO L H) (bO L G) (bAt b F) f (aDN d.a d.b d.c d.al d.own d.f l [aE k,aE j,aE i,aE h]))=aDU g e.acc e.back) (kC E (zZc most L o p)) most (eS nn) (eS (lvs L)) (AV.tup (cL (xA e g.x g.y e.acc e.back []) [mZ (zZc most L o p)])) (yK nn) 270 L [])))))) λhwf hbx=>by
  delta eS aB aR jW aE aT aF fD aH bQ bZ aM bU mZ aX gL mR jK aER aN eF eV cR aLG aW mO aI bV zN bN bH gT iE jC jZ oF mF uZ kL cE cB bG iR fP dW kC kJ tT eX dH nP bJ fN jO bY mP cM bD wS uE uA gM aAN cL aAO bO fS eM rK fE gO lN lQ mS iJ iY iL iK nQ qF sY sX uB uD uC jQ wT aJC aJD yI aDM aDN yK aEJ aMW xA aDU;simp only [sS];clear hwf hbx;have hM:=uh
  have wF:wrap .i64 ((L.length:Int)-1)=(L.length:Int)-1:=wQb _ ⟨by omega,by omega⟩;have nF:((L.length:Int)-1).toNat=L.length-1:=by omega
  have hk:L.length-1<L.length:=by omega
  have hT:L[L.length-1]=topL L:=(zYv hn).symm;have r1:=zVk (l:=L) (k:=L.length-1) hk;have r2:=zVl (l:=L) (k:=L.length-1) hk;rw [hT] at r1 r2;simp only [Nat.add_zero] at r1 r2;simp only [wF,nF,Nat.add_assoc,Nat.reduceAdd,Nat.add_zero,r1,r2,and_self,true_and,and_true];have S:=zWL (topL L).op.kno o.oper o.mode most p (topL L).acc (topL L).back h1 h2;refine ⟨hM _ (by omega),⟨by omega,by omega⟩,S,?_,trivial⟩
  repeat' (first | exact rfl | apply And.intro)
theorem zVt (most:Int) (L:List Lv) (o:Oq) (p:Px) (mask:Int) (hn:1<=L.length) (hl:L.length<=66) (h1:isNm o.oper=true) (h2:isNm o.mode=true) (hd:o.kind=1/\p.ok most=true/\zQH most=true/\(zQq most o p mask).2=true/\zZc most L o (zQq most o p mask).1=true):AnsG prog 114 1 [aPz,AV.agg (oC o),AV.agg (pC p),aO (cK (mask))] [bC [cK (most),Cl.ref 1 L.length],bR 270 23 (lvs L)] ⟨AV.tup [AV.agg (pC ((zQq most o p mask).1)),aJ ((0))],[bC [cK (most),Cl.ref 1 (((zQB most L o (zQq most o p mask).1)).length)],bR 270 23 (lvs (zQB most L o (zQq most o p mask).1))],false⟩:=
 wd jWu aL Tryz.func114 (let h:=(zQq most o p mask).fst;let i:=zQB most L o h;let j:=eY (zQq most o p mask);let k:=dV=j;let b:=aJO k (aZ 20 0) most L i (aBD most o p mask yJ) 270;let c:=zQB most L o h;let d:=(zQq most o p mask).fst;let a:=zJX most (kM L) o d;let f:=a.op;let l:=gM (bU (wS L) 1);let m:=zZc most (kM L) o d;let n:=eS (lU (bJ most (fC L)) 270 23 (lvs L) []);let e:=aBN (bJ most (fC L)) [bR 270 23 (lvs L)];let q:=aO (Cl.ptr 0 0);let g:=(zQq most o p mask).snd;True/\True/\True/\True/\jF (eS false) (tW o.kind 1) (True/\True/\True/\xY 117 (aI p) most p/\qV (gX (Px.ok p most)->b) (oV (Px.ok p most) (cQ (AnsG prog 186 2 (q::yH o p (aDR mask)) e ⟨aBD most o p mask [mZ g],e,false⟩/\n) (fQ (gX g) b (oV g (aAL (AnsG prog 187 2 (q::aO (Cl.ref 1 (List.length L))::yH o d []) e ⟨AV.tup (cL (xA a f.x f.y a.acc a.back []) [mZ (zZc most (kM L) o d)]),e,false⟩/\n) (eS true/\True/\True/\(gX m->aJO k (aZ 16 0) most L i (aBD most o p mask yJ) 270)/\oV m (jO (aAN L) (True/\uA (bU (wS L) 1) L/\jB (l+23) (lvs L)/\eS true/\aAO (eS j) jD most (nX L c) (sets (lvs L) l (aDU f a.acc a.back)=lvs c) (aBD most o p mask yJ) (fC c) 270 c []))))))))) (bP ((o.kind !=1)=(!false)) (eS true) b) (sJ false false (cT b))) λhwf hbx=>by
  delta eS aB aR bI aE aT bQ bZ aM aY bU cQ mZ aX gL mR jK aER aBK eF eV dL cT aLG aW mO jB bP fQ aI jM dV aZ iR jD qV gX gC jF sJ oV nP eY bJ fN cN xY jO tW mP aAL wS uE lU uA fC gM aAN cL nX aAO pE kM yH aJO aJD aBN aDN yJ aEJ aMW xA aDU aDR aBD;simp only [sS];clear hwf hbx;obtain ⟨d1,d2,d3,d4,d5⟩:=hd;have k0:(o.kind !=1)=true->False:=λh=>by rw [d1] at h; cases h
  simp only [zXk];have V:=zQr p.a p.b p.c p.al p.f most;have S:=zYq most L.length (lvs L) o p mask;have PN:=zYC most L.length L o (zQq most o p mask).1 hn hl h1 h2;have eT:zJX most L o (zQq most o p mask).1=⟨(topL L).op,accS (topL L).op.kno o.oper o.mode most (zQq most o p mask).1 (topL L).acc (topL L).back,(topL L).back⟩:=by
   have d6:zZn (topL L).op.kno o.oper o.mode most (zQq most o p mask).1 (topL L).acc (topL L).back=true:=d5;unfold zJX zY9;rw [if_pos d6]
  have e1:zQB most L o (zQq most o p mask).1=L.set (L.length-1) (zJX most L o (zQq most o p mask).1):=by
   rw [eT]; unfold zQB; rw [if_pos d5]
  have wF:wrap .i64 ((L.length:Int)-1)=(L.length:Int)-1:=wQb _ ⟨by omega,by omega⟩;have nF:((L.length:Int)-1).toNat=L.length-1:=by omega
  rw [wF,nF,e1];generalize zJX most L o (zQq most o p mask).1=u at *;have fl:=jQO (f:=Lv.cells) (m:=23) (λ_=>rfl) (show L.length-1<L.length by omega) u;refine ⟨⟨λ_=>⟨V,λh=>(by rw [d2] at h; cases h),λ_=>⟨S,λh=>(by rw [d4] at h; cases h),λ_=>⟨PN,λh=>(by rw [d5] at h; cases h),λ_=>⟨by unfold maxLen; omega,⟨by omega,by omega⟩,by rw [zXo]; omega,⟨by rw [wQ7],fl⟩,trivial⟩⟩⟩⟩,λh=>(k0 h).elim⟩,λh=>absurd h (by decide)⟩
theorem zVs (most:Int) (L:List Lv) (o:Oq) (hn:1<=L.length) (hl:L.length<=66) (hk:o.kind=2/\L.length<65):AnsG prog 107 1 [aPz,AV.agg (oC o)] [bC [cK (most),Cl.ref 1 L.length],bR 270 23 (lvs L)] ⟨aJ ((0)),[bC [cK (most),Cl.ref 1 (((zZ2 L o)).length)],bR 270 23 (lvs (zZ2 L o))],false⟩:=
 wd jWu aL Tryz.func107 (let a:=aEG (bZ (aB 0)) most (zZ2 L o);let c:=aLF (aZ 20 0) most L o;let b:=(topL (kM L)).op;let d:=b.kno;let e:=zQM o.iso d (lV L) (aAU L);let f:=e.snd;let g:=e.fst;let h:=aDU o g f;kX (eS false->cV (True/\True/\True/\bP (rG o.kind 2) c a/\((o.kind !=2)=false->True/\sV 179 most L 270 [] 270 [] 270 []/\True/\bP (fI (iX L) 64) (aLF (aZ 17 0) most L o) a/\(uI (iX L) 64->aY (aEF 180 2 0 [] most L [] (xA (topL (kM L)) b.x b.y (lV L) (aAU L) []) [] []) (bF (bF (aBQ (aDM 181 o.iso (rD (DV.bool d)::yI (dH (lV L)) (aI (aAU L))) (tR (dH g) (aI f))) (True/\aH (zXe 23 112 (List.length L) 1 (lvs L) h/\True/\True/\True/\eS true/\True/\uE jD most (List.length L+1=List.length (zZ2 L o)) (lvs L++h=lvs (zZ2 L o))/\a))))))))) (mE false (True/\c/\a))) λhwf hbx=>by
  delta eS aB aE aH bQ bZ aY aBQ aX gL mR jK aER eF eV aLG aW mE bP aI cV kX aZ bF iR jD fI uI eX dH tR nP bJ fN rG wS uE lU iX fC sV nX pE kM aJD yI aDM aLF aDN aEJ lV aMW xA aAU aDU aEG aEF;simp only [sS];clear hwf hbx;have D:=zZI most L hn hl;have T:=zZw most L hn hl;simp only [zXk] at T |-;have B:=zVS o.iso (topL L).op.kno (topL L).acc (topL L).back;have e:zZ2 L o=L++[⟨o,(zQM o.iso (topL L).op.kno (topL L).acc (topL L).back).1,(zQM o.iso (topL L).op.kno (topL L).acc (topL L).back).2⟩]:=by unfold zZ2; rw [if_pos hk]
  have k0:((o.kind !=2)=true)->False:=λh=>by rw [hk.1] at h; cases h
  refine ⟨⟨λh=>(k0 h).elim,λ_=>⟨D,λh=>absurd h (by omega),λ_=>⟨T,B,?_⟩⟩⟩,?_⟩
  ·refine ⟨⟨zXo _,rfl,by unfold maxLen; omega,by omega⟩,⟨by rw [e,wQh]; rfl,?_⟩,trivial⟩;rw [e,<- zWm];simp [lvs,Lv.cells,Oq.cells,Ac.ds,Px.ds]
  ·exact λh=>absurd h (by decide)
def aHD (a:List Lv) (b:Int):Px:=resE (topL a).acc (topL a).back b
def aMV (a:FuncId) (b c:Nat) (d:List AV) (e:Int) (f:wi) (g h:Nat) (i:List DV) (j:List Bx) (k:AV):Prop:=AnsG prog a b (AV.one (Cl.ptr c 0)::d) (Bx.cells (bJ e f)::Bx.row g h i::j) ⟨k,Bx.cells (bJ e f)::Bx.row g h i::j,false⟩
theorem zVV (most:Int) (L:List Lv) (mask:Int) (hn:1<=L.length) (hl:L.length<=66) (h2:2<=L.length) (hq:((topL L).op.mask≠0->mask<=most)/\(topL L).op.opac<=most/\isNm (topL L).op.oper=true/\isNm (topL L).op.mode=true/\(topL L).acc.ok (topL L).back most=true/\(zQq most (topL L).op (resE (topL L).acc (topL L).back most) mask).2=true/\zZc most L.dropLast (topL L).op (zQq most (topL L).op (resE (topL L).acc (topL L).back most) mask).1=true):AnsG prog 113 1 [aPz,aO (cK (mask))] [bC [cK (most),Cl.ref 1 L.length],bR 270 23 (lvs L)] ⟨AV.tup [AV.agg (pC ((zQq most (topL L).op (resE (topL L).acc (topL L).back most) mask).1)),aJ ((0))],[bC [cK (most),Cl.ref 1 (((zQB most L.dropLast (topL L).op (zQq most (topL L).op (resE (topL L).acc (topL L).back most) mask).1)).length)],bR 270 23 (lvs (zQB most L.dropLast (topL L).op (zQq most (topL L).op (resE (topL L).acc (topL L).back most) mask).1))],false⟩:=
 wd jWu (cU sO) Tryz.func113 (let m:=aHD L most;let f:=(topL L).op;let z:=(zQq most f m mask).fst;let c:=zQB most (List.dropLast L) f z;let A:=fC c;let q:=aBD most f m mask yJ;let r:=lvs c;let d:=resE (lV L) (topL (kM L)).back most;let a:=(topL (kM L)).op;let g:=bU (wS L) 1;let b:=pN g 23 (lvs L);let h:=zZF b;let i:=zJX most h a d;let B:=i.back;let C:=i.acc;let s:=i.op;let n:=Int.toNat g;let t:=aR (dT n) 23;let D:=n=List.length c;let u:=eY (zQq most f m mask);let E:=aI d;let F:=jB (t+23) b;let G:=uX (dT n) g;let H:=Int.toNat g<=maxLen;let I:=zZc most h a d;let v:=dV=u;let o:=aAO v (aZ 16 0) most (nX L c) (b=r) q (fC c) 270 c [];let w:=eS (lU (bJ most (fC L)) 270 23 b []);let j:=i.op;let J:=aO (Cl.ref 1 n);let p:=Ac.ok (lV L) (aAU L) most;let e:=(zQq most a d mask).fst;let k:=zJX most h a e;let K:=k.back;let M:=k.acc;let x:=k.op;let O:=zQq most a d mask;let P:=zZc most h a e;let l:=k.op;let Q:=fN e.a e.b e.c e.al (bJ e.f []);let y:=O.snd;let R:=a.opac;let S:=aBD most f m mask yJ;let T:=zQB most (List.dropLast L) f z;let U:=aJO v (aZ 20 0) most L T S 270;let V:=fZ (qV (jY R most->U) (iO R most (bL (True/\aAN L/\True/\(0<=g/\g<=wS L)/\dL (eS true) (cQ (aDL 109 (dH (lV L)) (aAE (aAU L) most) E (lV L) (aAU L) most) (True/\eS true/\True/\uW p (bF (aN (aMV 186 2 0 (yH a d (aDR mask)) most (fC L) 270 23 b [] (AV.tup (cL Q [mZ y]))/\w) (True/\True/\True/\True/\(gX y->o)/\oV y (bH (aMV 187 2 0 (J::cL (aBK a []) (cL Q [])) most (fC L) 270 23 b [] (AV.tup (cL (aX (aB l.kind) (aB l.image) (jK x.x x.y l.mask l.mx (mR l.my (aMW k M K [])))) [mZ (zZc most h a e)]))/\w) (True/\fQ (gX P) o (cS (!P) H (True/\True/\G/\F/\fZ (aAO (eY O=u) jD most D (sets b t (aDU x M K)=r) q A 270 c []))))))))/\cS p (gX p->o) (oV p (True/\True/\True/\(aMV 187 2 0 (J::yH a d []) most (fC L) 270 23 b [] (AV.tup (cL (jK j.kind j.image s.x s.y (mR j.mask (aX (aB j.mx) (aB j.my) (aMW i C B [])))) [mZ (zZc most h a d)]))/\w)/\fZ (fQ (gX I) o (gC I->aM H (zD G F (aAO (E=u) jD most D (sets b t (aDU s C B)=r) q A 270 c []))))))))))));let W:=dX (topL (kM L)).op.mask;oG (eS false) (tH (sV 179 most L 270 [] 270 [] 270 []) ((iX L==0)=true) (aJO v (aZ 18 0) most L T S 270) (bK (iX L)=false->True/\gI (aEF 180 2 0 [] most L [] (xA (topL (kM L)) a.x a.y (lV L) (aAU L) []) [] []) (bF (True/\True/\True/\(W=true->True/\True/\True/\True/\True/\bI (fL mask most) V (bP (decide (mask>most)=(!false)) (eS true) U))/\lB W true V))))) λhwf hbx=>by
  delta eS aB aR bI dY aE aT bQ bZ aM aY bU cQ bK mZ aX gL mR jK aER aBK aN eF eV dL aLG uW zD aW mO iO jB bP fQ uX pN jY aI fL gI tH cS bH jM dV oG fZ aZ bF bL iR dT jD qV dX lB gX gC eX dH oV nP eY bJ fN cN aAE mP wS uE lU iX fC sV aAN cL nX aAO pE kM yH aJO aDL aJD aDN yJ aEJ lV aMW xA aAU aDU aDR aEF aBD aHD aMV;simp only [sS];clear hwf hbx;obtain ⟨q1,q2,q3,q4,q5,q6,q7⟩:=hq;have D:=zZI most L hn hl;have T:=zZw most L hn hl;have wF:wrap .i64 ((L.length:Int)-1)=(L.length:Int)-1:=wQb _ ⟨by omega,by omega⟩;have nF:((L.length:Int)-1).toNat=L.length-1:=by omega
  have tk:List.take ((L.length-1)*23) (lvs L)=lvs L.dropLast:=by
   rcases wZn L with rfl | ⟨P,t,rfl⟩
   ·rfl
   ·rw [wZo,wQN,<- zWm];exact wZQ (by rw [zXo]; simp)
  have ld:L.dropLast.length=L.length-1:=wZV;simp only [wF,nF,tk,zXk];have R:=zYg (topL L).acc (topL L).back most;have S:=zYq most L.length (lvs L.dropLast) (topL L).op (resE (topL L).acc (topL L).back most) mask;have PN:=zYC most L.length L.dropLast (topL L).op (zQq most (topL L).op (resE (topL L).acc (topL L).back most) mask).1 (by omega) (by omega) q3 q4;generalize hQ:zQq most (topL L).op (resE (topL L).acc (topL L).back most) mask=Q at *;have eT:zJX most L.dropLast (topL L).op Q.1=⟨(topL L.dropLast).op,accS (topL L.dropLast).op.kno (topL L).op.oper (topL L).op.mode most Q.1 (topL L.dropLast).acc (topL L.dropLast).back,(topL L.dropLast).back⟩:=by
   have d6:zZn (topL L.dropLast).op.kno (topL L).op.oper (topL L).op.mode most Q.1 (topL L.dropLast).acc (topL L.dropLast).back=true:=q7;unfold zJX zY9;rw [if_pos d6]
  have e1:zQB most L.dropLast (topL L).op Q.1=L.dropLast.set (L.dropLast.length-1) (zJX most L.dropLast (topL L).op Q.1):=by
   rw [eT]; unfold zQB; rw [if_pos q7]
  have wG:wrap .i64 (((L.length-1:Nat):Int)-1)=((L.length-1:Nat):Int)-1:=wQb _ ⟨by omega,by omega⟩;have nG:(((L.length-1:Nat):Int)-1).toNat=L.dropLast.length-1:=by omega
  have fl:=jQO (f:=Lv.cells) (m:=23) (λ_=>rfl) (show L.dropLast.length-1<L.dropLast.length by omega) (zJX most L.dropLast (topL L).op Q.1);rw [ld] at PN;simp only [wG,nG];have hz:((L.length:Int)-1==0)=false:=wZT.2 (by omega);have n1:¬ ((topL L).op.opac>most):=by omega
  have len1:L.length-1=(zQB most L.dropLast (topL L).op Q.1).length:=by rw [e1,wQ7,ld]
  rw [<- e1] at fl;have row1:(L.dropLast.length-1)*23+23<=(lvs L.dropLast).length:=by rw [zXo]; omega
  have hm:L.length<=maxLen:=by unfold maxLen; omega
  have hm2:L.length-1<=maxLen:=by omega
  have in1:(0:Int)<=(L.length:Int)-1/\(L.length:Int)-1<=(L.length:Int):=⟨by omega,by omega⟩
  have in2:(0:Int)<=((L.length-1:Nat):Int)-1/\((L.length-1:Nat):Int)-1<((L.length-1:Nat):Int):=⟨by omega,by omega⟩
  by_cases hk:(topL L).op.mask=0
  ·have b0:((topL L).op.mask !=0)=false:=by simp [hk]
   simp only [hz,b0,n1,q5,q6,q7,wZf,Bool.true_eq_false,wX6,wX5,wYz,wQX,true_and,and_true,and_self] at R S PN |-;exact ⟨D,T,hm,in1,R,S,PN,hm2,in2,row1,⟨len1,fl⟩,trivial⟩
  ·have b0:((topL L).op.mask !=0)=true:=by simp [hk]
   have n2:¬ (mask>most):=by have:=q1 hk; omega
   simp only [hz,b0,n1,n2,q5,q6,q7,wZf,Bool.true_eq_false,wX6,wX5,wYz,wQX,true_and,and_true,and_self] at R S PN |-;exact ⟨D,T,hm,in1,R,S,PN,hm2,in2,row1,⟨len1,fl⟩,trivial⟩
theorem zKI (most:Int) (L:List Lv) (hn:L.length=1):AnsG prog 116 2 [aPz] [bC [cK (most),Cl.ref 1 L.length],bR 270 23 (lvs L)] ⟨AV.tup [AV.agg (pC (resE (topL L).acc (topL L).back most)),aJ ((0))],[bC [cK (most),Cl.ref 1 L.length],bR 270 23 (lvs L)],false⟩:=
 wd jWu (cU sO) Tryz.func116 (let a:=AV.tup (cL (cN (aHD L most)) yJ);let b:=aI (resE (lV L) (topL (kM L)).back most);let c:=aEF 180 2 0 [] most L [] (xA (topL (kM L)) (topL (kM L)).op.x (topL (kM L)).op.y (lV L) (aAU L) []) [] [];oG (eS false) (tH (sV 179 most L 270 [] 270 [] 270 []) (sZ (iX L)) (aLH (dV=aAB (aHD L most)) (aZ 18 0) most L a 270 []) (dX (iX L)=false->True/\gI c (True/\c/\True/\True/\True/\True/\True/\aN (aDL 109 (dH (lV L)) (aAE (aAU L) most) b (lV L) (aAU L) most) (cT (aLH (b=aAB (aHD L most)) jD most L a 270 [])))))) λhwf hbx=>by
  delta eS aB aE bQ bZ aX gL mR jK aER aN cT aW aI gI tH jM dV oG aZ iR jD dX eX dH nP aFY aAB bJ fN cN aAE mP wS uE lU iX fC sV cL aAO kM aDL aLH yJ aEJ lV aMW xA aAU sZ aEF aHD;simp only [sS];clear hwf hbx;have D:=zZI most L (by omega) (by omega);have T:=zZw most L (by omega) (by omega);simp only [zXk] at T |-;have R:=zYg (topL L).acc (topL L).back most;refine ⟨D,λh=>?_,λ_=>?_⟩
  ·rw [hn] at h; exact absurd h (by decide)
  ·exact ⟨T,T,R,by simp [zZd]⟩
def zJ6 (L:List Lv) (o:Oq):Px:=if o.kind≠3 then (topL L).acc.col else (zJ7 L).col
def vv (l:List DV):Mc:=⟨nAt l 0,nAt l 1,⟨nAt l 2,nAt l 3,nAt l 4,nAt l 5,nAt l 6⟩,⟨nAt l 7,nAt l 8,nAt l 9,nAt l 10,nAt l 11⟩,nAt l 12,⟨nAt l 13,nAt l 14,nAt l 15,nAt l 16,nAt l 17⟩⟩
def jKM:Gam:=jWu.add [.p 227 (λv=>some (RV.tup [rJ ((nAt (uq v) 0)-(nAt (uq v) 1)),RV.d (dQ true)])),
 .p 178 (λv=>let a:=(zXg (zQF (cAt (ur v 0) 8)) (nAt (uq v) 1) (nAt (uq v) 2) (nAt (uq v) 3) (nAt (uq v) 4) (nAt (uq v) 5));some (RV.agg (pD a))),
 .p 106 gZ41,
 .p 115 gZ42,
 .q 112 ([false,true],2,1000) (λv b=>some ⟨AV.agg (pC (zJ6 (zZF (ux b 1)) (vm (uv v 1)))),b,false⟩),
 .q 63 ([true,false],1,1) (λv b=>let c:=(zKp (ux b 1))++[(vv (uv v 0))];some ⟨AV.tup [],[bC [Cl.ref 1 c.length],Bx.row 79 18 (mcs c)],false⟩)]
theorem zVI (a b:Int) (h1 : -2147483648<=a/\a<=2147483648) (h2 : -2147483648<=b/\b<=2147483648):Ans prog 227 [rJ (a),rJ (b)] (rT [rJ ((a-b)),rD (dQ true)]):=
 wc jKM aL Tryz.func227 (let c:=lG (aB (a-b));aCB (fQ ((xP a==xP b)=false) (aH (rT [rD (dZ a b),rD (DV.bool (xP (bU a b)==xP a))]=c)) (mE (xP a==xP b) (fR (lG (dZ a b)) c)))) λhwf=>by
  delta eS aB aT aH bU dZ mE fQ aCB fR lG xP;simp only [sS];clear hwf;have w:wrap .i64 (a-b)=a-b:=wQb _ ⟨by omega,by omega⟩;rw [w];refine ⟨λh=>⟨rfl,?_⟩,λ_=>rfl⟩;by_cases ha:a>=0<;>by_cases hb:b>=0<;>simp [ha,hb] at h |-<;>omega
theorem jYY (s:Scr) (i x y dx dy:Int) (hu:∀ m∈s.ims,m.isU) (hx : -1073741824<=x/\x<=1073741824) (hy : -1073741824<=y/\y<=1073741824) (hdx : -1073741824<=dx/\dx<=1073741824) (hdy : -1073741824<=dy/\dy<=1073741824):Ans prog 178 [rA (sD s),rJ (i),rJ (x),rJ (y),rJ (dx),rJ (dy)] (rA (pD (zXg s.ims i x y dx dy))):=
 wc jKM aL Tryz.func178 (let l:=zXg s.ims i x y dx dy;let m:=qN dV l;let k:=True/\m;let g:=y-dy;let h:=x-dx;let f:=wT i 28;let a:=aR i 28;let e:=gO a;let c:=jQ i 28;let d:=bG (aR i 28);let j:=lN i 28;let b:=eO s;let n:=bAt b j;let o:=nAt (eO s) (aR i 28);let p:=kK o (iE (eO s) i 28) n (jC b i 28) (jZ b i 28) (nQ b i 28) (qF b i 28) (aP s a) (jU s (gT i 28) j (lQ i 28) a) (jU s (iJ i 28) (mS i 28) (uB i 28) d) (jU s (fE a) (iK i 28) (iL i 28) c) (jU s (iY a) (sX a) (sY a) e) (jU s (fE (jQ i 28)) (uC a) (uD a) f);True/\True/\cQ (uU 227 x (aB dx) (lG (aB h))) (cQ (uU 227 y (aB dy) (lG (aB g))) (eH (kR i) (aCZ i (aFC s.ims) (fQ (gC true) (bI (gX true) m (gW true (True/\True/\mX i (aGR s) 28 b/\fP (jW b i 28) (oF b i 28) (dW b j) (jR s (gT i 28)/\mT b a/\jR s (lQ i 28)/\jR s d/\jR s (iJ i 28)/\fP (gP s a) (rM s (mS i 28)) (rM s (uB i 28)) (gS s a/\gP s d/\jS s a/\jT s a/\gS s d/\bV (gP s c) (jS s d) (jT s d) (gS s c) (gP s e) (jS s c) (jT s c) (gS s e) (aF (gP s f) (jS s e) (jT s e) (gS s f))))/\aM (kV 215 (nM o (iE (eO s) i 28) n (jC b i 28) (jZ b i 28) (nQ b i 28) (qF b i 28) (aP s a) (aP s (gT i 28)) (aP s j) (aP s (lQ i 28)) (gQ s a) (gR s a) (dA (aP s (iJ i 28)) (aP s (mS i 28)) (aP s (uB i 28)) (gQ s d) (gR s d) (aP s (fE a)) (aP s (iK i 28)) (aP s (iL i 28)) (gQ s c) (gR s c) (dA (aP s (iY a)) (aP s (sX a)) (aP s (sY a)) (gQ s e) (gR s e) (aP s (fE c)) (aP s (uC a)) (aP s (uD a)) (gQ s f) (gR s f) []))) (iF h g) (Im.at_ p h g)) (qN (aI (Im.at_ p h g)) l)))) (hZ true k)) (lB (decide (i>=aFC s.ims)) false k)) (aEO i (True/\True/\True/\True/\k))))) λhwf=>by
  delta eS aB aR bI mY mX iG jW kR aEO aE aF fD bQ aM cQ uU nD fQ aI bV qN zN bN kD dV gT iE jC jZ oF kV aFC kL cE cB bG qR fP dW iF lB gW lG eH gX gC hZ aCZ sR dA kK aGQ nM bY cM fS fE gO lN lQ mS iJ iY iL iK nQ qF sY sX uB uD uC jQ wT aP rM eO mT gP gQ gR jR jT jS jU aGR gS;simp only [sS];have ime:∀ m:Im,(⟨m.w,m.h,m.so,⟨m.c.a,m.c.b,m.c.c,m.c.al,m.c.f⟩,⟨m.p0.w,m.p0.h,m.p0.s,m.p0.n,m.p0.xs⟩,⟨m.p1.w,m.p1.h,m.p1.s,m.p1.n,m.p1.xs⟩,⟨m.p2.w,m.p2.h,m.p2.s,m.p2.n,m.p2.xs⟩,⟨m.p3.w,m.p3.h,m.p3.s,m.p3.n,m.p3.xs⟩,⟨m.p4.w,m.p4.h,m.p4.s,m.p4.n,m.p4.xs⟩⟩:Im)=m:=λ_=>rfl;clear hwf;have m1:=zVI x dx (by omega) (by omega);have m2:=zVI y dy (by omega) (by omega);have Z:¬ (0<=i/\i<s.ims.length)->0=(zXg s.ims i x y dx dy).a/\0=(zXg s.ims i x y dx dy).b/\0=(zXg s.ims i x y dx dy).c/\0=(zXg s.ims i x y dx dy).al/\0=(zXg s.ims i x y dx dy).f:=λh=>by rw [zGB h]; exact ⟨rfl,rfl,rfl,rfl,rfl⟩
  refine ⟨m1,m2,?_⟩;by_cases hi:0<=i/\i<s.ims.length
  ·have k1:i.toNat<s.ims.length:=by omega
   have q1:=zGW k1;have IA:=jQC s.ims[i.toNat] (x-dx) (y-dy) (hu _ (List.getElem_mem k1));have e:s.ims[i.toNat].at_ (x-dx) (y-dy)=zXg s.ims i x y dx dy:=by
    rw [jQE hi.1 k1];unfold zJL;split
    ·exact at_out (by omega)
    ·rfl
   rw [e] at IA;simp only [zGX k1,q1,and_self,true_and,ime,e];exact ⟨λ_=>⟨λ_=>⟨⟨λh=>absurd h (by decide),⟨hi.1,hi.2,by rw [zYT]; omega⟩,IA,trivial⟩,λh=>absurd h (by decide)⟩,λh=>absurd h (by omega)⟩,λh=>absurd h (by omega)⟩
  ·exact ⟨λ_=>⟨λ_=>absurd ⟨by omega,by omega⟩ hi,λ_=>Z hi⟩,λ_=>Z hi⟩
theorem zHl (s:Scr) (o:Oq) (x y:Int) (hu:∀ m∈s.ims,m.isU) (hx : -1073741824<=x/\x<=1073741824) (hy : -1073741824<=y/\y<=1073741824) (ho:zZX o.x=true/\zZX o.y=true/\zZX o.mx=true/\zZX o.my=true) (hm:o.mask<=1000000000):Ans prog 106 [rA (sD s),rA (oD o),rJ (x),rJ (y)] (rT [rA (pD (srcS s.ims o x y)),rD (dK (zQJ s.ims o x y))]):=
 wc jKM aL Tryz.func106 (let b:=rN (aI (srcS s.ims o x y)) (zQJ s.ims o x y);let a:=o.mask;let c:=zXg (zQF (eO s)) (bU a 1) x y o.mx o.my;let d:=c.al;let e:=pA s [kO s,kP s,iM s];let f:=kV 178 e (rD (dZ a 1)::rD (aB x)::rD (aB y)::iF o.mx o.my) c;let g:=zXg (zQF (eO s)) o.image x y o.x o.y;let h:=aI g;True/\True/\True/\True/\True/\True/\True/\((o.kind==1)=true->True/\bL (aM (kV 178 e (rD (aB o.image)::rD (aB x)::rD (aB y)::iF o.x o.y) g) (iH a 0 (aH (dL f (rN h d=b))) (fL a 0->True/\True/\True/\True/\rN h 0=b))))/\((o.kind==1)=false->iH a 0 (aH (dL f (rN dV d=b))) (fL a 0->True/\True/\True/\True/\rN dV 0=b))) λhwf=>by
  delta eS aB aE aT aH bQ aM aY bU dZ eF dL iH aI fL kD jM dV kV bL iF eO rN aHB kO iM kP pA;simp only [sS];clear hwf;simp only [zQS];obtain ⟨o1,o2,o3,o4⟩:=ho;have nb:∀ z,zZX z=true -> -1073741824<=z/\z<=1073741824:=λz h=>by unfold zZX at h; simp at h; omega
  have S1:o.kind=1->zXg s.ims o.image x y o.x o.y=srcS s.ims o x y:=λh=>by unfold srcS; rw [if_pos h]
  have S0:¬ o.kind=1->srcS s.ims o x y=.zero:=λh=>by unfold srcS; rw [if_neg h]
  have wm:o.mask>0->wrap .i64 (o.mask-1)=o.mask-1:=λh=>wQb _ ⟨by omega,by omega⟩;have M1:o.mask>0->(zXg s.ims (o.mask-1) x y o.mx o.my).al=zQJ s.ims o x y:=λh=>by unfold zQJ; rw [if_pos (by omega)]
  have M0:¬ o.mask>0->0=zQJ s.ims o x y:=λh=>by unfold zQJ; rw [if_neg (by omega)]
  have A:=λi=>jYY s i x y;have a1:=A o.image o.x o.y hu hx hy (nb _ o1) (nb _ o2);have a2:=A (o.mask-1) o.mx o.my hu hx hy (nb _ o3) (nb _ o4);refine ⟨λh=>?_,λh=>?_⟩
  ·have h:o.kind=1:=by simpa using h
   rw [S1 h] at a1 |-;exact ⟨a1,λhm=>by rw [wm hm]; exact ⟨a2,⟨rfl,rfl,rfl,rfl,rfl⟩,M1 hm⟩,λhm=>⟨⟨rfl,rfl,rfl,rfl,rfl⟩,M0 hm⟩⟩
  ·have h:¬ o.kind=1:=by simpa using h
   rw [S0 h];exact ⟨λhm=>by rw [wm hm]; exact ⟨a2,⟨rfl,rfl,rfl,rfl,rfl⟩,M1 hm⟩,λhm=>⟨⟨rfl,rfl,rfl,rfl,rfl⟩,M0 hm⟩⟩
theorem zYP (x:Ac):Ans prog 115 [rA (aD x)] (rA (pD (Ac.col x))):=
 wc jKM aL Tryz.func115 (aCB (qN (bQ x.a x.b x.c x.al x.f) (Ac.col x))) λhwf=>by
  delta eS aE aH bQ nD aI qN aCB;simp only [sS];exact ⟨rfl,rfl,rfl,rfl,rfl⟩
theorem jQb (most:Int) (L:List Lv) (o:Oq) (hn:1<=L.length) (hl:L.length<=66):AnsG prog 112 2 [aPz,AV.agg (oC o)] [bC [cK (most),Cl.ref 1 L.length],bR 270 23 (lvs L)] ⟨AV.agg (pC (zJ6 L o)),[bC [cK (most),Cl.ref 1 L.length],bR 270 23 (lvs L)],false⟩:=
 wd jKM aL Tryz.func112 (let b:=aEG (aDJ (zJ6 L o)) most L;let a:=zJ7 (kM L);let c:=Ac.col a;True/\True/\gV (o.kind !=3) (aEF 110 2 0 [] most L [] (qE (lV L)) [] []/\kV 115 (dH (lV L)) [] (Ac.col (lV L))/\True/\sW (rL (Ac.col (lV L)) (zJ6 L o)) most L/\b) (aEF 185 2 0 [] most L [] (qE a) [] []/\kV 115 (dH a) [] c/\True/\sW (rL c (zJ6 L o)) most L/\b)) λhwf hbx=>by
  delta eS aE bQ aX aW aI kD kV iR gV eX dH bJ fN oW cN aBF qE uE lU fC sW aDJ kM rL lV aEG aEF;simp only [sS];clear hwf hbx;have A:=zXK most L hn hl;have B:=zK4 most L hn hl;have e1:o.kind≠3->zJ6 L o=(topL L).acc.col:=λh=>by unfold zJ6; rw [if_pos h]
  have e2:o.kind=3->zJ6 L o=(zJ7 L).col:=λh=>by unfold zJ6; rw [if_neg (λq=>q h)]
  simp only [zXk] at A B |-;refine ⟨λh=>?_,λh=>?_⟩
  ·have h:o.kind≠3:=by simpa using h
   rw [e1 h];exact ⟨A,zYP _,⟨rfl,rfl,rfl,rfl,rfl⟩,trivial⟩
  ·have h:o.kind=3:=by simpa using h
   rw [e2 h];exact ⟨B,zYP _,⟨rfl,rfl,rfl,rfl,rfl⟩,trivial⟩
def aHO (d:Mc):List DV:=aB d.at_::aB d.kind::aDT d.inp.a d.inp.b d.inp (yL d.inp.f d.back.a d.back.b d.back.c d.back.al d.back.f d.k d.out)
def aLV (a:AV) (b:wi) (c:List DV):Ret:=⟨a,[Bx.cells b,Bx.row 79 18 c],false⟩
abbrev mC (q:Mc):List Cl:=[Cl.d (DV.int .i64 q.at_),Cl.d (DV.int .i64 q.kind),Cl.d (DV.int .u16 q.inp.a),Cl.d (DV.int .u16 q.inp.b),Cl.d (DV.int .u16 q.inp.c),Cl.d (DV.int .u16 q.inp.al),Cl.d (DV.int .u16 q.inp.f),Cl.d (DV.int .u16 q.back.a),Cl.d (DV.int .u16 q.back.b),Cl.d (DV.int .u16 q.back.c),Cl.d (DV.int .u16 q.back.al),Cl.d (DV.int .u16 q.back.f),Cl.d (DV.int .u16 q.k),Cl.d (DV.int .u16 q.out.a),Cl.d (DV.int .u16 q.out.b),Cl.d (DV.int .u16 q.out.c),Cl.d (DV.int .u16 q.out.al),Cl.d (DV.int .u16 q.out.f)]
theorem zXV (l:List Mc) (t:Mc) (hl:l.length<=100000):AnsG prog 63 1 [AV.agg (mC t),aPz] [bC [Cl.ref 1 l.length],bR 79 18 (mcs l)] ⟨AV.tup [],[bC [Cl.ref 1 (((l++[t])).length)],bR 79 18 (mcs (l++[t]))],false⟩:=
 wd jKM aL Tryz.func63 (let a:=l++[t];bF (True/\aAT l (mcs l) (aHO t)/\True/\aW (True/\True) (aDS l a/\True) (mcs l++aHO t=mcs a)/\zZd (aLV (AV.tup []) [fO 1 a] (mcs a)))) λhwf hbx=>by
  delta eS aB aE aW bF aDT aJD fO aLK yL aDS aAT aHO aLV;simp only [sS];clear hwf hbx;refine ⟨⟨zZL _,rfl,by unfold maxLen; omega,by omega⟩,⟨by simp,?_⟩,trivial⟩;rw [<- zKF]; simp [mcs,Mc.cells,Px.ds]
def facL (l:List Mc) (t:Mc) (kind:Int) (p:Px) (k m:Int):List Mc:=l++[⟨t.at_,kind,p,.zero,k,(zQm p k m).1⟩]
theorem jHl (l:List Mc) (t:Mc) (kind:Int) (p:Px) (k m:Int):(facL l t kind p k m).length=l.length+1:=by simp [facL]
theorem jGB (l:List Mc) (t:Mc) (o:Oq) (mask m:Int):zX1 (l++[t]) t.at_ o t.out mask m=if o.mask≠0 then (facL (facL (l++[t]) t 2 t.out mask m) t 3 (zQm t.out mask m).1 o.opac m,(zQm (zQm t.out mask m).1 o.opac m).1) else (facL (l++[t]) t 3 t.out o.opac m,(zQm t.out o.opac m).1):=by
 unfold zX1 facL; rfl
def yQG:Gam:=jKM.add [.q 184 ([true,true,false,false,false,false],5,1) (λv b=>let e:=nAt (uy (uw b 1)) 0;let f:=vg (uy (uw b 0));let g:=nAt (ut v) 1;let c:=facL (zKp (ux b 5)) (vv (uy (uw b 3))) (nAt (ut v) 0) f g e;some ⟨AV.tup [],[bC (pC ((zQm f g e).1)),bC [cK e],bC [Cl.clo 63 [Cap.ptr 4 0]],bC (uw b 3),bC [Cl.ref 5 c.length],Bx.row 79 18 (mcs c)],false⟩),
 .q 111 ([true,true,true,true,false],1,1) (λv b=>let e:=vv (uv v 1);let c:=zX1 ((zKp (ux b 1))++[e]) e.at_ (vm (uv v 0)) e.out (nAt (ut v) 2) (nAt (ut v) 3);some ⟨AV.agg (pC (c.2)),[bC [Cl.ref 1 c.1.length],Bx.row 79 18 (mcs c.1)],false⟩)]
def aHM (d:Mc) (e f g h i:Int) (j:wi):wi:=aX (aB d.at_) (aB d.kind) (fN e f g h (fN i d.back.a d.back.b d.back.c j))
def aHP (a:FuncId) (b:Nat) (c:List AV) (d:wi) (e f:Nat) (g:List DV) (h:List Bx) (i:AV) (j:wi) (k:List DV):Prop:=AnsG prog a b c (Bx.cells d::Bx.row e f g::h) (aLV i j k)
def aEL (a b:List Mc):Prop:=aGW a b/\True
def aJV (a b:wi) (c:List Bx):List Bx:=Bx.cells a::Bx.cells b::c
theorem zW0 (kind k:Int) (p:Px) (most:Int) (t:Mc) (l:List Mc) (hl:l.length<=100000):AnsG prog 184 5 [aJ ((kind)),aO (cK (k)),aPz,aO (Cl.ptr 1 0),aO (Cl.ptr 2 0),aO (Cl.ptr 3 0)] [bC (pC p),bC [cK (most)],bC [Cl.clo 63 [Cap.ptr 4 0]],bC (mC t),bC [Cl.ref 5 l.length],bR 79 18 (mcs l)] ⟨AV.tup [],[bC (pC ((zQm p k most).1)),bC [cK (most)],bC [Cl.clo 63 [Cap.ptr 4 0]],bC (mC t),bC [Cl.ref 5 (((facL l t kind p k most)).length)],bR 79 18 (mcs (facL l t kind p k most))],false⟩:=
 wd yQG aL Tryz.func184 (let c:=facL l t kind p k most;let e:=mcs c;let b:=t.inp;let a:=qA p k most;let d:=zKp (mcs l)++[(⟨t.at_,kind,p,⟨0,0,0,0,0⟩,k,a⟩:Mc)];let f:=mcs d;True/\True/\dL (xV 64 (aI p) k most p) (aH (aHP 63 1 (cL (gL t.at_ kind (aE p.a) (aE p.b) (fN p.c p.al p.f 0 (cP (cP (oW k a.a (fN a.b a.c a.al a.f [])))))) (rO 0 [])) [fO 1 l] 79 18 (mcs l) [] (AV.tup []) [fO 1 d] f/\True/\True/\((True/\True)/\cF (eS (eY (zQm p k most))) (eS [aE most]) ((eS (0:Nat)/\True)/\True) (eS (aHO t)) (aEL d c) (f=e))/\zZd (aHH (AV.tup []) (cN a) (bJ most []) (aJV [Cl.clo 63 [uN 4]] (aHM t b.a b.b b.c b.al b.f (bJ t.back.al (oW t.back.f t.k (cN t.out)))) (lU [fO 5 c] 79 18 e [])) false)))) λhwf hbx=>by
  delta eS aB aE aF aH bQ aY aX gL dL aI eY xU qA xV bJ fN iV cP oW cN aDT cF lU cL aJD rO fO aLK aGW yL uN aHH aHM aHO aLV aHP aEL aJV;simp only [sS];clear hwf hbx;have A:=zXE p k most;have B:=zXV l ⟨t.at_,kind,p,.zero,k,(zQm p k most).1⟩ hl;simp only [zUk];exact ⟨A,B,⟨rfl,rfl⟩,trivial⟩
theorem zGs (o:Oq) (t:Mc) (mask most:Int) (l:List Mc) (hl:l.length<=90000):AnsG prog 111 1 [AV.agg (oC o),AV.agg (mC t),aO (cK (mask)),aO (cK (most)),aO (Cl.clo 63 [Cap.ptr 0 0])] [bC [Cl.ref 1 l.length],bR 79 18 (mcs l)] ⟨AV.agg (pC ((zX1 (l++[t]) t.at_ o t.out mask most).2)),[bC [Cl.ref 1 (((zX1 (l++[t]) t.at_ o t.out mask most).1).length)],bR 79 18 (mcs (zX1 (l++[t]) t.at_ o t.out mask most).1)],false⟩:=
 wd yQG aL Tryz.func111 (let a:=t.out;let i:=zX1 (l++[t]) t.at_ o a mask most;let j:=mU i;let k:=i.fst;let r:=i.snd;let s:=zZd (aLV (aDJ r) [fO 1 k] j);let b:=o.opac;let e:=zKp (mcs l)++[t];let u:=zKp (mcs e);let m:=facL u t 3 a b most;let v:=mcs m;let w:=vU r;let c:=t.inp;let d:=aHM t c.a c.b c.c c.al c.f (aEJ t.back.al t.back.f t.k a []);let f:=[Cl.clo 63 [uN 4]];let g:=bJ most [];let h:=AV.tup [];let x:=mcs e;let y:=Bx.cells g;let z:=aBN (cN a) (y::aJV f d (lU [fO 5 e] 79 18 x []));let A:=rO 0 (rO 1 (rO 2 (rO 3 [])));let B:=gN 3 (bZ (aE o.opac)::A);let n:=qA a mask most;let p:=facL u t 2 a mask most;let q:=facL (zKp (mcs p)) t 3 n b most;let C:=mcs q;let D:=aJV f d (lU [fO 5 p] 79 18 (mcs p) []);let E:=cN n;bL (dL (aHP 63 1 (cL d (rO 0 [])) [fO 1 l] 79 18 (mcs l) [] h [fO 1 e] x) (bI (sZ o.mask) (aN (AnsG prog 184 5 (gN 2 (bZ (aE mask)::A)) z (aHH h E g D false)) (AnsG prog 184 5 B (aBN E (y::D)) (aHH h (cN (qA n b most)) g (aJV f d (lU [fO 5 q] 79 18 C [])) false)/\True/\True/\aW (rX (eY (zQm (qA a mask most) b most)=w)) (aEL q k) (C=j)/\s)) (nJ (dX o.mask) (AnsG prog 184 5 B z (aHH h (cN (qA a b most)) g (aJV f d (lU [fO 5 m] 79 18 v [])) false)/\True/\True/\aW (rX (eY (zQm a b most)=w)) (aEL m k) (v=j)/\s))))) λhwf hbx=>by
  delta eS aB bI aE bQ bZ aY aX aN dL aW aI bL nJ dX eY qA bJ fN cN aDT vU rX lU aDJ cL gN aBN rO fO mU aEJ aGW sZ uN aHH aHM aLV aHP aEL aJV;simp only [sS];clear hwf hbx;have B0:=zXV l t (by omega);have F:=λkd k p m (l:List Mc) h=>zW0 kd k p m t l h;have e:=jGB l t o mask most;simp only [zUk];have l1:(l++[t]).length=l.length+1:=by simp
  refine ⟨B0,λh=>?_,λh=>?_⟩
  ·have h:o.mask≠0:=by simpa using h
   rw [if_pos h] at e;rw [e];exact ⟨F 2 mask t.out most (l++[t]) (by omega),F 3 o.opac (zQm t.out mask most).1 most (facL (l++[t]) t 2 t.out mask most) (by rw [jHl]; omega),⟨⟨rfl,rfl,rfl,rfl,rfl⟩,rfl,rfl⟩,trivial⟩
  ·have h:¬ o.mask≠0:=by simpa using h
   rw [if_neg h] at e;rw [e];exact ⟨F 3 o.opac t.out most (l++[t]) (by omega),⟨⟨rfl,rfl,rfl,rfl,rfl⟩,rfl,rfl⟩,trivial⟩
end
end Go.Proofs.YtbnmadpcdlnleaaGreatDoor
