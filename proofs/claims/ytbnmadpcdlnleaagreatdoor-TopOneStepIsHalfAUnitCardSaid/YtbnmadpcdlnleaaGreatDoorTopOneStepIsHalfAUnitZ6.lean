/-
  Part 6 of what TopOneStepIsHalfAUnit rests on.
-/
import Derived.Test.YtbnmadpcdlnleaaGreatDoorTopOneStepIsHalfAUnitZ5
import Derived.Test.YtbnmadpcdlnleaaGreatDoorRows
import Derived.LaidMore
import Derived.Stop.Joined
import Derived.Shelf.Vars
namespace Go.Proofs.YtbnmadpcdlnleaaGreatDoor
open Go.IntKind (wrap)
open Go.RowKit
set_option linter.unusedVariables false
set_option linter.unusedSimpArgs false
set_option maxRecDepth 20000
open Go.Proofs.Tryz (prog)
section
attribute [local irreducible] Ans AnsO AnsG AnsN AnsI
def yQH:Gam:=yQI.add [.p 81 (λ| [.agg [.int _ bits,.int _ cx0,.int _ cy0,.int _ cx1,.int _ cy1,.int _ tw,.int _ th,.sl on oxs,.sl mn mxs,.sl pn pxs],.agg [.int _ ra,.int _ rb,.int _ rc_,.int _ rd]]=>some (RV.tup [RV.d (dS (zXe (⟨bits,⟨cx0,cy0,cx1,cy1⟩,tw,th,ints oxs,zQI mxs,zQl pxs⟩:Scr) ⟨ra,rb,rc_,rd⟩).1.length (bs (zXe (⟨bits,⟨cx0,cy0,cx1,cy1⟩,tw,th,ints oxs,zQI mxs,zQl pxs⟩:Scr) ⟨ra,rb,rc_,rd⟩).1)),rJ (zXe (⟨bits,⟨cx0,cy0,cx1,cy1⟩,tw,th,ints oxs,zQI mxs,zQl pxs⟩:Scr) ⟨ra,rb,rc_,rd⟩).2]) | _=>none),
 .q 37 ([false,true],1,1) (λ| [AV.one (Cl.ptr 0 0),AV.agg [Cl.d (DV.int _ ra),Cl.d (DV.int _ rb),Cl.d (DV.int _ rc_),Cl.d (DV.int _ rd)]],[Bx.cells [Cl.d (DV.int _ bits),Cl.d (DV.int _ cx0),Cl.d (DV.int _ cy0),Cl.d (DV.int _ cx1),Cl.d (DV.int _ cy1),Cl.d (DV.int _ tw),Cl.d (DV.int _ th),Cl.d (DV.sl on oxs),Cl.d (DV.sl mn mxs),Cl.d (DV.sl qn qxs),Cl.d (DV.int _ most),Cl.d (DV.sl en exs),Cl.ref 1 fn],Bx.row _ _ fxs]=>some ⟨AV.one (Cl.d (dS (zXq (⟨bits,⟨cx0,cy0,cx1,cy1⟩,tw,th,ints oxs,zQI mxs,zQl qxs⟩:Scr) most (ints exs) (⟨ra,rb,rc_,rd⟩:Rc) (zQP (⟨ra,rb,rc_,rd⟩:Rc))).length (pxs (zXq (⟨bits,⟨cx0,cy0,cx1,cy1⟩,tw,th,ints oxs,zQI mxs,zQl qxs⟩:Scr) most (ints exs) (⟨ra,rb,rc_,rd⟩:Rc) (zQP (⟨ra,rb,rc_,rd⟩:Rc)))))),[bC [cJ bits,cJ cx0,cJ cy0,cJ cx1,cJ cy1,cJ tw,cJ th,Cl.d (dS on oxs),Cl.d (dS mn mxs),Cl.d (dS qn qxs),cK most,Cl.d (dS en exs),Cl.ref 1 (zJZ (⟨bits,⟨cx0,cy0,cx1,cy1⟩,tw,th,ints oxs,zQI mxs,zQl qxs⟩:Scr) most (ints exs) (⟨ra,rb,rc_,rd⟩:Rc) (zU7 fxs) (zQP (⟨ra,rb,rc_,rd⟩:Rc))).length],Bx.row 249 14 (frs (zJZ (⟨bits,⟨cx0,cy0,cx1,cy1⟩,tw,th,ints oxs,zQI mxs,zQl qxs⟩:Scr) most (ints exs) (⟨ra,rb,rc_,rd⟩:Rc) (zU7 fxs) (zQP (⟨ra,rb,rc_,rd⟩:Rc))))],false⟩ | _,_=>none)]
abbrev qC (q:Rc):List Cl:=[Cl.d (DV.int .i64 q.a),Cl.d (DV.int .i64 q.b),Cl.d (DV.int .i64 q.c),Cl.d (DV.int .i64 q.d)]
theorem zKh (s:Scr) (most:Int) (e:List Int) (F:List Fr) (r:Rc) (hu:∀ m∈s.ims,m.isU) (hI:s.ims.length<=1000000) (hP:zUa s most e r) (hM:s.ops.length<=1000000):AnsG prog 37 1 [aPz,AV.agg (qC r)] [bC [cJ (s.bits),cJ (s.c.a),cJ (s.c.b),cJ (s.c.c),cJ (s.c.d),cJ (s.tw),cJ (s.th),cD (dS s.ord.length (is s.ord)),cD (dS s.ims.length (ims s.ims)),cD (dS s.ops.length (ops s.ops)),cK (most),cD (dS e.length (is e)),Cl.ref 1 F.length],bR 249 14 (frs F)] ⟨aO (cD (dS ((zXq s most e r (zQP r)).length) (pxs (zXq s most e r (zQP r))))),[bC [cJ (s.bits),cJ (s.c.a),cJ (s.c.b),cJ (s.c.c),cJ (s.c.d),cJ (s.tw),cJ (s.th),cD (dS s.ord.length (is s.ord)),cD (dS s.ims.length (ims s.ims)),cD (dS s.ops.length (ops s.ops)),cK (most),cD (dS e.length (is e)),Cl.ref 1 (((zJZ s most e r F (zQP r))).length)],bR 249 14 (frs (zJZ s most e r F (zQP r)))],false⟩:=
 zZc (Γ:=yQH) (let b:=zXe (qL s ⟨s.c.a,s.c.b,s.c.c,s.c.d⟩) r;oU (Ann.loop (Inv.mk Nat (λ(d:Nat)=>d<=zQP r) (λ(a:Nat)=>aAU (vL 0 0 (pO 3 3 5 (qV (List.length b.fst) (bs b.fst)) (mE 7 1007 (List.length (zXq s most e r a)) 8 (bO (r.b+(a:Int))) []))) 0 s (tC most e 1 (zJZ s most e r F a)) 3 (dY r.a r.b r.c r.d []) (rB 1007 37 5 (pxs (zXq s most e r a)) 1 249 14 (frs (zJZ s most e r F a)))) (λ(c:Nat)=>zQP r-c)) (λ(f:Nat)=>aL))) zQb Tryz.func37 rfl (nL rfl) rfl λhwf hbx=>by
  refine Eq.mpr (by kernel_rfl:_=(let b:=zQP r;let i:=zJZ s most e r F b;let o:=zXq s most e r b;let j:=aX r.c r.a;let k:=qL s s.c;let l:=zXe k r;let g:=bs l.fst;let u:=toBs g;let n:=List.length l.fst;let z:=gD n g;aV (xD (bF 81 (mL s) [cU r] (mW n g l.snd)) (pR (eS true) (∃ d:Nat,cQ (d<=b) (bN (aF (eS (0:Nat)) z (0=List.length (zXq s most e r d)) (bE r.b (r.b+(d:Int))))) (tD s most e F (zJZ s most e r F d)) (eS (oB r)) (([]:List DV)=pxs (zXq s most e r d)) (frs F=frs (zJZ s most e r F d))) (∀ a:Nat,let p:=zJZ s most e r F a;let q:=zJZ s most e r F a;let f:=r.b+(a:Int);let h:=zYB k most (ints (is e)) u r.a f j;let m:=zYA k most (ints (is e)) u r.a f j;let v:=pxs m;let w:=pxs (zXq s most e r a);let x:=List.length m;let y:=List.length (zXq s most e r a);a<=b->True/\True/\fZ (pK f r.d (aG (True/\True/\sQ 82 1 0 (zY r.a f (pJ (bO j) (qV n g) [])) [nX s most e p,jQ q] (nW (qR m) [nX s most e h,jQ h])/\zZ2 5 10 y x w v/\True/\True/\True/\True/\(∃ c:Nat,let t:=zJZ s most e r F c;cB c b (cQ (bW b c a) (bN (aF (eS (0:Nat)) z (y+x=List.length (zXq s most e r c)) (lM f (r.b+(c:Int))))) (tD s most e h t) (eS (oB r)) (w++v=pxs (zXq s most e r c)) (frs h=frs t)))))) (fV f r.d (True/\bK (aZ (jP (zXq s most e r a)=jP o)) (tD s most e q i) (frs p=frs i)/\zZu (nW (qR o) [nX s most e i,jQ (zJZ s most e r F b)])))))))) ?_;delta eS aZ aE aI bO aF aG aH aX pJ qV kD pK cS mY dY gK iQ aM bG nC iS fM bN bZ oB aW dO bK gD fO bF gX fV zP bE aV sM lB oP bW cB fZ tU cU pR aFH qA dV fG fD xR cQ aGD mL lM xD sQ sR qL mW nW zY jP tC aGL aGS jQ qR aCX nX tD;simp only [sS];clear hwf hbx;simp only [zYP];simp only [zZF,jHl];obtain ⟨hrow,hw,hh,ha1,ha2,ha3⟩:=hP;have hP:zUa s most e r:=⟨hrow,hw,hh,ha1,ha2,ha3⟩
  have wn:wrap .i64 (r.c-r.a)=r.c-r.a:=wQb _ ⟨by omega,by omega⟩;rw [wn];refine ⟨zUK s r,⟨0,Nat.zero_le _,⟨rfl,by omega⟩,rfl,rfl,rfl⟩,λk hk=>⟨λhlt=>?_,λhge=>?_⟩⟩
  ·have hkN:k<zQP r:=by unfold zQP; omega
   have hN:zQP r<=1000:=by unfold zQP; omega
   have G:=hP.row k hkN;have wk:wrap .i64 (r.b+(k:Int)+1)=r.b+((k+1:Nat):Int):=by rw [wQb _ ⟨by omega,by omega⟩]; omega
   have l1:=zJY hP k (by omega);have l2:=zJY hP (k+1) (by omega);have l3:=jQI G;have hm:(k+1)*(r.c-r.a).toNat<=1000*1000:=Nat.mul_le_mul (by omega) (by omega);have hs:(zXq s most e r (k+1))=zXq s most e r k++zYA s most e (actL s r) r.a (r.b+k) (r.c-r.a):=rfl;have hl:(zXq s most e r (k+1)).length=(zXq s most e r k).length+(zYA s most e (actL s r) r.a (r.b+k) (r.c-r.a)).length:=by rw [hs,wQi]
   refine ⟨zKI s most e (zJZ s most e r F k) r.a (r.b+k) (r.c-r.a) (actL s r) hu hI G ⟨by omega,by omega⟩ ⟨⟨by omega,by omega⟩,by omega,by omega⟩ hM,⟨zQs _,zQs _,?_,?_⟩,k+1,by omega,by omega,⟨hl.symm,wk⟩,rfl,?_,rfl⟩
   ·show (zXq s most e r k).length+(zYA s most e (actL s r) r.a (r.b+k) (r.c-r.a)).length<=_
    unfold maxLen; omega
   ·show ((zXq s most e r k).length+(zYA s most e (actL s r) r.a (r.b+k) (r.c-r.a)).length)*10<=_
    omega
   ·rw [hs,<- zYZ]; rfl
  ·have:k=zQP r:=by unfold zQP at hk |-; omega
   subst this;exact ⟨⟨⟨rfl,rfl⟩,rfl,rfl⟩,trivial⟩
def jHW:Gam:=yQH.add [.p 36 (λ| [.agg [.int _ bits,.int _ cx0,.int _ cy0,.int _ cx1,.int _ cy1,.int _ tw,.int _ th,.sl on oxs,.sl mn mxs,.sl pn pxs]]=>some (RV.d (dS (zZe (⟨bits,⟨cx0,cy0,cx1,cy1⟩,tw,th,ints oxs,zQI mxs,zQl pxs⟩:Scr)).length (rcs (zZe (⟨bits,⟨cx0,cy0,cx1,cy1⟩,tw,th,ints oxs,zQI mxs,zQl pxs⟩:Scr))))) | _=>none),
 .q 35 ([true],0,2) (λ| [AV.agg [Cl.d (DV.int _ bits),Cl.d (DV.int _ cx0),Cl.d (DV.int _ cy0),Cl.d (DV.int _ cx1),Cl.d (DV.int _ cy1),Cl.d (DV.int _ tw),Cl.d (DV.int _ th),Cl.d (DV.sl on oxs),Cl.d (DV.sl mn mxs),Cl.d (DV.sl qn qxs)]],[]=>some ⟨aPz,[bC [cJ bits,cJ cx0,cJ cy0,cJ cx1,cJ cy1,cJ tw,cJ th,Cl.d (dS on oxs),Cl.d (dS mn mxs),Cl.d (dS qn qxs),cK (zQo bits),Cl.d (dS (zZy (zQl qxs)).1.length (is (zZy (zQl qxs)).1)),Cl.ref 1 0],Bx.row 249 14 (frs [])],false⟩ | _,_=>none)]
abbrev sC (q:Scr):List Cl:=[Cl.d (DV.int .i64 q.bits),Cl.d (DV.int .i64 q.c.a),Cl.d (DV.int .i64 q.c.b),Cl.d (DV.int .i64 q.c.c),Cl.d (DV.int .i64 q.c.d),Cl.d (DV.int .i64 q.tw),Cl.d (DV.int .i64 q.th),Cl.d (DV.sl q.ord.length (is q.ord)),Cl.d (DV.sl q.ims.length (ims q.ims)),Cl.d (DV.sl q.ops.length (ops q.ops))]
theorem zGg (s:Scr) (hM:s.ops.length<=100000):AnsG prog 35 0 [AV.agg (sC s)] [] ⟨aPz,[bC [cJ (s.bits),cJ (s.c.a),cJ (s.c.b),cJ (s.c.c),cJ (s.c.d),cJ (s.tw),cJ (s.th),cD (dS s.ord.length (is s.ord)),cD (dS s.ims.length (ims s.ims)),cD (dS s.ops.length (ops s.ops)),cK ((zQo s.bits)),cD (dS ((zZy s.ops).1.length) (is (zZy s.ops).1)),Cl.ref 1 0],bR 249 14 (frs [])],false⟩:=
 zZc (Γ:=jHW) aL zQb Tryz.func35 rfl (nL rfl) rfl λhwf hbx=>by
  refine Eq.mpr (by kernel_rfl:_=(let a:=zQl (fD s);aV (jC (fC 47 s.bits (tZ s.bits)) (aG (aM (dL 77 (dO (dV s) (fD s)) (mW (List.length (mX a)) (is (mX a)) (zZy a).snd)) (dP (bK (aZ (eS (0:Nat))) (gX s.bits (oP s.c.a s.c.b (bG s.c.c) s.c.d (aGS s (aF (gD (dV s) (fD s)) (bZ (zQo s.bits)) (sR (mX a)=sR (mX s.ops)) (eS (0:Nat)))))) (([]:List DV)=frs [])) (zZu (nW (Cl.ptr 0 0) [aGL s s.c.a s.c.b s.c.c s.c.d (mY (zQo s.bits) (aFH (mX s.ops) [Cl.ref 1 0])),jQ []])))))))) ?_;delta eS aZ aE bO aF aP aG aH cS mY dY gK aM bG nC bZ aW dO bK gD dP fO gX zP aB aV oP fC aFH qA dV fG fD xR tZ dL jC sR mX mW nW aGL aGS jQ;simp only [sS];clear hwf hbx;have h:=zQw s.ops;refine ⟨zZP s.bits,zWt s.ops hM,⟨⟨by rw [h],by rw [h]⟩,rfl⟩,trivial⟩
def aEW (a:Scr):Nat:=List.length (zZe a)
theorem zGf (s:Scr) (hz:(cntS s.c s.tw s.th).2.2=true->(cntS s.c s.tw s.th).1≠0) (hT:(zXo s).length<=1000000):Ans prog 36 [rA (sD s)] (rD (dS ((zZe s).length) (rcs (zZe s)))):=
 zQa (Γ:=jHW) (let b:=zXZ (ints (is s.ord)) (aI ((cntS ⟨s.c.a,s.c.b,s.c.c,s.c.d⟩ s.tw s.th).fst*aDY s.c.a s.c.b s.c.c s.c.d s.tw s.th));dZ (eF (Ann.loop (Inv.mk Nat (λ(d:Nat)=>d<=List.length (zXo s)) (λ(a:Nat)=>qZ (yL (mE 8 1008 a 33 (Cl.ref 1030 (List.length b)) (lO 34 (List.length b) 35 a))) 1 (xN s []) (rB 1008 28 4 (rcs (List.take a (zZe s))) 1030 3 1 (is b))) (λ(c:Nat)=>List.length (zXo s)-c)) (λ(e:Nat)=>aL)))) zQb Tryz.func36 rfl (nL rfl) λhwf=>by
  refine Eq.mpr (by kernel_rfl:_=(let i:=cntS s.c s.tw s.th;let j:=i.snd.fst;let k:=i.fst;let g:=aI (k*j);let h:=zXZ (ints (is s.ord)) g;let c:=List.length h;let d:=is h;let p:=gA c;let q:=eS c;let r:=List.length (zXo s);let t:=List.length (zXo s);let u:=List.length h;aG (aM (Ans prog 78 (cU s.c::iN s.tw s.th []) (eJ k j [aAP s.c s.tw s.th])) (aG (dN (AnsG prog 79 0 (pJ (cD (sR s.ord)) (bO g) []) [] (lV (pJ (Cl.ref 0 u) (yD (zZQ (ints (is s.ord)) g)) []) [bR 3 1 d] true)) (True/\u<=maxLen/\True/\(∃ e:Nat,cB e r (aF (bN (mG (0=e) q p e)) (eS (mL s)) (([]:List DV)=rcs (List.take e (zZe s))) (eS d)))/\(∀ a:Nat,let f:=rcs (List.take a (zZe s));let l:=bT d a 1;let m:=zUt s.c s.tw s.th l;let n:=m.fst;let o:=oB n;bL (a<=t) (gY a c->gO (a:Int) c/\aZ (gM d a 1)/\aG (iK (Ans prog 80 (cU s.c::yB s.tw::iN s.th l []) (rT [cU n,aB m.snd])) (aG (aM (zZ2 4 32 a 1 f o) (∃ b:Nat,cQ (b<=t) (bW r b a) (bN (gW (a+1=b) q p a b)) (eS (mL s)) (f++o=rcs (List.take b (zZe s))) (eS d)))))) (pV a c->True/\True/\dO a f=dO (aEW s) (rcs (zZe s)))))))))) ?_;delta eS aY aZ aI bO yB aF aG aK pJ lV yD iQ aM iS fM bN dN oB nH nG dO aT gO gW bL mG iK bT gM zP eJ aB sM lB bW cB iN tU gA cU gY aAP qA dV fG fD cQ aGD mL pV sR aEW;simp only [sS];clear hwf;simp only [zZF];have e:zXZ s.ord (wrap .i64 ((cntS s.c s.tw s.th).1*(cntS s.c s.tw s.th).2.1))=zXo s:=rfl;have O:=zVM s.ord.length (is s.ord) (wrap .i64 ((cntS s.c s.tw s.th).1*(cntS s.c s.tw s.th).2.1)) ⟨by rw [zZF],by rw [zQz]⟩;rw [zZF] at O;rw [e] at O |-;have ll:(zZe s).length=(zXo s).length:=wQu ..;have hm:(zXo s).length<=maxLen:=by unfold maxLen; omega
  refine ⟨zJw s.c.a s.c.b s.c.c s.c.d s.tw s.th,O,hm,⟨0,Nat.zero_le _,⟨rfl,rfl⟩,rfl⟩,λk hk=>⟨λhlt=>?_,λhge=>?_⟩⟩
  ·have k1:k<(zXo s).length:=by omega
   have g1:=List.getElem?_eq_getElem k1;have k2:k<(zZe s).length:=by omega
   have q:(zZe s)[k]=(zUt s.c s.tw s.th (zXo s)[k]).1:=by simp [zZe]
   rw [wQo,jW3 g1];have ts:=wZf (l:=zZe s) (i:=k);rw [List.getElem?_eq_getElem k2,q] at ts;have hw:wrap .i64 ((k:Int)+1)=((k+1:Nat):Int):=by rw [wQb _ ⟨by omega,by omega⟩]; omega
   refine ⟨⟨by omega,by omega⟩,jKS g1,jZm s.c.a s.c.b s.c.c s.c.d s.tw s.th (zXo s)[k] hz,⟨by rw [zXC,wQm,wQG (by omega)],rfl,?_,?_⟩,k+1,by omega,by omega,⟨rfl,hw⟩,?_⟩
   ·unfold maxLen; omega
   ·omega
   ·rw [ts,jVt]; rfl
  ·have:k=(zXo s).length:=by omega
   subst this;rw [wQY (by omega)];exact ⟨ll.symm,rfl⟩
theorem jYm (w h:Int) (l:List Px):Ans prog 38 [RV.d (DV.int .i64 w),RV.d (DV.int .i64 h),RV.d (DV.sl l.length (pxs l))] (RV.tup [imR (imOf w h l),RV.d (DV.bool (ofOk w h l.length))]):=by
 have:=jJP w h l.length (pxs l) (jYj l);rw [zZC] at this;exact this.ans rfl rfl
end
def zXa (s:Scr) (k:Nat):Rc:=((zZe s)[k]?).getD Rc.zero
def zWE (s:Scr):Nat->List Fr
 | 0=>[]
 | k+1=>zJZ s (zQo s.bits) (zZy s.ops).1 (zXa s k) (zWE s k) (zQP (zXa s k))
def jJD (l:List Px) (i:Nat) (xs:List Px):List Px:=l.take i++xs++l.drop (i+xs.length)
def jWb (s:Scr) (r:Rc):List Px:=zXq s (zQo s.bits) (zZy s.ops).1 r (zQP r)
def atI (s:Scr) (r:Rc) (j:Nat):Nat:=((r.b+j-s.c.b)*(s.c.c-s.c.a)+r.a-s.c.a).toNat
def rowJ (s:Scr) (r:Rc) (j:Nat):List Px:=((jWb s r).drop (j*(r.c-r.a).toNat)).take (r.c-r.a).toNat
def zGi (s:Scr) (r:Rc) (l:List Px):Nat->List Px
 | 0=>l
 | j+1=>jJD (zGi s r l j) (atI s r j) (rowJ s r j)
def allP (s:Scr):Nat->List Px
 | 0=>List.replicate ((s.c.c-s.c.a)*(s.c.d-s.c.b)).toNat .zero
 | k+1=>zGi s (zXa s k) (allP s k) (zQP (zXa s k))
def zV4 (s:Scr):Im:=imOf (s.c.c-s.c.a) (s.c.d-s.c.b) (allP s (zZe s).length)
theorem jXZ (l:List Px) (k:Nat):(pxs l).drop (k*5)=pxs (l.drop k):=by
 have h1:pxs (l.take k)++(pxs l).drop (k*5)=pxs l:=by rw [<- zGq,wZy]
 have h2:pxs (l.take k)++pxs (l.drop k)=pxs l:=by rw [zYZ,wZy]
 exact wYG (h1.trans h2.symm)
theorem jWn {l xs:List Px} {i:Nat} (h:i+xs.length<=l.length):sets (pxs l) (i*5) (pxs xs)=pxs (jJD l i xs):=by
 unfold jJD;rw [zV2 _ _ _ (by rw [zQs,zQs]; omega),zGq,zQs,show i*5+xs.length*5=(i+xs.length)*5 by omega,jXZ,zYZ,zYZ]
theorem jWL {l xs:List Px} {i:Nat} (h:i+xs.length<=l.length):(jJD l i xs).length=l.length:=by
 unfold jJD;rw [wQi,wQi,wQm,wZG]; omega
structure zU1 (s:Scr) (r:Rc):Prop where
  x:s.c.a<=r.a/\r.a<=r.c/\r.c<=s.c.c
  y:s.c.b<=r.b/\r.b<=r.d/\r.d<=s.c.d
structure jYU (s:Scr):Prop where
  chk:zJv s=(0,0)
  w:1<=s.c.c-s.c.a/\s.c.c-s.c.a<=1000
  h:1<=s.c.d-s.c.b/\s.c.d-s.c.b<=1000
  at_:(-268435456<=s.c.a/\s.c.a<=268435456) /\ -268435456<=s.c.b/\s.c.b<=268435456
  tile:∀ k,k<(zZe s).length->zU1 s (zXa s k)
  part:∀ k,k<(zZe s).length->zUa s (zQo s.bits) (zZy s.ops).1 (zXa s k)
  hz:(cntS s.c s.tw s.th).2.2=true->(cntS s.c s.tw s.th).1≠0
  few:(zXo s).length<=1000000
  ops:s.ops.length<=100000
theorem zHT {s:Scr} (h:jYU s) {r:Rc} (ht:zU1 s r) {j:Nat} (hj:j<zQP r):∃ A:Int,(r.b+j-s.c.b)*(s.c.c-s.c.a)=A/\0<=A/\A+(s.c.c-s.c.a)<=(s.c.c-s.c.a)*(s.c.d-s.c.b)/\(s.c.c-s.c.a)*(s.c.d-s.c.b)<=1000000/\0<=r.b+j-s.c.b/\r.b+j-s.c.b<1000:=by
 obtain ⟨w1,w2⟩:=h.w;obtain ⟨h1,h2⟩:=h.h;obtain ⟨y1,y2,y3⟩:=ht.y;unfold zQP at hj;refine ⟨_,rfl,Int.mul_nonneg (by omega) (by omega),?_,?_,by omega,by omega⟩
 ·have:=Int.mul_le_mul_of_nonneg_left (show r.b+j-s.c.b+1<=s.c.d-s.c.b by omega) (show 0<=s.c.c-s.c.a by omega);rw [Int.mul_add,Int.mul_one,wQy] at this;exact this
 ·calc (s.c.c-s.c.a)*(s.c.d-s.c.b)<=1000*(s.c.d-s.c.b):=Int.mul_le_mul_of_nonneg_right w2 (by omega)
   _<=1000*1000:=Int.mul_le_mul_of_nonneg_left h2 (by decide)
theorem jZx {s:Scr} {r:Rc} (hp:zUa s (zQo s.bits) (zZy s.ops).1 r) {j:Nat} (hj:j<zQP r):(rowJ s r j).length=(r.c-r.a).toNat:=by
 unfold rowJ jWb;rw [wQm,wZG,zJY hp (zQP r) (Nat.le_refl _),<- Nat.sub_mul];have:1*(r.c-r.a).toNat<=(zQP r-j)*(r.c-r.a).toNat:=wQR _ (by omega);omega
theorem zWJ {s:Scr} (h:jYU s) {r:Rc} (ht:zU1 s r) (hp:zUa s (zQo s.bits) (zZy s.ops).1 r) {l:List Px} (hl:l.length=((s.c.c-s.c.a)*(s.c.d-s.c.b)).toNat):∀ j,j<=zQP r->(zGi s r l j).length=l.length
 | 0,_=>rfl
 | j+1,hj=>by
  have ih:=zWJ h ht hp hl j (by omega);obtain ⟨A,e,a1,a2,_⟩:=zHT h ht (show j<zQP r by omega);have:=ht.x;rw [zGi,jWL,ih];rw [jZx hp (by omega),ih,hl];unfold atI;rw [e]; omega
theorem zW7 {s:Scr} (h:jYU s):∀ k,k<=(zZe s).length->(allP s k).length=((s.c.c-s.c.a)*(s.c.d-s.c.b)).toNat
 | 0,_=>by simp [allP]
 | k+1,hk=>by
  have ih:=zW7 h k (by omega);rw [allP,zWJ h (h.tile k (by omega)) (h.part k (by omega)) ih _ (Nat.le_refl _),ih]
section
attribute [local irreducible] Ans AnsO AnsG AnsN AnsI
def yQG:Gam:=jHW.add [.p 34 (λ| [.agg [.int _ bits,.int _ cx0,.int _ cy0,.int _ cx1,.int _ cy1,.int _ tw,.int _ th,.sl on oxs,.sl mn mxs,.sl pn pxs]]=>some (RV.tup [rJ (zJv ⟨bits,⟨cx0,cy0,cx1,cy1⟩,tw,th,ints oxs,zQI mxs,zQl pxs⟩).1,rJ (zJv ⟨bits,⟨cx0,cy0,cx1,cy1⟩,tw,th,ints oxs,zQI mxs,zQl pxs⟩).2]) | _=>none),
 .p 38 (λ| [.d (.int _ w),.d (.int _ h),.d (.sl n xs)]=>let a:=(imOf w h (zQg xs)); some (RV.tup [RV.agg (iD a),RV.d (dQ (ofOk w h n))]) | _=>none),
 .p 8 (λ| [.agg [.int _ bits,.int _ cx0,.int _ cy0,.int _ cx1,.int _ cy1,.int _ tw,.int _ th,.sl on oxs,.sl mn mxs,.sl pn pxs]]=>some (RV.tup [RV.agg (iD (zV4 (⟨bits,⟨cx0,cy0,cx1,cy1⟩,tw,th,ints oxs,zQI mxs,zQl pxs⟩:Scr))),rJ 0,rJ 0]) | _=>none)]
theorem zJV (s:Scr) (hu:∀ m∈s.ims,m.isU) (hI:s.ims.length<=1000000) (hR:jYU s):Ans prog 8 [rA (sD s)] (rT [rA (iD (zV4 s)),rJ (0),rJ (0)]):=
  zQa (Γ:=yQG) (let c:=qL s ⟨s.c.a,s.c.b,s.c.c,s.c.d⟩;let b:=rcs (zZe c);let j:=mX s.ops;let k:=ints (is j);let d:=zQo s.bits;let t:=dY s.c.a s.c.b s.c.c s.c.d [];let l:=aEW c;let m:=aX s.c.d s.c.b;let n:=aX s.c.c s.c.a;let u:=aEX 45 (aI (n*m));dZ (dZ (eF (Ann.loop (Inv.mk Nat (λ(y:Nat)=>y<=aEW s) (λ(f:Nat)=>aHT (vL 2 2 (aBZ 7 7 8 n (sX 9 m 10 u (pO 11 1047 49 (qV l b) (lO 50 l 51 f))))) 2 false (wN (aDU (aDU []))) 7 t (aAO 45 37 5 (pxs (allP s f)) 1047 (xN s (tC d j 2047 (zWE s f))) (jU 2047 249 14 (frs (zWE s f))))) (λ(x:Nat)=>aEW s-x)) (λ(a:Nat)=>let p:=dE b a 4;let g:=eH b a 4;let q:=dT b a 4;let h:=bT b a 4;let e:=(⟨h,q,g,p⟩:Rc);let i:=zQP e;let r:=zU7 (frs (zWE s a));dZ (pE (dZ (dZ (Ann.loop (Inv.mk Nat (λ(w:Nat)=>w<=zQP (zXa s a)) (λ(o:Nat)=>aHT (vL 2 2 (aBZ 7 7 8 n (sX 9 m 10 u (gC 11 1047 13 13 (tO 14 (jP (zXq c d k e i)) 15 (aX g h) (xP 16 ((zXa s a).b+(o:Int)) 49 l b 50 51 a)))))) 2 false (wN (aDU (aDU []))) 7 t (aAO 45 37 5 (pxs (zGi s (zXa s a) (allP s a) o)) 1047 (xN s (tC d j 1057 (zJZ c d k e r i))) (oZ 13 (dY h q g p []) (jU 1057 249 14 (frs (zJZ c d k e r i)))))) (λ(v:Nat)=>zQP (zXa s a)-v)) (λ(z:Nat)=>aL)))))))))) zQb Tryz.func8 rfl (nL rfl) λhwf=>by
    refine Eq.mpr (by kernel_rfl:_=(let T:=zP (imR (zV4 s)) 0 (qY 0);let g:=s.c.b;let j:=s.c.d;let e:=aX j g;let h:=s.c.a;let k:=s.c.c;let c:=aX k h;let V:=yC c e;let i:=qL s s.c;let f:=aEW i;let b:=rcs (zZe i);let q:=mX s.ops;let z:=ints (is q);let d:=zQo s.bits;let B:=fM h g k j;let C:=rG (eC yW (bZ 0) (aFP (eC (aE 0) gN (kB (kB (kB (kB (gX 0 (aW gN True)))))))));let L:=aI (c*e);let D:=yH L;let z3:=eS (nH f);let z4:=gD f b;let z7:=bG e;let y0:=rA (DV.int IntKind.i64 s.bits::DV.int IntKind.i64 h::DV.int IntKind.i64 g::DV.int IntKind.i64 k::oS j s.tw s.th (List.length s.ord) (is s.ord) (tU (qA s) (fG s) (dV s) (fD s)));let R:=zJv i;let S:=R.fst;aV (fZ (dL 34 y0 (vX R)) (True/\True/\True/\True/\tH (fI S=true) (bX (zP (oO 0 0 false (kC 0 0 0 0 0 0 0 0 0 [] (cO 0 0 0 0 [] 0 0 0 0 [] (cO 0 0 0 0 [] 0 0 0 0 [] [])))) S (qY R.snd)) T) (hZ S) (True/\True/\True/\True/\bS (True/\True/\aH (eS true) (fZ (mF L 10) (True/\aK (AnsG prog 35 0 [AV.agg (rC s.bits h g (dY k j s.tw s.th (xR s [])))] [] (nW (Cl.ptr 0 0) [aGL s h g k j (mY d (aFH (mX (zQl (fD s))) [Cl.ref 1 0])),jQ []])) (dL 36 y0 (dO f b)/\True/\True/\(∃ w:Nat,cB w (aEW s) (cQ (bN (eS (0:Nat)/\bG c/\bG e/\D/\sP (eS (0:Nat)) f b w)) C (eS B) (xQ L oH=pxs (allP s w)) (gX s.bits (oP h g (bG k) j (aGS s (aF (gD (dV s) (fD s)) (bZ d) (sR (mX (zQl (fD s)))=sR (mX s.ops)) (0=List.length (zWE s w)))))) (frs []=frs (zWE s w))))/\(∀ a:Nat,let I:=pxs (allP s a);let U:=imR (imOf c e (zQg I));let m:=dE b a 4;let x:=eH b a 4;let n:=dT b a 4;let o:=bT b a 4;let p:=(⟨o,n,x,m⟩:Rc);let y:=zQP p;let W:=zU7 (frs (zWE s a));let J:=frs (zJZ i d z p W y);let A:=zJZ i d z p W y;let M:=(zXa s a).b;let X:=fM o n x m;let Y:=aCX s d q (eS (List.length A));let E:=zXq i d z p y;let O:=aX x o;let Z:=aCY E;let z5:=bG O;let z6:=jP E;let G:=zQP (zXa s a);bL (a<=aEW s) (gY a f->eG a f 4 b/\aF (gM b a 4) (kS b (aT a 4) 1) (fY b (aT a 4)) (tQ b a 4)/\xD (sQ 37 1 0 [AV.agg (dY o n x m [])] [nX s d q (zWE s a),jQ (zWE s a)] (nW (qR E) [nX s d q A,jQ A])) (iV (∃ H:Nat,tW (H<=G) (bP (nC c z7 D (eS (0:Nat)) (bN (eC z6 z5 (aF (bE n (M+(H:Int))) z4 z3 (gA a)))))) C B (gS (I=pxs (zGi s (zXa s a) (allP s a) H)) Y X J)) (∀ v:Nat,let K:=pxs (zGi s (zXa s a) (allP s a) v);let r:=M+(v:Int);let F:=aI (aX r n*O);let z0:=Z-F;let z1:=pN z0 5 (List.drop (aY F 5) (pxs E));let t:=aX (iL (aX r g*c) o) h;let P:=aI (t+O);let Q:=P-t;let z2:=aY t 5;let z8:=aY Q 5;let z9:=Int.toNat Q;v<=G->eZ (True/\True/\True/\pK r m (bS (xH (True/\dN (0<=t/\t<=P/\P<=(V:Int)) (aAR (0<=F/\F<=(List.length (zXq i d z p y):Int)/\Z<=Z) (jF z9 z0/\z9<=maxLen/\gL (z2+z8) K/\gL z8 z1) (iW (∃ u:Nat,cB u G (tW (bW G u v) (bP (nC c z7 D (eS (0:Nat)) (bN (eC z6 z5 (aF (lM r (M+(u:Int))) z4 z3 (gA a)))))) C B (gS (sets K z2 (pN Q 5 z1)=pxs (zGi s (zXa s a) (allP s a) u)) Y X J))))))))/\(decide (r<m)=false->True/\True/\(∃ l:Nat,rI (l<=aEW s) (bW (aEW s) l a) (bN (mI (bG c) (nC e D (eS (0:Nat)) (gD f b) (aW (gA f) (rK a l))))) C (eS B) (K=pxs (allP s l)) (tD s d q A (zWE s l)) (J=frs (zWE s l)))))))) (eX a f false (True/\True/\Ans prog 38 [rD (DV.int IntKind.i64 c),rD (DV.int IntKind.i64 e),dO V I] (rT [U,aB (ofOk c e (yC c e))])/\True/\True/\aG (zP U 0 (qY 0)=T))))))))))))) ?_;delta eS aY bY tH aE aI bO aF aG aH aK dR aX yC kD pK cS mY dY gK iQ eC aM bG nC fM bP bN bZ dN bX iV jF aW nH nG dO aT gL bL gD mG pN iW yH mF qY fO eZ kS fY bT eG gX eX dT dE eH gM tQ oH zP eJ vX iL rC aB bE aV bS oP bW cB fZ tU gA rG gN gY rI rK mI tW aAR aFH qA dV fG fD xR cQ dL oS cO kC oO lM yX yW kB aFP fI hZ xD gS xH sP sQ sR qL mX xQ nW jP tC aEW aGL aGS jQ aCY qR aCX nX tD;simp only [sS];clear hwf;simp only [zYP];have V:=zWo s hu;have chk:=hR.chk;rw [chk] at V |-;obtain ⟨w1,w2⟩:=hR.w;obtain ⟨h1,h2⟩:=hR.h;obtain ⟨⟨c1,c2⟩,c3,c4⟩:=hR.at_;have wW:wrap .i64 (s.c.c-s.c.a)=s.c.c-s.c.a:=wQb _ ⟨by omega,by omega⟩;have wH:wrap .i64 (s.c.d-s.c.b)=s.c.d-s.c.b:=wQb _ ⟨by omega,by omega⟩
    obtain ⟨PP,eP,P1,P2⟩:∃ PP:Int,(s.c.c-s.c.a)*(s.c.d-s.c.b)=PP/\0<=PP/\PP<=1000000:=⟨_,rfl,Int.mul_nonneg (by omega) (by omega),by
      calc (s.c.c-s.c.a)*(s.c.d-s.c.b)<=1000*(s.c.d-s.c.b):=Int.mul_le_mul_of_nonneg_right w2 (by omega)
        _<=1000*1000:=Int.mul_le_mul_of_nonneg_left h2 (by decide)⟩
    have wP:wrap .i64 PP=PP:=wQb _ ⟨by omega,by omega⟩;simp only [wW,wH,eP,wP,zQw,zZF,zQ5,jXB];have hmx:maxLen=9223372036854775807:=rfl;have ll:(zZe s).length<=1000000:=by unfold zZe; rw [wQu]; exact hR.few
    have z:repl PP.toNat [DV.int .u16 0,DV.int .u16 0,DV.int .u16 0,DV.int .u16 0,DV.int .u16 0]=pxs (allP s 0):=by
      unfold allP repl pxs;rw [eP,wXb,wXc]; rfl
    refine ⟨V,λh=>absurd h (by decide),λ_=>⟨⟨P1,Int.le_refl _,by omega,by omega⟩,zGg s hR.ops,zGf s hR.hz hR.few,⟨0,Nat.zero_le _,rfl,z,⟨⟨trivial,trivial⟩,rfl⟩,rfl⟩,λk hk=>⟨λhlt=>?_,λhge=>?_⟩⟩⟩
    · have k1:k<(zZe s).length:=by omega
      have rd:=zVP _ k k1;have ra:=zV6 k1;have eK:(zZe s)[k]=zXa s k:=by unfold zXa; rw [List.getElem?_eq_getElem k1]; rfl
      rw [eK] at rd ra;obtain ⟨a0,a1,a2,a3⟩:=ra;rw [a0,a1,a2,a3];have tk:=hR.tile k k1;have pk:=hR.part k k1;have lk:=zW7 hR k (by omega);have e1:allP s (k+1)=zGi s (zXa s k) (allP s k) (zQP (zXa s k)):=rfl;have e2:zWE s (k+1)=zJZ s (zQo s.bits) (zZy s.ops).1 (zXa s k) (zWE s k) (zQP (zXa s k)):=rfl;have bnd:=λj hj=>zHT hR tk (j:=j) hj;have lJ:=λj hj=>jZx pk (j:=j) hj;have lT:=zWJ hR tk pk lk;have lP:=zJY pk (zQP (zXa s k)) (Nat.le_refl _);generalize hr:zXa s k=r at *;obtain ⟨⟨x1,x2,x3⟩,y1,y2,y3⟩:=tk;have eta:(⟨r.a,r.b,r.c,r.d⟩:Rc)=r:=rfl;simp only [eta];have wn:wrap .i64 (r.c-r.a)=r.c-r.a:=wQb _ ⟨by omega,by omega⟩;have en:(((r.c-r.a).toNat:Nat):Int)=r.c-r.a:=by omega
      refine ⟨⟨by omega,by omega,by rw [zXC]; omega⟩,rd,zKh s (zQo s.bits) (zZy s.ops).1 (zWE s k) r hu hI pk (by have:=hR.ops; omega),⟨0,Nat.zero_le _,by omega,rfl⟩,λj hj=>⟨λhlt2=>?_,λhge2=>⟨k+1,by omega,by omega,?_,?_,by rw [e2],by rw [e2]⟩⟩⟩
      · have hj2:j<zQP r:=by unfold zQP; omega
        have hN:zQP r<=1000:=by unfold zQP; omega
        obtain ⟨A,eA,A1,A2,A3,A4,A5⟩:=bnd j hj2;rw [eP] at A2 A3;have wy:wrap .i64 (r.b+(j:Int)-s.c.b)=r.b+j-s.c.b:=wQb _ ⟨by omega,by omega⟩;have wA:wrap .i64 A=A:=wQb _ ⟨by omega,by omega⟩;have wA2:wrap .i64 (A+r.a)=A+r.a:=wQb _ ⟨by omega,by omega⟩;have wA3:wrap .i64 (A+r.a-s.c.a)=A+r.a-s.c.a:=wQb _ ⟨by omega,by omega⟩;have wj:wrap .i64 (r.b+(j:Int)-r.b)=(j:Int):=by rw [wQb _ ⟨by omega,by omega⟩]; omega
        have wj1:wrap .i64 (r.b+(j:Int)+1)=r.b+((j+1:Nat):Int):=by rw [wQb _ ⟨by omega,by omega⟩]; omega
        have wE:wrap .i64 (A+r.a-s.c.a+(r.c-r.a))=A+r.a-s.c.a+(r.c-r.a):=wQb _ ⟨by omega,by omega⟩;have el:(A+r.a-s.c.a+(r.c-r.a)-(A+r.a-s.c.a)).toNat=(r.c-r.a).toNat:=by omega
        obtain ⟨B,eB,B1,B2⟩:∃ B:Nat,j*(r.c-r.a).toNat=B/\B+(r.c-r.a).toNat<=zQP r*(r.c-r.a).toNat/\zQP r*(r.c-r.a).toNat<=1000000:=⟨_,rfl,by
          have:=wQR (r.c-r.a).toNat (show j+1<=zQP r by omega)
          rwa [wQn,wXz] at this,Nat.mul_le_mul hN (show (r.c-r.a).toNat<=1000 by omega)⟩
        have eB2:(j:Int)*(r.c-r.a)=(B:Int):=by rw [<- eB,wXN,en]
        have wB:wrap .i64 (B:Int)=(B:Int):=wQb _ ⟨by omega,by omega⟩;have eI:(A+r.a-s.c.a).toNat=atI s r j:=by unfold atI; rw [eA]
        have hT:=lT j hj;have hJ:=lJ j hj2;have i1:atI s r j+(r.c-r.a).toNat<=PP.toNat:=by rw [<- eI]; omega
        rw [lk,eP] at hT;rw [wy,eA,wA,wA2,wA3,wn,wj,eB2,wB,wE,el,wj1,eI];have hJ2:List.take ((r.c-r.a).toNat*5) (List.take ((((zXq s (zQo s.bits) (zZy s.ops).1 r (zQP r)).length:Int)-(B:Int)).toNat*5) (List.drop ((B:Int).toNat*5) (pxs (zXq s (zQo s.bits) (zZy s.ops).1 r (zQP r)))))=pxs (rowJ s r j):=by
          rw [wQl,jXZ,zGq,zGq];unfold rowJ jWb;rw [eB,wQY (l:=List.drop B _) (by rw [wZG]; omega)]
        have hl5:(r.c-r.a).toNat*5<=(List.take ((((zXq s (zQo s.bits) (zZy s.ops).1 r (zQP r)).length:Int)-(B:Int)).toNat*5) (List.drop ((B:Int).toNat*5) (pxs (zXq s (zQo s.bits) (zZy s.ops).1 r (zQP r))))).length:=by
          have:=congrArg List.length hJ2;rw [wQm,zQs,hJ] at this;omega
        refine ⟨⟨by omega,by omega,by omega⟩,⟨by omega,by omega,Int.le_refl _⟩,⟨by omega,by omega,by rw [zQs,hT]; omega,hl5⟩,j+1,by omega,by omega,rfl,?_⟩;rw [hJ2,jWn (by rw [hJ,hT]; exact i1)];rfl
      · rw [wQb _ ⟨by omega,by omega⟩]; omega
      · have:j=zQP r:=by unfold zQP at hj |-; omega
        rw [e1,this]
    · have:k=(zZe s).length:=by omega
      subst this;rw [zZC];have l:=zW7 hR _ (Nat.le_refl _);rw [eP] at l;rw [<- l];exact ⟨jYm _ _ _,rfl⟩
def lipT (mode:Int):Int × Int:=
 if mode=1 then (2,1) else if mode=2 then (2,2) else if mode=3 then (1,1) else if mode=4 then (2,3) else if mode=5 then (2,2) else if mode=6 then (2,2)
 else if mode=9 then (3,2) else if mode=10 then (2,6) else if mode=11 then (3,3) else (1,1)
def lipA (op mode:Int):Int:=if op=4 then (lipT mode).1 else (lipT mode).1+2
def lipB (op mode:Int):Int:=if op=4 then (lipT mode).2 else (lipT mode).2+3
def bl (e:Int):List DV:=[.int .i64 0,.int .i64 0,.int .i64 0,.int .i64 0,.int .i64 0,.int .i64 0,.int .i64 0,.int .u16 0,.int .i64 0,.int .i64 0,.bool true,.bool false,.int .i64 e,.int .i64 0]
def bl0:List DV:=bl 0
def bl1:List DV:=bl 1
def jUi:Gam:=yQG.add [.p 50 (λ| [.d (.int _ a),.d (.int _ b)]=>some (rJ (min (wK (a+b)) 1099511627776)) | _=>none),
 .p 89 (λ| [.d (.int _ a),.d (.int _ b)]=>some (rJ 0) | _=>none),
 .p 90 (λ| [.d (.int _ op),.d (.int _ mode)]=>some (RV.tup [rJ (lipA op mode),rJ (lipB op mode),RV.d (dQ true)]) | _=>none),
 .q 51 ([false,true,true],1,0) (λ| [AV.one (Cl.ptr 0 0),AV.agg [Cl.d (DV.int _ okind),Cl.d (DV.int _ oimage),Cl.d (DV.int _ ox),Cl.d (DV.int _ oy),Cl.d (DV.int _ omask),Cl.d (DV.int _ omx),Cl.d (DV.int _ omy),Cl.d (DV.int _ oopac),Cl.d (DV.int _ ooper),Cl.d (DV.int _ omode),Cl.d (DV.bool oiso),Cl.d (DV.bool okno)],AV.one (Cl.d (DV.int _ q))],[Bx.row _ _ xs]=>some ⟨AV.tup [],[Bx.row 117 14 bl1],false⟩ | _,_=>none)]
def xO (a:Int):Int:=Min.min a (1099511627776:Int)
theorem zVU (a b:Int):Ans prog 50 [rJ (a),rJ (b)] (rJ ((min (wK (a+b)) 1099511627776))):=
 zQa (Γ:=jUi) aL zQb Tryz.func50 rfl (nL rfl) λhwf=>by
  refine Eq.mpr (by kernel_rfl:_=(bS (eS (rD (DV.int IntKind.i64 (xO (aI (a+b)))))))) ?_;delta eS aI bS xO;simp only [sS]
  done
theorem zHQ (a b:Int) (hb:b=0):Ans prog 89 [rJ (a),rJ (b)] (rJ (0)):=
 zQa (Γ:=jUi) aL zQb Tryz.func89 rfl (nL rfl) λhwf=>by
  refine Eq.mpr (by kernel_rfl:_=(let e:=cA 1099511627776 0;let d:=hiW (bH a*bH b);let c:=loW (bH a*bH b);aV (eV (Ans prog 103 [bI a,bI b] (uA d c)) (True/\True/\True/\(gT d 0->fU c 1099511627776 e (nJ c 1099511627776 (aAV (aI c) (rD (DV.int IntKind.i64 0)))))/\jV (xI d) e)))) ?_;delta eS cA aI aH eV fU nJ gT aV jV aAV cE bH aR bI uA xI;simp only [sS];subst hb;have e:wrap .u64 0=0:=by decide
  have M:=zXS (wrap .u64 a) 0;simp only [e,wQ9] at M |-;exact ⟨M,λ_=>⟨λh=>absurd h (by decide),λ_=>by decide⟩,λh=>absurd h (by decide)⟩
theorem zWf (op mode:Int) (h1:isNm op=true) (h2:isNm mode=true) (h3:mode≠7/\mode≠8):Ans prog 90 [rJ (op),rJ (mode)] (rT [rJ ((lipA op mode)),rJ ((lipB op mode)),rD (dQ true)]):=
 zQa (Γ:=jUi) aL zQb Tryz.func90 rfl (nL rfl) λhwf=>by
  refine Eq.mpr (by kernel_rfl:_=(let b:=[aB true];let a:=eJ (lipA op mode) (lipB op mode) b;let c:=eJ 0 0 [aB false];let f:=c=a;let g:=aDT (zZt op) (aAZ []);let h:=aY mode 2;let d:=nAt zZf (0+h+1);let e:=nAt zZf (0+h);let i:=aW (aEL zZf (0+h)) (aEL zZf (0+h+1));let j:=pS (e==0) (d==0) true;iY (fC 165 op (oM (zZt op))) (g=false->True/\True/\True/\True/\fV mode 0 (True/\True/\True/\fK mode 13 (gO mode 13/\i/\True/\True/\True/\(j=true->True/\True/\True/\f)/\(j=false->cZ (gO mode 13) i (nN op 4 (fH (fL 2) (iX 2) (dA (eJ e d b=a))) ((op==4)=false->iK (fL 2) (aK (iX 2) (dA (eJ (aI (e+2)) (aI (d+3)) b=a)))))))/\fP (decide (mode>=13)) false (c=a))/\(lU mode->True/\True/\bX c a)) (g=(!false)->aG f))) ?_;delta eS aY mN fK cZ lU aI aG aK oF fL dA bX aW gO iX iK dC fV iY zP eJ aB fC nN pS fP aAZ oM aDT uF fH aEL;simp only [sS];have m1:1<=mode/\mode<13:=wQ2 h2;have o1:1<=op/\op<13:=wQ2 h1;have hm:mode=1\/mode=2\/mode=3\/mode=4\/mode=5\/mode=6\/mode=9\/mode=10\/mode=11\/mode=12:=by omega
  have key:zZf[0+mode.toNat*2]?=some (.int .i64 (lipT mode).1)/\zZf[0+mode.toNat*2+1]?=some (.int .i64 (lipT mode).2)/\1<=(lipT mode).1/\(lipT mode).1<=3/\1<=(lipT mode).2/\(lipT mode).2<=6:=by
   rcases hm with rfl | rfl | rfl | rfl | rfl | rfl | rfl | rfl | rfl | rfl<;>exact ⟨rfl,rfl,by decide,by decide,by decide,by decide⟩
  obtain ⟨k1,k2,b1,b2,b3,b4⟩:=key;have n1:nAt zZf (0+mode.toNat*2)=(lipT mode).1:=by unfold nAt; rw [k1]
  have n2:nAt zZf (0+mode.toNat*2+1)=(lipT mode).2:=by unfold nAt; rw [k2]
  have nz:((lipT mode).1==0&&((lipT mode).2==0&&true))=false:=by
   have:((lipT mode).1==0)=false:=by simp; omega
   rw [this]; rfl
  have nm:=zK0 op;rw [decide_eq_true o1] at nm;simp only [n1,n2,k1,k2,nz];have bd:0<=mode/\mode<((13:Nat):Int):=by omega
  refine ⟨zQn op,λ_=>⟨λ_=>⟨λ_=>⟨bd,⟨trivial,trivial⟩,λh=>(by cases h),λ_=>⟨bd,⟨trivial,trivial⟩,λh4=>?_,λh4=>?_⟩⟩,λh=>absurd h (by omega)⟩,λh=>absurd h (by omega)⟩,λh=>absurd h (by rw [nm]; decide)⟩
  ·have h4:op=4:=by simpa using h4
   exact ⟨by decide,by decide,by unfold lipA; rw [if_pos h4],by unfold lipB; rw [if_pos h4]⟩
  ·have h4:¬ op=4:=by simpa using h4
   exact ⟨by decide,by decide,by unfold lipA; rw [if_neg h4,zVZ (by omega) (by omega)],by unfold lipB; rw [if_neg h4,zVZ (by omega) (by omega)]⟩
def aCK (a b c:Int):Prop:=jE 50 a b [] (xO c)
theorem zVd (xs:List DV) (o:Oq) (q:Int) (hx:xs=bl0) (hq:q=0) (h1:isNm o.oper=true) (h2:isNm o.mode=true) (h3:o.mode≠7/\o.mode≠8):AnsG prog 51 1 [aPz,AV.agg (oC o),aJ ((q))] [bR 117 14 xs] ⟨AV.tup [],[bR 117 14 bl1],false⟩:=
 zZc (Γ:=jUi) aL zQb Tryz.func51 rfl (nL rfl) rfl λhwf hbx=>by
  refine Eq.mpr (by kernel_rfl:_=(let c:=zZu (lV [] [bR 117 14 bl1] false);let d:=xO (aI ((0:Int)+0));let e:=aI (d+1);let a:=lipB o.oper o.mode;let f:=aZ (aGC xs 12 12);let b:=lipA o.oper o.mode;let g:=aI (0+nAt xs 12);let h:=xO g;let j:=aI (h+0);let k:=xO j;let l:=aI (k+1);aV (aH (aFZ 90 o.oper o.mode (eJ b a [aB true])) (aG (True/\True/\aZ (xs[(11:Nat)]?=some (DV.bool (bAt xs 11)))/\(bAt xs 11=true->True/\True/\True/\aK (jE 89 (aI (b+2)) q [] 0) (cZ f (aCK 0 (nAt xs 12) g) (True/\True/\True/\aZ (aGC xs 13 13)/\jE 89 a (nAt xs 13) [] 0/\aCK h 0 j/\aCK k 1 l/\True/\True/\gL ((12:Nat)+1) xs/\eS true/\aW (True/\True) (List.set xs (12:Nat) (DV.int IntKind.i64 (xO l))=bl1)/\c)))/\(bAt xs 11=false->True/\pR (jE 89 b q [] 0) f (jE 89 a (nAt xs 12) [] 0/\aCK 0 0 (aI ((0:Int)+0))/\aCK d 1 e/\True/\True/\gL ((12:Nat)+1) xs/\eS true/\aW (True/\True) (List.set xs (12:Nat) (DV.int IntKind.i64 (xO e))=bl1)/\c))))))) ?_;delta eS aZ cZ aI aG aH aK jE lV aW gL zP eJ aB aV pR aFZ aGC xO aCK;simp only [sS];clear hwf hbx;subst hx hq;have T:=λa=>zHQ a 0 rfl;have b11:bAt bl0 11=false:=rfl;have n12:nAt bl0 12=0:=rfl;simp only [b11,n12];refine ⟨zWf o.oper o.mode h1 h2 h3,rfl,λh=>(by cases h),λ_=>⟨T _,rfl,T _,zVU 0 0,zVU _ 1,by decide,?_,trivial⟩⟩;rfl
def yQP:Gam:=jUi.add []
theorem zHR (s:Scr) (o:Oq) (ho:s.ops=[o]) (hk:o.kind=1) (h0:o.mask=0) (h1:o.opac=zQo s.bits) (h2:isNm o.oper=true) (h3:isNm o.mode=true) (h4:o.mode≠7/\o.mode≠8) (he:(opsE s.bits s.c s.tw s.th s.ord s.ims.length s.ops).1=0):Ans prog 18 [rA (sD s)] (rT [rJ (1),rJ (0)]):=
 zQa (Γ:=yQP) (let e:=zQo s.bits;let b:=dV s;let f:=DV.sl b (fD s);dZ (vP (Ann.loop (Inv.mk Nat (λ(i:Nat)=>kW i s) (λ(j:Nat)=>uQ (pO 1 1 24 (qV b (fD s)) (lO 25 b 26 j)) 1 (xN s [])) (λ(h:Nat)=>b-h)) (λ(m:Nat)=>aL)) (eF (Ann.loop (Inv.mk Nat (λ(i:Nat)=>kW i s) (λ(d:Nat)=>oE (aFW 8 (aE e) 10 52 1 (kP 54 f (lO 55 b 56 d))) 52 117 14 (bl (if d=0 then 0 else 1)) []) (λ(h:Nat)=>b-h)) (λ(c:Nat)=>eF (dZ (aQ (Ann.cut (Inv.mk Oq (λ(g:Oq)=>zGj s.ops=g/\c=0) (λ(a:Oq)=>oE (kP 8 (aE e) (mE 10 52 1 12 (Cl.ptr 12 0) (oJ 13 (cV 1) 14 0 (zL 54 f 55 (yG b) (aBH 56 c 64 1 []))))) 52 117 14 (bl (if c=0 then 0 else 1)) (oY 12 (rC a.kind a.image a.x (dY a.y 0 a.mx a.my (nZ e a.oper a.mode a.iso a.kno []))))) (λ(l:Oq)=>(0:Nat))) aL (λ(k:Oq)=>cT (Ann.sure false (cT (xE false))))) (mQ false)))))))) zQb Tryz.func18 rfl (nL rfl) λhwf=>by
  refine Eq.mpr (by kernel_rfl:_=(let l:=eJ 1 0 [];let d:=dV s;let e:=fD s;let i:=zQo s.bits;let m:=bZ i;let r:=lV [] [bR 117 14 bl1] false;let v:=i !=i;let y:=eJ 0 15 []=l;let C:=opsE s.bits s.c s.tw s.th (ints (is s.ord)) (qA s) (zQl (fD s));let D:=C.fst;True/\bV (bF 46 (mL s) [] (vX C)) (mO (fI D) (True/\True/\eJ 0 D []=l) (True/\True/\True/\(∃ p:Nat,bK (kW p s) (sP (eS (0:Nat)) d e p) (eS (mL s)))/\(∀ c:Nat,let w:=(∃ k:Nat,aF (kW k s) (bW (dV s) k c) (iG (eS (0:Nat)) d e c k) (eS (mL s)));let x:=bT e c 12 !=3;let o:=aT c 12;let z:=dF s (cP o);let A:=z==7;let B:=z==8;bL (c<=d) (gY c d->aCA c s 12/\aM (zG e c 12 (dM s (aT c 12)) (dM s (gF c 12)) (dM s (cI o)) (dM s (bU o)) (dM s (cP o))) (True/\True/\True/\(x=true->True/\kA (A=false) (B=true) y (gV B w) (fP A false y))/\nO x w)) (eX c d false (aK (fC 47 s.bits (tZ s.bits)) (aG (True/\True/\True/\(∃ j:Nat,bK (kW j s) (m/\sP (eS (1:Nat)) d e j) (qB (sM 0 0)=bl (if j=0 then 0 else 1)))/\(∀ a:Nat,let h:=bl (if a=0 then 0 else 1);let q:=(∃ g:Nat,aF (kW g s) (bW (dV s) g a) (m/\iG (eS (1:Nat)) d e a g) (bl1=bl (if g=0 then 0 else 1)));let t:=[bR 117 14 h];let n:=aT a 12;bL (kW a s) (gY a d->aCA a s 12/\zG e a 12 (dM s (aT a 12)) (dM s (gF a 12)) (dM s (cI n)) (dM s (bU n)) (dM s (cP n))/\True/\True/\True/\1<=maxLen/\True/\True/\True/\(True/\True/\(∃ f:Oq,nM (zGj s.ops=f/\a=0) (m/\eS (1:Nat)/\eS (0:Nat)/\bG (cV 1)/\gN/\aF (gD (dV s) (fD s)) (gA d) (eS (nH a)) (bE (bT e a 12) 1)) h (aFX e a 12 (dF s (aT a 12)) (dF s (gF a 12)) (dF s (cI n)) (dF s (mK a 12)) (dF s (bU n)) (dF s (cP n))) (aDP f f.x f.y 0 f.mx f.my i)))/\(∀ b:Oq,let u:=AV.agg (gK b.kind b.image b.x b.y 0 b.mx b.my (nZ i b.oper b.mode b.iso b.kno []));qX (zGj s.ops=b/\a=0) (((1:Int)==2)=false) (aH (((1:Int)==3)=false) (pR (hZ 0) (v=true->aK (aCK 0 1 (aI ((0:Int)+1))) (aK (gO (cV 1) 1) (cG (sQ 51 1 0 [u,aO (bO (xO (aI ((0:Int)+1))))] t r) (eS true) q))) (v=false->True/\aK (gO (cV 1) 1) (cG (sQ 51 1 0 [u,aO (bO 0)] t r) (eS true) q)))))) (bL (pV a d) (fL 1) (aK (aZ (aGC h 12 12)) (eJ (nAt h 12) 0 []=l))))))))))))) ?_;delta eS aY bY aZ aE aI bO aF aP aG aH aK oF bD aX jE lV fL cS mY dY gK nZ iQ aM bG iS oT cG bZ pL mB aDP gV qX aW nH nG bK aT gO gW bL gD gF mG cL bF kS aU fY bQ bT eG bV eX dT dE eH gM tQ nM zP eJ vX aB bE cI bU sM cP bW mK tU gA cV gN kG gY fC pR nO qA dV fG fD kW aGD mL fP mO tZ kA pV fI hZ fX gB aGC dF dM aGR aHL zG qB aCA aFX xO iG sP sQ aCK;simp only [sS];simp only [zQw,zZF];have hop:zGj s.ops=o:=by rw [ho]; rfl
  have hl:s.ops.length=1:=by rw [ho]; rfl
  have VA:=zKz s;have MX:=zZP s.bits;refine ⟨VA,λh=>absurd he (by simpa using h),λ_=>⟨⟨0,Nat.zero_le _,rfl⟩,λk hk1=>⟨λhlt=>?_,λhge=>⟨MX,⟨0,Nat.zero_le _,rfl,rfl⟩,λj hj=>⟨λhlt=>?_,λhge=>?_⟩⟩⟩⟩⟩
  ·have k0:k=0:=by omega
   have hkl:k<s.ops.length:=by omega
   have q1:=zKD hkl;have q2:=zKE hkl;have eo:s.ops[k]=o:=by subst k0; simp [ho]
   have lb:0<=(k:Int)/\(k:Int)<(s.ops.length:Int)/\k*12<(ops s.ops).length:=⟨by omega,by omega,by rw [zQC]; omega⟩
   have w1:wrap .i64 ((k:Int)+1)=((k+1:Nat):Int):=zZ3 (by omega);rw [eo] at q1 q2;simp only [q2];exact ⟨lb,q1,λ_=>⟨λ_=>⟨λh=>absurd h (by simp [h4.2]),λ_=>⟨k+1,by omega,by omega,w1⟩⟩,λh=>absurd h (by simp [h4.1])⟩,λ_=>⟨k+1,by omega,by omega,w1⟩⟩
  ·have j0:j=0:=by omega
   have hkl:j<s.ops.length:=by omega
   have q1:=zKD hkl;have q2:=zKE hkl;have eo:s.ops[j]=o:=by subst j0; simp [ho]
   have lb:0<=(j:Int)/\(j:Int)<(s.ops.length:Int)/\j*12<(ops s.ops).length:=⟨by omega,by omega,by rw [zQC]; omega⟩
   have w1:wrap .i64 ((j:Int)+1)=((j+1:Nat):Int):=zZ3 (by omega);rw [eo] at q1 q2;simp only [q2];refine ⟨lb,q1,by unfold maxLen; omega,⟨o,⟨hop,j0⟩,hk,rfl,rfl,rfl,rfl,h0,rfl,rfl,h1,rfl,rfl,rfl,rfl⟩,λp hp=>?_⟩;have:p=o:=by rw [<- hp.1,hop]
   subst this;have B:=zVd bl0 ⟨p.kind,p.image,p.x,p.y,0,p.mx,p.my,zQo s.bits,p.oper,p.mode,p.iso,p.kno⟩ 0 rfl rfl h2 h3 h4;have e0:bl (if j=0 then 0 else 1)=bl0:=by rw [if_pos j0]; rfl
   rw [e0];exact ⟨rfl,rfl,rfl,λh=>absurd h (by simp),λ_=>⟨by decide,B,j+1,by omega,by omega,w1,by rw [if_neg (by omega)]; rfl⟩⟩
  ·rw [if_neg (by omega)];exact ⟨by decide,rfl,rfl⟩
def zQ8 (o:Oq):Oq:=if o.mode=7\/o.mode=8 then { o with mode:=3 } else o
def smTo (k:Nat) (l:List Oq):List Oq:=(l.take k).map zQ8++l.drop k
theorem jWk (l:List Oq):smTo 0 l=l:=by simp [smTo]
theorem jZq (k:Nat) (l:List Oq):(smTo k l).length=l.length:=by simp [smTo]; omega
theorem jJg {k:Nat} {l:List Oq} (h:k<l.length):(smTo k l)[k]'(by rw [jZq]; exact h)=l[k]:=by
 have e:((l.take k).map zQ8).length=k:=by simp; omega
 simp only [smTo];rw [wYm (by omega),List.getElem_drop];congr 1;rw [e]; omega
theorem jXG {k:Nat} {l:List Oq} (h:k<l.length):(smTo k l).set k (zQ8 l[k])=smTo (k+1) l:=by
 have e:((l.take k).map zQ8).length=k:=by simp; omega
 simp only [smTo];rw [List.set_append_right _ _ (by omega),e,wZg,wZS h,wXQ,wZf,List.getElem?_eq_getElem h,wQ7,List.append_assoc];rfl
theorem jUT (l:List Oq):smTo l.length l=l.map zQ8:=by simp [smTo]
def yQO:Gam:=yQP.add []
theorem jY6 (s:Scr) (hl:s.ops.length<=100000):Ans prog 16 [rA (sD s)] (rA [dJ s.bits,dJ s.c.a,dJ s.c.b,dJ s.c.c,dJ s.c.d,dJ s.tw,dJ s.th,dS s.ord.length (is s.ord),dS s.ims.length (ims s.ims),dS ((s.ops.map zQ8).length) (ops (s.ops.map zQ8))]):=
 zQa (Γ:=yQO) (eF (Ann.loop (Inv.mk Nat (λ(c:Nat)=>kW c s) (λ(a:Nat)=>aAU (gC 1 1 2 2 (tN 3 7 (dV s) 4 a [])) 1 s [] 2 (gK 0 0 0 0 0 0 0 (oI (oI (oI [])))) (jU 7 61 12 (ops (smTo a s.ops)))) (λ(b:Nat)=>dV s-b)) (λ(d:Nat)=>aL))) zQb Tryz.func16 rfl (nL rfl) λhwf=>by
  refine Eq.mpr (by kernel_rfl:_=(let b:=s.ops;let d:=dV s;let i:=rG (rG (rG (aM gN True)));let j:=eS (mL s);let k:=eS d;iY (zZ2 12 88 0 d [] (fD s)) (∃ g:Nat,cB g (dV s) (aF (bP (aW k (yO g))) j i (fD s=ops (smTo g b)))) (∀ a:Nat,let c:=ops (smTo a b);let h:=aT a 12;let l:=gO (a:Int) d;let n:=aH l (aM (gL (h+9+1) c) (∃ e:Nat,cQ (kW e s) (bW (dV s) e a) (bP (aW k (rK a e))) j i (List.set c (h+9) (DV.int IntKind.i64 3)=ops (smTo e b))));let m:=nAt c (h+9);let o:=m==7;let p:=kS c h 9;kW a s->eZ (tP d (gY a d->aH l (yP p (o=false->aH l (yP p (dC m 8 n) (nA m 8 (True/\True/\(∃ f:Nat,cQ (kW f s) (bW (dV s) f a) (bP (aW k (rK a f))) j i (c=ops (smTo f b))))))) (jG o n))) (eX a d false (bX (rA (iS s.bits s.c.a s.c.b s.c.c s.c.d s.tw s.th (aGD s (dV s) c))) (rA (iS s.bits s.c.a s.c.b s.c.c s.c.d s.tw s.th (aGD s (List.length (List.map zQ8 b)) (ops (List.map zQ8 b))))))))))) ?_;delta eS aY aZ aI aF aH nA iQ aM bG iS bP bX aW nH nG aT gO gL jG eZ kS eX dC iY tP bW cB tU rG gN gY rK yO qA dV fG fD kW cQ aGD mL yP;simp only [sS];refine ⟨⟨rfl,zQC _,by unfold maxLen; omega,by omega⟩,⟨0,Nat.zero_le _,rfl,by rw [jWk]⟩,λk hk=>⟨by unfold maxLen; omega,λhlt=>?_,λhge=>?_⟩⟩
  ·have h:k<s.ops.length:=by omega
   have h':k<(smTo k s.ops).length:=by rw [jZq]; exact h
   have g:=zHb h' 9 (by omega);have e9:(ops (smTo k s.ops))[k*12+9]?=some (.int .i64 s.ops[k].mode):=by rw [g,jJg h]; rfl
   have n9:nAt (ops (smTo k s.ops)) (k*12+9)=s.ops[k].mode:=by unfold nAt; rw [e9]
   have bd:0<=(k:Int)/\(k:Int)<(s.ops.length:Int):=by omega
   have le:k*12+9+1<=(ops (smTo k s.ops)).length:=by rw [zQC,jZq]; omega
   have w1:wrap .i64 ((k:Int)+1)=((k+1:Nat):Int):=zZ3 (by omega);have st:s.ops[k].mode=7\/s.ops[k].mode=8->(ops (smTo k s.ops)).set (k*12+9) (DV.int .i64 3)=ops (smTo (k+1) s.ops):=λhm=>by
    rw [jHF h' (j:=9) (by omega) (o:=zQ8 s.ops[k]) (by rw [jJg h]; unfold zQ8; rw [if_pos hm]; rfl),jXG h]
   have sn:¬ (s.ops[k].mode=7\/s.ops[k].mode=8)->ops (smTo k s.ops)=ops (smTo (k+1) s.ops):=λhm=>by
    have:zQ8 s.ops[k]=s.ops[k]:=by unfold zQ8; rw [if_neg hm]
    rw [<- jXG h,this,<- jJg h,List.set_getElem_self]
   simp only [n9,e9];refine ⟨bd,trivial,λh7=>⟨bd,trivial,λh8=>⟨bd,le,k+1,by omega,by omega,w1,st (.inr (by simpa using h8))⟩,λh8=>⟨k+1,by omega,by omega,w1,sn (by simp at h7 h8; omega)⟩⟩,λh7=>⟨bd,le,k+1,by omega,by omega,w1,st (.inl (by simpa using h7))⟩⟩
  ·have:k=s.ops.length:=by omega
   rw [this,jUT,wQu];exact ⟨rfl,rfl⟩
end
theorem jH1 (r:Rw) (push:Bool) (n:Int) (c:Rc) (free:Bool) {most:Int} (h0:0<=most) (h1:most<=65535):0<=(gOp r push n c free most).opac:=by
 unfold gOp;simp only;split
 ·have:=zYn (wrap .i64 (Int.tdiv r.op 2)) h0 h1;omega
 ·omega
theorem Scn.run_op0 (s:Scn):∀ k,∀ o∈(s.run k).1,0<=o.opac
 | 0,o,ho=>by cases ho
 | k+1,o,ho=>by
  have hm:0<=s.most/\s.most<=65535:=by rcases s.most_in with h | h<;>rw [h]<;>omega
  have ih:=s.run_op0 k;have ho:o∈(s.step (rwAt s.rxs (k*11)) (s.run k)).1:=ho;unfold Scn.step at ho;split at ho
  ·rcases List.mem_append.1 ho with h | h
   ·exact ih o h
   ·rw [wQj] at h;subst h;decide
  ·rcases List.mem_append.1 ho with h | h
   ·exact ih o h
   ·rw [wQj] at h;subst h;exact jH1 _ _ _ _ _ hm.1 hm.2
theorem Scn.op0 (s:Scn):∀ o∈s.ops,0<=o.opac:=λo ho=>by
 rcases List.mem_append.1 (show o∈(s.run (min s.rn 9)).1++List.replicate (s.run (min s.rn 9)).2.length popO from ho) with h | h
 ·exact s.run_op0 _ o h
 ·rw [List.eq_of_mem_replicate h];decide
theorem Scn.px_fine (s:Scn):∀ m∈s.ims,m.formed=true/\∀ p∈m.pixels,p.fine s.most:=by
 have CF:=s.c_facts;have hq:1<=s.c.c-s.c.a/\s.c.c-s.c.a<=100/\1<=s.c.d-s.c.b/\s.c.d-s.c.b<=100:=by have:=s.facts; omega
 have hm:0<=s.most/\s.most<=65535:=by rcases s.most_in with h | h<;>rw [h]<;>omega
 intro m hmem;refine ⟨(s.fine m hmem).1,?_⟩;unfold Scn.ims at hmem;split at hmem
 ·rw [wQj] at hmem;subst hmem;have F:=s.facts;have hf:zZg s.gw s.gh=true:=by
   have:=wQx F.2.2.1.2 F.2.2.2.1.2 (by omega) (by omega);simp [zZg]; omega
  intro p hp;change p∈(zQ3 s.gw s.gh ⟨s.most,0,0,s.most,s.most⟩).pixels at hp;rw [Im.pixels_of (zYr _ hf),Im.list,wQv] at hp;obtain ⟨k,_,rfl⟩:=hp;have e:(zQ3 s.gw s.gh ⟨s.most,0,0,s.most,s.most⟩).nth k=⟨s.most,0,0,s.most,s.most⟩:=by simp [Im.nth,Im.px,zQ3]
  change ((zQ3 s.gw s.gh ⟨s.most,0,0,s.most,s.most⟩).nth k).fine s.most;rw [e];exact ⟨by simp [Px.ok]; omega,by simp only; omega,by simp only; omega,by simp only; omega,by simp only; omega⟩
 ·simp only [Scn.pics,wQv] at hmem;obtain ⟨k,_,rfl⟩:=hmem;exact λp hp=>zHC _ _ _ _ _ _ _ _ _ _ hm.1 hm.2 hq p hp
theorem Im.at_mem {m:Im} (hf:m.formed=true) {x y:Int} (hx:0<=x/\x<m.w) (hy:0<=y/\y<m.h):m.at_ x y∈m.pixels:=by
 have h1:=zXI (Im.formed_of hf).1;rw [Im.at_in hf hx hy,Im.pixels_of hf,Im.list,wQv];have hlt:x.toNat<m.w.toNat:=by omega
 refine ⟨y.toNat*m.w.toNat+x.toNat,?_,?_⟩
 ·rw [wQw];have:(y.toNat+1)*m.w.toNat<=m.h.toNat*m.w.toNat:=wQR _ (by omega);rw [wQI m.w.toNat];rw [wQn] at this;omega
 ·have e1:(y.toNat*m.w.toNat+x.toNat)%m.w.toNat=x.toNat:=by
   rw [wQI,Nat.mul_add_mod,wQX hlt]
  have e2:(y.toNat*m.w.toNat+x.toNat) / m.w.toNat=y.toNat:=by
   rw [wQI,Nat.mul_add_div (by omega),wXG hlt,Nat.add_zero]
  unfold Im.nth;rw [e1,e2,wZ4 hx.1,wZ4 hy.1]
theorem Scn.full (s:Scn):zZ1 s.most=true:=by
 rcases s.most_in with h | h<;>rw [h]<;>rfl
theorem Scn.ims_ok (s:Scn):zJI s.most s.ims:=by
 refine ⟨s.full,λm hm x y=>?_⟩;obtain ⟨hf,hp⟩:=s.px_fine m hm;by_cases h:0<=x/\x<m.w/\0<=y/\y<m.h
 ·have:=hp _ (Im.at_mem hf ⟨h.1,h.2.1⟩ ⟨h.2.2.1,h.2.2.2⟩);exact ⟨this.1,this.2.1,this.2.2.1,this.2.2.2.1⟩
 ·rw [at_out h];exact zKb (by have:=(zQ4 s.full).1; omega)
theorem Scn.dim_ok (s:Scn):jXx s.ims:=λm hm=>by
 obtain ⟨hf,⟨h1,h2⟩,_⟩:=s.fine m hm;have:=zXI (Im.formed_of hf).1;omega
theorem Scn.bits_most (s:Scn):zQo s.bits=s.most:=s.bits_max.1
theorem Scn.forest (s:Scn):∃ w:Fo,w.vf s.bits s.ims.length []/\s.ops=w.flat:=by
 obtain ⟨w,hw,e⟩:=jKX s.ops_ok;have h:=s.ops_ok;rw [e] at h;exact ⟨w,(jQX w [] [] hw h).1,e⟩
def Fo.app:Fo->Fo->Fo
 | .nil,g=>g
 | .draw o r,g=>.draw o (r.app g)
 | .grp o k r,g=>.grp o k (r.app g)
theorem zYf:∀ f g:Fo,(f.app g).flat=f.flat++g.flat
 | .nil,g=>rfl
 | .draw o r,g=>by simp [Fo.app,Fo.flat,zYf r g]
 | .grp o k r,g=>by simp [Fo.app,Fo.flat,zYf r g]
theorem jXl:∀ f g:Fo,(f.app g).size=f.size+g.size
 | .nil,g=>by simp [Fo.app,Fo.size]
 | .draw o r,g=>by simp [Fo.app,Fo.size,jXl r g]; omega
 | .grp o k r,g=>by simp [Fo.app,Fo.size,jXl r g]; omega
theorem jYS {bits:Int} {mn:Nat} {st:List Oq}:∀ f g:Fo,(f.app g).vf bits mn st↔f.vf bits mn st/\g.vf bits mn st
 | .nil,g=>by simp [Fo.app,Fo.vf]
 | .draw o r,g=>by simp [Fo.app,Fo.vf,jYS r g,and_assoc]
 | .grp o k r,g=>by simp [Fo.app,Fo.vf,jYS r g,and_assoc]
theorem jXm (s:Scr):∀ (f g:Fo) (n:Nat),boxL s n (f.app g)=boxL s n f++boxL s (n+f.size) g
 | .nil,g,n=>by simp [Fo.app,Fo.size,boxL]
 | .draw o r,g,n=>by
  rw [Fo.app,zW3,zW3,jXm s r g];simp only [Fo.size,List.cons_append];rw [show n+1+r.size=n+(r.size+1) by omega]
 | .grp o k r,g,n=>by
  rw [Fo.app,zGz,zGz,jXm s r g];simp only [Fo.size,List.cons_append,List.append_assoc];rw [show n+k.size+2+r.size=n+(k.size+r.size+2) by omega]
theorem zHX:∀ f g h:Fo,(f.app g).app h=f.app (g.app h)
 | .nil,g,h=>rfl
 | .draw o r,g,h=>by simp [Fo.app,zHX r g h]
 | .grp o k r,g,h=>by simp [Fo.app,zHX r g h]
def Fo.one:Fo->Fo × Fo
 | .nil=>(.nil,.nil)
 | .draw o r=>(.draw o .nil,r)
 | .grp o k r=>(.grp o k .nil,r)
theorem jJG:∀ f:Fo,f.one.1.app f.one.2=f
 | .nil=>rfl
 | .draw o r=>rfl
 | .grp o k r=>rfl
theorem Scn.outside (s:Scn) {A E B:Fo} (hv:(A.app (E.app B)).vf s.bits s.ims.length []) (he:s.ops=(A.app (E.app B)).flat) {x y:Int} (hc:s.c.has x y=true) (hb:∀ r∈zQE s.scr E,r.has x y=false) :
  zJN s.most s.ims x y (A.flat++B.flat)=zJN s.most s.ims x y s.ops:=by
 rw [jYS,jYS] at hv;obtain ⟨v1,v2,v3⟩:=hv;have hop:∀ o∈s.ops,0<=o.opac:=s.op0;rw [he,zYf,zYf] at hop;obtain ⟨a,e1,h1⟩:=zVn s.ims_ok s.bits_most x y A [] [] zZR v1 (λo ho=>hop o (by simp [ho])) (jJ4 s.full);have e2:=zGO (s:=s.scr) s.dim_ok s.ims_ok s.bits_most hc E [] [] _ v2 (λo ho=>hop o (by simp [ho])) h1 hb;have key:runM s.most s.ims x y (A.flat++B.flat) [zZR]=runM s.most s.ims x y s.ops [zZR]:=by
  rw [he,zYf,zYf,zYQ,zYQ,zYQ];rw [List.nil_append] at e1;rw [e1];change _=runM s.most s.ims x y B.flat (runM s.most s.scr.ims x y E.flat ([]++[_]));rw [e2]
 unfold zJN;rw [key]
def zZx (s:Scr) (r:Rc) (n:Nat):Nat->List Oq
 | 0=>[]
 | k+1=>zZx s r n k++(if zXE s r (n+k) then [opAt s (n+k)] else [])
theorem zK5 (s:Scr) (r:Rc) (n a:Nat):∀ b,zZx s r n (a+b)=zZx s r n a++zZx s r (n+a) b
 | 0=>by simp [zZx]
 | b+1=>by
  rw [<- Nat.add_assoc,zZx,zZx,zK5 s r n a b,List.append_assoc,Nat.add_assoc]
theorem zUB (s:Scr) (r:Rc) (n b:Nat):zZx s r n (b+1)=(if zXE s r n then [opAt s n] else [])++zZx s r (n+1) b:=by
 rw [wXS,zK5];simp [zZx]
theorem zUA (s:Scr) (r:Rc) (n:Nat):∀ b,(∀ p,n<=p->p<n+b->zXE s r p=false)->zZx s r n b=[]
 | 0,_=>rfl
 | b+1,h=>by
  rw [zZx,zUA s r n b (λp h1 h2=>h p h1 (by omega)),h (n+b) (by omega) (by omega)];rfl
theorem jJT {s:Scr} (h:s.run.1=0) (r:Rc) {p:Nat} (hp:p<s.ops.length):hitB s r p=hit r (boxN s 0 (foOf s) p):=by
 unfold hitB hit;rw [zKw h hp]
theorem jJE {s:Scr} (h:s.run.1=0) {p:Nat} {o:Oq} (e:(foOf s).flat[p]?=some o):opAt s p=o:=by
 unfold opAt;rw [(zXu h).2,e]; rfl
theorem jGU (s:Scr) (r:Rc) (o:Oq) (k:Fo):(Fo.draw o k).act s r=if hit r (boxF s o (imgR s o)) then .draw o (k.act s r) else k.act s r:=by rw [Fo.act]
theorem yQk (s:Scr) (r:Rc) (o:Oq) (g k:Fo):(Fo.grp o g k).act s r=if hit r (boxF s o (zZN (zQE s g))) then .grp o (g.act s r) (k.act s r) else k.act s r:=by rw [Fo.act]
theorem zHm {s:Scr} (h:s.run.1=0) (r:Rc):∀ (f:Fo) (n:Nat),Occ s (foOf s) n f->(∀ j,j<n->(opAt s j).kind=2->n<enAt s j->hitB s r j=true)->zZx s r n f.size=(f.act s r).flat
 | .nil,n,_,_=>rfl
 | .draw o k,n,ho,hg=>by
  obtain ⟨h1,h2,h3,h4,h5,h6⟩:=ho.draw;have hl:n<s.ops.length:=by rw [zZH h]; exact h2
  have eo:=jJE h h3
  have ih:=zHm h r k (n+1) h6 (λj hj hk he=>by
   rcases wQr j n with hlt | hge
   ·exact hg j hlt hk (by omega)
   ·have:j=n:=by omega
    subst this
    rw [eo] at hk; omega)
  have ha:zXE s r n=hit r (boxF s o (imgR s o)):=by
   rw [<- h5,<- jJT h r hl]
   cases hb:hitB s r n with
   | false=>
    cases q:zXE s r n with
    | false=>rfl
    | true=>rw [((zXx s r n).1 q).1] at hb; cases hb
   | true=>exact (zXx s r n).2 ⟨hb,λj hj hk he=>hg j hj hk he⟩
  rw [Fo.size,zUB,ih,ha,eo];rw [jGU]
  cases hit r (boxF s o (imgR s o)) with
  | false=>rfl
  | true=>rfl
 | .grp o g k,n,ho,hg=>by
  obtain ⟨h1,h2,h3,h4,h5,h6,h7,h8,h9,h10⟩:=ho.grp;have hl:n<s.ops.length:=by rw [zZH h]; omega
  have hl2:n+g.size+1<s.ops.length:=by rw [zZH h]; exact h2
  have eo:=jJE h h3;have ep:=jJE h h4;have en:enAt s n=n+g.size+1:=by rw [(zXv h hl).2,h5]
  have k2:(opAt s n).kind=2:=by rw [eo]; exact h1
  have ha:zXE s r n=hit r (boxF s o (zZN (zQE s g))):=by
   rw [<- h7,<- jJT h r hl]
   cases hb:hitB s r n with
   | false=>
    cases q:zXE s r n with
    | false=>rfl
    | true=>rw [((zXx s r n).1 q).1] at hb; cases hb
   | true=>exact (zXx s r n).2 ⟨hb,λj hj hk he=>hg j hj hk he⟩
  have hp:zXE s r (n+g.size+1)=zXE s r n:=by rw [<- en]; exact jJ7 h r hl k2
  have ih:=zHm h r k (n+g.size+2) h10 (λj hj hk he=>by
   rcases wQr j n with hlt | hge
   ·exact hg j hlt hk (by omega)
   ·rcases wQr n j with hnj | hnj
    ·rcases wQr j (n+g.size+1) with hin | hin
     ·have:=zW1 h hl hnj (by rw [en]; omega);omega
     ·have:j=n+g.size+1:=by omega
      subst this;rw [ep] at hk; cases hk
    ·have:j=n:=by omega
     subst this
     omega)
  rw [Fo.size,show g.size+k.size+2=(1+(g.size+1))+k.size by omega,zK5,show n+(1+(g.size+1))=n+g.size+2 by omega,ih];rw [yQk]
  cases hb:hit r (boxF s o (zZN (zQE s g))) with
  | true=>
   have ha2:zXE s r n=true:=by rw [ha,hb]
   have ig:=zHm h r g (n+1) h9 (λj hj hk he=>by
    rcases wQr j n with hlt | hge
    ·exact hg j hlt hk (by omega)
    ·have:j=n:=by omega
     subst this
     exact ((zXx s r j).1 ha2).1)
   rw [wXS 1,zUB,zZx,ig,ha2,show n+1+g.size=n+g.size+1 by omega,hp,ha2,eo,ep];simp [Fo.flat]
  | false=>
   rw [zUA s r n]
   ·rfl
   ·intro p p1 p2
    rcases wQr n p with hnp | hnp
    ·rcases wQr p (n+g.size+1) with hin | hin
     ·cases q:zXE s r p with
      | false=>rfl
      | true=>
       have:=((zXx s r p).1 q).2 n hnp k2 (by omega);rw [jJT h r hl,h7,hb] at this;cases this
     ·have:p=n+g.size+1:=by omega
      rw [this,hp,ha,hb]
    ·have:p=n:=by omega
     rw [this,ha,hb]
def Scn.left (s:Scn) (r:Rc):List Oq:=zZx s.scr r 0 s.ops.length
theorem one_ok {f:Fo} (h:f.ok):f.one.1.ok:=by
 cases f with
 | nil=>trivial
 | draw o r=>exact ⟨h.1,trivial⟩
 | grp o k r=>exact ⟨h.1,h.2.1,trivial⟩
def jZ4 (s:Scr):Fo->Rc
 | .nil=>.zero
 | .draw o r=>boxF s o (imgR s o)
 | .grp o k r=>boxF s o (zZN (zQE s k))
theorem yQe (s:Scr) (f:Fo) (hn:f≠.nil):zQE s f.one.1=[jZ4 s f]:=by
 cases f with
 | nil=>exact absurd rfl hn
 | draw o r=>rfl
 | grp o k r=>rfl
theorem jGO (s:Scr) (f:Fo) (n:Nat) (hn:f≠.nil):(boxL s n f)[0]?=some (jZ4 s f):=by
 cases f with
 | nil=>exact absurd rfl hn
 | draw o r=>rw [zW3]; rfl
 | grp o k r=>rw [zGz]; rfl
abbrev OutZ:=Fo × Fo × Nat
structure zVl (s:Scn) (z:OutZ):Prop where
  vf:(z.1.app z.2.1).vf s.bits s.ims.length []
  ops:s.ops=(z.1.app z.2.1).flat
theorem zVl.box {s:Scn} {z:OutZ} (h:zVl s z) (hn:z.2.1≠.nil):(zXm s.scr).1[z.1.size]?=some (jZ4 s.scr z.2.1):=by
 have hr:s.scr.run.1=0:=by rw [s.scr_run]
 have e:=jK6 (s:=s.scr) (jQz _ [] h.vf).1 h.ops;unfold zXm;rw [if_pos hr,e,jXm,wQp (by rw [zXU]; exact Nat.le_refl _),zXU,wZg];exact jGO _ _ _ hn
theorem zVl.len {s:Scn} {z:OutZ} (h:zVl s z):s.ops.length=z.1.size+z.2.1.size:=by
 rw [h.ops,Fo.flat_len,jXl]
theorem zVl.rest {s:Scn} {z:OutZ} (h:zVl s z):s.ops.drop z.1.size=z.2.1.flat:=by
 rw [h.ops,zYf,<- z.1.flat_len]; simp
theorem zVl.next {s:Scn} {A F:Fo} {n m:Nat} (h:zVl s (A,F,n)):zVl s (A.app F.one.1,F.one.2,m):=by
 have e:(A.app F.one.1).app F.one.2=A.app F:=by rw [zHX,jJG]
 exact ⟨by simpa only [e] using h.vf,by simpa only [e] using h.ops⟩
theorem zVl.start (s:Scn) (n:Nat):∃ w:Fo,zVl s (.nil,w,n):=by
 obtain ⟨w,h1,h2⟩:=s.forest;exact ⟨w,h1,h2⟩
theorem zVl.ok {s:Scn} {z:OutZ} (h:zVl s z):z.2.1.ok:=(jQz _ [] ((jYS _ _).1 h.vf).2).1
theorem zVl.op {s:Scn} {z:OutZ} (h:zVl s z) {j:Nat} (hj:j<z.2.1.one.1.size) (hl:z.1.size+j<s.ops.length):s.ops[z.1.size+j]=z.2.1.one.1.flat[j]'(by rw [Fo.flat_len]; exact hj):=by
 have hj2:j<z.2.1.one.1.flat.length:=by rw [Fo.flat_len]; exact hj
 have e2:s.ops[z.1.size+j]?=some (z.2.1.one.1.flat[j]):=by
  rw [h.ops,zYf,wQp (by rw [Fo.flat_len]; omega),Fo.flat_len,wYH];have e:z.2.1.flat=z.2.1.one.1.flat++z.2.1.one.2.flat:=by rw [<- zYf,jJG]
  rw [e,wQH hj2,List.getElem?_eq_getElem hj2]
 rw [List.getElem?_eq_getElem hl] at e2;exact wYs e2
theorem zVl.value {s:Scn} {z:OutZ} (h:zVl s z) (hn:z.2.1≠.nil) {x y:Int} (hc:s.c.has x y=true) (hb:(jZ4 s.scr z.2.1).has x y=false) :
  zJN s.most s.ims x y (s.ops.take z.1.size++s.ops.drop (z.1.size+z.2.1.one.1.size))=zJN s.most s.ims x y s.ops:=by
 have e:z.2.1=z.2.1.one.1.app z.2.1.one.2:=(jJG _).symm;have hv:=h.vf;have ho:=h.ops;rw [e] at hv ho
 have:=s.outside hv ho hc (λr hr=>by
  rw [yQe _ _ hn,wQj] at hr
  rw [hr]; exact hb)
 rw [<- this];congr 1;have l1:=z.1.flat_len;have l2:=z.2.1.one.1.flat_len;rw [ho,zYf,zYf,<- l1,<- l2];simp [List.drop_append]
theorem jYl {most:Int}:∀ (l:List Im) (i:Int),(∀ m∈l,m.valid most=0)->(imsE most l i).1=0
 | [],_,_=>rfl
 | m::l,i,h=>by
  simp only [imsE];rw [if_pos (h m (by simp))];exact jYl l _ λq hq=>h q (by simp [hq])
def Scn.withOps (s:Scn) (l:List Oq):Scr:=⟨s.bits,s.c,s.gtw,s.gth,s.ord,s.ims,l⟩
theorem Scn.with_check (s:Scn) {l:List Oq} (hl:l.length<=4096) (h:okO s.bits s.ims.length l []=some []):zJv (s.withOps l)=(0,0):=by
 have li:=s.ims_len;have f:=s.frame_ok (mn:=s.ims.length) (pn:=l.length) (by omega) hl;have e1:(s.withOps l).frame=0:=f;have e2:(imsE (zQo (s.withOps l).bits) (s.withOps l).ims 0).1=0:=by
  show (imsE (zQo s.bits) s.ims 0).1=0
  rw [s.bits_most];exact jYl _ _ λm hm=>(s.fine m hm).2.2.1
 have e3:(s.withOps l).run=(0,0):=by
  show opsE s.bits s.c s.gtw s.gth s.ord s.ims.length l=_
  unfold opsE;rw [if_pos f];have:=jJi l [] 0 [] [] h;rw [wQW] at this;rw [this]; rfl
 unfold zJv;rw [if_pos e1,if_pos e2,e3]
theorem jX4 {s:Scr} {m:Int} {n:Nat} {st:List Oq} {L:Nat->List Lv} {o:Oq} {src:List Px} {p:Nat->Px} {x y:Int} (hi:zJI m s.ims) (hst:∀ j,StOk m st (L j)) (h65:st.length<=65)
  (hn:n<=100000) (hm:0<=o.mask/\o.mask<=s.ims.length) (nx:zXr o.mx=true) (ny:zXr o.my=true) (h0:0<=o.opac) (h1:o.opac<=m) (f1:isNm o.oper=true) (f2:isNm o.mode=true) (f3:o.oper=4\/ctxB st=true)
  (hl:src.length=n) (hp:∀ j,(p j).ok m=true/\(p j).nn) (hsrc:∀ j,j<n->pxN src j=p j) (hx:x<=536870912) (hy:y<=536870912) :
  zUL s m (colF n L) o src x y/\zJ1 m (colF n L) o src (maR s.ims o x y src.length)=colF n λj=>zJ0 m (L j) o (zZZ m o (p j) (zX7 s.ims o (x+j) y)).1:=by
 obtain ⟨P,t,e,hk,hop⟩:=zWy hst;have eL:L=λj=>P j++[t j]:=funext e;have hs:∀ j,StOk m st (P j++[t j]):=λj=>by rw [<- e]; exact hst j
 have q:=λj=>zKU (m:=m) (o:=o) (p:=p j) (mask:=zX7 s.ims o (x+j) y) hi.full (hp j).1 (hp j).2 (zUy hi o (x+j) y).1 (zUy hi o (x+j) y).2 h0 h1;have pk:=λj=>(zUu (hs j) (q j).2.1 (q j).2.2 f1 f2 f3).1;have nx:=zK2 nx;have ny:=zK2 ny;have ks:∀ j,j<n->zJH (pxN src j) (ksN (maR s.ims o x y src.length) m j) o.opac m=zZZ m o (p j) (zX7 s.ims o (x+j) y):=λj hj=>by
  rw [hsrc j hj,hl,jGk hm.1 hj (by omega) (by omega)];rfl
 have eT:topF (colF n L)=⟨(t 0).op,rng n λj=>(t j).acc,rng n λj=>(t j).back⟩:=by rw [eL,zXD hk,zYi]
 have el:(colF n L).length=st.length+1:=by rw [zYv]; exact (hst 0).len
 refine ⟨⟨⟨by omega,by omega⟩,⟨hm,by omega,by omega⟩,by omega,f1,f2,by rw [eT,hl]; exact zXb _ _,by rw [eT,hl]; exact zXb _ _,λj hj=>?_,λj hj=>?_⟩,?_⟩
 ·rw [ks j (by omega),(q j).1]
 ·have hj:j<n:=by omega
  have e2:pxN (scR m o.opac src (maR s.ims o x y src.length)) j=(zZZ m o (p j) (zX7 s.ims o (x+j) y)).1:=by
   rw [zY9 (by rw [zJz]; omega),jWs,ks j hj]
  rw [e2,eT];simp only [zWi hj,zKY hj];have:=pk j;unfold zVQ at this;rw [zZY,hop j] at this;exact this
 ·have:=jUx (n:=n) (mk:=maR s.ims o x y src.length) (q:=λj=>(zZZ m o (p j) (zX7 s.ims o (x+j) y)).1) hk hop hl (λj hj=>by rw [ks j hj]) pk;rw [eL];exact this.symm
theorem jHq {s:Scr} {o:Oq} {x y:Int} {n j:Nat} (hk:o.kind=1) (nx:zXr o.x=true) (ny:zXr o.y=true) (hj:j<n) (hn:n<=100000) (hx:x<=536870912) (hy:y<=536870912) :
  pxN (pixR s.ims o.image (x-o.x) (y-o.y) n) j=srcS s.ims o (x+j) y:=by
 have nx:=zK2 nx;have ny:=zK2 ny;exact jUS hk hj (by omega) (by omega)
theorem jGK {s:Scr} {m bits x y n:Int} {st:List Oq} {L:Nat->List Lv} {o:Oq} (hi:zJI m s.ims) (hb:zQo bits=m) (hst:∀ j,StOk m st (L j)) (h65:st.length<=65) (hk:o.kind=1) (h0:0<=o.opac) (he:errO bits s.ims.length o st=0)
  (hn:0<=n/\n<=100000) (hx:x<=536870912) (hy:y<=536870912) :
  zUL s m (colF n.toNat L) o (pixR s.ims o.image (x-o.x) (y-o.y) n.toNat) x y/\jH8 s m x y n (colF n.toNat L) o=colF n.toNat λj=>zJi m s.ims (x+j) y (L j) o:=by
 obtain ⟨_,g1,⟨g2,g3,g4,g5⟩,f1,f2,f3,f4,_⟩:=zZn (.inl hk) he;have r:=jX4 (n:=n.toNat) (o:=o) (src:=pixR s.ims o.image (x-o.x) (y-o.y) n.toNat) (p:=λj=>srcS s.ims o (x+j) y) (x:=x) (y:=y) hi hst h65 (by omega) g1 g4 g5 h0 (by omega) f2 f3 f4 (zKk _ _ _ _ _)
  (λj=>zUN hi o (x+j) y) (λj hj=>jHq hk g2 g3 hj (by omega) hx hy) hx hy
 refine ⟨r.1,?_⟩;unfold jH8;rw [r.2];congr 1;funext j;have ⟨m1,m2⟩:=zUy hi o (x+j) y;obtain ⟨e,_,_⟩:=zKU (o:=o) hi.full (zUN hi o (x+j) y).1 (zUN hi o (x+j) y).2 m1 m2 h0 (by omega);unfold zJi jVP;rw [if_pos hk,if_pos ⟨hk,by rw [e]⟩]
theorem jWa {m:Int} {st:List Oq} {L:Nat->List Lv} (n:Nat) (hst:∀ j,StOk m st (L j)) (hn:n<=100000):FrOk m (topF (colF n L))/\(topF (colF n L)).acc.length=n:=by
 obtain ⟨P,t,e,hk,hop⟩:=zWy hst;have eL:L=λj=>P j++[t j]:=funext e;rw [eL,zXD hk,zYi];refine ⟨⟨?_,?_,λj hj=>?_⟩,zXb _ _⟩
 ·show (rng n _).length<=_
  rw [zXb]; exact hn
 ·show (rng n _).length=(rng n _).length
  rw [zXb,zXb]
 ·have hj:j<n:=by
   have:j<(rng n λj=>(t j).acc).length:=hj;rwa [zXb] at this
  show (acN (rng n _) j).ok (pxN (rng n _) j) m=true
  rw [zWi hj,zKY hj];have:=(hst j).lv (t j) (by rw [e j]; simp);exact this.ok
theorem jHC {s:Scr} {m bits x y:Int} {n:Nat} {st:List Oq} {L:Nat->List Lv} {o:Oq} (hi:zJI m s.ims) (hb:zQo bits=m) (hv:StV bits s.ims.length st) (hst:∀ j,StOk m st (L j)) (h65:st.length<=65) (hk:o.kind=3) (hne:st≠[])
  (hn:n<=100000) (hx:x<=536870912) (hy:y<=536870912) :
  2<=(colF n L).length/\zUL s m (colF n L).dropLast (topF (colF n L)).op (rsR m (topF (colF n L)).acc (topF (colF n L)).back) x y/\popF s m x y (colF n L)=colF n λj=>zJi m s.ims (x+j) y (L j) o:=by
 rcases wXZ st with rfl | ⟨st',c,rfl⟩
 ·exact absurd rfl hne
 rw [wX0] at *;obtain ⟨P,t,e,hkl,hop⟩:=zWy hst;have eL:L=λj=>P j++[t j]:=funext e;have hs:∀ j,StOk m (st'++[c]) (P j++[t j]):=λj=>by rw [<- e]; exact hst j
 obtain ⟨q1,q2⟩:=hv st' c [] rfl;obtain ⟨_,g1,⟨g2,g3,g4,g5⟩,f1,f2,f3,f4,_⟩:=zZn (.inr q1) q2;have hc:=λj=>(hs j).pre;have ho:=(hs 0).opac c (by simp);have et:(t 0).op=c:=(hc 0).1;have ru:=λj=>zGW ((hs j).lv (t j) (by simp));have hlen:st'.length<=65:=by rw [wQi] at h65; omega
 have eT:colF n L=colF n P++[⟨(t 0).op,rng n λj=>(t j).acc,rng n λj=>(t j).back⟩]:=by rw [eL,zXD hkl]
 have lR:(rsR m (rng n λj=>(t j).acc) (rng n λj=>(t j).back)).length=n:=by rw [zUj,zXb]
 have r:=jX4 (n:=n) (o:=c) (src:=rsR m (rng n λj=>(t j).acc) (rng n λj=>(t j).back)) (p:=λj=>zZ0 (t j).acc (t j).back m) (x:=x) (y:=y) hi (λj=>(hc j).2) hlen hn g1 g4 g5 ho.1 ho.2 f2 f3 f4 lR
  ru (λj hj=>by rw [zY9 (by rw [lR]; exact hj),jWv,zWi hj,zKY hj]) hx hy
 have hl:(colF n L).length=(colF n P).length+1:=by rw [eT,wQi]; rfl
 have hP:1<=(colF n P).length:=by rw [zYv,hkl,wQi]; simp
 rw [eT,wZk,zYi];refine ⟨by rw [wQi]; simp; omega,by rw [et]; exact r.1,?_⟩;unfold popF;rw [wZk,zYi];simp only;rw [et,r.2];congr 1;funext j;obtain ⟨P',u,e'⟩:=(hc j).2.split;have:=jX2 (x:=x+j) (y:=y) (ms:=s.ims) hi (by rw [<- e']; exact hs j) f2 f3 f4;rw [jXE hk,e,e',this.1]
theorem jW1 (s:Scr) (r:Rc) (i:Nat):zZx s r 0 (i+1)=zZx s r 0 i++(if zXE s r i then [opAt s i] else []):=by rw [zZx,Nat.zero_add]
theorem jWu (m:Int) (ms:List Im) (x y:Int) (l:List Oq) (o:Oq) (L:List Lv):runM m ms x y (l++[o]) L=zJi m ms x y (runM m ms x y l L) o:=by rw [zYQ]; rfl
theorem jKH {s:Scr} {i:Nat} (h:i<s.ops.length):opAt s i=s.ops[i]:=by unfold opAt; rw [List.getElem?_eq_getElem h]; rfl
theorem jKK {bits:Int} {mn:Nat}:∀ {l st st':List Oq},okO bits mn l st=some st'->st.length<=64->st'.length<=64
 | [],st,st',h,hl=>by simp only [okO,wQa] at h; subst h; exact hl
 | o::l,st,st',h,hl=>by
  simp only [okO] at h;split at h
  ·rename_i he;refine jKK h ?_
   rcases zJc he with hk | hk | ⟨hk,_⟩
   ·rw [zKS hk]; exact hl
   ·rw [zWw hk,wQi];have:=(zZn (.inr hk) he).2.2.2.2.2.2.2 hk;simp; omega
   ·have hk:o.kind=3:=by rw [hk]; rfl
    unfold zXA;rw [if_neg (by omega),if_pos hk,wXT]; omega
  ·cases h
structure zYg (s:Scr) (m:Int):Prop where
  run:s.run.1=0
  ims:zJI m s.ims
  most:zQo s.bits=m
  opac:∀ o∈s.ops,0<=o.opac
theorem zYg.opAt0 {s:Scr} {m:Int} (h:zYg s m) (p:Nat):0<=(opAt s p).opac:=by
 unfold opAt
 rcases wQr p s.ops.length with h1 | h1
 ·rw [List.getElem?_eq_getElem h1]; exact h.opac _ (List.getElem_mem h1)
 ·rw [wQO h1]; decide
theorem zYg.kept0 {s:Scr} {m:Int} (h:zYg s m) (r:Rc) (n:Nat):∀ k,∀ o∈zZx s r n k,0<=o.opac
 | 0,o,ho=>by simp [zZx] at ho
 | k+1,o,ho=>by
  rw [zZx] at ho
  rcases List.mem_append.1 ho with ho | ho
  ·exact h.kept0 r n k o ho
  ·split at ho
   ·rw [wQj.1 ho]; exact h.opAt0 _
   ·simp at ho
theorem zYg.kept {s:Scr} {m:Int} (h:zYg s m) (r:Rc):okO s.bits s.ims.length (zZx s r 0 s.ops.length) []=some []:=by
 obtain ⟨ok,e⟩:=zXu h.run;have ho:=(zY8 h.run).2;have h1:okO s.bits s.ims.length (foOf s).flat []=some []:=by
  rw [<- e]; exact ho
 have h2:=zHm h.run r (foOf s) 0 (Occ.whole s ok) (λj hj=>by omega);rw [<- zZH h.run] at h2;rw [h2];exact (jQz _ [] (jZh s r (foOf s) [] (jQX _ [] [] ok h1).1)).2
theorem zYg.at_ {s:Scr} {m:Int} (h:zYg s m) (r:Rc) {i:Nat} (hi:i<=s.ops.length):∃ st,okO s.bits s.ims.length (zZx s r 0 i) []=some st/\okO s.bits s.ims.length (zZx s r i (s.ops.length-i)) st=some []/\st.length<=64/\StV s.bits s.ims.length st /\
  ∀ x y,StOk m st (runM m s.ims x y (zZx s r 0 i) [zZR]):=by
 have e:=zK5 s r 0 i (s.ops.length-i);rw [Nat.zero_add,show i+(s.ops.length-i)=s.ops.length by omega] at e;have hk:=h.kept r;rw [e,zJD] at hk
 cases hs:okO s.bits s.ims.length (zZx s r 0 i) [] with
 | none=>rw [hs] at hk; cases hk
 | some st=>
  rw [hs] at hk;have rp:=λx y=>jWt h.ims h.most x y (zZx s r 0 i) [] st [zZR] hs (h.kept0 r 0 i) .nil (jJ4 h.ims.full);exact ⟨st,rfl,hk,jKK hs (by simp),(rp 0 0).1,λx y=>(rp x y).2⟩
theorem zGu {s:Scr} {r:Rc} {i:Nat} {st:List Oq} (hi:i<s.ops.length) (ha:zXE s r i=true) (h:okO s.bits s.ims.length (zZx s r i (s.ops.length-i)) st=some []):errO s.bits s.ims.length (opAt s i) st=0:=by
 rw [show s.ops.length-i=(s.ops.length-i-1)+1 by omega,zUB,if_pos ha,List.singleton_append] at h;simp only [okO] at h;split at h
 ·assumption
 ·cases h
def jGY (s:Scr) (r:Rc) (k:Nat):Prop:=∀ j,j<k->(opAt s j).kind=2->k<=enAt s j->hitB s r j=true
theorem jGY.live {s:Scr} {r:Rc} {k:Nat} (h:jGY s r k):Live s r k:=λj h1 h2 h3=>h j h1 h2 (by omega)
structure zH2 (s:Scr) (r:Rc) (m x y n:Int) (q:Nat × List Fr):Prop where
  le:q.1<=s.ops.length
  live:jGY s r q.1
  fr:q.2=colF n.toNat λj=>runM m s.ims (x+j) y (zZx s r 0 q.1) [zZR]
theorem jWI {s:Scr} {r:Rc} {i:Nat} (hv:s.run.1=0) (hi:i<s.ops.length) (hl:jGY s r i) (hk:(opAt s i).kind=3):zXE s r i=true:=by
 rcases jX8 hv hi with h | h | ⟨_,q,q1,q2,q3,_⟩
 ·omega
 ·omega
 ·have hq:q<s.ops.length:=by omega
  have:=jJ7 hv r hq q2;rw [q3] at this;rw [this,zXx];refine ⟨hl q q1 q2 (by omega),λj hj h2 h3=>?_⟩;have:=zW1 hv (by omega:j<s.ops.length) hj (by omega);exact hl j (by omega) h2 (by omega)
theorem yQl {s:Scr} {r:Rc} (hv:s.run.1=0) {i:Nat} (hi:i<s.ops.length):(actL s r)[i]?=some (zXE s r i):=by
 unfold actL zXe;rw [if_pos hv];simp [hi]
theorem yQj {s:Scr} {r:Rc} (hv:s.run.1=0):(actL s r).length=s.ops.length:=by
 unfold actL zXe;rw [if_pos hv];simp
section
variable {s:Scr} {r:Rc} {m x y n:Int} {q:Nat × List Fr}
theorem zH2.start (hc:zYg s m):zH2 s r m x y n (0,[zUZ n.toNat]):=by
 refine ⟨Nat.zero_le _,λj hj=>by omega,?_⟩
 show [zUZ n.toNat]=colF n.toNat λj=>[zZR]
 rw [jUy]
theorem zH2.good (hc:zYg s m) (h:zH2 s r m x y n q) (hi:q.1<s.ops.length) (hn:0<=n/\n<=100000) (hx:x<=536870912) (hy:y<=536870912) :
  jUO s m (zZy s.ops).1 (actL s r) x y n q (opAt s q.1)/\zH2 s r m x y n (jQe s m (zZy s.ops).1 (actL s r) x y n q (opAt s q.1)):=by
 obtain ⟨i,F⟩:=q;obtain ⟨hle,hl,hF⟩:=h;simp only at hi hle hl hF |-;subst hF;obtain ⟨st,s1,s2,s3,s4,s5⟩:=hc.at_ r hle;have s5:∀ j:Nat,StOk m st (runM m s.ims (x+j) y (zZx s r 0 i) [zZR]):=λj=>s5 _ _;have el:(colF n.toNat λj=>runM m s.ims (x+j) y (zZx s r 0 i) [zZR]).length=st.length+1:=by rw [zYv]; exact (s5 0).len
 have tr:=jWa n.toNat s5 (by omega);have ei:=zUJ hc.run hi;have ag:=yQl (r:=r) hc.run hi;have eg:=jJ1 hc.run hi;have hkd:=jX8 hc.run hi;have ho:=hc.opAt0 i
 have pop:(opAt s i).kind=3->_:=λhk=>jHC (x:=x) (y:=y) (n:=n.toNat) (o:=opAt s i) hc.ims hc.most s4 s5 (by omega) hk (by
  have he:=zGu hi (jWI hc.run hi hl hk) s2
  rcases zJc he with q | q | ⟨_,q⟩
  ·omega
  ·omega
  ·exact q) (by omega) hx hy
 have drw:(opAt s i).kind=1->zXE s r i=true->_:=λhk ha=>jGK (x:=x) (y:=y) (n:=n) (o:=opAt s i) hc.ims hc.most s5 (by omega) hk ho (zGu hi ha s2) hn hx hy;have grow:zXE s r i=true->∀ j:Nat,runM m s.ims (x+j) y (zZx s r 0 (i+1)) [zZR]=zJi m s.ims (x+j) y (runM m s.ims (x+j) y (zZx s r 0 i) [zZR]) (opAt s i):=λha j=>by
  rw [jW1,if_pos ha,jWu]
 refine ⟨⟨⟨by show 1<=(colF _ _).length; omega,by show (colF _ _).length<=65; omega⟩,tr.1,λhk=>?_,λ_=>by rw [yQj hc.run]; exact hi,λ_ ha=>⟨enAt s i,eg,ei.1,ei.2⟩,λk3 k2 ha=>?_⟩,?_⟩
 ·obtain ⟨a,b,_⟩:=pop hk;exact ⟨a,b⟩
 ·have ha:zXE s r i=true:=by
   rw [ag] at ha; injection ha
  have k1:(opAt s i).kind=1:=by
   rcases hkd with h | h | ⟨h,_⟩
   ·exact h
   ·exact absurd h k2
   ·exact absurd h k3
  obtain ⟨g0,_,⟨g2,g3,_,_⟩,_⟩:=zZn (.inl k1) (zGu hi ha s2);have g2:=zK2 g2;have g3:=zK2 g3;exact ⟨(drw k1 ha).1,g0 k1,⟨by omega,by omega⟩,by omega,by omega⟩
 ·unfold jQe;simp only [ag,eg,wQF];by_cases k3:(opAt s i).kind=3
  ·have ha:=jWI hc.run hi hl k3;rw [if_pos k3,(pop k3).2.2];refine ⟨hi,λj hj h2 h3=>?_,?_⟩
   ·show hitB s r j=true
    have h3:i+1<=enAt s j:=h3
    rcases wQr j i with c | c
    ·exact hl j c h2 (by omega)
    ·have:j=i:=by have:j<i+1:=hj; omega
     subst this; omega
   ·show colF n.toNat _=colF n.toNat _
    simp only [grow ha]
  ·rw [if_neg k3]
   cases ha:zXE s r i with
   | false=>
    rw [if_pos rfl];have en:((enAt s i:Nat):Int).toNat=enAt s i:=by omega
    have none_:zZx s r 0 (enAt s i+1)=zZx s r 0 i:=by
     have e:=zK5 s r 0 i (enAt s i+1-i);rw [Nat.zero_add,show i+(enAt s i+1-i)=enAt s i+1 by omega] at e;rw [e,zUA s r i (enAt s i+1-i) (λp p1 p2=>?_),wQW]
     rcases wQr i p with c | c
     ·have k2:(opAt s i).kind=2:=by
       rcases hkd with h | h | ⟨h,_⟩
       ·have:=jUt hc.run hi (by omega); omega
       ·exact h
       ·exact absurd h k3
      have hb:hitB s r i=false:=by rw [<- zWP hl.live]; exact ha
      rcases wQr p (enAt s i) with c2 | c2
      ·cases hp:zXE s r p with
       | false=>rfl
       | true=>
        have:=((zXx s r p).1 hp).2 i c k2 c2;rw [hb] at this; cases this
      ·have:p=enAt s i:=by omega
       rw [this,jJ7 hc.run r hi k2,ha]
     ·have:p=i:=by omega
      rw [this,ha]
    refine ⟨by show (_:Int).toNat+1<=_; omega,λj hj h2 h3=>?_,?_⟩
    ·have hj:j<((enAt s i:Nat):Int).toNat+1:=hj;have h3:((enAt s i:Nat):Int).toNat+1<=enAt s j:=h3
     rcases wYn j i with c | c | c
     ·exact hl j c h2 (by omega)
     ·subst c; omega
     ·have:=zW1 hc.run hi c (by omega);omega
    ·show colF n.toNat _=colF n.toNat _
     simp only [en,none_]
   | true=>
    rw [if_neg (by decide)];by_cases k2:(opAt s i).kind=2
    ·rw [if_pos k2];obtain ⟨P,t,e,hk,hop⟩:=zWy s5;have d64:=(zZn (.inr k2) (zGu hi ha s2)).2.2.2.2.2.2.2 k2;have cp:=jGN (n:=n.toNat) (o:=opAt s i) hk hop k2 d64;refine ⟨hi,λj hj h2 h3=>?_,?_⟩
     ·have h3:i+1<=enAt s j:=h3
      rcases wQr j i with c | c
      ·exact hl j c h2 (by omega)
      ·have:j=i:=by have:j<i+1:=hj; omega
       subst this;exact ((zXx s r j).1 ha).1
     ·show zGh (colF n.toNat _) _=colF n.toNat _
      simp only [grow ha];have e1:(λj:Nat=>runM m s.ims (x+j) y (zZx s r 0 i) [zZR])=λj=>P j++[t j]:=funext e;have e2:(λj:Nat=>zJi m s.ims (x+j) y (runM m s.ims (x+j) y (zZx s r 0 i) [zZR]) (opAt s i))=λj=>jVu (P j++[t j]) (opAt s i):=funext λj=>by
       rw [e j]; unfold zJi;rw [if_neg (by omega),if_pos k2]
      rw [e1,e2,cp]
    ·rw [if_neg k2];have k1:(opAt s i).kind=1:=by
      rcases hkd with h | h | ⟨h,_⟩
      ·exact h
      ·exact absurd h k2
      ·exact absurd h k3
     rw [(drw k1 ha).2];refine ⟨hi,λj hj h2 h3=>?_,?_⟩
     ·have h3:i+1<=enAt s j:=h3
      rcases wQr j i with c | c
      ·exact hl j c h2 (by omega)
      ·have:j=i:=by have:j<i+1:=hj; omega
       subst this; omega
     ·show colF n.toNat _=colF n.toNat _
      simp only [grow ha]
end
section
variable {s:Scr} {r:Rc} {m x y n:Int}
theorem zGS (hc:zYg s m) (hn:0<=n/\n<=100000) (hx:x<=536870912) (hy:y<=536870912):∀ k,zH2 s r m x y n (zZV s m (zZy s.ops).1 (actL s r) x y n k)
 | 0=>zH2.start hc
 | k+1=>by
  have ih:=zGS hc hn hx hy k;rw [zVo]
  rcases wQr (zZV s m (zZy s.ops).1 (actL s r) x y n k).1 s.ops.length with h | h
  ·rw [zUk h,<- jKH h];exact (ih.good hc h hn hx hy).2
  ·rw [zGR h]; exact ih
theorem jKo (hc:zYg s m) (hn:0<=n/\n<=100000) (hx:x<=536870912) (hy:y<=536870912):∀ k o,s.ops[(zZV s m (zZy s.ops).1 (actL s r) x y n k).1]?=some o->jUO s m (zZy s.ops).1 (actL s r) x y n (zZV s m (zZy s.ops).1 (actL s r) x y n k) o:=λk o ho=>by
 have ih:=zGS hc hn hx hy (r:=r) k;obtain ⟨h,e⟩:=wQD.1 ho;rw [<- e,<- jKH h];exact (ih.good hc h hn hx hy).1
theorem jXK (hc:zYg s m) (hn:0<=n/\n<=100000) (hx:x<=536870912) (hy:y<=536870912):zYB s m (zZy s.ops).1 (actL s r) x y n=colF n.toNat λj=>runM m s.ims (x+j) y (zZx s r 0 s.ops.length) [zZR]:=by
 have ih:=zGS hc hn hx hy (r:=r) s.ops.length;have hg:=jZw (jKo hc hn hx hy (r:=r)) s.ops.length;have hl:=ih.le;have e:(zZV s m (zZy s.ops).1 (actL s r) x y n s.ops.length).1=s.ops.length:=by omega
 have hf:=ih.fr;rw [e] at hf;exact hf
theorem jKQ (hc:zYg s m) (r:Rc) (x y:Int):StOk m [] (runM m s.ims x y (zZx s r 0 s.ops.length) [zZR]):=by
 obtain ⟨st,s1,s2,_,_,s5⟩:=hc.at_ r (Nat.le_refl _);have:=hc.kept r;rw [this] at s1;injection s1 with s1
 subst s1;exact s5 x y
theorem jUX (hc:zYg s m) (hn:0<=n/\n<=100000) (hx:x<=536870912) (hy:y<=536870912):zH3 s m (zZy s.ops).1 (actL s r) x y n:=by
 have he:=jXK hc hn hx hy (r:=r);have hs:∀ j:Nat,StOk m [] (runM m s.ims (x+j) y (zZx s r 0 s.ops.length) [zZR]):=λj=>jKQ hc r (x+j) y;have t:=jWa n.toNat hs (by omega);have l:(colF n.toNat λj=>runM m s.ims (x+j) y (zZx s r 0 s.ops.length) [zZR]).length=1:=by rw [zYv]; exact (hs 0).len
 have e:frN (colF n.toNat λj=>runM m s.ims (x+j) y (zZx s r 0 s.ops.length) [zZR]) 0=topF (colF n.toNat λj=>runM m s.ims (x+j) y (zZx s r 0 s.ops.length) [zZR]):=by
  unfold frN topF;rw [l]
 refine ⟨jKo hc hn hx hy,⟨by rw [he,l]; omega,by rw [he,l]; omega,by rw [he,e]; exact t.1⟩,by rw [he,e]; exact t.2⟩
theorem jWw (hc:zYg s m) (hn:0<=n/\n<=100000) (hx:x<=536870912) (hy:y<=536870912) {j:Nat} (hj:j<n.toNat):pxN (zYA s m (zZy s.ops).1 (actL s r) x y n) j=zJN m s.ims (x+j) y (zZx s r 0 s.ops.length):=by
 have he:=jXK hc hn hx hy (r:=r);have hs:∀ j:Nat,StOk m [] (runM m s.ims (x+j) y (zZx s r 0 s.ops.length) [zZR]):=λj=>jKQ hc r (x+j) y;obtain ⟨P,t,e,hk,hop⟩:=zWy hs;have eP:∀ j,P j=[]:=λj=>List.eq_nil_of_length_eq_zero (by rw [hk]; rfl);have eL:(λj:Nat=>runM m s.ims (x+j) y (zZx s r 0 s.ops.length) [zZR])=λj=>P j++[t j]:=funext e;have e0:frN (colF n.toNat λj=>P j++[t j]) 0=⟨(t 0).op,rng n.toNat λj=>(t j).acc,rng n.toNat λj=>(t j).back⟩:=by
  rw [zXD hk];have:colF n.toNat P=[]:=List.eq_nil_of_length_eq_zero (by rw [zYv,hk]; rfl);rw [this]; rfl
 unfold zYA;rw [he,eL,e0];have lR:(rsR m (rng n.toNat λj=>(t j).acc) (rng n.toNat λj=>(t j).back)).length=n.toNat:=by rw [zUj,zXb]
 rw [zY9 (by rw [lR]; exact hj),jWv,zWi hj,zKY hj];unfold zJN;simp only [e j,eP j,List.nil_append];have ok:=((hs j).lv (t j) (by rw [e j]; simp)).ok;rw [if_neg (by simp)]
 show _=resL m (t j)
 unfold resL resB;rw [if_pos ok]
theorem jX3 (hc:zYg s m) (hw:0<=r.c-r.a/\r.c-r.a<=1000) (hh:r.d-r.b<=1000) (h1 : -536870912<=r.a/\r.a<=536870912) (h2 : -536870912<=r.b/\r.d<=536870912):zUa s m (zZy s.ops).1 r:=
 ⟨λk hk=>by unfold zQP at hk; exact jUX hc ⟨hw.1,by omega⟩ h1.2 (by omega),hw,hh,h1,h2⟩
theorem jVz (hc:zYg s m) (hw:0<=r.c-r.a/\r.c-r.a<=1000) (hh:r.d-r.b<=1000) (h1 : -536870912<=r.a/\r.a<=536870912) (h2 : -536870912<=r.b/\r.d<=536870912) {u v:Nat} (hu:u<(r.c-r.a).toNat) (hv:v<zQP r) :
  pxN (zXq s m (zZy s.ops).1 r (zQP r)) (v*(r.c-r.a).toNat+u)=zJN m s.ims (r.a+u) (r.b+v) (zZx s r 0 s.ops.length):=by
 rw [jKB (jX3 hc hw hh h1 h2) (zQP r) (Nat.le_refl _) v u hv hu];unfold zQP at hv;exact jWw hc ⟨hw.1,by omega⟩ h1.2 (by omega) hu
end
theorem jHU {w h:Int} {l:List Px} (hk:ofOk w h l.length=true) {x y:Int} (hx:0<=x/\x<w) (hy:0<=y/\y<h):(imOf w h l).at_ x y=pxN l (y*w+x).toNat:=by
 have hf:=zV8 hk;rw [zV9 hk];have e:(l.length:Int)=w*h:=by
  unfold ofOk at hk;rw [wQf] at hk;exact wQ2 hk.2
 have h1:(y+1)*w<=h*w:=Int.mul_le_mul_of_nonneg_right (by omega) (by omega);rw [wZ6,wZB] at h1;have h2:h*w=w*h:=wQy _ _;have h0:0<=y*w:=Int.mul_nonneg (by omega) (by omega);have hl:(y*w+x).toNat<l.length:=by omega
 unfold Im.at_;have c:((ofIm w h l).formed&&decide (0<=x)&&decide (x<(ofIm w h l).w)&&decide (0<=y)&&decide (y<(ofIm w h l).h))=true:=by
  rw [hf];have a:x<(ofIm w h l).w:=hx.2;have b:y<(ofIm w h l).h:=hy.2;simp [hx.1,hy.1,a,b]
 rw [if_pos c,jWR hl,zY9 hl]
theorem jUu {a w:Int} (h0:0<=a) (hw:0<w):0<=a / w/\a / w*w<=a/\a<a / w*w+w:=by
 have h1:=wQL a (by omega:w≠0);have h2:=wQM a hw;have h3:=wZh a w;rw [wQy] at h3;exact ⟨wQs h0 (by omega),by omega,by omega⟩
theorem zGn {W t:Int} (h1:1<=t) (h2:t<=W):1<=(W+t-1) / t/\(W+t-1) / t<=W/\W<=(W+t-1) / t*t/\((W+t-1) / t-1)*t<=W-1:=by
 obtain ⟨a,b,c⟩:=jUu (a:=W+t-1) (w:=t) (by omega) (by omega);generalize (W+t-1) / t=n at *;have h3:(n-1)*t=n*t-t:=by rw [Int.sub_mul,wZB]
 refine ⟨?_,?_,by omega,by omega⟩
 ·rcases wZ7 n 1 with h | h
  ·have:=Int.mul_le_mul_of_nonneg_right (show n<=0 by omega) (show 0<=t by omega);rw [Int.zero_mul] at this; omega
  ·exact h
 ·rcases wZ7 W n with h | h
  ·have q:=Int.mul_le_mul_of_nonneg_right (show W+1<=n by omega) (show 0<=t by omega);rw [wZ6,wZB] at q;have r:=Int.mul_le_mul_of_nonneg_left h1 (show 0<=W by omega);rw [Int.mul_one] at r; omega
  ·exact h
structure Neat (s:Scr):Prop where
  chk:zJv s=(0,0)
  ims:zJI (zQo s.bits) s.ims
  dim:jXx s.ims
  opac:∀ o∈s.ops,0<=o.opac
  w:1<=s.c.c-s.c.a/\s.c.c-s.c.a<=1000
  h:1<=s.c.d-s.c.b/\s.c.d-s.c.b<=1000
  at_:(-268435456<=s.c.a/\s.c.a<=268435456) /\ -268435456<=s.c.b/\s.c.b<=268435456
section
variable {s:Scr} (hn:Neat s)
include hn
theorem Neat.frame:s.frame=0:=by
 have h:=hn.chk;unfold zJv at h;split at h
 ·assumption
 ·rename_i hf;exact absurd (congrArg Prod.fst h) hf
theorem Neat.run:s.run.1=0:=by
 have h:=hn.chk;unfold zJv at h;rw [if_pos hn.frame] at h;split at h
 ·exact congrArg Prod.fst h
 ·rename_i hf;exact absurd (congrArg Prod.fst h) hf
theorem Neat.ctx:zYg s (zQo s.bits):=⟨hn.run,hn.ims,rfl,hn.opac⟩
theorem Neat.parts:(cntS s.c s.tw s.th).2.2=true/\zZQ s.ord (jJa s)=true/\s.ims.length<=64/\s.ops.length<=4096:=by
 have h:=hn.frame;unfold Scr.frame zYc at h;split at h
 ·cases h
 split at h
 ·cases h
 split at h
 ·cases h
 rename_i h3;split at h
 ·cases h
 rename_i h4;split at h
 ·cases h
 rename_i h5;refine ⟨by simpa using h3,?_,by omega,by omega⟩;have h4:¬ zZQ s.ord (jJa s)=false:=h4;simpa using h4
theorem Neat.sides:(1<=s.tw/\s.tw<=s.c.c-s.c.a)/\(1<=s.th/\s.th<=s.c.d-s.c.b)/\(cntS s.c s.tw s.th).1=(s.c.c-s.c.a+s.tw-1) / s.tw/\(cntS s.c s.tw s.th).2.1=(s.c.d-s.c.b+s.th-1) / s.th:=by
 obtain ⟨w1,w2⟩:=hn.w;obtain ⟨h1,h2⟩:=hn.h;obtain ⟨⟨a1,a2⟩,a3,a4⟩:=hn.at_;have wW:wrap .i64 (s.c.c-s.c.a)=s.c.c-s.c.a:=wQb _ ⟨by omega,by omega⟩;have wH:wrap .i64 (s.c.d-s.c.b)=s.c.d-s.c.b:=wQb _ ⟨by omega,by omega⟩;have hp:=hn.parts.1
 have e:(if s.c.empty then (0,0,false)
  else if s.tw<1\/wrap .i64 (s.c.c-s.c.a)<s.tw\/s.th<1\/wrap .i64 (s.c.d-s.c.b)<s.th then (0,0,false)
  else (wrap .i64 (Int.tdiv (wrap .i64 (wrap .i64 (wrap .i64 (s.c.c-s.c.a)+s.tw)-1)) s.tw),wrap .i64 (Int.tdiv (wrap .i64 (wrap .i64 (wrap .i64 (s.c.d-s.c.b)+s.th)-1)) s.th),true))=cntS s.c s.tw s.th:=rfl
 rw [wW,wH] at e;rw [<- e] at hp |-;split at hp
 ·cases hp
 rename_i q1;split at hp
 ·cases hp
 rename_i q2;have t1:1<=s.tw/\s.tw<=s.c.c-s.c.a:=by omega
 have t2:1<=s.th/\s.th<=s.c.d-s.c.b:=by omega
 have b1:=zGn t1.1 t1.2;have b2:=zGn t2.1 t2.2;rw [if_neg q1,if_neg q2];refine ⟨t1,t2,?_,?_⟩
 ·show wrap .i64 _=_
  rw [wQb (s.c.c-s.c.a+s.tw) ⟨by omega,by omega⟩,wQb (s.c.c-s.c.a+s.tw-1) ⟨by omega,by omega⟩,wQS (by omega),wQb _ ⟨by omega,by omega⟩]
 ·show wrap .i64 _=_
  rw [wQb (s.c.d-s.c.b+s.th) ⟨by omega,by omega⟩,wQb (s.c.d-s.c.b+s.th-1) ⟨by omega,by omega⟩,wQS (by omega),wQb _ ⟨by omega,by omega⟩]
end
def zJB (s:Scr) (nx i:Int):Rc:=⟨s.c.a+i%nx*s.tw,s.c.b+i / nx*s.th,min (s.c.a+i%nx*s.tw+s.tw) s.c.c,min (s.c.b+i / nx*s.th+s.th) s.c.d⟩
section
variable {s:Scr} (hn:Neat s)
include hn
theorem Neat.num:∃ nx ny:Int,(cntS s.c s.tw s.th).1=nx/\(cntS s.c s.tw s.th).2.1=ny/\(1<=nx/\nx<=1000/\s.c.c-s.c.a<=nx*s.tw/\(nx-1)*s.tw<=s.c.c-s.c.a-1)/\(1<=ny/\ny<=1000/\s.c.d-s.c.b<=ny*s.th/\(ny-1)*s.th<=s.c.d-s.c.b-1)/\jJa s=nx*ny/\1<=nx*ny/\nx*ny<=1000000:=by
 obtain ⟨t1,t2,e1,e2⟩:=hn.sides;obtain ⟨a1,a2,a3,a4⟩:=zGn t1.1 t1.2;obtain ⟨b1,b2,b3,b4⟩:=zGn t2.1 t2.2;have w2:=hn.w.2;have h2:=hn.h.2;have m1:1*1<=(s.c.c-s.c.a+s.tw-1) / s.tw*((s.c.d-s.c.b+s.th-1) / s.th):=wQx a1 b1 (by omega) (by omega);have m2:(s.c.c-s.c.a+s.tw-1) / s.tw*((s.c.d-s.c.b+s.th-1) / s.th)<=1000*1000:=wQx (by omega) (by omega) (by omega) (by omega);refine ⟨_,_,e1,e2,⟨a1,by omega,a3,a4⟩,⟨b1,by omega,b3,b4⟩,?_,by omega,by omega⟩;unfold jJa;rw [e1,e2,wQb _ ⟨by omega,by omega⟩]
theorem Neat.rect {nx ny:Int} (e1:(cntS s.c s.tw s.th).1=nx) (e2:(cntS s.c s.tw s.th).2.1=ny) (n1:1<=nx/\nx<=1000/\s.c.c-s.c.a<=nx*s.tw/\(nx-1)*s.tw<=s.c.c-s.c.a-1) (n2:1<=ny/\ny<=1000/\s.c.d-s.c.b<=ny*s.th/\(ny-1)*s.th<=s.c.d-s.c.b-1)
  {i:Int} (hi:0<=i/\i<nx*ny):zUt s.c s.tw s.th i=(zJB s nx i,true)/\(zJB s nx i).a<(zJB s nx i).c/\(zJB s nx i).b<(zJB s nx i).d/\zU1 s (zJB s nx i):=by
 obtain ⟨t1,t2,_,_⟩:=hn.sides;obtain ⟨w1,w2⟩:=hn.w;obtain ⟨h1,h2⟩:=hn.h;obtain ⟨⟨a1,a2⟩,a3,a4⟩:=hn.at_;have i1:=wQL i (show nx≠0 by omega);have i2:=wQM i (show 0<nx by omega);have i3:=wQs hi.1 (show 0<=nx by omega);have i4:i / nx<ny:=wZV (by omega) (by rw [wQy]; exact hi.2);have m1:i%nx*s.tw<=(nx-1)*s.tw:=Int.mul_le_mul_of_nonneg_right (by omega) (by omega);have m2:i / nx*s.th<=(ny-1)*s.th:=Int.mul_le_mul_of_nonneg_right (by omega) (by omega);have m3:0<=i%nx*s.tw:=Int.mul_nonneg i1 (by omega);have m4:0<=i / nx*s.th:=Int.mul_nonneg i3 (by omega);refine ⟨?_,by unfold zJB; simp only; omega,by unfold zJB; simp only; omega,⟨by unfold zJB; simp only; omega,by unfold zJB; simp only; omega⟩⟩;unfold zUt zJB;rw [e1,e2,hn.parts.1,wQS hi.1,wZO hi.1];have q1:i / nx<=1000:=by omega
 rw [wQb (i / nx) ⟨by omega,by omega⟩,if_neg (by simp; omega)];simp only;rw [wQb (i%nx*s.tw) ⟨by omega,by omega⟩,wQb (i / nx*s.th) ⟨by omega,by omega⟩,wQb (s.c.a+i%nx*s.tw) ⟨by omega,by omega⟩,wQb (s.c.b+i / nx*s.th) ⟨by omega,by omega⟩,wQb (s.c.a+i%nx*s.tw+s.tw) ⟨by omega,by omega⟩,wQb (s.c.b+i / nx*s.th+s.th) ⟨by omega,by omega⟩]
theorem Neat.order {nx ny:Int} (eN:jJa s=nx*ny) (h1:1<=nx*ny) (h2:nx*ny<=1000000):(zXo s).length=(nx*ny).toNat/\(∀ v∈zXo s,0<=v/\v<nx*ny)/\∀ i,0<=i->i<nx*ny->i∈zXo s:=by
 have ho:=hn.parts.2.1;have e:zXo s=seqL s.ord (jJa s):=by unfold zXo zXZ; rw [if_pos ho]
 unfold zZQ at ho;simp only [wQf,wQh,wZW] at ho;obtain ⟨⟨⟨_,_⟩,hl⟩,g1,g2⟩:=ho;have l:=jZs hl;rw [e];rw [eN] at g1 g2 l |-;refine ⟨l,g1,λi i0 i1=>?_⟩;have key:∀ (L:List Int),L.Nodup->(∀ v∈L,0<=v/\v<nx*ny)->L.length=(nx*ny).toNat->i∈L:=λL q1 q2 q3=>by
  rcases Decidable.em (i∈L) with h | h
  ·exact h
  ·exfalso;have n1:(i::L).Nodup:=wXo.2 ⟨h,q1⟩;have sub:(i::L) ⊆ upto (nx*ny).toNat:=λv hv=>by
    have hv2:0<=v/\v<nx*ny:=by
     rcases wQz.1 hv with h | h
     ·subst h; exact ⟨i0,i1⟩
     ·exact q2 v h
    unfold upto;refine wQv.2 ⟨v.toNat,wQw.2 (by omega),?_⟩
    show (v.toNat:Int)=v
    omega
   have:=List.Nodup.length_le_of_subset n1 sub;rw [wQJ,q3] at this;unfold upto at this;rw [wQu,wZu] at this;omega
 exact key _ g2 g1 l
end
theorem jKV {r:Rc} {x y:Int} (h:r.has x y=true):(r.a<=x/\x<r.c)/\r.b<=y/\y<r.d:=by
 unfold Rc.has at h;simp only [wQf,wQq,wQh] at h;omega
theorem jUb {r:Rc} {x y:Int} (h:(r.a<=x/\x<r.c)/\r.b<=y/\y<r.d) (hv:(-1000000000<=r.a/\r.c<=1000000000) /\ -1000000000<=r.b/\r.d<=1000000000):r.has x y=true:=by
 have he:r.empty=false:=by rw [Rc.empty_iff]; omega
 unfold Rc.has;rw [he];simp; omega
def ptV (s:Scr) (x y:Int):Px:=zJN (zQo s.bits) s.ims x y s.ops
section
variable {s:Scr} (hn:Neat s)
include hn
theorem Neat.kept_value {r:Rc} {x y:Int} (hc:s.c.has x y=true) (hr:r.has x y=true):zJN (zQo s.bits) s.ims x y (zZx s r 0 s.ops.length)=ptV s x y:=by
 obtain ⟨ok,e⟩:=zXu hn.run;have h1:okO s.bits s.ims.length (foOf s).flat []=some []:=by
  rw [<- e]; exact (zY8 hn.run).2
 have h2:=zHm hn.run r (foOf s) 0 (Occ.whole s ok) (λj hj=>by omega);rw [<- zZH hn.run] at h2;have hop:∀ o∈s.ops,0<=o.opac:=hn.opac;rw [e] at hop;have key:=zUi (s:=s) hn.dim hn.ims rfl hc hr (foOf s) [] [] zZR (jQX _ [] [] ok h1).1 hop (jJ4 hn.ims.full);rw [List.nil_append] at key;unfold ptV zJN;rw [h2,key,<- e]
theorem Neat.tileAt {k:Nat} (hk:k<(zZe s).length):zU1 s (zXa s k)/\(zXa s k).a<(zXa s k).c/\(zXa s k).b<(zXa s k).d:=by
 obtain ⟨nx,ny,e1,e2,n1,n2,eN,p1,p2⟩:=hn.num;obtain ⟨l,o1,o2⟩:=hn.order eN p1 p2;have lt:(zZe s).length=(zXo s).length:=wQu ..;have k1:k<(zXo s).length:=by omega
 have eK:zXa s k=(zUt s.c s.tw s.th (zXo s)[k]).1:=by
  unfold zXa;rw [List.getElem?_eq_getElem hk];simp [zZe]
 obtain ⟨q1,q2,q3,q4⟩:=hn.rect e1 e2 n1 n2 (o1 _ (List.getElem_mem k1));rw [eK,q1];exact ⟨q4,q2,q3⟩
theorem Neat.good {r:Rc} (h:zU1 s r):zUa s (zQo s.bits) (zZy s.ops).1 r:=by
 obtain ⟨w1,w2⟩:=hn.w;obtain ⟨h1,h2⟩:=hn.h;obtain ⟨⟨a1,a2⟩,a3,a4⟩:=hn.at_;obtain ⟨x1,x2,x3⟩:=h.x;obtain ⟨y1,y2,y3⟩:=h.y;exact jX3 hn.ctx ⟨by omega,by omega⟩ (by omega) ⟨by omega,by omega⟩ ⟨by omega,by omega⟩
theorem Neat.rend:jYU s:=by
 obtain ⟨nx,ny,e1,e2,n1,n2,eN,p1,p2⟩:=hn.num;obtain ⟨l,_,_⟩:=hn.order eN p1 p2;exact ⟨hn.chk,hn.w,hn.h,hn.at_,λk hk=>(hn.tileAt hk).1,λk hk=>hn.good (hn.tileAt hk).1,λ_=>by rw [e1]; omega,by rw [l]; omega,by have:=hn.parts.2.2.2; omega⟩
theorem Neat.part_px {r:Rc} (h:zU1 s r) {x y:Int} (hx:r.a<=x/\x<r.c) (hy:r.b<=y/\y<r.d):pxN (jWb s r) ((y-r.b).toNat*(r.c-r.a).toNat+(x-r.a).toNat)=ptV s x y:=by
 obtain ⟨w1,w2⟩:=hn.w;obtain ⟨h1,h2⟩:=hn.h;obtain ⟨⟨a1,a2⟩,a3,a4⟩:=hn.at_;obtain ⟨x1,x2,x3⟩:=h.x;obtain ⟨y1,y2,y3⟩:=h.y;have:=jVz (r:=r) hn.ctx ⟨by omega,by omega⟩ (by omega) ⟨by omega,by omega⟩ ⟨by omega,by omega⟩ (u:=(x-r.a).toNat) (v:=(y-r.b).toNat) (by omega) (by unfold zQP; omega);unfold jWb;rw [this,show r.a+((x-r.a).toNat:Int)=x by omega,show r.b+((y-r.b).toNat:Int)=y by omega];exact hn.kept_value (jUb ⟨⟨by omega,by omega⟩,by omega,by omega⟩ ⟨⟨by omega,by omega⟩,by omega,by omega⟩) (jUb ⟨hx,hy⟩ ⟨⟨by omega,by omega⟩,by omega,by omega⟩)
end
theorem jU5 {l xs:List Px} {i p:Nat} (h:i+xs.length<=l.length):pxN (jJD l i xs) p=if i<=p/\p<i+xs.length then pxN xs (p-i) else pxN l p:=by
 unfold jJD pxN;have hi:(l.take i).length=i:=by rw [wQm]; omega
 rw [List.append_assoc];by_cases h1:p<i
 ·rw [wQH (by omega),wQA,if_pos h1,if_neg (by omega)]
 ·rw [wQp (by omega),hi];by_cases h2:p-i<xs.length
  ·rw [wQH h2,if_pos (by omega)]
  ·rw [wQp (by omega),if_neg (by omega),wZb];congr 2; omega
section
variable {s:Scr} (hn:Neat s)
include hn
theorem Neat.over_px {r:Rc} (h:zU1 s r) {l:List Px} (hl:l.length=((s.c.c-s.c.a)*(s.c.d-s.c.b)).toNat) {x y:Int} (hc:s.c.has x y=true):∀ j,j<=zQP r ->
  pxN (zGi s r l j) ((y-s.c.b)*(s.c.c-s.c.a)+(x-s.c.a)).toNat=if (r.a<=x/\x<r.c)/\r.b<=y/\y<r.b+j then ptV s x y else pxN l ((y-s.c.b)*(s.c.c-s.c.a)+(x-s.c.a)).toNat
 | 0,_=>by
  rw [if_neg (by omega)]; rfl
 | j+1,hj=>by
  have ih:=Neat.over_px h hl hc j (by omega);obtain ⟨⟨c1,c2⟩,c3,c4⟩:=jKV hc;have hp:=hn.good h;have lT:=zWJ hn.rend h hp hl j (by omega);have lJ:=jZx hp (show j<zQP r by omega);obtain ⟨A,eA,A1,A2,A3,A4,A5⟩:=zHT hn.rend h (show j<zQP r by omega);obtain ⟨x1,x2,x3⟩:=h.x;obtain ⟨y1,y2,y3⟩:=h.y;obtain ⟨w1,w2⟩:=hn.w;have eI:atI s r j=(A+r.a-s.c.a).toNat:=by unfold atI; rw [eA]
  have hfit:atI s r j+(rowJ s r j).length<=(zGi s r l j).length:=by rw [lT,lJ,hl,eI]; omega
  rw [zGi,jU5 hfit,lJ,eI,ih];have hN:r.b+(j:Int)<r.d:=by unfold zQP at hj; omega
  by_cases hy:y=r.b+j
  ·subst hy;rw [eA];by_cases hx:r.a<=x/\x<r.c
   ·rw [if_pos ⟨by omega,by omega⟩,if_pos ⟨hx,by omega,by omega⟩];have:=hn.part_px h hx (y:=r.b+j) ⟨by omega,by omega⟩;rw [<- this];have e0:(r.b+(j:Int)-r.b).toNat=j:=by omega
    rw [e0];unfold rowJ pxN;rw [wQA,if_pos (by omega),wZb];congr 2;omega
   ·rw [if_neg (by omega),if_neg (by omega),if_neg (λq=>hx q.1)]
  ·
   have hd:(y-s.c.b)*(s.c.c-s.c.a)=A+(y-(r.b+j))*(s.c.c-s.c.a):=by
    rw [<- eA,<- wZ6]; congr 1; omega
   have hout:¬ ((A+r.a-s.c.a).toNat<=((y-s.c.b)*(s.c.c-s.c.a)+(x-s.c.a)).toNat/\((y-s.c.b)*(s.c.c-s.c.a)+(x-s.c.a)).toNat<(A+r.a-s.c.a).toNat+(r.c-r.a).toNat):=by
    have g0:0<=(y-s.c.b)*(s.c.c-s.c.a):=Int.mul_nonneg (by omega) (by omega);rw [hd] at g0 |-
    rcases Int.lt_or_gt_of_ne hy with q | q
    ·have:=Int.mul_le_mul_of_nonneg_right (show y-(r.b+j) <= -1 by omega) (show 0<=s.c.c-s.c.a by omega);omega
    ·have:=Int.mul_le_mul_of_nonneg_right (show 1<=y-(r.b+j) by omega) (show 0<=s.c.c-s.c.a by omega);omega
   rw [if_neg hout];have:((r.a<=x/\x<r.c)/\r.b<=y/\y<r.b+((j+1:Nat):Int))↔((r.a<=x/\x<r.c)/\r.b<=y/\y<r.b+(j:Int)):=by omega
   simp only [this]
theorem Neat.all_px {x y:Int} (hc:s.c.has x y=true):∀ k,k<=(zZe s).length->(∃ i,i<k/\(zXa s i).has x y=true)->pxN (allP s k) ((y-s.c.b)*(s.c.c-s.c.a)+(x-s.c.a)).toNat=ptV s x y
 | 0,_,⟨i,hi,_⟩=>by omega
 | k+1,hk,⟨i,hi,hh⟩=>by
  have lk:=zW7 hn.rend k (by omega);have t:=(hn.tileAt (show k<(zZe s).length by omega)).1;rw [allP,hn.over_px t lk hc (zQP (zXa s k)) (Nat.le_refl _)];have eN:((zQP (zXa s k):Nat):Int)=(zXa s k).d-(zXa s k).b:=by
   have:=t.y;unfold zQP; omega
  split
  ·rfl
  ·rename_i hno;refine Neat.all_px hc k (by omega) ⟨i,?_,hh⟩
   rcases wQr i k with q | q
   ·exact q
   ·have:i=k:=by omega
    subst this;have:=jKV hh;exact absurd ⟨this.1,by omega,by omega⟩ hno
theorem Neat.image_px {x y:Int} (hc:s.c.has x y=true):(zV4 s).at_ (x-s.c.a) (y-s.c.b)=ptV s x y:=by
 obtain ⟨nx,ny,e1,e2,n1,n2,eN,p1,p2⟩:=hn.num;obtain ⟨l,o1,o2⟩:=hn.order eN p1 p2;obtain ⟨⟨c1,c2⟩,c3,c4⟩:=jKV hc;obtain ⟨t1,t2,_,_⟩:=hn.sides;obtain ⟨w1,w2⟩:=hn.w;obtain ⟨h1,h2⟩:=hn.h;have lA:=zW7 hn.rend _ (Nat.le_refl _);have m1:(s.c.c-s.c.a)*(s.c.d-s.c.b)<=1000*1000:=wQx (by omega) (by omega) (by omega) (by omega);have m0:0<=(s.c.c-s.c.a)*(s.c.d-s.c.b):=Int.mul_nonneg (by omega) (by omega);have ok:ofOk (s.c.c-s.c.a) (s.c.d-s.c.b) (allP s (zZe s).length).length=true:=by
  unfold ofOk zZg;rw [lA];simp only [wQf,wQh];refine ⟨⟨⟨by omega,by omega⟩,by omega⟩,by omega⟩
 unfold zV4;rw [jHU ok ⟨by omega,by omega⟩ ⟨by omega,by omega⟩];refine hn.all_px hc _ (Nat.le_refl _) ?_;obtain ⟨u1,u2,u3⟩:=jUu (a:=x-s.c.a) (w:=s.tw) (by omega) (by omega);obtain ⟨v1,v2,v3⟩:=jUu (a:=y-s.c.b) (w:=s.th) (by omega) (by omega);generalize (x-s.c.a) / s.tw=u at *;generalize (y-s.c.b) / s.th=v at *;have un:u<nx:=by
  rcases wZ7 u nx with q | q
  ·exact q
  ·have:=Int.mul_le_mul_of_nonneg_right q (show 0<=s.tw by omega); omega
 have vn:v<ny:=by
  rcases wZ7 v ny with q | q
  ·exact q
  ·have:=Int.mul_le_mul_of_nonneg_right q (show 0<=s.th by omega); omega
 have b0:0<=v*nx:=Int.mul_nonneg v1 (by omega);have b1:(v+1)*nx<=ny*nx:=Int.mul_le_mul_of_nonneg_right (by omega) (by omega);rw [wZ6,wZB,wQy ny] at b1;have hi:0<=v*nx+u/\v*nx+u<nx*ny:=⟨by omega,by omega⟩
 have hm:=o2 _ hi.1 hi.2;obtain ⟨k,hk,ek⟩:=wYf hm;have lt:(zZe s).length=(zXo s).length:=wQu ..;have k2:k<(zZe s).length:=by omega
 have eK:zXa s k=(zUt s.c s.tw s.th (v*nx+u)).1:=by
  unfold zXa;rw [List.getElem?_eq_getElem k2];simp [zZe,ek]
 refine ⟨k,k2,?_⟩;have tk:=(hn.rect e1 e2 n1 n2 hi).2.2.2;obtain ⟨⟨a1,a2⟩,a3,a4⟩:=hn.at_;have tx:=tk.x;have ty:=tk.y;rw [eK,(hn.rect e1 e2 n1 n2 hi).1];have d1:(v*nx+u)%nx=u:=by rw [wXu,wYz]; exact wYh u1 un
 have d2:(v*nx+u) / nx=v:=by rw [wXu,wYi _ _ (by omega),Int.ediv_eq_zero_of_lt u1 un]; omega
 have r0:zJB s nx (v*nx+u)=⟨s.c.a+u*s.tw,s.c.b+v*s.th,min (s.c.a+u*s.tw+s.tw) s.c.c,min (s.c.b+v*s.th+s.th) s.c.d⟩:=by unfold zJB; rw [d1,d2]
 refine jUb ?_ ⟨⟨by show _<=(zJB s nx (v*nx+u)).a; omega,by show (zJB s nx (v*nx+u)).c<=_; omega⟩,by show _<=(zJB s nx (v*nx+u)).b; omega,by show (zJB s nx (v*nx+u)).d<=_; omega⟩
 show ((zJB s nx (v*nx+u)).a<=x/\x<(zJB s nx (v*nx+u)).c)/\(zJB s nx (v*nx+u)).b<=y/\y<(zJB s nx (v*nx+u)).d
 rw [r0];simp only;omega
end
def oneO (r:Rw) (n:Int) (c:Rc) (most:Int):Oq:={ gOp r false n c true most with mask:=0,mx:=0,my:=0,opac:=most }
structure yQ8 (bits:Int) (mn:Nat) (most:Int) (o:Oq):Prop where
  kind:o.kind=1
  mask:o.mask=0
  opac:o.opac=most
  oper:isNm o.oper=true
  mode:isNm o.mode=true
  plain:o.mode≠7/\o.mode≠8
  err:errO bits mn o []=0
theorem jHI {bits:Int} {mn:Nat} {r:Rw} {c:Rc} {most:Int} (hm:1<=mn/\mn<=64) (hc:(-100<=c.a/\c.a<=100) /\ -100<=c.b/\c.b<=100) (hb:zQo bits=most) (h0:0<=most/\most<=65535) :
  yQ8 bits mn most (zQ8 (oneO r mn c most)):=by
 have b1:=@zZa r.im mn (by omega) (by omega);have b3:=@zZa (wrap .i64 (Int.tdiv r.ope 2)) 12 (by omega) (by omega);have b4:=@zZa (wrap .i64 (Int.tdiv r.mo 2)) 12 (by omega) (by omega);have o1:=@zJ7 r.x c.a hc.1;have o2:=@zJ7 r.y c.b hc.2;obtain ⟨ope,mo,im,x,y,e,p1,p2,p3,p4,p5⟩:∃ ope mo im x y:Int,zQ8 (oneO r mn c most)=⟨1,im,x,y,0,0,0,most,ope,mo,false,false⟩/\(1<=ope/\ope<13)/\((1<=mo/\mo<13)/\mo≠7/\mo≠8)/\(0<=im/\im<mn)/\(-200<=x/\x<=200)/\(-200<=y/\y<=200):=by
  have q:∃ ope mo im x y:Int,oneO r mn c most=⟨1,im,x,y,0,0,0,most,ope,mo,false,false⟩/\(1<=ope/\ope<13)/\(1<=mo/\mo<13)/\(0<=im/\im<mn)/\(-200<=x/\x<=200)/\(-200<=y/\y<=200):=by
   refine ⟨_,_,_,_,_,rfl,?_,?_,?_,?_,?_⟩<;>simp only [gOp,wQQ,if_false,wXt,wQh]
   ·split<;>omega
   ·split<;>omega
   ·exact b1
   ·exact o1
   ·exact o2
  obtain ⟨ope,mo,im,x,y,e,p1,p2,p3,p4,p5⟩:=q;rw [e];unfold zQ8;split
  ·exact ⟨ope,3,im,x,y,rfl,p1,by omega,p3,p4,p5⟩
  ·rename_i h;exact ⟨ope,mo,im,x,y,rfl,p1,⟨p2,by simp only at h; omega⟩,p3,p4,p5⟩
 rw [e];refine ⟨rfl,rfl,rfl,decide_eq_true p1,decide_eq_true p2.1,p2.2,?_⟩;have cx:ctxB []=true:=rfl;unfold errO;rw [hb];rw [if_neg (by simp)];rw [if_neg (by simp [Oq.fields])];rw [if_neg (by simp)];rw [if_neg (by simp; omega)]
 rw [if_neg (by
  simp only [wZU,zWO]
  omega)]
 rw [if_neg (by simp only; omega)];rw [if_neg (by simp only; omega)];rw [if_neg (by simp only; omega)];rw [if_neg (by rw [cx]; simp)];rw [if_neg (by simp)]
def Scn.oneScr (s:Scn) (r:Rw):Scr:=s.withOps [zQ8 (oneO r s.ims.length s.c s.most)]
theorem Scn.one_ok (s:Scn) (r:Rw):yQ8 s.bits s.ims.length s.most (zQ8 (oneO r s.ims.length s.c s.most)):=by
 have li:=s.ims_len;have cf:=s.c_facts;have mi:=s.most_in;exact jHI (by omega) (by omega) s.bits_most (by omega)
theorem Scn.one_okO (s:Scn) (r:Rw):okO s.bits s.ims.length [zQ8 (oneO r s.ims.length s.c s.most)] []=some []:=by
 have h:=s.one_ok r;rw [zHf h.err,zKS h.kind]
theorem Scn.one_neat (s:Scn) (r:Rw):Neat (s.oneScr r):=by
 have CF:=s.c_facts;have FF:=s.facts;have h:=s.one_ok r;have mi:=s.most_in;refine ⟨s.with_check (by simp) (s.one_okO r),?_,s.dim_ok,λo ho=>?_,⟨?_,?_⟩,⟨?_,?_⟩,⟨?_,?_⟩,?_,?_⟩
 ·show zJI (zQo s.bits) s.ims
  rw [s.bits_most]; exact s.ims_ok
 ·have ho:o=zQ8 (oneO r s.ims.length s.c s.most):=wQj.1 ho;rw [ho,h.opac]; omega
 ·show 1<=s.c.c-s.c.a; omega
 ·show s.c.c-s.c.a<=1000; omega
 ·show 1<=s.c.d-s.c.b; omega
 ·show s.c.d-s.c.b<=1000; omega
 ·show -268435456<=s.c.a; omega
 ·show s.c.a<=268435456; omega
 ·show -268435456<=s.c.b; omega
 ·show s.c.b<=268435456; omega
section
attribute [local irreducible] Ans AnsO AnsG AnsN AnsI
def awT:Scr:=⟨8,⟨0,0,3,2⟩,2,1,[],[zQ3 1 1 ⟨200,0,0,255,255⟩],[⟨1,0,2,1,0,0,0,255,4,1,false,false⟩]⟩
theorem jXk:Neat awT where
  chk:=by decide +kernel
  ims:=⟨by decide,λi hi x y=>by
    have hi:i=zQ3 1 1 ⟨200,0,0,255,255⟩:=wQj.1 hi;subst hi;unfold Im.at_;have e:(zQ3 1 1 ⟨200,0,0,255,255⟩).px x y=⟨200,0,0,255,255⟩:=rfl;rw [e];split
    · exact ⟨by decide,by unfold Px.nn; decide⟩
    · exact ⟨by decide,by unfold Px.nn; decide⟩⟩
  dim:=λi hi=>by
    have hi:i=zQ3 1 1 ⟨200,0,0,255,255⟩:=wQj.1 hi;subst hi;decide
  opac:=λo ho=>by
    have ho:o=⟨1,0,2,1,0,0,0,255,4,1,false,false⟩:=wQj.1 ho;subst ho;decide
  w:=by decide
  h:=by decide
  at_:=by decide
theorem yQf:ptV awT 2 1=⟨200,0,0,255,255⟩:=by decide +kernel
theorem jGQ:ptV awT 1 1=.zero:=by decide +kernel
def jHV:Gam:=yQO.add [.p 10 (λ| []=>some (RV.d (dQ true)) | _=>none)]
def zYe:Ann:=dZ (Ann.cut (Inv.mk Unit (λ(d:Unit)=>True) (λ(c:Unit)=>yM (gC 1 1 2 2 []) 1 (aGE 200 255 255 []) 2 (gK awT.bits awT.c.a awT.c.b awT.c.c awT.c.d awT.tw awT.th [Cl.ref 7000 (List.length awT.ord),Cl.ref 7001 (qA awT),Cl.ref 7002 (dV awT)]) (tT 7000 3 1 (is awT.ord) 7001 43 28 (fG awT) 7002 61 12 (fD awT) [])) (λ(b:Unit)=>(0:Nat))) Ann.leaf (λ(a:Unit)=>Ann.leaf))
theorem zKM:vcg prog jHV 35 (zW4 Tryz.f10) (zYe ) kn0 (start []) (post prog Tryz.f10.results.toList (·=RV.d (DV.bool true))) =
 (let d:=zV4 ⟨awT.bits,awT.c,awT.tw,awT.th,ints (is awT.ord),zQI (fG awT),zQl (fD awT)⟩;let a:=Im.at_ d 1 1;let e:=imR d;let b:=Im.at_ d 2 1;let c:=awT.c;dP (xH (∃ g:Unit,True/\cQ (bP True) (eS (dR 200 0 0 255 255)) (bE 8 awT.bits/\cF c.a/\rI (cF c.b) (bE 3 c.c) (bE 2 c.d) (bE 2 awT.tw) (bE 1 awT.th) (mH 0 awT.ord) (1=qA awT) (1=dV awT)) (([]:List DV)=is awT.ord) (oT 1 1 true (kC 200 0 0 255 255 0 0 0 0 [] (cO 0 0 0 0 [] 0 0 0 0 [] (cO 0 0 0 0 [] 0 0 0 0 [] [])))=fG awT) (pL 1 0 2 1 0 0 0 255 4 1 false false=fD awT))) (∀ f:Unit,bL True (bF 8 (iS awT.bits c.a c.b c.c c.d awT.tw awT.th (DV.sl (List.length awT.ord) (is awT.ord)::tU (qA awT) (fG awT) (dV awT) (fD awT))) [] (zP e 0 (qY 0))) (aG (aCH ((0:Int)==0) (iK (yU 13 e 2 1 b) (aCH (zQ (zB (b.a==200) b.b b.c) (b.al==255) (b.f==255)) (iK (yU 13 e 1 1 a) (dA (aB (zB (zB (a.a==0) a.b a.c) a.al a.f)=aB true))) (True/\eS true/\aB false=aB true))) (dA (aB false=aB true)))))):=by kernel_rfl
theorem zYd:Ans prog 10 [] (rD (dQ true)):=
 zQa (Γ:=jHV) (zYe ) zQb Tryz.func10 rfl (nL rfl) λhwf=>by
  refine Eq.mpr (zKM ) ?_;delta eS aE aF aG dR iQ iS oT bP pL dA mB bL dP mH qY iK bF dB zP aB bE iN tU rI qA dV fG fD cQ pS oS cO kC fR yU cF zQ zB xH aCH;simp only [sS];have eS:(⟨awT.bits,awT.c,awT.tw,awT.th,ints (is awT.ord),zQI (ims awT.ims),zQl (ops awT.ops)⟩:Scr)=awT:=zJy awT;have hu:∀ m∈awT.ims,m.isU:=λi hi=>by
   have hi:i=zQ3 1 1 ⟨200,0,0,255,255⟩:=wQj.1 hi;subst hi;exact zV1 _ _ _
  have a:=zJV awT hu (by decide) jXk.rend;have p1:=jXk.image_px (x:=2) (y:=1) (by decide);have p2:=jXk.image_px (x:=1) (y:=1) (by decide);rw [yQf] at p1;rw [jGQ] at p2;have p1:(zV4 awT).at_ 2 1=⟨200,0,0,255,255⟩:=p1;have p2:(zV4 awT).at_ 1 1=.zero:=p2;have ri:(zV4 awT).isU:=jZ1 _ _ _;have i1:=zYx (zV4 awT) 2 1 ri;have i2:=zYx (zV4 awT) 1 1 ri;simp only [eS,p1,p2] at a i1 i2 |-;exact ⟨⟨(),⟨rfl,rfl,rfl,rfl,rfl,rfl,rfl,rfl,rfl,rfl⟩,rfl,rfl,rfl⟩,a,λ_=>⟨i1,λ_=>⟨i2,by decide⟩,λh=>absurd h (by decide)⟩,λh=>absurd h (by decide)⟩
end
def zXz (P:Program) (ls:List TypeId) (n:Nat) (xs:List DV):Prop:=
 xs.length=n*ls.length/\∀ (j:Nat) d,xs[j]?=some d->∃ t',ls[j%ls.length]?=some t'/\∃ q,zXY P q t' d
theorem zXz.at_ {P:Program} {ls:List TypeId} {n:Nat} {xs:List DV} (h:zXz P ls n xs) {k r:Nat} {t:TypeId} (hk:k<n) (hr:ls[r]?=some t):∃ d q,xs[k*ls.length+r]?=some d/\zXY P q t d:=by
 obtain ⟨hn,hx⟩:=h;have hr':r<ls.length:=(wQD.1 hr).1;have hle:(k+1)*ls.length<=n*ls.length:=wQR _ (by omega);rw [wQn] at hle;have hj:k*ls.length+r<xs.length:=by omega
 obtain ⟨t',a,q,b⟩:=hx _ _ (List.getElem?_eq_getElem hj);rw [wQI k,Nat.mul_add_mod,wQX hr',hr] at a;injection a with a
 subst a;exact ⟨_,q,List.getElem?_eq_getElem hj,b⟩
theorem zXz.int {P:Program} {ls:List TypeId} {n:Nat} {xs:List DV} (h:zXz P ls n xs) {k r:Nat} {t:TypeId} {kk:IntKind} (hk:k<n) (hr:ls[r]?=some t) (hu:P.underlying t=some (.int kk)):xs[k*ls.length+r]?=some (.int kk (nAt xs (k*ls.length+r))):=by
 obtain ⟨d,q,e,b⟩:=h.at_ hk hr;obtain ⟨v,rfl⟩:=b.int hu;simp only [nAt,e]
theorem zXz.bool {P:Program} {ls:List TypeId} {n:Nat} {xs:List DV} (h:zXz P ls n xs) {k r:Nat} {t:TypeId} (hk:k<n) (hr:ls[r]?=some t) (hu:P.underlying t=some .bool):xs[k*ls.length+r]?=some (.bool (bAt xs (k*ls.length+r))):=by
 obtain ⟨d,q,e,b⟩:=h.at_ hk hr;obtain ⟨v,rfl⟩:=b.bool hu;simp only [bAt,e]
theorem zXz.sl {P:Program} {ls:List TypeId} {n:Nat} {xs:List DV} (h:zXz P ls n xs) {k r:Nat} {t e:TypeId} {ms:List TypeId} (hk:k<n) (hr:ls[r]?=some t) (hu:P.underlying t=some (.slice e)) (hl:lv P e=some ms) :
  xs[k*ls.length+r]?=some (.sl (lAt xs (k*ls.length+r)) (cAt xs (k*ls.length+r)))/\zXz P ms (lAt xs (k*ls.length+r)) (cAt xs (k*ls.length+r)):=by
 obtain ⟨d,q,e1,b⟩:=h.at_ hk hr;obtain ⟨m,ys,rfl,_,h1,h2⟩:=b.slice hu hl;simp only [lAt,cAt,e1];exact ⟨trivial,h1,h2⟩
theorem zXz.ints {P:Program} {t:TypeId} {n:Nat} {xs:List DV} (h:zXz P [t] n xs) (hu:P.underlying t=some (.int .i64)):xs=is (ints xs)/\n=xs.length:=
 jHc (by have:=h.1; simpa using this) λj d hj=>by obtain ⟨t',a,q,b⟩:=h.2 j d hj; exact jKT hu a b
theorem zXz.five {P:Program} {t:TypeId} {n:Nat} {xs:List DV} (h:zXz P [t,t,t,t,t] n xs) (hu:P.underlying t=some (.int .i64)):Is5 n xs:=
 yQC h.1 λj d hj=>by obtain ⟨t',a,q,b⟩:=h.2 j d hj; exact jGm hu a b
theorem zXz.pics {P:Program} {t ts e:TypeId} {n:Nat} {xs:List DV} (h:zXz P [t,t,t,t,ts] n xs) (hu:P.underlying t=some (.int .i64)) (hs:P.underlying ts=some (.slice e)) (hl:lv P e=some [t,t,t,t,t]):jHi n xs:=
 ⟨h.1,λk hk=>⟨h.int (r:=0) hk rfl hu,h.int (r:=1) hk rfl hu,h.int (r:=2) hk rfl hu,h.int (r:=3) hk rfl hu,(h.sl (r:=4) hk rfl hs hl).1,(h.sl (r:=4) hk rfl hs hl).2.five hu⟩⟩
theorem zXz.raws {P:Program} {t:TypeId} {n:Nat} {xs:List DV} (h:zXz P [t,t,t,t,t,t,t,t,t,t,t] n xs) (hu:P.underlying t=some (.int .i64)):yQ9 n xs:=by
 refine ⟨h.1,λi hi=>?_⟩;have hr:[t,t,t,t,t,t,t,t,t,t,t][i%11]?=some t:=by
  have h2:i%11<11:=wZr _ (by omega);generalize i%11=r at *
  match r,h2 with
  | 0,_ | 1,_ | 2,_ | 3,_ | 4,_ | 5,_ | 6,_ | 7,_ | 8,_ | 9,_ | 10,_=>rfl
 have:=h.int (k:=i / 11) (r:=i%11) (by omega) hr hu;have e:i / 11*[t,t,t,t,t,t,t,t,t,t,t].length+i%11=i:=by show i / 11*11+i%11=i; omega
 rw [e] at this;exact this
theorem jUE {xs ys:List DV} {n m:Nat} (hx:xs.length=n*m) (hy:ys.length=n*m) (h:∀ k,k<n->∀ j,j<m->xs[k*m+j]?=ys[k*m+j]?):xs=ys:=by
 refine wZY λi=>?_;by_cases hi:i<n*m
 ·have hm:0<m:=by
   rcases wZ0 m with h0 | h0
   ·subst h0; simp at hi
   ·exact h0
  have:=h (i / m) (Nat.div_lt_of_lt_mul (by rw [wQI]; exact hi)) (i%m) (wZr _ hm);have e:i / m*m+i%m=i:=by rw [wQI]; exact wZQ i m
  rw [e] at this;exact this
 ·rw [wQO (by omega),wQO (by omega)]
theorem zXz.ops {P:Program} {t u b:TypeId} {n:Nat} {xs:List DV} (h:zXz P [t,t,t,t,t,t,t,u,t,t,b,b] n xs) (ht:P.underlying t=some (.int .i64)) (hu:P.underlying u=some (.int .u16)) (hb:P.underlying b=some .bool):yZa n xs:=by
 have hl:xs.length=n*12:=h.1;have hn:(zQl xs).length=n:=by unfold zQl; rw [wQu,wZu,hl]; omega
 refine ⟨jUE hl (by rw [zQC,hn]) λk hk j hj=>?_,hn.symm⟩;have e:(zQl xs)[k]'(by omega)=oqAt xs (k*12):=by simp [zQl]
 rw [zHb (by omega) j hj,e];have key:=λr (hr:r<12)=>h.at_ (k:=k) (r:=r) (t:=[t,t,t,t,t,t,t,u,t,t,b,b][r]) hk (List.getElem?_eq_getElem hr)
 match j,hj with
 | 0,_=>exact h.int (r:=0) hk rfl ht
 | 1,_=>exact h.int (r:=1) hk rfl ht
 | 2,_=>exact h.int (r:=2) hk rfl ht
 | 3,_=>exact h.int (r:=3) hk rfl ht
 | 4,_=>exact h.int (r:=4) hk rfl ht
 | 5,_=>exact h.int (r:=5) hk rfl ht
 | 6,_=>exact h.int (r:=6) hk rfl ht
 | 7,_=>exact h.int (r:=7) hk rfl hu
 | 8,_=>exact h.int (r:=8) hk rfl ht
 | 9,_=>exact h.int (r:=9) hk rfl ht
 | 10,_=>exact h.bool (r:=10) hk rfl hb
 | 11,_=>exact h.bool (r:=11) hk rfl hb
def IsBs (n:Nat) (xs:List DV):Prop:=xs.length=n/\∀ i,i<n->xs[i]?=some (.bool (bAt xs i))
theorem zXz.bools {P:Program} {b:TypeId} {n:Nat} {xs:List DV} (h:zXz P [b] n xs) (hb:P.underlying b=some .bool):IsBs n xs:=
 ⟨by have:=h.1; simpa using this,λi hi=>by
  have:=h.bool (k:=i) (r:=0) hi rfl hb
  simpa using this⟩
section
attribute [local irreducible] Ans AnsO AnsG AnsN AnsI
def zJ6:Gam:=jHV.add [.p 16 (λ| [.agg [.int _ bits,.int _ cx0,.int _ cy0,.int _ cx1,.int _ cy1,.int _ tw,.int _ th,.sl on oxs,.sl mn mxs,.sl pn pxs]]=>some (RV.agg [dJ bits,dJ cx0,dJ cy0,dJ cx1,dJ cy1,dJ tw,dJ th,dS on oxs,dS mn mxs,dS ((zQl pxs).map zQ8).length (ops ((zQl pxs).map zQ8))]) | _=>none),
 .p 17 (λ| [.agg [.int _ ra,.int _ rb,.int _ rc_,.int _ rd],.d (.int _ x),.d (.int _ y)]=>some (RV.tup [rJ (ptB ⟨ra,rb,rc_,rd⟩ x y).1,rJ (ptB ⟨ra,rb,rc_,rd⟩ x y).2]) | _=>none),
 .p 18 (λ| [.agg [.int _ bits,.int _ cx0,.int _ cy0,.int _ cx1,.int _ cy1,.int _ tw,.int _ th,.sl on oxs,.sl mn mxs,.sl pn pxs]]=>some (RV.tup [rJ 1,rJ 0]) | _=>none),
 .p 20 (λ| [.d (.int _ v),.d (.int _ m),.agg [.int _ xl,.int _ xh],.d (.int _ n)]=>some (RV.d (dQ true)) | _=>none),
 .q 7 ([true],0,3) (λ| [AV.agg [Cl.d (DV.int _ sb),Cl.d (DV.int _ sx),Cl.d (DV.int _ sy),Cl.d (DV.int _ sw),Cl.d (DV.int _ sh),Cl.d (DV.int _ stw),Cl.d (DV.int _ sth),Cl.d (DV.sl son soxs),Cl.d (DV.sl spn spxs),Cl.d (DV.sl srn srxs)]],[]=>some ⟨AV.agg [cJ (⟨sb,sx,sy,sw,sh,stw,sth,son,soxs,spn,spxs,srn,srxs⟩:Scn).bits,cJ (⟨sb,sx,sy,sw,sh,stw,sth,son,soxs,spn,spxs,srn,srxs⟩:Scn).c.a,cJ (⟨sb,sx,sy,sw,sh,stw,sth,son,soxs,spn,spxs,srn,srxs⟩:Scn).c.b,cJ (⟨sb,sx,sy,sw,sh,stw,sth,son,soxs,spn,spxs,srn,srxs⟩:Scn).c.c,cJ (⟨sb,sx,sy,sw,sh,stw,sth,son,soxs,spn,spxs,srn,srxs⟩:Scn).c.d,cJ (⟨sb,sx,sy,sw,sh,stw,sth,son,soxs,spn,spxs,srn,srxs⟩:Scn).gtw,cJ (⟨sb,sx,sy,sw,sh,stw,sth,son,soxs,spn,spxs,srn,srxs⟩:Scn).gth,Cl.ref 0 (⟨sb,sx,sy,sw,sh,stw,sth,son,soxs,spn,spxs,srn,srxs⟩:Scn).ord.length,Cl.ref 1 (⟨sb,sx,sy,sw,sh,stw,sth,son,soxs,spn,spxs,srn,srxs⟩:Scn).ims.length,Cl.ref 2 (⟨sb,sx,sy,sw,sh,stw,sth,son,soxs,spn,spxs,srn,srxs⟩:Scn).ops.length],[Bx.row 3 1 (is (⟨sb,sx,sy,sw,sh,stw,sth,son,soxs,spn,spxs,srn,srxs⟩:Scn).ord),Bx.row 43 28 (ims (⟨sb,sx,sy,sw,sh,stw,sth,son,soxs,spn,spxs,srn,srxs⟩:Scn).ims),Bx.row 61 12 (ops (⟨sb,sx,sy,sw,sh,stw,sth,son,soxs,spn,spxs,srn,srxs⟩:Scn).ops)],false⟩ | _,_=>none)]
theorem zXw (s:Scn) (r:Rw) (x y:Int) (hs:s.ok):Ans prog 4 [rA [dJ s.b,dJ s.x,dJ s.y,dJ s.w,dJ s.h,dJ s.tw,dJ s.th,dS s.on s.oxs,dS s.pn s.pxs,dS s.rn s.rxs],rA [dJ r.k,dJ r.im,dJ r.x,dJ r.y,dJ r.ma,dJ r.mx,dJ r.my,dJ r.op,dJ r.ope,dJ r.mo,dJ r.fl],rJ (x),rJ (y)] (rD (dQ true)):=
 zQa (Γ:=zJ6) (cT (Ann.ice [1023,2023,3023] [] aL (cT (Ann.ice [] [32] aL (cT (Ann.ice [44] [44] aL (Ann.cut (Inv.mk Scr (λ(b:Scr)=>b=Scn.oneScr s r) (λ(a:Scr)=>uQ (oJ 2 x 3 y (yK 9 10 (zQo (Scn.bits s)) [])) 9 (rC a.bits a.c.a a.c.b (dY a.c.c a.c.d a.tw a.th (xR a [])))) (λ(d:Scr)=>(0:Nat))) aL (λ(c:Scr)=>aL)))))))) zQb Tryz.func4 rfl (nL rfl) λhwf=>by
  refine Eq.mpr (by kernel_rfl:_=(let b:=aB true;let j:=aB false=b;let l:=aG (aB false=b);let m:=(0:Int)==0;let e:=qY 1;let g:=Scn.bits s;let c:=zQo g;let i:=eS true;let d:=Scn.c s;let k:=gOp r false (aFJ (Scn.ims s)) d true c;let Q:=aDP k k.x k.y 0 0 0 c;let R:=zQl Q;let z:=ims (Scn.ims s);let A:=List.length (Scn.ims s);let S:=DV.sl (List.length (Scn.ord s)) (is (Scn.ord s));let B:=d.d;let C:=d.c;let D:=d.b;let E:=d.a;let T:=iS g E D C B (Scn.gtw s) (Scn.gth s) (S::tU A z (List.length (List.map zQ8 R)) (ops (List.map zQ8 R)));aV (aK (AnsG prog 7 0 [AV.agg (gK s.b s.x s.y s.w s.h s.tw s.th (fO s.on s.oxs (fO s.pn s.pxs (fO s.rn s.rxs []))))] [] ⟨AV.agg (aAN s E D C B 0 1 2 (Scn.ops s) []),[bR 3 1 (is (Scn.ord s)),bR 43 28 z,bR 61 12 (ops (Scn.ops s))],false⟩) (eV (fC 14 g (tZ g)) (True/\True/\True/\A<=maxLen/\bV (fR 15 (rA (DV.int IntKind.i64 r.k::DV.int IntKind.i64 r.im::DV.int IntKind.i64 r.x::DV.int IntKind.i64 r.y::iQ r.ma r.mx r.my r.op (zO r.ope r.mo r.fl))) [aB false,yB (aFJ (Scn.ims s)),cU d,b,aP c] (Oq.cells k)) (aG (True/\True/\True/\(True/\iK (bF 16 (iS g E D C B (Scn.gtw s) (Scn.gth s) (S::tU A z 1 Q)) [] (rA T)) (∃ F:Scr,bK (F=Scn.oneScr s r) (aF (bG x) (bG y) (eS (0:Nat)) (bZ c)) (T=mL F)))/\(∀ a:Scr,let n:=ptB a.c x y;let o:=n.snd;let p:=n.fst;let G:=qL a a.c;let f:=zZB G p o;let q:=f.f;let H:=aX o a.c.b;let I:=aX p a.c.a;let h:=Im.at_ (zV4 G) I H;let J:=h.f;let t:=f.al;let K:=h.al;let u:=f.c;let L:=h.c;let v:=f.b;let M:=h.b;let w:=f.a;let O:=h.a;let P:=imR (zV4 G);a=Scn.oneScr s r->True/\True/\eV (Ans prog 17 (cU a.c::iN x y []) (vX n)) (dN (bF 18 (mL a) [] (eJ 1 0 [])) (aM (bF 8 (mL a) [] (zP P 0 (qY 0))) (aG (aG (aM (fR 13 P (iN I H []) (aE O::aE M::aCM L K J)) (aH (bF 19 (mL a) (iN p o []) (aCB (lK w a) (lL w a) (lK v a) (lL v a) (lK u a) (lL u a) (lK t a) (lL t a) (lK q a) (lL q a))) (True/\Ans prog 10 [] b/\True/\(i->eZ (oL m (True/\True/\True/\(m=true->True/\True/\True/\True/\bL (((1:Int)==1)=true) (fL 3) (aH (fL 5) (pB 20 O c (aN (sL w a)::e) b/\True/\True/\bL i (iX 3) (aH (iX 5) (pB 20 M c (aN (sL v a)::e) b/\True/\True/\bL i (jT 3) (aH (jT 5) (pB 20 L c (aN (sL u a)::e) b/\True/\True/\(i->eZ (aH aAI (pB 20 K c (aN (sL t a)::e) b/\True/\True/\dX i (oF 4 4 5) (aK (pB 20 J c (aN (sL q a)::e) b) (eS b))/\mP true j)))/\fP true true j))/\mP true (bX (aB false) b)))/\(uC true->l)))/\mP ((1:Int)==1) l)/\fP m true l) (lE j)))/\(uC true->aG (aG j))))))))))))))))) ?_;delta eS aE aI bO yB aF aP aG aH aK oF aX eV fL dX cS dY gK iQ aM bG iS oT fM bZ pL dN aDP bX aW bK bL qY iX jT iK aAI fO eZ bF bV zP eJ vX aHB aFJ aAN aB aV sM lB iN tU cU fC qA dV fG fD aGD mL fP tZ mP oL uC fR lE aN qF qG lK lL sL aCB pB qL zO aCM;simp only [sS,zYd];simp only [zZF,zQ5,zQw];have CF:=s.c_facts;have FF:=s.facts;have li:=s.ims_len;have mi:=s.most_in;have bm:=s.bits_most;have MX:=zYq s.bits;have o1:=s.one_ok r;have tn:=s.one_neat r;rw [bm] at MX |-;have GO:=jVa r false s.ims.length s.c true s.most (by omega) (by omega);have eT:s.oneScr r=⟨s.bits,s.c,s.gtw,s.gth,s.ord,s.ims,[zQ8 (oneO r s.ims.length s.c s.most)]⟩:=rfl;have eO:oneO r s.ims.length s.c s.most={ gOp r false s.ims.length s.c true s.most with mask:=0,mx:=0,my:=0,opac:=s.most }:=rfl;generalize gOp r false (s.ims.length:Int) s.c true s.most=g at *;have eo:=zQw [({ g with mask:=0,mx:=0,my:=0,opac:=s.most }:Oq)];have SM:=jY6 ⟨s.bits,s.c,s.gtw,s.gth,s.ord,s.ims,[{ g with mask:=0,mx:=0,my:=0,opac:=s.most }]⟩ (by simp);change zQl [DV.int .i64 g.kind,DV.int .i64 g.image,DV.int .i64 g.x,DV.int .i64 g.y,DV.int .i64 0,DV.int .i64 0,DV.int .i64 0,DV.int .u16 s.most,DV.int .i64 g.oper,DV.int .i64 g.mode,DV.bool g.iso,DV.bool g.kno]=_ at eo;simp only [eo];refine ⟨jY7 s hs,MX,by unfold maxLen; omega,GO,⟨SM,s.oneScr r,rfl,rfl,rfl,rfl,rfl,rfl,rfl,rfl,⟨rfl,rfl⟩,⟨rfl,rfl⟩,by rw [eT,eO]; rfl,by rw [eT,eO]; rfl⟩,λt ht=>?_⟩;clear SM eo GO;rw [<- ht] at tn;have tb:zQo t.bits=s.most:=by rw [ht]; exact bm
  have to:t.ops=[zQ8 (oneO r s.ims.length s.c s.most)]:=by rw [ht]; rfl
  have tc:t.c=s.c:=by rw [ht]; rfl
  have ti:t.ims=s.ims:=by rw [ht]; rfl
  clear eT eO ht;have hu:∀ m∈t.ims,m.isU:=by rw [ti]; exact s.ims_isU
  have hI:t.ims.length<=1000000:=by rw [ti]; omega
  have hpt:=jHy (r:=t.c) (by rw [tc]; omega) x y;have pt:=jKe t.c x y;generalize ptB t.c x y=q at *;obtain ⟨U,V⟩:=q;simp only at hpt pt |-;obtain ⟨⟨u1,u2⟩,u3,u4⟩:=jKV hpt;have RA:=zJV t hu hI tn.rend;have I2:=zYx (zV4 t) (U-t.c.a) (V-t.c.b) (jZ1 _ _ _);have IP:(zV4 t).at_ (U-t.c.a) (V-t.c.b)=ptV t U V:=tn.image_px hpt;have tw:=tn.w;have th:=tn.h;have ta:=tn.at_;generalize zQ8 (oneO r s.ims.length s.c s.most)=o at *;have VA:=jXu t U V hu tn.ims o to o1.kind o1.mask (by rw [tb]; exact o1.opac);have ER:=zHR t o to o1.kind o1.mask (by rw [tb]; exact o1.opac) o1.oper o1.mode o1.plain tn.run;have PV:ptV t U V=zZB t U V:=by
   unfold ptV zZB zGj;rw [to];exact jWO tn.ims o1.kind o1.mask (by rw [tb]; exact o1.opac) o1.oper o1.mode U V
  obtain ⟨pok,pnn⟩:(zZB t U V).ok s.most=true/\(zZB t U V).nn:=by
   have ii:=tn.ims;rw [tb] at ii;obtain ⟨a,b⟩:=zUN ii o U V;unfold zZB zGj;rw [to];exact jZT (zQ4 ii.full).1 a b
  have wU:wrap .i64 (U-t.c.a)=U-t.c.a:=wQb _ ⟨by omega,by omega⟩;have wV:wrap .i64 (V-t.c.b)=V-t.c.b:=wQb _ ⟨by omega,by omega⟩;rw [PV] at IP;rw [IP] at I2;rw [tb] at VA;simp only [wU,wV,IP,tb];generalize zZB t U V=p at *;obtain ⟨g1,g2,g3,g4,g5⟩:=Px.ok_iff.1 pok;obtain ⟨g6,g7,g8⟩:=pnn;have N:∀ n,0<=n->n<=s.most->Ans prog 20 [RV.d (DV.int .u16 n),RV.d (DV.int .u16 s.most),RV.agg [DV.int .i64 (zQt n s.most).lo,DV.int .i64 (zQt n s.most).hi],RV.d (DV.int .i64 1)] (RV.d (DV.bool true)):=λn n0 n1=>by
   obtain ⟨a,b,c⟩:=zGC n0 n1 (by omega) (by omega);exact zKL n s.most _ 1 a b c rfl
  have Na:=N p.a g6 (by omega);have Nb:=N p.b g7 (by omega);have Nc:=N p.c g8 (by omega);have Nl:=N p.al (by omega) (by omega);have Nf:=N p.f (by omega) (by omega);have AW:=zYd
  (repeat' (first | apply And.intro | intro _))<;>first | exact pt | exact ER | exact RA | exact I2 | exact VA | exact Na | exact Nb | exact Nc | exact Nl | exact Nf | exact AW | omega | (exfalso; contradiction)
end
end Go.Proofs.YtbnmadpcdlnleaaGreatDoor
namespace Go.Proofs.YtbnmadpcdlnleaaGreatDoor.closed
open Go
set_option linter.unusedVariables false
set_option linter.unusedSimpArgs false
def headL:List Nat:=[104,97,114,110,101,115,115,32,51,97,55,100,98,54,49,54,50,48,101,51,57,48,101,53,97,56,48,50,57,102,99,101,101,102,51,51,99,54,54,54,97,56,53,56,102,56,55,53,54,101,99,55,102,102,49,50,100,101,101,50,54,101,102,56,98,98,50,56,102,51,52,57,32,99,117,116,32,97,116,32,99,111,109,112,111,115,105,116,111,114,47,99,111,109,112,111,115,105,116,111,114,116,111,112,46,84,111,112,84,105,108,101,115,84,111,103,101,116,104,101,114,32,99,111,109,112,111,115,105,116,111,114,47,99,111,109,112,111,115,105,116,111,114,116,111,112,46,84,111,112,79,110,101,83,116,101,112,73,115,72,97,108,102,65,85,110,105,116,32,99,111,109,112,111,115,105,116,111,114,47,99,111,109,112,111,115,105,116,111,114,116,111,112,46,84,111,112,84,114,97,99,101,69,120,112,108,97,105,110,115,32,99,111,109,112,111,115,105,116,111,114,47,99,111,109,112,111,115,105,116,111,114,116,111,112,46,84,111,112,65,110,121,79,114,100,101,114,79,102,82,117,108,101,115]
set_option maxRecDepth 100000 in
theorem jGr:Tryz.prog.initOrder=String.ofList (headL.map Char.ofNat):=by kernel_rfl
set_option maxRecDepth 100000 in
theorem zHu:Tryz.prog.initOrder.toList=(headL.map Char.ofNat):=by rw [jGr,String.toList_ofList]
set_option maxRecDepth 100000 in
theorem enters:Tryz.prog.mayEnter=true:=by
 unfold Program.mayEnter Program.doorFits;rw [zHu]
 kernel_rfl
set_option maxRecDepth 100000 in
theorem liftsNot:Tryz.prog.liftsFinal=false:=by
 unfold Program.liftsFinal Program.headLifts;rw [zHu]
 kernel_rfl
set_option maxRecDepth 100000 in
theorem made:Tryz.prog.make=some .cut:=by
 unfold Program.make;rw [zHu]
 kernel_rfl
theorem own:ownKnob Tryz.prog.godebug=none:=by kernel_rfl
theorem laidOut:laidOutB Tryz.prog=true:=by kernel_rfl
theorem mapsRow:mapsRowed Tryz.prog=true:=by kernel_rfl
theorem noStops:(Tryz.prog.stops==[])=true:=by kernel_rfl
theorem noKnobs:(Tryz.prog.stopKnobs==[])=true:=by kernel_rfl
theorem plain:Tryz.prog.plainKeys=true:=by kernel_rfl
theorem heard:Tryz.prog.stopsHeard=true:=by kernel_rfl
end Go.Proofs.YtbnmadpcdlnleaaGreatDoor.closed
namespace Go.Proofs.YtbnmadpcdlnleaaGreatDoor
open Go.IntKind (wrap)
open Go.RowKit
set_option linter.unusedVariables false
set_option linter.unusedSimpArgs false
set_option maxRecDepth 20000
section
open Go.ChangeShapes
open Go.WideShapes
def zHO {H:Type} (P:Program):Nat->TypeId->DataW H->Nat->Option DV
 | 0,_,_,_=>none
 | fuel+1,t,d,i=>
  match P.underlying t,d with
  | some (.int k),.lit (.int k' n)=>if i=0/\k'=k then some (.int k n) else none
  | some .bool,.lit (.bool b)=>if i=0 then some (.bool b) else none
  | some .string,.lit (.string s)=>if i=0/\s.length<=maxLen then some (.str ⟨s.toArray⟩) else none
  | some (.struct fs),.agg ds=>(fs.toList.zip ds).findSome? λx=>if x.1.offset<=i/\i<x.1.offset+P.cellsOf x.1.type then zHO P fuel x.1.type x.2 (i-x.1.offset) else none
  | some (.array _ e),.agg ds=>if P.cellsOf e=0 then none else match ds[i / P.cellsOf e]? with
   | some d=>zHO P fuel e d (i%P.cellsOf e)
   | none=>none
  | _,_=>none
section
variable {H:Type} {enc:TypeId × Value->H} {P:Program} {w:World}
theorem jYP {sp:Nat->Bool} {va:Bool} {V:Nat->Prop}:∀ (fuel:Nat) (t:TypeId) (cs:List Value) (d:DataW H) (ps:List MemPlace) (q i:Nat) (dv:DV),
  DataW.trod enc P w 0 sp va fuel t cs=some (d,ps)->zHO P q t d i=some dv->∃ u,cs[i]?=some u/\RepD w V dv u:=by
 intro fuel
 induction fuel with
 | zero=>intro t cs d ps q i dv h; simp [DataW.trod] at h
 | succ fuel ih=>
  intro t cs d ps q i dv h hq
  cases q with
  | zero=>simp [zHO] at hq
  | succ q=>
  unfold DataW.trod at h;unfold zHO at hq;split at h
  ·rename_i b hu;simp only [wQa,wQc] at h;obtain ⟨rfl,_⟩:=h;simp only [hu] at hq;split at hq
   ·rename_i e; subst e; cases hq; exact ⟨_,rfl,by simp only [RepD]⟩
   ·cases hq
  ·rename_i k k' n hu;split at h
   ·rename_i hk;obtain ⟨rfl,hwf⟩:=hk;simp only [wQa,wQc] at h;obtain ⟨rfl,_⟩:=h;simp only [hu] at hq;split at hq
    ·rename_i e; obtain ⟨rfl,_⟩:=e; cases hq; exact ⟨_,rfl,by simp only [RepD]; exact ⟨trivial,hwf⟩⟩
    ·cases hq
   ·cases h
  ·rename_i hu;simp only [hu] at hq;cases hq
  ·rename_i s hu;split at h
   ·simp only [wQa,wQc] at h;obtain ⟨rfl,_⟩:=h;simp only [hu] at hq;split at hq
    ·rename_i e; obtain ⟨rfl,hl⟩:=e; cases hq;exact ⟨_,rfl,by simp only [RepD]; exact ⟨by simp,by simpa using hl⟩⟩
    ·cases hq
   ·cases h
  ·rename_i hu; simp only [hu] at hq; cases hq
  ·rename_i hu; simp only [hu] at hq; cases hq
  ·rename_i hu; simp only [hu] at hq; cases hq
  ·rename_i hu; simp only [hu] at hq; cases hq
  ·rename_i fs hu;split at h
   ·obtain ⟨xs,hxs,h⟩:=wQK.1 h;simp only [wQc] at h;obtain ⟨rfl,_⟩:=h;simp only [hu] at hq;obtain ⟨x,hx,hx2⟩:=List.exists_of_findSome?_eq_some hq;split at hx2
    ·rename_i hr;obtain ⟨j,hj,e⟩:=wYf hx;rw [List.getElem_zip] at e;simp only [List.length_zip,wQu] at hj;have h1:=wZ5 hxs j _ (List.getElem?_eq_getElem (by omega));rw [List.getElem?_eq_getElem (show j<xs.length by omega)] at h1;subst e;simp only [List.getElem_map] at hx2 hr;obtain ⟨u,hu1,hu2⟩:=ih _ _ _ _ q _ dv h1 hx2;refine ⟨u,?_,hu2⟩;rw [wQA,if_pos (by omega),wZb] at hu1;rwa [show _+(i-_)=i from Nat.add_sub_of_le hr.1] at hu1
    ·cases hx2
   ·cases h
  ·rename_i n e hu;split at h
   ·obtain ⟨xs,hxs,h⟩:=wQK.1 h;simp only [wQc] at h;obtain ⟨rfl,_⟩:=h;simp only [hu] at hq;split at hq
    ·cases hq
    ·rename_i hne;split at hq
     ·rename_i d hd;rw [wQN] at hd;obtain ⟨x,hx,rfl⟩:=wQK.1 hd;have hl:=wXs hxs;simp only [wZu] at hl;have hlt:i / P.cellsOf e<xs.length:=(wQD.1 hx).1;have h1:=wZ5 hxs (i / P.cellsOf e) (i / P.cellsOf e) (wZP (by omega));rw [hx] at h1;obtain ⟨u,hu1,hu2⟩:=ih _ _ _ _ q _ dv h1 hq;refine ⟨u,?_,hu2⟩;rw [wQA,if_pos (wZr _ (Nat.pos_of_ne_zero hne)),wZb,wQI] at hu1;rwa [wZQ] at hu1
     ·cases hq
   ·cases h
  all_goals first | (cases h; done) | (clear h ih; simp_all; done) | (clear h ih; split at hq<;>simp_all; done)
end
def jHm (P:Program) (laid:List (String × DataW Unit)) (p:Nat × List DV):Prop:=
 ∃ x t,x∈laid/\P.globalNamed x.1=some p.1/\(P.globals[p.1]?).map (·.type)=some t/\(List.range p.2.length).map (zHO P 6 t x.2)=p.2.map some
def jWp (P:Program) (laid:List (String × DataW Unit)) (g:Nat):Prop:=∃ x,x∈laid/\P.globalNamed x.1=some g/\∃ nm d,x.2=.iface nm d
def yQD (P:Program) (g:Nat):Prop:=∀ w:World,w.ShapedOpen P->∃ m,w.cell? ⟨g,0,none⟩=some (.int .i64 m)
theorem jZ3 {H:Type} {enc:TypeId × Value->H} {P:Program} {w:World} {sp:Nat->Bool} {va:Bool}:∀ {fuel:Nat} {t:TypeId} {cs:List Value} {nm:String} {d:DataW H} {ps:List MemPlace},DataW.trod enc P w 0 sp va fuel t cs=some (.iface nm d,ps)->∃ u v,cs=[.iface u v]:=by
 intro fuel t cs nm d ps h
 cases fuel with
 | zero=>simp [DataW.trod] at h
 | succ fuel=>
  unfold DataW.trod at h;split at h
  all_goals first
   | exact ⟨_,_,rfl⟩
   |(simp at h; done)
   |(split at h<;>simp at h; done)
   |(exfalso; obtain ⟨x,_,h⟩:=wQK.1 h; cases h; done)
   |(exfalso; split at h; (obtain ⟨x,_,h⟩:=wZo.1 h; obtain ⟨y,_,h⟩:=wQK.1 h; cases h); cases h)
   |(exfalso; split at h; (split at h; (obtain ⟨x,_,h⟩:=wZo.1 h; simp only at h; split at h<;>cases h); cases h); cases h)
theorem zK4 {P:Program} {w:World}:∀ {l:List (String × DataW Unit)} {ps:List MemPlace},DataW.LaidVars P w l ps->∀ x∈l,∃ g t cs fuel p,P.globalNamed x.1=some g/\(P.globals[g]?).map (·.type)=some t/\w.var? P x.1=some cs/\DataW.trod (λ_=>()) P w 0 (λ_=>true) false fuel t cs.toList=some (x.2,p)
 | [],_,_,x,hx=>by cases hx
 |(n,d)::r,ps,h,x,hx=>by
  obtain ⟨g,t,cs,fuel,p,q,h1,h2,h3,h4,h5,_⟩:=h
  rcases wQz.1 hx with rfl | hx
  ·exact ⟨g,t,cs,fuel,p,h1,h2,h3,h4⟩
  ·exact zK4 h5 x hx
theorem jUf {P:Program} {laid:List (String × DataW Unit)} {w:World} (hm:laidMetH P laid w) (hp:(laid.all λx=>x.2.handleName?.isNone)=true) (ht:∀ p∈zWa,jHm P laid p) (hs:∀ g∈zWU,jWp P laid g) (hi:∀ g∈zWV,∃ m,w.cell? ⟨g,0,none⟩=some (.int .i64 m)):zJg w (λ_=>True):=by
 rw [MakeChecks.laidMetH_plain _ _ _ hp] at hm;obtain ⟨ps,hl,_⟩:=hm;refine ⟨λp hp _=>?_,λg hg=>⟨trivial,?_⟩,λg hg=>⟨trivial,hi g hg⟩⟩
 rotate_left
 ·obtain ⟨x,hx,h1,nm,d,hd⟩:=hs g hg;obtain ⟨g',t',cs,fuel,q,g1,g2,g3,g4⟩:=zK4 hl x hx;rw [g1] at h1; injection h1 with h1; subst h1
  rw [hd] at g4;obtain ⟨u,v,hc⟩:=jZ3 g4;refine ⟨u,v,?_⟩;rw [World.var?_cell g1 g3 0,<- wXE,hc];rfl
 obtain ⟨x,t,hx,h1,h2,h3⟩:=ht p hp;obtain ⟨g,t',cs,fuel,q,g1,g2,g3,g4⟩:=zK4 hl x hx;rw [g1] at h1; injection h1 with h1; subst h1
 rw [g2] at h2; injection h2 with h2; subst h2
 refine ⟨trivial,RepCells.of_at λi d hi=>?_⟩;have hlt:i<p.2.length:=(wQD.1 hi).1;have h4:((List.range p.2.length).map (zHO P 6 t' x.2))[i]?=(p.2.map some)[i]?:=by rw [h3]
 rw [wQN,wZP hlt,wQN,hi] at h4;simp only [wQt,wQa] at h4;obtain ⟨u,hu1,hu2⟩:=jYP (V:=λ_=>True) fuel t' cs.toList x.2 q 6 i d g4 h4;refine ⟨u,?_,hu2⟩;rw [Nat.zero_add,World.var?_cell g1 g3 i,<- wXE];exact hu1
theorem jZX {H:Type} {enc:TypeId × Value->H} {C:Checked} {os:Os} {f:FuncId} {fn:Func} {s:ChangeSpec} {tb:TypeId} {laid:List (String × DataW Unit)}
  (own:ownKnob C.prog.godebug=none) (started:os.Started) (noInit:C.prog.inits.idxOf? f=none) (hfn:C.prog.funcs[f]?=some fn)
  (witness:∃ (w:World) (tape:Tape) (i:Input),w.os=os/\(w.forCall tape i).Shaped C.prog/\i.vars=[]/\Input.okWide C.prog (w.forCall tape i) .any w.heap.size f i /\
   ((s.pre enc C.prog fn [] false (w.forCall tape i).memory i.args/\laidMetH C.prog laid (w.forCall tape i).memory)/\sizedMet enc C.prog fn (OpenSpec.ofChange s) false (w.forCall tape i).memory i.args)/\({}:Assume).holds C.prog (lone (Frame.enter C.prog f i.args .normal) [] (w.forCall tape i)))
  (hspec:∀ ds:List (DataW H),ds.length=fn.params.toList.length->s.fn H ds={ results:=[.lit (.bool true)],args:=ds }) (hvars:s.vars=[])
  (hres:fn.resultTypes=#[tb]) (hb:C.prog.underlying tb=some .bool) (laidO:laidOutB C.prog=true)
  (hread:∀ t∈fn.params.toList,C.prog.readableRec t=true/\t<C.prog.types.size)
  (hp:(laid.all λx=>x.2.handleName?.isNone)=true) (ht:∀ p∈zWa,jHm C.prog laid p) (hsn:∀ g∈zWU,jWp C.prog laid g) (hin:∀ g∈zWV,yQD C.prog g)
  (walk:∀ (W:World) (args:Array Value),zJg W (λ_=>True)->Args C.prog W fn.params.toList args.toList->Calls C.prog f args W λe W'=>e=.returned (.bool true)/\Below W.heap.size W W') :
  ReturnsInHanded {} C os f .any (λw args=>(s.pre enc C.prog fn [] false w args/\laidMetH C.prog laid w)/\sizedMet enc C.prog fn (OpenSpec.ofChange s) false w args) (s.post enc C.prog fn false true false false):=by
 refine returnsInHanded_of_calls own started noInit witness ?_;intro w0 tape i0 _ hshape _ hok hpre _;obtain ⟨_,_,_,fn',hfn',_,_,_,_,hval⟩:=hok;have efn:=wYs (hfn'.symm.trans hfn);subst efn;obtain ⟨⟨⟨ds,gs,before,hW0,_⟩,hlaid0⟩,hz⟩:=hpre;have hW:=DataW.Whole.of_heap (w':=w0.forCall tape i0) (by rfl) hW0;have hsz:(DataW.weightsEach C.prog (fn'.params.toList++s.plain.varTypes C.prog) (ds++gs)).all (·<=reachBytes)=true:=hz.weights hW0;have hlaid:laidMetH C.prog laid (w0.forCall tape i0):=laidMetH.of_heap (w:=(w0.forCall tape i0).memory) (by rfl) hlaid0
 suffices h:Calls C.prog f i0.args (w0.forCall tape i0) λe W'=>∃ v,e=.returned v/\s.post enc C.prog fn' false true false false (w0.forCall tape i0) i0.args v W' from
  h.mono λe W' ⟨v,he,hp⟩=>by subst he; exact ChangeSpec.post_blind hp
 generalize w0.forCall tape i0=W at *;generalize i0.args=args at *;have hW':=hW;obtain ⟨p,q,hA,hV,rfl,_,_⟩:=hW;rw [hvars] at hV;obtain ⟨rfl,rfl⟩:=trodVars_none hV;have hvt:s.plain.varTypes C.prog=[]:=by simp [ChangeSpec.plain,DataSpec.varTypes,hvars]
 rw [hvt,wQW,wQW] at hsz;obtain ⟨ha,hlen⟩:=zVg hA (λn hn=>by simpa using List.all_eq_true.1 hsz n hn) (λj t v ht hv=>zHN (hval j t v (by simpa using ht) (by simpa using hv)));refine (walk W args (jUf hlaid hp ht hsn λg hg=>hin g hg W hshape) ha).mono λe W' ⟨he,bel⟩=>?_;subst he;have hs:=hspec ds hlen;refine ⟨_,rfl,ds,[],p++[],[],p,[],hW',?_,?_,?_,bel.frame _,λh=>by cases h⟩
 ·rw [wQW,hs,hres];exact trodAll_mk1 (shut_bool hb _)
 ·rw [wQW,hs];exact zWs laidO bel hread hA
 ·rw [wQW,hs,hvars];rfl
end
open Go.Proofs.Tryz (prog)
abbrev jJL:List (String × DataW Unit):=[("compositor/operator.rules", Rows.laid_compositor_operator_rules),("compositor/blend.names", Rows.laid_compositor_blend_names),("compositor/bound.constants", Rows.laid_compositor_bound_constants)]
set_option maxRecDepth 100000 in
theorem yQs:∀ p∈zWa,jHm prog jJL p:=by
 intro p hp;simp only [zWa,wQz,wYu,or_false] at hp
 rcases hp with rfl | rfl | rfl
 ·exact ⟨("compositor/bound.constants", Rows.laid_compositor_bound_constants),261,(List.mem_cons_of_mem _ (List.mem_cons_of_mem _ List.mem_cons_self)),by kernel_rfl,by kernel_rfl,by kernel_rfl⟩
 ·exact ⟨("compositor/blend.names", Rows.laid_compositor_blend_names),306,(List.mem_cons_of_mem _ List.mem_cons_self),by kernel_rfl,by kernel_rfl,by kernel_rfl⟩
 ·exact ⟨("compositor/operator.rules", Rows.laid_compositor_operator_rules),318,List.mem_cons_self,by kernel_rfl,by kernel_rfl,by kernel_rfl⟩
set_option maxRecDepth 100000 in
theorem jHs:∀ g∈zWU,jWp prog jJL g:=by
 intro g hg;simp [zWU] at hg
theorem jHP:∀ g∈zWV,yQD prog g:=by
 intro g hg;simp only [zWV,wQz,wYu,or_false] at hg
theorem jVF:(jJL.all λx=>x.2.handleName?.isNone)=true:=by kernel_rfl
set_option maxRecDepth 100000 in
theorem jGL (os:Os) (args:Array Value):laidMetH prog jJL ((World.doorLaid prog 400 os).forCall (λ_ _=>0) ⟨#[],args,[]⟩).memory:=
 laidMetH_of_parts3 (fuel:=8) (laidMet_of_run' 8 (by kernel_rfl) (by kernel_rfl)) (by kernel_rfl) (by kernel_rfl)
end Go.Proofs.YtbnmadpcdlnleaaGreatDoor
