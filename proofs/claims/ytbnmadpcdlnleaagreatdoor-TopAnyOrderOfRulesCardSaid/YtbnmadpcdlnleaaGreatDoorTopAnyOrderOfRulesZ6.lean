/-
  Part 6 of what TopAnyOrderOfRules rests on.
-/
import Derived.Test.YtbnmadpcdlnleaaGreatDoorTopAnyOrderOfRulesZ5
import Derived.Lib.SliceRun
namespace Go.Proofs.YtbnmadpcdlnleaaGreatDoor
open Go.IntKind (wrap)
open Go.RowKit
set_option linter.unusedVariables false
set_option linter.unusedSimpArgs false
set_option maxRecDepth 20000
open Go.Proofs.Tryz (prog)
variable{α:Type}{n k:Nat}
section
attribute [local irreducible] Ans AnsO AnsG AnsN AnsI
def rngK{α:Type}(n k:Nat)(f:Nat->α)(z:α):List α:=rng n λj=>if j<k then f j else z
theorem zHI(n k:Nat)(f:Nat->α)(z:α):(rngK n k f z).length=n:=zXq _ _
theorem jJG(n:Nat)(f:Nat->α)(z:α):rngK n 0 f z=List.replicate n z:=by
 unfold rngK;rw[zX7 (g:=λ_=>z) λj _=>if_neg (by omega)];unfold rng;rw[wXG,wZD]
theorem jJH(f:Nat->α)(z:α)(h:n<=k):rngK n k f z=rng n f:=zX7 λj hj=>if_pos (by omega)
def jUB(t:Fr)(o:Oq)(j:Nat):Ac:=(zQG o.iso t.op.kno (acN t.acc j) (pxN t.back j)).1
def jUA(t:Fr)(o:Oq)(j:Nat):Px:=(zQG o.iso t.op.kno (acN t.acc j) (pxN t.back j)).2
def pixK(ms:List Im)(i x y:Int)(n k:Nat):List Px:=rng n λj=>if j<k then jYB ms i (x+j) y else .zero
theorem jWz(ms:List Im)(i x y:Int)(n k:Nat):(pixK ms i x y n k).length=n:=zXq _ _
theorem jGG(n k:Nat)(f:Nat->α)(v:α):(rng n f).set k v=rng n λj=>if j=k then v else f j:=by
 refine wXa λi=>?_;rw[wYl];unfold rng;simp only[wQY,wQD,wZD];by_cases h:k=i
 .subst h;by_cases hk:k<n
  .simp[hk]
  .simp[hk,wQW]
 .rw[if_neg h];by_cases hi:i<n
  .simp[hi,Ne.symm h]
  .simp[hi]
theorem jWr(n k:Nat)(f:Nat->α)(z:α):(rngK n k f z).set k (f k)=rngK n (k+1) f z:=by
 unfold rngK;rw[jGG];refine zX7 λj hj=>?_;by_cases h:j=k
 .subst h;simp
 .rw[if_neg h];by_cases h2:j<k
  .rw[if_pos h2,if_pos (by omega)]
  .rw[if_neg h2,if_neg (by omega)]
theorem yQy(ms:List Im)(i x y:Int)(n k:Nat):(pixK ms i x y n k).set k (jYB ms i (x+k) y)=pixK ms i x y n (k+1):=by
 unfold pixK;rw[jGG];refine zX7 λj hj=>?_;by_cases h:j=k
 .subst h;simp
 .rw[if_neg h];by_cases h2:j<k
  .rw[if_pos h2,if_pos (by omega)]
  .rw[if_neg h2,if_neg (by omega)]
theorem yQR{ms:List Im}{i:Int}(h0:0<=i)(h:i.toNat<ms.length)(x y:Int):jYB ms i x y=ms[i.toNat].at_ x y:=by
 unfold jYB;rw[if_pos h0,List.getElem?_eq_getElem h]
theorem jWw{l:List Px}(h:k<l.length)(p:Px):sets (pxs l) (k*5) p.ds=pxs (l.set k p):=by
 induction l generalizing k with
 |nil=>simp at h
 |cons q l ih=>
  cases k with
  |zero=>rfl
  |succ k=>
   have e:∀t,pxs ((q::l).set (k+1) t)=q.ds++pxs (l.set k t):=λt=>by simp[pxs]
   have:=zGm (cs:=q.ds) p.ds (pxs l) (k*5);rw[e,<-ih (by simpa using h),<-this]
   show sets (q.ds++pxs l) _ _=_
   congr 1
   show(k+1)*5=k*5+5
   omega
theorem yQZ{l:List Fr}(h:k<l.length)(a:List Ac):(frs l).set (k*14+12) (.sl a.length (acs a))=frs (l.set k ⟨l[k].op,a,l[k].back⟩):=by
 induction l generalizing k with
 |nil=>simp at h
 |cons q l ih=>
  have e0:frs (q::l)=q.cells++frs l:=by simp[frs]
  have ec:q.cells.length=14:=rfl
  cases k with
  |zero=>
   rw[e0,wXq _ _ (by omega)];rfl
  |succ k=>
   have e:∀t,frs ((q::l).set (k+1) t)=q.cells++frs (l.set k t):=λt=>by simp[frs]
   rw[e0,e,List.set_append_right _ _ (by omega),ec,show(k+1)*14+12-14=k*14+12 by omega,ih (by simpa using h)];rfl
theorem yZm{l:List Ac}(h:k<l.length)(p:Ac):sets (acs l) (k*6) p.ds=acs (l.set k p):=by
 induction l generalizing k with
 |nil=>simp at h
 |cons q l ih=>
  cases k with
  |zero=>rfl
  |succ k=>
   have e:∀t,acs ((q::l).set (k+1) t)=q.ds++acs (l.set k t):=λt=>by simp[acs]
   have:=zGm (cs:=q.ds) p.ds (acs l) (k*6);rw[e,<-ih (by simpa using h),<-this]
   show sets (q.ds++acs l) _ _=_
   congr 1
   show(k+1)*6=k*6+6
   omega
def jHB:Gam:=yQU.add [.p 212 (λv=>let a:=(scR (nAt (uj v) 3) (nAt (uj v) 2) (zQo (cAt (uj v) 0)) (ints (cAt (uj v) 1)));some (RV.tup [RV.d (dS a.length (pxs a)),RV.d (dQ true)])),
 .p 214 (λv=>let a:=(stR (bAt (uj v) 0) (nAt (uj v) 1) (nAt (uj v) 2) (nAt (uj v) 3) (zQo (cAt (uj v) 4)) (jJv (cAt (uj v) 5)) (zQo (cAt (uj v) 6)));some (RV.tup [RV.d (dS a.length (acs a)),RV.d (dQ true)])),
 .q 161 ([false,true,true,true,true],2,1000) (λv b=>let c:=pixR (zQr (cAt (uv (ur b 0)) 8)) (nAt (um v) 1) (nAt (um v) 2) (nAt (um v) 3) (nAt (um v) 4).toNat;some ⟨AV.one (Cl.d (dS c.length (pxs c))),b,false⟩),
 .q 213 ([false,true,true,true,true],2,1000) (λv b=>let c:=maR (zQr (cAt (uv (ur b 0)) 8)) (vg (uq v 1)) (nAt (um v) 2) (nAt (um v) 3) (nAt (um v) 4).toNat;some ⟨AV.one (Cl.d (dS c.length (u16s c))),b,false⟩),
 .q 159 ([false,true,true,true,true],1,1) (λv b=>let c:=uv (ur b 0);let f:=vg (uq v 1);let g:=nAt c 10;let e:=zKz g (zHq (ut b 1)) f (zQo (cAt (um v) 2)) (maR (zQr (cAt c 8)) f (nAt (um v) 3) (nAt (um v) 4) (lAt (um v) 2));some ⟨AV.tup [],[bC [cJ (nAt c 0),cJ (nAt c 1),cJ (nAt c 2),cJ (nAt c 3),cJ (nAt c 4),cJ (nAt c 5),cJ (nAt c 6),Cl.d (dS (lAt c 7) (cAt c 7)),Cl.d (dS (lAt c 8) (cAt c 8)),Cl.d (dS (lAt c 9) (cAt c 9)),cK g,Cl.d (dS (lAt c 11) (cAt c 11)),Cl.ref 1 e.length],Bx.row 249 14 (frs e)],false⟩),
 .q 160 ([false,true],1,1) (λv b=>let c:=uv (ur b 0);let e:=zHA (zHq (ut b 1)) (vg (uq v 1));some ⟨AV.tup [],[bC [cJ (nAt c 0),cJ (nAt c 1),cJ (nAt c 2),cJ (nAt c 3),cJ (nAt c 4),cJ (nAt c 5),cJ (nAt c 6),Cl.d (dS (lAt c 7) (cAt c 7)),Cl.d (dS (lAt c 8) (cAt c 8)),Cl.d (dS (lAt c 9) (cAt c 9)),cK (nAt c 10),Cl.d (dS (lAt c 11) (cAt c 11)),Cl.ref 1 e.length],Bx.row 249 14 (frs e)],false⟩)]
def aHF(e:Scr)(f:wc):Bx:=wM e.bits e.c.a e.c.b e.c.c (aH (aB e.c.d) (aB e.tw) (aB e.th) (DV.sl (List.length e.ord) (is e.ord)) f)
def aJB(a:Scr)(b:Int)(c:DV)(d:wc):wc:=aH (DV.sl (List.length a.ims) (ims a.ims)) (cY a) (aF b) c d
def aAO(a:Scr)(b:Int)(c:List Int)(d:wc):Bx:=aHF a (aJB a b (DV.sl (List.length c) (is c)) d)
def lX(a:Scr)(b:Int)(c:List Int)(d:List Fr):Bx:=aAO a b c (fW 1 (List.length d) [])
def aDY(a:Scr)(b:Nat):Nat:=lAt (ims a.ims) (cI b)
def aDZ(a:Scr)(b:Nat):List DV:=cAt (ims a.ims) (cI b)
def aMV(a:Scr)(b:Nat)(c:List DV):DV:=DV.sl (aDY a b) c
def aGN(a:Scr)(b:Nat):DV:=aMV a b (aDZ a b)
def aHX(e:Scr)(f:Prop):Prop:=bM e.bits/\xA e.c.a e.c.b e.c.c e.c.d (oN e.tw e.th (DV.sl (List.length e.ord) (is e.ord)) (eS (DV.sl (List.length e.ims) (ims e.ims))) f)
def aAP(a:Scr)(b:Int)(c:List Int)(d:Prop):Prop:=aHX a (zX (cY a) (aF b) (DV.sl (List.length c) (is c)) d)
def lW(a:List Fr):List Bx:=[Bx.row 249 14 (frs a)]
def aAQ(a:List Im)(b c d e:Int):List Px:=pixR a b c d (Int.toNat e)
def gF(a:Scr)(b:Nat):Int:=aY (ims a.ims) b
abbrev wXr:=@List.flatMap_def
abbrev wXs:=@List.map_replicate
abbrev vu(q:Scr)(m:Int)(e:List Int)(b n:Nat):List Cl:=[cJ q.bits,cJ q.c.a,cJ q.c.b,cJ q.c.c,cJ q.c.d,cJ q.tw,cJ q.th,cD (dS q.ord.length (is q.ord)),cD (dS q.ims.length (ims q.ims)),cD (dS q.ops.length (ops q.ops)),cK m,cD (dS e.length (is e)),Cl.ref b n]
theorem zX8(s:Scr)(most:Int)(e:List Int)(F:List Fr)(i x y n:Int)(hi:0<=i/\i<s.ims.length)(hu:∀m∈s.ims,m.isU)(hn:0<=n/\n<=100000)(hx : -4294967296<=x/\x<=4294967296):AnsG prog 161 2 [aPz,aJ ((i)),aJ ((x)),aJ ((y)),aJ ((n))] [bC (vu s most e 1 F.length),bR 249 14 (frs F)] ⟨aO (cD (dS ((pixR s.ims i x y n.toNat).length) (pxs (pixR s.ims i x y n.toNat)))),[bC (vu s most e 1 F.length),bR 249 14 (frs F)],false⟩:=
 vw jHB (let k:=lB 0 (lX s most e F) 1 249 14 (frs F) [];let b:=aW i 28;let a:=eH b;let d:=eH a;let g:=vG i 28;let h:=bU b;let f:=aW i 28;let c:=ims s.ims;let l:=aH (kA s f) (kA s (b+1)) (DV.bool (bAt c (bT b))) (fG c (rH i 28)) (aH (fG c h) (fG c (tB i 28)) (fG c (vF i 28)) (fG c (jV f)) (aH (kA s a) (kA s (iA b)) (kA s (cG f)) (aGN s f) (aH (kA s g) (kA s (lU b)) (kA s (cG h)) (aGN s h) (aH (kA s d) (kA s (iA a)) (kA s (cG a)) (aGN s a) (aH (kA s (bU (eH a))) (kA s (lU a)) (kA s (cG g)) (aGN s g) (aH (kA s (eH d)) (kA s (iA d)) (kA s (bU (cG g))) (aGN s d) []))))));qA (ug True (⟨jF 2 x (aBF 3 y 4 n (dP 11 11 (wN 12 23 n []))),tZ 11 l 23 37 5 (repl (Int.toNat n) mV) k⟩:Snap) (nA (ui (λo=>o<=8589934592) (λj=>(⟨jF 2 x (aBF 3 y 4 n (dP 11 11 (wN 12 1012 n (rU 13 j)))),tZ 11 l 1012 37 5 (pxs (pixK s.ims i x y (Int.toNat n) j)) k⟩:Snap)) (λm=>mT n m) (λp=>aL))))) Tryz.func161 (let E:=lX s most e F::lW F;let G:=aAQ s.ims i x y n;let H:=bE (fH G);let u:=dO H E;let o:=frs F;let j:=aAP s most e (eS (List.length F));let I:=fH G;let p:=Int.toNat n;let b:=ims s.ims;let q:=eF b i 28;let h:=aW i 28;let a:=bU h;let l:=bU (eH a);let c:=eH a;let K:=gF s (cI c);let L:=gF s (cG c);let M:=iA c;let O:=gF s M;let f:=eH h;let P:=gF s (cI f);let Q:=gF s (cG f);let R:=lU a;let S:=gF s R;let T:=gF s (cI a);let U:=gF s (cG a);let V:=gF s (lU h);let d:=aW i 28;let W:=gF s (cI d);let X:=gF s (cG d);let Y:=gF s (iA h);let Z:=gF s (jV d);let w:=vF i 28;let z:=tB i 28;let z0:=gF s a;let A:=bT h;let z1:=gF s A;let z2:=gF s (h+1);let r:=fM b h;let z3:=jY q r (bAt b A) (gF s d) z2 z1 (gF s (rH i 28)) z0 (aEA (gF s z) (gF s w) Z b d) (aEA Y X W b a) (aEA V U T b f) (aEA S Q P b c) (aEA O L K b l);let B:=aB q::aB r::DV.bool (bAt b A)::aF (gF s d)::cQ z2 z1 (cQ (gF s (rH i 28)) z0 (qJ (gF s z) (gF s w) Z (aDY s d) (aDZ s d) (dH Y X W (aDY s a) (aDZ s a) V U T (aDY s f) (aDZ s f) (dH S Q P (aDY s c) (aDZ s c) O L K (aDY s l) (aDZ s l) []))));let z4:=eS B;let C:=eS (Int.toNat n);let D:=repl p mV;let z5:=gV (aEW n D=I/\True) j o;xS (eY (iE i (oL s) 28 b) (aFY b i 28 (jQ s (rH i 28)) (jQ s a) (jQ s z) (jQ s w) (eU (fE s a) (fE s z) (fE s w) (jA s d) (fE s f) (fE s (iA h)) (fE s (cG d)) (jA s a) (eU (fE s c) (fE s (lU h)) (fE s (cG a)) (jA s f) (fE s l) (fE s R) (fE s (cG f)) (jA s c) (aG (fE s (eH c)) (fE s M) (fE s (cG c)) (jA s l))))) (True/\oG n 10/\True/\aP (mR y) (rX y r (True/\z5/\u) (fI y r->(∃z7:Unit,True/\(bM x/\aG (bM y) (bM n) (eS (0:Nat)) C)/\aG (eS B) (eS D) j (eS o)))) (fJ (nY y) z5 u)/\(∀z6:Unit,iL True (∃t:Nat,eW (t<=8589934592) (fX x y (aG (bM n) (eS (0:Nat)) C (aB (Max.max (0:Int) (cN 0 x))=fC t))) z4 (D=pxs (pixK s.ims i x y p t)) j (eS o)) (∀g:Nat,let v:=pxs (pixK s.ims i x y p g);let J:=gV (aEW n v=I/\True) j o;let k:=aU (x+(g:Int));iL (g<=8589934592) (bK (jE (g:Int) n) (True/\True/\True/\(jE k q->True/\True/\True/\True/\True/\True/\True/\iG 215 B (lE k y) (eG (Im.at_ z3 k y))/\rV (g:Int) n/\aR (fL (aZ g 5+5) v) (∃m:Nat,bZ m 8589934592 (eW (yZ n m g) (fX x y (aG (bM n) (eS (0:Nat)) C (bQ g m))) z4 (sets v (aZ g 5) (eG (Im.at_ z3 k y))=pxs (pixK s.ims i x y p m)) j (eS o))))/\bP (gX k q) J (dO H E))) (fJ (tA (g:Int) n true) J u)))))) λhwf hbx=>by
  delta eS aB aV aW aE iE aP tA eJ gX oI fI mR nY aF aU aG bE cQ fG cO cN fJ aEW jE aH wM cP bM nP bP aR bK eY fC mT aT fL aZ dE gU bQ eF rV oG yZ eU eG cX fM bH aY bS iG mV fW bT bU jV bI dO fX bZ xA yP lE cI cG eH oL aHF iA qJ cE dH iL eW rX jY oN xS gV cY zX fE aDD jQ lU rH jA tB vF aFY fH aJB aAO aHX aAP lW lX aAQ aDY aDZ gF aEA;simp only[sS];have ime:∀m:Im,(⟨m.w,m.h,m.so,⟨m.c.a,m.c.b,m.c.c,m.c.al,m.c.f⟩,⟨m.p0.w,m.p0.h,m.p0.s,m.p0.n,m.p0.xs⟩,⟨m.p1.w,m.p1.h,m.p1.s,m.p1.n,m.p1.xs⟩,⟨m.p2.w,m.p2.h,m.p2.s,m.p2.n,m.p2.xs⟩,⟨m.p3.w,m.p3.h,m.p3.s,m.p3.n,m.p3.xs⟩,⟨m.p4.w,m.p4.h,m.p4.s,m.p4.n,m.p4.xs⟩⟩:Im)=m:=λ_=>rfl;clear hwf hbx;have hM:=ud
  have k1:i.toNat<s.ims.length:=by omega
  have q1:=jQR k1;have IA:=λu v=>jVX s.ims[i.toNat] u v (hu _ (List.getElem_mem k1));have ag:=λu v=>yQR hi.1 k1 u v;simp only[jQS k1,q1,and_self,true_and,ime];clear q1;generalize s.ims[i.toNat]=g at *;have en:(n.toNat:Int)=n:=by omega
  have z:repl n.toNat [DV.int .u16 0,DV.int .u16 0,DV.int .u16 0,DV.int .u16 0,DV.int .u16 0]=pxs (List.replicate n.toNat Px.zero):=by
   unfold repl pxs;rw[wXr,wXs];rfl
  have zr:∀f:Nat->Px,(∀j,j<n.toNat->f j=.zero)->List.replicate n.toNat Px.zero=rng n.toNat f:=λf hf=>by
   rw[zX7 hf];unfold rng;rw[wXG,wZD]
  have wn:wrap .i64 (0-x) = -x:=by rw[wQb _ (by omega)];omega
  have Z:∀hy:y<0\/y>=g.h,n.toNat=(pixR s.ims i x y n.toNat).length/\repl n.toNat [DV.int .u16 0,DV.int .u16 0,DV.int .u16 0,DV.int .u16 0,DV.int .u16 0]=pxs (pixR s.ims i x y n.toNat):=λhy=>by
   refine⟨(zKU _ _ _ _ _).symm,?_⟩;rw[z];unfold pixR;exact congrArg pxs (zr _ λj _=>by show jYB s.ims i (x+j) y=_;rw[ag];exact at_out (by omega))
  have X:∀k:Nat,(∀j:Nat,k<=j->j<n.toNat->g.at_ (x+j) y=.zero)->pixK s.ims i x y n.toNat k=pixR s.ims i x y n.toNat:=λk h=>by
   unfold pixK pixR;refine zX7 λj hj=>?_;by_cases hk:j<k
   .rw[if_pos hk]
   .rw[if_neg hk,ag,h j (by omega) hj]
  have Y:∀k:Nat,(∀j:Nat,k<=j->j<n.toNat->g.at_ (x+j) y=.zero)->n.toNat=(pixR s.ims i x y n.toNat).length/\pxs (pixK s.ims i x y n.toNat k)=pxs (pixR s.ims i x y n.toNat):=λk h=>⟨(zKU _ _ _ _ _).symm,by rw[X k h]⟩
  rw[wn];refine⟨⟨hi.1,hi.2,by rw[zXl];omega⟩,⟨hn.1,by omega,by have:=hM n.toNat (by omega);omega,by omega⟩,⟨λh0=>⟨λh1=>⟨Z (.inr h1),trivial⟩,λh1=>⟨(),trivial⟩⟩,λh0=>⟨Z (.inl h0),trivial⟩⟩,⟨(max 0 (-x)).toNat,by omega,by omega,?_⟩,λk hk=>⟨λh1=>?_,λh1=>⟨Y k λj hj h2=>by omega,trivial⟩⟩⟩
  .rw[z];unfold pixK;rw[zr _ λj hj=>?_];split
   .rw[ag];exact at_out (by omega)
   .rfl
  .have wk:wrap .i64 (x+(k:Int))=x+k:=wQb _ (by omega);have wk1:wrap .i64 ((k:Int)+1)=(k:Int)+1:=wQb _ (by omega);rw[wk,wk1];refine⟨λh2=>⟨IA _ _,by omega,?_,k+1,by omega,by omega,by omega,?_⟩,λh2=>⟨Y k λj hj h3=>at_out (by omega),trivial⟩⟩
   .rw[zQE,jWz];omega
   .have:=jWw (l:=pixK s.ims i x y n.toNat k) (k:=k) (by rw[jWz];omega) (jYB s.ims i (x+k) y);rw[yQy,ag]at this;exact this
def pT(a:Nat):AV:=AV.one (Cl.ptr a 0)
abbrev oC(q:Oq):List Cl:=[Cl.d (DV.int .i64 q.kind),Cl.d (DV.int .i64 q.image),Cl.d (DV.int .i64 q.x),Cl.d (DV.int .i64 q.y),Cl.d (DV.int .i64 q.mask),Cl.d (DV.int .i64 q.mx),Cl.d (DV.int .i64 q.my),Cl.d (DV.int .u16 q.opac),Cl.d (DV.int .i64 q.oper),Cl.d (DV.int .i64 q.mode),Cl.d (DV.bool q.iso),Cl.d (DV.bool q.kno)]
theorem zKT(s:Scr)(most:Int)(e:List Int)(F:List Fr)(o:Oq)(x y n:Int)(hu:∀m∈s.ims,m.isU)(hI:s.ims.length<=1000000)(hxy:(-1073741824<=x/\x<=1073741824) /\ -1073741824<=y/\y<=1073741824)(hmk:(0<=o.mask/\o.mask<=s.ims.length)/\(-1073741824<=o.mx/\o.mx<=1073741824) /\ -1073741824<=o.my/\o.my<=1073741824)(hn:0<=n/\n<=100000):AnsG prog 213 2 [aPz,AV.agg (oC o),aJ ((x)),aJ ((y)),aJ ((n))] [bC (vu s most e 1 F.length),bR 249 14 (frs F)] ⟨aO (cD (dS ((maR s.ims o x y n.toNat).length) (u16s (maR s.ims o x y n.toNat)))),[bC (vu s most e 1 F.length),bR 249 14 (frs F)],false⟩:=
 vw jHB (qW (ui (λc=>kY c n) (λa=>yY (iP 11 1011 a (iF 30 (fH (aAQ (zQr (ims s.ims)) (cN o.mask 1) (cN x o.mx) (cN y o.my) n)) 31 (fC (List.length (aAQ (zQr (ims s.ims)) (cN o.mask 1) (cN x o.mx) (cN y o.my) n))) (rU 32 a))) 1011 34 1 (u16s (List.take a (maR s.ims o x y (Int.toNat n)))) (lB 0 (lX s most e F) 1 249 14 (frs F) [])) (λb=>mT n b) (λd=>aL))) Tryz.func213 (let d:=lX s most e F::lW F;let i:=aHY (maR s.ims o x y (Int.toNat n));let m:=bE i;let g:=aAP s most e (eS (List.length F));let j:=maR s.ims o x y (Int.toNat n);let h:=o.mask;let l:=List.length (aAQ (zQr (ims s.ims)) (cN h 1) (cN x o.mx) (cN y o.my) n);let b:=aAQ (zQr (ims s.ims)) (cN h 1) (cN x o.mx) (cN y o.my) n;qB (bL (mE h) (gV (DV.sl 0 []=i/\True) g (frs F)) (dO m d)) (fP (fS h) (aK ((AnsG prog 161 2 [pT 0,pB (h-1),pB (x-o.mx),pB (y-o.my),bE (aB n)] d ⟨bE (fH b),d,false⟩/\eS d)/\True/\True/\(∃f:Nat,fR (kY f n) (aHZ (0=f) b (dC f)) (([]:List DV)=u16s (List.take f j)) g (eS (frs F)))/\(∀a:Nat,let k:=u16s (List.take a j);let p:=[aF (iR (pxs b) a 5)];bL (kY a n) (dT a l->eY (aGK a b 5) (aAR b (aZ a 5) (cR a 5) (gN a 5) (hZ a 5) (gS a 5)) (True/\True/\True/\True/\aR (zZQ 1 2 a 1 k p) (∃c:Nat,eW (kY c n) (yZ n c a) (jK (a+1=c) (fH b) l (bQ a c)) (k++p=u16s (List.take c j)) g (eS (frs F))))) (bP (eV a l) (gV (DV.sl a k=i/\True) g (frs F)) (dO m d))))))) λhwf hbx=>by
  delta eS aB aW aE iE aF aU aG bE fG aK cN fR fS mE pB aH wM bM nP bP aR eY fC mT kY aT aZ dE bQ bL cR dC qB yZ fM aY dF dT eV iR fW bT bU dO xA gN gS hZ aHF cE jK fP eW oN gV cY pT zX fH aJB aAO aHX aAP lW lX aAQ aGK aAR aHY aHZ;simp only[sS];clear hwf hbx;have hM:=ud
  rw[zZv];have w1:1<=o.mask->wrap .i64 (o.mask-1)=o.mask-1:=λh=>wQb _ (by omega);have w2:wrap .i64 (x-o.mx)=x-o.mx:=wQb _ (by omega);have w3:wrap .i64 (y-o.my)=y-o.my:=wQb _ (by omega);refine⟨λh=>?_,λh=>?_⟩
  .have h0:o.mask=0:=wZL h;have ee:maR s.ims o x y n.toNat=[]:=by unfold maR;rw[if_pos h0]
   rw[ee];exact⟨⟨rfl,rfl⟩,trivial⟩
  .have h0:o.mask≠0:=λh2=>by rw[h2]at h;cases h
   have h1:1<=o.mask:=by omega
   rw[w1 h1,w2,w3];have ee:maR s.ims o x y n.toNat=(pixR s.ims (o.mask-1) (x-o.mx) (y-o.my) n.toNat).map Px.al:=by unfold maR;rw[if_neg h0]
   rw[ee];have A:=zX8 s most e F (o.mask-1) (x-o.mx) (y-o.my) n (by omega) hu hn (by omega);have hl:=zKU s.ims (o.mask-1) (x-o.mx) (y-o.my) n.toNat;generalize pixR s.ims (o.mask-1) (x-o.mx) (y-o.my) n.toNat=L at *;refine⟨A,⟨0,wQj _,⟨rfl,rfl⟩,rfl⟩,λk hk=>⟨λhlt=>?_,λhge=>?_⟩⟩
   .have hk2:k<L.length:=by omega
    obtain⟨q1,q2,q3,q4,q5⟩:=zQX hk2;have q:=zKx hk2;have ts:=wZm (l:=L.map Px.al) (i:=k);rw[wQY,List.getElem?_eq_getElem hk2]at ts;rw[q1,q2,q3,q4,q5];refine⟨⟨by omega,by omega,by rw[zQE];omega⟩,q,⟨by rw[zH1,wQl,wQD,wQM (by omega)];omega,rfl,hM _ (by omega),by omega⟩,k+1,by omega,by omega,⟨rfl,?_⟩,?_⟩
    .rw[wQb _ (by omega)];omega
    .rw[ts,<-jVa];rfl
   .have:k=L.length:=by omega
    subst this;rw[wQR (by rw[wQD];omega),wQD];exact⟨⟨rfl,rfl⟩,trivial⟩
def tH(a:Scr)(b:Int)(c:List Int)(d e:List Fr):Prop:=aAP a b c (List.length d=List.length e)
def aGL(a:List Fr):Int:=gT (List.length a)
theorem zKv(s:Scr)(most:Int)(e:List Int)(F:List Fr)(o:Oq)(l:List Px)(x y:Int)(hF:1<=F.length/\F.length<=66)(hu:∀m∈s.ims,m.isU)(hI:s.ims.length<=1000000)(hxy:(-1073741824<=x/\x<=1073741824) /\ -1073741824<=y/\y<=1073741824)(hmk:(0<=o.mask/\o.mask<=s.ims.length)/\(-1073741824<=o.mx/\o.mx<=1073741824) /\ -1073741824<=o.my/\o.my<=1073741824)(hl:l.length<=100000)(ho:isNm o.oper=true)(hmo:isNm o.mode=true)(ha:(topF F).acc.length=l.length)(hb:(topF F).back.length=l.length)(hok1:∀j,j<l.length->(zKH (pxN l j) (ksN (maR s.ims o x y l.length) most j) o.opac most).2=true)(hok2:∀j,j<l.length->zXu (topF F).op.kno o.oper o.mode most (pxN (scR most o.opac l (maR s.ims o x y l.length)) j) (acN (topF F).acc j) (pxN (topF F).back j)=true):AnsG prog 159 1 [aPz,AV.agg (oC o),aO (cD (dS l.length (pxs l))),aJ ((x)),aJ ((y))] [bC (vu s most e 1 F.length),bR 249 14 (frs F)] ⟨AV.tup [],[bC (vu s most e 1 (((zKz most F o l (maR s.ims o x y l.length))).length)),bR 249 14 (frs (zKz most F o l (maR s.ims o x y l.length)))],false⟩:=
 vw jHB aL Tryz.func159 (let d:=List.length l;let c:=zKz most F o l (maR s.ims o x y d);let f:=aW (aGL F) 14;let g:=f+13;let j:=cAt (frs F) g;let b:=f+12;let k:=cAt (frs F) b;let m:=maR (zQr (ims s.ims)) o x y (uW d);let n:=scR most o.opac (zQo (pxs l)) (ints (u16s m));let p:=f+0+11;let a:=frs F;let q:=bAt a p;let r:=aDX (stR q o.oper o.mode most (zQo (pxs n)) (jJv k) (zQo j));let t:=fH n;let h:=List.length F;let u:=aHY m;let i:=lX s most e F::lW F;bI (gC (AnsG prog 213 2 [pT 0,AV.agg (aH (aB o.kind) (aB o.image) (aB o.x) (aB o.y) (aH (aB o.mask) (aB o.mx) (aB o.my) (aF o.opac) (aIA o []))),bE (aB x),bE (aB y),bE (fC d)] i ⟨bE u,i,false⟩/\eS i) (bI (aX (lM 212 (fH l) (rD u::gK o.opac most []) (tJ t)) (True/\nN (True/\True/\True/\True/\gJ (h<=maxLen) (True/\gU (gT h) h/\True/\eS true/\gC (pN a p) (aK (bD (zD a b/\True) (True/\True/\(zD a g/\True)/\Ans prog 214 (aM q::aV o.oper::aV o.mode::rD (aF most)::rD t::pM (lAt (frs F) b) k (pM (lAt (frs F) g) j [])) (tJ r)/\True/\True/\True/\True/\True/\fL (b+1) a/\eS true/\dE (True/\True) (tH s most e F c) (List.set a b r=frs c)/\dO (AV.tup []) (lX s most e c::lW c))))))))))) λhwf hbx=>by
  delta eS aB aV aW aF aU aG bE aK bD aX cN gC nN aH wM xL aIA bM nP fC aT fL dE gU pM fW aM bI dO xA yP gJ gT lM pN zD aHF oN sN cY pT zX uW gK fH aJB aAO aHX aAP lW lX tH aHY aDX aGL tJ;simp only[sS];clear hwf hbx;have hM:=ud
  have wF:wrap .i64 ((F.length:Int)-1)=(F.length:Int)-1:=wQb _ (by omega);have nF:((F.length:Int)-1).toNat=F.length-1:=by omega
  have kF:F.length-1<F.length:=by omega
  have tF:F[F.length-1]=topF F:=by unfold topF;rw[List.getElem?_eq_getElem kF];rfl
  have r:=jKx kF;have q:=jKz kF;rw[tF]at r q;simp only[Nat.add_zero]at r q;rw[zZv,zZN,jHo];simp only[zZN,wF,nF,Nat.add_assoc,Nat.add_zero,Nat.zero_add,Nat.reduceAdd];obtain⟨p0,p1,p2,p3,p4,p5,p6,p7,p8,p9,p10,p11,p12,p13⟩:=q;obtain⟨s0,s1,s2,s3,s4,s5,s6,s7,s8,s9,s10,s11,s12,s13⟩:=r;rw[p11,p12.1,p12.2,p13.1,p13.2,zUo,zZN];have M:=zKT s most e F o x y l.length hu hI hxy hmk (by omega);have Q:=yZ4 s.ims o x y l.length;refine⟨M,jZB l (maR s.ims o x y l.length) o.opac most hl Q hok1,hM _ (by omega),by omega,s11,s12,s13,jXW (topF F).op.kno o.oper o.mode most (scR most o.opac l (maR s.ims o x y l.length)) (topF F).acc (topF F).back (by rw[zJ8];exact hl) (by rw[zJ8];exact ha) (by rw[zJ8];exact hb) ho hmo (by rw[zJ8];exact hok2),by rw[zGV];omega,⟨?_,?_⟩,trivial⟩
  .unfold zKz;rw[wQL]
  .rw[yQZ kF,tF];rfl
def tK(a:List Fr)(b:Nat):DV:=aB (nAt (frs a) b)
def nX(a:List Fr)(b:Nat):Int:=aY (frs a) b
def aEC(a:List Fr)(b c:Nat):Prop:=cE (cAt (frs a) b) c
def tM(a:List Fr)(b:Nat):Prop:=bS (frs a) b
def aEB(a:List Fr)(b c:Nat):Prop:=aEC a (vG (aGL a) b) c
theorem zKR(s:Scr)(most:Int)(e:List Int)(F:List Fr)(o:Oq)(hF:1<=F.length/\F.length<=66)(ha:(topF F).acc.length<=100000)(hb:(topF F).back.length=(topF F).acc.length):AnsG prog 160 1 [aPz,AV.agg (oC o)] [bC (vu s most e 1 F.length),bR 249 14 (frs F)] ⟨AV.tup [],[bC (vu s most e 1 (((zHA F o)).length)),bR 249 14 (frs (zHA F o))],false⟩:=
 vw jHB (let g:=(topF F).acc;let h:=List.length g;let a:=aGL F;let c:=lAt (frs F) (vG a 14);let b:=aW a 14;let i:=lU b;let d:=aW a 14;qW (ui (λk=>aAS k g) (λf=>jJ (kU 0 0 3 3 (kU 4 4 5 5 (lO 31 (uW c) 32 f))) 0 (lX s most e F) (vL 3 (yV o []) 4 (bY (tK F d) (cD (tK F (b+1))::cD (tK F (bT b))::cD (tK F (rH a 14))::cD (tK F (bU b))::cD (tK F (tB a 14))::aH (tK F (vF a 14)) (fG (frs F) (jV d)) (tK F (eH b)) (tK F (iA b)) (aH (DV.bool (bAt (frs F) (cG d))) (DV.bool (bAt (frs F) (cI d))) (DV.sl c (cAt (frs F) (vG a 14))) (DV.sl (lAt (frs F) i) (cAt (frs F) i)) []))) (lB 5 (yV o (rL 23 c (rL 27 c []))) 1 249 14 (frs F) (aGM 23 199 6 (acs (rngK h f (jUB (topF F) o) Ac.zero)) 27 37 5 (pxs (rngK h f (jUA (topF F) o) Px.zero)))))) (λj=>List.length g-j) (λl=>aL))) Tryz.func160 (let q:=zHA F o;let u:=jUA (topF F) o;let r:=(topF F).acc;let k:=List.length r;let d:=aGL F;let w:=vG d 14;let l:=lAt (frs F) w;let c:=uW l;let x:=jUB (topF F) o;let b:=frs F;let f:=aW d 14;let g:=lU f;let h:=cAt (frs F) g;let i:=cAt (frs F) w;let j:=aW d 14;let H:=bAt b (cI j);let L:=eS c;let M:=bM o.kind/\xA o.image o.x o.y o.mask (oN o.mx o.my (aF o.opac) (bM o.oper) (nP o.mode (tU o.iso) (eS (DV.bool o.kno)) L (L/\True)));let O:=lAt (frs F) g;let P:=cG j;let Q:=bU f;let R:=bT f;let S:=f+1;let T:=eS (mS (eF b d 14) (fM b f) (fM b (f+1)) (nX F j) (nX F S) (nX F R) (nX F (rH d 14)) (nX F Q) (aB (nX F (tB d 14))::aB (nX F (vF d 14))::DV.bool (bAt b P)::DV.bool (bAt b (cI j))::DV.sl l i::nZ O h));let t:=List.length F;let U:=aAP s most e (eS t);let V:=iS c;let W:=List.length r;let Y:=j+1;True/\True/\bW (t<=maxLen) (dY (gU (gT t) t) (oI b d 14/\cX b f/\eU (cX b Y) (cX b (Y+1)) (tM F j) (tM F S) (tM F R) (cE b (jV f)) (tM F Q) (tM F (tB d 14)) (aG (yP b P) (aGO b j) (zD b w) (zD b g))) (nN (vO l 12 (vO l 10 (wJ (mX c (∃p:Nat,bZ p W (oJ (dB (dB (aT V (dC p)))) U (eS (Oq.cells o)) T M (eS b) (repl c (nW 0 0 0 0 0 0)=acs (rngK k p x Ac.zero)) (repl c mV=pxs (rngK k p u Px.zero)))) (∀a:Nat,let v:=pxs (rngK k a u Px.zero);let y:=acs (rngK k a x Ac.zero);let z:=aJW o (DV.bool o.kno::DV.sl c y::nZ c v);let A:=aY i (gN a 6);let B:=aY i (cR a 6);let C:=iR i a 6;let D:=iQ i a 6;let E:=iH i a 6;let G:=cB i a 6;let I:=zQG o.iso H ⟨G,E,D,C,B,A⟩ (aGP h a 5);let n:=I.snd;let J:=cQ n.a n.b (aF n.c::cQ n.al n.f []);let K:=pX I.fst;let X:=yE a l;bL (aAS a r) (dL (dT a c) (kM (dF a l 6 i) (aR (eW (aEB F 14 (aZ a 6)) (aEB F 14 (cR a 6)) (aEB F 14 (gN a 6)) (aEB F 14 (hZ a 6)) (aEB F 14 (gS a 6)) (aEB F 14 (pO a 6))) (pP (dF a O 5 h) (fR (aEC F g (aZ a 5)) (aEC F g (cR a 5)) (aEC F g (gN a 5)) (aEC F g (hZ a 5)) (aEC F g (gS a 5))) (Ans prog 181 (aM o.iso::aM H::rA (nW G E D C B A)::gB (aBV (cB h a 5) (iH h a 5) (iQ h a 5) (iR h a 5) (aY h (cR a 5)))) (gA K (gB J))) (True/\True/\True/\X/\fL (aZ a 6+6) y/\X/\eY (fL (aZ a 5+5) v) (eS true) (∃m:Nat,aAS m r/\dZ W m a/\oJ (dB (dB (aT V (bQ a m)))) U (eS (Oq.cells o)) T M (eS b) (sets y (aZ a 6) K=acs (rngK k m x Ac.zero)) (sets v (aZ a 5) J=pxs (rngK k m u Px.zero)))))))) (dL (eV a c) (bD (zZQ 14 136 (List.length F) 1 b z) (aBP (dE (True/\True) (aAP s most e (List.length F+1=List.length q)) (b++z=frs q)) (dO (AV.tup []) (lX s most e q::lW q))))))))))))) λhwf hbx=>by
  delta eS aB aW iE oI dY aF aU aG cQ fG aK bD aX cO cN dL gB fR nZ nN wJ aH wM bM nP aR bW kX mS eY dB aJW tU fC aT fL aZ dE gU bQ bL eF cR rV dC oG eU cX fM aY bS dF cB dT eV iH iQ iR mX mV fW aM bT bU jV dO bZ xA dZ yP gN gS hZ kM iS gT pP aBP oJ pO zD cI cG eH aHF cE eW aGO aBV oN cY zX gA uW yE lU rH tB vF vG nW oX pX vO aJB aAO aHX aAP lW lX aGL aAS nX aEC tM aGP aEB;simp only[sS];clear hwf hbx;have hM:=ud
  have wF:wrap .i64 ((F.length:Int)-1)=(F.length:Int)-1:=wQb _ (by omega);have nF:((F.length:Int)-1).toNat=F.length-1:=by omega
  have kF:F.length-1<F.length:=by omega
  have tF:F[F.length-1]=topF F:=by unfold topF;rw[List.getElem?_eq_getElem kF];rfl
  have r:=jKx kF;have q:=jKz kF;rw[tF]at r q;simp only[Nat.add_zero]at r q;simp only[wF,nF,Nat.add_assoc,Nat.add_zero,Nat.zero_add,Nat.reduceAdd];obtain⟨p0,p1,p2,p3,p4,p5,p6,p7,p8,p9,p10,p11,p12,p13⟩:=q;obtain⟨s0,s1,s2,s3,s4,s5,s6,s7,s8,s9,s10,s11,s12,s13⟩:=r;simp only[p0,p1,p2,p3,p4,p5,p6,p7,p8,p9,p10,p11,p12.1,p12.2,p13.1,p13.2,s0,s1,s2,s3,s4,s5,s6,s7,s8,s9,s10,s11,s12,s13,true_and,and_true];clear p0 p1 p2 p3 p4 p5 p6 p7 p8 p9 p10 p11 p12 p13 s0 s1 s2 s3 s4 s5 s6 s7 s8 s9 s10 s11 s12 s13;have hP:zHA F o=F++[⟨o,rng (topF F).acc.length (jUB (topF F) o),rng (topF F).acc.length (jUA (topF F) o)⟩]:=rfl;have hL:(zHA F o).length=F.length+1:=by rw[hP,wQe];rfl
  generalize topF F=t at *;have za:repl t.acc.length [DV.int .u16 0,DV.int .u16 0,DV.int .u16 0,DV.int .u16 0,DV.int .u16 0,DV.int .u16 0]=acs (rngK t.acc.length 0 (jUB t o) .zero):=by
   rw[jJG];unfold repl acs;rw[wXr,wXs];rfl
  have zb:repl t.acc.length [DV.int .u16 0,DV.int .u16 0,DV.int .u16 0,DV.int .u16 0,DV.int .u16 0]=pxs (rngK t.acc.length 0 (jUA t o) .zero):=by
   rw[jJG];unfold repl pxs;rw[wXr,wXs];rfl
  refine⟨hM _ (by omega),by omega,⟨by omega,Int.le_refl _,by have:=hM _ ha;omega,by omega⟩,⟨by omega,Int.le_refl _,by have:=hM _ ha;omega,by omega⟩,hM _ ha,⟨0,wQj _,⟨rfl,za,zb⟩⟩,λk hk=>⟨λhlt=>?_,λhge=>?_⟩⟩
  .have k1:k<t.acc.length:=by omega
   have k2:k<t.back.length:=by omega
   obtain⟨a0,a1,a2,a3,a4,a5⟩:=jZs k1;obtain⟨c0,c1,c2,c3,c4⟩:=zQX k2;have ra:=jZr k1;have rb:=zKx k2;simp only[Nat.add_zero]at a0 ra;have hA:=jXN k1;have hB:=zJN k2;simp only[a0,a1,a2,a3,a4,a5,c0,c1,c2,c3,c4,Nat.add_assoc,Nat.reduceAdd]at ra rb |-;rw[<-hA]at ra |-;rw[<-hB]at rb |-;have hw:wrap .i64 ((k:Int)+1)=((k+1:Nat):Int):=by rw[wQb _ (by omega)];omega
   refine⟨⟨by omega,by omega,by rw[zYp];omega⟩,ra,⟨by omega,by omega,by rw[zQE];omega⟩,rb,jQX o.iso t.op.kno (acN t.acc k) (pxN t.back k),by omega,by rw[zYp,zHI];omega,by omega,by rw[zQE,zHI];omega,k+1,by omega,by omega,hw,?_,?_⟩
   .have:=yZm (l:=rngK t.acc.length k (jUB t o) .zero) (k:=k) (by rw[zHI];omega) (jUB t o k);rw[jWr]at this;exact this
   .have:=jWw (l:=rngK t.acc.length k (jUA t o) .zero) (k:=k) (by rw[zHI];omega) (jUA t o k);rw[jWr]at this;exact this
  .have e:k=t.acc.length:=by omega
   subst e;rw[jJH _ _ (Nat.le_refl _),jJH _ _ (Nat.le_refl _)];refine⟨⟨by rw[zGV],rfl,hM _ (by omega),by omega⟩,⟨hL.symm,?_⟩,trivial⟩;rw[hP,<-jUS];unfold frs Fr.cells;simp only[wQ2,List.flatMap_nil,wQ8,zXq];rfl
def yX4:Gam:=jHB.add [.p 158 (λv=>let a:=(rsR (nAt (uj v) 2) (jJv (cAt (uj v) 0)) (zQo (cAt (uj v) 1)));some (RV.tup [RV.d (dS a.length (pxs a)),RV.d (dQ true)])),
 .q 82 ([false,true,true,true,true],1,1) (λv b=>let c:=uv (ur b 0);let g:=toBs (cAt (um v) 4);let h:=nAt c 10;let i:=cAt c 11;let j:=nAt (um v) 3;let k:=nAt (um v) 2;let l:=nAt (um v) 1;let e:=zY9 (vm c) h (ints i) g l k j;let f:=zY8 (vm c) h (ints i) g l k j;some ⟨AV.one (Cl.d (dS f.length (pxs f))),[bC [cJ (nAt c 0),cJ (nAt c 1),cJ (nAt c 2),cJ (nAt c 3),cJ (nAt c 4),cJ (nAt c 5),cJ (nAt c 6),Cl.d (dS (lAt c 7) (cAt c 7)),Cl.d (dS (lAt c 8) (cAt c 8)),Cl.d (dS (lAt c 9) (cAt c 9)),cK h,Cl.d (dS (lAt c 11) i),Cl.ref 1 e.length],Bx.row 249 14 (frs e)],false⟩)]
def aGI(a:wc):List AV:=[pT 0,AV.agg a]
def yO(a b c:Prop):Prop:=dE (a/\True) b c
def jS(a:Scr)(b:Nat):DV:=aB (nAt (ops a.ops) b)
def vU(a:Scr)(b:Int)(c:List Int)(d:List Bool)(e f g:Int)(h i:Nat):DV:=tK (zXg a b c d e f g h).snd i
theorem zVs(s:Scr)(most:Int)(e:List Int)(F:List Fr)(x y n:Int)(act:List Bool)(hu:∀m∈s.ims,m.isU)(hI:s.ims.length<=1000000)(hG:jZv s most e act x y n)(hn:0<=n/\n<=100000)(hxy:(-536870912<=x/\x<=536870912) /\ -536870912<=y/\y<=536870912)(hM:s.ops.length<=1000000):AnsG prog 82 1 [aPz,aJ ((x)),aJ ((y)),aJ ((n)),aO (cD (dS act.length (bs act)))] [bC (vu s most e 1 F.length),bR 249 14 (frs F)] ⟨aO (cD (dS ((zY8 s most e act x y n).length) (pxs (zY8 s most e act x y n)))),[bC (vu s most e 1 (((zY9 s most e act x y n)).length)),bR 249 14 (frs (zY9 s most e act x y n))],false⟩:=
 vw yX4 (gI (ui (λf=>True) (λc=>let a:=zXg s most e act x y n c;aCW 0 0 (jF 1 x (aBF 2 y 3 n (iF 4 (aFW act) 11 (fC a.fst) []))) (lB 0 (bY (aB s.bits) (cD (aB s.c.a)::cD (aB s.c.b)::qI s.c.c (cD (aB s.c.d)::cD (aB s.tw)::aH (aB s.th) (DV.sl (List.length s.ord) (is s.ord)) (DV.sl (List.length s.ims) (ims s.ims)) (cY s) (cD (aF most)::cD (DV.sl (List.length e) (is e))::fW 1 (List.length a.snd) [])))) 1 249 14 (frs a.snd) [])) (λb=>dG s-(zXg s most e act x y n b).fst) (λd=>aL))) Tryz.func82 (let w:=zY9 s most e act x y n;let z4:=zY8 s most e act x y n;let l:=ops s.ops;let A:=zQr (ims s.ims);let q:=eS (aFW act);let r:=bM n;let t:=bM y;let u:=bM x;let y5:=[bE (aB x),bE (aB y)];let x9:=mS 2 0 0 0 0 0 0 0 (kX 0 0 true (DV.bool false::DV.sl (Int.toNat n) (repl (Int.toNat n) (nW 0 0 0 0 0 0))::nZ (Int.toNat n) (repl (Int.toNat n) mV)));let w0:=List.take (aW 0 14) (frs F);True/\gC ((0:Int)<=0/\0<=(List.length F:Int)) (jW (oG n 12) (oG n 10) True (aX (zZQ 14 136 (Int.toNat 0) 1 w0 x9) (True/\eS true/\True/\(∃w5:Nat,let z3:=zXg s most e act x y n w5;aG True (lH u (aG t r q (dC z3.fst))) (aAP s most e (Int.toNat 0+1=List.length z3.snd)) (w0++x9=frs z3.snd))/\(∀f:Nat,let o:=zXg s most e act x y n f;let a:=frs o.snd;let c:=o.snd;let k:=frs c;let K:=cAt k 13;let L:=cAt k 12;let z5:=fH (rsR most (jJv L) (zQo K));let z6:=List.length c;let z7:=kS z6;let b:=o.fst;let g:=aZ b 12;let M:=iM s g;let z8:=cN y M;let O:=iQ l b 12;let z9:=cN x O;let P:=iH l b 12;let y0:=cI g;let y1:=bT (bU g);let Q:=pO b 12;let R:=gS b 12;let y2:=hZ b 12;let S:=gN b 12;let T:=cR b 12;let p:=cB l b 12;let U:=(⟨p,P,O,M,iM s T,iM s S,iM s y2,iM s R,iM s Q,iM s y1,rF s (cG g),rF s y0⟩:Oq);let y3:=aAQ A P z9 z8 n;let y4:=zHq a;let B:=zKz most y4 U (zQo (pxs y3)) (maR A U x y (List.length (aAQ A P z9 z8 n)));let C:=o.fst;let v:=lX s most e c::lW c;let y6:=bE (fH y3);let y7:=jS s T;let y8:=aH (jS s g) y7 (jS s S) (jS s y2) (aH (jS s R) (jS s Q) (jS s y1) (fG l (jV g)) (aH (jS s (eH g)) (jS s (iA g)) (mQ s (cG g)) (mQ s y0) []));let E:=zHA y4 U;let y9:=aZ b 1;let x0:=bAt (bs act) y9;let h:=aGL c;let j:=aW h 14;let V:=lU j;let x1:=cAt k V;let W:=vG h 14;let x2:=cAt k W;let I:=rsR most (jJv x2) (zQo x1);let d:=aW h 14;let x3:=vF h 14;let m:=o.snd;let X:=tB h 14;let Y:=bU j;let x4:=rH h 14;let Z:=bT j;let z0:=j+1;let z1:=d+1;let x5:=(⟨eF a h 14,fM a d,fM a z1,nX m d,nX m z0,nX m Z,nX m x4,nX m Y,nX m X,nX m x3,bAt a (cG d),bAt a (cI d)⟩:Oq);let x6:=List.take j a;let J:=zKz most (zHq x6) x5 (zQo (pxs I)) (maR A x5 x y (List.length I));let x7:=cG d;let z2:=List.length c;let x8:=z2<=maxLen;dL True (fU (dT b (dG s)) (True/\True/\True/\dF b (dG s) 12 l/\aR (xC (mZ l b 12) l (aZ b 12) (gR s g) (gR s T) (gR s S) (gR s R) (gR s Q)) (True/\True/\True/\(qF p->aK (jW x8 (gU (gT z2) z2) (oI a h 14/\cX a j/\eU (cX a z1) (cX a (z1+1)) (tM c d) (tM c z0) (tM c Z) (cE a (jV j)) (tM c Y) (tM c X) (aG (yP a x7) (aGO a d) (zD a W) (zD a V))) (wJ (aK (jW x8 (aBO z6) True (wJ (bW (tX 158 (lAt k W) x2 (pM (lAt k V) x1 (oB most)) (tJ (fH I))) (gC (eS true) (True/\True/\True/\True/\aR (iY 159 1 (pT 0::AV.agg (aH (vU s most e act x y n f d) (vU s most e act x y n f z0) (vU s most e act x y n f Z) (vU s most e act x y n f x4) (aH (vU s most e act x y n f Y) (vU s most e act x y n f X) (vU s most e act x y n f x3) (fG a (jV d)) (aH (vU s most e act x y n f (eH j)) (vU s most e act x y n f (iA j)) (DV.bool (bAt a x7)) (DV.bool (bAt a (cI d))) [])))::bE (fH I)::y5) [aAO s most e (fW 1 (Int.toNat h) []),bR 249 14 x6] (AV.tup []) (lX s most e J::lW J)) (∃w4:Nat,let H:=zXg s most e act x y n w4;uE (mF s H.fst C) (lH u (aG t r q (bQ b H.fst))) (tH s most e J H.snd) (frs J=frs H.snd)))))))))))/\oK p 3 (dF b (List.length act) 1 (bs act)) (pN (bs act) y9/\True/\True/\aN (dV x0) (aHG b e 1 (True/\True/\True/\True/\(∃w3:Nat,let G:=zXg s most e act x y n w3;uE (mF s G.fst C) (lH u (aG t r q (aB (aU (cB (is e) b 1+1))=fC G.fst))) (tH s most e c G.snd) (a=frs G.snd))))/\xI x0 (aP (lZ p) (aR (iY 160 1 (aGI y8) v (AV.tup []) (lX s most e E::lW E)) (∃w2:Nat,let D:=zXg s most e act x y n w2;uE (mF s D.fst C) (lH u (aG t r q (bQ b D.fst))) (tH s most e E D.snd) (frs E=frs D.snd))) (fP (uC p) (aK ((AnsG prog 161 2 [pT 0,bE y7,pB (x-O),pB (y-M),bE (aB n)] v ⟨y6,v,false⟩/\eS v)/\True/\True/\iY 159 1 (pT 0::AV.agg y8::y6::y5) v (AV.tup []) (bY (aB s.bits) (cD (aB s.c.a)::cD (aB s.c.b)::qI s.c.c (aH (aB s.c.d) (aB s.tw) (aB s.th) (DV.sl (List.length s.ord) (is s.ord)) (aJB s most (DV.sl (List.length e) (is e)) (fW 1 (List.length B) []))))::lW B)/\mU (∃w1:Nat,let z:=zXg s most e act x y n w1;uE (mF s z.fst C) (lH u (aG t r q (bQ b z.fst))) (tH s most e B z.snd) (frs B=frs z.snd))))))))) (bK (eV b (dG s)) (jW z7 (a[(12:Nat)]?=some (DV.sl (lAt a 12) L)/\True) True (True/\True/\True/\z7/\aX (a[(13:Nat)]?=some (DV.sl (lAt a 13) K)/\True) (bD (tX 158 (lAt k 12) L (pM (lAt k 13) K (oB most)) (tJ z5)) (fT (eS true) (yO (z5=fH z4) (tH s most e c w) (a=frs w)) (dO (bE (fH z4)) (lX s most e w::lW w))))))))))))) λhwf hbx=>by
  delta eS aB aW aE iE aP oI aF aU aG bE cQ fG aK aN bD aX cU cO cN dL gC kS pB nZ oB wJ lZ aH bY wM bM nP bP aR bK bW kX mS fC aT aZ dE gU bQ eF cR dC pM oG mU tX eU cX fM aY bS dF fT fU oK cB dT eV mZ iH iQ mV uC qF fW aM bT bU jV dO xA dZ yP qI gN gS hZ gT pN pO lH aBO uE zD dG cI cG eH aHF iA cE fP aGO jW xC mF aHG bO xI oN dV sN cY pT iY zX aFW iM gR rF mQ lU rH tB vF vG nW fH aJB aAO aHX aAP lW lX tH aGI aAQ aGL tJ yO tK nX tM jS vU;simp only[sS];clear hwf hbx;have hM2:∀n:Nat,n<=100000->n<=maxLen:=λn h=>by unfold maxLen;omega
  have en:(n.toNat:Int)=n:=by omega
  have za:repl n.toNat [DV.int .u16 0,DV.int .u16 0,DV.int .u16 0,DV.int .u16 0,DV.int .u16 0,DV.int .u16 0]=acs (List.replicate n.toNat .zero):=by
   unfold repl acs;rw[wXr,wXs];rfl
  have zb:repl n.toNat [DV.int .u16 0,DV.int .u16 0,DV.int .u16 0,DV.int .u16 0,DV.int .u16 0]=pxs (List.replicate n.toNat .zero):=by
   unfold repl pxs;rw[wXr,wXs];rfl
  have hmx:=hM2 n.toNat (by omega);refine⟨by omega,⟨hn.1,Int.le_refl _,by omega,by omega⟩,⟨hn.1,Int.le_refl _,by omega,by omega⟩,⟨rfl,rfl,hM2 _ (by decide),by decide⟩,⟨0,rfl,rfl,?_⟩,λk=>⟨λhlt=>?_,λhge=>?_⟩⟩
  .rw[za,zb]
   show _=frs [zHl n.toNat]
   unfold frs Fr.cells zHl;simp only[wQ2,List.flatMap_nil,wQ8,wXD];rfl
  .have h:(zXg s most e act x y n k).1<s.ops.length:=by omega
   have G:=hG.step k _ (List.getElem?_eq_getElem h);have su:=(zWj s most e act x y n k).trans (zGx h);have up:=jWp G;have eu:=congrArg Prod.fst su;rw[<-eu]at up;clear eu;have fu:=congrArg Prod.snd su;obtain⟨GL,GF,GP,GA,GS,GD⟩:=G;generalize hq:zXg s most e act x y n k=q at *;have r:=zXF h;have a:=zXG h;have hon:s.ops[q.1]?=some s.ops[q.1]:=List.getElem?_eq_getElem h;generalize s.ops[q.1]=o at *;simp only[Nat.add_assoc,Nat.reduceAdd]at r a;obtain⟨a0,a1,a2,a3,a4,a5,a6,a7,a8,a9,a10,a11⟩:=a;obtain⟨r0,r1,r2,r3,r4,r5,r6,r7,r8,r9,r10,r11⟩:=r;simp only[Nat.add_assoc,Nat.reduceAdd,a0,a1,a2,a3,a4,a5,a6,a7,a8,a9,a10,a11,r0,r1,r2,r3,r4,r5,r6,r7,r8,r9,r10,r11,true_and,and_true,and_self];clear a0 a1 a2 a3 a4 a5 a6 a7 a8 a9 a10 a11 r0 r1 r2 r3 r4 r5 r6 r7 r8 r9 r10 r11;have kF:q.2.length-1<q.2.length:=by omega
   have wF:wrap .i64 ((q.2.length:Int)-1)=(q.2.length:Int)-1:=wQb _ (by omega);have nF:((q.2.length:Int)-1).toNat=q.2.length-1:=by omega
   have tF:q.2[q.2.length-1]=topF q.2:=by unfold topF;rw[List.getElem?_eq_getElem kF];rfl
   have r:=jKx kF;have a:=jKz kF;rw[tF]at r a;simp only[Nat.add_zero]at r a;obtain⟨a0,a1,a2,a3,a4,a5,a6,a7,a8,a9,a10,a11,a12,a13⟩:=a;obtain⟨r0,r1,r2,r3,r4,r5,r6,r7,r8,r9,r10,r11,r12,r13⟩:=r;simp only[wF,nF,Nat.add_assoc,Nat.reduceAdd,a0,a1,a2,a3,a4,a5,a6,a7,a8,a9,a10,a11,a12.1,a12.2,a13.1,a13.2,r0,r1,r2,r3,r4,r5,r6,r7,r8,r9,r10,r11,r12,r13,true_and,and_true,and_self];clear a0 a1 a2 a3 a4 a5 a6 a7 a8 a9 a10 a11 a12 a13 r0 r1 r2 r3 r4 r5 r6 r7 r8 r9 r10 r11 r12 r13;have hm:=hM2 q.2.length (by omega);have h2:2<=q.2.length->q.2.length-1=q.2.dropLast.length:=λ_=>wXJ.symm;have go:∀{i:Int}{F:List Fr},(zXg s most e act x y n (k+1))=(i.toNat,F)->0<=i->∃k',s.ops.length-(zXg s most e act x y n k').1<s.ops.length-q.1/\i=((zXg s most e act x y n k').1:Int)/\F.length=(zXg s most e act x y n k').2.length/\frs F=frs (zXg s most e act x y n k').2:=λhi h0=>⟨k+1,by omega,by rw[hi];show _=(_:Int);omega,by rw[hi],by rw[hi]⟩
   have w1:wrap .i64 ((q.1:Int)+1)=(q.1:Int)+1:=wQb _ (by omega);have n1:((q.1:Int)+1).toNat=q.1+1:=by omega
   have pk:∀{F:List Fr}{o:Oq}{l:List Px},zG1 s most F o l x y->AnsG prog 159 1 _ _ _:=λ{F o l} h=>zKv s most e F o l x y h.len hu hI (by omega) h.mask h.src h.oper h.mode h.acc h.back h.ok1 h.ok2;rw[jKy];simp only[zZv,jJu,zZN,zUo,wQg];rw[w1];refine⟨⟨by omega,by omega,by rw[zQc];omega⟩,λh3=>?_,λh3=>?_⟩
   .have h3:o.kind=3:=wZL h3;obtain⟨p1,p2⟩:=GP h3;rw[h2 p1];refine⟨hm,by omega,hm,by omega,zVC (topF q.2).acc (topF q.2).back most GF.1 GF.2.1 GF.2.2,pk p2,go (su.trans ?_) (by omega)⟩;unfold jZG;rw[if_pos h3,n1];rfl
   .have h3:o.kind≠3:=wZO.1 h3;have hl:=GA h3;have ha:=List.getElem?_eq_getElem hl;have hb:=jHV ha;have hg:=jHU ha;rw[hb];refine⟨⟨by omega,by omega,by rw[jZh];exact hl⟩,hg,λhf=>?_,λhf=>?_⟩
    .rw[hf]at ha;obtain⟨v,v1,v2,v3⟩:=GS h3 ha;rw[zXH v1];have hle:q.1<e.length:=by
      rcases wQx q.1 e.length with hh|hh
      .exact hh
      .rw[wQW hh]at v1;cases v1
     refine⟨⟨by omega,by omega,by rw[zQl];exact hle⟩,zXI v1,?_⟩;have w2:wrap .i64 ((v:Int)+1)=(v:Int)+1:=wQb _ (by omega);rw[w2];refine go (su.trans ?_) (by omega);unfold jZG;rw[if_neg h3,ha,v1]
     show((v:Int).toNat+1,q.2)=_
     congr 1
    .rw[hf]at ha;refine⟨λh2=>?_,λh2=>?_⟩
     .have h2:o.kind=2:=wZL h2;refine⟨zKR s most e q.2 o (by omega) GF.1 GF.2.1,go (su.trans ?_) (by omega)⟩;unfold jZG;rw[if_neg h3,ha,if_neg (by decide),if_pos h2,n1]
     .have h2:o.kind≠2:=wZO.1 h2;obtain⟨d1,d2,⟨d3,d4⟩,d5,d6⟩:=GD h3 h2 ha;have wx:wrap .i64 (x-o.x)=x-o.x:=wQb _ (by omega);have wy:wrap .i64 (y-o.y)=y-o.y:=wQb _ (by omega);rw[wx,wy];refine⟨zX8 s most e q.2 o.image (x-o.x) (y-o.y) n d2 hu hn (by omega),pk d1,go (su.trans ?_) (by omega)⟩;unfold jZG;rw[if_neg h3,ha,if_neg (by decide),if_neg h2,n1];rfl
  .have h:s.ops.length<=(zXg s most e act x y n k).1:=by omega
   rw[jGF hG h];obtain⟨L1,L2,L3⟩:=hG.last;unfold zY8;generalize zY9 s most e act x y n=G at *;have r:=jKx (l:=G) (k:=0) (by omega);have a:=jKz (l:=G) (k:=0) (by omega);have tF:G[0]=frN G 0:=by unfold frN;rw[List.getElem?_eq_getElem (by omega)];rfl
   rw[tF]at r a;simp only[Nat.zero_mul,Nat.zero_add]at r a;obtain⟨a0,a1,a2,a3,a4,a5,a6,a7,a8,a9,a10,a11,a12,a13⟩:=a;obtain⟨r0,r1,r2,r3,r4,r5,r6,r7,r8,r9,r10,r11,r12,r13⟩:=r;simp only[a12.1,a12.2,a13.1,a13.2,r12,r13,zUo,zZN];exact⟨by omega,trivial,by omega,trivial,zVC (frN G 0).acc (frN G 0).back most L3.1 L3.2.1 L3.2.2,⟨⟨trivial,trivial⟩,trivial,trivial⟩,trivial⟩
def yX3:Gam:=yX4.add [.p 81 (λv=>let c:=zXs (vm (ul v 0)) (ux (ul v 1));some (RV.tup [RV.d (dS c.1.length (bs c.1)),rJ c.2])),
 .q 37 ([false,true],1,1) (λv b=>let c:=uv (ur b 0);let g:=ux (uq v 1);let h:=nAt c 10;let i:=cAt c 11;let e:=zKV (vm c) h (ints i) g (zHq (ut b 1)) (zQ2 g);let f:=zXE (vm c) h (ints i) g (zQ2 g);some ⟨AV.one (Cl.d (dS f.length (pxs f))),[bC [cJ (nAt c 0),cJ (nAt c 1),cJ (nAt c 2),cJ (nAt c 3),cJ (nAt c 4),cJ (nAt c 5),cJ (nAt c 6),Cl.d (dS (lAt c 7) (cAt c 7)),Cl.d (dS (lAt c 8) (cAt c 8)),Cl.d (dS (lAt c 9) (cAt c 9)),cK h,Cl.d (dS (lAt c 11) i),Cl.ref 1 e.length],Bx.row 249 14 (frs e)],false⟩)]
abbrev qC(q:Rc):List Cl:=[Cl.d (DV.int .i64 q.a),Cl.d (DV.int .i64 q.b),Cl.d (DV.int .i64 q.c),Cl.d (DV.int .i64 q.d)]
theorem zKS(s:Scr)(most:Int)(e:List Int)(F:List Fr)(r:Rc)(hu:∀m∈s.ims,m.isU)(hI:s.ims.length<=1000000)(hP:zGf s most e r)(hM:s.ops.length<=1000000):AnsG prog 37 1 [aPz,AV.agg (qC r)] [bC (vu s most e 1 F.length),bR 249 14 (frs F)] ⟨aO (cD (dS ((zXE s most e r (zQ2 r)).length) (pxs (zXE s most e r (zQ2 r))))),[bC (vu s most e 1 (((zKV s most e r F (zQ2 r))).length)),bR 249 14 (frs (zKV s most e r F (zQ2 r)))],false⟩:=
 vw yX3 (qW (ui (λd=>d<=zQ2 r) (λa=>let b:=zKV s most e r F a;pE (kU 0 0 3 3 (mP 5 (aFW (zXs (aFU s) r).fst) (iP 7 1007 (List.length (zXE s most e r a)) (aIB 8 (r.b+(a:Int)))))) 0 (lX s most e b) 3 (wM r.a r.b r.c r.d []) (aGM 1007 37 5 (pxs (zXE s most e r a)) 1 249 14 (frs b))) (λc=>zQ2 r-c) (λf=>aL))) Tryz.func37 (let b:=zQ2 r;let h:=zKV s most e r F b;let l:=zXE s most e r b;let n:=(zXs (mO s) r).fst;let o:=toBs (bs n);let k:=aFW n;let v:=eS k;xS (aR (bH 81 (iZ s) (gB (cM r)) (lS k (zXs (mO s) r).snd)) (wJ (True/\True/\True/\(∃d:Nat,eW (d<=b) (cT (aG (eS (0:Nat)) v (0=List.length (zXE s most e r d)) (bX r.b (r.b+(d:Int))))) (tH s most e F (zKV s most e r F d)) (eS (cM r)) (([]:List DV)=pxs (zXE s most e r d)) (frs F=frs (zKV s most e r F d)))/\(∀a:Nat,let i:=zKV s most e r F a;let f:=r.b+(a:Int);let g:=zY9 (mO s) most (ints (is e)) o r.a f (cN r.c r.a);let j:=zY8 (mO s) most (ints (is e)) o r.a f (cN r.c r.a);let p:=pxs j;let q:=pxs (zXE s most e r a);let t:=List.length j;let u:=List.length (zXE s most e r a);a<=b->True/\True/\True/\True/\(jE f r.d->True/\aK (True/\True/\iY 82 1 [pT 0,bE (aB r.a),bE (aB f),pB (r.c-r.a),bE k] (bY (aB s.bits) (cD (aB s.c.a)::cD (aB s.c.b)::qI s.c.c (aH (aB s.c.d) (aB s.tw) (aB s.th) (DV.sl (List.length s.ord) (is s.ord)) (aJB s most (DV.sl (List.length e) (is e)) (fW 1 (List.length i) []))))::lW i) (bE (fH j)) (lX s most e g::lW g)/\zZQ 5 10 u t q p/\True/\True/\True/\True/\(∃c:Nat,let m:=zKV s most e r F c;bZ c b (eW (dZ b c a) (cT (aG (eS (0:Nat)) v (u+t=List.length (zXE s most e r c)) (lY f (r.b+(c:Int))))) (tH s most e g m) (eS (cM r)) (q++p=pxs (zXE s most e r c)) (frs g=frs m)))))/\bP (gX f r.d) (yO (fH (zXE s most e r a)=fH l) (tH s most e i h) (frs (zKV s most e r F a)=frs h)) (dO (bE (fH l)) (lX s most e h::lW (zKV s most e r F b)))))))) λhwf hbx=>by
  delta eS aB aV gX aF aU aG bE aK bD cN gB pB wJ jE aH bY wM bM nP bP aR eO cT cM aT dE bH fW bX qG bI dO bZ xA dZ qI aHF eW aIO lY oN xS cY pT iY mO lS zX yH iZ aFW fH aJB aAO aHX aAP lW lX tH yO;simp only[sS];clear hwf hbx;simp only[zQn];simp only[zZI,yZI];obtain⟨hrow,hw,hh,ha1,ha2,ha3⟩:=hP;have hP:zGf s most e r:=⟨hrow,hw,hh,ha1,ha2,ha3⟩
  have wn:wrap .i64 (r.c-r.a)=r.c-r.a:=wQb _ (by omega);rw[wn];refine⟨zGZ s r,⟨0,wQj _,⟨rfl,by omega⟩,rfl,rfl,rfl⟩,λk hk=>⟨λhlt=>?_,λhge=>?_⟩⟩
  .have hkN:k<zQ2 r:=by unfold zQ2;omega
   have hN:zQ2 r<=1000:=by unfold zQ2;omega
   have G:=hP.row k hkN;have wk:wrap .i64 (r.b+(k:Int)+1)=r.b+((k+1:Nat):Int):=by rw[wQb _ (by omega)];omega
   have l1:=zKy hP k (by omega);have l2:=zKy hP (k+1) (by omega);have l3:=jZ7 G;have hm:(k+1)*(r.c-r.a).toNat<=1000*1000:=Nat.mul_le_mul (by omega) (by omega);have hs:(zXE s most e r (k+1))=zXE s most e r k++zY8 s most e (actL s r) r.a (r.b+k) (r.c-r.a):=rfl;have hl:(zXE s most e r (k+1)).length=(zXE s most e r k).length+(zY8 s most e (actL s r) r.a (r.b+k) (r.c-r.a)).length:=by rw[hs,wQe]
   refine⟨zVs s most e (zKV s most e r F k) r.a (r.b+k) (r.c-r.a) (actL s r) hu hI G (by omega) (by omega) hM,⟨zQE _,zQE _,?_,?_⟩,k+1,by omega,by omega,⟨hl.symm,wk⟩,rfl,?_,rfl⟩
   .show(zXE s most e r k).length+(zY8 s most e (actL s r) r.a (r.b+k) (r.c-r.a)).length<=_
    unfold maxLen;omega
   .show((zXE s most e r k).length+(zY8 s most e (actL s r) r.a (r.b+k) (r.c-r.a)).length)*10<=_
    omega
   .rw[hs,<-zJB];rfl
  .have:k=zQ2 r:=by unfold zQ2 at hk |-;omega
   subst this;exact⟨⟨⟨rfl,rfl⟩,rfl,rfl⟩,trivial⟩
def yXc:Gam:=yX3.add [.p 36 (λv=>let c:=zZa (vm (ul v 0));some (RV.d (dS c.length (rcs c)))),
 .q 35 ([true],0,2) (λv b=>let c:=uq v 0;let e:=zZj (zQi (cAt c 9));some ⟨aPz,[bC [cJ (nAt c 0),cJ (nAt c 1),cJ (nAt c 2),cJ (nAt c 3),cJ (nAt c 4),cJ (nAt c 5),cJ (nAt c 6),Cl.d (dS (lAt c 7) (cAt c 7)),Cl.d (dS (lAt c 8) (cAt c 8)),Cl.d (dS (lAt c 9) (cAt c 9)),cK (zQA (nAt c 0)),Cl.d (dS e.1.length (is e.1)),Cl.ref 1 0],Bx.row 249 14 (frs [])],false⟩)]
abbrev sC(q:Scr):List Cl:=[Cl.d (DV.int .i64 q.bits),Cl.d (DV.int .i64 q.c.a),Cl.d (DV.int .i64 q.c.b),Cl.d (DV.int .i64 q.c.c),Cl.d (DV.int .i64 q.c.d),Cl.d (DV.int .i64 q.tw),Cl.d (DV.int .i64 q.th),Cl.d (DV.sl q.ord.length (is q.ord)),Cl.d (DV.sl q.ims.length (ims q.ims)),Cl.d (DV.sl q.ops.length (ops q.ops))]
theorem zHz(s:Scr)(hM:s.ops.length<=100000):AnsG prog 35 0 [AV.agg (sC s)] [] ⟨aPz,[bC [cJ (s.bits),cJ (s.c.a),cJ (s.c.b),cJ (s.c.c),cJ (s.c.d),cJ (s.tw),cJ (s.th),cD (dS s.ord.length (is s.ord)),cD (dS s.ims.length (ims s.ims)),cD (dS s.ops.length (ops s.ops)),cK ((zQA s.bits)),cD (dS ((zZj s.ops).1.length) (is (zZj s.ops).1)),Cl.ref 1 0],bR 249 14 (frs [])],false⟩:=
 vw yXc aL Tryz.func35 (let a:=yC (zQi (ops s.ops));True/\aK (aR (cL 47 s.bits [] (zJ s.bits)) (nB (lM 77 (cY s) [] (lS a (zZj (zQi (ops s.ops))).snd)) (bW (yO (eS (0:Nat)) (aHX s (aG (eS (cY s)) (eQ (zQA s.bits)) (a=yC s.ops) (eS (0:Nat)))) (([]:List DV)=frs [])) (dO (pT 0) (aAO s (zQA s.bits) (zZj s.ops).fst (fW 1 0 [])::lW [])))))) λhwf hbx=>by
  delta eS aB aV aF aG aK bD cL aH wM bM nP aR bW eQ aT dE fW aM dO xA lM nB aHF zK zJ oN cY pT lS yC aJB aAO aHX lW yO;simp only[sS];clear hwf hbx;have h:=zQC s.ops;refine⟨zZ2 s.bits,zKM s.ops hM,⟨⟨by rw[h],by rw[h]⟩,rfl⟩,trivial⟩
theorem zHy(s:Scr)(hz:(cntS s.c s.tw s.th).2.2=true->(cntS s.c s.tw s.th).1≠0)(hT:(zX3 s).length<=1000000):Ans prog 36 [rA (sD s)] (rD (dS ((zZa s).length) (rcs (zZa s)))):=
 vv yXc (let b:=List.length (zX3 s);let c:=cntS (aJX s) s.tw s.th;let d:=aU (c.fst*c.snd.fst);let e:=List.length (zXx (ints (is s.ord)) d);gY (gI (ui (λg=>g<=b) (λa=>aAB (dP 1 1 (iP 8 1008 a (iP 33 1030 e (lO 34 e 35 a)))) 1 (sY s) (aGM 1008 28 4 (rcs (List.take a (zZa s))) 1030 3 1 (is (zXx (ints (is s.ord)) d)))) (λf=>b-f) (λh=>aL)))) Tryz.func36 (let k:=cntS s.c s.tw s.th;let l:=k.snd.fst;let m:=k.fst;let h:=aU (m*l);let i:=ints (is s.ord);let b:=List.length (zXx i h);let c:=is (zXx i h);let o:=eS b;let f:=List.length (zX3 s);aK (aR (bH 78 (aAC s) (lE s.tw s.th) (aBK s.c s.tw s.th)) (aK (aX (AnsG prog 79 0 [bE (DV.sl (List.length s.ord) (is s.ord)),pB (m*l)] [] (rP (aO (Cl.ref 0 b)::kE (zZ4 i h)) [bR 3 1 c] true)) (qO (b<=maxLen) (∃e:Nat,bZ e f (aG (cT (vV (0=e) o b (dC e))) (eS (iZ s)) (([]:List DV)=rcs (List.take e (zZa s))) (eS c))) (∀a:Nat,let g:=rcs (List.take a (zZa s));let n:=zGG s.c s.tw s.th (cB c a 1);let j:=cM n.fst;bL (a<=f) (dT a b->eY (gU (a:Int) b) (uI c a) (nB (bH 80 (aAC s) [aV s.tw,aV s.th,rD (aB (nAt c (aZ a 1)))] (dA j n.snd)) (aK (aR (zZQ 4 32 a 1 g j) (∃d:Nat,eW (d<=f) (dZ f d a) (cT (vV (a+1=d) o b (bQ a d))) (eS (iZ s)) (g++j=rcs (List.take d (zZa s))) (eS c)))))) (aE (eV a b) (rD (DV.sl a g)=rD (aFV (zZa s)))))))))) λhwf=>by
  delta eS aB aV aW aE aU aG bE aK bD aX rP pB kE aR eO cT eY cM fC aZ gU bQ bL dC bH cB dT eV mZ aM bZ dZ lE nB aFM aBK eW aIO uI qO cY gA dA aFV yH iZ aAC vV;simp only[sS];clear hwf;simp only[zZI];have e:zXx s.ord (wrap .i64 ((cntS s.c s.tw s.th).1*(cntS s.c s.tw s.th).2.1))=zX3 s:=rfl;have O:=zWH s.ord.length (is s.ord) (wrap .i64 ((cntS s.c s.tw s.th).1*(cntS s.c s.tw s.th).2.1)) ⟨by rw[zZI],by rw[zQl]⟩;rw[zZI]at O;rw[e]at O |-;have ll:(zZa s).length=(zX3 s).length:=wQD ..;have hm:(zX3 s).length<=maxLen:=by unfold maxLen;omega
  refine⟨zJ7 s.c.a s.c.b s.c.c s.c.d s.tw s.th,O,hm,⟨0,wQj _,⟨rfl,rfl⟩,rfl⟩,λk hk=>⟨λhlt=>?_,λhge=>?_⟩⟩
  .have k1:k<(zX3 s).length:=by omega
   have g1:=List.getElem?_eq_getElem k1;have k2:k<(zZa s).length:=by omega
   have q:(zZa s)[k]=(zGG s.c s.tw s.th (zX3 s)[k]).1:=by simp[zZa]
   rw[wQg,zXH g1];have ts:=wZm (l:=zZa s) (i:=k);rw[List.getElem?_eq_getElem k2,q]at ts;have hw:wrap .i64 ((k:Int)+1)=((k+1:Nat):Int):=by rw[wQb _ (by omega)];omega
   refine⟨by omega,zXI g1,jXS s.c.a s.c.b s.c.c s.c.d s.tw s.th (zX3 s)[k] hz,⟨by rw[zXT,wQl,wQM (by omega)],rfl,?_,?_⟩,k+1,by omega,by omega,⟨rfl,hw⟩,?_⟩
   .unfold maxLen;omega
   .omega
   .rw[ts,jUy];rfl
  .have:k=(zX3 s).length:=by omega
   subst this;rw[wQR (by omega)];exact⟨ll.symm,rfl⟩
theorem jKk(w h:Int)(l:List Px):Ans prog 38 [RV.d (DV.int .i64 w),RV.d (DV.int .i64 h),RV.d (DV.sl l.length (pxs l))] (RV.tup [imR (imOf w h l),RV.d (DV.bool (ofOk w h l.length))]):=by
 have:=jVW w h l.length (pxs l) (jKh l);rw[zZN]at this;exact this.ans rfl rfl
end
def zXo(s:Scr)(k:Nat):Rc:=((zZa s)[k]?).getD Rc.zero
def zUw(s:Scr):Nat->List Fr
 |0=>[]
 |k+1=>zKV s (zQA s.bits) (zZj s.ops).1 (zXo s k) (zUw s k) (zQ2 (zXo s k))
def jVI(l:List Px)(i:Nat)(xs:List Px):List Px:=l.take i++xs++l.drop (i+xs.length)
def jGk(s:Scr)(r:Rc):List Px:=zXE s (zQA s.bits) (zZj s.ops).1 r (zQ2 r)
def atI(s:Scr)(r:Rc)(j:Nat):Nat:=((r.b+j-s.c.b)*(s.c.c-s.c.a)+r.a-s.c.a).toNat
def rowJ(s:Scr)(r:Rc)(j:Nat):List Px:=((jGk s r).drop (j*(r.c-r.a).toNat)).take (r.c-r.a).toNat
def zHB(s:Scr)(r:Rc)(l:List Px):Nat->List Px
 |0=>l
 |j+1=>jVI (zHB s r l j) (atI s r j) (rowJ s r j)
def allP(s:Scr):Nat->List Px
 |0=>List.replicate ((s.c.c-s.c.a)*(s.c.d-s.c.b)).toNat .zero
 |k+1=>zHB s (zXo s k) (allP s k) (zQ2 (zXo s k))
def zJe(s:Scr):Im:=imOf (s.c.c-s.c.a) (s.c.d-s.c.b) (allP s (zZa s).length)
theorem jJV(l:List Px)(k:Nat):(pxs l).drop (k*5)=pxs (l.drop k):=by
 have h1:pxs (l.take k)++(pxs l).drop (k*5)=pxs l:=by rw[<-zHK,wZJ]
 have h2:pxs (l.take k)++pxs (l.drop k)=pxs l:=by rw[zJB,wZJ]
 exact wY5 (h1.trans h2.symm)
variable{i:Nat}{xs:List Px}
theorem jGv{l:List Px}(h:i+xs.length<=l.length):sets (pxs l) (i*5) (pxs xs)=pxs (jVI l i xs):=by
 unfold jVI;rw[zGn _ _ _ (by rw[zQE,zQE];omega),zHK,zQE,show i*5+xs.length*5=(i+xs.length)*5 by omega,jJV,zJB,zJB]
theorem jG1{l:List Px}(h:i+xs.length<=l.length):(jVI l i xs).length=l.length:=by
 unfold jVI;rw[wQe,wQe,wQl,wQF];omega
structure zHm(s:Scr)(r:Rc):Prop where
  x:s.c.a<=r.a/\r.a<=r.c/\r.c<=s.c.c
  y:s.c.b<=r.b/\r.b<=r.d/\r.d<=s.c.d
structure jK2(s:Scr):Prop where
  chk:zKF s=(0,0)
  w:1<=s.c.c-s.c.a/\s.c.c-s.c.a<=1000
  h:1<=s.c.d-s.c.b/\s.c.d-s.c.b<=1000
  at_:(-268435456<=s.c.a/\s.c.a<=268435456) /\ -268435456<=s.c.b/\s.c.b<=268435456
  tile:∀k,k<(zZa s).length->zHm s (zXo s k)
  part:∀k,k<(zZa s).length->zGf s (zQA s.bits) (zZj s.ops).1 (zXo s k)
  hz:(cntS s.c s.tw s.th).2.2=true->(cntS s.c s.tw s.th).1≠0
  few:(zX3 s).length<=1000000
  ops:s.ops.length<=100000
variable{s:Scr}{j:Nat}
theorem jZk(h:jK2 s){r:Rc}(ht:zHm s r)(hj:j<zQ2 r):∃A:Int,(r.b+j-s.c.b)*(s.c.c-s.c.a)=A/\0<=A/\A+(s.c.c-s.c.a)<=(s.c.c-s.c.a)*(s.c.d-s.c.b)/\(s.c.c-s.c.a)*(s.c.d-s.c.b)<=1000000/\0<=r.b+j-s.c.b/\r.b+j-s.c.b<1000:=by
 obtain⟨w1,w2⟩:=h.w;obtain⟨h1,h2⟩:=h.h;obtain⟨y1,y2,y3⟩:=ht.y;unfold zQ2 at hj;refine⟨_,rfl,Int.mul_nonneg (by omega) (by omega),?_,?_,by omega,by omega⟩
 .have:=Int.mul_le_mul_of_nonneg_left (show r.b+j-s.c.b+1<=s.c.d-s.c.b by omega) (show 0<=s.c.c-s.c.a by omega);rw[Int.mul_add,Int.mul_one,wQB]at this;exact this
 .calc (s.c.c-s.c.a)*(s.c.d-s.c.b)<=1000*(s.c.d-s.c.b):=Int.mul_le_mul_of_nonneg_right w2 (by omega)
   _<=1000*1000:=Int.mul_le_mul_of_nonneg_left h2 (by decide)
theorem jX5{r:Rc}(hp:zGf s (zQA s.bits) (zZj s.ops).1 r)(hj:j<zQ2 r):(rowJ s r j).length=(r.c-r.a).toNat:=by
 unfold rowJ jGk;rw[wQl,wQF,zKy hp (zQ2 r) (Nat.le_refl _),<-Nat.sub_mul];have:1*(r.c-r.a).toNat<=(zQ2 r-j)*(r.c-r.a).toNat:=wQ1 _ (by omega);omega
theorem zUB{s:Scr}(h:jK2 s){r:Rc}(ht:zHm s r)(hp:zGf s (zQA s.bits) (zZj s.ops).1 r){l:List Px}(hl:l.length=((s.c.c-s.c.a)*(s.c.d-s.c.b)).toNat):∀j,j<=zQ2 r->(zHB s r l j).length=l.length
 |0,_=>rfl
 |j+1,hj=>by
  have ih:=zUB h ht hp hl j (by omega);obtain⟨A,e,a1,a2,_⟩:=jZk h ht (show j<zQ2 r by omega);have:=ht.x;rw[zHB,jG1,ih];rw[jX5 hp (by omega),ih,hl];unfold atI;rw[e];omega
theorem zVe{s:Scr}(h:jK2 s):∀k,k<=(zZa s).length->(allP s k).length=((s.c.c-s.c.a)*(s.c.d-s.c.b)).toNat
 |0,_=>by simp[allP]
 |k+1,hk=>by
  have ih:=zVe h k (by omega);rw[allP,zUB h (h.tile k (by omega)) (h.part k (by omega)) ih _ (Nat.le_refl _),ih]
variable{m x y:Int}{st:List Oq}{L:Nat->List Lv}{o:Oq}
theorem jJ0{src:List Px}{p:Nat->Px}(hi:zJT m s.ims)(hst:∀j,StOk m st (L j))(h65:st.length<=65)(hn:n<=100000)(hm:0<=o.mask/\o.mask<=s.ims.length)(nx:zZz o.mx=true)(ny:zZz o.my=true)(h0:0<=o.opac)(h1:o.opac<=m)(f1:isNm o.oper=true)(f2:isNm o.mode=true)(f3:o.oper=4\/ctxB st=true)(hl:src.length=n)(hp:∀j,(p j).ok m=true/\(p j).nn)(hsrc:∀j,j<n->pxN src j=p j)(hx:x<=536870912)(hy:y<=536870912) :
  zG1 s m (colF n L) o src x y/\zKz m (colF n L) o src (maR s.ims o x y src.length)=colF n λj=>zJX m (L j) o (zXp m o (p j) (zYu s.ims o (x+j) y)).1:=by
 obtain⟨P,t,e,hk,hop⟩:=zUs hst;have eL:L=λj=>P j++[t j]:=funext e;have hs:∀j,StOk m st (P j++[t j]):=λj=>by rw[<-e];exact hst j
 have q:=λj=>zJK (m:=m) (o:=o) (p:=p j) (mask:=zYu s.ims o (x+j) y) hi.full (hp j).1 (hp j).2 (zVS hi o (x+j) y).1 (zVS hi o (x+j) y).2 h0 h1;have pk:=λj=>(zWm (hs j) (q j).2.1 (q j).2.2 f1 f2 f3).1;have nx:=zKe nx;have ny:=zKe ny;have ks:∀j,j<n->zKH (pxN src j) (ksN (maR s.ims o x y src.length) m j) o.opac m=zXp m o (p j) (zYu s.ims o (x+j) y):=λj hj=>by
  rw[hsrc j hj,hl,yQK hm.1 hj (by omega) (by omega)];rfl
 have eT:topF (colF n L)=⟨(t 0).op,rng n λj=>(t j).acc,rng n λj=>(t j).back⟩:=by rw[eL,zXU hk,zYG]
 have el:(colF n L).length=st.length+1:=by rw[zY4];exact(hst 0).len
 refine⟨⟨by omega,⟨hm,by omega,by omega⟩,by omega,f1,f2,by rw[eT,hl];exact zXq _ _,by rw[eT,hl];exact zXq _ _,λj hj=>?_,λj hj=>?_⟩,?_⟩
 .rw[ks j (by omega),(q j).1]
 .have hj:j<n:=by omega
  have e2:pxN (scR m o.opac src (maR s.ims o x y src.length)) j=(zXp m o (p j) (zYu s.ims o (x+j) y)).1:=by
   rw[zJN (by rw[zJ8];omega),jGA,ks j hj]
  rw[e2,eT];simp only[zUh hj,zVM hj];have:=pk j;unfold zHa at this;rw[zZZ,hop j]at this;exact this
 .have:=jHR (n:=n) (mk:=maR s.ims o x y src.length) (q:=λj=>(zXp m o (p j) (zYu s.ims o (x+j) y)).1) hk hop hl (λj hj=>by rw[ks j hj]) pk;rw[eL];exact this.symm
theorem yZL(hk:o.kind=1)(nx:zZz o.x=true)(ny:zZz o.y=true)(hj:j<n)(hn:n<=100000)(hx:x<=536870912)(hy:y<=536870912):
  pxN (pixR s.ims o.image (x-o.x) (y-o.y) n) j=srcS s.ims o (x+j) y:=by
 have nx:=zKe nx;have ny:=zKe ny;exact yQf hk hj (by omega) (by omega)
theorem yQ7{bits n:Int}(hi:zJT m s.ims)(hb:zQA bits=m)(hst:∀j,StOk m st (L j))(h65:st.length<=65)(hk:o.kind=1)(h0:0<=o.opac)(he:errO bits s.ims.length o st=0)(hn:0<=n/\n<=100000)(hx:x<=536870912)(hy:y<=536870912) :
  zG1 s m (colF n.toNat L) o (pixR s.ims o.image (x-o.x) (y-o.y) n.toNat) x y/\yXo s m x y n (colF n.toNat L) o=colF n.toNat λj=>zJI m s.ims (x+j) y (L j) o:=by
 obtain⟨_,g1,⟨g2,g3,g4,g5⟩,f1,f2,f3,f4,_⟩:=zQL (.inl hk) he;have r:=jJ0 (n:=n.toNat) (o:=o) (src:=pixR s.ims o.image (x-o.x) (y-o.y) n.toNat) (p:=λj=>srcS s.ims o (x+j) y) (x:=x) (y:=y) hi hst h65 (by omega) g1 g4 g5 h0 (by omega) f2 f3 f4 (zKU _ _ _ _ _)
  (λj=>src_ok hi o (x+j) y) (λj hj=>yZL hk g2 g3 hj (by omega) hx hy) hx hy
 refine⟨r.1,?_⟩;unfold yXo;rw[r.2];congr 1;funext j;have⟨m1,m2⟩:=zVS hi o (x+j) y;obtain⟨e,_,_⟩:=zJK (o:=o) hi.full (src_ok hi o (x+j) y).1 (src_ok hi o (x+j) y).2 m1 m2 h0 (by omega);unfold zJI jHO;rw[if_pos hk,if_pos ⟨hk,by rw[e]⟩]
theorem jGj(n:Nat)(hst:∀j,StOk m st (L j))(hn:n<=100000):FrOk m (topF (colF n L))/\(topF (colF n L)).acc.length=n:=by
 obtain⟨P,t,e,hk,hop⟩:=zUs hst;have eL:L=λj=>P j++[t j]:=funext e;rw[eL,zXU hk,zYG];refine⟨⟨?_,?_,λj hj=>?_⟩,zXq _ _⟩
 .show(rng n _).length<=_
  rw[zXq];exact hn
 .show(rng n _).length=(rng n _).length
  rw[zXq,zXq]
 .have hj:j<n:=by
   have:j<(rng n λj=>(t j).acc).length:=hj;rwa [zXq]at this
  show(acN (rng n _) j).ok (pxN (rng n _) j) m=true
  rw[zUh hj,zVM hj];have:=(hst j).lv (t j) (by rw[e j];simp);exact this.ok
theorem yZY{bits:Int}{n:Nat}(hi:zJT m s.ims)(hb:zQA bits=m)(hv:StV bits s.ims.length st)(hst:∀j,StOk m st (L j))(h65:st.length<=65)(hk:o.kind=3)(hne:st≠[])(hn:n<=100000)(hx:x<=536870912)(hy:y<=536870912) :
  2<=(colF n L).length/\zG1 s m (colF n L).dropLast (topF (colF n L)).op (rsR m (topF (colF n L)).acc (topF (colF n L)).back) x y/\popF s m x y (colF n L)=colF n λj=>zJI m s.ims (x+j) y (L j) o:=by
 rcases wX8 st with rfl|⟨st',c,rfl⟩
 .exact absurd rfl hne
 rw[wX9]at *;obtain⟨P,t,e,hkl,hop⟩:=zUs hst;have eL:L=λj=>P j++[t j]:=funext e;have hs:∀j,StOk m (st'++[c]) (P j++[t j]):=λj=>by rw[<-e];exact hst j
 obtain⟨q1,q2⟩:=hv st' c [] rfl;obtain⟨_,g1,⟨g2,g3,g4,g5⟩,f1,f2,f3,f4,_⟩:=zQL (.inr q1) q2;have hc:=λj=>(hs j).pre;have ho:=(hs 0).opac c (by simp);have et:(t 0).op=c:=(hc 0).1;have ru:=λj=>zYr ((hs j).lv (t j) (by simp));have hlen:st'.length<=65:=by rw[wQe]at h65;omega
 have eT:colF n L=colF n P++[⟨(t 0).op,rng n λj=>(t j).acc,rng n λj=>(t j).back⟩]:=by rw[eL,zXU hkl]
 have lR:(rsR m (rng n λj=>(t j).acc) (rng n λj=>(t j).back)).length=n:=by rw[zGw,zXq]
 have r:=jJ0 (n:=n) (o:=c) (src:=rsR m (rng n λj=>(t j).acc) (rng n λj=>(t j).back)) (p:=λj=>zZy (t j).acc (t j).back m) (x:=x) (y:=y) hi (λj=>(hc j).2) hlen hn g1 g4 g5 ho.1 ho.2 f2 f3 f4 lR
  ru (λj hj=>by rw[zJN (by rw[lR];exact hj),jGD,zUh hj,zVM hj]) hx hy
 have hl:(colF n L).length=(colF n P).length+1:=by rw[eT,wQe];rfl
 have hP:1<=(colF n P).length:=by rw[zY4,hkl,wQe];simp
 rw[eT,wZv,zYG];refine⟨by rw[wQe];simp;omega,by rw[et];exact r.1,?_⟩;unfold popF;rw[wZv,zYG];simp only;rw[et,r.2];congr 1;funext j;obtain⟨P',u,e'⟩:=(hc j).2.split;have:=jXk (x:=x+j) (y:=y) (ms:=s.ims) hi (by rw[<-e'];exact hs j) f2 f3 f4;rw[jJx hk,e,e',this.1]
theorem jHk(s:Scr)(r:Rc)(i:Nat):zZL s r 0 (i+1)=zZL s r 0 i++(if zXV s r i then[opAt s i] else[]):=by rw[zZL,Nat.zero_add]
theorem jGC(m:Int)(ms:List Im)(x y:Int)(l:List Oq)(o:Oq)(L:List Lv):runM m ms x y (l++[o]) L=zJI m ms x y (runM m ms x y l L) o:=by rw[zYZ];rfl
theorem jWG(h:i<s.ops.length):opAt s i=s.ops[i]:=by unfold opAt;rw[List.getElem?_eq_getElem h];rfl
theorem jWI{bits:Int}{mn:Nat}:∀{l st st':List Oq},okO bits mn l st=some st'->st.length<=64->st'.length<=64
 |[],st,st',h,hl=>by simp only[okO,wQa]at h;subst h;exact hl
 |o::l,st,st',h,hl=>by
  simp only[okO]at h;split at h
  .rename_i he;refine jWI h ?_
   rcases zYz he with hk|hk|⟨hk,_⟩
   .rw[zVB hk];exact hl
   .rw[zVA hk,wQe];have:=(zQL (.inr hk) he).2.2.2.2.2.2.2 hk;simp;omega
   .have hk:o.kind=3:=by rw[hk];rfl
    unfold zXf;rw[if_neg (by omega),if_pos hk,wXJ];omega
  .cases h
structure zYE(s:Scr)(m:Int):Prop where
  run:s.run.1=0
  ims:zJT m s.ims
  most:zQA s.bits=m
  opac:∀o∈s.ops,0<=o.opac
theorem zYE.opAt0(h:zYE s m)(p:Nat):0<=(opAt s p).opac:=by
 unfold opAt
 rcases wQx p s.ops.length with h1|h1
 .rw[List.getElem?_eq_getElem h1];exact h.opac _ (List.getElem_mem h1)
 .rw[wQW h1];decide
theorem zYE.kept0{s:Scr}{m:Int}(h:zYE s m)(r:Rc)(n:Nat):∀k,∀o∈zZL s r n k,0<=o.opac
 |0,o,ho=>by simp[zZL]at ho
 |k+1,o,ho=>by
  rw[zZL]at ho
  rcases List.mem_append.1 ho with ho|ho
  .exact h.kept0 r n k o ho
  .split at ho
   .rw[wQr.1 ho];exact h.opAt0 _
   .simp at ho
theorem zYE.kept(h:zYE s m)(r:Rc):okO s.bits s.ims.length (zZL s r 0 s.ops.length) []=some []:=by
 obtain⟨ok,e⟩:=zXL h.run;have ho:=(zJL h.run).2;have h1:okO s.bits s.ims.length (foOf s).flat []=some []:=by
  rw[<-e];exact ho
 have h2:=jQM h.run r (foOf s) 0 (Occ.whole s ok) (λj hj=>by omega);rw[<-zZP h.run]at h2;rw[h2];exact(zHY _ [] (jXL s r (foOf s) [] (jQD _ [] [] ok h1).1)).2
theorem zYE.at_(h:zYE s m)(r:Rc)(hi:i<=s.ops.length):∃st,okO s.bits s.ims.length (zZL s r 0 i) []=some st/\okO s.bits s.ims.length (zZL s r i (s.ops.length-i)) st=some []/\st.length<=64/\StV s.bits s.ims.length st /\
  ∀x y,StOk m st (runM m s.ims x y (zZL s r 0 i) [zZ8]):=by
 have e:=zVV s r 0 i (s.ops.length-i);rw[Nat.zero_add,show i+(s.ops.length-i)=s.ops.length by omega]at e;have hk:=h.kept r;rw[e,zKd]at hk
 cases hs:okO s.bits s.ims.length (zZL s r 0 i) []with
 |none=>rw[hs]at hk;cases hk
 |some st=>
  rw[hs]at hk;have rp:=λx y=>jGB h.ims h.most x y (zZL s r 0 i) [] st [zZ8] hs (h.kept0 r 0 i) .nil (jZj h.ims.full);exact⟨st,rfl,hk,jWI hs (by simp),(rp 0 0).1,λx y=>(rp x y).2⟩
theorem zHP{r:Rc}(hi:i<s.ops.length)(ha:zXV s r i=true)(h:okO s.bits s.ims.length (zZL s r i (s.ops.length-i)) st=some []):errO s.bits s.ims.length (opAt s i) st=0:=by
 rw[show s.ops.length-i=(s.ops.length-i-1)+1 by omega,zGO,if_pos ha,List.singleton_append]at h;simp only[okO]at h;split at h
 .assumption
 .cases h
def yZo(s:Scr)(r:Rc)(k:Nat):Prop:=∀j,j<k->(opAt s j).kind=2->k<=enAt s j->hitB s r j=true
theorem yZo.live{r:Rc}(h:yZo s r k):Live s r k:=λj h1 h2 h3=>h j h1 h2 (by omega)
structure jZu(s:Scr)(r:Rc)(m x y n:Int)(q:Nat × List Fr):Prop where
  le:q.1<=s.ops.length
  live:yZo s r q.1
  fr:q.2=colF n.toNat λj=>runM m s.ims (x+j) y (zZL s r 0 q.1) [zZ8]
theorem jGY{r:Rc}(hv:s.run.1=0)(hi:i<s.ops.length)(hl:yZo s r i)(hk:(opAt s i).kind=3):zXV s r i=true:=by
 rcases jJ4 hv hi with h|h|⟨_,q,q1,q2,q3,_⟩
 .omega
 .omega
 .have hq:q<s.ops.length:=by omega
  have:=jWg hv r hq q2;rw[q3]at this;rw[this,zXO];refine⟨hl q q1 q2 (by omega),λj hj h2 h3=>?_⟩;have:=zU0 hv (by omega:j<s.ops.length) hj (by omega);exact hl j (by omega) h2 (by omega)
theorem yXE{r:Rc}(hv:s.run.1=0)(hi:i<s.ops.length):(actL s r)[i]?=some (zXV s r i):=by
 unfold actL zXs;rw[if_pos hv];simp[hi]
theorem yXC{r:Rc}(hv:s.run.1=0):(actL s r).length=s.ops.length:=by
 unfold actL zXs;rw[if_pos hv];simp
section
variable{s:Scr}{r:Rc}{m x y n:Int}{q:Nat × List Fr}
theorem jZu.start(hc:zYE s m):jZu s r m x y n (0,[zHl n.toNat]):=by
 refine⟨wQj _,λj hj=>by omega,?_⟩
 show[zHl n.toNat]=colF n.toNat λj=>[zZ8]
 rw[jHS]
theorem jZu.good(hc:zYE s m)(h:jZu s r m x y n q)(hi:q.1<s.ops.length)(hn:0<=n/\n<=100000)(hx:x<=536870912)(hy:y<=536870912) :
  jH9 s m (zZj s.ops).1 (actL s r) x y n q (opAt s q.1)/\jZu s r m x y n (jZG s m (zZj s.ops).1 (actL s r) x y n q (opAt s q.1)):=by
 obtain⟨i,F⟩:=q;obtain⟨hle,hl,hF⟩:=h;simp only at hi hle hl hF |-;subst hF;obtain⟨st,s1,s2,s3,s4,s5⟩:=hc.at_ r hle;have s5:∀j:Nat,StOk m st (runM m s.ims (x+j) y (zZL s r 0 i) [zZ8]):=λj=>s5 _ _;have el:(colF n.toNat λj=>runM m s.ims (x+j) y (zZL s r 0 i) [zZ8]).length=st.length+1:=by rw[zY4];exact(s5 0).len
 have tr:=jGj n.toNat s5 (by omega);have ei:=zGX hc.run hi;have ag:=yXE (r:=r) hc.run hi;have eg:=jV9 hc.run hi;have hkd:=jJ4 hc.run hi;have ho:=hc.opAt0 i
 have pop:(opAt s i).kind=3->_:=λhk=>yZY (x:=x) (y:=y) (n:=n.toNat) (o:=opAt s i) hc.ims hc.most s4 s5 (by omega) hk (by
  have he:=zHP hi (jGY hc.run hi hl hk) s2
  rcases zYz he with q|q|⟨_,q⟩
  .omega
  .omega
  .exact q) (by omega) hx hy
 have drw:(opAt s i).kind=1->zXV s r i=true->_:=λhk ha=>yQ7 (x:=x) (y:=y) (n:=n) (o:=opAt s i) hc.ims hc.most s5 (by omega) hk ho (zHP hi ha s2) hn hx hy;have grow:zXV s r i=true->∀j:Nat,runM m s.ims (x+j) y (zZL s r 0 (i+1)) [zZ8]=zJI m s.ims (x+j) y (runM m s.ims (x+j) y (zZL s r 0 i) [zZ8]) (opAt s i):=λha j=>by
  rw[jHk,if_pos ha,jGC]
 refine⟨⟨⟨by show 1<=(colF _ _).length;omega,by show(colF _ _).length<=65;omega⟩,tr.1,λhk=>?_,λ_=>by rw[yXC hc.run];exact hi,λ_ ha=>⟨enAt s i,eg,ei.1,ei.2⟩,λk3 k2 ha=>?_⟩,?_⟩
 .obtain⟨a,b,_⟩:=pop hk;exact⟨a,b⟩
 .have ha:zXV s r i=true:=by
   rw[ag]at ha;injection ha
  have k1:(opAt s i).kind=1:=by
   rcases hkd with h|h|⟨h,_⟩
   .exact h
   .exact absurd h k2
   .exact absurd h k3
  obtain⟨g0,_,⟨g2,g3,_,_⟩,_⟩:=zQL (.inl k1) (zHP hi ha s2);have g2:=zKe g2;have g3:=zKe g3;exact⟨(drw k1 ha).1,g0 k1,by omega,by omega,by omega⟩
 .unfold jZG;simp only[ag,eg,wQA];by_cases k3:(opAt s i).kind=3
  .have ha:=jGY hc.run hi hl k3;rw[if_pos k3,(pop k3).2.2];refine⟨hi,λj hj h2 h3=>?_,?_⟩
   .show hitB s r j=true
    have h3:i+1<=enAt s j:=h3
    rcases wQx j i with c|c
    .exact hl j c h2 (by omega)
    .have:j=i:=by have:j<i+1:=hj;omega
     subst this;omega
   .show colF n.toNat _=colF n.toNat _
    simp only[grow ha]
  .rw[if_neg k3]
   cases ha:zXV s r i with
   |false=>
    rw[if_pos rfl];have en:((enAt s i:Nat):Int).toNat=enAt s i:=by omega
    have none_:zZL s r 0 (enAt s i+1)=zZL s r 0 i:=by
     have e:=zVV s r 0 i (enAt s i+1-i);rw[Nat.zero_add,show i+(enAt s i+1-i)=enAt s i+1 by omega]at e;rw[e,zGN s r i (enAt s i+1-i) (λp p1 p2=>?_),wQ8]
     rcases wQx i p with c|c
     .have k2:(opAt s i).kind=2:=by
       rcases hkd with h|h|⟨h,_⟩
       .have:=jHN hc.run hi (by omega);omega
       .exact h
       .exact absurd h k3
      have hb:hitB s r i=false:=by rw[<-zUK hl.live];exact ha
      rcases wQx p (enAt s i) with c2|c2
      .cases hp:zXV s r p with
       |false=>rfl
       |true=>
        have:=((zXO s r p).1 hp).2 i c k2 c2;rw[hb]at this;cases this
      .have:p=enAt s i:=by omega
       rw[this,jWg hc.run r hi k2,ha]
     .have:p=i:=by omega
      rw[this,ha]
    refine⟨by show(_:Int).toNat+1<=_;omega,λj hj h2 h3=>?_,?_⟩
    .have hj:j<((enAt s i:Nat):Int).toNat+1:=hj;have h3:((enAt s i:Nat):Int).toNat+1<=enAt s j:=h3
     rcases wYD j i with c|c|c
     .exact hl j c h2 (by omega)
     .subst c;omega
     .have:=zU0 hc.run hi c (by omega);omega
    .show colF n.toNat _=colF n.toNat _
     simp only[en,none_]
   |true=>
    rw[if_neg (by decide)];by_cases k2:(opAt s i).kind=2
    .rw[if_pos k2];obtain⟨P,t,e,hk,hop⟩:=zUs s5;have d64:=(zQL (.inr k2) (zHP hi ha s2)).2.2.2.2.2.2.2 k2;have cp:=yZb (n:=n.toNat) (o:=opAt s i) hk hop k2 d64;refine⟨hi,λj hj h2 h3=>?_,?_⟩
     .have h3:i+1<=enAt s j:=h3
      rcases wQx j i with c|c
      .exact hl j c h2 (by omega)
      .have:j=i:=by have:j<i+1:=hj;omega
       subst this;exact((zXO s r j).1 ha).1
     .show zHA (colF n.toNat _) _=colF n.toNat _
      simp only[grow ha];have e1:(λj:Nat=>runM m s.ims (x+j) y (zZL s r 0 i) [zZ8])=λj=>P j++[t j]:=funext e;have e2:(λj:Nat=>zJI m s.ims (x+j) y (runM m s.ims (x+j) y (zZL s r 0 i) [zZ8]) (opAt s i))=λj=>jUz (P j++[t j]) (opAt s i):=funext λj=>by
       rw[e j];unfold zJI;rw[if_neg (by omega),if_pos k2]
      rw[e1,e2,cp]
    .rw[if_neg k2];have k1:(opAt s i).kind=1:=by
      rcases hkd with h|h|⟨h,_⟩
      .exact h
      .exact absurd h k2
      .exact absurd h k3
     rw[(drw k1 ha).2];refine⟨hi,λj hj h2 h3=>?_,?_⟩
     .have h3:i+1<=enAt s j:=h3
      rcases wQx j i with c|c
      .exact hl j c h2 (by omega)
      .have:j=i:=by have:j<i+1:=hj;omega
       subst this;omega
     .show colF n.toNat _=colF n.toNat _
      simp only[grow ha]
end
section
variable{s:Scr}{r:Rc}{m x y n:Int}
theorem jQh(hc:zYE s m)(hn:0<=n/\n<=100000)(hx:x<=536870912)(hy:y<=536870912):∀k,jZu s r m x y n (zXg s m (zZj s.ops).1 (actL s r) x y n k)
 |0=>jZu.start hc
 |k+1=>by
  have ih:=jQh hc hn hx hy k;rw[zWj]
  rcases wQx (zXg s m (zZj s.ops).1 (actL s r) x y n k).1 s.ops.length with h|h
  .rw[zGx h,<-jWG h];exact(ih.good hc h hn hx hy).2
  .rw[jQg h];exact ih
theorem jWo(hc:zYE s m)(hn:0<=n/\n<=100000)(hx:x<=536870912)(hy:y<=536870912):∀k o,s.ops[(zXg s m (zZj s.ops).1 (actL s r) x y n k).1]?=some o->jH9 s m (zZj s.ops).1 (actL s r) x y n (zXg s m (zZj s.ops).1 (actL s r) x y n k) o:=λk o ho=>by
 have ih:=jQh hc hn hx hy (r:=r) k;obtain⟨h,e⟩:=wQE.1 ho;rw[<-e,<-jWG h];exact(ih.good hc h hn hx hy).1
theorem jJF(hc:zYE s m)(hn:0<=n/\n<=100000)(hx:x<=536870912)(hy:y<=536870912):zY9 s m (zZj s.ops).1 (actL s r) x y n=colF n.toNat λj=>runM m s.ims (x+j) y (zZL s r 0 s.ops.length) [zZ8]:=by
 have ih:=jQh hc hn hx hy (r:=r) s.ops.length;have hg:=jX4 (jWo hc hn hx hy (r:=r)) s.ops.length;have hl:=ih.le;have e:(zXg s m (zZj s.ops).1 (actL s r) x y n s.ops.length).1=s.ops.length:=by omega
 have hf:=ih.fr;rw[e]at hf;exact hf
theorem jWP(hc:zYE s m)(r:Rc)(x y:Int):StOk m [] (runM m s.ims x y (zZL s r 0 s.ops.length) [zZ8]):=by
 obtain⟨st,s1,s2,_,_,s5⟩:=hc.at_ r (Nat.le_refl _);have:=hc.kept r;rw[this]at s1;injection s1 with s1
 subst s1;exact s5 x y
theorem yQk(hc:zYE s m)(hn:0<=n/\n<=100000)(hx:x<=536870912)(hy:y<=536870912):jZv s m (zZj s.ops).1 (actL s r) x y n:=by
 have he:=jJF hc hn hx hy (r:=r);have hs:∀j:Nat,StOk m [] (runM m s.ims (x+j) y (zZL s r 0 s.ops.length) [zZ8]):=λj=>jWP hc r (x+j) y;have t:=jGj n.toNat hs (by omega);have l:(colF n.toNat λj=>runM m s.ims (x+j) y (zZL s r 0 s.ops.length) [zZ8]).length=1:=by rw[zY4];exact(hs 0).len
 have e:frN (colF n.toNat λj=>runM m s.ims (x+j) y (zZL s r 0 s.ops.length) [zZ8]) 0=topF (colF n.toNat λj=>runM m s.ims (x+j) y (zZL s r 0 s.ops.length) [zZ8]):=by
  unfold frN topF;rw[l]
 refine⟨jWo hc hn hx hy,⟨by rw[he,l];omega,by rw[he,l];omega,by rw[he,e];exact t.1⟩,by rw[he,e];exact t.2⟩
theorem jGE(hc:zYE s m)(hn:0<=n/\n<=100000)(hx:x<=536870912)(hy:y<=536870912)(hj:j<n.toNat):pxN (zY8 s m (zZj s.ops).1 (actL s r) x y n) j=zX2 m s.ims (x+j) y (zZL s r 0 s.ops.length):=by
 have he:=jJF hc hn hx hy (r:=r);have hs:∀j:Nat,StOk m [] (runM m s.ims (x+j) y (zZL s r 0 s.ops.length) [zZ8]):=λj=>jWP hc r (x+j) y;obtain⟨P,t,e,hk,hop⟩:=zUs hs;have eP:∀j,P j=[]:=λj=>List.eq_nil_of_length_eq_zero (by rw[hk];rfl);have eL:(λj:Nat=>runM m s.ims (x+j) y (zZL s r 0 s.ops.length) [zZ8])=λj=>P j++[t j]:=funext e;have e0:frN (colF n.toNat λj=>P j++[t j]) 0=⟨(t 0).op,rng n.toNat λj=>(t j).acc,rng n.toNat λj=>(t j).back⟩:=by
  rw[zXU hk];have:colF n.toNat P=[]:=List.eq_nil_of_length_eq_zero (by rw[zY4,hk];rfl);rw[this];rfl
 unfold zY8;rw[he,eL,e0];have lR:(rsR m (rng n.toNat λj=>(t j).acc) (rng n.toNat λj=>(t j).back)).length=n.toNat:=by rw[zGw,zXq]
 rw[zJN (by rw[lR];exact hj),jGD,zUh hj,zVM hj];unfold zX2;simp only[e j,eP j,List.nil_append];have ok:=((hs j).lv (t j) (by rw[e j];simp)).ok;rw[if_neg (by simp)]
 show _=resL m (t j)
 unfold resL resB;rw[if_pos ok]
theorem jJZ(hc:zYE s m)(hw:0<=r.c-r.a/\r.c-r.a<=1000)(hh:r.d-r.b<=1000)(h1 : -536870912<=r.a/\r.a<=536870912)(h2 : -536870912<=r.b/\r.d<=536870912):zGf s m (zZj s.ops).1 r:=
 ⟨λk hk=>by unfold zQ2 at hk;exact yQk hc ⟨hw.1,by omega⟩ h1.2 (by omega),hw,hh,h1,h2⟩
theorem jUF(hc:zYE s m)(hw:0<=r.c-r.a/\r.c-r.a<=1000)(hh:r.d-r.b<=1000)(h1 : -536870912<=r.a/\r.a<=536870912)(h2 : -536870912<=r.b/\r.d<=536870912){u v:Nat}(hu:u<(r.c-r.a).toNat)(hv:v<zQ2 r) :
  pxN (zXE s m (zZj s.ops).1 r (zQ2 r)) (v*(r.c-r.a).toNat+u)=zX2 m s.ims (r.a+u) (r.b+v) (zZL s r 0 s.ops.length):=by
 rw[jWA (jJZ hc hw hh h1 h2) (zQ2 r) (Nat.le_refl _) v u hv hu];unfold zQ2 at hv;exact jGE hc ⟨hw.1,by omega⟩ h1.2 (by omega) hu
end
variable{w h:Int}
theorem jVZ{l:List Px}(hk:ofOk w h l.length=true)(hx:0<=x/\x<w)(hy:0<=y/\y<h):(imOf w h l).at_ x y=pxN l (y*w+x).toNat:=by
 have hf:=zW6 hk;rw[zW7 hk];have e:(l.length:Int)=w*h:=by
  unfold ofOk at hk;rw[wQd]at hk;exact wQH hk.2
 have h1:(y+1)*w<=h*w:=Int.mul_le_mul_of_nonneg_right (by omega) (by omega);rw[wXj,wZM]at h1;have h2:h*w=w*h:=wQB _ _;have h0:0<=y*w:=Int.mul_nonneg (by omega) (by omega);have hl:(y*w+x).toNat<l.length:=by omega
 unfold Im.at_;have c:((ofIm w h l).formed&&decide (0<=x)&&decide (x<(ofIm w h l).w)&&decide (0<=y)&&decide (y<(ofIm w h l).h))=true:=by
  rw[hf];have a:x<(ofIm w h l).w:=hx.2;have b:y<(ofIm w h l).h:=hy.2;simp[hx.1,hy.1,a,b]
 rw[if_pos c,jG8 hl,zJN hl]
theorem jW1{a:Int}(h0:0<=a)(hw:0<w):0<=a / w/\a / w*w<=a/\a<a / w*w+w:=by
 have h1:=wZb a (by omega:w≠0);have h2:=wZc a hw;have h3:=wZN a w;rw[wQB]at h3;exact⟨wQU h0 (by omega),by omega,by omega⟩
theorem zHH{W t:Int}(h1:1<=t)(h2:t<=W):1<=(W+t-1) / t/\(W+t-1) / t<=W/\W<=(W+t-1) / t*t/\((W+t-1) / t-1)*t<=W-1:=by
 obtain⟨a,b,c⟩:=jW1 (a:=W+t-1) (w:=t) (by omega) (by omega);generalize (W+t-1) / t=n at *;have h3:(n-1)*t=n*t-t:=by rw[Int.sub_mul,wZM]
 refine⟨?_,?_,by omega,by omega⟩
 .rcases wZ5 n 1 with h|h
  .have:=Int.mul_le_mul_of_nonneg_right (show n<=0 by omega) (show 0<=t by omega);rw[wZo]at this;omega
  .exact h
 .rcases wZ5 W n with h|h
  .have q:=Int.mul_le_mul_of_nonneg_right (show W+1<=n by omega) (show 0<=t by omega);rw[wXj,wZM]at q;have r:=Int.mul_le_mul_of_nonneg_left h1 (show 0<=W by omega);rw[Int.mul_one]at r;omega
  .exact h
structure Neat(s:Scr):Prop where
  chk:zKF s=(0,0)
  ims:zJT (zQA s.bits) s.ims
  dim:zG4 s.ims
  opac:∀o∈s.ops,0<=o.opac
  w:1<=s.c.c-s.c.a/\s.c.c-s.c.a<=1000
  h:1<=s.c.d-s.c.b/\s.c.d-s.c.b<=1000
  at_:(-268435456<=s.c.a/\s.c.a<=268435456) /\ -268435456<=s.c.b/\s.c.b<=268435456
section
variable{s:Scr}(hn:Neat s)
include hn
theorem Neat.frame:s.frame=0:=by
 have h:=hn.chk;unfold zKF at h;split at h
 .assumption
 .rename_i hf;exact absurd (congrArg Prod.fst h) hf
theorem Neat.run:s.run.1=0:=by
 have h:=hn.chk;unfold zKF at h;rw[if_pos hn.frame]at h;split at h
 .exact congrArg Prod.fst h
 .rename_i hf;exact absurd (congrArg Prod.fst h) hf
theorem Neat.ctx:zYE s (zQA s.bits):=⟨hn.run,hn.ims,rfl,hn.opac⟩
theorem Neat.parts:(cntS s.c s.tw s.th).2.2=true/\zZ4 s.ord (jVb s)=true/\s.ims.length<=64/\s.ops.length<=4096:=by
 have h:=hn.frame;unfold Scr.frame zYy at h;split at h
 .cases h
 split at h
 .cases h
 split at h
 .cases h
 rename_i h3;split at h
 .cases h
 rename_i h4;split at h
 .cases h
 rename_i h5;refine⟨by simpa using h3,?_,by omega,by omega⟩;have h4:¬zZ4 s.ord (jVb s)=false:=h4;simpa using h4
theorem Neat.sides:(1<=s.tw/\s.tw<=s.c.c-s.c.a)/\(1<=s.th/\s.th<=s.c.d-s.c.b)/\(cntS s.c s.tw s.th).1=(s.c.c-s.c.a+s.tw-1) / s.tw/\(cntS s.c s.tw s.th).2.1=(s.c.d-s.c.b+s.th-1) / s.th:=by
 obtain⟨w1,w2⟩:=hn.w;obtain⟨h1,h2⟩:=hn.h;obtain⟨⟨a1,a2⟩,a3,a4⟩:=hn.at_;have wW:wrap .i64 (s.c.c-s.c.a)=s.c.c-s.c.a:=wQb _ (by omega);have wH:wrap .i64 (s.c.d-s.c.b)=s.c.d-s.c.b:=wQb _ (by omega);have hp:=hn.parts.1
 have e:(if s.c.empty then(0,0,false)
  else if s.tw<1\/wrap .i64 (s.c.c-s.c.a)<s.tw\/s.th<1\/wrap .i64 (s.c.d-s.c.b)<s.th then(0,0,false)
  else(wrap .i64 (Int.tdiv (wrap .i64 (wrap .i64 (wrap .i64 (s.c.c-s.c.a)+s.tw)-1)) s.tw),wrap .i64 (Int.tdiv (wrap .i64 (wrap .i64 (wrap .i64 (s.c.d-s.c.b)+s.th)-1)) s.th),true))=cntS s.c s.tw s.th:=rfl
 rw[wW,wH]at e;rw[<-e]at hp |-;split at hp
 .cases hp
 rename_i q1;split at hp
 .cases hp
 rename_i q2;have t1:1<=s.tw/\s.tw<=s.c.c-s.c.a:=by omega
 have t2:1<=s.th/\s.th<=s.c.d-s.c.b:=by omega
 have b1:=zHH t1.1 t1.2;have b2:=zHH t2.1 t2.2;rw[if_neg q1,if_neg q2];refine⟨t1,t2,?_,?_⟩
 .show wrap .i64 _=_
  rw[wQb (s.c.c-s.c.a+s.tw) (by omega),wQb (s.c.c-s.c.a+s.tw-1) (by omega),wQ5 (by omega),wQb _ (by omega)]
 .show wrap .i64 _=_
  rw[wQb (s.c.d-s.c.b+s.th) (by omega),wQb (s.c.d-s.c.b+s.th-1) (by omega),wQ5 (by omega),wQb _ (by omega)]
end
def zKa(s:Scr)(nx i:Int):Rc:=⟨s.c.a+i%nx*s.tw,s.c.b+i / nx*s.th,min (s.c.a+i%nx*s.tw+s.tw) s.c.c,min (s.c.b+i / nx*s.th+s.th) s.c.d⟩
variable{nx ny:Int}
section
variable{s:Scr}(hn:Neat s)
include hn
theorem Neat.num:∃nx ny:Int,(cntS s.c s.tw s.th).1=nx/\(cntS s.c s.tw s.th).2.1=ny/\(1<=nx/\nx<=1000/\s.c.c-s.c.a<=nx*s.tw/\(nx-1)*s.tw<=s.c.c-s.c.a-1)/\(1<=ny/\ny<=1000/\s.c.d-s.c.b<=ny*s.th/\(ny-1)*s.th<=s.c.d-s.c.b-1)/\jVb s=nx*ny/\1<=nx*ny/\nx*ny<=1000000:=by
 obtain⟨t1,t2,e1,e2⟩:=hn.sides;obtain⟨a1,a2,a3,a4⟩:=zHH t1.1 t1.2;obtain⟨b1,b2,b3,b4⟩:=zHH t2.1 t2.2;have w2:=hn.w.2;have h2:=hn.h.2;have m1:1*1<=(s.c.c-s.c.a+s.tw-1) / s.tw*((s.c.d-s.c.b+s.th-1) / s.th):=wQz a1 b1 (by omega) (by omega);have m2:(s.c.c-s.c.a+s.tw-1) / s.tw*((s.c.d-s.c.b+s.th-1) / s.th)<=1000*1000:=wQz (by omega) (by omega) (by omega) (by omega);refine⟨_,_,e1,e2,⟨a1,by omega,a3,a4⟩,⟨b1,by omega,b3,b4⟩,?_,by omega,by omega⟩;unfold jVb;rw[e1,e2,wQb _ (by omega)]
theorem Neat.rect(e1:(cntS s.c s.tw s.th).1=nx)(e2:(cntS s.c s.tw s.th).2.1=ny)(n1:1<=nx/\nx<=1000/\s.c.c-s.c.a<=nx*s.tw/\(nx-1)*s.tw<=s.c.c-s.c.a-1)(n2:1<=ny/\ny<=1000/\s.c.d-s.c.b<=ny*s.th/\(ny-1)*s.th<=s.c.d-s.c.b-1){i:Int}(hi:0<=i/\i<nx*ny):zGG s.c s.tw s.th i=(zKa s nx i,true)/\(zKa s nx i).a<(zKa s nx i).c/\(zKa s nx i).b<(zKa s nx i).d/\zHm s (zKa s nx i):=by
 obtain⟨t1,t2,_,_⟩:=hn.sides;obtain⟨w1,w2⟩:=hn.w;obtain⟨h1,h2⟩:=hn.h;obtain⟨⟨a1,a2⟩,a3,a4⟩:=hn.at_;have i1:=wZb i (show nx≠0 by omega);have i2:=wZc i (show 0<nx by omega);have i3:=wQU hi.1 (show 0<=nx by omega);have i4:i / nx<ny:=wXo (by omega) (by rw[wQB];exact hi.2);have m1:i%nx*s.tw<=(nx-1)*s.tw:=Int.mul_le_mul_of_nonneg_right (by omega) (by omega);have m2:i / nx*s.th<=(ny-1)*s.th:=Int.mul_le_mul_of_nonneg_right (by omega) (by omega);have m3:0<=i%nx*s.tw:=Int.mul_nonneg i1 (by omega);have m4:0<=i / nx*s.th:=Int.mul_nonneg i3 (by omega);refine⟨?_,by unfold zKa;simp only;omega,by unfold zKa;simp only;omega,⟨by unfold zKa;simp only;omega,by unfold zKa;simp only;omega⟩⟩;unfold zGG zKa;rw[e1,e2,hn.parts.1,wQ5 hi.1,wZ1 hi.1];have q1:i / nx<=1000:=by omega
 rw[wQb (i / nx) (by omega),if_neg (by simp;omega)];simp only;rw[wQb (i%nx*s.tw) (by omega),wQb (i / nx*s.th) (by omega),wQb (s.c.a+i%nx*s.tw) (by omega),wQb (s.c.b+i / nx*s.th) (by omega),wQb (s.c.a+i%nx*s.tw+s.tw) (by omega),wQb (s.c.b+i / nx*s.th+s.th) (by omega)]
theorem Neat.order(eN:jVb s=nx*ny)(h1:1<=nx*ny)(h2:nx*ny<=1000000):(zX3 s).length=(nx*ny).toNat/\(∀v∈zX3 s,0<=v/\v<nx*ny)/\∀i,0<=i->i<nx*ny->i∈zX3 s:=by
 have ho:=hn.parts.2.1;have e:zX3 s=seqL s.ord (jVb s):=by unfold zX3 zXx;rw[if_pos ho]
 unfold zZ4 at ho;simp only[wQd,wQf,wQ0]at ho;obtain⟨⟨⟨_,_⟩,hl⟩,g1,g2⟩:=ho;have l:=jXY hl;rw[e];rw[eN]at g1 g2 l |-;refine⟨l,g1,λi i0 i1=>?_⟩;have key:∀(L:List Int),L.Nodup->(∀v∈L,0<=v/\v<nx*ny)->L.length=(nx*ny).toNat->i∈L:=λL q1 q2 q3=>by
  rcases Decidable.em (i∈L) with h|h
  .exact h
  .exfalso;have n1:(i::L).Nodup:=wXB.2 ⟨h,q1⟩;have sub:(i::L) ⊆ upto (nx*ny).toNat:=λv hv=>by
    have hv2:0<=v/\v<nx*ny:=by
     rcases wQm.1 hv with h|h
     .subst h;exact⟨i0,i1⟩
     .exact q2 v h
    unfold upto;refine wQw.2 ⟨v.toNat,wQy.2 (by omega),?_⟩
    show(v.toNat:Int)=v
    omega
   have:=List.Nodup.length_le_of_subset n1 sub;rw[wQC,q3]at this;unfold upto at this;rw[wQD,wZD]at this;omega
 exact key _ g2 g1 l
end
theorem jHw{r:Rc}(h:r.has x y=true):(r.a<=x/\x<r.c)/\r.b<=y/\y<r.d:=by
 unfold Rc.has at h;simp only[wQd,wQn,wQf]at h;omega
theorem jKq{r:Rc}(h:(r.a<=x/\x<r.c)/\r.b<=y/\y<r.d)(hv:(-1000000000<=r.a/\r.c<=1000000000) /\ -1000000000<=r.b/\r.d<=1000000000):r.has x y=true:=by
 have he:r.empty=false:=by rw[Rc.empty_iff];omega
 unfold Rc.has;rw[he];simp;omega
def ptV(s:Scr)(x y:Int):Px:=zX2 (zQA s.bits) s.ims x y s.ops
section
variable{s:Scr}(hn:Neat s)
include hn
theorem Neat.kept_value{r:Rc}(hc:s.c.has x y=true)(hr:r.has x y=true):zX2 (zQA s.bits) s.ims x y (zZL s r 0 s.ops.length)=ptV s x y:=by
 obtain⟨ok,e⟩:=zXL hn.run;have h1:okO s.bits s.ims.length (foOf s).flat []=some []:=by
  rw[<-e];exact(zJL hn.run).2
 have h2:=jQM hn.run r (foOf s) 0 (Occ.whole s ok) (λj hj=>by omega);rw[<-zZP hn.run]at h2;have hop:∀o∈s.ops,0<=o.opac:=hn.opac;rw[e]at hop;have key:=zGp (s:=s) hn.dim hn.ims rfl hc hr (foOf s) [] [] zZ8 (jQD _ [] [] ok h1).1 hop (jZj hn.ims.full);rw[List.nil_append]at key;unfold ptV zX2;rw[h2,key,<-e]
theorem Neat.tileAt(hk:k<(zZa s).length):zHm s (zXo s k)/\(zXo s k).a<(zXo s k).c/\(zXo s k).b<(zXo s k).d:=by
 obtain⟨nx,ny,e1,e2,n1,n2,eN,p1,p2⟩:=hn.num;obtain⟨l,o1,o2⟩:=hn.order eN p1 p2;have lt:(zZa s).length=(zX3 s).length:=wQD ..;have k1:k<(zX3 s).length:=by omega
 have eK:zXo s k=(zGG s.c s.tw s.th (zX3 s)[k]).1:=by
  unfold zXo;rw[List.getElem?_eq_getElem hk];simp[zZa]
 obtain⟨q1,q2,q3,q4⟩:=hn.rect e1 e2 n1 n2 (o1 _ (List.getElem_mem k1));rw[eK,q1];exact⟨q4,q2,q3⟩
theorem Neat.good{r:Rc}(h:zHm s r):zGf s (zQA s.bits) (zZj s.ops).1 r:=by
 obtain⟨w1,w2⟩:=hn.w;obtain⟨h1,h2⟩:=hn.h;obtain⟨⟨a1,a2⟩,a3,a4⟩:=hn.at_;obtain⟨x1,x2,x3⟩:=h.x;obtain⟨y1,y2,y3⟩:=h.y;exact jJZ hn.ctx (by omega) (by omega) (by omega) (by omega)
theorem Neat.rend:jK2 s:=by
 obtain⟨nx,ny,e1,e2,n1,n2,eN,p1,p2⟩:=hn.num;obtain⟨l,_,_⟩:=hn.order eN p1 p2;exact⟨hn.chk,hn.w,hn.h,hn.at_,λk hk=>(hn.tileAt hk).1,λk hk=>hn.good (hn.tileAt hk).1,λ_=>by rw[e1];omega,by rw[l];omega,by have:=hn.parts.2.2.2;omega⟩
theorem Neat.part_px{r:Rc}(h:zHm s r)(hx:r.a<=x/\x<r.c)(hy:r.b<=y/\y<r.d):pxN (jGk s r) ((y-r.b).toNat*(r.c-r.a).toNat+(x-r.a).toNat)=ptV s x y:=by
 obtain⟨w1,w2⟩:=hn.w;obtain⟨h1,h2⟩:=hn.h;obtain⟨⟨a1,a2⟩,a3,a4⟩:=hn.at_;obtain⟨x1,x2,x3⟩:=h.x;obtain⟨y1,y2,y3⟩:=h.y;have:=jUF (r:=r) hn.ctx (by omega) (by omega) (by omega) (by omega) (u:=(x-r.a).toNat) (v:=(y-r.b).toNat) (by omega) (by unfold zQ2;omega);unfold jGk;rw[this,show r.a+((x-r.a).toNat:Int)=x by omega,show r.b+((y-r.b).toNat:Int)=y by omega];exact hn.kept_value (jKq (by omega) (by omega)) (jKq ⟨hx,hy⟩ (by omega))
end
theorem yQu{l:List Px}{p:Nat}(h:i+xs.length<=l.length):pxN (jVI l i xs) p=if i<=p/\p<i+xs.length then pxN xs (p-i) else pxN l p:=by
 unfold jVI pxN;have hi:(l.take i).length=i:=by rw[wQl];omega
 rw[List.append_assoc];by_cases h1:p<i
 .rw[wQO (by omega),wQI,if_pos h1,if_neg (by omega)]
 .rw[wQq (by omega),hi];by_cases h2:p-i<xs.length
  .rw[wQO h2,if_pos (by omega)]
  .rw[wQq (by omega),if_neg (by omega),wZp];congr 2;omega
section
variable{s:Scr}(hn:Neat s)
include hn
theorem Neat.over_px{r:Rc}(h:zHm s r){l:List Px}(hl:l.length=((s.c.c-s.c.a)*(s.c.d-s.c.b)).toNat){x y:Int}(hc:s.c.has x y=true):∀j,j<=zQ2 r ->
  pxN (zHB s r l j) ((y-s.c.b)*(s.c.c-s.c.a)+(x-s.c.a)).toNat=if(r.a<=x/\x<r.c)/\r.b<=y/\y<r.b+j then ptV s x y else pxN l ((y-s.c.b)*(s.c.c-s.c.a)+(x-s.c.a)).toNat
 |0,_=>by
  rw[if_neg (by omega)];rfl
 |j+1,hj=>by
  have ih:=Neat.over_px h hl hc j (by omega);obtain⟨⟨c1,c2⟩,c3,c4⟩:=jHw hc;have hp:=hn.good h;have lT:=zUB hn.rend h hp hl j (by omega);have lJ:=jX5 hp (show j<zQ2 r by omega);obtain⟨A,eA,A1,A2,A3,A4,A5⟩:=jZk hn.rend h (show j<zQ2 r by omega);obtain⟨x1,x2,x3⟩:=h.x;obtain⟨y1,y2,y3⟩:=h.y;obtain⟨w1,w2⟩:=hn.w;have eI:atI s r j=(A+r.a-s.c.a).toNat:=by unfold atI;rw[eA]
  have hfit:atI s r j+(rowJ s r j).length<=(zHB s r l j).length:=by rw[lT,lJ,hl,eI];omega
  rw[zHB,yQu hfit,lJ,eI,ih];have hN:r.b+(j:Int)<r.d:=by unfold zQ2 at hj;omega
  by_cases hy:y=r.b+j
  .subst hy;rw[eA];by_cases hx:r.a<=x/\x<r.c
   .rw[if_pos (by omega),if_pos ⟨hx,by omega,by omega⟩];have:=hn.part_px h hx (y:=r.b+j) (by omega);rw[<-this];have e0:(r.b+(j:Int)-r.b).toNat=j:=by omega
    rw[e0];unfold rowJ pxN;rw[wQI,if_pos (by omega),wZp];congr 2;omega
   .rw[if_neg (by omega),if_neg (by omega),if_neg (λq=>hx q.1)]
  ·
   have hd:(y-s.c.b)*(s.c.c-s.c.a)=A+(y-(r.b+j))*(s.c.c-s.c.a):=by
    rw[<-eA,<-wXj];congr 1;omega
   have hout:¬((A+r.a-s.c.a).toNat<=((y-s.c.b)*(s.c.c-s.c.a)+(x-s.c.a)).toNat/\((y-s.c.b)*(s.c.c-s.c.a)+(x-s.c.a)).toNat<(A+r.a-s.c.a).toNat+(r.c-r.a).toNat):=by
    have g0:0<=(y-s.c.b)*(s.c.c-s.c.a):=Int.mul_nonneg (by omega) (by omega);rw[hd]at g0 |-
    rcases Int.lt_or_gt_of_ne hy with q|q
    .have:=Int.mul_le_mul_of_nonneg_right (show y-(r.b+j) <= -1 by omega) (show 0<=s.c.c-s.c.a by omega);omega
    .have:=Int.mul_le_mul_of_nonneg_right (show 1<=y-(r.b+j) by omega) (show 0<=s.c.c-s.c.a by omega);omega
   rw[if_neg hout];have:((r.a<=x/\x<r.c)/\r.b<=y/\y<r.b+((j+1:Nat):Int))↔((r.a<=x/\x<r.c)/\r.b<=y/\y<r.b+(j:Int)):=by omega
   simp only[this]
theorem Neat.all_px{x y:Int}(hc:s.c.has x y=true):∀k,k<=(zZa s).length->(∃i,i<k/\(zXo s i).has x y=true)->pxN (allP s k) ((y-s.c.b)*(s.c.c-s.c.a)+(x-s.c.a)).toNat=ptV s x y
 |0,_,⟨i,hi,_⟩=>by omega
 |k+1,hk,⟨i,hi,hh⟩=>by
  have lk:=zVe hn.rend k (by omega);have t:=(hn.tileAt (show k<(zZa s).length by omega)).1;rw[allP,hn.over_px t lk hc (zQ2 (zXo s k)) (Nat.le_refl _)];have eN:((zQ2 (zXo s k):Nat):Int)=(zXo s k).d-(zXo s k).b:=by
   have:=t.y;unfold zQ2;omega
  split
  .rfl
  .rename_i hno;refine Neat.all_px hc k (by omega) ⟨i,?_,hh⟩
   rcases wQx i k with q|q
   .exact q
   .have:i=k:=by omega
    subst this;have:=jHw hh;exact absurd ⟨this.1,by omega,by omega⟩ hno
theorem Neat.image_px(hc:s.c.has x y=true):(zJe s).at_ (x-s.c.a) (y-s.c.b)=ptV s x y:=by
 obtain⟨nx,ny,e1,e2,n1,n2,eN,p1,p2⟩:=hn.num;obtain⟨l,o1,o2⟩:=hn.order eN p1 p2;obtain⟨⟨c1,c2⟩,c3,c4⟩:=jHw hc;obtain⟨t1,t2,_,_⟩:=hn.sides;obtain⟨w1,w2⟩:=hn.w;obtain⟨h1,h2⟩:=hn.h;have lA:=zVe hn.rend _ (Nat.le_refl _);have m1:(s.c.c-s.c.a)*(s.c.d-s.c.b)<=1000*1000:=wQz (by omega) (by omega) (by omega) (by omega);have m0:0<=(s.c.c-s.c.a)*(s.c.d-s.c.b):=Int.mul_nonneg (by omega) (by omega);have ok:ofOk (s.c.c-s.c.a) (s.c.d-s.c.b) (allP s (zZa s).length).length=true:=by
  unfold ofOk zZi;rw[lA];simp only[wQd,wQf];refine(by omega)
 unfold zJe;rw[jVZ ok (by omega) (by omega)];refine hn.all_px hc _ (Nat.le_refl _) ?_;obtain⟨u1,u2,u3⟩:=jW1 (a:=x-s.c.a) (w:=s.tw) (by omega) (by omega);obtain⟨v1,v2,v3⟩:=jW1 (a:=y-s.c.b) (w:=s.th) (by omega) (by omega);generalize (x-s.c.a) / s.tw=u at *;generalize (y-s.c.b) / s.th=v at *;have un:u<nx:=by
  rcases wZ5 u nx with q|q
  .exact q
  .have:=Int.mul_le_mul_of_nonneg_right q (show 0<=s.tw by omega);omega
 have vn:v<ny:=by
  rcases wZ5 v ny with q|q
  .exact q
  .have:=Int.mul_le_mul_of_nonneg_right q (show 0<=s.th by omega);omega
 have b0:0<=v*nx:=Int.mul_nonneg v1 (by omega);have b1:(v+1)*nx<=ny*nx:=Int.mul_le_mul_of_nonneg_right (by omega) (by omega);rw[wXj,wZM,wQB ny]at b1;have hi:0<=v*nx+u/\v*nx+u<nx*ny:=(by omega)
 have hm:=o2 _ hi.1 hi.2;obtain⟨k,hk,ek⟩:=wX2 hm;have lt:(zZa s).length=(zX3 s).length:=wQD ..;have k2:k<(zZa s).length:=by omega
 have eK:zXo s k=(zGG s.c s.tw s.th (v*nx+u)).1:=by
  unfold zXo;rw[List.getElem?_eq_getElem k2];simp[zZa,ek]
 refine⟨k,k2,?_⟩;have tk:=(hn.rect e1 e2 n1 n2 hi).2.2.2;obtain⟨⟨a1,a2⟩,a3,a4⟩:=hn.at_;have tx:=tk.x;have ty:=tk.y;rw[eK,(hn.rect e1 e2 n1 n2 hi).1];have d1:(v*nx+u)%nx=u:=by rw[wXF,wY0];exact Int.emod_eq_of_lt u1 un
 have d2:(v*nx+u) / nx=v:=by rw[wXF,wYy _ _ (by omega),wYz u1 un];omega
 have r0:zKa s nx (v*nx+u)=⟨s.c.a+u*s.tw,s.c.b+v*s.th,min (s.c.a+u*s.tw+s.tw) s.c.c,min (s.c.b+v*s.th+s.th) s.c.d⟩:=by unfold zKa;rw[d1,d2]
 refine jKq ?_ ⟨⟨by show _<=(zKa s nx (v*nx+u)).a;omega,by show(zKa s nx (v*nx+u)).c<=_;omega⟩,by show _<=(zKa s nx (v*nx+u)).b;omega,by show(zKa s nx (v*nx+u)).d<=_;omega⟩
 show((zKa s nx (v*nx+u)).a<=x/\x<(zKa s nx (v*nx+u)).c)/\(zKa s nx (v*nx+u)).b<=y/\y<(zKa s nx (v*nx+u)).d
 rw[r0];simp only;omega
end
def zJP(s:Scr):Int:=if s.bits=16 then 65535 else 255
def covI(s:Scr):Im:=zQW (s.c.c-s.c.a+2) (s.c.d-s.c.b+1) ⟨zJP s / 2,0,zJP s,zJP s,zJP s⟩
def covW(s:Scr):Im:=zQW (wrap .i64 (wrap .i64 (s.c.c-s.c.a)+(2:Int))) (wrap .i64 (wrap .i64 (s.c.d-s.c.b)+(1:Int))) ⟨wrap .u16 (Int.tdiv (zJP s) (2:Int)),(0:Int),zJP s,zJP s,zJP s⟩
def clrI(s:Scr):Im:=zQW 1 1 ⟨0,0,0,0,zJP s⟩
def zYj(s:Scr):List Im:=s.ims++[covI s,clrI s]
def jWc(m:Int)(c:Rc)(n v:Int)(o:Oq):Oq:=
 if o.kind=3 then o
 else if modS v 16=0\/modS v 16=1 then⟨o.kind,o.image,o.x,o.y,n-1,c.a-modS (wrap .i64 (Int.tdiv v 16)) 3,c.b,o.opac,o.oper,o.mode,o.iso,o.kno⟩
 else if modS v 16=2 then⟨o.kind,o.image,o.x,o.y,n,c.a,c.b,o.opac,o.oper,o.mode,o.iso,o.kno⟩
 else if modS v 16=3\/modS v 16=4 then(if o.kind=1 then⟨o.kind,n-2,c.a-modS (wrap .i64 (Int.tdiv v 16)) 3,c.b,0,0,0,m,o.oper,1,o.iso,o.kno⟩ else o)
 else if modS v 16=5\/modS v 16=6\/modS v 16=7 then(if modS (wrap .i64 (Int.tdiv v 16)) 2=0 then⟨o.kind,o.image,o.x,o.y,0,0,0,m,4,1,o.iso,o.kno⟩ else⟨o.kind,o.image,o.x,o.y,0,0,0,m,o.oper,o.mode,o.iso,o.kno⟩)
 else if modS v 16=8 then⟨o.kind,o.image,o.x,o.y,o.mask,o.mx,o.my,0,o.oper,o.mode,o.iso,o.kno⟩
 else o
def zJ6(s:Scr)(l:List Int)(i:Nat)(o:Oq):Oq:=
 match l[i]? with
 |some v=>jWc (zJP s) s.c ((s.ims.length+2:Nat):Int) v o
 |none=>o
def zYV(s:Scr)(l:List Int)(k:Nat):List Oq:=s.ops.mapIdx λi o=>if i<k then zJ6 s l i o else o
def zKK(s:Scr)(l:List Int):List Oq:=s.ops.mapIdx λi o=>zJ6 s l i o
theorem zJk(s:Scr)(l:List Int)(k:Nat):(zYV s l k).length=s.ops.length:=by simp[zYV]
theorem zKJ(s:Scr)(l:List Int):(zKK s l).length=s.ops.length:=by simp[zKK]
theorem jU0(s:Scr)(l:List Int):zYV s l 0=s.ops:=by
 refine wQP (zJk s l 0) λi h1 h2=>?_;simp[zYV]
theorem jH3{l:List Int}(h:k<s.ops.length):(zYV s l k)[k]'(by rw[zJk];exact h)=s.ops[k]:=by
 simp[zYV]
abbrev wYN:=@List.getElem_mapIdx
variable{v:Int}
theorem jH2{l:List Int}(h:k<s.ops.length)(hv:l[k]?=some v):(zYV s l k).set k (jWc (zJP s) s.c ((s.ims.length+2:Nat):Int) v s.ops[k])=zYV s l (k+1):=by
 refine wQP (by simp[zJk]) λi h1 h2=>?_;rw[wYC];simp only[zYV,wYN];by_cases e:k=i
 .subst e;rw[if_pos rfl,if_pos (by omega)];unfold zJ6;rw[hv]
 .rw[if_neg e];by_cases hi:i<k
  .rw[if_pos hi,if_pos (by omega)]
  .rw[if_neg hi,if_neg (by omega)]
theorem jU1{l:List Int}(h:k<s.ops.length)(h3:s.ops[k].kind=3):zYV s l k=zYV s l (k+1):=by
 refine wQP (by simp[zJk]) λi h1 h2=>?_;simp only[zYV,wYN];by_cases e:k=i
 .subst e;rw[if_neg (by omega),if_pos (by omega)];unfold zJ6;split
  .unfold jWc;rw[if_pos h3]
  .rfl
 .by_cases hi:i<k
  .rw[if_pos hi,if_pos (by omega)]
  .rw[if_neg hi,if_neg (by omega)]
theorem jKX{l:List Int}(h:s.ops.length<=k\/l.length<=k):zYV s l k=zKK s l:=by
 refine wQP (by simp[zJk,zKJ]) λi h1 h2=>?_;simp only[zYV,zKK,wYN];have hi:i<s.ops.length:=by rw[zJk]at h1;exact h1
 by_cases e:i<k
 .rw[if_pos e]
 .rw[if_neg e];unfold zJ6;rw[wQW (by omega)]
theorem yZg(s:Scr):zJP s=255\/zJP s=65535:=by
 unfold zJP;split
 .exact .inr rfl
 .exact .inl rfl
theorem yXr(h:(-1000<=s.c.a/\s.c.a<=1000)/\(-1000<=s.c.b/\s.c.b<=1000)/\(-1000<=s.c.c/\s.c.c<=1000) /\ -1000<=s.c.d/\s.c.d<=1000):covW s=covI s:=by
 unfold covW covI;rw[wQb (s.c.c-s.c.a) (by omega),wQb (s.c.d-s.c.b) (by omega),wQb (s.c.c-s.c.a+2) (by omega),wQb (s.c.d-s.c.b+1) (by omega)]
 rcases yZg s with e|e<;>rw[e]<;>rfl
variable{mn:Nat}
theorem jHK{bits:Int}(hk:o.kind=1\/o.kind=2)(hf:o.fields=true)(hi:o.kind=1->0<=o.image/\o.image<mn)(hm:0<=o.mask/\o.mask<=mn)(hn:zZz o.x=true/\zZz o.y=true/\zZz o.mx=true/\zZz o.my=true)(ho:o.opac<=zQA bits)(h1:1<=o.oper/\o.oper<13)(h2:1<=o.mode/\o.mode<13)(hc:o.oper=4\/ctxB st=true)(hl:o.kind=2->st.length<64):errO bits mn o st=0:=by
 unfold errO
 rw[if_neg (by omega),if_neg (by rw[hf];decide),if_neg (by omega),if_neg (λh=>by
   rcases h with⟨a,b⟩|b|b
   .have:=hi a;omega
   .omega
   .omega),if_neg (λh=>h hn),if_neg (by omega),if_neg (λh=>h h1),if_neg (λh=>h h2),
  if_neg (λh=>hc.elim (λe=>h.1 e) λe=>by rw[e]at h;exact absurd h.2 (by decide)),
  if_neg (λh=>by have:=hl h.1;omega)]
theorem jQ9{bits:Int}(h:errO bits mn o st=0):o.fields=true:=by
 unfold errO at h;split at h
 .cases h
 split at h
 .cases h
 .rename_i hf;simpa using hf
structure Bsd(m:Int)(mn:Nat)(o u:Oq):Prop where
  kind:u.kind=o.kind
  iso:u.iso=o.iso
  kno:u.kno=o.kno
  opac:0<=o.opac->0<=u.opac
  err:∀(bits:Int)(st st':List Oq),zQA bits=m->errO bits mn o st=0->st.length=st'.length->ctxB st=ctxB st'->errO bits (mn+2) u st'=0
theorem Bsd.refl(m:Int)(mn:Nat)(o:Oq):Bsd m mn o o:=⟨rfl,rfl,rfl,id,λbits st st' hb he hl hc=>by
 have hf:=jQ9 he;by_cases h3:o.kind=3
 .unfold errO at he |-;rw[if_neg (by omega),if_neg (by rw[hf];decide),if_pos h3]at he |-;split at he
  .cases he
  .rename_i hne;rw[if_neg (λe=>hne (List.length_eq_zero_iff.1 (by rw[hl,e];rfl)))]
 .have hk:o.kind=1\/o.kind=2:=by
   unfold errO at he;split at he
   .cases he
   .omega
  obtain⟨f1,f2,f3,f4,f5,f6,f7,f8⟩:=zQL hk he
  exact jHK hk hf (λh=>by have:=f1 h;omega) (by omega) f3 f4 (wQH f5) (wQH f6) (by rw[<-hc];exact f7) (λh=>by have:=f8 h;omega)⟩
variable{k p q:Int}{b:Bool}
theorem jHI{i mx my r:Int}{a:Bool}(hk:k=1\/k=2)(h1:k=1->a=false/\b=false)(h2:k=2->i=0/\x=0/\y=0)(h3:m=0->mx=0/\my=0):Oq.fields ⟨k,i,x,y,m,mx,my,p,q,r,a,b⟩=true:=by
 rcases hk with rfl|rfl
 .obtain⟨rfl,rfl⟩:=h1 rfl;simp[Oq.fields];omega
 .obtain⟨rfl,rfl,rfl⟩:=h2 rfl;simp[Oq.fields];omega
theorem jG6(hk:o.kind=1\/o.kind=2)(h:o.fields=true):(o.kind=1->o.iso=false/\o.kno=false)/\(o.kind=2->o.image=0/\o.x=0/\o.y=0)/\(o.mask=0->o.mx=0/\o.my=0):=by
 unfold Oq.fields at h;rw[if_neg (by omega)]at h;simp only[wQd,wQn,wXS,wQX,wYJ,wQf]at h;obtain⟨⟨a,b⟩,c⟩:=h;refine⟨λe=>?_,λe=>?_,λe=>?_⟩
 .rcases a with a|a
  .exact absurd e a
  .exact a
 .rcases b with b|b
  .exact absurd e b
  .omega
 .rcases c with c|c
  .exact absurd e c
  .exact c
theorem jHJ(hk:o.kind=1\/o.kind=2)(h1:o.kind=1->o.iso=false/\o.kno=false)(h2:o.kind=2->o.image=0/\o.x=0/\o.y=0)(h3:o.mask=0->o.mx=0/\o.my=0):o.fields=true:=by
 obtain⟨k,i,x,y,m,mx,my,p,q,r,a,b⟩:=o;exact jHI hk h1 h2 h3
structure OqIn(m:Int)(mn:Nat)(o:Oq):Prop where
  kind:o.kind=1\/o.kind=2
  img:o.kind=1->0<=o.image/\o.image<mn
  mask:0<=o.mask/\o.mask<=mn
  n1:zZz o.x=true
  n2:zZz o.y=true
  n3:zZz o.mx=true
  n4:zZz o.my=true
  opac:o.opac<=m
  two:o.kind=2->o.image=0/\o.x=0/\o.y=0
  zero:o.mask=0->o.mx=0/\o.my=0
theorem jW7{u:Oq}(h3:o.kind≠3)(hk:u.kind=o.kind)(hi:u.iso=o.iso)(hkn:u.kno=o.kno)(hop:0<=o.opac->0<=u.opac)(H:OqIn m mn o->OqIn m (mn+2) u/\(u.oper=4\/u.oper=o.oper)/\(u.mode=1\/u.mode=o.mode)):Bsd m mn o u:=by
 refine⟨hk,hi,hkn,hop,λbits st st' hb he hl hcx=>?_⟩;have kk:o.kind=1\/o.kind=2:=by
  unfold errO at he;split at he
  .cases he
  .omega
 obtain⟨f1,f2,⟨f31,f32,f33,f34⟩,f4,f5,f6,f7,f8⟩:=zQL kk he;obtain⟨g1,g2,g3⟩:=jG6 kk (jQ9 he);obtain⟨U,u7,u8⟩:=H ⟨kk,f1,f2,f31,f32,f33,f34,by omega,g2,g3⟩;have f5:1<=o.oper/\o.oper<13:=wQH f5;have f6:1<=o.mode/\o.mode<13:=wQH f6;have uo:=U.opac;refine jHK U.kind (jHJ U.kind (λe=>by rw[hi,hkn];exact g1 (by omega)) U.two U.zero) U.img U.mask ⟨U.n1,U.n2,U.n3,U.n4⟩ (by omega) (by omega) (by omega) ?_ (λh=>by have:=f8 (by omega);omega)
 rcases u7 with e|e
 .exact .inl e
 .rw[e,<-hcx];exact f7
theorem jYv{z:Int}(h1 : -2000<=z)(h2:z<=2000):zZz z=true:=(zUJ z).2 (by omega)
theorem zUI:zZz 0=true:=rfl
section
variable{m n:Int}{mn:Nat}{o:Oq}(hm:0<=m)(h3:o.kind≠3)
include hm h3
theorem jW8(hn:n=(mn:Int)+2)(hk:1<=k)(hk2:k<=n)(hx : -2000<=x/\x<=2000)(hy : -2000<=y/\y<=2000):Bsd m mn o ⟨o.kind,o.image,o.x,o.y,k,x,y,o.opac,o.oper,o.mode,o.iso,o.kno⟩:=
 have _:=hm;jW7 h3 rfl rfl rfl id λI=>⟨⟨I.kind,λe=>by have:=I.img e;show 0<=o.image/\o.image<((mn+2:Nat):Int);omega,by show 0<=k/\k<=((mn+2:Nat):Int);omega,I.n1,I.n2,jYv hx.1 hx.2,jYv hy.1 hy.2,I.opac,I.two,λe=>by have e:k=0:=e;omega⟩,.inr rfl,.inr rfl⟩
theorem yXv(hn:n=(mn:Int)+2)(h1:o.kind=1)(hk:0<=k)(hk2:k<n)(hx : -2000<=x/\x<=2000)(hy : -2000<=y/\y<=2000):Bsd m mn o ⟨o.kind,k,x,y,0,0,0,m,o.oper,1,o.iso,o.kno⟩:=
 jW7 h3 rfl rfl rfl (λ_=>hm) λI=>⟨⟨I.kind,λe=>by show 0<=k/\k<((mn+2:Nat):Int);omega,by show(0:Int)<=0/\(0:Int)<=((mn+2:Nat):Int);omega,jYv hx.1 hx.2,jYv hy.1 hy.2,zUI,zUI,Int.le_refl _,λe=>by have e:o.kind=2:=e;omega,λ_=>⟨rfl,rfl⟩⟩,.inr rfl,.inl rfl⟩
theorem jW9(hp:p=4\/p=o.oper)(hq:q=1\/q=o.mode):Bsd m mn o ⟨o.kind,o.image,o.x,o.y,0,0,0,m,p,q,o.iso,o.kno⟩:=
 jW7 h3 rfl rfl rfl (λ_=>hm) λI=>⟨⟨I.kind,λe=>by have:=I.img e;show 0<=o.image/\o.image<((mn+2:Nat):Int);omega,by show(0:Int)<=0/\(0:Int)<=((mn+2:Nat):Int);omega,I.n1,I.n2,zUI,zUI,Int.le_refl _,I.two,λ_=>⟨rfl,rfl⟩⟩,hp,hq⟩
theorem yZe:Bsd m mn o ⟨o.kind,o.image,o.x,o.y,o.mask,o.mx,o.my,0,o.oper,o.mode,o.iso,o.kno⟩:=
 jW7 h3 rfl rfl rfl (λ_=>Int.le_refl _) λI=>⟨⟨I.kind,λe=>by have:=I.img e;show 0<=o.image/\o.image<((mn+2:Nat):Int);omega,by have:=I.mask;show 0<=o.mask/\o.mask<=((mn+2:Nat):Int);omega,I.n1,I.n2,I.n3,I.n4,hm,I.two,I.zero⟩,.inr rfl,.inr rfl⟩
end
theorem jKW{c:Rc}{n:Int}(hm:0<=m)(hn:n=((mn+2:Nat):Int))(hc:(-1000<=c.a/\c.a<=1000) /\ -1000<=c.b/\c.b<=1000)(o:Oq):Bsd m mn o (jWc m c n v o):=by
 have b3:=@zZF (wrap .i64 (Int.tdiv v 16)) 3 (by omega) (by omega);have hn:n=(mn:Int)+2:=by omega
 unfold jWc;split
 .exact Bsd.refl m mn o
 rename_i h3;split
 .exact jW8 hm h3 hn (by omega) (by omega) (by omega) (by omega)
 split
 .exact jW8 hm h3 hn (by omega) (by omega) (by omega) (by omega)
 split
 .split
  .rename_i h1;exact yXv hm h3 hn h1 (by omega) (by omega) (by omega) (by omega)
  .exact Bsd.refl m mn o
 split
 .split
  .exact jW9 hm h3 (.inl rfl) (.inl rfl)
  .exact jW9 hm h3 (.inr rfl) (.inr rfl)
 split
 .exact yZe hm h3
 .exact Bsd.refl m mn o
def sigO(o:Oq):Bool × Bool:=(o.iso,o.kno)
theorem yXq{st':List Oq}(h:st.map sigO=st'.map sigO):ctxB st=ctxB st':=by
 have e:=congrArg List.getLast? h;rw[List.getLast?_map,List.getLast?_map]at e;unfold ctxB
 cases h1:st.getLast? with
 |none=>
  rw[h1]at e
  cases h2:st'.getLast? with
  |none=>rfl
  |some b=>rw[h2]at e;cases e
 |some a=>
  rw[h1]at e
  cases h2:st'.getLast? with
  |none=>rw[h2]at e;cases e
  |some b=>
   rw[h2]at e;simp only[wQv,wQa,sigO,wQc]at e;simp only[e.1,e.2]
theorem jG5{bits m:Int}{mn:Nat}(hb:zQA bits=m):∀(l l2 st st' r:List Oq),l.length=l2.length->(∀k (h:k<l.length) (h2:k<l2.length),Bsd m mn l[k] l2[k])->st.map sigO=st'.map sigO->okO bits mn l st=some r->∃r',okO bits (mn+2) l2 st'=some r'/\r.map sigO=r'.map sigO
 |[],[],st,st',r,_,_,hs,h=>by
  simp only[okO,wQa]at h;subst h;exact⟨st',rfl,hs⟩
 |[],_::_,_,_,_,hl,_,_,_=>by cases hl
 |_::_,[],_,_,_,hl,_,_,_=>by cases hl
 |o::l,u::l2,st,st',r,hl,H,hs,h=>by
  have B:Bsd m mn o u:=H 0 (by simp) (by simp);simp only[okO]at h |-;split at h
  .rename_i he;have ls:st.length=st'.length:=by have:=congrArg List.length hs;simpa using this
   rw[if_pos (B.err bits st st' hb he ls (yXq hs))];refine jG5 hb l l2 _ _ r (by simpa using hl) (λk h1 h2=>?_) ?_ h
   .have:=H (k+1) (by simp;omega) (by simp;omega);simpa using this
   .unfold zXf;rw[B.kind];split
    .rw[wQZ,wQZ,hs];simp[sigO,B.iso,B.kno]
    .split
     .rw[List.map_dropLast,List.map_dropLast,hs]
     .exact hs
  .cases h
def Scn.bscr(s:Scn)(l:List Int):Scr:=⟨s.bits,s.c,s.gtw,s.gth,s.ord,zYj s.scr,zKK s.scr l⟩
theorem Scn.bm(s:Scn):zJP s.scr=s.most:=by
 have e:zJP s.scr=if s.bits=16 then 65535 else 255:=rfl
 rw[e];unfold Scn.bits
 rcases s.most_in with h|h<;>rw[h]<;>decide
theorem Scn.b_len(s:Scn):(zYj s.scr).length=s.ims.length+2:=by simp[zYj,Scn.scr]
theorem Scn.b_mem{s:Scn}{i:Im}(h:i∈zYj s.scr):i∈s.ims\/∃w h c,i=zQW w h c/\(1<=w/\w<=100)/\(1<=h/\h<=100)/\c.ok s.most=true/\c.nn:=by
 have CF:=s.c_facts;have FF:=s.facts;have hm:0<=s.most/\s.most<=65535:=by rcases s.most_in with h|h<;>rw[h]<;>omega
 rcases List.mem_append.1 h with h|h
 .exact .inl h
 .refine .inr ?_;simp only[wQm,wX6,or_false]at h
  rcases h with rfl|rfl
  .unfold covI;rw[s.bm];have e1:s.scr.c.c-s.scr.c.a=s.gw:=CF.1;have e2:s.scr.c.d-s.scr.c.b=s.gh:=CF.2.1;rw[e1,e2];refine⟨_,_,_,rfl,by omega,by omega,?_,?_⟩
   .rw[Px.ok_iff];simp only;omega
   .unfold Px.nn;simp only;omega
  .unfold clrI;rw[s.bm];refine⟨_,_,_,rfl,by omega,by omega,?_,?_⟩
   .rw[Px.ok_iff];simp only;omega
   .unfold Px.nn;simp only;omega
theorem zGW(hw:1<=w/\w<=100)(hh:1<=h/\h<=100):zZi w h=true:=by
 have:=wQz hw.2 hh.2 (by omega) (by omega);simp[zZi];omega
theorem Scn.b_isU(s:Scn):∀m∈zYj s.scr,m.isU:=λi hi=>by
 rcases Scn.b_mem hi with h|⟨w,h,c,rfl,_⟩
 .exact s.ims_isU _ h
 .exact zKN _ _ _
theorem Scn.b_tiny(s:Scn):∀m∈zYj s.scr,m.tiny:=λi hi=>by
 rcases Scn.b_mem hi with h|⟨w,h,c,rfl,_⟩
 .exact s.ims_tiny _ h
 .exact zGa _ _ _ _
theorem Scn.b_formed(s:Scn):∀m∈zYj s.scr,m.formed=true:=λi hi=>by
 rcases Scn.b_mem hi with h|⟨w,h,c,rfl,hw,hh,_⟩
 .exact(s.fine _ h).1
 .exact zZ0 _ (zGW hw hh)
theorem Scn.b_dim(s:Scn):zG4 (zYj s.scr):=λi hi=>by
 rcases Scn.b_mem hi with h|⟨w,h,c,rfl,hw,hh,_⟩
 .exact s.dim_ok _ h
 .refine⟨⟨?_,?_⟩,?_,?_⟩
  .show 0<=w;omega
  .show w<=_;omega
  .show 0<=h;omega
  .show h<=_;omega
theorem Scn.b_valid(s:Scn):∀m∈zYj s.scr,m.valid s.most=0:=λi hi=>by
 rcases Scn.b_mem hi with h|⟨w,h,c,rfl,hw,hh,hc,_⟩
 .exact(s.fine _ h).2.2.1
 .refine(Im.valid_iff (zZ0 _ (zGW hw hh)) _).2 λp hp=>?_;rw[jZC _ (zGW hw hh)]at hp;rw[(wX5.1 hp).2];exact hc
theorem Scn.b_ims(s:Scn):zJT (zQA s.bits) (zYj s.scr):=by
 rw[s.bits_most];refine⟨s.full,λi hi x y=>?_⟩
 rcases Scn.b_mem hi with h|⟨w,h,c,rfl,hw,hh,hc,hn⟩
 .exact s.ims_ok.px _ h x y
 .unfold Im.at_;split
  .exact⟨hc,hn⟩
  .exact zJE (by have:=(zZC s.full).1;omega)
theorem Scn.b_okO(s:Scn)(l:List Int):okO s.bits (s.ims.length+2) (zKK s.scr l) []=some []:=by
 have CF:=s.c_facts;have FF:=s.facts;have hm:0<=s.most:=by rcases s.most_in with h|h<;>rw[h]<;>omega
 obtain⟨r,h1,h2⟩:=jG5 (bits:=s.bits) (m:=s.most) (mn:=s.ims.length) s.bits_most s.ops (zKK s.scr l) [] [] [] (zKJ s.scr l).symm (λk h h2=>by
  have e:(zKK s.scr l)[k]=zJ6 s.scr l k s.ops[k]:=by simp[zKK,Scn.scr]
  rw[e];unfold zJ6;split
  .rw[s.bm];exact jKW hm rfl ⟨⟨by show -1000<=s.c.a;omega,by show s.c.a<=1000;omega⟩,by show -1000<=s.c.b;omega,by show s.c.b<=1000;omega⟩ _
  .exact Bsd.refl _ _ _) rfl s.ops_ok
 rw[h1]
 cases r with
 |nil=>rfl
 |cons a r=>cases h2
theorem Scn.b_op0(s:Scn)(l:List Int):∀o∈zKK s.scr l,0<=o.opac:=λo ho=>by
 have CF:=s.c_facts;have FF:=s.facts;have hm:0<=s.most:=by rcases s.most_in with h|h<;>rw[h]<;>omega
 obtain⟨k,hk,rfl⟩:=wX2 ho;have hk2:k<s.ops.length:=by rw[zKJ]at hk;exact hk
 have e:(zKK s.scr l)[k]=zJ6 s.scr l k s.ops[k]:=by simp[zKK,Scn.scr]
 rw[e];have h0:=s.op0 _ (List.getElem_mem hk2);unfold zJ6;split
 .rw[s.bm];exact(jKW (mn:=s.ims.length) hm rfl ⟨⟨by show -1000<=s.c.a;omega,by show s.c.a<=1000;omega⟩,by show -1000<=s.c.b;omega,by show s.c.b<=1000;omega⟩ _).opac h0
 .exact h0
theorem Scn.b_ru(s:Scn)(l:List Int):RuOk (s.bscr l):=
 ⟨by show okO s.bits (zYj s.scr).length (zKK s.scr l) []=some [];rw[s.b_len];exact s.b_okO l,s.b_op0 l,s.b_dim,s.b_formed,s.b_ims⟩
theorem Scn.b_neat(s:Scn){l:List Int}{p:List Oq}(R:RuOk (zQ5 (s.bscr l) p))(hl:p.length<=4096):Neat (zQ5 (s.bscr l) p):=by
 have CF:=s.c_facts;have FF:=s.facts;have li:=s.ims_len;have lb:=s.b_len;have f:=s.frame_ok (mn:=(zYj s.scr).length) (pn:=p.length) (by omega) hl;have e1:(zQ5 (s.bscr l) p).frame=0:=f;have e2:(imsE (zQA s.bits) (zYj s.scr) 0).1=0:=by
  rw[s.bits_most];exact jKj _ _ s.b_valid
 have e3:(zQ5 (s.bscr l) p).run=(0,0):=by
  show opsE s.bits s.c s.gtw s.gth s.ord (zYj s.scr).length p=_
  unfold opsE;rw[if_pos f];have:=jVm p [] 0 [] [] R.ok;rw[wQ8]at this;have this:runO s.bits (zYj s.scr).length p 0 []=_:=this;rw[this];rfl
 refine⟨?_,s.b_ims,s.b_dim,R.opac,⟨?_,?_⟩,⟨?_,?_⟩,⟨?_,?_⟩,?_,?_⟩
 .unfold zKF;rw[if_pos e1];have e2:(imsE (zQA (zQ5 (s.bscr l) p).bits) (zQ5 (s.bscr l) p).ims 0).1=0:=e2;rw[if_pos e2,e3]
 .show 1<=s.c.c-s.c.a;omega
 .show s.c.c-s.c.a<=1000;omega
 .show 1<=s.c.d-s.c.b;omega
 .show s.c.d-s.c.b<=1000;omega
 .show -268435456<=s.c.a;omega
 .show s.c.a<=268435456;omega
 .show -268435456<=s.c.b;omega
 .show s.c.b<=268435456;omega
abbrev wYa:=@wpList_append_lies
abbrev wYb:=@Go.Lib.cell?_alloc_some
abbrev wYc:=@Value.slice.injEq
abbrev wYd:=@Addr.mk.injEq
abbrev wYP:=@Tryz.ntmps199
abbrev wYO:=@Tryz.underlying30
abbrev wZW:=@Go.Lib.run_eql_slice_nil
theorem zXW(n:Nat)(xs:List DV)(hl:xs.length=n*12)(hb:n*88<=140737488355328):AnsO prog 199 [RV.d (.sl n xs)] 61 12 n xs:=by
 intro w S vs hG hvs;obtain⟨v,rfl,hv⟩:∃v,vs=#[v]/\RepD w S (.sl n xs) v:=by
  obtain⟨l⟩:=vs
  match l,hvs with
  |[v],h=>simp only[RepRs,RepR]at h;exact⟨v,rfl,h.1⟩
  |[],h=>simp only[RepRs]at h
  |_::_::_,h=>simp only[RepRs]at h;exact h.2.elim
 have hv':=hv;simp only[RepD]at hv;obtain⟨A,cap,rfl,h1,h2,h3⟩:=hv
 cases A with
 |none=>
  have:xs=[]:=by
   cases xs with
   |nil=>rfl
   |cons x xs=>obtain⟨g,off,e,_⟩:=h3 (by simp);cases e
  subst this;have hl:n=0:=by simp at hl;omega
  subst hl;have hq:=λw'=>wZW (P:=prog) w' 30 61 none 0 cap 0 0 wYO
  go_enter Tryz.func199,wYP
  go_wp2
  go_ret
  exact⟨_,rfl,[],⟨rfl,.inl ⟨rfl,rfl⟩⟩,trivial,wQ7 _ _⟩
 |some a=>
  have hq:=λw'=>wZW (P:=prog) w' 30 61 (some a) n cap 0 0 wYO;by_cases hn:n=0
  .subst hn;have:xs=[]:=List.eq_nil_of_length_eq_zero (by omega);subst this
   go_enter Tryz.func199,wYP
   go_wp2
   refine wZP (v:=.slice (some ⟨w.heap.size,0,none⟩) 0 0) (by simp[results,Tryz.results199,go_sem, *]) rfl ?_;exact⟨_,rfl,[],⟨rfl,.inr ⟨w.heap.size,0,#[],rfl,Nat.le_refl _,.plain (wQN w _),Nat.le_refl _,wQj _,rfl,rfl⟩⟩,trivial,(wQ7 _ _).alloc (Nat.le_refl _) _⟩
  .obtain⟨g,off,hA,hg,hc⟩:=h3 (by intro h;subst h;exact hn (by simp at hl;omega));injection hA with hA
   subst hA;obtain⟨us,u1,u2⟩:=zXd hc;have hul:us.length=n*12:=by rw[<-zQ8 u1,hl]
   have hown:(w.alloc (.cells #[] 61)).ownsRow w.heap.size 61 12 (.slice (some ⟨w.heap.size,0,none⟩) 0 0) 0 []:=
    ⟨rfl,.inr ⟨w.heap.size,0,#[],rfl,Nat.le_refl _,wQN w _,Nat.le_refl _,wQj _,rfl,rfl⟩⟩
   go_enter Tryz.func199,wYP
   have hi0:prog.info? 61=some Tryz.t61:=by kernel_rfl
   have hi1:Tryz.t61.zero=some (.agg #[.int .i64 0,.int .i64 0,.int .i64 0,.int .i64 0,.int .i64 0,.int .i64 0,.int .i64 0,.int .u16 0,.int .i64 0,.int .i64 0,.bool false,.bool false]):=by kernel_rfl
   have hi2:Tryz.t61.size=12:=by kernel_rfl
   have hi3:Tryz.t61.bytes=88:=by kernel_rfl
   go_wp2_with (at_builtin;refine wYa _ rfl (.tmp 5) (.tmp 6) 30 rfl w.heap.size 61 Tryz.t61 (.agg #[.int .i64 0,.int .i64 0,.int .i64 0,.int .i64 0,.int .i64 0,.int .i64 0,.int .i64 0,.int .u16 0,.int .i64 0,.int .i64 0,.bool false,.bool false]) 12 88 wYO hi0 hi1 hi2 hi3 rfl (by omega) _ 0 [] rfl hown ⟨g,off,none⟩ n cap us rfl hul (λj u hj=>by rw[zZp];exact(wYb _ (u2 j u hj))) (zYm u1) (by omega) (by omega) (by omega) (by simp) _ rfl ?_;intro g2 c2 w2 hown2 hgrow hat hgl)
   have hob:w.heap.size<=w2.heap.size/\Below w.heap.size w w2:=by
    have hb1:Below w.heap.size w (w.alloc (.cells #[] 61)):=(wQ7 _ _).alloc (Nat.le_refl _) _
    have hb2:=hb1.grown hgrow (by simp) (λx hx=>by
     simp[Act.eval,Value.ownBlock]at hx
     omega)
    exact⟨hb2.size,hb2⟩
   refine wZP (v:=.slice (some ⟨g2,0,none⟩) (0+n) c2) (by simp[results,Tryz.results199,go_sem, *]) rfl ?_;rw[Nat.zero_add,List.nil_append]at hown2;rw[Nat.zero_add];have hge:w.heap.size<=g2:=by
    rcases hown2.2 with⟨e,_⟩|⟨g',cap',cur,e,q1,_⟩
    .cases e
    .simp only[wYc,wQa,wYd,and_true,true_and]at e;obtain⟨rfl,rfl⟩:=e;exact q1
   refine⟨_,rfl,us,zUA hown2,u1.keep λg o u hV hu=>?_,hob.2⟩;have hlt:g<w.heap.size:=wZI w _ hu;refine⟨⟨.inl hV,λe=>?_⟩,(hob.2.cell (p:=⟨g,o,none⟩) hlt).trans hu⟩;simp only[Value.ownBlock,wQa]at e;omega
variable{k:Nat}
section
attribute [local irreducible] Ans AnsO AnsG AnsN AnsI
def bsD(l:List Bool):List DV:=l.map .bool
def toBz(l:List DV):List Bool:=l.map λd=>match d with|.bool b=>b|_=>false
theorem yQe(l:List Bool):toBz (bsD l)=l:=by simp[toBz,bsD,wZB]
theorem jHW{l:List Bool}(h:l[k]?=some b):(bsD l)[k]?=some (.bool b):=by simp[bsD,h]
theorem yXx{l:List Bool}(h:l[k]?=some b):bAt (bsD l) k=b:=by simp[bAt,jHW h]
theorem vwE(v:Vw):(⟨v.s,v.max,ints (is v.ends),ints (is v.grps),ints (is v.kids),toBz (bsD v.fsts)⟩:Vw)=v:=by
 simp only[zZI,yQe]
theorem frOK(r:AV)(l:List Bx):zYe ⟨r,l,false⟩=True:=rfl
theorem oqE(o:Oq):(⟨o.kind,o.image,o.x,o.y,o.mask,o.mx,o.my,o.opac,o.oper,o.mode,o.iso,o.kno⟩:Oq)=o:=rfl
theorem pxE(p:Px):(⟨p.a,p.b,p.c,p.al,p.f⟩:Px)=p:=rfl
theorem zZU(l:List Bool):(bsD l).length=l.length:=by simp[bsD]
theorem zV8{l:List Bool}(h:l[k]?=some b):(bsD l)[k]?=some (.bool b)/\bAt (bsD l) k=b:=⟨jHW h,yXx h⟩
def vr(l:List DV):Vw:=⟨⟨nAt l 0,⟨nAt l 1,nAt l 2,nAt l 3,nAt l 4⟩,nAt l 5,nAt l 6,ints (cAt l 7),zQr (cAt l 8),zQi (cAt l 9)⟩,nAt l 10,ints (cAt l 11),ints (cAt l 12),ints (cAt l 13),toBz (cAt l 14)⟩
def jYH:Gam:=yXc.add [.q 204 ([false,true],1,1000) (λv b=>let c:=frV (vr (uv (ur b 0))) (nAt (um v) 1).toNat;some ⟨AV.tup [AV.one (Cl.d (dQ c.1)),AV.one (Cl.d (dQ c.2))],b,false⟩),
 .q 234 ([false,true],1,1000) (λv b=>let c:=smV (vr (uv (ur b 0))) (vg (uq v 1));some ⟨AV.tup [AV.one (cK c.1),AV.one (Cl.d (dQ c.2))],b,false⟩)]
theorem zUD(op:Int):Ans prog 205 [rJ (op)] (rD (dQ (faB op))):=
 vv jYH aL Tryz.func205 (let b:=aP ((zYH op 3==1)=false) (aCM (zYH op 3==3) (faB op)) (aN (gD (zYH op 3==1)) (cZ true (faB op)));let a:=zYH op 1;iT (cL 216 op [] (dA (DV.str (zZT op)::aDV op 1 2 3) (qN op))) (cS (qN op) (fU ((a==1)=false) (cS (a==3) b (fY (bG (a==3)) (faB op))) (bK (gD (a==1)) b)) (mG (bG (qN op)) (faB op)))) λhwf=>by
  delta eS aB aV aE aP aN bD cL bG bK gD fU aM iT cS cZ fY gO mG qN aCM gA dA aDV;simp only[sS];refine⟨zQh op,λh=>?_,λh=>?_⟩
  .rcases zY2 h with rfl|rfl|rfl|rfl|rfl|rfl|rfl|rfl|rfl|rfl|rfl|rfl<;>decide
  .unfold faB;rw[wQo (by omega)]
theorem zJg(p:Px):Ans prog 198 [rA (pD p)] (rD (dQ (decide (p=Px.zero)))):=
 vv jYH aL Tryz.func198 (qU (cZ (uO (uO (p.a==0) p.b p.c) p.al p.f) (decide (p=Px.zero)))) λhwf=>by
  delta eS aM cZ uL qU uO;simp only[sS];clear hwf;rw[wQ4];simp only[wQd,wZt,and_true,wQf];exact⟨λ⟨⟨h1,h2,h3⟩,h4,h5⟩=>by cases p;simp only at h1 h2 h3 h4 h5;subst h1 h2 h3 h4 h5;rfl,λh=>by subst h;exact⟨⟨rfl,rfl,rfl⟩,rfl,rfl⟩⟩
def aAD(a:Vw):DV:=DV.sl (List.length a.s.ims) (ims a.s.ims)
def fZ(a:Vw):List DV:=ops a.s.ops
def nM(a:Int)(b:Vw):Prop:=iE a (dG b.s) 12 (ops b.s.ops)
def yU(a:Vw):List DV:=[aAD a,cY a.s,aF a.max,DV.sl (List.length a.ends) (is a.ends),DV.sl (List.length a.grps) (is a.grps),DV.sl (List.length a.kids) (is a.kids),DV.sl (List.length a.fsts) (bsD a.fsts)]
def tO(e:Vw):List Bx:=[bY (aB e.s.bits) (Cl.d (aB e.s.c.a)::Cl.d (aB e.s.c.b)::aH (aB e.s.c.c) (aB e.s.c.d) (aB e.s.tw) (aB e.s.th) (aH (DV.sl (List.length e.s.ord) (is e.s.ord)) (DV.sl (List.length e.s.ims) (ims e.s.ims)) (cY e.s) (aF e.max) (aH (DV.sl (List.length e.ends) (is e.ends)) (DV.sl (List.length e.grps) (is e.grps)) (DV.sl (List.length e.kids) (is e.kids)) (DV.sl (List.length e.fsts) (bsD e.fsts)) [])))]
def rI(e:Vw)(f:List DV):List DV:=aB e.s.bits::aB e.s.c.a::aB e.s.c.b::aB e.s.c.c::aB e.s.c.d::aB e.s.tw::aB e.s.th::DV.sl (List.length e.s.ord) (is e.s.ord)::f
def yG(a:Prop)(b:List DV):Prop:=aT (a/\True) (eS b)
def aAU(a:Int)(b:List Int)(c:Nat):Prop:=iE a (List.length b) c (is b)
abbrev vC(q:Vw):List Cl:=[Cl.d (DV.int .i64 q.s.bits),Cl.d (DV.int .i64 q.s.c.a),Cl.d (DV.int .i64 q.s.c.b),Cl.d (DV.int .i64 q.s.c.c),Cl.d (DV.int .i64 q.s.c.d),Cl.d (DV.int .i64 q.s.tw),Cl.d (DV.int .i64 q.s.th),Cl.d (DV.sl q.s.ord.length (is q.s.ord)),Cl.d (DV.sl q.s.ims.length (ims q.s.ims)),Cl.d (DV.sl q.s.ops.length (ops q.s.ops)),Cl.d (DV.int .u16 q.max),Cl.d (DV.sl q.ends.length (is q.ends)),Cl.d (DV.sl q.grps.length (is q.grps)),Cl.d (DV.sl q.kids.length (is q.kids)),Cl.d (DV.sl q.fsts.length (bsD q.fsts))]
theorem zQu(v:Vw)(i:Int)(h0:0<=i)(I:VwIn v i.toNat):AnsG prog 204 1 [aPz,aJ ((i))] [bC (vC v)] ⟨AV.tup [aO (cD (dQ ((frV v (i).toNat).1))),aO (cD (dQ ((frV v (i).toNat).2)))],[bC (vC v)],false⟩:=
 vw jYH aL Tryz.func204 (let c:=frV v (Int.toNat i);let b:=c.snd;let d:=c.fst;let e:=DV.bool d;let f:=bE e::kE b;let a:=eF (is v.grps) i 1;let g:=bF a;let h:=g+11;let j:=g+10;vH (True/\True/\aAU i v.grps 1/\pI v.grps i/\aP (eJ a 0) (True/\True/\True/\True/\jW (nM a v) (pN (fZ v) j) True (qO (nM a v) (pN (fZ v) h) (aBP (yG (aT (mQ v.s j=e) (mQ v.s h=DV.bool b)) (rI v (yU v))) (dO (AV.tup f) (tO v))))) (bP (fI a 0) (yG (aT (jH true d) (jH false b)) (rI v (yU v))) (dO (AV.tup f) (tO v))))) λhwf hbx=>by
  delta eS aB aW aE iE aP eJ oI fI aF bE kE aH bY bP aT eF pI jH dO bF yP aBP pN dG jW qO cY aAD fZ nM yU tO mQ rI yG vH aAU;simp only[sS];clear hwf hbx;simp only[vwE,zQv,zQn,frOK,and_true,wQg];obtain⟨g,eg,g0,g1⟩:=I.grp;have n1:=zXH eg;have n2:=zXI eg;have ef:frV v i.toNat=if 0<=g then((opV v g.toNat).iso,(opV v g.toNat).kno) else(true,false):=by unfold frV;rw[eg];rfl
  have bd:=I.lt;have l2:=I.l2;have gl:=zQl v.grps;simp only[n1,n2,ge_iff_le];rw[ef];refine⟨by omega,trivial,λh=>?_,λh=>?_⟩
  .have q1:=zXF (l:=v.s.ops) (k:=g.toNat) (by omega);have q2:=zXG (l:=v.s.ops) (k:=g.toNat) (by omega);have ol:=zQc v.s.ops;have e:opV v g.toNat=v.s.ops[g.toNat]:=by unfold opV;rw[List.getElem?_eq_getElem (by omega)];rfl
   simp only[Nat.add_assoc,Nat.reduceAdd]at q1 q2;rw[if_pos h,e];simp only[q1,q2,true_and];exact⟨by omega,by omega,trivial⟩
  .rw[if_neg h];exact⟨rfl,rfl⟩
def nU(a:Scr)(b:Vw):Vw:=⟨mO a,b.max,ints (is b.ends),ints (is b.grps),ints (is b.kids),toBz (bsD b.fsts)⟩
def qX(a:Int):List AV:=[pT 0,bE (aB a)]
def jU(e f:Bool)(g:Vw)(h:List DV):Prop:=aT (jH e f/\True) (eS (aB g.s.bits::aB g.s.c.a::aB g.s.c.b::aB g.s.c.c::aB g.s.c.d::aB g.s.tw::aB g.s.th::h))
def aEJ(e:Prop)(f:Bool)(g:Vw)(h:List Bx):Prop:=True/\True/\True/\e/\dO (bE (DV.bool f)) (bY (aB g.s.bits) (Cl.d (aB g.s.c.a)::Cl.d (aB g.s.c.b)::aH (aB g.s.c.c) (aB g.s.c.d) (aB g.s.tw) (aB g.s.th) (aH (DV.sl (List.length g.s.ord) (is g.s.ord)) (DV.sl (List.length g.s.ims) (ims g.s.ims)) (cY g.s) (aF g.max) (aH (DV.sl (List.length g.ends) (is g.ends)) (DV.sl (List.length g.grps) (is g.grps)) (DV.sl (List.length g.kids) (is g.kids)) (DV.sl (List.length g.fsts) (bsD g.fsts)) [])))::h)
def gP(a:Vw):List DV:=DV.sl (List.length a.s.ord) (is a.s.ord)::yU a
def iX(a:Vw):Vw:=nU a.s a
def aEG(a:FuncId)(b:Nat)(c:List AV)(d:Vw)(e:List AV):Prop:=AnsG prog a b c (tO d) ⟨AV.tup e,tO d,false⟩/\eS (tO d)
def yS(a:Prop)(b c:Bool)(d:Vw):Prop:=bP a (jU b c d (gP d)) (dO (bE (DV.bool c)) (tO d))
theorem zWB(v:Vw)(i:Int)(h0:0<=i)(I:VwIn v i.toNat):AnsG prog 200 1 [aPz,aJ ((i))] [bC (vC v)] ⟨aO (cD (dQ (jQw v (i).toNat))),[bC (vC v)],false⟩:=
 vw jYH aL Tryz.func200 (let a:=jQw v (Int.toNat i);let c:=frV (iX v) (Int.toNat i);let b:=c.fst;let d:=c.snd;eZ (aEG 204 1 (qX i) v (bE (DV.bool b)::kE d)) (cS b (aEJ (jU (!d) a v (gP v)) a v []) (yS (bG b) false a v))) λhwf hbx=>by
  delta eS aB aF bE kE aH bY bG bP aT eZ jH dO cS cY pT mO nU qX jU aAD yU aEJ tO gP iX aEG yS;simp only[sS];clear hwf hbx;simp only[vwE,zQv,zQn,frOK,and_true,wQg];refine⟨zQu v i h0 I,λh=>?_,λh=>?_⟩<;>unfold jQw<;>simp only[h,wXi,wYE]
def oY(e f:Bool)(g:Vw):Prop:=aBP (jU e f g (gP g)) (dO (bE (DV.bool f)) [bY (aB g.s.bits) (Cl.d (aB g.s.c.a)::Cl.d (aB g.s.c.b)::aH (aB g.s.c.c) (aB g.s.c.d) (aB g.s.tw) (aB g.s.th) (aH (DV.sl (List.length g.s.ord) (is g.s.ord)) (DV.sl (List.length g.s.ims) (ims g.s.ims)) (cY g.s) (aF g.max) (aH (DV.sl (List.length g.ends) (is g.ends)) (DV.sl (List.length g.grps) (is g.grps)) (DV.sl (List.length g.kids) (is g.kids)) (DV.sl (List.length g.fsts) (bsD g.fsts)) [])))])
theorem zZe(v:Vw)(o:Oq):AnsG prog 206 1 [aPz,AV.agg (oC o)] [bC (vC v)] ⟨aO (cD (dQ (unV v o))),[bC (vC v)],false⟩:=
 vw jYH aL Tryz.func206 (bI (qL o.mask (qU (oY (o.opac==v.max) (unV v o) v)) (wY o.mask->oY false (unV v o) v))) λhwf hbx=>by
  delta eS aB aF bE aH bY bG aT jH bI dO aBP wY cS qL qU cY jU aAD yU gP oY;simp only[sS];clear hwf hbx;simp only[vwE,zQv,zQn,frOK,and_true,wQg];refine⟨λh=>?_,λh=>?_⟩
  .simp only[wZt]at h;simp only[unV,h,decide_true,wXi,Bool.beq_eq_decide_eq]
  .simp only[wZO,ne_eq]at h;simp[unV,h]
def dX(a:Vw)(b:Nat):Prop:=fE a.s b
def tN(a:Vw)(b:Nat):Prop:=dX a (cG b)
theorem zYl(v:Vw)(o:Oq)(hm:0<=o.mask/\o.mask<=(v.s.ims.length:Int))(hI:v.s.ims.length<=1000000):AnsG prog 234 1 [aPz,AV.agg (oC o)] [bC (vC v)] ⟨AV.tup [aO (cK (((smV v o).1))),aO (cD (dQ ((smV v o).2)))],[bC (vC v)],false⟩:=
 vw jYH aL Tryz.func234 (let f:=(smV v o).snd;let g:=(smV v o).fst;let j:=dO (AV.tup (bE (aF g)::kE f)) (tO v);let a:=cN o.mask 1;let c:=aW a 28;let d:=ims v.s.ims;let h:=vF a 28;let b:=eH c;let k:=eH b;let i:=vG a 28;let e:=bU c;let l:=aW a 28;let m:=tB a 28;bI (qL o.mask (True/\yG (aT (qQ g) (jH false f)) (rI v (yU v))/\j) (fP (fS o.mask) (True/\True/\iE a (oL v.s) 28 d/\aFY d a 28 (jQ v.s (rH a 28)) (jQ v.s e) (jQ v.s m) (jQ v.s h) (eU (dX v e) (dX v m) (dX v h) (jA v.s l) (dX v b) (dX v (iA c)) (tN v l) (jA v.s e) (eU (dX v i) (dX v (lU c)) (tN v e) (jA v.s b) (dX v k) (dX v (iA b)) (tN v b) (jA v.s i) (aG (dX v (bU (eH b))) (dX v (lU b)) (tN v i) (jA v.s k))))/\iT (eS true) (aBP (yG (aT (fG d h=aF g) (DV.bool (bAt d (bT c))=DV.bool f)) (rI v (yU v))) j))))) λhwf hbx=>by
  delta eS aB aW aE iE oI aF aU aG bE fG bD cN fS kE aH bY nO aT eU cX bS bT bU jH jV bI dO yP iT aBP cI cG eH oL iA cS cE fP qL qQ cY aAD yU tO fE aDD jQ lU rH jA tB vF vG aFY rI yG dX tN;simp only[sS];clear hwf hbx;simp only[vwE,zQv,zQn,frOK,and_true,wQg];refine⟨λh=>?_,λh=>?_⟩
  .simp only[wZt]at h;simp[smV,h]
  .simp only[wZO,ne_eq]at h;have w:wrap .i64 (o.mask-1)=o.mask-1:=wQb _ ⟨by omega,by have:=hI;omega⟩;have hk:(o.mask-1).toNat<v.s.ims.length:=by omega
   have q1:=jQR hk;have q2:=jQS hk;have il:=zXl v.s.ims;have e:pcV v (o.mask-1)=v.s.ims[(o.mask-1).toNat]:=by unfold pcV;rw[List.getElem?_eq_getElem hk];rfl
   simp only[w,q1,q2,and_true,true_and];refine⟨by omega,?_⟩;unfold smV;rw[if_neg h,e];exact⟨rfl,rfl⟩
def oS(e:Bool)(f:Vw)(g:List Bx):Prop:=dO (bE (DV.bool e)) (bY (aB f.s.bits) (Cl.d (aB f.s.c.a)::Cl.d (aB f.s.c.b)::aH (aB f.s.c.c) (aB f.s.c.d) (aB f.s.tw) (aB f.s.th) (aH (DV.sl (List.length f.s.ord) (is f.s.ord)) (DV.sl (List.length f.s.ims) (ims f.s.ims)) (cY f.s) (aF f.max) (aH (DV.sl (List.length f.ends) (is f.ends)) (DV.sl (List.length f.grps) (is f.grps)) (DV.sl (List.length f.kids) (is f.kids)) (DV.sl (List.length f.fsts) (bsD f.fsts)) [])))::g)
theorem zW0(v:Vw)(o:Oq)(hm:0<=o.mask/\o.mask<=(v.s.ims.length:Int))(hI:v.s.ims.length<=1000000):AnsG prog 202 1 [aPz,AV.agg (oC o)] [bC (vC v)] ⟨aO (cD (dQ (zV3 v o))),[bC (vC v)],false⟩:=
 vw jYH aL Tryz.func202 (let a:=zV3 v o;let b:=(smV (iX v) o).snd;let d:=(smV (iX v) o).fst;let e:=d==v.max;let c:=zYN (mO v.s) o;let f:=Rc.covers c v.s.c;True/\eZ (aEG 234 1 (aGI (qI o.kind (aH (aB o.image) (aB o.x) (aB o.y) (aB o.mask) (qI o.mx (cD (aB o.my)::cD (aF o.opac)::aIA o []))))) v (bE (aF d)::kE b)) (cS b (bW (bK (e=true) (aX (yD 235 (rI v [aAD v,cY v.s]) (Oq.cells o) c) (True/\True/\True/\zR 41 (cM c) (aAC v.s) f/\oY f a v))) (bG e->oY false a v)) (oE b (zE (eS true) (jU false a v (gP v)) (oS a v []))))) λhwf hbx=>by
  delta eS aB aF bE aN aX gB kE aH bY xL aIA bG eO bK bW cM oE aT bH iG eZ aM jH dO qI aBP zE cS zR cY pT mO nU jU aAD yU oS tO gP iX yD aAC rI aGI oY aEG;simp only[sS];clear hwf hbx;simp only[vwE,zQv,zQn,frOK,and_true,wQg];have MR:=zYi v.s o;have CV:=zJM (zYN v.s o).a (zYN v.s o).b (zYN v.s o).c (zYN v.s o).d v.s.c.a v.s.c.b v.s.c.c v.s.c.d;refine⟨zYl v o hm hI,λh=>⟨λh2=>⟨MR,CV,?_⟩,λh2=>?_⟩,λh=>?_⟩
  .simp only[wZt]at h2;simp[zV3,h,h2]
  .simp only[wZO,ne_eq]at h2;simp[zV3,h2]
  .simp[zV3,h]
theorem zWY(v:Vw)(o:Oq)(hm:0<=o.mask/\o.mask<=(v.s.ims.length:Int))(hI:v.s.ims.length<=1000000):AnsG prog 196 1 [aPz,AV.agg (oC o)] [bC (vC v)] ⟨aO (cD (dQ (zGh v o))),[bC (vC v)],false⟩:=
 vw jYH aL Tryz.func196 (let a:=zYN (mO v.s) o;let d:=Rc.empty a;let e:=aB a.a::aB a.b::aB a.c::nR a.d;let f:=dY (iG 235 (rI v [aAD v,cY v.s]) (gB (Oq.cells o)) e) (bH 40 e [] (aM d)) (oY d (zGh v o) v);let b:=(smV (iX v) o).snd;let c:=(smV (iX v) o).fst;bI (sW (aEG 234 1 (aGI (aH (aB o.kind) (aB o.image) (aB o.x) (aB o.y) (aH (aB o.mask) (aB o.mx) (aB o.my) (aF o.opac) (aIA o [])))) v (bE (aF c)::kE b)) (cS (o.mask !=0) (True/\iL (b=true) (bK (fS c) f) (gD (c==0)->True/\oY true (zGh v o) v)/\fP (bG b) f) (bG (o.mask !=0)->oY false (zGh v o) v)))) λhwf hbx=>by
  delta eS aB aE dY aF bE aX gB fS kE aH bY xL aIA bG bK aT gD nR bH iG aM jH bI dO aBP cS fP iL cY pT mO nU jU aAD yU tO gP iX sW rI aGI oY aEG;simp only[sS];clear hwf hbx;simp only[vwE,zQv,zQn,frOK,and_true,wQg];have MR:=zYi v.s o;have EM:=zQJ (zYN v.s o).a (zYN v.s o).b (zYN v.s o).c (zYN v.s o).d;refine⟨zYl v o hm hI,λh0=>⟨λh=>⟨λh2=>⟨MR,EM,?_⟩,λh2=>?_⟩,λh=>⟨MR,EM,?_⟩⟩,λh0=>?_⟩
  .simp only[wZO,ne_eq,wQQ]at h2 h0;simp[zGh,h2,h0]
  .simp only[wZt,wQQ,ne_eq]at h2 h0;simp[zGh,h,h2,h0]
  .simp only[wQQ,ne_eq]at h0;simp[zGh,h,h0]
  .simp only[wZu]at h0;simp[zGh,h0]
def jQ1:Gam:=jYH.add [.p 205 (λv=>some (RV.d (dQ (faB (nAt (uj v) 0))))),
 .p 198 (λv=>some (RV.d (dQ (decide ((uy (ul v 0))=Px.zero))))),
 .q 200 ([false,true],1,1000) (λv b=>some ⟨AV.one (Cl.d (dQ (jQw (vr (uv (ur b 0))) (nAt (um v) 1).toNat))),b,false⟩),
 .q 206 ([false,true],1,1000) (λv b=>some ⟨AV.one (Cl.d (dQ (unV (vr (uv (ur b 0))) (vg (uq v 1))))),b,false⟩),
 .q 202 ([false,true],1,1000) (λv b=>some ⟨AV.one (Cl.d (dQ (zV3 (vr (uv (ur b 0))) (vg (uq v 1))))),b,false⟩),
 .q 196 ([false,true],1,1000) (λv b=>some ⟨AV.one (Cl.d (dQ (zGh (vr (uv (ur b 0))) (vg (uq v 1))))),b,false⟩),
 .q 201 ([false,true],1,1000) (λv b=>some ⟨AV.one (Cl.d (dQ (zKh (vr (uv (ur b 0))) (nAt (um v) 1).toNat))),b,false⟩)]
def aJD(e:FuncId)(f:List AV)(g:Vw)(h:Bool):Prop:=AnsG prog e 1 f [bY (aB g.s.bits) (Cl.d (aB g.s.c.a)::Cl.d (aB g.s.c.b)::aH (aB g.s.c.c) (aB g.s.c.d) (aB g.s.tw) (aB g.s.th) (aH (DV.sl (List.length g.s.ord) (is g.s.ord)) (DV.sl (List.length g.s.ims) (ims g.s.ims)) (cY g.s) (aF g.max) (aH (DV.sl (List.length g.ends) (is g.ends)) (DV.sl (List.length g.grps) (is g.grps)) (DV.sl (List.length g.kids) (is g.kids)) (DV.sl (List.length g.fsts) (bsD g.fsts)) [])))] ⟨bE (DV.bool h),[bY (aB g.s.bits) (Cl.d (aB g.s.c.a)::Cl.d (aB g.s.c.b)::aH (aB g.s.c.c) (aB g.s.c.d) (aB g.s.tw) (aB g.s.th) (aH (DV.sl (List.length g.s.ord) (is g.s.ord)) (DV.sl (List.length g.s.ims) (ims g.s.ims)) (cY g.s) (aF g.max) (aH (DV.sl (List.length g.ends) (is g.ends)) (DV.sl (List.length g.grps) (is g.grps)) (DV.sl (List.length g.kids) (is g.kids)) (DV.sl (List.length g.fsts) (bsD g.fsts)) [])))],false⟩/\eS [bY (aB g.s.bits) (Cl.d (aB g.s.c.a)::Cl.d (aB g.s.c.b)::aH (aB g.s.c.c) (aB g.s.c.d) (aB g.s.tw) (aB g.s.th) (aH (DV.sl (List.length g.s.ord) (is g.s.ord)) (DV.sl (List.length g.s.ims) (ims g.s.ims)) (cY g.s) (aF g.max) (aH (DV.sl (List.length g.ends) (is g.ends)) (DV.sl (List.length g.grps) (is g.grps)) (DV.sl (List.length g.kids) (is g.kids)) (DV.sl (List.length g.fsts) (bsD g.fsts)) [])))]
def dW(a:Vw)(b:Nat):Int:=iM a.s b
def yR(e:Prop)(f g:Bool)(h:Vw)(i:List Bx):Prop:=bL e (jU f g h (gP h)) (dO (bE (DV.bool g)) (bY (aB h.s.bits) (Cl.d (aB h.s.c.a)::Cl.d (aB h.s.c.b)::aH (aB h.s.c.c) (aB h.s.c.d) (aB h.s.tw) (aB h.s.th) (aH (DV.sl (List.length h.s.ord) (is h.s.ord)) (DV.sl (List.length h.s.ims) (ims h.s.ims)) (cY h.s) (aF h.max) (aH (DV.sl (List.length h.ends) (is h.ends)) (DV.sl (List.length h.grps) (is h.grps)) (DV.sl (List.length h.kids) (is h.kids)) (DV.sl (List.length h.fsts) (bsD h.fsts)) [])))::i))
def tP(a:Vw)(b:Int):Prop:=xC (oI (fZ a) b 12) (fZ a) (bF b) (gR a.s (bF b)) (gR a.s (bF b+1)) (gR a.s (bT (bF b))) (gR a.s (bU (bF b))) (gR a.s (rG b))
def aEH(a:Vw)(b:Int)(c:Nat):Oq:=⟨eF (fZ a) b c,fM (fZ a) (bF b),fM (fZ a) (bF b+1),dW a (bF b),dW a (bF b+1),dW a (bT (bF b)),dW a (yF b),dW a (bU (bF b)),dW a (rG b),dW a (vE b),rF a.s (cG (bF b)),rF a.s (cI (bF b))⟩
def aEI(a:FuncId)(b:Vw)(c:Int)(d:wc)(e:Bool):Prop:=aJD a (aGI (aH (jS b.s (bF c)) (jS b.s (bF c+1)) (jS b.s (bT (bF c))) (jS b.s (yF c)) (aH (jS b.s (bU (bF c))) (jS b.s (rG c)) (jS b.s (vE c)) (fG (fZ b) (jV (bF c))) (aH (jS b.s (eH (bF c))) (jS b.s (iA (bF c))) (mQ b.s (cG (bF c))) (mQ b.s (cI (bF c))) d)))) b e
theorem zKr(v:Vw)(i:Int)(h0:0<=i)(I:VwIn v i.toNat)(hI:v.s.ims.length<=1000000):AnsG prog 131 1 [aPz,aJ ((i))] [bC (vC v)] ⟨aO (cD (dQ (invV v (i).toNat))),[bC (vC v)],false⟩:=
 vw jQ1 aL Tryz.func131 (let a:=invV v (Int.toNat i);let f:=dW v (bU (bF i));let g:=imgR (mO v.s) (aEH v i 12);let h:=Rc.empty g;let b:=fM (fZ v) (bF i);let d:=aW b 28;let o:=bT d;let j:=ims v.s.ims;let p:=bAt j o;let e:=bU d;let q:=gF v.s e;let r:=rH b 28;let s:=gF v.s r;let t:=gF v.s o;let u:=gF v.s (d+1);let k:=aW b 28;let w:=gF v.s k;let x:=decide ((⟨w,u,t,s,q⟩:Px)=Px.zero);let c:=eH d;let y:=eH c;let l:=vG b 28;let z:=vF b 28;let A:=tB b 28;let m:=zGh (iX v) (aEH v i 12);let n:=zZf (dW v (rG i));bW (nM i v) (aR (tP v i) (True/\lM 195 (jS v.s (eH (bF i))) [] (aM n)/\True/\yR (dV n) false a v []/\xI n (True/\True/\True/\(fS f->True/\True/\aEI 196 v i [] m/\True/\yR (m=true) true a v []/\(m=false->aP (lZ (eF (fZ v) i 12)) (True/\True/\True/\aAU i v.kids 1/\pI v.kids i/\True/\True/\jU (eF (is v.kids) i 1==0) a v (gP v)/\oS a v []) (fP (uC (eF (fZ v) i 12)) (zE (iE b (oL v.s) 28 j) (aFY j b 28 (jQ v.s r) (jQ v.s e) (jQ v.s A) (jQ v.s z) (eU (dX v e) (dX v A) (dX v z) (jA v.s k) (dX v c) (dX v (iA d)) (tN v k) (jA v.s e) (eU (dX v l) (dX v (lU d)) (tN v e) (jA v.s c) (dX v y) (dX v (iA c)) (tN v c) (jA v.s l) (aG (dX v (bU (eH c))) (dX v (lU c)) (tN v l) (jA v.s y))))) (iT (eS true) (yD 197 (rI v [aAD v,cY v.s]) (aDC (fZ v) i 12 (dW v (bF i)) (dW v (bF i+1)) (dW v (bT (bF i))) (dW v (yF i)) f (dW v (rG i)) (dW v (vE i)) [mQ v.s (cG (bF i)),mQ v.s (cI (bF i))]) g/\bH 40 (cM g) [] (aM h)/\eC True (fJ (h=false) (p=true->bD (bH 198 (cO w u t s q) [] (aM x)) (oY x a v)) (bG p->True/\oY false a v)) (gD h->oY true a v)))))))/\yS (gD (f==0)) true a v)))) λhwf hbx=>by
  delta eS aB aW aE iE aP oI eC aF aG bE cQ fG bD cO gB fS fJ lZ aH bY bG bP aR eO bW mS cM aT gD bL eF pI eU cX fM bH aY bS iG uC aM bT bU jH jV dO bF yP iT lM aBP zE dG cI cG eH oL iA cE fP aGO xC bO xI dV cY pT mO nU jU aAD fZ nM yU oS tO gP iX aJD yD iM gR rF mQ rG vE yF aDC fE aDD jQ lU rH jA tB vF vG aFY rI aGI gF jS aAU dW dX tN oY yR tP aEH aEI yS;simp only[sS];clear hwf hbx;simp only[vwE,zQv,zQn,frOK,and_true,wQg];have q1:=zYL I;have q2:=zYM I;have bd:i<(v.s.ops.length:Int):=by have:=I.lt;omega
  have ol:=zQc v.s.ops;have r3:=zXI I.kid;have n3:=zXH I.kid;have⟨r4,n4⟩:=zV8 I.fst;have g3:=zQl v.kids;have g4:=zZU v.fsts;have l3:=I.l3;have l4:=I.l4;have FR:=zQu v i h0 I;simp only[Nat.add_assoc,Nat.reduceAdd,Nat.add_zero,q1,q2,r3,n3,r4,n4,oqE,true_and,and_true];have NE:=zZh (opV v i.toNat).oper;have VO:=zWY v (opV v i.toNat) I.mask hI
  rcases I.kind with hk|hk
  .have⟨m0,m1⟩:=I.img hk;have hm:(opV v i.toNat).image.toNat<v.s.ims.length:=by omega
   have q3:=jQR hm;have q4:=jQS hm;have il:=zXl v.s.ims;have e:v.s.ims[(opV v i.toNat).image.toNat]=pcV v (opV v i.toNat).image:=by unfold pcV;rw[List.getElem?_eq_getElem hm];rfl
   simp only[Nat.add_assoc,Nat.reduceAdd,e]at q3 q4;simp only[q3,q4,pxE,true_and,and_true];have T:=zJg (pcV v (opV v i.toNat).image).c;have MR:=zXZ v.s (opV v i.toNat);have EM:=zQJ (imgR v.s (opV v i.toNat)).a (imgR v.s (opV v i.toNat)).b (imgR v.s (opV v i.toNat)).c (imgR v.s (opV v i.toNat)).d;have CV:=zJM (imgR v.s (opV v i.toNat)).a (imgR v.s (opV v i.toNat)).b (imgR v.s (opV v i.toNat)).c (imgR v.s (opV v i.toNat)).d v.s.c.a v.s.c.b v.s.c.c v.s.c.d;have UN:=zZe v (opV v i.toNat);clear q3 q4;clear q1 q2 r3 n3 r4 n4
   repeat' (first|assumption|omega|apply And.intro|intro _)
   all_goals first|(unfold invV;simp_all;done)|(rw[wQ4];unfold invV;simp_all;done)|(exfalso;simp_all;done)|skip
  .have hb:((opV v i.toNat).kind==2)=true:=by simp[hk]
   simp only[hb,Bool.true_eq_false,false_implies,and_true,true_implies,wQ3];clear q1 q2 r3 n3 r4 n4
   repeat' (first|assumption|omega|apply And.intro|intro _)
   all_goals first|(unfold invV;simp_all;done)|(rw[wQ4];unfold invV;simp_all;done)|(exfalso;simp_all;done)|skip
theorem zUv(v:Vw)(i:Int)(h0:0<=i)(I:VwIn v i.toNat):AnsG prog 133 1 [aPz,aJ ((i))] [bC (vC v)] ⟨aO (cD (dQ (dstV v (i).toNat))),[bC (vC v)],false⟩:=
 vw jQ1 aL Tryz.func133 (let a:=dstV v (Int.toNat i);True/\nB (nM i v) (aBN (fZ v) (bF i) 8/\True/\True/\jU (nAt (fZ v) (bF i+8)==3) a v (gP v)/\oS a v [])) λhwf hbx=>by
  delta eS aB aW iE aF bE bD aH bY aT jH dO bF nB aBN dG cY jU aAD fZ nM yU oS gP;simp only[sS];clear hwf hbx;simp only[vwE,zQv,zQn,frOK,and_true,wQg];have q1:=zYL I;have q2:=zYM I;have bd:i<(v.s.ops.length:Int):=by have:=I.lt;omega
  have ol:=zQc v.s.ops;have r3:=zXI I.kid;have n3:=zXH I.kid;have⟨r4,n4⟩:=zV8 I.fst;have g3:=zQl v.kids;have g4:=zZU v.fsts;have l3:=I.l3;have l4:=I.l4;have FR:=zQu v i h0 I;simp only[Nat.add_assoc,Nat.reduceAdd,Nat.add_zero,q1,q2,r3,n3,r4,n4,oqE,true_and,and_true];clear q1 q2 r3 n3 r4 n4
  repeat' (first|assumption|omega|apply And.intro|intro _)
  all_goals first|(unfold dstV;simp_all;done)|(rw[wQ4];unfold dstV;simp_all;done)|(exfalso;simp_all;done)|skip
def aIC(a:Prop)(b:Vw)(c:Int)(d:List Bx):Prop:=yR a false (jYu b (Int.toNat c)) b d
theorem zVp(v:Vw)(i:Int)(h0:0<=i)(I:VwIn v i.toNat):AnsG prog 134 1 [aPz,aJ ((i))] [bC (vC v)] ⟨aO (cD (dQ (jYu v (i).toNat))),[bC (vC v)],false⟩:=
 vw jQ1 aL Tryz.func134 (let a:=nAt (fZ v) (bF i+8);let c:=jYu v (Int.toNat i);let d:=bsD v.fsts;let e:=bAt d (aW i 1);let f:=jQw (iX v) (Int.toNat i);let b:=iE i (List.length v.fsts) 1 d/\pN d (aW i 1)/\eC True (aE (e=true) (aJD 200 (qX i) v f/\True/\True/\jU f c v (gP v)/\oS c v [])) (yS (bG e) false c v);let g:=a==9;let h:=a==7;let j:=a==6;bI (bI (True/\kH (nM i v) (aBN (fZ v) (bF i) 8/\True/\True/\(j=true->aAA a 6 b/\aIC (j=false) v i [])/\oK a 6 (h=true->aAA a 7 b/\aIC (h=false) v i []) (mY a 7 (g=true->aAA a 9 b/\aIC (g=false) v i []) 9 (aAA a 10 b) (aIC ((a==10)=false) v i [])))))) λhwf hbx=>by
  delta eS aB aW aE iE eC aF bE dL aH bY bG bP aT bL kH oK mY jH bI dO bF yP aBN pN dG cY pT mO nU qX jU aAD fZ nM yU oS tO gP iX aJD aAA yR yS aIC;simp only[sS];clear hwf hbx;simp only[vwE,zQv,zQn,frOK,and_true,wQg];have q1:=zYL I;have q2:=zYM I;have bd:i<(v.s.ops.length:Int):=by have:=I.lt;omega
  have ol:=zQc v.s.ops;have r3:=zXI I.kid;have n3:=zXH I.kid;have⟨r4,n4⟩:=zV8 I.fst;have g3:=zQl v.kids;have g4:=zZU v.fsts;have l3:=I.l3;have l4:=I.l4;have FR:=zQu v i h0 I;simp only[Nat.add_assoc,Nat.reduceAdd,Nat.add_zero,q1,q2,r3,n3,r4,n4,oqE,true_and,and_true];have PL:=zWB v i h0 I;clear q1 q2 r3 n3 r4 n4
  repeat' (first|assumption|omega|apply And.intro|intro _)
  all_goals first|(unfold jYu;simp_all;done)|(rw[wQ4];unfold jYu;simp_all;done)|(exfalso;simp_all;done)|skip
theorem zVH(v:Vw)(i:Int)(h0:0<=i)(I:VwIn v i.toNat)(hk:(opV v i.toNat).kind=1):AnsG prog 201 1 [aPz,aJ ((i))] [bC (vC v)] ⟨aO (cD (dQ (zKh v (i).toNat))),[bC (vC v)],false⟩:=
 vw jQ1 aL Tryz.func201 (let a:=zKh v (Int.toNat i);let o:=oS a v [];let p:=jU false a v (gP v)/\o;let k:=unV (iX v) (aEH v i 12);let b:=fM (fZ v) (bF i);let f:=aW b 28;let g:=ims v.s.ims;let q:=bAt g (bT f);let c:=dW v (rG i);let r:=c==4;let s:=rH b 28;let l:=dW v (vE i);let t:=frV (iX v) (Int.toNat i);let h:=t.snd;let d:=bU f;let m:=imgR (mO v.s) (aEH v i 12);let n:=Rc.covers m v.s.c;let e:=cG d;let u:=lU e;let w:=iA e;let j:=eH f;let x:=aW b 28;let y:=vF b 28;let z:=tB b 28;let A:=dY (iE b (oL v.s) 28 g) (aFY g b 28 (jQ v.s s) (jQ v.s d) (jQ v.s z) (jQ v.s y) (eU (dX v d) (dX v z) (dX v y) (jA v.s x) (dX v j) (dX v (iA f)) (tN v x) (jA v.s d) (eU (dX v (vG b 28)) (dX v (lU f)) (tN v d) (jA v.s j) (dX v (eH j)) (dX v (iA j)) (dX v (bU e)) (g[w]?=aDD v.s w) (aG (dX v (bT (bU e))) (dX v (jV e)) (dX v (eH e)) (g[u]?=aDD v.s u))))) (nN (aEI 206 v i [] k/\True/\True/\aE (bO k) (aP (bO q) (bI (aR (yD 197 (rI v [aAD v,cY v.s]) (aDC (fZ v) i 12 (dW v (bF i)) (dW v (bF i+1)) (dW v (bT (bF i))) (dW v (yF i)) (dW v (bU (bF i))) c l [mQ v.s (cG (bF i)),mQ v.s (cI (bF i))]) m) (gJ (zR 41 (cM m) (aAC v.s) n) (aBP (yR (dV n) false a v []) (bP (bO n) (qP (h=true) (oY (gF v.s d==v.max) a v)) (iL (h=false) (yR (jN l 1) false a v []) (dN l 1->True/\True/\True/\True/\(uC c->True/\cS r (True/\True/\xS (zE (eS true) (jU (gF v.s s==v.max) a v (gP v)) o)) (bG r->True/\oY false a v))/\(gD (c==2)->oY true a v)))))))) (dU q->True/\eS true/\True/\p))/\aN (dU k) (eS true/\True/\p)));bW (nM i v) (aR (tP v i) (aX (aEG 204 1 (qX i) v (bE (DV.bool t.fst)::kE h)) (bW (fJ (uA c) (yR (dV h) true a v []) (fP (bO h) A)) (oE (c==1) (True/\True/\True/\True/\A)))))) λhwf hbx=>by
  delta eS aB aW aE iE aP oI dY aF aG bE fG aN aX gB fJ nN kE aH bY bG bP aR eO bW mS cM oE aT gD bL eF eU cX fM bH aY bS iG uC uA aM bT bU jH jV bI dO bF yP gJ aBP zE dG cI cG eH oL iA cS cE fP iL aGO xC bO dU qP dN jN dV zR xS cY pT mO nU qX jU aAD fZ nM yU oS tO gP iX aJD yD iM gR rF mQ rG vE yF aDC aAC fE aDD jQ lU rH jA tB vF vG aFY rI aGI gF jS dW dX tN oY yR tP aEH aEG aEI;simp only[sS];clear hwf hbx;simp only[vwE,zQv,zQn,frOK,and_true,wQg];have q1:=zYL I;have q2:=zYM I;have bd:i<(v.s.ops.length:Int):=by have:=I.lt;omega
  have ol:=zQc v.s.ops;have r3:=zXI I.kid;have n3:=zXH I.kid;have⟨r4,n4⟩:=zV8 I.fst;have g3:=zQl v.kids;have g4:=zZU v.fsts;have l3:=I.l3;have l4:=I.l4;have FR:=zQu v i h0 I;simp only[Nat.add_assoc,Nat.reduceAdd,Nat.add_zero,q1,q2,r3,n3,r4,n4,oqE,true_and,and_true]
  (
   have⟨m0,m1⟩:=I.img hk;have hm:(opV v i.toNat).image.toNat<v.s.ims.length:=by omega
   have q3:=jQR hm;have q4:=jQS hm;have il:=zXl v.s.ims;have e:v.s.ims[(opV v i.toNat).image.toNat]=pcV v (opV v i.toNat).image:=by unfold pcV;rw[List.getElem?_eq_getElem hm];rfl
   simp only[Nat.add_assoc,Nat.reduceAdd,e]at q3 q4;simp only[q3,q4,pxE,true_and,and_true];have T:=zJg (pcV v (opV v i.toNat).image).c;have MR:=zXZ v.s (opV v i.toNat);have EM:=zQJ (imgR v.s (opV v i.toNat)).a (imgR v.s (opV v i.toNat)).b (imgR v.s (opV v i.toNat)).c (imgR v.s (opV v i.toNat)).d;have CV:=zJM (imgR v.s (opV v i.toNat)).a (imgR v.s (opV v i.toNat)).b (imgR v.s (opV v i.toNat)).c (imgR v.s (opV v i.toNat)).d v.s.c.a v.s.c.b v.s.c.c v.s.c.d;have UN:=zZe v (opV v i.toNat);clear q3 q4;clear q1 q2 r3 n3 r4 n4
   repeat' (first|assumption|omega|apply And.intro|intro _)
   all_goals first|(unfold zKh;simp_all;done)|(rw[wQ4];unfold zKh;simp_all;done)|(exfalso;simp_all;done)|skip)
def aIH(a:List Int):DV:=DV.sl (List.length a) (is a)
def aJJ(a:Vw):DV:=DV.sl (List.length a.grps) (is a.grps)
def aJK(a:Vw):DV:=DV.sl (List.length a.kids) (is a.kids)
def aJL(a:Vw):DV:=DV.sl (List.length a.fsts) (bsD a.fsts)
theorem zVr(v:Vw)(i:Int)(h0:0<=i)(I:VwIn v i.toNat)(H:∀j,j<v.s.ops.length->(opV v j).kind≠3->VwIn v j)(hL:v.s.ops.length<=1000000):AnsG prog 135 1 [aPz,aJ ((i))] [bC (vC v)] ⟨aO (cD (dQ (jYQ v (i).toNat))),[bC (vC v)],false⟩:=
 vw jQ1 (let a:=v.s.c;pH (Ann.loop (Inv.mk (Nat × Nat) (λ(b:Nat × Nat)=>zYh v b.fst b.snd=jYQ v (Int.toNat i)/\dG v.s<=b.fst+b.snd/\jI b.snd v.s) (λ(d:Nat × Nat)=>jJ (dP 0 0 (iF 4 kG 5 (fC d.snd) [])) 0 (bY (aB v.s.bits) (cD (aB a.a)::cD (aB a.b)::aH (aB a.c) (aB a.d) (aB v.s.tw) (aB v.s.th) (aH (DV.sl (List.length v.s.ord) (is v.s.ord)) (DV.sl (List.length v.s.ims) (ims v.s.ims)) (cY v.s) (aF v.max) (aH (DV.sl (List.length v.ends) (is v.ends)) (DV.sl (List.length v.grps) (is v.grps)) (DV.sl (List.length v.kids) (is v.kids)) (DV.sl (List.length v.fsts) (bsD v.fsts)) [])))) []) (λ(c:Nat × Nat)=>c.fst)) (λ(e:Nat × Nat)=>aL))) Tryz.func135 (let d:=[aHF v.s (cD (aAD v)::cD (cY v.s)::cD (aF v.max)::aH (aIH v.ends) (aJJ v) (aJK v) (aJL v) [])];let b:=jYQ v (Int.toNat i);let o:=bE (DV.bool b);let f:=v.s.c;let p:=aB v.s.bits::aB f.a::aB f.b::aB f.c::aB f.d::aB v.s.tw::aB v.s.th::gP v;let h:=eS p;let q:=aT (jH false b/\True) h;let c:=dG v.s;let r:=dO o d;let e:=v.ends;let j:=is e;bI (True/\True/\True/\aAU i e 1/\pI e i/\True/\True/\(∃n:Nat × Nat,gV (zYh v n.fst n.snd=b/\c<=n.fst+n.snd/\jI n.snd v.s) (sI (eS kG) (aB (aU (eF (is e) i 1+1))=fC n.snd)) p)/\(∀m:Nat × Nat,let a:=m.snd;let g:=nAt (fZ v) (aZ a 12+0);let s:=eY (dF a (List.length e) 1 j) (uI j a) (∃l:Nat × Nat,aG (zYh v l.fst l.snd=b/\c<=l.fst+l.snd/\jI l.snd v.s) (l.fst<m.fst) (sI (eS kG) (aB (aU (cB j a 1+1))=fC l.snd)) h);let k:=zKh (iX v) (uW a);let t:=aBN (fZ v) (aZ a 12) 0;let u:=dF a c 12 (fZ v);aE (zYh v m.fst a=b/\c<=m.fst+a/\jI a v.s) (bW (bK (dT a c) (bD u (t/\True/\True/\bK (jN g 3) (bD u (aBC t (uA g) (True/\(AnsG prog 201 1 [pT 0,bE (fC a)] d ⟨bE (DV.bool k),d,false⟩/\eS d)/\True/\bL (k=true) (aT (jH true b/\True) h) r/\dL (k=false) s) (fP (bG (g==1)) s)))/\bL (dN g 3) q r))) (bP (aHC a c true) q (dO o d)))))) λhwf hbx=>by
  delta eS aB aW aE iE oI aF aU aG bE bD dL aH wM kG bG bP bK bW eY aBC fC aT aZ dE bL eF pI dF cB dT mZ uA jH bI dO aBN aHC dG aHF jI fP uI dN jN sI gV cY pT mO nU aAD fZ yU gP iX uW aIH aJJ aJK aJL aAU;simp only[sS];clear hwf hbx;simp only[vwE,zQv,zQn,frOK,and_true,wQg];have q1:=zYL I;have q2:=zYM I;have bd:i<(v.s.ops.length:Int):=by have:=I.lt;omega
  have ol:=zQc v.s.ops;have r3:=zXI I.kid;have n3:=zXH I.kid;have⟨r4,n4⟩:=zV8 I.fst;have g3:=zQl v.kids;have g4:=zZU v.fsts;have l3:=I.l3;have l4:=I.l4;have FR:=zQu v i h0 I;simp only[Nat.add_assoc,Nat.reduceAdd,Nat.add_zero,q1,q2,r3,n3,r4,n4,oqE,true_and,and_true];obtain⟨e,e1,e2,e3,e4⟩:=I.end_;have re:=zXI e1;have ne:=zXH e1;have gl:=zQl v.ends;have el:=I.l1;clear q1 q2 r3 n3 r4 n4;have W:∀e:Nat,e<v.s.ops.length->wrap .i64 ((e:Int)+1)=((e+1:Nat):Int):=λe he=>by rw[wQb _ (by omega)];omega
  simp only[re,ne,true_and];refine⟨by omega,⟨(v.s.ops.length,e+1),⟨by unfold jYQ;rw[e2],by simp only;omega,by simp only;omega⟩,W e e4⟩,λz hz=>⟨λhlt=>?_,λhge=>?_⟩⟩
  .obtain⟨t,j⟩:=z;obtain⟨z1,z2,z3⟩:=hz;simp only at z1 z2 z3 hlt |-;have hj:j<v.s.ops.length:=by omega
   have p1:=(zXF hj).1;have p2:=(zXG hj).1;have eo:v.s.ops[j]=opV v j:=by unfold opV;rw[List.getElem?_eq_getElem hj];rfl
   rw[eo]at p1 p2;simp only[p1,p2,true_and];obtain⟨t,rfl⟩:∃t',t=t'+1:=⟨t-1,by omega⟩
   refine⟨by omega,λhk=>⟨by omega,?_⟩,λhk=>?_⟩
   .have hk:(opV v j).kind≠3:=by simpa using hk
    have J:=H j hj hk;obtain⟨e',f1,f2,f3,f4⟩:=J.end_;rw[zYh,if_pos ⟨hj,hk⟩]at z1;have go:(decide ((opV v j).kind=1)&&zKh v j)=false->(0<=(j:Int)/\(j:Int)<(v.ends.length:Int)/\j<(is v.ends).length)/\(is v.ends)[j]?=some (.int .i64 (nAt (is v.ends) j))/\∃z':Nat × Nat,(zYh v z'.1 z'.2=jYQ v i.toNat/\v.s.ops.length<=z'.1+z'.2/\z'.2<=v.s.ops.length)/\z'.1<t+1/\wrap .i64 (nAt (is v.ends) j+1)=(z'.2:Int):=λhc=>by
     rw[hc,wYh,f2]at z1;rw[zXH f1,zXI f1];exact⟨by omega,rfl,(t,e'+1),⟨z1,by simp only;omega,by simp only;omega⟩,by simp only;omega,W e' f4⟩
    refine⟨λh1=>?_,λh1=>go (by rw[wQo (show¬(opV v j).kind=1 by simpa using h1)];rfl)⟩
    have h1:(opV v j).kind=1:=by simpa using h1
    have CO:=zVH v (j:Int) (by omega) J h1;exact⟨CO,λhc=>by rw[decide_eq_true h1,hc]at z1;exact z1,λhc=>go (by rw[hc,wXL])⟩
   .have hk:(opV v j).kind=3:=by simpa using hk
    rw[zYh,if_neg (λh=>h.2 hk)]at z1;exact z1
  .obtain⟨t,j⟩:=z;obtain⟨z1,z2,z3⟩:=hz;simp only at z1 z2 z3 hge |-
   cases t with
   |zero=>exact z1
   |succ t=>
    rw[zYh,if_neg (λh=>by omega)]at z1;exact z1
def oQ(a:Vw)(b:Int):Oq:=opV a (Int.toNat b)
theorem zWZ(v:Vw)(i:Int)(h0:0<=i)(I:VwIn v i.toNat)(hI:v.s.ims.length<=1000000):AnsG prog 136 1 [aPz,aJ ((i))] [bC (vC v)] ⟨aO (cD (dQ (zV3 v (opV v (i).toNat)))),[bC (vC v)],false⟩:=
 vw jQ1 aL Tryz.func136 (let a:=zV3 (iX v) (aEH v i 12);True/\bW (nM i v) (tP v i/\aEI 202 v i [] a/\eC True (jU a (zV3 v (oQ v i)) v (gP v)) (oS (zV3 v (oQ v i)) v []))) λhwf hbx=>by
  delta eS aB aW iE oI eC aF aG bE fG aH bY bW aT eF eU cX fM aY bS bT bU jH jV dO bF yP dG cI cG eH iA cE aGO xC cY pT oQ mO nU jU aAD fZ nM yU oS gP iX aJD iM gR rF mQ rG vE yF aGI jS dW tP aEH aEI;simp only[sS];clear hwf hbx;simp only[vwE,zQv,zQn,frOK,and_true,wQg];have q1:=zYL I;have q2:=zYM I;have bd:i<(v.s.ops.length:Int):=by have:=I.lt;omega
  have ol:=zQc v.s.ops;have r3:=zXI I.kid;have n3:=zXH I.kid;have⟨r4,n4⟩:=zV8 I.fst;have g3:=zQl v.kids;have g4:=zZU v.fsts;have l3:=I.l3;have l4:=I.l4;have FR:=zQu v i h0 I;simp only[Nat.add_assoc,Nat.reduceAdd,Nat.add_zero,q1,q2,r3,n3,r4,n4,oqE,true_and,and_true];have FU:=zW0 v (opV v i.toNat) I.mask hI;clear q1 q2 r3 n3 r4 n4
  repeat' (first|assumption|omega|apply And.intro|intro _)
  all_goals first|(unfold zV3;simp_all;done)|(rw[wQ4];unfold zV3;simp_all;done)|(exfalso;simp_all;done)|skip
def aAV(a:Prop)(b c:Bool)(d:Vw):Prop:=iL a (jU b c d (gP d)) (dO (bE (DV.bool c)) (tO d))
theorem zVq(v:Vw)(i:Int)(h0:0<=i)(I:VwIn v i.toNat):AnsG prog 139 1 [aPz,aJ ((i))] [bC (vC v)] ⟨aO (cD (dQ (isoV v (i).toNat))),[bC (vC v)],false⟩:=
 vw jQ1 aL Tryz.func139 (let a:=isoV v (Int.toNat i);let d:=rF v.s (cG (bF i));let e:=frV (iX v) (Int.toNat i);let b:=e.fst;let c:=bsD v.fsts;let f:=bAt c (aW i 1);let g:=e.snd;True/\True/\True/\aEG 204 1 (qX i) v (bE (DV.bool b)::kE g)/\kM (nM i v) (aR (tP v i) (aP (lZ (eF (fZ v) i 12)) (True/\True/\True/\(dV d->cS b (True/\True/\True/\True/\iE i (List.length v.fsts) 1 c/\pN c (aW i 1)/\eC True (aAV (f=false) g a v) (fJ (gD f) (jU true a v (gP v)) (oS a v []))) (yS (bG b) false a v))/\aAV (bG (!d)) false a v) (aN (bG (eF (fZ v) i 12==2)) (aEJ (jU false a v (gP v)) a v []))))) λhwf hbx=>by
  delta eS aB aW aE iE aP oI eC aF aG bE fG aK aN fJ kE lZ aH bY bG bP aR aT gD eF eU cX bS bT bU jH jV dO bF yP kM pN dG cI cG cS cE iL aGO xC dV cY pT mO nU qX jU aAD fZ nM yU oS aEJ tO gP iX gR rF rG tP aEG yS aAV;simp only[sS];clear hwf hbx;simp only[vwE,zQv,zQn,frOK,and_true,wQg];have q1:=zYL I;have q2:=zYM I;have bd:i<(v.s.ops.length:Int):=by have:=I.lt;omega
  have ol:=zQc v.s.ops;have r3:=zXI I.kid;have n3:=zXH I.kid;have⟨r4,n4⟩:=zV8 I.fst;have g3:=zQl v.kids;have g4:=zZU v.fsts;have l3:=I.l3;have l4:=I.l4;have FR:=zQu v i h0 I;simp only[Nat.add_assoc,Nat.reduceAdd,Nat.add_zero,q1,q2,r3,n3,r4,n4,oqE,true_and,and_true];clear q1 q2 r3 n3 r4 n4
  repeat' (first|assumption|omega|apply And.intro|intro _)
  all_goals first|(unfold isoV;simp_all;done)|(rw[wQ4];unfold isoV;simp_all;done)|(exfalso;simp_all;done)|skip
theorem zVG(v:Vw)(i:Int)(h0:0<=i)(I:VwIn v i.toNat):AnsG prog 141 1 [aPz,aJ ((i))] [bC (vC v)] ⟨aO (cD (dQ (jJ6 v (i).toNat))),[bC (vC v)],false⟩:=
 vw jQ1 aL Tryz.func141 (let a:=jJ6 v (Int.toNat i);let b:=bsD v.fsts;let g:=bAt b (aW i 1);let c:=dW v (rG i);let d:=faB c;let h:=dW v (vE i) !=1;let j:=frV (iX v) (Int.toNat i);let e:=j.snd;let f:=j.fst;bI (aR (aEG 204 1 (qX i) v (bE (DV.bool f)::kE e)) (aK (eY (nM i v) (tP v i) (True/\True/\True/\yR (dV f) false a v []/\bP (bO f) (aAV (e=true) h a v) (dL (e=false) (iE i (List.length v.fsts) 1 b/\pN b (aW i 1)/\eC True (aE (g=true) (lM 205 (jS v.s (eH (bF i))) [] (aM d)/\True/\True/\qK d (fU (dN c 4) (aEJ (jU h a v (gP v)) a v []) (fJ (kP c 4) (jU true a v (gP v)) (oS a v [])))/\yS (bG d) false a v)) (aAV (bG g) false a v)))))))) λhwf hbx=>by
  delta eS aB aW aE iE oI eC aF aG bE fG aK dL fJ kE aH bY bG bP aR eY aT gD bL eU cX fM aY bS fU aM bT bU jH jV bI dO bF yP lM pN dG cI cG eH cE iL aGO xC qK bO dN dV kP cY pT mO nU qX jU aAD fZ nM yU oS aEJ tO gP iX iM gR rG vE jS dW yR tP aEG yS aAV;simp only[sS];clear hwf hbx;simp only[vwE,zQv,zQn,frOK,and_true,wQg];have q1:=zYL I;have q2:=zYM I;have bd:i<(v.s.ops.length:Int):=by have:=I.lt;omega
  have ol:=zQc v.s.ops;have r3:=zXI I.kid;have n3:=zXH I.kid;have⟨r4,n4⟩:=zV8 I.fst;have g3:=zQl v.kids;have g4:=zZU v.fsts;have l3:=I.l3;have l4:=I.l4;have FR:=zQu v i h0 I;simp only[Nat.add_assoc,Nat.reduceAdd,Nat.add_zero,q1,q2,r3,n3,r4,n4,oqE,true_and,and_true];have FA:=zUD (opV v i.toNat).oper;clear q1 q2 r3 n3 r4 n4
  repeat' (first|assumption|omega|apply And.intro|intro _)
  all_goals first|(unfold jJ6;simp_all;done)|(rw[wQ4];unfold jJ6;simp_all;done)|(exfalso;simp_all;done)|skip
theorem zVF(v:Vw)(i:Int)(h0:0<=i)(I:VwIn v i.toNat):AnsG prog 143 1 [aPz,aJ ((i))] [bC (vC v)] ⟨aO (cD (dQ (jJA v (i).toNat))),[bC (vC v)],false⟩:=
 vw jQ1 aL Tryz.func143 (let a:=jJA v (Int.toNat i);let b:=eF (fZ v) i 12==2;let c:=rF v.s (cI (bF i));bI (fV (nM i v) (aR (tP v i) (cS b (cS c (True/\True/\True/\True/\aAU i v.kids 1/\pI v.kids i/\aEJ (jU (eF (is v.kids) i 1==1) a v (gP v)) a v []) (yS (bG c) false a v)) (aAV (bG b) false a v))))) λhwf hbx=>by
  delta eS aB aW iE oI aF aG bE fG aH bY bG bP aR aT eF pI eU cX bS fV bT bU jH jV bI dO bF yP dG cI cG cS cE iL aGO xC cY jU aAD fZ nM yU aEJ tO gP gR rF rG aAU tP yS aAV;simp only[sS];clear hwf hbx;simp only[vwE,zQv,zQn,frOK,and_true,wQg];have q1:=zYL I;have q2:=zYM I;have bd:i<(v.s.ops.length:Int):=by have:=I.lt;omega
  have ol:=zQc v.s.ops;have r3:=zXI I.kid;have n3:=zXH I.kid;have⟨r4,n4⟩:=zV8 I.fst;have g3:=zQl v.kids;have g4:=zZU v.fsts;have l3:=I.l3;have l4:=I.l4;have FR:=zQu v i h0 I;simp only[Nat.add_assoc,Nat.reduceAdd,Nat.add_zero,q1,q2,r3,n3,r4,n4,oqE,true_and,and_true];clear q1 q2 r3 n3 r4 n4
  repeat' (first|assumption|omega|apply And.intro|intro _)
  all_goals first|(unfold jJA;simp_all;done)|(rw[wQ4];unfold jJA;simp_all;done)|(exfalso;simp_all;done)|skip
theorem zVE(v:Vw)(i:Int)(h0:0<=i)(I:VwIn v i.toNat)(hL:v.s.ops.length<=1000000)(O:(opV v i.toNat).kind=2->kidV v i.toNat=1->VwIn v (i.toNat+1)):AnsG prog 145 1 [aPz,aJ ((i))] [bC (vC v)] ⟨aO (cD (dQ (unwV v (i).toNat))),[bC (vC v)],false⟩:=
 vw jQ1 aL Tryz.func145 (let a:=unwV v (Int.toNat i);let d:=rF v.s (cG (bF i));let b:=oH i;let e:=dW v (rG b)==4;let f:=dW v (vE b)==1;let c:=unV (iX v) (aEH v b 12);let g:=unV (iX v) (aEH v i 12);let h:=eF (is v.kids) i 1;bW (nM i v) (aR (tP v i) (aP (dN (eF (fZ v) i 12) 2) (aAL d (True/\True/\True/\True/\aAU i v.kids 1/\pI v.kids i/\True/\True/\yR (jN h 1) false a v []/\bK (dN h 1) (True/\True/\True/\nM b v/\aR (tP v b) (aP (e=true) (cS f (True/\aEI 206 v b [] c/\True/\bP (c=false) (aEI 206 v i [] g) (aEJ (jU g a v (gP v)) a v [])/\fJ (gD c) (jU true a v (gP v)) (oS a v [])) (yS (bG f) false a v)) (aAV (bG e) false a v)))) (yS (dU d) false a v)) (aAV (kP (eF (fZ v) i 12) 2) false a v)))) λhwf hbx=>by
  delta eS aB aW aE iE aP oI aF aU aG bE fG fJ aH bY bG bP aR bK bW aT gD bL eF oH pI eU cX fM aY bS bT bU jH jV dO bF yP dG cI cG eH iA cS cE iL aGO xC bO dU dN jN kP cY pT mO nU jU aAD fZ nM yU oS aEJ tO gP iX aJD iM gR rF mQ rG vE yF aAL aGI jS aAU dW yR tP aEH aEI yS aAV;simp only[sS];clear hwf hbx;simp only[vwE,zQv,zQn,frOK,and_true,wQg];have q1:=zYL I;have q2:=zYM I;have bd:i<(v.s.ops.length:Int):=by have:=I.lt;omega
  have ol:=zQc v.s.ops;have r3:=zXI I.kid;have n3:=zXH I.kid;have⟨r4,n4⟩:=zV8 I.fst;have g3:=zQl v.kids;have g4:=zZU v.fsts;have l3:=I.l3;have l4:=I.l4;have FR:=zQu v i h0 I;simp only[Nat.add_assoc,Nat.reduceAdd,Nat.add_zero,q1,q2,r3,n3,r4,n4,oqE,true_and,and_true];clear q1 q2 r3 n3 r4 n4;refine⟨by omega,λhk=>⟨λhi=>⟨by omega,λhw=>?_,λhw=>?_⟩,λhi=>?_⟩,λhk=>?_⟩
  .unfold unwV;rw[if_pos (.inr (.inr (by simpa using hw)))]
  .have J:=O (by simpa using hk) (by simpa using hw);have w1:wrap .i64 (i+1)=i+1:=wQb _ (by omega);have w2:(i+1).toNat=i.toNat+1:=by omega
   have p1:=zYL J;have p2:=zYM J;have jl:=J.lt;simp only[w1,w2,p1,p2,oqE,true_and,and_true];have U1:=zZe v (opV v (i.toNat+1));have U2:=zZe v (opV v i.toNat);clear p1 p2;have hh:¬((opV v i.toNat).kind≠2\/(opV v i.toNat).iso=false\/kidV v i.toNat≠1):=by simp_all
   have eu:unwV v i.toNat=(decide ((opV v (i.toNat+1)).oper=4)&&(decide ((opV v (i.toNat+1)).mode=1)&&(unV v (opV v (i.toNat+1)) || unV v (opV v i.toNat)))):=by unfold unwV;rw[if_neg hh]
   repeat' (first|assumption|omega|apply And.intro|intro _)
   all_goals (rw[eu];simp_all)
  .unfold unwV;rw[if_pos (.inr (.inl hi))]
  .unfold unwV;rw[if_pos (.inl (by simpa using hk))]
def yYa:Gam:=jQ1.add []
def vX(e:Scr)(f:Vw)(g:wc):Bx:=bY (aB e.bits) (Cl.d (aB e.c.a)::Cl.d (aB e.c.b)::aH (aB e.c.c) (aB e.c.d) (aB e.tw) (aB e.th) (aH (DV.sl (List.length e.ord) (is e.ord)) (DV.sl (List.length e.ims) (ims e.ims)) (cY e) (aF f.max) (aH (DV.sl (List.length f.ends) (is f.ends)) (DV.sl (List.length f.grps) (is f.grps)) (DV.sl (List.length f.kids) (is f.kids)) (DV.sl (List.length f.fsts) (bsD f.fsts)) g)))
def aKE(a:Vw):List DV:=[aF a.max,DV.sl (List.length a.ends) (is a.ends),DV.sl (List.length a.grps) (is a.grps),DV.sl (List.length a.kids) (is a.kids),DV.sl (List.length a.fsts) (bsD a.fsts)]
def aAT(a:Scr)(b:Nat):List DV:=nR (zZS a.ops b).base
theorem zZb(s:Scr)(R:RuOk s)(hr:s.run.1=0)(hL:s.ops.length<=100000):AnsG prog 67 0 [AV.agg (sC s)] [] ⟨AV.tup [aPz,aO (cD (dQ true))],[bC [cJ (s.bits),cJ (s.c.a),cJ (s.c.b),cJ (s.c.c),cJ (s.c.d),cJ (s.tw),cJ (s.th),cD (dS s.ord.length (is s.ord)),cD (dS s.ims.length (ims s.ims)),cD (dS s.ops.length (ops s.ops)),cK (((zQd s).max)),cD (dS ((zQd s).ends.length) (is (zQd s).ends)),cD (dS ((zQd s).grps.length) (is (zQd s).grps)),cD (dS ((zQd s).kids.length) (is (zQd s).kids)),cD (dS ((zQd s).fsts.length) (bsD (zQd s).fsts))]],false⟩:=
 vw yYa (let a:=dG s;qA (aBR (Ann.ice [46,50,54] [500021] (fK (ui (λe=>jI e s) (λc=>let b:=zZS s.ops c;jJ (dP 6 21 (jF 7 b.g (dP 8 8 (mP 62 (cY s) (lO 63 a 64 c))))) 21 (aAO s (zQA s.bits) (zZj (zQi (ops s.ops))).fst (rL 46 a (rL 50 a (rL 54 a [])))) (lB 8 (bY (aB (zZS s.ops c).base) []) 46 3 1 (is b.G) (uD 50 (is b.K) 54 4 1 (bsD b.F)))) (λd=>a-d) (λf=>aL))) aL))) Tryz.func67 (let I:=[vX s (zQd s) []];let g:=cY s;let c:=s.ops;let b:=dG s;let p:=uW b;let E:=zQi (ops c);let F:=yC E;let u:=s.bits;let i:=aHX s (qV g (eQ (zQA u)) (eS F) (eS p) (eS p/\eS p/\True));let j:=eS (0:Nat);let q:=ops c;let X:=opsE u s.c s.tw s.th (ints (is s.ord)) (oL s) E;let Y:=X.fst;True/\True/\True/\True/\aBT (bH 46 (iZ s) [] (aCX X)) (bP (jN Y 0) False (dO (AV.tup (pT 0::kE true)) I)/\bK (fN Y) (True/\True/\True/\cL 47 u [] (zJ u)/\aK (aX (lM 77 g [] (lS F (zZj E).snd)) (aK (vO b 8 (vO b 8 (vO b 1 (aK (mU (fV (∃r:Nat,let C:=zZS c r;bZ r (dG s) (eW (lH (bX (-1) C.g) (jK j g b (dC r))) i (nR 0=aAT s r) (sZ b (aB 0) (is C.G)) (sZ b (aB 0) (is C.K)) (sZ b kG (bsD C.F)))) (∀a:Nat,let t:=zZS c a;let f:=bsD t.F;let D:=t.K;let h:=is D;let e:=is t.G;let J:=(zZS c a).base;let K:=DV.bool (J==0);let d:=t.g;let w:=aB d;let L:=nR (oH J);let G:=cB q a 12;let M:=uC G;let O:=lZ G;let P:=fL (cR a 1) f;let y:=yE a b;let Q:=eF (is D) d 1;let R:=DV.bool (Q==0);let H:=aW d 1;let S:=List.set h H (aB (aU (Q+1)));let T:=pI D d;let U:=rV d (b:Int);let V:=fL (cR a 1) e;let W:=aB (nAt e H);bL (jI a s) (bL (dT a b) (dF a b 12 q) (aR (xC (mZ q a 12) q (aZ a 12) (gR s (aZ a 12)) (gR s (cR a 12)) (gR s (gN a 12)) (gR s (gS a 12)) (gR s (pO a 12))) (aP (qF G) (True/\True/\True/\U/\aR (pI t.G d) (fV y (V/\True/\True/\(∃o:Nat,let B:=zZS c o;jI o s/\mF s o a/\pP (cT (W=aB B.g/\j/\dE (eS g) (iS b) (bQ a o))) i (aAT s a=aAT s o) (dE (kZ e a W (is B.G)) (h=is B.K) (f=bsD B.F)))))) (bK ((cB q a 12==3)=false) (True/\True/\y/\V/\rX d 0 (True/\True/\True/\True/\aR U (qO T y (eY P (eS true) (T/\True/\True/\fL (H+1) h/\mH O (∃n:Nat,let A:=zZS c n;oJ (jI n s) (mF s n a) (lH (fC a=aB A.g) (aCY j s a n)) i (aAT s a=aAT s n) (kZ e a w (is A.G)) (S=is A.K) (kZ f a R (bsD A.F))) (aE M (∃m:Nat,let z:=zZS c m;oJ (jI m s) (mF s m a) (lH (bX d z.g) (aCY j s a m)) i (aAT s a=aAT s m) (kZ e a w (is z.G)) (S=is z.K) (kZ f a R (bsD z.F)))))))) (aE (fI d 0) (bW y (eY P (eS true) (bW (bK O (∃l:Nat,let x:=zZS c l;oJ (jI l s) (mF s l a) (lH (fC a=aB x.g) (aCY j s a l)) i (L=aAT s l) (kZ e a w (is x.G)) (h=is x.K) (kZ f a K (bsD x.F)))) (aE M (∃k:Nat,let v:=zZS c k;oJ (jI k s) (mF s k a) (lH (bX d v.g) (aCY j s a k)) i (L=aAT s k) (kZ e a w (is v.G)) (h=is v.K) (kZ f a K (bsD v.F))))))))))))) (fJ (eV a b) (aT (iJ (tU true)/\True) (yH s (g::aF (zQA u)::F::DV.sl p e::DV.sl p h::nZ p f)=yH s (g::aKE (zQd s)))) (dO (AV.tup (pT 0::kE true)) I)))))))))))))) λhwf hbx=>by
  delta eS aB aV aW aE iE aP eJ oI fI aF aU aG bE fG aK bD aX cL fJ nZ kE lZ aH bY kG bM nP bP aR bK bW cT eY eQ tU fC aT fL aZ dE gU bQ bL eF cR tW rV dC nR kZ oG mU oH pI eU cX bH bS dF cB dT fV eV mZ uC qF aM bT bU jV bX dO bZ xA dZ yP iJ gN gS iS lM pP oJ pO lH dG cI cG oL jI cE jK eW aGO xC mF aIO aBT rX zK zJ mH qO dN oN jN qV fN cY pT lS vX yC uW sZ yH iZ gR aAX yE aCY aCX vO aHX aKE aAT;simp only[sS];clear hwf hbx;simp only[zQv,zQn,zZI,zQC,wQg];have hr0:=hr;unfold Scr.run at hr;have VA:=zVi s;have MX:=zZ2 s.bits;have TE:=zKM s.ops hL;simp only[zQC]at TE;have hM:s.ops.length<=maxLen:=by unfold maxLen;omega
  have is_s:∀(L:List Int)(j:Nat)(v:Int),(is L).set j (.int .i64 v)=is (L.set j v):=λL j v=>by simp[is]
  have bs_s:∀(L:List Bool)(j:Nat)(v:Bool),(bsD L).set j (.bool v)=bsD (L.set j v):=λL j v=>by simp[bsD]
  refine⟨VA,λh=>absurd hr (by simpa using h),λ_=>⟨MX,TE,by omega,by omega,by omega,⟨0,by omega,⟨by rw[zYP];rfl,rfl⟩,by rw[zYP];rfl,by rw[zYP];simp[jQP,is],by rw[zYP];simp[jQP,is],by rw[zYP];simp[jQP,bsD]⟩,λk hk=>⟨λhlt=>?_,λhge=>?_⟩⟩⟩
  .have hlt:k<s.ops.length:=by omega
   obtain⟨st,h1,H⟩:=jVQ R.ok k hk;obtain⟨st',e1,e2⟩:=jYs R.ok k;have:st=st':=by rw[h1]at e1;exact wXM e1
   subst this;obtain⟨he,h2⟩:=zHO e1 e2 hlt;have gi:=H.gin;have ci:=H.cnt hk;have sk:=jQH hlt;have q1:=zXF hlt;have q2:=zXG hlt;have w1:wrap .i64 ((k:Int)+1)=((k+1:Nat):Int):=by rw[wQb _ (by omega)];omega
   have ol:=zQc s.ops;have ke:=zYz he;generalize s.ops[k]=o at *;generalize zZS s.ops k=z at *;have gl:=zQl z.G;have kl:=zQl z.K;have fl:=zZU z.F;have G:=H.G;have K:=H.K;have F:=H.F;simp only[q1,q2,true_and,and_true];refine⟨by omega,λh3=>?_,λh3=>⟨by omega,by omega,λhg=>?_,λhg=>?_⟩⟩
   .have h3:o.kind=3:=by simpa using h3
    have hne:st≠[]:=by
     rcases ke with h|h|⟨_,h⟩
     .omega
     .omega
     .exact h
    have hp:=wZV.2 hne;have g0:0<=z.g:=by
     have c:=H.ch;obtain⟨d,hd⟩:∃d,st.length=d+1:=⟨st.length-1,by omega⟩
     rw[hd]at c;obtain⟨m,e,_⟩:=c;omega
    have eg:z.G[z.g.toNat]?=some ((z.G[z.g.toNat]?).getD 0):=by rw[List.getElem?_eq_getElem (by omega)];rfl
    have sk:zZS s.ops (k+1)=⟨(z.G[z.g.toNat]?).getD 0,z.base,z.G.set k ((z.G[z.g.toNat]?).getD 0),z.K,z.F⟩:=by rw[sk];unfold zUq;rw[if_pos h3]
    refine⟨by omega,by rw[zXH eg,zXI eg],by omega,by omega,k+1,by omega,by omega,?_⟩;rw[sk,zXH eg,is_s];exact⟨⟨rfl,w1⟩,rfl,rfl,rfl,rfl⟩
   .have h3:¬o.kind=3:=by simpa using h3
    have hg:0<=z.g:=hg;have ec:z.cnt=(z.K[z.g.toNat]?).getD 0:=by unfold Lk.cnt;rw[if_pos hg]
    have eg:z.K[z.g.toNat]?=some z.cnt:=by rw[ec,List.getElem?_eq_getElem (by omega)];rfl
    have w2:wrap .i64 (z.cnt+1)=z.cnt+1:=wQb _ (by omega);have sk:zZS s.ops (k+1)=⟨if o.kind=2 then(k:Int) else z.g,z.base,z.G.set k z.g,z.K.set z.g.toNat (z.cnt+1),z.F.set k (z.cnt==0)⟩:=by rw[sk];unfold zUq;rw[if_neg h3,if_pos hg,if_pos hg]
    rw[zXH eg,zXI eg,w2,is_s,is_s,bs_s];refine⟨by omega,rfl,by omega,by omega,rfl,by omega,λh2=>⟨k+1,by omega,by omega,?_⟩,λh2=>⟨k+1,by omega,by omega,?_⟩⟩
    .rw[sk,if_pos (by simpa using h2)];exact⟨⟨rfl,w1⟩,rfl,rfl,rfl,rfl⟩
    .rw[sk,if_neg (by simpa using h2)];exact⟨⟨rfl,w1⟩,rfl,rfl,rfl,rfl⟩
   .have h3:¬o.kind=3:=by simpa using h3
    have hg:¬0<=z.g:=hg;have ec:z.cnt=z.base:=by unfold Lk.cnt;rw[if_neg hg]
    rw[ec]at ci;have w2:wrap .i64 (z.base+1)=z.base+1:=wQb _ (by omega);have sk:zZS s.ops (k+1)=⟨if o.kind=2 then(k:Int) else z.g,z.base+1,z.G.set k z.g,z.K,z.F.set k (z.base==0)⟩:=by rw[sk];unfold zUq;rw[if_neg h3,if_neg hg,if_neg hg,ec]
    rw[w2,is_s,bs_s];refine⟨by omega,by omega,λh2=>⟨k+1,by omega,by omega,?_⟩,λh2=>⟨k+1,by omega,by omega,?_⟩⟩
    .rw[sk,if_pos (by simpa using h2)];exact⟨⟨rfl,w1⟩,rfl,rfl,rfl,rfl⟩
    .rw[sk,if_neg (by simpa using h2)];exact⟨⟨rfl,w1⟩,rfl,rfl,rfl,rfl⟩
  .have hk2:k=s.ops.length:=by omega
   subst hk2;obtain⟨st,h1,H⟩:=jVQ R.ok _ hk;exact⟨⟨rfl,⟨rfl,rfl⟩,⟨H.G.symm,rfl⟩,⟨H.K.symm,rfl⟩,H.F.symm,rfl⟩,trivial⟩
def zK6:Gam:=yYa.add [.p 199 (λ| []=>some (RV.tup [RV.tup [rJ 61,rJ 12]])|[.d (.sl n xs)]=>some (RV.d (dS n xs))|_=>none),
 .q 138 ([false],1,0) (λ| [AV.one (Cl.ptr 0 off)],[Bx.row _ _ xs]=>some ⟨AV.tup [],[Bx.row 61 12 (List.set (List.set (List.set xs (off+4) (dJ 0)) (off+5) (dJ 0)) (off+6) (dJ 0))],false⟩|_,_=>none),
 .q 140 ([false],1,0) (λ| [AV.one (Cl.ptr 0 off)],[Bx.row _ _ xs]=>some ⟨AV.tup [],[Bx.row 61 12 (List.set xs (off+10) (dQ true))],false⟩|_,_=>none),
 .q 142 ([false],1,0) (λ| [AV.one (Cl.ptr 0 off)],[Bx.row _ _ xs]=>some ⟨AV.tup [],[Bx.row 61 12 (List.set (List.set xs (off+8) (dJ 4)) (off+9) (dJ 1))],false⟩|_,_=>none),
 .q 144 ([false],1,0) (λ| [AV.one (Cl.ptr 0 off)],[Bx.row _ _ xs]=>some ⟨AV.tup [],[Bx.row 61 12 (List.set xs (off+11) (dQ false))],false⟩|_,_=>none)]
def aDE(a:List RV)(b c d:Nat)(e:List DV):Prop:=AnsO prog 199 a b c d e
def aDF(a:Nat)(b:List Oq)(c:List Bx):Prop:=dO (AV.one (Cl.ref a (List.length b))) c
def aEK(a:Nat)(b c:Int)(d:List DV)(e:Vw):Prop:=zZQ 12 88 a (Int.toNat (b-c)) d (wQ (bF (b-c)) (bF c) (fZ e))
def tQ(a:List DV)(b c:Int)(d:Vw):List DV:=a++wQ (bF (b-c)) (bF c) (fZ d)
theorem zZR(v:Vw)(i:Int)(h0:0<=i)(I:VwIn v i.toNat)(hL:v.s.ops.length<=1000000):AnsG prog 132 1 [aPz,aJ ((i))] [bC (vC v)] ⟨aO (Cl.ref 1 ((remV v (i).toNat).length)),[bC (vC v),bR 61 12 (ops (remV v (i).toNat))],false⟩:=
 vw zK6 aL Tryz.func132 (let a:=remV v (Int.toNat i);let b:=v.s.c;let c:=oH (eF (is v.ends) i 1);let f:=(dG v.s:Int);let d:=wQ (bF (i-0)) (bF 0) (fZ v);let e:=wO i 0;xS (eY ((0:Int)<=0/\0<=i/\i<=(dG v.s:Int)) (aDE (pM e d []) 61 12 e d) (aK (aAU i v.ends 1/\pI v.ends i/\eC True (aGW c (dG v.s) (f<=f)) (nT (aEK e (dG v.s:Int) c d v) (yO (kL (e+wO f c) a) (eS (rI v (yU v))) (tQ d f c v=ops a)) (aDF 1 a (bY (aB v.s.bits) (cD (aB b.a)::cD (aB b.b)::aH (aB b.c) (aB b.d) (aB v.s.tw) (aB v.s.th) (aH (DV.sl (List.length v.s.ord) (is v.s.ord)) (DV.sl (List.length v.s.ims) (ims v.s.ims)) (cY v.s) (aF v.max) (aH (DV.sl (List.length v.ends) (is v.ends)) (DV.sl (List.length v.grps) (is v.grps)) (DV.sl (List.length v.kids) (is v.kids)) (DV.sl (List.length v.fsts) (bsD v.fsts)) [])))::iK (ops a)))))))) λhwf hbx=>by
  delta eS aB aW iE oI eC aF aU aK aH bY eY aT dE eF pM wQ wO oH pI aGW bI kL dO bF iK dG jW nT xS cY aAD fZ yU rI aDE aDF yO aAU aEK tQ;simp only[sS];clear hwf hbx;simp only[vwE,zQv,zQn,frOK,and_true,wQg];obtain⟨e,e1,e2,e3,e4⟩:=I.end_;have re:=zXI e1;have ne:=zXH e1;have gl:=zQl v.ends;have el:=I.l1;have bd:=I.lt;have w:wrap .i64 ((e:Int)+1)=((e+1:Nat):Int):=by rw[wQb _ (by omega)];omega
  have a1:((v.s.ops.length:Int)-((e+1:Nat):Int)).toNat=v.s.ops.length-(e+1):=by omega
  have a2:(v.s.ops.drop (e+1)).take (v.s.ops.length-(e+1))=v.s.ops.drop (e+1):=wQR (by simp);have hM:∀n:Nat,n<=1000000->n<=maxLen:=λn h=>by unfold maxLen;omega
  simp only[ne,re,w,wXp,Int.toNat_zero,Nat.zero_mul,wYA,wQp,zUC,jWD,a1,a2,true_and];have er:remV v i.toNat=v.s.ops.take i.toNat++v.s.ops.drop (e+1):=by unfold remV;rw[e2]
  rw[er,zQU];refine⟨by omega,zXW _ _ (by rw[zQc,wQl];omega) (by omega),by omega,by omega,⟨by rw[zQc,wQl];omega,by rw[zQc,wQF],hM _ (by omega),by omega⟩,by simp;omega,rfl⟩
def jB(a:List DV)(b c:Nat)(d:DV):List DV:=List.set a (b+c) d
theorem zGt(off:Nat)(xs:List DV)(ho:off+12<=xs.length):AnsG prog 138 1 [aO (Cl.ptr 0 off)] [bR 61 12 xs] ⟨AV.tup [],[bR 61 12 (List.set (List.set (List.set xs (off+4) (dJ 0)) (off+5) (dJ 0)) (off+6) (dJ 0))],false⟩:=
 vw zK6 aL Tryz.func138 (let a:=aB 0;let b:=jB (jB xs off 4 a) off 5 a;True/\fT (fL (off+4+1) xs) (fL (off+5+1) (jB xs off 4 a)) (True/\True/\fL (off+6+1) b/\aT (True/\True) (eS (jB b off 6 a))/\dO (AV.tup []) (iK (jB b off 6 a)))) λhwf hbx=>by
  delta eS aB aT fL fT dO iK jB;simp only[sS];clear hwf hbx;simp only[frOK,and_true,wQL];omega
theorem zGs(off:Nat)(xs:List DV)(ho:off+12<=xs.length):AnsG prog 140 1 [aO (Cl.ptr 0 off)] [bR 61 12 xs] ⟨AV.tup [],[bR 61 12 (List.set xs (off+10) (dQ true))],false⟩:=
 vw zK6 aL Tryz.func140 (True/\True/\True/\fL (off+10+1) xs/\aT (True/\True) (eS (jB xs off 10 (DV.bool true)))/\dO (AV.tup []) (iK (jB xs off 10 (DV.bool true)))) λhwf hbx=>by
  delta eS aT fL dO iK jB;simp only[sS];clear hwf hbx;simp only[frOK,and_true,wQL];omega
theorem zGr(off:Nat)(xs:List DV)(ho:off+12<=xs.length):AnsG prog 142 1 [aO (Cl.ptr 0 off)] [bR 61 12 xs] ⟨AV.tup [],[bR 61 12 (List.set (List.set xs (off+8) (dJ 4)) (off+9) (dJ 1))],false⟩:=
 vw zK6 aL Tryz.func142 (let a:=jB (jB xs off 8 (aB 4)) off 9 (aB 1);fV (fL (off+8+1) xs) (True/\True/\fL (off+9+1) (jB xs off 8 (aB 4))/\aT (True/\True) (eS a)/\dO (AV.tup []) (iK a))) λhwf hbx=>by
  delta eS aB aT fL fV dO iK jB;simp only[sS];clear hwf hbx;simp only[frOK,and_true,wQL];omega
theorem zGq(off:Nat)(xs:List DV)(ho:off+12<=xs.length):AnsG prog 144 1 [aO (Cl.ptr 0 off)] [bR 61 12 xs] ⟨AV.tup [],[bR 61 12 (List.set xs (off+11) (dQ false))],false⟩:=
 vw zK6 aL Tryz.func144 (True/\True/\True/\fL (off+11+1) xs/\aT (True/\True) (eS (jB xs off 11 kG))/\dO (AV.tup []) (iK (jB xs off 11 kG))) λhwf hbx=>by
  delta eS kG aT fL dO iK jB;simp only[sS];clear hwf hbx;simp only[frOK,and_true,wQL];omega
def zU7:Ann:=Ann.leaf
def kD(a:Nat):Cl:=Cl.clo 203 [Cap.ptr a 0]
def oR(a:Nat):List Bx:=[bY (DV.fn a) []]
def pW(a:Nat):List DV:=[DV.fn a]
theorem jKR:vcg prog zK6 ⟨4,λ_=>false,List.range 0,false⟩ (zKI Tryz.f137) (zU7 ) kn0 (zH4 [AV.one (Cl.d (DV.fn 138))] []) (jJX prog ⟨4,λ_=>false,List.range 0,false⟩ Tryz.f137.results.toList ⟨AV.one (Cl.clo 203 [Cap.ptr 0 0]),[Bx.cells [Cl.d (DV.fn 138)]],false⟩) =
 (fV (yG (eS (0:Nat)/\True) (pW 138)) (dO (AV.one (kD 0)) (oR 138))):=by kernel_rfl
abbrev wYe:=@Tryz.func137
theorem jYY:AnsG prog 137 0 [aO (cD (DV.fn 138))] [] ⟨aO (Cl.clo 203 [Cap.ptr 0 0]),[bC [cD (DV.fn 138)]],false⟩:=
 zQe (Γ:=zK6) (zU7 ) zQb wYe rfl (nL rfl) rfl λhwf hbx=>by
  refine Eq.mpr (jKR ) ?_;delta eS bY aT fV dO kD oR pW yG;simp only[sS];exact trivial
def zU6:Ann:=Ann.leaf
theorem jKQ:vcg prog zK6 ⟨4,λ_=>false,List.range 0,false⟩ (zKI Tryz.f137) (zU6 ) kn0 (zH4 [AV.one (Cl.d (DV.fn 140))] []) (jJX prog ⟨4,λ_=>false,List.range 0,false⟩ Tryz.f137.results.toList ⟨AV.one (Cl.clo 203 [Cap.ptr 0 0]),[Bx.cells [Cl.d (DV.fn 140)]],false⟩) =
 (fV (yG (eS (0:Nat)/\True) (pW 140)) (dO (AV.one (kD 0)) (oR 140))):=by kernel_rfl
theorem jYX:AnsG prog 137 0 [aO (cD (DV.fn 140))] [] ⟨aO (Cl.clo 203 [Cap.ptr 0 0]),[bC [cD (DV.fn 140)]],false⟩:=
 zQe (Γ:=zK6) (zU6 ) zQb wYe rfl (nL rfl) rfl λhwf hbx=>by
  refine Eq.mpr (jKQ ) ?_;delta eS bY aT fV dO kD oR pW yG;simp only[sS];exact trivial
def zU5:Ann:=Ann.leaf
theorem jKP:vcg prog zK6 ⟨4,λ_=>false,List.range 0,false⟩ (zKI Tryz.f137) (zU5 ) kn0 (zH4 [AV.one (Cl.d (DV.fn 142))] []) (jJX prog ⟨4,λ_=>false,List.range 0,false⟩ Tryz.f137.results.toList ⟨AV.one (Cl.clo 203 [Cap.ptr 0 0]),[Bx.cells [Cl.d (DV.fn 142)]],false⟩) =
 (fV (yG (eS (0:Nat)/\True) (pW 142)) (dO (AV.one (kD 0)) (oR 142))):=by kernel_rfl
theorem jYW:AnsG prog 137 0 [aO (cD (DV.fn 142))] [] ⟨aO (Cl.clo 203 [Cap.ptr 0 0]),[bC [cD (DV.fn 142)]],false⟩:=
 zQe (Γ:=zK6) (zU5 ) zQb wYe rfl (nL rfl) rfl λhwf hbx=>by
  refine Eq.mpr (jKP ) ?_;delta eS bY aT fV dO kD oR pW yG;simp only[sS];exact trivial
def zU4:Ann:=Ann.leaf
theorem jKO:vcg prog zK6 ⟨4,λ_=>false,List.range 0,false⟩ (zKI Tryz.f137) (zU4 ) kn0 (zH4 [AV.one (Cl.d (DV.fn 144))] []) (jJX prog ⟨4,λ_=>false,List.range 0,false⟩ Tryz.f137.results.toList ⟨AV.one (Cl.clo 203 [Cap.ptr 0 0]),[Bx.cells [Cl.d (DV.fn 144)]],false⟩) =
 (fV (yG (eS (0:Nat)/\True) (pW 144)) (dO (AV.one (kD 0)) (oR 144))):=by kernel_rfl
theorem jYV:AnsG prog 137 0 [aO (cD (DV.fn 144))] [] ⟨aO (Cl.clo 203 [Cap.ptr 0 0]),[bC [cD (DV.fn 144)]],false⟩:=
 zQe (Γ:=zK6) (zU4 ) zQb wYe rfl (nL rfl) rfl λhwf hbx=>by
  refine Eq.mpr (jKO ) ?_;delta eS bY aT fV dO kD oR pW yG;simp only[sS];exact trivial
def uS(a:Scr)(b:Int)(c:Oq):List Oq:=List.set a.ops (Int.toNat b) c
def xU(a:Nat)(b:Scr)(c:Int)(d:Oq):List Bx:=bY (DV.fn a) []::iK (ops (uS b c d))
abbrev wYf:=@Tryz.func203
theorem jZS(v:Vw)(i:Int)(h0:0<=i)(I:VwIn v i.toNat)(hL:v.s.ops.length<=1000000):AnsG prog 203 2 [aPz,aJ ((i)),aO (Cl.ptr 1 0)] [bC (vC v),bC [cD (DV.fn 138)]] ⟨aO (Cl.ref 2 (((v).s.ops.set (i).toNat (zVt (opV v (i).toNat))).length)),[bC (vC v),bC [cD (DV.fn 138)],bR 61 12 (ops ((v).s.ops.set (i).toNat (zVt (opV v (i).toNat))))],false⟩:=
 zQe (Γ:=zK6) aL zQb wYf rfl (nL rfl) rfl λhwf hbx=>by
  refine Eq.mpr (by kernel_rfl:_=(let b:=v.s.c;let d:=uS v.s i (zVt (oQ v i));let c:=aB 0;let a:=bF i;let e:=jB (jB (fZ v) a 4 c) a 5 c;True/\gC (aDE [rD (cY v.s)] 61 12 (dG v.s) (fZ v)) (True/\True/\gU i (dG v.s)/\iY 138 1 [aO (Cl.ptr 0 a)] (iK (fZ v)) (AV.tup []) (iK (jB e a 6 c))/\eS true/\True/\True/\lN (kL (dG v.s) d/\True) (rI v (yU v)) (pW 138) (List.set e (a+6) c=ops d)/\aDF 2 d (bY (aB v.s.bits) (cD (aB b.a)::cD (aB b.b)::aH (aB b.c) (aB b.d) (aB v.s.tw) (aB v.s.th) (aH (DV.sl (List.length v.s.ord) (is v.s.ord)) (DV.sl (List.length v.s.ims) (ims v.s.ims)) (cY v.s) (aF v.max) (aH (DV.sl (List.length v.ends) (is v.ends)) (DV.sl (List.length v.grps) (is v.grps)) (DV.sl (List.length v.kids) (is v.kids)) (DV.sl (List.length v.fsts) (bsD v.fsts)) [])))::xU 138 v.s i (zVt (oQ v i)))))) ?_;delta eS aB aW aF aG aX gC aH bY lN gU kL dO bF iK dG cY iY oQ uS xU aAD fZ yU jB pW rI aDE aDF;simp only[sS];clear hwf hbx;simp only[vwE,zQv,zQn,frOK,and_true,wQg];have bd:=I.lt;have ol:=zQc v.s.ops;have ev:(((ops v.s.ops).set (i.toNat*12+4) (.int .i64 0)).set (i.toNat*12+5) (.int .i64 0)).set (i.toNat*12+6) (.int .i64 0)=ops (v.s.ops.set i.toNat (zVt (opV v i.toNat))):=by
   rw[zW5 I.lt (j:=4) (by omega) (o:={ opV v i.toNat with mask:=0 }) (by rw[I.op];rfl),zW5 (by simpa using I.lt) (j:=5) (by omega) (o:={ opV v i.toNat with mask:=0,mx:=0 }) (by rw[List.getElem_set_self];rfl),zW5 (by simpa using I.lt) (j:=6) (by omega) (o:=zVt (opV v i.toNat)) (by rw[List.getElem_set_self];rfl),List.set_set,List.set_set]
  refine⟨zXW _ _ ol (by omega),by omega,zGt (i.toNat*12) (ops v.s.ops) (by omega),by simp,ev⟩
theorem jZR(v:Vw)(i:Int)(h0:0<=i)(I:VwIn v i.toNat)(hL:v.s.ops.length<=1000000):AnsG prog 203 2 [aPz,aJ ((i)),aO (Cl.ptr 1 0)] [bC (vC v),bC [cD (DV.fn 140)]] ⟨aO (Cl.ref 2 (((v).s.ops.set (i).toNat (isoO (opV v (i).toNat))).length)),[bC (vC v),bC [cD (DV.fn 140)],bR 61 12 (ops ((v).s.ops.set (i).toNat (isoO (opV v (i).toNat))))],false⟩:=
 zQe (Γ:=zK6) aL zQb wYf rfl (nL rfl) rfl λhwf hbx=>by
  refine Eq.mpr (by kernel_rfl:_=(let a:=v.s.c;let b:=uS v.s i (isoO (oQ v i));True/\gC (aDE [rD (cY v.s)] 61 12 (dG v.s) (fZ v)) (True/\True/\gU i (dG v.s)/\iY 140 1 [aO (Cl.ptr 0 (bF i))] (iK (fZ v)) (AV.tup []) (iK (jB (fZ v) (bF i) 10 (DV.bool true)))/\eS true/\True/\True/\lN (kL (dG v.s) b/\True) (rI v (yU v)) (pW 140) (List.set (fZ v) (bF i+10) (DV.bool true)=ops b)/\aDF 2 b (Bx.cells (cD (aB v.s.bits)::cD (aB a.a)::qI a.b (aH (aB a.c) (aB a.d) (aB v.s.tw) (aB v.s.th) (aH (aIH v.s.ord) (DV.sl (List.length v.s.ims) (ims v.s.ims)) (cY v.s) (aF v.max) (aH (aIH v.ends) (aJJ v) (aJK v) (aJL v) []))))::xU 140 v.s i (isoO (oQ v i)))))) ?_;delta eS aB aW aF aG aX gC aH bY lN gU kL dO bF qI iK dG cY iY oQ uS xU aAD fZ yU jB pW rI aDE aDF aIH aJJ aJK aJL;simp only[sS];clear hwf hbx;simp only[vwE,zQv,zQn,frOK,and_true,wQg];have bd:=I.lt;have ol:=zQc v.s.ops;have ev:(ops v.s.ops).set (i.toNat*12+10) (.bool true)=ops (v.s.ops.set i.toNat (isoO (opV v i.toNat))):=zW5 I.lt (j:=10) (by omega) (by rw[I.op];rfl);refine⟨zXW _ _ ol (by omega),by omega,zGs (i.toNat*12) (ops v.s.ops) (by omega),by simp,ev⟩
theorem jZQ(v:Vw)(i:Int)(h0:0<=i)(I:VwIn v i.toNat)(hL:v.s.ops.length<=1000000):AnsG prog 203 2 [aPz,aJ ((i)),aO (Cl.ptr 1 0)] [bC (vC v),bC [cD (DV.fn 142)]] ⟨aO (Cl.ref 2 (((v).s.ops.set (i).toNat (zVQ (opV v (i).toNat))).length)),[bC (vC v),bC [cD (DV.fn 142)],bR 61 12 (ops ((v).s.ops.set (i).toNat (zVQ (opV v (i).toNat))))],false⟩:=
 zQe (Γ:=zK6) aL zQb wYf rfl (nL rfl) rfl λhwf hbx=>by
  refine Eq.mpr (by kernel_rfl:_=(let b:=v.s.c;let c:=uS v.s i (zVQ (oQ v i));let a:=bF i;True/\gC (aDE [rD (cY v.s)] 61 12 (dG v.s) (fZ v)) (True/\True/\gU i (dG v.s)/\iY 142 1 [aO (Cl.ptr 0 a)] (iK (fZ v)) (AV.tup []) (iK (jB (jB (fZ v) a 8 (aB 4)) a 9 (aB 1)))/\eS true/\True/\True/\lN (kL (dG v.s) c/\True) (rI v (yU v)) (pW 142) (List.set (jB (fZ v) a 8 (aB 4)) (a+9) (aB 1)=ops c)/\aDF 2 c (bY (aB v.s.bits) (cD (aB b.a)::cD (aB b.b)::qI b.c (aH (aB b.d) (aB v.s.tw) (aB v.s.th) (DV.sl (List.length v.s.ord) (is v.s.ord)) (cD (aAD v)::cD (cY v.s)::cD (aF v.max)::aH (aIH v.ends) (aJJ v) (aJK v) (aJL v) [])))::xU 142 v.s i (zVQ (oQ v i)))))) ?_;delta eS aB aW aF aG aX gC aH bY lN gU kL dO bF qI iK dG cY iY oQ uS xU aAD fZ yU jB pW rI aDE aDF aIH aJJ aJK aJL;simp only[sS];clear hwf hbx;simp only[vwE,zQv,zQn,frOK,and_true,wQg];have bd:=I.lt;have ol:=zQc v.s.ops;have ev:((ops v.s.ops).set (i.toNat*12+8) (.int .i64 4)).set (i.toNat*12+9) (.int .i64 1)=ops (v.s.ops.set i.toNat (zVQ (opV v i.toNat))):=by
   rw[zW5 I.lt (j:=8) (by omega) (o:={ opV v i.toNat with oper:=4 }) (by rw[I.op];rfl),zW5 (by simpa using I.lt) (j:=9) (by omega) (o:=zVQ (opV v i.toNat)) (by rw[List.getElem_set_self];rfl),List.set_set]
  refine⟨zXW _ _ ol (by omega),by omega,zGr (i.toNat*12) (ops v.s.ops) (by omega),by simp,ev⟩
theorem jZP(v:Vw)(i:Int)(h0:0<=i)(I:VwIn v i.toNat)(hL:v.s.ops.length<=1000000):AnsG prog 203 2 [aPz,aJ ((i)),aO (Cl.ptr 1 0)] [bC (vC v),bC [cD (DV.fn 144)]] ⟨aO (Cl.ref 2 (((v).s.ops.set (i).toNat (zJp (opV v (i).toNat))).length)),[bC (vC v),bC [cD (DV.fn 144)],bR 61 12 (ops ((v).s.ops.set (i).toNat (zJp (opV v (i).toNat))))],false⟩:=
 zQe (Γ:=zK6) aL zQb wYf rfl (nL rfl) rfl λhwf hbx=>by
  refine Eq.mpr (by kernel_rfl:_=(let a:=v.s.c;let c:=uS v.s i (zJp (oQ v i));let b:=v.s.c;True/\gC (aDE [rD (cY v.s)] 61 12 (dG v.s) (fZ v)) (True/\True/\gU i (dG v.s)/\iY 144 1 [aO (Cl.ptr 0 (bF i))] (iK (fZ v)) (AV.tup []) (iK (jB (fZ v) (bF i) 11 kG))/\eS true/\True/\True/\lN (kL (dG v.s) c/\True) (aB v.s.bits::aB b.a::aB b.b::aB b.c::aB b.d::aB v.s.tw::aB v.s.th::gP v) (pW 144) (List.set (fZ v) (bF i+11) kG=ops c)/\aDF 2 c (bY (aB v.s.bits) (cD (aB a.a)::cD (aB a.b)::aH (aB a.c) (aB a.d) (aB v.s.tw) (aB v.s.th) (aH (DV.sl (List.length v.s.ord) (is v.s.ord)) (DV.sl (List.length v.s.ims) (ims v.s.ims)) (cY v.s) (aF v.max) (aH (DV.sl (List.length v.ends) (is v.ends)) (DV.sl (List.length v.grps) (is v.grps)) (DV.sl (List.length v.kids) (is v.kids)) (DV.sl (List.length v.fsts) (bsD v.fsts)) [])))::xU 144 v.s i (zJp (oQ v i)))))) ?_;delta eS aB aW aF aG aX gC aH bY kG lN gU kL dO bF iK dG cY iY oQ uS xU aAD fZ yU gP jB pW aDE aDF;simp only[sS];clear hwf hbx;simp only[vwE,zQv,zQn,frOK,and_true,wQg];have bd:=I.lt;have ol:=zQc v.s.ops;have ev:(ops v.s.ops).set (i.toNat*12+11) (.bool false)=ops (v.s.ops.set i.toNat (zJp (opV v i.toNat))):=zW5 I.lt (j:=11) (by omega) (by rw[I.op];rfl);refine⟨zXW _ _ ol (by omega),by omega,zGq (i.toNat*12) (ops v.s.ops) (by omega),by simp,ev⟩
def aID(a:Nat)(b:Vw)(c:Int)(d:List DV)(e:Int):Prop:=aEK a (dG b.s:Int) (oH c) (tQ d c e b) b
theorem zKq(v:Vw)(i:Int)(h0:0<=i)(I:VwIn v i.toNat)(hL:v.s.ops.length<=1000000)(J:VwIn v (i.toNat+1))(hE:i.toNat+2<=endV v i.toNat):AnsG prog 146 1 [aPz,aJ ((i))] [bC (vC v)] ⟨aO (Cl.ref 1 ((unwL v (i).toNat).length)),[bC (vC v),bR 61 12 (ops (unwL v (i).toNat))],false⟩:=
 vw zK6 aL Tryz.func146 (let m:=unwL v (Int.toNat i);let n:=v.s.c;let o:=aDF 1 m (bY (aB v.s.bits) (cD (aB n.a)::cD (aB n.b)::aH (aB n.c) (aB n.d) (aB v.s.tw) (aB v.s.th) (aH (DV.sl (List.length v.s.ord) (is v.s.ord)) (DV.sl (List.length v.s.ims) (ims v.s.ims)) (cY v.s) (aF v.max) (aH (DV.sl (List.length v.ends) (is v.ends)) (DV.sl (List.length v.grps) (is v.grps)) (DV.sl (List.length v.kids) (is v.kids)) (DV.sl (List.length v.fsts) (bsD v.fsts)) [])))::iK (ops m));let p:=ops m;let a:=eF (is v.ends) i 1;let q:=oH a;let C:=dG v.s;let h:=(C:Int);let b:=aU (i+2);let c:=oH i;let r:=bF c;let K:=[mQ v.s (cI r)];let s:=bF c;let L:=mQ v.s (cG s)::K;let D:=dW v (vE i);let E:=dW v (rG i);let M:=dW v (bU r);let O:=dW v (yF c);let P:=dW v (bT r);let Q:=dW v (r+1);let t:=dW v s;let j:=fZ v;let R:=aDC j c 12 t Q P O M E D L;let d:=wQ (bF (i-0)) (bF 0) j;let F:=d++R;let u:=eS (rI v (yU v));let S:=oH a;let g:=wO i 0;let k:=g+1;let l:=k+wO a b;let w:=kL (l+wO h S) m;let x:=aGW S C (h<=h);let e:=pI v.ends i;let f:=aAU i v.ends 1;let y:=0<=b/\b<=a/\a<=(C:Int);let z:=aDE (pM g d []) 61 12 g d;let A:=(0:Int)<=0/\0<=i/\i<=(C:Int);let B:=eF j c 12;let T:=uC B;let U:=kX E D true K;let V:=fM j (s+1);let W:=fM j s;let X:=mS B W V t Q P O M U;let G:=d++X;let Y:=B==2;let H:=unV (iX v) (aEH v c 12);let Z:=dW v (bU (bF i));let z0:=dW v (bT (bF i));let z1:=dW v (bF i+1);let z2:=aDC j c 12 t z1 z0 (dW v (yF i)) Z E D L;let I:=d++z2;let z3:=mS B W V t z1 z0 (dW v (yF i)) Z U;let J:=d++z3;xS (eY (nM i v) (tP v i) (True/\True/\True/\True/\dY (nM c v) (tP v c) (kV (True/\True/\aEI 206 v c [] H/\fP (H=true) (aK (wJ (bW (eS true) (cS Y (bW A (z/\True/\True/\zZQ 12 88 g 1 d z3/\nN (kM f (tS e y (aEK k a b J v) (mU (aK (f/\e/\eC True x (nT (aID l v a J b) (yO w u (tQ (tQ J a b v) h q v=p)) o)))))))) (dL T (dY A z (True/\nT (zZQ 12 88 g 1 d z2) True (True/\kM f (tS e y (aEK k a b I v) (mU (aK (f/\e/\eC True x (nT (aID l v a I b) (yO w u (tQ (tQ I a b v) h q v=p)) o)))))))))))))/\pG H (bW (eS true) (cS Y (bW A (z/\True/\True/\zZQ 12 88 g 1 d X/\nN (kM f (tS e y (aEK k a b G v) (mU (aK (f/\e/\eC True x (nT (aID l v a G b) (yO w u (tQ (tQ G a b v) h q v=p)) o)))))))) (fP T (eY A z (nT (zZQ 12 88 g 1 d R) True (True/\True/\True/\True/\aK (f/\e/\eC y (aEK k a b F v) (nN (aK (dY f e (x/\aID l v a F b/\eC True (eS true) (yO w u (tQ (tQ F a b v) h q v=p)/\o))))))))))))))))) λhwf hbx=>by
  delta eS aB aW aE iE oI dY eC aF aU aG bE fG aK bD aX dL nN tS wJ aH bY aR bW kX mS eY kV pG aT dE eF pM wQ wO mU oH pI aGW eU cX fM aY bS uC bT bU jV bI kL dO bF yP iK kM dG cI cG eH iA cS cE fP aGO jW xC nT xS cY pT mO nU aAD fZ nM yU iX aJD iM gR rF mQ rG vE yF aDC rI aDE aDF aGI yO jS aAU dW tP aEH aEI aEK tQ aID;simp only[sS];clear hwf hbx;simp only[vwE,zQv,zQn,frOK,and_true,wQg];have q1:=zYL I;have q2:=zYM I;have bd:i<(v.s.ops.length:Int):=by have:=I.lt;omega
  have ol:=zQc v.s.ops;have r3:=zXI I.kid;have n3:=zXH I.kid;have⟨r4,n4⟩:=zV8 I.fst;have g3:=zQl v.kids;have g4:=zZU v.fsts;have l3:=I.l3;have l4:=I.l4;have FR:=zQu v i h0 I;simp only[Nat.add_assoc,Nat.reduceAdd,Nat.add_zero,q1,q2,r3,n3,r4,n4,oqE,true_and,and_true];have w1:wrap .i64 (i+1)=i+1:=wQb _ (by omega);have w2:(i+1).toNat=i.toNat+1:=by omega
  have w3:wrap .i64 (i+2)=((i.toNat+2:Nat):Int):=by rw[wQb _ (by omega)];omega
  have p1:=zYL J;have p2:=zYM J;have jl:=J.lt;obtain⟨e,e1,e2,e3,e4⟩:=I.end_;have re:=zXI e1;have ne:=zXH e1;have gl:=zQl v.ends;have el:=I.l1;have bd:=I.lt;have w:wrap .i64 ((e:Int)+1)=((e+1:Nat):Int):=by rw[wQb _ (by omega)];omega
  have a1:((v.s.ops.length:Int)-((e+1:Nat):Int)).toNat=v.s.ops.length-(e+1):=by omega
  have a2:(v.s.ops.drop (e+1)).take (v.s.ops.length-(e+1))=v.s.ops.drop (e+1):=wQR (by simp);have hM:∀n:Nat,n<=1000000->n<=maxLen:=λn h=>by unfold maxLen;omega
  have a3:((e:Int)-((i.toNat+2:Nat):Int)).toNat=e-(i.toNat+2):=by omega
  simp only[w1,w2,p1,p2,w3,oqE,true_and,and_true];clear q1 q2 p1 p2 r3 n3 r4 n4;simp only[ne,re,w,wXp,Int.toNat_zero,Nat.zero_mul,wYA,wQp,zUC,jWD,a1,a2,a3,true_and];have U1:=zZe v (opV v (i.toNat+1));have er:unwL v i.toNat=v.s.ops.take i.toNat++[zZt (opV v i.toNat) (opV v (i.toNat+1)) (unV v (opV v (i.toNat+1)))]++(v.s.ops.drop (i.toNat+2)).take (e-(i.toNat+2))++v.s.ops.drop (e+1):=by unfold unwL;rw[e2];simp
  refine⟨by omega,by omega,U1,λhu=>⟨λhk=>?_,λhk=>?_⟩,λhu=>⟨λhk=>?_,λhk=>?_⟩⟩
  .have hk:(opV v (i.toNat+1)).kind=2:=by simpa using hk
   have eK:([.int .i64 (opV v (i.toNat+1)).kind,.int .i64 (opV v (i.toNat+1)).image,.int .i64 (opV v (i.toNat+1)).x,.int .i64 (opV v (i.toNat+1)).y,.int .i64 (opV v i.toNat).mask,.int .i64 (opV v i.toNat).mx,.int .i64 (opV v i.toNat).my,.int .u16 (opV v i.toNat).opac,.int .i64 (opV v i.toNat).oper,.int .i64 (opV v i.toNat).mode,.bool true,.bool (opV v (i.toNat+1)).kno]:List DV)=ops [zZt (opV v i.toNat) (opV v (i.toNat+1)) (unV v (opV v (i.toNat+1)))]:=by
    rw[hu];unfold zZt;simp[ops,Oq.cells,hk]
   rw[eK,er,<-zQU,<-zQU,<-zQU];have t1:(v.s.ops.take i.toNat).length=i.toNat:=by rw[wQl];omega
   have t2:((v.s.ops.drop (i.toNat+2)).take (e-(i.toNat+2))).length=e-(i.toNat+2):=by rw[wQl,wQF];omega
   have t3:(v.s.ops.drop (e+1)).length=v.s.ops.length-(e+1):=wQF;refine⟨by omega,zXW _ _ (by rw[zQc,t1]) (by omega),⟨by rw[zQc,t1],rfl,hM _ (by omega),by omega⟩,by omega,by omega,⟨by rw[zQc,wQe,t1];rfl,by rw[zQc,t2],hM _ (by omega),by omega⟩,by omega,by omega,⟨by rw[zQc,wQe,wQe,t1,t2,wZF];omega,by rw[zQc,t3],hM _ (by omega),by omega⟩,by rw[wQe,wQe,wQe,t1,t2,t3,wZF];omega,rfl⟩
  .have hk:¬(opV v (i.toNat+1)).kind=2:=by simpa using hk
   have eK:([.int .i64 (opV v (i.toNat+1)).kind,.int .i64 (opV v (i.toNat+1)).image,.int .i64 (opV v (i.toNat+1)).x,.int .i64 (opV v (i.toNat+1)).y,.int .i64 (opV v i.toNat).mask,.int .i64 (opV v i.toNat).mx,.int .i64 (opV v i.toNat).my,.int .u16 (opV v i.toNat).opac,.int .i64 (opV v i.toNat).oper,.int .i64 (opV v i.toNat).mode,.bool (opV v (i.toNat+1)).iso,.bool (opV v (i.toNat+1)).kno]:List DV)=ops [zZt (opV v i.toNat) (opV v (i.toNat+1)) (unV v (opV v (i.toNat+1)))]:=by
    rw[hu];unfold zZt;simp[ops,Oq.cells,hk]
   rw[eK,er,<-zQU,<-zQU,<-zQU];have t1:(v.s.ops.take i.toNat).length=i.toNat:=by rw[wQl];omega
   have t2:((v.s.ops.drop (i.toNat+2)).take (e-(i.toNat+2))).length=e-(i.toNat+2):=by rw[wQl,wQF];omega
   have t3:(v.s.ops.drop (e+1)).length=v.s.ops.length-(e+1):=wQF;refine⟨by omega,zXW _ _ (by rw[zQc,t1]) (by omega),⟨by rw[zQc,t1],rfl,hM _ (by omega),by omega⟩,by omega,by omega,⟨by rw[zQc,wQe,t1];rfl,by rw[zQc,t2],hM _ (by omega),by omega⟩,by omega,by omega,⟨by rw[zQc,wQe,wQe,t1,t2,wZF];omega,by rw[zQc,t3],hM _ (by omega),by omega⟩,by rw[wQe,wQe,wQe,t1,t2,t3,wZF];omega,rfl⟩
  .have hk:(opV v (i.toNat+1)).kind=2:=by simpa using hk
   have eK:([.int .i64 (opV v (i.toNat+1)).kind,.int .i64 (opV v (i.toNat+1)).image,.int .i64 (opV v (i.toNat+1)).x,.int .i64 (opV v (i.toNat+1)).y,.int .i64 (opV v (i.toNat+1)).mask,.int .i64 (opV v (i.toNat+1)).mx,.int .i64 (opV v (i.toNat+1)).my,.int .u16 (opV v (i.toNat+1)).opac,.int .i64 (opV v i.toNat).oper,.int .i64 (opV v i.toNat).mode,.bool true,.bool (opV v (i.toNat+1)).kno]:List DV)=ops [zZt (opV v i.toNat) (opV v (i.toNat+1)) (unV v (opV v (i.toNat+1)))]:=by
    rw[hu];unfold zZt;simp[ops,Oq.cells,hk]
   rw[eK,er,<-zQU,<-zQU,<-zQU];have t1:(v.s.ops.take i.toNat).length=i.toNat:=by rw[wQl];omega
   have t2:((v.s.ops.drop (i.toNat+2)).take (e-(i.toNat+2))).length=e-(i.toNat+2):=by rw[wQl,wQF];omega
   have t3:(v.s.ops.drop (e+1)).length=v.s.ops.length-(e+1):=wQF;refine⟨by omega,zXW _ _ (by rw[zQc,t1]) (by omega),⟨by rw[zQc,t1],rfl,hM _ (by omega),by omega⟩,by omega,by omega,⟨by rw[zQc,wQe,t1];rfl,by rw[zQc,t2],hM _ (by omega),by omega⟩,by omega,by omega,⟨by rw[zQc,wQe,wQe,t1,t2,wZF];omega,by rw[zQc,t3],hM _ (by omega),by omega⟩,by rw[wQe,wQe,wQe,t1,t2,t3,wZF];omega,rfl⟩
  .have hk:¬(opV v (i.toNat+1)).kind=2:=by simpa using hk
   have eK:([.int .i64 (opV v (i.toNat+1)).kind,.int .i64 (opV v (i.toNat+1)).image,.int .i64 (opV v (i.toNat+1)).x,.int .i64 (opV v (i.toNat+1)).y,.int .i64 (opV v (i.toNat+1)).mask,.int .i64 (opV v (i.toNat+1)).mx,.int .i64 (opV v (i.toNat+1)).my,.int .u16 (opV v (i.toNat+1)).opac,.int .i64 (opV v i.toNat).oper,.int .i64 (opV v i.toNat).mode,.bool (opV v (i.toNat+1)).iso,.bool (opV v (i.toNat+1)).kno]:List DV)=ops [zZt (opV v i.toNat) (opV v (i.toNat+1)) (unV v (opV v (i.toNat+1)))]:=by
    rw[hu];unfold zZt;simp[ops,Oq.cells,hk]
   rw[eK,er,<-zQU,<-zQU,<-zQU];have t1:(v.s.ops.take i.toNat).length=i.toNat:=by rw[wQl];omega
   have t2:((v.s.ops.drop (i.toNat+2)).take (e-(i.toNat+2))).length=e-(i.toNat+2):=by rw[wQl,wQF];omega
   have t3:(v.s.ops.drop (e+1)).length=v.s.ops.length-(e+1):=wQF;refine⟨by omega,zXW _ _ (by rw[zQc,t1]) (by omega),⟨by rw[zQc,t1],rfl,hM _ (by omega),by omega⟩,by omega,by omega,⟨by rw[zQc,wQe,t1];rfl,by rw[zQc,t2],hM _ (by omega),by omega⟩,by omega,by omega,⟨by rw[zQc,wQe,wQe,t1,t2,wZF];omega,by rw[zQc,t3],hM _ (by omega),by omega⟩,by rw[wQe,wQe,wQe,t1,t2,t3,wZF];omega,rfl⟩
def yXg:Gam:=zK6.add [.q 137 ([true],0,1) (λ| [AV.one (Cl.d (DV.fn 138))],[]=>some ⟨AV.one (Cl.clo 203 [Cap.ptr 0 0]),[bC [Cl.d (DV.fn 138)]],false⟩|[AV.one (Cl.d (DV.fn 140))],[]=>some ⟨AV.one (Cl.clo 203 [Cap.ptr 0 0]),[bC [Cl.d (DV.fn 140)]],false⟩|[AV.one (Cl.d (DV.fn 142))],[]=>some ⟨AV.one (Cl.clo 203 [Cap.ptr 0 0]),[bC [Cl.d (DV.fn 142)]],false⟩|[AV.one (Cl.d (DV.fn 144))],[]=>some ⟨AV.one (Cl.clo 203 [Cap.ptr 0 0]),[bC [Cl.d (DV.fn 144)]],false⟩|_,_=>none)]
def zVI:Ann:=Ann.leaf
def mM(a:Nat)(b:wc):wc:=Cl.d (DV.fn a)::b
def iV(a:Nat)(b:wc):wc:=Cl.d (DV.fn 132)::Cl.d (DV.fn a)::b
def aFP(a b:Nat)(c:List Bx):List Bx:=bY (DV.fn a) []::bY (DV.fn b) []::c
def aGU(a b:Nat)(c:wc):wc:=mM a (kD b::c)
def aCQ(a b:Nat)(c:wc):wc:=mM 141 (kD a::mM 143 (kD b::Cl.d (DV.fn 145)::Cl.d (DV.fn 146)::c))
def zV(a:wc):wc:=Cl.lit Value.nilFunc::Cl.lit Value.nilFunc::a
theorem jZE:vcg prog yXg ⟨16,λ_=>false,List.range 0,false⟩ (zKI Tryz.f68) (zVI ) kn0 (zH4 [] []) (jJX prog ⟨16,λ_=>false,List.range 0,false⟩ Tryz.f68.results.toList ⟨AV.one (Cl.ref 0 10),[Bx.cells [Cl.lit (Value.nilFunc),Cl.lit (Value.nilFunc),Cl.d (DV.fn 131),Cl.d (DV.fn 132),Cl.d (DV.fn 133),Cl.d (DV.fn 132),Cl.d (DV.fn 134),Cl.d (DV.fn 132),Cl.d (DV.fn 135),Cl.d (DV.fn 132),Cl.d (DV.fn 136),Cl.clo 203 [Cap.ptr 1 0],Cl.d (DV.fn 139),Cl.clo 203 [Cap.ptr 2 0],Cl.d (DV.fn 141),Cl.clo 203 [Cap.ptr 3 0],Cl.d (DV.fn 143),Cl.clo 203 [Cap.ptr 4 0],Cl.d (DV.fn 145),Cl.d (DV.fn 146)],Bx.cells [Cl.d (DV.fn 138)],Bx.cells [Cl.d (DV.fn 140)],Bx.cells [Cl.d (DV.fn 142)],Bx.cells [Cl.d (DV.fn 144)]],false⟩) =
 (let a:=eS (0:Nat)/\True;let c:=eS (DV.fn 132);let b:=AV.one (kD 0);vH (True/\eU (iY 137 0 [bE (DV.fn 138)] [] b (oR 138)) True (iY 137 0 [bE (DV.fn 140)] [] b (oR 140)) True (iY 137 0 [bE (DV.fn 142)] [] b (oR 142)) True (iY 137 0 [bE (DV.fn 144)] [] b (oR 144)) True (True/\True/\True/\nQ (eS (10:Nat)/\True) (eS Value.nilFunc/\eS Value.nilFunc/\cP (DV.fn 131) c (cP (DV.fn 133) c (cP (DV.fn 134) c (qV (DV.fn 135) (eS (DV.fn 132)) (eS (DV.fn 136)) a (cP (DV.fn 139) a (cP (DV.fn 141) a (aG (eS (DV.fn 143)) a (eS (DV.fn 145)) (eS (DV.fn 146))))))))) (pW 138) (pW 140) (pW 142) (eS (pW 144))/\dO (AV.one (Cl.ref 0 10)) (Bx.cells (zV (mM 131 (iV 133 (iV 134 (iV 135 (iV 136 (kD 1::aGU 139 2 (aCQ 3 4 []))))))))::aFP 138 140 (aFP 142 144 []))))):=by kernel_rfl
theorem zQq:AnsG prog 68 0 [] [] ⟨aO (Cl.ref 0 10),[bC [Cl.lit (Value.nilFunc),Cl.lit (Value.nilFunc),cD (DV.fn 131),cD (DV.fn 132),cD (DV.fn 133),cD (DV.fn 132),cD (DV.fn 134),cD (DV.fn 132),cD (DV.fn 135),cD (DV.fn 132),cD (DV.fn 136),Cl.clo 203 [Cap.ptr 1 0],cD (DV.fn 139),Cl.clo 203 [Cap.ptr 2 0],cD (DV.fn 141),Cl.clo 203 [Cap.ptr 3 0],cD (DV.fn 143),Cl.clo 203 [Cap.ptr 4 0],cD (DV.fn 145),cD (DV.fn 146)],bC [cD (DV.fn 138)],bC [cD (DV.fn 140)],bC [cD (DV.fn 142)],bC [cD (DV.fn 144)]],false⟩:=
 zQe (Γ:=yXg) (zVI ) zQb Tryz.func68 rfl (nL rfl) rfl λhwf hbx=>by
  refine Eq.mpr (jZE ) ?_;delta eS aG bE bY cP lN nQ eU dO qV mM iV iY aFP kD aGU aCQ zV oR pW vH;simp only[sS];exact⟨jYY,jYX,jYW,jYV,trivial⟩
structure zHF(v:Vw):Prop where
  at_:∀j,j<v.s.ops.length->(opV v j).kind≠3->VwIn v j
  one:∀j,j<v.s.ops.length->(opV v j).kind=2->kidV v j=1->VwIn v (j+1)/\j+2<=endV v j
  ims:v.s.ims.length<=1000000
  len:v.s.ops.length<=1000000
theorem VwOk.all{v:Vw}{f:Fo}(V:VwOk v f)(h1:v.s.ims.length<=1000000)(h2:v.s.ops.length<=1000000):zHF v:=
 ⟨λj hj hk=>V.in_ hj hk,λj hj hk hw=>⟨V.in_ (V.one hj hk hw).1 (V.one hj hk hw).2.1,(V.one hj hk hw).2.2⟩,h1,h2⟩
def jQ0:Gam:=yXg.add [.q 68 ([],0,5) (λv b=>let c:=DV.fn 132;some ⟨AV.one (Cl.ref 0 10),[bC [Cl.lit Value.nilFunc,Cl.lit Value.nilFunc,Cl.d (DV.fn 131),Cl.d c,Cl.d (DV.fn 133),Cl.d c,Cl.d (DV.fn 134),Cl.d c,Cl.d (DV.fn 135),Cl.d c,Cl.d (DV.fn 136),Cl.clo 203 [Cap.ptr 1 0],Cl.d (DV.fn 139),Cl.clo 203 [Cap.ptr 2 0],Cl.d (DV.fn 141),Cl.clo 203 [Cap.ptr 3 0],Cl.d (DV.fn 143),Cl.clo 203 [Cap.ptr 4 0],Cl.d (DV.fn 145),Cl.d (DV.fn 146)],bC [Cl.d (DV.fn 138)],bC [Cl.d (DV.fn 140)],bC [Cl.d (DV.fn 142)],bC [Cl.d (DV.fn 144)]],false⟩),
 .q 131 ([false,true],1,1000) (λv b=>some ⟨AV.one (Cl.d (dQ (invV (vr (uv (ur b 0))) (nAt (um v) 1).toNat))),b,false⟩),
 .q 133 ([false,true],1,1000) (λv b=>some ⟨AV.one (Cl.d (dQ (dstV (vr (uv (ur b 0))) (nAt (um v) 1).toNat))),b,false⟩),
 .q 134 ([false,true],1,1000) (λv b=>some ⟨AV.one (Cl.d (dQ (jYu (vr (uv (ur b 0))) (nAt (um v) 1).toNat))),b,false⟩),
 .q 135 ([false,true],1,1000) (λv b=>some ⟨AV.one (Cl.d (dQ (jYQ (vr (uv (ur b 0))) (nAt (um v) 1).toNat))),b,false⟩),
 .q 136 ([false,true],1,1000) (λv b=>let c:=vr (uv (ur b 0));some ⟨AV.one (Cl.d (dQ (zV3 c (opV c (nAt (um v) 1).toNat)))),b,false⟩),
 .q 139 ([false,true],1,1000) (λv b=>some ⟨AV.one (Cl.d (dQ (isoV (vr (uv (ur b 0))) (nAt (um v) 1).toNat))),b,false⟩),
 .q 141 ([false,true],1,1000) (λv b=>some ⟨AV.one (Cl.d (dQ (jJ6 (vr (uv (ur b 0))) (nAt (um v) 1).toNat))),b,false⟩),
 .q 143 ([false,true],1,1000) (λv b=>some ⟨AV.one (Cl.d (dQ (jJA (vr (uv (ur b 0))) (nAt (um v) 1).toNat))),b,false⟩),
 .q 145 ([false,true],1,1000) (λv b=>some ⟨AV.one (Cl.d (dQ (unwV (vr (uv (ur b 0))) (nAt (um v) 1).toNat))),b,false⟩)]
def rM(a:Int)(b:Scr)(c:Vw)(d e:Int):Bool:=Bool.and (decide (0<=a/\a<(dG b:Int))) (Bool.and (decide ((oQ c a).kind≠3)) (Bool.and (decide (1<=d)) (zXR c e (Int.toNat a))))
def aJC(a:wc):Prop:=iY 68 0 [] [] (AV.one (Cl.ref 0 10)) (Bx.cells a::aFP 138 140 (aFP 142 144 []))
def nG:List Cl:=zV (mM 131 (iV 133 (iV 134 (iV 135 (iV 136 (kD 1::mM 139 (kD 2::aCQ 3 4 [])))))))
def xV(a:Bool)(b:Int)(c:Vw)(d e:Int)(f:List DV):Prop:=jU a (Bool.and (decide (0<=b/\b<(dG c.s:Int))) (Bool.and (decide ((oQ c b).kind≠3)) (Bool.and (decide (1<=d)) (zXR c e (Int.toNat b))))) c f
def sU(a b:Int)(c:Vw):Prop:=aN (bG (decide (a>=1))) (bW (xV false b c a a (gP c)) (oS (rM b c.s c a a) c []))
def sT(a:Int)(b:Vw)(c:Prop)(d:Int):Prop:=fU (eJ a 0) (True/\True/\True/\True/\True/\True/\True/\(decide (a<(dG b.s:Int))=true->True/\qO (nM a b) (aBN (fZ b) (bF a) 0) c)/\iL (decide (a<(dG b.s:Int))=(!true)) (xV false a b d d (gP b)) (dO (bE (DV.bool (rM a b.s b d d))) (tO b))) (aN (bG (decide (a>=0))) (aEJ (xV false a b d d (gP b)) (rM a b.s b d d) b []))
def uT(a:wc)(b:Int)(c:Prop)(d:Int)(e:Vw)(f:Prop):Prop:=True/\kH (aJC a) (rX b 1 (True/\10<=maxLen/\oZ (decide (b<((10:Nat):Int))=true) c (decide (b<((10:Nat):Int))=(!true)) (bW (xV false d e b b (gP e)) (oS (rM d e.s e b b) e []))) f)
abbrev wZH:=@Tryz.func69
theorem jJc(v:Vw)(i:Int)(A:zHF v):AnsG prog 69 1 [aPz,aJ ((0)),aJ ((i))] [bC (vC v)] ⟨aO (cD (dQ (decide (0<=i/\i<(v.s.ops.length:Int))&&(decide ((opV v (i).toNat).kind≠3)&&(decide (1<=(0:Int))&&zXR v (0:Int) (i).toNat))))),[bC (vC v)],false⟩:=
 zQe (Γ:=jQ0) aL zQb wZH rfl (nL rfl) rfl λhwf hbx=>by
  refine Eq.mpr (by kernel_rfl:_=(let a:=nAt (fZ v) (bF i+0) !=3;uT nG 0 (sT i v (cS a (True/\kS 10/\True/\True/\True/\True/\False) (bP (bG a) (xV false i v 0 0 (gP v)) (dO (bE (DV.bool (rM i v.s v 0 0))) (tO v)))) 0) i v (sU 0 i v))) ?_;delta eS aB aW iE eJ oZ aF bE aN cU kS aH bY bG bP bW aT kH fU jH dO bF aBN dG cS iL rX qO mM cY iV iY oQ aFP kD aCQ rM aJC zV nG jU aAD xV fZ nM yU oS aEJ tO gP sU sT uT;simp only[sS];clear hwf hbx;simp only[vwE,zQv,zQn,frOK,and_true,wQg];exact⟨zQq,λh=>absurd h (by decide),λ_=>by rw[show decide ((1:Int)<=0)=false from rfl];simp⟩
def uU(a:Vw)(b c:Int)(d:FuncId)(e:Bool):Prop:=cS (nAt (fZ a) (bF b+0) !=3) (True/\cU c c 10/\fT (aJD d (qX b) a e) (xV e b a c c (gP a)) (oS (rM b a.s a c c) a [])) (bP (bG (nAt (fZ a) (bF b+0) !=3)) (xV false b a c c (gP a)) (dO (bE (DV.bool (rM b a.s a c c))) (tO a)))
theorem jJb(v:Vw)(i:Int)(A:zHF v):AnsG prog 69 1 [aPz,aJ ((1)),aJ ((i))] [bC (vC v)] ⟨aO (cD (dQ (decide (0<=i/\i<(v.s.ops.length:Int))&&(decide ((opV v (i).toNat).kind≠3)&&(decide (1<=(1:Int))&&zXR v (1:Int) (i).toNat))))),[bC (vC v)],false⟩:=
 zQe (Γ:=jQ0) aL zQb wZH rfl (nL rfl) rfl λhwf hbx=>by
  refine Eq.mpr (by kernel_rfl:_=(uT nG 1 (sT i v (uU v i 1 131 (invV (iX v) (Int.toNat i))) 1) i v (sU 1 i v))) ?_;delta eS aB aW iE eJ oZ aF bE aN cU aH bY bG bP bW aT kH fT fU jH dO bF aBN dG cS iL rX qO mM cY iV pT iY oQ mO aFP kD nU aCQ rM aJC qX zV nG jU aAD xV fZ nM yU oS aEJ tO gP sU sT uT iX aJD uU;simp only[sS];clear hwf hbx;simp only[vwE,zQv,zQn,frOK,and_true,wQg];simp only[Nat.add_zero];refine⟨zQq,λ_=>⟨by unfold maxLen;omega,λ_=>⟨λhi=>⟨λhlt=>?_,λhge=>by rw[wQo (λh=>hge h.2)];rfl⟩,λhi=>by rw[wQo (λh=>hi h.1)];rfl⟩,λh=>absurd (by decide) h⟩,λh=>absurd (by decide) h⟩;have hj:i.toNat<v.s.ops.length:=by omega
  have p1:=(zXF hj).1;have p2:=(zXG hj).1;have eo:v.s.ops[i.toNat]=opV v i.toNat:=by unfold opV;rw[List.getElem?_eq_getElem hj];rfl
  rw[eo]at p1 p2;have ol:=zQc v.s.ops;simp only[p1,p2,true_and];rw[decide_eq_true (⟨hi,hlt⟩:0<=i/\i<(v.s.ops.length:Int))];refine⟨by omega,λhk=>?_,λhk=>?_⟩
  .have hk:(opV v i.toNat).kind≠3:=by simpa using hk
   have J:=A.at_ _ hj hk;rw[decide_eq_true hk];exact⟨⟨by decide,by decide⟩,zKr v i hi J A.ims,rfl⟩
  .have hk:(opV v i.toNat).kind=3:=by simpa using hk
   rw[wQo (λh=>h hk)];rfl
def aKS(a b c d:Nat)(e:wc):wc:=kD a::mM 139 (kD b::aCQ c d e)
theorem jJa(v:Vw)(i:Int)(A:zHF v):AnsG prog 69 1 [aPz,aJ ((2)),aJ ((i))] [bC (vC v)] ⟨aO (cD (dQ (decide (0<=i/\i<(v.s.ops.length:Int))&&(decide ((opV v (i).toNat).kind≠3)&&(decide (1<=(2:Int))&&zXR v (2:Int) (i).toNat))))),[bC (vC v)],false⟩:=
 zQe (Γ:=jQ0) aL zQb wZH rfl (nL rfl) rfl λhwf hbx=>by
  refine Eq.mpr (by kernel_rfl:_=(uT (zV (cD (DV.fn 131)::cD (DV.fn 132)::mM 133 (iV 134 (iV 135 (iV 136 (aKS 1 2 3 4 [])))))) 2 (sT i v (uU v i 2 133 (dstV (iX v) (Int.toNat i))) 2) i v (sU 2 i v))) ?_;delta eS aB aW iE eJ oZ aF bE aN cU aH bY bG bP bW aT kH fT fU jH dO bF aBN dG cS iL rX qO mM cY iV pT iY oQ mO aFP kD nU aCQ rM aJC qX zV jU aAD xV fZ nM yU oS aEJ tO gP sU sT uT iX aJD uU aKS;simp only[sS];clear hwf hbx;simp only[vwE,zQv,zQn,frOK,and_true,wQg];simp only[Nat.add_zero];refine⟨zQq,λ_=>⟨by unfold maxLen;omega,λ_=>⟨λhi=>⟨λhlt=>?_,λhge=>by rw[wQo (λh=>hge h.2)];rfl⟩,λhi=>by rw[wQo (λh=>hi h.1)];rfl⟩,λh=>absurd (by decide) h⟩,λh=>absurd (by decide) h⟩;have hj:i.toNat<v.s.ops.length:=by omega
  have p1:=(zXF hj).1;have p2:=(zXG hj).1;have eo:v.s.ops[i.toNat]=opV v i.toNat:=by unfold opV;rw[List.getElem?_eq_getElem hj];rfl
  rw[eo]at p1 p2;have ol:=zQc v.s.ops;simp only[p1,p2,true_and];rw[decide_eq_true (⟨hi,hlt⟩:0<=i/\i<(v.s.ops.length:Int))];refine⟨by omega,λhk=>?_,λhk=>?_⟩
  .have hk:(opV v i.toNat).kind≠3:=by simpa using hk
   have J:=A.at_ _ hj hk;rw[decide_eq_true hk];exact⟨⟨by decide,by decide⟩,zUv v i hi J,rfl⟩
  .have hk:(opV v i.toNat).kind=3:=by simpa using hk
   rw[wQo (λh=>h hk)];rfl
theorem jY9(v:Vw)(i:Int)(A:zHF v):AnsG prog 69 1 [aPz,aJ ((3)),aJ ((i))] [bC (vC v)] ⟨aO (cD (dQ (decide (0<=i/\i<(v.s.ops.length:Int))&&(decide ((opV v (i).toNat).kind≠3)&&(decide (1<=(3:Int))&&zXR v (3:Int) (i).toNat))))),[bC (vC v)],false⟩:=
 zQe (Γ:=jQ0) aL zQb wZH rfl (nL rfl) rfl λhwf hbx=>by
  refine Eq.mpr (by kernel_rfl:_=(uT nG 3 (sT i v (uU v i 3 134 (jYu (iX v) (Int.toNat i))) 3) i v (sU 3 i v))) ?_;delta eS aB aW iE eJ oZ aF bE aN cU aH bY bG bP bW aT kH fT fU jH dO bF aBN dG cS iL rX qO mM cY iV pT iY oQ mO aFP kD nU aCQ rM aJC qX zV nG jU aAD xV fZ nM yU oS aEJ tO gP sU sT uT iX aJD uU;simp only[sS];clear hwf hbx;simp only[vwE,zQv,zQn,frOK,and_true,wQg];simp only[Nat.add_zero];refine⟨zQq,λ_=>⟨by unfold maxLen;omega,λ_=>⟨λhi=>⟨λhlt=>?_,λhge=>by rw[wQo (λh=>hge h.2)];rfl⟩,λhi=>by rw[wQo (λh=>hi h.1)];rfl⟩,λh=>absurd (by decide) h⟩,λh=>absurd (by decide) h⟩;have hj:i.toNat<v.s.ops.length:=by omega
  have p1:=(zXF hj).1;have p2:=(zXG hj).1;have eo:v.s.ops[i.toNat]=opV v i.toNat:=by unfold opV;rw[List.getElem?_eq_getElem hj];rfl
  rw[eo]at p1 p2;have ol:=zQc v.s.ops;simp only[p1,p2,true_and];rw[decide_eq_true (⟨hi,hlt⟩:0<=i/\i<(v.s.ops.length:Int))];refine⟨by omega,λhk=>?_,λhk=>?_⟩
  .have hk:(opV v i.toNat).kind≠3:=by simpa using hk
   have J:=A.at_ _ hj hk;rw[decide_eq_true hk];exact⟨⟨by decide,by decide⟩,zVp v i hi J,rfl⟩
  .have hk:(opV v i.toNat).kind=3:=by simpa using hk
   rw[wQo (λh=>h hk)];rfl
theorem jY8(v:Vw)(i:Int)(A:zHF v):AnsG prog 69 1 [aPz,aJ ((4)),aJ ((i))] [bC (vC v)] ⟨aO (cD (dQ (decide (0<=i/\i<(v.s.ops.length:Int))&&(decide ((opV v (i).toNat).kind≠3)&&(decide (1<=(4:Int))&&zXR v (4:Int) (i).toNat))))),[bC (vC v)],false⟩:=
 zQe (Γ:=jQ0) aL zQb wZH rfl (nL rfl) rfl λhwf hbx=>by
  refine Eq.mpr (by kernel_rfl:_=(uT nG 4 (sT i v (uU v i 4 135 (jYQ (iX v) (Int.toNat i))) 4) i v (sU 4 i v))) ?_;delta eS aB aW iE eJ oZ aF bE aN cU aH bY bG bP bW aT kH fT fU jH dO bF aBN dG cS iL rX qO mM cY iV pT iY oQ mO aFP kD nU aCQ rM aJC qX zV nG jU aAD xV fZ nM yU oS aEJ tO gP sU sT uT iX aJD uU;simp only[sS];clear hwf hbx;simp only[vwE,zQv,zQn,frOK,and_true,wQg];simp only[Nat.add_zero];refine⟨zQq,λ_=>⟨by unfold maxLen;omega,λ_=>⟨λhi=>⟨λhlt=>?_,λhge=>by rw[wQo (λh=>hge h.2)];rfl⟩,λhi=>by rw[wQo (λh=>hi h.1)];rfl⟩,λh=>absurd (by decide) h⟩,λh=>absurd (by decide) h⟩;have hj:i.toNat<v.s.ops.length:=by omega
  have p1:=(zXF hj).1;have p2:=(zXG hj).1;have eo:v.s.ops[i.toNat]=opV v i.toNat:=by unfold opV;rw[List.getElem?_eq_getElem hj];rfl
  rw[eo]at p1 p2;have ol:=zQc v.s.ops;simp only[p1,p2,true_and];rw[decide_eq_true (⟨hi,hlt⟩:0<=i/\i<(v.s.ops.length:Int))];refine⟨by omega,λhk=>?_,λhk=>?_⟩
  .have hk:(opV v i.toNat).kind≠3:=by simpa using hk
   have J:=A.at_ _ hj hk;rw[decide_eq_true hk];exact⟨⟨by decide,by decide⟩,zVr v i hi J A.at_ A.len,rfl⟩
  .have hk:(opV v i.toNat).kind=3:=by simpa using hk
   rw[wQo (λh=>h hk)];rfl
theorem jY7(v:Vw)(i:Int)(A:zHF v):AnsG prog 69 1 [aPz,aJ ((5)),aJ ((i))] [bC (vC v)] ⟨aO (cD (dQ (decide (0<=i/\i<(v.s.ops.length:Int))&&(decide ((opV v (i).toNat).kind≠3)&&(decide (1<=(5:Int))&&zXR v (5:Int) (i).toNat))))),[bC (vC v)],false⟩:=
 zQe (Γ:=jQ0) aL zQb wZH rfl (nL rfl) rfl λhwf hbx=>by
  refine Eq.mpr (by kernel_rfl:_=(uT (zV (mM 131 (iV 133 (mM 132 (cD (DV.fn 134)::cD (DV.fn 132)::cD (DV.fn 135)::cD (DV.fn 132)::mM 136 (kD 1::aGU 139 2 (aCQ 3 4 []))))))) 5 (sT i v (uU v i 5 136 (zV3 (iX v) (oQ (iX v) i))) 5) i v (sU 5 i v))) ?_;delta eS aB aW iE eJ oZ aF bE aN cU aH bY bG bP bW aT kH fT fU jH dO bF aBN dG cS iL rX qO mM cY iV pT iY oQ mO aFP kD nU aGU aCQ rM aJC qX zV jU aAD xV fZ nM yU oS aEJ tO gP sU sT uT iX aJD uU;simp only[sS];clear hwf hbx;simp only[vwE,zQv,zQn,frOK,and_true,wQg];simp only[Nat.add_zero];refine⟨zQq,λ_=>⟨by unfold maxLen;omega,λ_=>⟨λhi=>⟨λhlt=>?_,λhge=>by rw[wQo (λh=>hge h.2)];rfl⟩,λhi=>by rw[wQo (λh=>hi h.1)];rfl⟩,λh=>absurd (by decide) h⟩,λh=>absurd (by decide) h⟩;have hj:i.toNat<v.s.ops.length:=by omega
  have p1:=(zXF hj).1;have p2:=(zXG hj).1;have eo:v.s.ops[i.toNat]=opV v i.toNat:=by unfold opV;rw[List.getElem?_eq_getElem hj];rfl
  rw[eo]at p1 p2;have ol:=zQc v.s.ops;simp only[p1,p2,true_and];rw[decide_eq_true (⟨hi,hlt⟩:0<=i/\i<(v.s.ops.length:Int))];refine⟨by omega,λhk=>?_,λhk=>?_⟩
  .have hk:(opV v i.toNat).kind≠3:=by simpa using hk
   have J:=A.at_ _ hj hk;rw[decide_eq_true hk];exact⟨⟨by decide,by decide⟩,zWZ v i hi J A.ims,rfl⟩
  .have hk:(opV v i.toNat).kind=3:=by simpa using hk
   rw[wQo (λh=>h hk)];rfl
theorem jY6(v:Vw)(i:Int)(A:zHF v):AnsG prog 69 1 [aPz,aJ ((6)),aJ ((i))] [bC (vC v)] ⟨aO (cD (dQ (decide (0<=i/\i<(v.s.ops.length:Int))&&(decide ((opV v (i).toNat).kind≠3)&&(decide (1<=(6:Int))&&zXR v (6:Int) (i).toNat))))),[bC (vC v)],false⟩:=
 zQe (Γ:=jQ0) aL zQb wZH rfl (nL rfl) rfl λhwf hbx=>by
  refine Eq.mpr (by kernel_rfl:_=(let a:=cD (DV.fn 132);uT (zV (cD (DV.fn 131)::a::cD (DV.fn 133)::a::cD (DV.fn 134)::a::mM 135 (iV 136 (kD 1::aGU 139 2 (aCQ 3 4 []))))) 6 (sT i v (uU v i 6 139 (isoV (iX v) (Int.toNat i))) 6) i v (sU 6 i v))) ?_;delta eS aB aW iE eJ oZ aF bE aN cU aH bY bG bP bW aT kH fT fU jH dO bF aBN dG cS iL rX qO mM cY iV pT iY oQ mO aFP kD nU aGU aCQ rM aJC qX zV jU aAD xV fZ nM yU oS aEJ tO gP sU sT uT iX aJD uU;simp only[sS];clear hwf hbx;simp only[vwE,zQv,zQn,frOK,and_true,wQg];simp only[Nat.add_zero];refine⟨zQq,λ_=>⟨by unfold maxLen;omega,λ_=>⟨λhi=>⟨λhlt=>?_,λhge=>by rw[wQo (λh=>hge h.2)];rfl⟩,λhi=>by rw[wQo (λh=>hi h.1)];rfl⟩,λh=>absurd (by decide) h⟩,λh=>absurd (by decide) h⟩;have hj:i.toNat<v.s.ops.length:=by omega
  have p1:=(zXF hj).1;have p2:=(zXG hj).1;have eo:v.s.ops[i.toNat]=opV v i.toNat:=by unfold opV;rw[List.getElem?_eq_getElem hj];rfl
  rw[eo]at p1 p2;have ol:=zQc v.s.ops;simp only[p1,p2,true_and];rw[decide_eq_true (⟨hi,hlt⟩:0<=i/\i<(v.s.ops.length:Int))];refine⟨by omega,λhk=>?_,λhk=>?_⟩
  .have hk:(opV v i.toNat).kind≠3:=by simpa using hk
   have J:=A.at_ _ hj hk;rw[decide_eq_true hk];exact⟨⟨by decide,by decide⟩,zVq v i hi J,rfl⟩
  .have hk:(opV v i.toNat).kind=3:=by simpa using hk
   rw[wQo (λh=>h hk)];rfl
theorem jY5(v:Vw)(i:Int)(A:zHF v):AnsG prog 69 1 [aPz,aJ ((7)),aJ ((i))] [bC (vC v)] ⟨aO (cD (dQ (decide (0<=i/\i<(v.s.ops.length:Int))&&(decide ((opV v (i).toNat).kind≠3)&&(decide (1<=(7:Int))&&zXR v (7:Int) (i).toNat))))),[bC (vC v)],false⟩:=
 zQe (Γ:=jQ0) aL zQb wZH rfl (nL rfl) rfl λhwf hbx=>by
  refine Eq.mpr (by kernel_rfl:_=(uT nG 7 (sT i v (uU v i 7 141 (jJ6 (iX v) (Int.toNat i))) 7) i v (sU 7 i v))) ?_;delta eS aB aW iE eJ oZ aF bE aN cU aH bY bG bP bW aT kH fT fU jH dO bF aBN dG cS iL rX qO mM cY iV pT iY oQ mO aFP kD nU aCQ rM aJC qX zV nG jU aAD xV fZ nM yU oS aEJ tO gP sU sT uT iX aJD uU;simp only[sS];clear hwf hbx;simp only[vwE,zQv,zQn,frOK,and_true,wQg];simp only[Nat.add_zero];refine⟨zQq,λ_=>⟨by unfold maxLen;omega,λ_=>⟨λhi=>⟨λhlt=>?_,λhge=>by rw[wQo (λh=>hge h.2)];rfl⟩,λhi=>by rw[wQo (λh=>hi h.1)];rfl⟩,λh=>absurd (by decide) h⟩,λh=>absurd (by decide) h⟩;have hj:i.toNat<v.s.ops.length:=by omega
  have p1:=(zXF hj).1;have p2:=(zXG hj).1;have eo:v.s.ops[i.toNat]=opV v i.toNat:=by unfold opV;rw[List.getElem?_eq_getElem hj];rfl
  rw[eo]at p1 p2;have ol:=zQc v.s.ops;simp only[p1,p2,true_and];rw[decide_eq_true (⟨hi,hlt⟩:0<=i/\i<(v.s.ops.length:Int))];refine⟨by omega,λhk=>?_,λhk=>?_⟩
  .have hk:(opV v i.toNat).kind≠3:=by simpa using hk
   have J:=A.at_ _ hj hk;rw[decide_eq_true hk];exact⟨⟨by decide,by decide⟩,zVG v i hi J,rfl⟩
  .have hk:(opV v i.toNat).kind=3:=by simpa using hk
   rw[wQo (λh=>h hk)];rfl
def aKR(a:Nat):Bx:=bY (DV.fn a) []
theorem jY4(v:Vw)(i:Int)(A:zHF v):AnsG prog 69 1 [aPz,aJ ((8)),aJ ((i))] [bC (vC v)] ⟨aO (cD (dQ (decide (0<=i/\i<(v.s.ops.length:Int))&&(decide ((opV v (i).toNat).kind≠3)&&(decide (1<=(8:Int))&&zXR v (8:Int) (i).toNat))))),[bC (vC v)],false⟩:=
 zQe (Γ:=jQ0) aL zQb wZH rfl (nL rfl) rfl λhwf hbx=>by
  refine Eq.mpr (by kernel_rfl:_=(let a:=decide (8<((10:Nat):Int));True/\kH (iY 68 0 [] [] (aO (Cl.ref 0 10)) (Bx.cells nG::aKR 138::aFP 140 142 (oR 144))) (rX 8 1 (True/\10<=maxLen/\oZ (a=true) (sT i v (uU v i 8 143 (jJA (iX v) (Int.toNat i))) 8) (a=(!true)) (bW (xV false i v 8 8 (gP v)) (oS (rM i v.s v 8 8) v []))) (sU 8 i v)))) ?_;delta eS aB aW iE eJ oZ aF bE aN cU aH bY bG bP bW aT kH fT fU jH dO bF aBN dG cS iL rX qO mM cY iV pT iY oQ mO aFP kD nU aCQ rM qX zV nG oR jU aAD xV fZ nM yU oS aEJ tO gP sU sT iX aJD uU aKR;simp only[sS];clear hwf hbx;simp only[vwE,zQv,zQn,frOK,and_true,wQg];simp only[Nat.add_zero];refine⟨zQq,λ_=>⟨by unfold maxLen;omega,λ_=>⟨λhi=>⟨λhlt=>?_,λhge=>by rw[wQo (λh=>hge h.2)];rfl⟩,λhi=>by rw[wQo (λh=>hi h.1)];rfl⟩,λh=>absurd (by decide) h⟩,λh=>absurd (by decide) h⟩;have hj:i.toNat<v.s.ops.length:=by omega
  have p1:=(zXF hj).1;have p2:=(zXG hj).1;have eo:v.s.ops[i.toNat]=opV v i.toNat:=by unfold opV;rw[List.getElem?_eq_getElem hj];rfl
  rw[eo]at p1 p2;have ol:=zQc v.s.ops;simp only[p1,p2,true_and];rw[decide_eq_true (⟨hi,hlt⟩:0<=i/\i<(v.s.ops.length:Int))];refine⟨by omega,λhk=>?_,λhk=>?_⟩
  .have hk:(opV v i.toNat).kind≠3:=by simpa using hk
   have J:=A.at_ _ hj hk;rw[decide_eq_true hk];exact⟨⟨by decide,by decide⟩,zVF v i hi J,rfl⟩
  .have hk:(opV v i.toNat).kind=3:=by simpa using hk
   rw[wQo (λh=>h hk)];rfl
theorem jY3(v:Vw)(i:Int)(A:zHF v):AnsG prog 69 1 [aPz,aJ ((9)),aJ ((i))] [bC (vC v)] ⟨aO (cD (dQ (decide (0<=i/\i<(v.s.ops.length:Int))&&(decide ((opV v (i).toNat).kind≠3)&&(decide (1<=(9:Int))&&zXR v (9:Int) (i).toNat))))),[bC (vC v)],false⟩:=
 zQe (Γ:=jQ0) aL zQb wZH rfl (nL rfl) rfl λhwf hbx=>by
  refine Eq.mpr (by kernel_rfl:_=(uT nG 9 (sT i v (uU v i 9 145 (unwV (iX v) (Int.toNat i))) 9) i v (sU 9 i v))) ?_;delta eS aB aW iE eJ oZ aF bE aN cU aH bY bG bP bW aT kH fT fU jH dO bF aBN dG cS iL rX qO mM cY iV pT iY oQ mO aFP kD nU aCQ rM aJC qX zV nG jU aAD xV fZ nM yU oS aEJ tO gP sU sT uT iX aJD uU;simp only[sS];clear hwf hbx;simp only[vwE,zQv,zQn,frOK,and_true,wQg];simp only[Nat.add_zero];refine⟨zQq,λ_=>⟨by unfold maxLen;omega,λ_=>⟨λhi=>⟨λhlt=>?_,λhge=>by rw[wQo (λh=>hge h.2)];rfl⟩,λhi=>by rw[wQo (λh=>hi h.1)];rfl⟩,λh=>absurd (by decide) h⟩,λh=>absurd (by decide) h⟩;have hj:i.toNat<v.s.ops.length:=by omega
  have p1:=(zXF hj).1;have p2:=(zXG hj).1;have eo:v.s.ops[i.toNat]=opV v i.toNat:=by unfold opV;rw[List.getElem?_eq_getElem hj];rfl
  rw[eo]at p1 p2;have ol:=zQc v.s.ops;simp only[p1,p2,true_and];rw[decide_eq_true (⟨hi,hlt⟩:0<=i/\i<(v.s.ops.length:Int))];refine⟨by omega,λhk=>?_,λhk=>?_⟩
  .have hk:(opV v i.toNat).kind≠3:=by simpa using hk
   have J:=A.at_ _ hj hk;rw[decide_eq_true hk];exact⟨⟨by decide,by decide⟩,zVE v i hi J A.len (λh2 h1=>(A.one _ hj h2 h1).1),rfl⟩
  .have hk:(opV v i.toNat).kind=3:=by simpa using hk
   rw[wQo (λh=>h hk)];rfl
theorem zQx(v:Vw)(n i:Int)(A:zHF v)(hn:0<=n/\n<10):AnsG prog 69 1 [aPz,aJ ((n)),aJ ((i))] [bC (vC v)] ⟨AV.one (Cl.d (dQ (decide (0<=i/\i<(v.s.ops.length:Int))&&(decide ((opV v (i).toNat).kind≠3)&&(decide (1<=n)&&zXR v n (i).toNat))))),[bC (vC v)],false⟩:=by
 obtain⟨k,rfl⟩:∃k:Nat,n=(k:Int):=⟨n.toNat,by omega⟩
 match k,hn with
 |0,_=>exact jJc v i A
 |1,_=>exact jJb v i A
 |2,_=>exact jJa v i A
 |3,_=>exact jY9 v i A
 |4,_=>exact jY8 v i A
 |5,_=>exact jY7 v i A
 |6,_=>exact jY6 v i A
 |7,_=>exact jY5 v i A
 |8,_=>exact jY4 v i A
 |9,_=>exact jY3 v i A
 |k+10,h=>exact absurd h.2 (by omega)
theorem vwS(s:Scr):(⟨s,(zQd s).max,ints (is (zQd s).ends),ints (is (zQd s).grps),ints (is (zQd s).kids),toBz (bsD (zQd s).fsts)⟩:Vw)=zQd s:=vwE (zQd s)
def jZN:Gam:=jQ0.add [.q 67 ([true],0,1) (λv b=>let c:=uq v 0;let e:=zQd (vm c);some ⟨AV.tup [aPz,AV.one (Cl.d (dQ true))],[bC [cJ (nAt c 0),cJ (nAt c 1),cJ (nAt c 2),cJ (nAt c 3),cJ (nAt c 4),cJ (nAt c 5),cJ (nAt c 6),Cl.d (dS (lAt c 7) (cAt c 7)),Cl.d (dS (lAt c 8) (cAt c 8)),Cl.d (dS (lAt c 9) (cAt c 9)),cK e.max,Cl.d (dS e.ends.length (is e.ends)),Cl.d (dS e.grps.length (is e.grps)),Cl.d (dS e.kids.length (is e.kids)),Cl.d (dS e.fsts.length (bsD e.fsts))]],false⟩),
 .q 69 ([false,true,true],1,1000) (λv b=>let c:=nAt (um v) 2;let e:=uv (ur b 0);let f:=nAt (um v) 1;some ⟨AV.one (Cl.d (dQ (decide (0<=c/\c<((lAt e 9):Int))&&(decide ((opV (vr e) c.toNat).kind≠3)&&(decide (1<=f)&&zXR (vr e) f c.toNat))))),b,false⟩),
 .q 132 ([false,true],1,1) (λv b=>let c:=remV (vr (uv (ur b 0))) (nAt (um v) 1).toNat;some ⟨AV.one (Cl.ref 1 c.length),[bC (ur b 0),Bx.row 61 12 (ops c)],false⟩),
 .q 146 ([false,true],1,1) (λv b=>let c:=unwL (vr (uv (ur b 0))) (nAt (um v) 1).toNat;some ⟨AV.one (Cl.ref 1 c.length),[bC (ur b 0),Bx.row 61 12 (ops c)],false⟩),
 .q 203 ([false,true,false],2,1) (λ| [AV.one (Cl.ptr 0 0),AV.one (Cl.d (DV.int _ i)),AV.one (Cl.ptr 1 0)],[Bx.cells [Cl.d (DV.int _ bits),Cl.d (DV.int _ cx0),Cl.d (DV.int _ cy0),Cl.d (DV.int _ cx1),Cl.d (DV.int _ cy1),Cl.d (DV.int _ tw),Cl.d (DV.int _ th),Cl.d (DV.sl on oxs),Cl.d (DV.sl mn mxs),Cl.d (DV.sl pn pxs),Cl.d (DV.int _ vmax),Cl.d (DV.sl en exs),Cl.d (DV.sl gn gxs),Cl.d (DV.sl kn kxs),Cl.d (DV.sl fnn fxs)],Bx.cells [Cl.d (DV.fn 138)]]=>some ⟨AV.one (Cl.ref 2 ((⟨⟨bits,⟨cx0,cy0,cx1,cy1⟩,tw,th,ints oxs,zQr mxs,zQi pxs⟩,vmax,ints exs,ints gxs,ints kxs,toBz fxs⟩:Vw).s.ops.set i.toNat (zVt (opV (⟨⟨bits,⟨cx0,cy0,cx1,cy1⟩,tw,th,ints oxs,zQr mxs,zQi pxs⟩,vmax,ints exs,ints gxs,ints kxs,toBz fxs⟩:Vw) i.toNat))).length),[bC [cJ bits,cJ cx0,cJ cy0,cJ cx1,cJ cy1,cJ tw,cJ th,Cl.d (dS on oxs),Cl.d (dS mn mxs),Cl.d (dS pn pxs),cK vmax,Cl.d (dS en exs),Cl.d (dS gn gxs),Cl.d (dS kn kxs),Cl.d (dS fnn fxs)],bC [Cl.d (DV.fn 138)],Bx.row 61 12 (ops ((⟨⟨bits,⟨cx0,cy0,cx1,cy1⟩,tw,th,ints oxs,zQr mxs,zQi pxs⟩,vmax,ints exs,ints gxs,ints kxs,toBz fxs⟩:Vw).s.ops.set i.toNat (zVt (opV (⟨⟨bits,⟨cx0,cy0,cx1,cy1⟩,tw,th,ints oxs,zQr mxs,zQi pxs⟩,vmax,ints exs,ints gxs,ints kxs,toBz fxs⟩:Vw) i.toNat))))],false⟩|[AV.one (Cl.ptr 0 0),AV.one (Cl.d (DV.int _ i)),AV.one (Cl.ptr 1 0)],[Bx.cells [Cl.d (DV.int _ bits),Cl.d (DV.int _ cx0),Cl.d (DV.int _ cy0),Cl.d (DV.int _ cx1),Cl.d (DV.int _ cy1),Cl.d (DV.int _ tw),Cl.d (DV.int _ th),Cl.d (DV.sl on oxs),Cl.d (DV.sl mn mxs),Cl.d (DV.sl pn pxs),Cl.d (DV.int _ vmax),Cl.d (DV.sl en exs),Cl.d (DV.sl gn gxs),Cl.d (DV.sl kn kxs),Cl.d (DV.sl fnn fxs)],Bx.cells [Cl.d (DV.fn 140)]]=>some ⟨AV.one (Cl.ref 2 ((⟨⟨bits,⟨cx0,cy0,cx1,cy1⟩,tw,th,ints oxs,zQr mxs,zQi pxs⟩,vmax,ints exs,ints gxs,ints kxs,toBz fxs⟩:Vw).s.ops.set i.toNat (isoO (opV (⟨⟨bits,⟨cx0,cy0,cx1,cy1⟩,tw,th,ints oxs,zQr mxs,zQi pxs⟩,vmax,ints exs,ints gxs,ints kxs,toBz fxs⟩:Vw) i.toNat))).length),[bC [cJ bits,cJ cx0,cJ cy0,cJ cx1,cJ cy1,cJ tw,cJ th,Cl.d (dS on oxs),Cl.d (dS mn mxs),Cl.d (dS pn pxs),cK vmax,Cl.d (dS en exs),Cl.d (dS gn gxs),Cl.d (dS kn kxs),Cl.d (dS fnn fxs)],bC [Cl.d (DV.fn 140)],Bx.row 61 12 (ops ((⟨⟨bits,⟨cx0,cy0,cx1,cy1⟩,tw,th,ints oxs,zQr mxs,zQi pxs⟩,vmax,ints exs,ints gxs,ints kxs,toBz fxs⟩:Vw).s.ops.set i.toNat (isoO (opV (⟨⟨bits,⟨cx0,cy0,cx1,cy1⟩,tw,th,ints oxs,zQr mxs,zQi pxs⟩,vmax,ints exs,ints gxs,ints kxs,toBz fxs⟩:Vw) i.toNat))))],false⟩|[AV.one (Cl.ptr 0 0),AV.one (Cl.d (DV.int _ i)),AV.one (Cl.ptr 1 0)],[Bx.cells [Cl.d (DV.int _ bits),Cl.d (DV.int _ cx0),Cl.d (DV.int _ cy0),Cl.d (DV.int _ cx1),Cl.d (DV.int _ cy1),Cl.d (DV.int _ tw),Cl.d (DV.int _ th),Cl.d (DV.sl on oxs),Cl.d (DV.sl mn mxs),Cl.d (DV.sl pn pxs),Cl.d (DV.int _ vmax),Cl.d (DV.sl en exs),Cl.d (DV.sl gn gxs),Cl.d (DV.sl kn kxs),Cl.d (DV.sl fnn fxs)],Bx.cells [Cl.d (DV.fn 142)]]=>some ⟨AV.one (Cl.ref 2 ((⟨⟨bits,⟨cx0,cy0,cx1,cy1⟩,tw,th,ints oxs,zQr mxs,zQi pxs⟩,vmax,ints exs,ints gxs,ints kxs,toBz fxs⟩:Vw).s.ops.set i.toNat (zVQ (opV (⟨⟨bits,⟨cx0,cy0,cx1,cy1⟩,tw,th,ints oxs,zQr mxs,zQi pxs⟩,vmax,ints exs,ints gxs,ints kxs,toBz fxs⟩:Vw) i.toNat))).length),[bC [cJ bits,cJ cx0,cJ cy0,cJ cx1,cJ cy1,cJ tw,cJ th,Cl.d (dS on oxs),Cl.d (dS mn mxs),Cl.d (dS pn pxs),cK vmax,Cl.d (dS en exs),Cl.d (dS gn gxs),Cl.d (dS kn kxs),Cl.d (dS fnn fxs)],bC [Cl.d (DV.fn 142)],Bx.row 61 12 (ops ((⟨⟨bits,⟨cx0,cy0,cx1,cy1⟩,tw,th,ints oxs,zQr mxs,zQi pxs⟩,vmax,ints exs,ints gxs,ints kxs,toBz fxs⟩:Vw).s.ops.set i.toNat (zVQ (opV (⟨⟨bits,⟨cx0,cy0,cx1,cy1⟩,tw,th,ints oxs,zQr mxs,zQi pxs⟩,vmax,ints exs,ints gxs,ints kxs,toBz fxs⟩:Vw) i.toNat))))],false⟩|[AV.one (Cl.ptr 0 0),AV.one (Cl.d (DV.int _ i)),AV.one (Cl.ptr 1 0)],[Bx.cells [Cl.d (DV.int _ bits),Cl.d (DV.int _ cx0),Cl.d (DV.int _ cy0),Cl.d (DV.int _ cx1),Cl.d (DV.int _ cy1),Cl.d (DV.int _ tw),Cl.d (DV.int _ th),Cl.d (DV.sl on oxs),Cl.d (DV.sl mn mxs),Cl.d (DV.sl pn pxs),Cl.d (DV.int _ vmax),Cl.d (DV.sl en exs),Cl.d (DV.sl gn gxs),Cl.d (DV.sl kn kxs),Cl.d (DV.sl fnn fxs)],Bx.cells [Cl.d (DV.fn 144)]]=>some ⟨AV.one (Cl.ref 2 ((⟨⟨bits,⟨cx0,cy0,cx1,cy1⟩,tw,th,ints oxs,zQr mxs,zQi pxs⟩,vmax,ints exs,ints gxs,ints kxs,toBz fxs⟩:Vw).s.ops.set i.toNat (zJp (opV (⟨⟨bits,⟨cx0,cy0,cx1,cy1⟩,tw,th,ints oxs,zQr mxs,zQi pxs⟩,vmax,ints exs,ints gxs,ints kxs,toBz fxs⟩:Vw) i.toNat))).length),[bC [cJ bits,cJ cx0,cJ cy0,cJ cx1,cJ cy1,cJ tw,cJ th,Cl.d (dS on oxs),Cl.d (dS mn mxs),Cl.d (dS pn pxs),cK vmax,Cl.d (dS en exs),Cl.d (dS gn gxs),Cl.d (dS kn kxs),Cl.d (dS fnn fxs)],bC [Cl.d (DV.fn 144)],Bx.row 61 12 (ops ((⟨⟨bits,⟨cx0,cy0,cx1,cy1⟩,tw,th,ints oxs,zQr mxs,zQi pxs⟩,vmax,ints exs,ints gxs,ints kxs,toBz fxs⟩:Vw).s.ops.set i.toNat (zJp (opV (⟨⟨bits,⟨cx0,cy0,cx1,cy1⟩,tw,th,ints oxs,zQr mxs,zQi pxs⟩,vmax,ints exs,ints gxs,ints kxs,toBz fxs⟩:Vw) i.toNat))))],false⟩|_,_=>none)]
def uP:Ann:=gI zP
def qY(a:List Oq):RV:=lS (DV.sl (List.length a) (ops a)) 0
def iN(a:Scr):Vw:=zQd (mO a)
def sR(a:Scr)(b c:Int):RV:=qY (zZY (zQd a) b (Int.toNat c))
def uQ(a b:Int)(c:Nat)(d:FuncId)(e:Nat)(f:List AV)(g:Scr)(h:List Bx)(i:Nat)(j:List Oq)(k:List Bx)(l m:Prop):Prop:=bD (cU a b c) (fT (iY d e f (vX g (iN g) []::h) (AV.one (Cl.ref i (List.length j))) (vX g (iN g) []::k)) l m)
def uR(a:Scr)(b c:Int)(d:wc)(e:Prop):Prop:=qB (iY 67 0 [AV.agg (sY a)] [] (AV.tup (pT 0::kE true)) [vX a (iN a) []]) (bW (bO true) (qO (AnsG prog 69 1 [pT 0,bE (aB b),bE (aB c)] [vX a (iN a) []] ⟨bE (DV.bool (rM c a (nU a (iN a)) b b)),[vX a (iN a) []],false⟩/\eS [vX a (iN a) []]) (aE (dV (rM c a (nU a (iN a)) b b)) (lS (DV.sl 0 []) 21=sR a b c)) (bO (rM c a (nU a (iN a)) b b)->aJC d/\e)))
abbrev wZQ:=@Tryz.func70
theorem jJp(s:Scr)(op:Int)(R:RuOk s)(hr:s.run.1=0)(hL:s.ops.length<=100000)(hI:s.ims.length<=1000000)(hc:(decide (0<=op/\op<(s.ops.length:Int))&&(decide ((opV (zQd s) op.toNat).kind≠3)&&(decide (1<=(1:Int))&&zXR (zQd s) (1:Int) op.toNat)))=true):Ans prog 70 [rA (sD s),rA [dJ 1,dJ op]] (rT [rD (dS ((zZY (zQd s) (1:Int) (op).toNat).length) (ops (zZY (zQd s) (1:Int) (op).toNat))),rJ (0)]):=
 zQa (Γ:=jZN) uP zQb wZQ rfl (nL rfl) λhwf=>by
  refine Eq.mpr (by kernel_rfl:_=(let a:=remV (nU s (iN s)) (Int.toNat op);uR s 1 op (zV (mM 131 (iV 133 (iV 134 (iV 135 (iV 136 (kD 1::aGU 139 2 (aCQ 3 4 [])))))))) (uQ 1 1 10 132 1 (qX op) s [] 1 a (iK (ops a)) (eS true) (qY a=sR s 1 op)))) ?_;delta eS aB aV aE aF bE bD cU kE aH bY bW qB fT aFA iK dG bO qO dV mM cY iV pT iY oQ mO lS aFP kD nU aGU aCQ vX qY rM aJC iN sY qX sR uQ zV uR;simp only[sS];clear hwf;simp only[zQv,zQn,vwS];obtain⟨f,V⟩:=R.view;have A:=V.all hI (show s.ops.length<=1000000 by omega);have L:=zZb s R hr hL;have AP:=zQx (zQd s) 1 op A ⟨by decide,by decide⟩;have hc2:=hc;simp only[wQd,wQf]at hc2;obtain⟨⟨h0,h1⟩,hk,_,hru⟩:=hc2;have hj:op.toNat<(zQd s).s.ops.length:=by show op.toNat<s.ops.length;omega
  have J:=A.at_ _ hj hk;exact⟨L,AP,λh=>absurd (h.symm.trans hc) (by decide),λ_=>⟨zQq,⟨by decide,by decide⟩,zZR (zQd s) op h0 J A.len,rfl,rfl⟩⟩
theorem jJo(s:Scr)(op:Int)(R:RuOk s)(hr:s.run.1=0)(hL:s.ops.length<=100000)(hI:s.ims.length<=1000000)(hc:(decide (0<=op/\op<(s.ops.length:Int))&&(decide ((opV (zQd s) op.toNat).kind≠3)&&(decide (1<=(2:Int))&&zXR (zQd s) (2:Int) op.toNat)))=true):Ans prog 70 [rA (sD s),rA [dJ 2,dJ op]] (rT [rD (dS ((zZY (zQd s) (2:Int) (op).toNat).length) (ops (zZY (zQd s) (2:Int) (op).toNat))),rJ (0)]):=
 zQa (Γ:=jZN) uP zQb wZQ rfl (nL rfl) λhwf=>by
  refine Eq.mpr (by kernel_rfl:_=(let a:=remV (nU s (iN s)) (Int.toNat op);uR s 2 op nG (uQ 2 2 10 132 1 (qX op) s [] 1 a (iK (ops a)) (eS true) (qY a=sR s 2 op)))) ?_;delta eS aB aV aE aF bE bD cU kE aH bY bW qB fT aFA iK dG bO qO dV mM cY iV pT iY oQ mO lS aFP kD nU aCQ vX qY rM aJC iN sY qX sR uQ zV uR nG;simp only[sS];clear hwf;simp only[zQv,zQn,vwS];obtain⟨f,V⟩:=R.view;have A:=V.all hI (show s.ops.length<=1000000 by omega);have L:=zZb s R hr hL;have AP:=zQx (zQd s) 2 op A ⟨by decide,by decide⟩;have hc2:=hc;simp only[wQd,wQf]at hc2;obtain⟨⟨h0,h1⟩,hk,_,hru⟩:=hc2;have hj:op.toNat<(zQd s).s.ops.length:=by show op.toNat<s.ops.length;omega
  have J:=A.at_ _ hj hk;exact⟨L,AP,λh=>absurd (h.symm.trans hc) (by decide),λ_=>⟨zQq,⟨by decide,by decide⟩,zZR (zQd s) op h0 J A.len,rfl,rfl⟩⟩
theorem jJn(s:Scr)(op:Int)(R:RuOk s)(hr:s.run.1=0)(hL:s.ops.length<=100000)(hI:s.ims.length<=1000000)(hc:(decide (0<=op/\op<(s.ops.length:Int))&&(decide ((opV (zQd s) op.toNat).kind≠3)&&(decide (1<=(3:Int))&&zXR (zQd s) (3:Int) op.toNat)))=true):Ans prog 70 [rA (sD s),rA [dJ 3,dJ op]] (rT [rD (dS ((zZY (zQd s) (3:Int) (op).toNat).length) (ops (zZY (zQd s) (3:Int) (op).toNat))),rJ (0)]):=
 zQa (Γ:=jZN) uP zQb wZQ rfl (nL rfl) λhwf=>by
  refine Eq.mpr (by kernel_rfl:_=(let a:=remV (nU s (iN s)) (Int.toNat op);uR s 3 op nG (uQ 3 3 10 132 1 (qX op) s [] 1 a (iK (ops a)) (eS true) (qY a=sR s 3 op)))) ?_;delta eS aB aV aE aF bE bD cU kE aH bY bW qB fT aFA iK dG bO qO dV mM cY iV pT iY oQ mO lS aFP kD nU aCQ vX qY rM aJC iN sY qX sR uQ zV uR nG;simp only[sS];clear hwf;simp only[zQv,zQn,vwS];obtain⟨f,V⟩:=R.view;have A:=V.all hI (show s.ops.length<=1000000 by omega);have L:=zZb s R hr hL;have AP:=zQx (zQd s) 3 op A ⟨by decide,by decide⟩;have hc2:=hc;simp only[wQd,wQf]at hc2;obtain⟨⟨h0,h1⟩,hk,_,hru⟩:=hc2;have hj:op.toNat<(zQd s).s.ops.length:=by show op.toNat<s.ops.length;omega
  have J:=A.at_ _ hj hk;exact⟨L,AP,λh=>absurd (h.symm.trans hc) (by decide),λ_=>⟨zQq,⟨by decide,by decide⟩,zZR (zQd s) op h0 J A.len,rfl,rfl⟩⟩
theorem jJm(s:Scr)(op:Int)(R:RuOk s)(hr:s.run.1=0)(hL:s.ops.length<=100000)(hI:s.ims.length<=1000000)(hc:(decide (0<=op/\op<(s.ops.length:Int))&&(decide ((opV (zQd s) op.toNat).kind≠3)&&(decide (1<=(4:Int))&&zXR (zQd s) (4:Int) op.toNat)))=true):Ans prog 70 [rA (sD s),rA [dJ 4,dJ op]] (rT [rD (dS ((zZY (zQd s) (4:Int) (op).toNat).length) (ops (zZY (zQd s) (4:Int) (op).toNat))),rJ (0)]):=
 zQa (Γ:=jZN) uP zQb wZQ rfl (nL rfl) λhwf=>by
  refine Eq.mpr (by kernel_rfl:_=(let a:=remV (nU s (iN s)) (Int.toNat op);uR s 4 op nG (uQ 4 4 10 132 1 (qX op) s [] 1 a (iK (ops a)) (eS true) (qY a=sR s 4 op)))) ?_;delta eS aB aV aE aF bE bD cU kE aH bY bW qB fT aFA iK dG bO qO dV mM cY iV pT iY oQ mO lS aFP kD nU aCQ vX qY rM aJC iN sY qX sR uQ zV uR nG;simp only[sS];clear hwf;simp only[zQv,zQn,vwS];obtain⟨f,V⟩:=R.view;have A:=V.all hI (show s.ops.length<=1000000 by omega);have L:=zZb s R hr hL;have AP:=zQx (zQd s) 4 op A ⟨by decide,by decide⟩;have hc2:=hc;simp only[wQd,wQf]at hc2;obtain⟨⟨h0,h1⟩,hk,_,hru⟩:=hc2;have hj:op.toNat<(zQd s).s.ops.length:=by show op.toNat<s.ops.length;omega
  have J:=A.at_ _ hj hk;exact⟨L,AP,λh=>absurd (h.symm.trans hc) (by decide),λ_=>⟨zQq,⟨by decide,by decide⟩,zZR (zQd s) op h0 J A.len,rfl,rfl⟩⟩
theorem jJl(s:Scr)(op:Int)(R:RuOk s)(hr:s.run.1=0)(hL:s.ops.length<=100000)(hI:s.ims.length<=1000000)(hc:(decide (0<=op/\op<(s.ops.length:Int))&&(decide ((opV (zQd s) op.toNat).kind≠3)&&(decide (1<=(5:Int))&&zXR (zQd s) (5:Int) op.toNat)))=true):Ans prog 70 [rA (sD s),rA [dJ 5,dJ op]] (rT [rD (dS ((zZY (zQd s) (5:Int) (op).toNat).length) (ops (zZY (zQd s) (5:Int) (op).toNat))),rJ (0)]):=
 zQa (Γ:=jZN) uP zQb wZQ rfl (nL rfl) λhwf=>by
  refine Eq.mpr (by kernel_rfl:_=(let a:=nU s (iN s);let b:=zVt (oQ a op);let c:=uS a.s op b;uR s 5 op nG (uQ 5 5 10 203 2 [pT 0,bE (aB op),pT 1] s (oR 138) 2 c (xU 138 a.s op b) (eS true) (qY c=sR s 5 op)))) ?_;delta eS aB aV aE aF bE bD cU kE aH bY bW qB fT aFA iK dG bO qO dV mM cY iV pT iY oQ mO lS aFP kD nU aCQ vX qY rM aJC iN sY sR uQ zV uR nG oR uS xU;simp only[sS];clear hwf;simp only[zQv,zQn,vwS];simp only[zQC];obtain⟨f,V⟩:=R.view;have A:=V.all hI (show s.ops.length<=1000000 by omega);have L:=zZb s R hr hL;have AP:=zQx (zQd s) 5 op A ⟨by decide,by decide⟩;have hc2:=hc;simp only[wQd,wQf]at hc2;obtain⟨⟨h0,h1⟩,hk,_,hru⟩:=hc2;have hj:op.toNat<(zQd s).s.ops.length:=by show op.toNat<s.ops.length;omega
  have J:=A.at_ _ hj hk;exact⟨L,AP,λh=>absurd (h.symm.trans hc) (by decide),λ_=>⟨zQq,⟨by decide,by decide⟩,jZS (zQd s) op h0 J A.len,rfl,rfl⟩⟩
theorem jJk(s:Scr)(op:Int)(R:RuOk s)(hr:s.run.1=0)(hL:s.ops.length<=100000)(hI:s.ims.length<=1000000)(hc:(decide (0<=op/\op<(s.ops.length:Int))&&(decide ((opV (zQd s) op.toNat).kind≠3)&&(decide (1<=(6:Int))&&zXR (zQd s) (6:Int) op.toNat)))=true):Ans prog 70 [rA (sD s),rA [dJ 6,dJ op]] (rT [rD (dS ((zZY (zQd s) (6:Int) (op).toNat).length) (ops (zZY (zQd s) (6:Int) (op).toNat))),rJ (0)]):=
 zQa (Γ:=jZN) uP zQb wZQ rfl (nL rfl) λhwf=>by
  refine Eq.mpr (by kernel_rfl:_=(let a:=nU s (iN s);let b:=isoO (oQ a op);let c:=uS a.s op b;uR s 6 op nG (uQ 6 6 10 203 2 [pT 0,bE (aB op),pT 1] s (oR 140) 2 c (xU 140 a.s op b) (eS true) (qY c=sR s 6 op)))) ?_;delta eS aB aV aE aF bE bD cU kE aH bY bW qB fT aFA iK dG bO qO dV mM cY iV pT iY oQ mO lS aFP kD nU aCQ vX qY rM aJC iN sY sR uQ zV uR nG oR uS xU;simp only[sS];clear hwf;simp only[zQv,zQn,vwS];simp only[zQC];obtain⟨f,V⟩:=R.view;have A:=V.all hI (show s.ops.length<=1000000 by omega);have L:=zZb s R hr hL;have AP:=zQx (zQd s) 6 op A ⟨by decide,by decide⟩;have hc2:=hc;simp only[wQd,wQf]at hc2;obtain⟨⟨h0,h1⟩,hk,_,hru⟩:=hc2;have hj:op.toNat<(zQd s).s.ops.length:=by show op.toNat<s.ops.length;omega
  have J:=A.at_ _ hj hk;exact⟨L,AP,λh=>absurd (h.symm.trans hc) (by decide),λ_=>⟨zQq,⟨by decide,by decide⟩,jZR (zQd s) op h0 J A.len,rfl,rfl⟩⟩
theorem jJj(s:Scr)(op:Int)(R:RuOk s)(hr:s.run.1=0)(hL:s.ops.length<=100000)(hI:s.ims.length<=1000000)(hc:(decide (0<=op/\op<(s.ops.length:Int))&&(decide ((opV (zQd s) op.toNat).kind≠3)&&(decide (1<=(7:Int))&&zXR (zQd s) (7:Int) op.toNat)))=true):Ans prog 70 [rA (sD s),rA [dJ 7,dJ op]] (rT [rD (dS ((zZY (zQd s) (7:Int) (op).toNat).length) (ops (zZY (zQd s) (7:Int) (op).toNat))),rJ (0)]):=
 zQa (Γ:=jZN) uP zQb wZQ rfl (nL rfl) λhwf=>by
  refine Eq.mpr (by kernel_rfl:_=(let a:=nU s (iN s);let b:=zVQ (oQ a op);let c:=uS a.s op b;uR s 7 op nG (uQ 7 7 10 203 2 [pT 0,bE (aB op),pT 1] s (oR 142) 2 c (xU 142 a.s op b) (eS true) (qY c=sR s 7 op)))) ?_;delta eS aB aV aE aF bE bD cU kE aH bY bW qB fT aFA iK dG bO qO dV mM cY iV pT iY oQ mO lS aFP kD nU aCQ vX qY rM aJC iN sY sR uQ zV uR nG oR uS xU;simp only[sS];clear hwf;simp only[zQv,zQn,vwS];simp only[zQC];obtain⟨f,V⟩:=R.view;have A:=V.all hI (show s.ops.length<=1000000 by omega);have L:=zZb s R hr hL;have AP:=zQx (zQd s) 7 op A ⟨by decide,by decide⟩;have hc2:=hc;simp only[wQd,wQf]at hc2;obtain⟨⟨h0,h1⟩,hk,_,hru⟩:=hc2;have hj:op.toNat<(zQd s).s.ops.length:=by show op.toNat<s.ops.length;omega
  have J:=A.at_ _ hj hk;exact⟨L,AP,λh=>absurd (h.symm.trans hc) (by decide),λ_=>⟨zQq,⟨by decide,by decide⟩,jZQ (zQd s) op h0 J A.len,rfl,rfl⟩⟩
theorem jJi(s:Scr)(op:Int)(R:RuOk s)(hr:s.run.1=0)(hL:s.ops.length<=100000)(hI:s.ims.length<=1000000)(hc:(decide (0<=op/\op<(s.ops.length:Int))&&(decide ((opV (zQd s) op.toNat).kind≠3)&&(decide (1<=(8:Int))&&zXR (zQd s) (8:Int) op.toNat)))=true):Ans prog 70 [rA (sD s),rA [dJ 8,dJ op]] (rT [rD (dS ((zZY (zQd s) (8:Int) (op).toNat).length) (ops (zZY (zQd s) (8:Int) (op).toNat))),rJ (0)]):=
 zQa (Γ:=jZN) uP zQb wZQ rfl (nL rfl) λhwf=>by
  refine Eq.mpr (by kernel_rfl:_=(let a:=nU s (iN s);let b:=zJp (oQ a op);let c:=uS a.s op b;uR s 8 op nG (uQ 8 8 10 203 2 [pT 0,bE (aB op),pT 1] s (oR 144) 2 c (xU 144 a.s op b) (eS true) (qY c=sR s 8 op)))) ?_;delta eS aB aV aE aF bE bD cU kE aH bY bW qB fT aFA iK dG bO qO dV mM cY iV pT iY oQ mO lS aFP kD nU aCQ vX qY rM aJC iN sY sR uQ zV uR nG oR uS xU;simp only[sS];clear hwf;simp only[zQv,zQn,vwS];simp only[zQC];obtain⟨f,V⟩:=R.view;have A:=V.all hI (show s.ops.length<=1000000 by omega);have L:=zZb s R hr hL;have AP:=zQx (zQd s) 8 op A ⟨by decide,by decide⟩;have hc2:=hc;simp only[wQd,wQf]at hc2;obtain⟨⟨h0,h1⟩,hk,_,hru⟩:=hc2;have hj:op.toNat<(zQd s).s.ops.length:=by show op.toNat<s.ops.length;omega
  have J:=A.at_ _ hj hk;exact⟨L,AP,λh=>absurd (h.symm.trans hc) (by decide),λ_=>⟨zQq,⟨by decide,by decide⟩,jZP (zQd s) op h0 J A.len,rfl,rfl⟩⟩
abbrev wYg:=@Decidable.of_not_not
theorem jJh(s:Scr)(op:Int)(R:RuOk s)(hr:s.run.1=0)(hL:s.ops.length<=100000)(hI:s.ims.length<=1000000)(hc:(decide (0<=op/\op<(s.ops.length:Int))&&(decide ((opV (zQd s) op.toNat).kind≠3)&&(decide (1<=(9:Int))&&zXR (zQd s) (9:Int) op.toNat)))=true):Ans prog 70 [rA (sD s),rA [dJ 9,dJ op]] (rT [rD (dS ((zZY (zQd s) (9:Int) (op).toNat).length) (ops (zZY (zQd s) (9:Int) (op).toNat))),rJ (0)]):=
 zQa (Γ:=jZN) uP zQb wZQ rfl (nL rfl) λhwf=>by
  refine Eq.mpr (by kernel_rfl:_=(let a:=unwL (nU s (iN s)) (Int.toNat op);uR s 9 op (zV (mM 131 (iV 133 (iV 134 (iV 135 (iV 136 (kD 1::mM 139 (kD 2::aGU 141 3 (mM 143 [kD 4,cD (DV.fn 145),cD (DV.fn 146)]))))))))) (uQ 9 9 10 146 1 (qX op) s [] 1 a (iK (ops a)) (eS true) (qY a=sR s 9 op)))) ?_;delta eS aB aV aE aF bE bD cU kE aH bY bW qB fT aFA iK dG bO qO dV mM cY iV pT iY oQ mO lS aFP kD nU aGU vX qY rM aJC iN sY qX sR uQ zV uR;simp only[sS];clear hwf;simp only[zQv,zQn,vwS];obtain⟨f,V⟩:=R.view;have A:=V.all hI (show s.ops.length<=1000000 by omega);have L:=zZb s R hr hL;have AP:=zQx (zQd s) 9 op A ⟨by decide,by decide⟩;have hc2:=hc;simp only[wQd,wQf]at hc2;obtain⟨⟨h0,h1⟩,hk,_,hru⟩:=hc2;have hj:op.toNat<(zQd s).s.ops.length:=by show op.toNat<s.ops.length;omega
  have J:=A.at_ _ hj hk;have hu:unwV (zQd s) op.toNat=true:=hru;have hh:¬((opV (zQd s) op.toNat).kind≠2\/(opV (zQd s) op.toNat).iso=false\/kidV (zQd s) op.toNat≠1):=λh=>by unfold unwV at hu;rw[if_pos h]at hu;cases hu
  obtain⟨J2,hE⟩:=A.one _ hj (wYg λe=>hh (.inl e)) (wYg λe=>hh (.inr (.inr e)));exact⟨L,AP,λh=>absurd (h.symm.trans hc) (by decide),λ_=>⟨zQq,⟨by decide,by decide⟩,zKq (zQd s) op h0 J A.len J2 hE,rfl,rfl⟩⟩
theorem zGu(s:Scr)(rule op:Int)(R:RuOk s)(hr:s.run.1=0)(hL:s.ops.length<=100000)(hI:s.ims.length<=1000000)(hc:(decide (0<=op/\op<(s.ops.length:Int))&&(decide ((opV (zQd s) op.toNat).kind≠3)&&(decide (1<=rule)&&zXR (zQd s) rule op.toNat)))=true)(hn:1<=rule/\rule<=9):Ans prog 70 [RV.agg (sD s),RV.agg [dJ rule,dJ op]] (RV.tup [RV.d (dS ((zZY (zQd s) rule (op).toNat).length) (ops (zZY (zQd s) rule (op).toNat))),rJ (0)]):=by
 obtain⟨k,rfl⟩:∃k:Nat,rule=(k:Int):=⟨rule.toNat,by omega⟩
 match k,hn,hc with
 |0,h,_=>exact absurd h.1 (by decide)
 |1,_,hc=>exact jJp s op R hr hL hI hc
 |2,_,hc=>exact jJo s op R hr hL hI hc
 |3,_,hc=>exact jJn s op R hr hL hI hc
 |4,_,hc=>exact jJm s op R hr hL hI hc
 |5,_,hc=>exact jJl s op R hr hL hI hc
 |6,_,hc=>exact jJk s op R hr hL hI hc
 |7,_,hc=>exact jJj s op R hr hL hI hc
 |8,_,hc=>exact jJi s op R hr hL hI hc
 |9,_,hc=>exact jJh s op R hr hL hI hc
 |k+10,h,_=>exact absurd h.2 (by omega)
end
end Go.Proofs.YtbnmadpcdlnleaaGreatDoor
