/-
  Part 5 of what TopAnyOrderOfRules rests on.
-/
import Derived.Test.YtbnmadpcdlnleaaGreatDoorTopAnyOrderOfRulesZ4
namespace Go.Proofs.YtbnmadpcdlnleaaGreatDoor
open Go.IntKind (wrap)
open Go.RowKit
set_option linter.unusedVariables false
set_option linter.unusedSimpArgs false
set_option maxRecDepth 20000
open Go.Proofs.Tryz (prog)
section
attribute [local irreducible] Ans AnsO AnsG AnsN AnsI
def yYc:Gam:=yYb.add [.p 156 (λv=>let c:=zXB (vm (ul v 0));some (RV.tup [RV.d (dS c.1.length (rcs c.1)),rJ c.2])),
 .p 77 (λv=>let a:=(zZj (zQi (cAt (uj v) 0)));some (RV.tup [RV.d (dS a.1.length (is a.1)),rJ a.2]))]
def aFT(a:Nat)(b:Scr)(c:Rc):Prop:=bZ a (dG b) (Live b c a)
def aLQ(a:Scr)(b:Rc)(c:List Im)(d:List Oq):Scr:=⟨a.bits,b,a.tw,a.th,ints (is a.ord),c,d⟩
def aLS(a:Scr)(b:Rc)(c:List Oq):Scr:=aLQ a b (zQr (ims a.ims)) c
def aLX(a:Scr)(b:Rc):Scr:=aLS a b (zQi (ops a.ops))
def aLU(b:Scr)(d e f:Int):Rc:=⟨b.c.a,d,e,f⟩
def aLV(a:Scr)(d e:Int):Rc:=aLU a a.c.b d e
def aLW(a:Scr)(b:Int):Rc:=aLV a a.c.c b
def aJX(a:Scr):Rc:=aLW a a.c.d
def aFU(a:Scr):Scr:=aLX a (aJX a)
def aHG(a:Nat)(b:List Int)(c:Nat)(d:Prop):Prop:=True/\True/\dF a (List.length b) c (is b)/\(mZ (is b) a c/\True)/\d
def aFW(a:List Bool):DV:=DV.sl (List.length a) (bs a)
theorem zGZ(s:Scr)(r:Rc):Ans prog 81 [rA (sD s),rA [dJ r.a,dJ r.b,dJ r.c,dJ r.d]] (rT [rD (dS ((zXs s r).1.length) (bs (zXs s r).1)),rJ (((zXs s r).2))]):=
 vv yYc (qA (gI (ui (λc=>aFT c s r) (λa=>aAB (aCK 3 3 (iF 6 (aFV (zXB (aFU s)).fst) 8 (yC (zQi (ops s.ops))) (iP 10 28 (dG s) (rU 11 a)))) 2 (sY s) (lB 3 (wM r.a r.b r.c r.d []) 28 4 1 (bs (zJA s r a)) [])) (λb=>dG s-b) (λd=>aL)))) Tryz.func81 (let u:=lS (aFW (zXs s r).fst) (zXs s r).snd;let j:=(zXB (mO s)).fst;let b:=List.length j;let c:=rcs j;let g:=dG s;let o:=zQi (ops s.ops);let z:=yC o;let p:=eS z;let A:=aFV j;let q:=eS A;let t:=ops s.ops;let F:=(zZj o).fst;let h:=(zXB (mO s)).snd;True/\True/\eZ (bH 156 (iZ s) [] (lS A h)) (uX h (lS (DV.sl 0 []) h=u) (aE (fN h) (aR (lM 77 (cY s) [] (lS z (zZj o).snd)) (fT (oG (b:Int) 1) (∃i:Nat,aFT i s r/\lN (dB (aG q p (uW b=g) (dC i))) (iZ s) (cM r) (sZ b kG (bs (zJA s r i)))) (∀a:Nat,let d:=bs (zJA s r a);let k:=iR c a 4;let l:=iQ c a 4;let m:=iH c a 4;let n:=cB c a 4;let v:=Rc.inter ⟨n,m,l,k⟩ r;let w:=Rc.empty v;let x:=(!w);let y:=DV.bool x;let B:=(∃e:Nat,aFT e s r/\mF s e a/\lN (dB (aG q p (eS g) (bQ a e))) (iZ s) (cM r) (kZ d a y (bs (zJA s r e))));let C:=nAt t (aZ a 12+0);let D:=List.set d (aZ a 1) (DV.bool x);let E:=bAt D (aZ a 1);let G:=gU (a:Int) g;aFT a s r->True/\aP (dT a b) (True/\True/\dF a b 4 c/\aFX c a 4/\dY (yD 157 (eO n m l k) (cM r) v) (bH 40 (cM (Rc.inter ⟨n,m,l,k⟩ r)) [] (aM w)) (tS G (fL (cR a 1) d) (eS true) (bD (dF a g 12 t) (aBN t (aZ a 12) 0/\True/\True/\bP (lZ C) G (pN D (aZ a 1)/\True/\True/\(dV E->aHG a F 1 (True/\True/\True/\True/\(∃f:Nat,aFT f s r/\mF s f a/\lN (dB (aG q p (eS g) (aB (aU (cB (is F) a 1+1))=fC f))) (iZ s) (cM r) (kZ d a y (bs (zJA s r f))))))/\aN (bO E) B)/\bK (bG (C==2)) B)))) (aN (eV a b) (lS (DV.sl (List.length s.ops) d) 0=u)))))))) λhwf=>by
  delta eS aB aV aW aE iE aP dY aU aG aN bD gB tS lZ kG bG bP aR eO bK lN dB cM fC fL aZ gU bQ cR tW dC kZ oG cX fM bH aY dF fT iG cB eZ dT eV mZ iH iQ iR aM bZ dZ yP lM aBN pN dG cS mF aIO aHG bO dN dV fN cY mO lS aFT aFV yC uW sZ uX yH iZ yD aFW aFX;simp only[sS,zQw,zQJ,zQ4]
  (try simp only[zQv,zQn,zZI,zZv,zQC])
  have hsE:(⟨s.bits,s.c,s.tw,s.th,s.ord,s.ims,s.ops⟩:Scr)=s:=rfl
  (try simp only[hsE])
  clear hsE;have bA:=zHE s
  try simp only[zQv,zQn,zZI,zZv,zQC]at bA
  by_cases h0:¬s.run.1=0
  .have e1:=jHX h0;have e2:zXs s r=([],s.run.1):=by unfold zXs;rw[if_neg h0]
   rw[e1]at bA;rw[e1,e2];exact⟨bA,λ_=>⟨⟨rfl,rfl⟩,rfl⟩,λh=>absurd (by simpa using h) h0⟩
  have h0:s.run.1=0:=Decidable.not_not.1 h0;obtain⟨_,e2,e3⟩:=jUa h0;have eA:zXs s r=((List.range s.ops.length).map (zXV s r),0):=by unfold zXs;rw[if_pos h0]
  refine⟨bA,λh=>absurd e2 (by simpa using h),λ_=>?_⟩;obtain⟨fl1,fl2⟩:=jKA (zJL h0).1;have hM:∀n:Nat,n<=10000->n<=maxLen:=λn h=>by unfold maxLen;omega
  have el:=(yQ5 h0).1;have eE:=zKM s.ops (by omega);rw[zQC]at eE;rw[eA];simp only[e3];clear hwf bA;refine⟨eE,⟨by omega,Int.le_refl _,by have:=hM s.ops.length (by omega);omega,by omega⟩,⟨0,⟨wQj _,jHf s r⟩,⟨trivial,rfl⟩,by rw[jU4,yXw]⟩,λk hk=>⟨λhlt=>?_,λhge=>?_⟩⟩
  .obtain⟨hk0,hL⟩:=hk;have hk:k<s.ops.length:=by omega
   have b1:=zWK (zXB s).1 k (by omega);have b2:=zW3 (show k<(zXB s).1.length by omega);have eb:(zXB s).1[k]=bxAt s k:=by unfold bxAt;rw[List.getElem?_eq_getElem (by omega)];rfl
   rw[eb]at b1 b2;have heta:(⟨(bxAt s k).a,(bxAt s k).b,(bxAt s k).c,(bxAt s k).d⟩:Rc)=bxAt s k:=rfl;have eh:(!((bxAt s k).inter r).empty)=hitB s r k:=rfl;simp only[b2,heta,eh];have q1:=zXF hk;have q2:=zXG hk;have eo:opAt s k=s.ops[k]:=yZ2 hk;have w1:wrap .i64 ((k:Int)+1)=((k+1:Nat):Int):=zY6 (by omega);simp only[Nat.add_zero,wQg,q2,<-eo,yYk,<-zUK hL,jXM];have ng:=zXI (jV9 h0 hk);have ne:=zXH (jV9 h0 hk);have ei:=zGX h0 hk;have g:(zJA s r (k+1))[k]?=some (hitB s r k):=by rw[<-zUK hL];simp[zJA,hk]
   have gb:=jHV g;have gg:=jHU g;simp only[gb,ne,w1];refine⟨⟨by omega,by omega,by rw[zXT];omega⟩,b1,zQw _ _ _ _ _ _ _ _,zQJ _ _ _ _,by omega,by rw[jZh,jH6];omega,⟨by omega,by omega,by rw[zQc];omega⟩,by rw[eo];exact q1.1,λh2=>⟨by omega,gg,λhb=>?_,λhb=>?_⟩,λh2=>?_⟩
   .have h2:(opAt s k).kind=2:=by simpa using h2
    obtain⟨l1,l2⟩:=jHg h0 hk hL h2 hb;have l3:zJA s r (k+1)=zJA s r k:=by
     rw[<-jXM,zUK hL,hb];refine wQP (by simp) λi i1 i2=>?_;rw[wYC];split
     .rename_i e;subst e;simp[zJA]
     .rfl
    exact⟨⟨by omega,by omega,by rw[zQl];omega⟩,ng,enAt s k+1,⟨by omega,l1⟩,by omega,by rw[wQb _ (by omega)];omega,by rw[l2,l3]⟩
   .exact⟨k+1,⟨by omega,jKa hL (by rw[hb];simp)⟩,by omega,rfl,rfl⟩
   .have h2:(opAt s k).kind≠2:=by simpa using h2
    exact⟨k+1,⟨by omega,jKa hL (λh=>h2 h.1)⟩,by omega,rfl,rfl⟩
  .obtain⟨hk0,hL⟩:=hk;have:k=s.ops.length:=by omega
   subst this;rw[jH7];exact⟨⟨by simp,rfl⟩,trivial⟩
end
def jXD(G:List Int):Nat->Nat->Int->Prop
 |_,0,g=>g = -1
 |n,d+1,g=>∃m:Nat,g=(m:Int)/\m<n/\jXD G m d ((G[m]?).getD 0)
theorem zWy{G:List Int}{k:Nat}{v:Int}:∀(d n:Nat)(g:Int),n<=k->jXD G n d g->jXD (G.set k v) n d g
 |0,n,g,_,h=>h
 |d+1,n,g,hn,⟨m,e,hm,h⟩=>⟨m,e,hm,by
  rw[List.getElem?_set_ne (by omega)]
  exact zWy d m _ (by omega) h⟩
theorem jKS{G:List Int}{n n':Nat}(hn:n<=n'):∀(d:Nat)(g:Int),jXD G n d g->jXD G n' d g
 |0,g,h=>h
 |d+1,g,⟨m,e,hm,h⟩=>⟨m,e,by omega,h⟩
structure LkIn(l:List Oq)(k:Nat)(d:Nat)(z:Lk):Prop where
  G:z.G.length=l.length
  K:z.K.length=l.length
  F:z.F.length=l.length
  ch:jXD z.G k d z.g
  kn:∀x∈z.K,0<=x/\x<=k
  base:0<=z.base/\z.base<=k
variable{k:Nat}
theorem LkIn.gin{l:List Oq}{d:Nat}{z:Lk}(h:LkIn l k d z): -1<=z.g/\z.g<k:=by
 have c:=h.ch
 cases d with
 |zero=>have c:z.g = -1:=c;omega
 |succ d=>obtain⟨m,e,hm,_⟩:=c;omega
theorem LkIn.cnt{l:List Oq}{k d:Nat}{z:Lk}(h:LkIn l k d z)(hk:k<=l.length):0<=z.cnt/\z.cnt<=k:=by
 have g:=h.gin;unfold Lk.cnt;split
 .have hl:z.g.toNat<z.K.length:=by rw[h.K];omega
  rw[List.getElem?_eq_getElem hl];exact h.kn _ (List.getElem_mem hl)
 .exact h.base
abbrev wJa:=@List.mem_or_eq_of_mem_set
theorem jVQ{l:List Oq}{bits:Int}{mn:Nat}(h:okO bits mn l []=some []):∀k,k<=l.length->∃st,okO bits mn (l.take k) []=some st/\LkIn l k st.length (zZS l k)
 |0,_=>⟨[],rfl,by
  rw[zYP]
  exact⟨by simp[jQP],by simp[jQP],by simp[jQP],rfl,λx hx=>by simp[jQP]at hx;omega,by simp[jQP]⟩⟩
 |k+1,hk=>by
  obtain⟨st,h1,H⟩:=jVQ h k (by omega);have hlt:k<l.length:=by omega
  obtain⟨st',e1,e2⟩:=jYs h k;have:st=st':=by rw[h1]at e1;exact wXM e1
  subst this;obtain⟨he,h2⟩:=zHO e1 e2 hlt;refine⟨_,h2,?_⟩;rw[jQH hlt];have gi:=H.gin;have bi:=H.base;have ci:=H.cnt (by omega);generalize zZS l k=z at *;have kn2:∀x∈z.K,0<=x/\x<=((k+1:Nat):Int):=λx hx=>by have:=H.kn x hx;omega
  rcases zYz he with hk1|hk2|⟨e3,hne⟩
  .have s0:zXf l[k] st=st:=zVB hk1;rw[s0];unfold zUq;rw[if_neg (by omega)];refine⟨by simp[H.G],by simp only;split<;>simp[H.K],by simp[H.F],?_,λx hx=>?_,?_⟩
   .simp only;rw[if_neg (by omega)];exact jKS (by omega) _ _ (zWy _ _ _ (Nat.le_refl _) H.ch)
   .simp only at hx;split at hx
    .rcases wJa hx with hx|hx
     .exact kn2 x hx
     .omega
    .exact kn2 x hx
   .simp only;split<;>omega
  .have s0:zXf l[k] st=st++[l[k]]:=zVA hk2;rw[s0,wQe];unfold zUq;rw[if_neg (by omega)];refine⟨by simp[H.G],by simp only;split<;>simp[H.K],by simp[H.F],?_,λx hx=>?_,?_⟩
   .simp only;rw[if_pos hk2];refine⟨k,rfl,by omega,?_⟩;rw[wYL (by rw[H.G];exact hlt)];exact zWy _ _ _ (Nat.le_refl _) H.ch
   .simp only at hx;split at hx
    .rcases wJa hx with hx|hx
     .exact kn2 x hx
     .omega
    .exact kn2 x hx
   .simp only;split<;>omega
  .have k3:l[k].kind=3:=by rw[e3];rfl
   have s0:zXf l[k] st=st.dropLast:=by rw[e3];exact jXU
   have hp:=wZV.2 hne;rw[s0,wXJ];obtain⟨d,hd⟩:∃d,st.length=d+1:=⟨st.length-1,by omega⟩
   rw[hd]at H |-;obtain⟨m,e,hm,hc⟩:=H.ch;unfold zUq;rw[if_pos k3];refine⟨by simp[H.G],H.K,by simp[H.F],?_,kn2,by have:=H.base;simp only;omega⟩;simp only[e,wQp,wZE];exact jKS (by omega) _ _ (zWy _ _ _ (by omega) hc)
def zQd(s:Scr):Vw:=⟨s,zQA s.bits,(zZj s.ops).1,(zZS s.ops s.ops.length).G,(zZS s.ops s.ops.length).K,(zZS s.ops s.ops.length).F⟩
structure RuOk(s:Scr):Prop where
  ok:okO s.bits s.ims.length s.ops []=some []
  opac:∀o∈s.ops,0<=o.opac
  dim:zG4 s.ims
  formed:∀m∈s.ims,m.formed=true
  ims:zJT (zQA s.bits) s.ims
variable{s:Scr}
theorem RuOk.view(h:RuOk s):∃f,VwOk (zQd s) f:=by
 obtain⟨f,hf,e⟩:=jYK h.ok;have hv:=(jQD f [] [] hf (by rw[<-e];exact h.ok)).1;have hl:=jHe hf;rw[<-e]at hl;exact⟨f,hf,e,rfl,by show(zZj s.ops).1=_;rw[e,jWZ hf],by show(zZS s.ops s.ops.length).G=_;rw[hl],by show(zZS s.ops s.ops.length).K=_;rw[hl],by show(zZS s.ops s.ops.length).F=_;rw[hl],hv,by rw[<-e];exact h.opac,h.dim,h.formed,h.ims⟩
def zQ5(s:Scr)(l:List Oq):Scr:=⟨s.bits,s.c,s.tw,s.th,s.ord,s.ims,l⟩
variable{i:Nat}
theorem RuOk.step(h:RuOk s){n:Int}(hi:i<s.ops.length)(hk:(opV (zQd s) i).kind≠3)(h1:1<=n)(h9:n<=9)(hr:zXR (zQd s) n i=true){x0 y0:Int}(hx0:s.c.has x0 y0=true):
  RuOk (zQ5 s (zZY (zQd s) n i))/\wtL (zZY (zQd s) n i)<wtL s.ops/\∀x y,s.c.has x y=true->zX2 (zQA s.bits) s.ims x y (zZY (zQd s) n i)=zX2 (zQA s.bits) s.ims x y s.ops:=by
 obtain⟨f,V⟩:=h.view;obtain⟨c,t,A⟩:=V.at_ (i:=i) hi hk;have D:=V.done A h1 h9 hr;have W:∀x y,s.c.has x y=true->zJQ ⟨zQA s.bits,s.ims,x,y⟩ s.bits jKY f (Fo.put (gOf (zQd s) n) f i):=λx y hx=>
  zHM (q:=⟨zQA s.bits,s.ims,x,y⟩) ⟨h.ims,rfl⟩ _ f i jKY c t A.dig (V.well (q:=⟨zQA s.bits,s.ims,x,y⟩) rfl rfl hx A h1 hr).1
 have ops:s.ops=f.flat:=V.ops;have w0:=W x0 y0 hx0;have vf':=w0.vf [] rfl V.vf;have op':=w0.opac V.opac;obtain⟨ok',okl⟩:=zHY _ _ vf';refine⟨⟨by show okO s.bits s.ims.length (zZY (zQd s) n i) []=some [];rw[D];exact okl,by show ∀o∈zZY (zQd s) n i,0<=o.opac;rw[D];exact op',h.dim,h.formed,h.ims⟩,?_,λx y hx=>?_⟩
 .rw[D,ops];exact yQx A.dig (V.well (q:=⟨zQA s.bits,s.ims,x0,y0⟩) rfl rfl hx0 A h1 hr).2
 .have w:=W x y hx;have hq:Spot.ok ⟨zQA s.bits,s.ims,x,y⟩ s.bits:=⟨h.ims,rfl⟩
  rw[D,ops];have e1:=Spot.value_dn hq (f:=Fo.put (gOf (zQd s) n) f i) vf' op';have e2:=Spot.value_dn hq (f:=f) V.vf V.opac;have e3:=w.dn [] .zero .zero rfl V.vf V.opac (LvIn.base hq)
  show zX2 (zQA s.bits) s.ims x y _=zX2 (zQA s.bits) s.ims x y _
  have e1:zX2 (zQA s.bits) s.ims x y (Fo.put (gOf (zQd s) n) f i).flat=_:=e1;have e2:zX2 (zQA s.bits) s.ims x y f.flat=_:=e2;have e3:Spot.dn ⟨zQA s.bits,s.ims,x,y⟩ false .zero (Fo.put (gOf (zQd s) n) f i) .zero=Spot.dn ⟨zQA s.bits,s.ims,x,y⟩ false .zero f .zero:=e3;rw[e1,e2,e3]
structure VwIn(v:Vw)(i:Nat):Prop where
  lt:i<v.s.ops.length
  l1:v.ends.length=v.s.ops.length
  l2:v.grps.length=v.s.ops.length
  l3:v.kids.length=v.s.ops.length
  l4:v.fsts.length=v.s.ops.length
  op:v.s.ops[i]=opV v i
  end_:∃e:Nat,v.ends[i]?=some (e:Int)/\endV v i=e/\i<=e/\e<v.s.ops.length
  grp:∃g,v.grps[i]?=some g /\ -1<=g/\g<v.s.ops.length
  kid:v.kids[i]?=some (kidV v i)
  fst:v.fsts[i]?=some (fstV v i)
  mask:0<=(opV v i).mask/\(opV v i).mask<=v.s.ims.length
  img:(opV v i).kind=1->0<=(opV v i).image/\(opV v i).image<v.s.ims.length
  kind:(opV v i).kind=1\/(opV v i).kind=2
variable{v:Vw}
theorem VwOk.in_{f:Fo}(V:VwOk v f)(hi:i<v.s.ops.length)(hk:(opV v i).kind≠3):VwIn v i:=by
 obtain⟨c,s,A⟩:=V.at_ hi hk;obtain⟨st,w⟩:=V.opv A;rw[<-A.op]at w;have hl:v.s.ops.length=f.size:=by rw[V.ops,f.flat_len]
 have sz:=jW4 A.dig;have rs:=jGK A.is;obtain⟨h1,h2,h3,h4,h5,g,h6,h7⟩:=jZd f i 0 (-1) jKY c s A.dig;have m1:=w.mask;refine⟨hi,by rw[V.ends,zYA,hl],by rw[V.grps,zK5,hl],by rw[V.kids,zK3,hl],by rw[V.fsts,zK7,hl],?_,?_,?_,?_,?_,by omega,w.img,?_⟩
 .unfold opV;rw[List.getElem?_eq_getElem hi];rfl
 .refine⟨i+s.span,by rw[V.ends,h3];simp,A.end_,by omega,by omega⟩
 .refine⟨g,by rw[V.grps];exact h6,?_⟩
  rcases h7 with⟨e,_⟩|⟨m,e,o,h8,_⟩
  .omega
  .have:m<f.flat.length:=(wQE.1 h8).1;rw[f.flat_len]at this;omega
 .rw[A.kid,V.kids,h4]
 .rw[A.fst,V.fsts];exact h5
 .have:=zUO A.is (zHj f i _ c s V.ok A.dig);rw[A.op];omega
theorem VwOk.one{f:Fo}(V:VwOk v f)(hi:i<v.s.ops.length)(hk:(opV v i).kind=2)(hw:kidV v i=1):i+1<v.s.ops.length/\(opV v (i+1)).kind≠3/\i+2<=endV v i:=by
 obtain⟨c,s,A⟩:=V.at_ hi (by omega);have kk:=hk;rw[A.op]at hk;obtain⟨o,g,r,rfl⟩:=V.grp_of A hk;rw[A.kid]at hw;have hw:g.width=1:=by have:(g.width:Int)=1:=hw;omega
 obtain⟨gs,gr⟩:=zUj hw;have I:=V.in_ hi (by omega);obtain⟨e,e1,e2,e3,e4⟩:=I.end_;have sp:=A.end_;have zs:=jJz gs;have gk:=zUO gs (zHj f i _ c _ V.ok A.dig).2.1;simp only[Fo.span]at sp;refine⟨by omega,?_,by omega⟩;rw[V.inner A gs];omega
theorem zYL(I:VwIn v i):(ops v.s.ops)[i*12]?=some (.int .i64 (opV v i).kind)/\(ops v.s.ops)[i*12+1]?=some (.int .i64 (opV v i).image)/\(ops v.s.ops)[i*12+2]?=some (.int .i64 (opV v i).x)/\(ops v.s.ops)[i*12+3]?=some (.int .i64 (opV v i).y)/\(ops v.s.ops)[i*12+4]?=some (.int .i64 (opV v i).mask)/\(ops v.s.ops)[i*12+5]?=some (.int .i64 (opV v i).mx)/\(ops v.s.ops)[i*12+6]?=some (.int .i64 (opV v i).my)/\(ops v.s.ops)[i*12+7]?=some (.int .u16 (opV v i).opac)/\(ops v.s.ops)[i*12+8]?=some (.int .i64 (opV v i).oper)/\(ops v.s.ops)[i*12+9]?=some (.int .i64 (opV v i).mode)/\(ops v.s.ops)[i*12+10]?=some (.bool (opV v i).iso)/\(ops v.s.ops)[i*12+11]?=some (.bool (opV v i).kno):=by
 rw[<-I.op];exact zXF I.lt
theorem zYM(I:VwIn v i):nAt (ops v.s.ops) (i*12)=(opV v i).kind/\nAt (ops v.s.ops) (i*12+1)=(opV v i).image/\nAt (ops v.s.ops) (i*12+2)=(opV v i).x/\nAt (ops v.s.ops) (i*12+3)=(opV v i).y/\nAt (ops v.s.ops) (i*12+4)=(opV v i).mask/\nAt (ops v.s.ops) (i*12+5)=(opV v i).mx/\nAt (ops v.s.ops) (i*12+6)=(opV v i).my/\nAt (ops v.s.ops) (i*12+7)=(opV v i).opac/\nAt (ops v.s.ops) (i*12+8)=(opV v i).oper/\nAt (ops v.s.ops) (i*12+9)=(opV v i).mode/\bAt (ops v.s.ops) (i*12+10)=(opV v i).iso/\bAt (ops v.s.ops) (i*12+11)=(opV v i).kno:=by
 rw[<-I.op];exact zXG I.lt
def Im.tiny(m:Im):Prop:=∀k,k<5->∃n xs,m.ds[8+k*4+3]?=some (.sl n xs)/\xs.length=n/\n<=16777216
theorem zGa(w h:Int)(b:Bool)(c:Px):(⟨w,h,b,c,.none,.none,.none,.none,.none⟩:Im).tiny:=λk hk=>by
 match k,hk with
 |0,_=>exact⟨0,[],rfl,rfl,by decide⟩
 |1,_=>exact⟨0,[],rfl,rfl,by decide⟩
 |2,_=>exact⟨0,[],rfl,rfl,by decide⟩
 |3,_=>exact⟨0,[],rfl,rfl,by decide⟩
 |4,_=>exact⟨0,[],rfl,rfl,by decide⟩
theorem jHs(w h:Int)(l:List Px):(imOf w h l).tiny:=by
 unfold imOf;split
 .rename_i hk;have hl:l.length<=16777216:=by
   unfold ofOk at hk;simp only[wQd,wQf]at hk;have:=(zXM hk.1).2.2.2.2;omega
  have hc:∀g,(chan l g).length=l.length:=λg=>by simp[chan,zJG]
  intro k hk
  match k,hk with
  |0,_=>exact⟨l.length,chan l Px.a,rfl,hc _,hl⟩
  |1,_=>exact⟨l.length,chan l Px.b,rfl,hc _,hl⟩
  |2,_=>exact⟨l.length,chan l Px.c,rfl,hc _,hl⟩
  |3,_=>exact⟨l.length,chan l Px.al,rfl,hc _,hl⟩
  |4,_=>exact⟨l.length,chan l Px.f,rfl,hc _,hl⟩
 .exact zGa _ _ _ _
theorem Scn.ims_tiny(s:Scn):∀m∈s.ims,m.tiny:=by
 intro m hm;unfold Scn.ims at hm;split at hm
 .rw[wQr]at hm;subst hm;exact zGa _ _ _ _
 .simp only[Scn.pics,wQw]at hm;obtain⟨k,_,rfl⟩:=hm
  show(zJj _ _ _ _ _ _ _ _ _ _ _).tiny
  unfold zJj;simp only;split
  .exact zGa _ _ _ _
  .exact jHs _ _ _
theorem yXi(r:Rw)(push:Bool)(n:Int)(c:Rc)(free:Bool){most:Int}(h0:0<=most)(h1:most<=65535):0<=(gOp r push n c free most).opac:=by
 unfold gOp;simp only;split
 .have:=zYT (wrap .i64 (Int.tdiv r.op 2)) h0 h1;omega
 .omega
theorem Scn.run_op0(s:Scn):∀k,∀o∈(s.run k).1,0<=o.opac
 |0,o,ho=>by cases ho
 |k+1,o,ho=>by
  have hm:0<=s.most/\s.most<=65535:=by rcases s.most_in with h|h<;>rw[h]<;>omega
  have ih:=s.run_op0 k;have ho:o∈(s.step (rwAt s.rxs (k*11)) (s.run k)).1:=ho;unfold Scn.step at ho;split at ho
  .rcases List.mem_append.1 ho with h|h
   .exact ih o h
   .rw[wQr]at h;subst h;decide
  .rcases List.mem_append.1 ho with h|h
   .exact ih o h
   .rw[wQr]at h;subst h;exact yXi _ _ _ _ _ hm.1 hm.2
theorem Scn.op0(s:Scn):∀o∈s.ops,0<=o.opac:=λo ho=>by
 rcases List.mem_append.1 (show o∈(s.run (min s.rn 9)).1++List.replicate (s.run (min s.rn 9)).2.length popO from ho) with h|h
 .exact s.run_op0 _ o h
 .rw[List.eq_of_mem_replicate h];decide
theorem Scn.px_fine(s:Scn):∀m∈s.ims,m.formed=true/\∀p∈m.pixels,p.fine s.most:=by
 have CF:=s.c_facts;have hq:1<=s.c.c-s.c.a/\s.c.c-s.c.a<=100/\1<=s.c.d-s.c.b/\s.c.d-s.c.b<=100:=by have:=s.facts;omega
 have hm:0<=s.most/\s.most<=65535:=by rcases s.most_in with h|h<;>rw[h]<;>omega
 intro m hmem;refine⟨(s.fine m hmem).1,?_⟩;unfold Scn.ims at hmem;split at hmem
 .rw[wQr]at hmem;subst hmem;have F:=s.facts;have hf:zZi s.gw s.gh=true:=by
   have:=wQz F.2.2.1.2 F.2.2.2.1.2 (by omega) (by omega);simp[zZi];omega
  intro p hp;change p∈(zQW s.gw s.gh ⟨s.most,0,0,s.most,s.most⟩).pixels at hp;rw[Im.pixels_of (zZ0 _ hf),Im.list,wQw]at hp;obtain⟨k,_,rfl⟩:=hp;have e:(zQW s.gw s.gh ⟨s.most,0,0,s.most,s.most⟩).nth k=⟨s.most,0,0,s.most,s.most⟩:=by simp[Im.nth,Im.px,zQW]
  change ((zQW s.gw s.gh ⟨s.most,0,0,s.most,s.most⟩).nth k).fine s.most;rw[e];exact⟨by simp[Px.ok];omega,by simp only;omega,by simp only;omega,by simp only;omega,by simp only;omega⟩
 .simp only[Scn.pics,wQw]at hmem;obtain⟨k,_,rfl⟩:=hmem;exact λp hp=>jQ3 _ _ _ _ _ _ _ _ _ _ hm.1 hm.2 hq p hp
variable{x y:Int}
theorem Im.at_mem{m:Im}(hf:m.formed=true)(hx:0<=x/\x<m.w)(hy:0<=y/\y<m.h):m.at_ x y∈m.pixels:=by
 have h1:=zXM (Im.formed_of hf).1;rw[Im.at_in hf hx hy,Im.pixels_of hf,Im.list,wQw];have hlt:x.toNat<m.w.toNat:=by omega
 refine⟨y.toNat*m.w.toNat+x.toNat,?_,?_⟩
 .rw[wQy];have:(y.toNat+1)*m.w.toNat<=m.h.toNat*m.w.toNat:=wQ1 _ (by omega);rw[wQS m.w.toNat];rw[wQu]at this;omega
 .have e1:(y.toNat*m.w.toNat+x.toNat)%m.w.toNat=x.toNat:=by
   rw[wQS,Nat.mul_add_mod,wZj hlt]
  have e2:(y.toNat*m.w.toNat+x.toNat) / m.w.toNat=y.toNat:=by
   rw[wQS,Nat.mul_add_div (by omega),wXT hlt,Nat.add_zero]
  unfold Im.nth;rw[e1,e2,wXf hx.1,wXf hy.1]
theorem Scn.full(s:Scn):zXe s.most=true:=by
 rcases s.most_in with h|h<;>rw[h]<;>rfl
theorem Scn.ims_ok(s:Scn):zJT s.most s.ims:=by
 refine⟨s.full,λm hm x y=>?_⟩;obtain⟨hf,hp⟩:=s.px_fine m hm;by_cases h:0<=x/\x<m.w/\0<=y/\y<m.h
 .have:=hp _ (Im.at_mem hf ⟨h.1,h.2.1⟩ ⟨h.2.2.1,h.2.2.2⟩);exact⟨this.1,this.2.1,this.2.2.1,this.2.2.2.1⟩
 .rw[at_out h];exact zJE (by have:=(zZC s.full).1;omega)
theorem Scn.dim_ok(s:Scn):zG4 s.ims:=λm hm=>by
 obtain⟨hf,⟨h1,h2⟩,_⟩:=s.fine m hm;have:=zXM (Im.formed_of hf).1;omega
theorem Scn.bits_most(s:Scn):zQA s.bits=s.most:=s.bits_max.1
theorem Scn.forest(s:Scn):∃w:Fo,w.vf s.bits s.ims.length []/\s.ops=w.flat:=by
 obtain⟨w,hw,e⟩:=jYK s.ops_ok;have h:=s.ops_ok;rw[e]at h;exact⟨w,(jQD w [] [] hw h).1,e⟩
def Fo.app:Fo->Fo->Fo
 |.nil,g=>g
 |.draw o r,g=>.draw o (r.app g)
 |.grp o k r,g=>.grp o k (r.app g)
theorem zYD:∀f g:Fo,(f.app g).flat=f.flat++g.flat
 |.nil,g=>rfl
 |.draw o r,g=>by simp[Fo.app,Fo.flat,zYD r g]
 |.grp o k r,g=>by simp[Fo.app,Fo.flat,zYD r g]
theorem jJd:∀f g:Fo,(f.app g).size=f.size+g.size
 |.nil,g=>by simp[Fo.app,Fo.size]
 |.draw o r,g=>by simp[Fo.app,Fo.size,jJd r g];omega
 |.grp o k r,g=>by simp[Fo.app,Fo.size,jJd r g];omega
theorem jKZ{bits:Int}{mn:Nat}{st:List Oq}:∀f g:Fo,(f.app g).vf bits mn st↔f.vf bits mn st/\g.vf bits mn st
 |.nil,g=>by simp[Fo.app,Fo.vf]
 |.draw o r,g=>by simp[Fo.app,Fo.vf,jKZ r g,and_assoc]
 |.grp o k r,g=>by simp[Fo.app,Fo.vf,jKZ r g,and_assoc]
theorem jJe(s:Scr):∀(f g:Fo)(n:Nat),boxL s n (f.app g)=boxL s n f++boxL s (n+f.size) g
 |.nil,g,n=>by simp[Fo.app,Fo.size,boxL]
 |.draw o r,g,n=>by
  rw[Fo.app,zU8,zU8,jJe s r g];simp only[Fo.size,List.cons_append];rw[show n+1+r.size=n+(r.size+1) by omega]
 |.grp o k r,g,n=>by
  rw[Fo.app,zHW,zHW,jJe s r g];simp only[Fo.size,List.cons_append,List.append_assoc];rw[show n+k.size+2+r.size=n+(k.size+r.size+2) by omega]
theorem jZp:∀f g h:Fo,(f.app g).app h=f.app (g.app h)
 |.nil,g,h=>rfl
 |.draw o r,g,h=>by simp[Fo.app,jZp r g h]
 |.grp o k r,g,h=>by simp[Fo.app,jZp r g h]
def Fo.one:Fo->Fo × Fo
 |.nil=>(.nil,.nil)
 |.draw o r=>(.draw o .nil,r)
 |.grp o k r=>(.grp o k .nil,r)
theorem jVL:∀f:Fo,f.one.1.app f.one.2=f
 |.nil=>rfl
 |.draw o r=>rfl
 |.grp o k r=>rfl
variable{A:Fo}
theorem Scn.outside(s:Scn){E B:Fo}(hv:(A.app (E.app B)).vf s.bits s.ims.length [])(he:s.ops=(A.app (E.app B)).flat)(hc:s.c.has x y=true)(hb:∀r∈zQS s.scr E,r.has x y=false):
  zX2 s.most s.ims x y (A.flat++B.flat)=zX2 s.most s.ims x y s.ops:=by
 rw[jKZ,jKZ]at hv;obtain⟨v1,v2,v3⟩:=hv;have hop:∀o∈s.ops,0<=o.opac:=s.op0;rw[he,zYD,zYD]at hop;obtain⟨a,e1,h1⟩:=zWi s.ims_ok s.bits_most x y A [] [] zZ8 v1 (λo ho=>hop o (by simp[ho])) (jZj s.full);have e2:=jQc (s:=s.scr) s.dim_ok s.ims_ok s.bits_most hc E [] [] _ v2 (λo ho=>hop o (by simp[ho])) h1 hb;have key:runM s.most s.ims x y (A.flat++B.flat) [zZ8]=runM s.most s.ims x y s.ops [zZ8]:=by
  rw[he,zYD,zYD,zYZ,zYZ,zYZ];rw[List.nil_append]at e1;rw[e1];change _=runM s.most s.ims x y B.flat (runM s.most s.scr.ims x y E.flat ([]++[_]));rw[e2]
 unfold zX2;rw[key]
def zZL(s:Scr)(r:Rc)(n:Nat):Nat->List Oq
 |0=>[]
 |k+1=>zZL s r n k++(if zXV s r (n+k) then[opAt s (n+k)] else[])
theorem zVV(s:Scr)(r:Rc)(n a:Nat):∀b,zZL s r n (a+b)=zZL s r n a++zZL s r (n+a) b
 |0=>by simp[zZL]
 |b+1=>by
  rw[<-Nat.add_assoc,zZL,zZL,zVV s r n a b,List.append_assoc,Nat.add_assoc]
theorem zGO(s:Scr)(r:Rc)(n b:Nat):zZL s r n (b+1)=(if zXV s r n then[opAt s n] else[])++zZL s r (n+1) b:=by
 rw[wX4,zVV];simp[zZL]
theorem zGN(s:Scr)(r:Rc)(n:Nat):∀b,(∀p,n<=p->p<n+b->zXV s r p=false)->zZL s r n b=[]
 |0,_=>rfl
 |b+1,h=>by
  rw[zZL,zGN s r n b (λp h1 h2=>h p h1 (by omega)),h (n+b) (by omega) (by omega)];rfl
variable{p:Nat}
theorem jV0(h:s.run.1=0)(r:Rc)(hp:p<s.ops.length):hitB s r p=hit r (boxN s 0 (foOf s) p):=by
 unfold hitB hit;rw[zVc h hp]
variable{o:Oq}
theorem jVJ(h:s.run.1=0)(e:(foOf s).flat[p]?=some o):opAt s p=o:=by
 unfold opAt;rw[(zXL h).2,e];rfl
theorem yZl(s:Scr)(r:Rc)(o:Oq)(k:Fo):(Fo.draw o k).act s r=if hit r (boxF s o (imgR s o)) then .draw o (k.act s r) else k.act s r:=by rw[Fo.act]
theorem yXD(s:Scr)(r:Rc)(o:Oq)(g k:Fo):(Fo.grp o g k).act s r=if hit r (boxF s o (zZX (zQS s g))) then .grp o (g.act s r) (k.act s r) else k.act s r:=by rw[Fo.act]
theorem jQM{s:Scr}(h:s.run.1=0)(r:Rc):∀(f:Fo)(n:Nat),Occ s (foOf s) n f->(∀j,j<n->(opAt s j).kind=2->n<enAt s j->hitB s r j=true)->zZL s r n f.size=(f.act s r).flat
 |.nil,n,_,_=>rfl
 |.draw o k,n,ho,hg=>by
  obtain⟨h1,h2,h3,h4,h5,h6⟩:=ho.draw;have hl:n<s.ops.length:=by rw[zZP h];exact h2
  have eo:=jVJ h h3
  have ih:=jQM h r k (n+1) h6 (λj hj hk he=>by
   rcases wQx j n with hlt|hge
   .exact hg j hlt hk (by omega)
   .have:j=n:=by omega
    subst this
    rw[eo]at hk;omega)
  have ha:zXV s r n=hit r (boxF s o (imgR s o)):=by
   rw[<-h5,<-jV0 h r hl]
   cases hb:hitB s r n with
   |false=>
    cases q:zXV s r n with
    |false=>rfl
    |true=>rw[((zXO s r n).1 q).1]at hb;cases hb
   |true=>exact(zXO s r n).2 ⟨hb,λj hj hk he=>hg j hj hk he⟩
  rw[Fo.size,zGO,ih,ha,eo];rw[yZl]
  cases hit r (boxF s o (imgR s o)) with
  |false=>rfl
  |true=>rfl
 |.grp o g k,n,ho,hg=>by
  obtain⟨h1,h2,h3,h4,h5,h6,h7,h8,h9,h10⟩:=ho.grp;have hl:n<s.ops.length:=by rw[zZP h];omega
  have hl2:n+g.size+1<s.ops.length:=by rw[zZP h];exact h2
  have eo:=jVJ h h3;have ep:=jVJ h h4;have en:enAt s n=n+g.size+1:=by rw[(zXN h hl).2,h5]
  have k2:(opAt s n).kind=2:=by rw[eo];exact h1
  have ha:zXV s r n=hit r (boxF s o (zZX (zQS s g))):=by
   rw[<-h7,<-jV0 h r hl]
   cases hb:hitB s r n with
   |false=>
    cases q:zXV s r n with
    |false=>rfl
    |true=>rw[((zXO s r n).1 q).1]at hb;cases hb
   |true=>exact(zXO s r n).2 ⟨hb,λj hj hk he=>hg j hj hk he⟩
  have hp:zXV s r (n+g.size+1)=zXV s r n:=by rw[<-en];exact jWg h r hl k2
  have ih:=jQM h r k (n+g.size+2) h10 (λj hj hk he=>by
   rcases wQx j n with hlt|hge
   .exact hg j hlt hk (by omega)
   .rcases wQx n j with hnj|hnj
    .rcases wQx j (n+g.size+1) with hin|hin
     .have:=zU0 h hl hnj (by rw[en];omega);omega
     .have:j=n+g.size+1:=by omega
      subst this;rw[ep]at hk;cases hk
    .have:j=n:=by omega
     subst this
     omega)
  rw[Fo.size,show g.size+k.size+2=(1+(g.size+1))+k.size by omega,zVV,show n+(1+(g.size+1))=n+g.size+2 by omega,ih];rw[yXD]
  cases hb:hit r (boxF s o (zZX (zQS s g))) with
  |true=>
   have ha2:zXV s r n=true:=by rw[ha,hb]
   have ig:=jQM h r g (n+1) h9 (λj hj hk he=>by
    rcases wQx j n with hlt|hge
    .exact hg j hlt hk (by omega)
    .have:j=n:=by omega
     subst this
     exact((zXO s r j).1 ha2).1)
   rw[wX4 1,zGO,zZL,ig,ha2,show n+1+g.size=n+g.size+1 by omega,hp,ha2,eo,ep];simp[Fo.flat]
  |false=>
   rw[zGN s r n]
   .rfl
   .intro p p1 p2
    rcases wQx n p with hnp|hnp
    .rcases wQx p (n+g.size+1) with hin|hin
     .cases q:zXV s r p with
      |false=>rfl
      |true=>
       have:=((zXO s r p).1 q).2 n hnp k2 (by omega);rw[jV0 h r hl,h7,hb]at this;cases this
     .have:p=n+g.size+1:=by omega
      rw[this,hp,ha,hb]
    .have:p=n:=by omega
     rw[this,ha,hb]
def Scn.left(s:Scn)(r:Rc):List Oq:=zZL s.scr r 0 s.ops.length
def jYD(s:Scr):Fo->Rc
 |.nil=>.zero
 |.draw o r=>boxF s o (imgR s o)
 |.grp o k r=>boxF s o (zZX (zQS s k))
theorem yXy(s:Scr)(f:Fo)(hn:f≠.nil):zQS s f.one.1=[jYD s f]:=by
 cases f with
 |nil=>exact absurd rfl hn
 |draw o r=>rfl
 |grp o k r=>rfl
theorem yZf(s:Scr)(f:Fo)(n:Nat)(hn:f≠.nil):(boxL s n f)[0]?=some (jYD s f):=by
 cases f with
 |nil=>exact absurd rfl hn
 |draw o r=>rw[zU8];rfl
 |grp o k r=>rw[zHW];rfl
abbrev OutZ:=Fo × Fo × Nat
structure zWe(s:Scn)(z:OutZ):Prop where
  vf:(z.1.app z.2.1).vf s.bits s.ims.length []
  ops:s.ops=(z.1.app z.2.1).flat
variable{z:OutZ}{s:Scn}
theorem zWe.box(h:zWe s z)(hn:z.2.1≠.nil):(zXB s.scr).1[z.1.size]?=some (jYD s.scr z.2.1):=by
 have hr:s.scr.run.1=0:=by rw[s.scr_run]
 have e:=jUb (s:=s.scr) (zHY _ [] h.vf).1 h.ops;unfold zXB;rw[if_pos hr,e,jJe,wQq (by rw[zYd];exact Nat.le_refl _),zYd,wZa];exact yZf _ _ _ hn
theorem zWe.len(h:zWe s z):s.ops.length=z.1.size+z.2.1.size:=by
 rw[h.ops,Fo.flat_len,jJd]
theorem zWe.rest(h:zWe s z):s.ops.drop z.1.size=z.2.1.flat:=by
 rw[h.ops,zYD,<-z.1.flat_len];simp
variable{n:Nat}
theorem zWe.next{F:Fo}{m:Nat}(h:zWe s (A,F,n)):zWe s (A.app F.one.1,F.one.2,m):=by
 have e:(A.app F.one.1).app F.one.2=A.app F:=by rw[jZp,jVL]
 exact⟨by simpa only[e]using h.vf,by simpa only[e]using h.ops⟩
theorem zWe.start(s:Scn)(n:Nat):∃w:Fo,zWe s (.nil,w,n):=by
 obtain⟨w,h1,h2⟩:=s.forest;exact⟨w,h1,h2⟩
theorem zWe.ok{s:Scn}{z:OutZ}(h:zWe s z):z.2.1.ok:=(zHY _ [] ((jKZ _ _).1 h.vf).2).1
abbrev wJb:=@Nat.add_sub_cancel_left
variable{j:Nat}
theorem zWe.op(h:zWe s z)(hj:j<z.2.1.one.1.size)(hl:z.1.size+j<s.ops.length):s.ops[z.1.size+j]=z.2.1.one.1.flat[j]'(by rw[Fo.flat_len];exact hj):=by
 have hj2:j<z.2.1.one.1.flat.length:=by rw[Fo.flat_len];exact hj
 have e2:s.ops[z.1.size+j]?=some (z.2.1.one.1.flat[j]):=by
  rw[h.ops,zYD,wQq (by rw[Fo.flat_len];omega),Fo.flat_len,wJb];have e:z.2.1.flat=z.2.1.one.1.flat++z.2.1.one.2.flat:=by rw[<-zYD,jVL]
  rw[e,wQO hj2,List.getElem?_eq_getElem hj2]
 rw[List.getElem?_eq_getElem hl]at e2;exact wXM e2
theorem zWe.value(h:zWe s z)(hn:z.2.1≠.nil)(hc:s.c.has x y=true)(hb:(jYD s.scr z.2.1).has x y=false):
  zX2 s.most s.ims x y (s.ops.take z.1.size++s.ops.drop (z.1.size+z.2.1.one.1.size))=zX2 s.most s.ims x y s.ops:=by
 have e:z.2.1=z.2.1.one.1.app z.2.1.one.2:=(jVL _).symm;have hv:=h.vf;have ho:=h.ops;rw[e]at hv ho
 have:=s.outside hv ho hc (λr hr=>by
  rw[yXy _ _ hn,wQr]at hr
  rw[hr];exact hb)
 rw[<-this];congr 1;have l1:=z.1.flat_len;have l2:=z.2.1.one.1.flat_len;rw[ho,zYD,zYD,<-l1,<-l2];simp[List.drop_append]
theorem jKj{most:Int}:∀(l:List Im)(i:Int),(∀m∈l,m.valid most=0)->(imsE most l i).1=0
 |[],_,_=>rfl
 |m::l,i,h=>by
  simp only[imsE];rw[if_pos (h m (by simp))];exact jKj l _ λq hq=>h q (by simp[hq])
def acs(l:List Ac):List DV:=l.flatMap Ac.ds
theorem jU5(l k:List Ac):acs l++acs k=acs (l++k):=by simp[acs]
theorem zYp(l:List Ac):(acs l).length=l.length*6:=by
 induction l with
 |nil=>rfl
 |cons t l ih=>
  show(t.ds++acs l).length=_
  rw[wQe,ih];simp only[Ac.ds,wQC,wZr];omega
theorem yXF{l:List Ac}(h:k<l.length)(j:Nat)(hj:j<6):(acs l)[k*6+j]?=l[k].ds[j]?:=by
 induction l generalizing k with
 |nil=>simp at h
 |cons o l ih=>
  have e:acs (o::l)=o.ds++acs l:=by simp[acs]
  have ec:o.ds.length=6:=rfl;rw[e]
  cases k with
  |zero=>simp only[wX3];rw[wQO (by omega)];simp
  |succ k=>
   rw[wQq (by omega)];have:=ih (k:=k) (by simpa using h);simp only[wZC];rw[<-this];congr 1;omega
theorem jZr{l:List Ac}(h:k<l.length):(acs l)[k*6+0]?=some (.int .u16 l[k].a)/\(acs l)[k*6+1]?=some (.int .u16 l[k].b)/\(acs l)[k*6+2]?=some (.int .u16 l[k].c)/\(acs l)[k*6+3]?=some (.int .u16 l[k].al)/\(acs l)[k*6+4]?=some (.int .u16 l[k].own)/\(acs l)[k*6+5]?=some (.int .u16 l[k].f):=by
 have g:=λj hj=>yXF h j hj;exact⟨g 0 (by omega),g 1 (by omega),g 2 (by omega),g 3 (by omega),g 4 (by omega),g 5 (by omega)⟩
theorem jZs{l:List Ac}(h:k<l.length):nAt (acs l) (k*6+0)=l[k].a/\nAt (acs l) (k*6+1)=l[k].b/\nAt (acs l) (k*6+2)=l[k].c/\nAt (acs l) (k*6+3)=l[k].al/\nAt (acs l) (k*6+4)=l[k].own/\nAt (acs l) (k*6+5)=l[k].f:=by
 obtain⟨e0,e1,e2,e3,e4,e5⟩:=jZr h;simp only[nAt,bAt,e0,e1,e2,e3,e4,e5,and_self]
def acAt(xs:List DV)(i:Nat):Ac:=⟨nAt xs (i+0),nAt xs (i+1),nAt xs (i+2),nAt xs (i+3),nAt xs (i+4),nAt xs (i+5)⟩
theorem yZn{l:List Ac}(h:k<l.length):acAt (acs l) (k*6)=l[k]:=by
 obtain⟨e0,e1,e2,e3,e4,e5⟩:=jZs h;simp only[acAt,e0,e1,e2,e3,e4,e5]
def jJv(xs:List DV):List Ac:=(List.range (xs.length / 6)).map λk=>acAt xs (k*6)
theorem zUo(l:List Ac):jJv (acs l)=l:=by
 have e:(acs l).length / 6=l.length:=by rw[zYp];omega
 unfold jJv;rw[e];refine wQP (by simp) λi h1 h2=>?_;simp only[List.getElem_map,wZs];exact yZn h2
structure Fr where
  op:Oq
  acc:List Ac
  back:List Px
def Fr.cells(t:Fr):List DV:=t.op.cells++[.sl t.acc.length (acs t.acc),.sl t.back.length (pxs t.back)]
def frs(l:List Fr):List DV:=l.flatMap Fr.cells
theorem jUS(l k:List Fr):frs l++frs k=frs (l++k):=by simp[frs]
theorem zGV(l:List Fr):(frs l).length=l.length*14:=by
 induction l with
 |nil=>rfl
 |cons t l ih=>
  show(t.cells++frs l).length=_
  rw[wQe,ih];simp only[Fr.cells,Oq.cells,wQe,wQC,wZr];omega
theorem yXj{l:List Fr}(h:k<l.length)(j:Nat)(hj:j<14):(frs l)[k*14+j]?=l[k].cells[j]?:=by
 induction l generalizing k with
 |nil=>simp at h
 |cons o l ih=>
  have e:frs (o::l)=o.cells++frs l:=by simp[frs]
  have ec:o.cells.length=14:=rfl;rw[e]
  cases k with
  |zero=>simp only[wX3];rw[wQO (by omega)];simp
  |succ k=>
   rw[wQq (by omega)];have:=ih (k:=k) (by simpa using h);simp only[wZC];rw[<-this];congr 1;omega
theorem jKx{l:List Fr}(h:k<l.length):(frs l)[k*14+0]?=some (.int .i64 l[k].op.kind)/\(frs l)[k*14+1]?=some (.int .i64 l[k].op.image)/\(frs l)[k*14+2]?=some (.int .i64 l[k].op.x)/\(frs l)[k*14+3]?=some (.int .i64 l[k].op.y)/\(frs l)[k*14+4]?=some (.int .i64 l[k].op.mask)/\(frs l)[k*14+5]?=some (.int .i64 l[k].op.mx)/\(frs l)[k*14+6]?=some (.int .i64 l[k].op.my)/\(frs l)[k*14+7]?=some (.int .u16 l[k].op.opac)/\(frs l)[k*14+8]?=some (.int .i64 l[k].op.oper)/\(frs l)[k*14+9]?=some (.int .i64 l[k].op.mode)/\(frs l)[k*14+10]?=some (.bool l[k].op.iso)/\(frs l)[k*14+11]?=some (.bool l[k].op.kno)/\(frs l)[k*14+12]?=some (.sl l[k].acc.length (acs l[k].acc))/\(frs l)[k*14+13]?=some (.sl l[k].back.length (pxs l[k].back)):=by
 have g:=λj hj=>yXj h j hj;exact⟨g 0 (by omega),g 1 (by omega),g 2 (by omega),g 3 (by omega),g 4 (by omega),g 5 (by omega),g 6 (by omega),g 7 (by omega),g 8 (by omega),g 9 (by omega),g 10 (by omega),g 11 (by omega),g 12 (by omega),g 13 (by omega)⟩
theorem jKz{l:List Fr}(h:k<l.length):nAt (frs l) (k*14+0)=l[k].op.kind/\nAt (frs l) (k*14+1)=l[k].op.image/\nAt (frs l) (k*14+2)=l[k].op.x/\nAt (frs l) (k*14+3)=l[k].op.y/\nAt (frs l) (k*14+4)=l[k].op.mask/\nAt (frs l) (k*14+5)=l[k].op.mx/\nAt (frs l) (k*14+6)=l[k].op.my/\nAt (frs l) (k*14+7)=l[k].op.opac/\nAt (frs l) (k*14+8)=l[k].op.oper/\nAt (frs l) (k*14+9)=l[k].op.mode/\bAt (frs l) (k*14+10)=l[k].op.iso/\bAt (frs l) (k*14+11)=l[k].op.kno/\(lAt (frs l) (k*14+12)=l[k].acc.length/\cAt (frs l) (k*14+12)=acs l[k].acc)/\lAt (frs l) (k*14+13)=l[k].back.length/\cAt (frs l) (k*14+13)=pxs l[k].back:=by
 obtain⟨e0,e1,e2,e3,e4,e5,e6,e7,e8,e9,e10,e11,e12,e13⟩:=jKx h;simp only[nAt,bAt,lAt,cAt,e0,e1,e2,e3,e4,e5,e6,e7,e8,e9,e10,e11,e12,e13,and_self]
def frAt(xs:List DV)(i:Nat):Fr:=⟨⟨nAt xs (i+0),nAt xs (i+1),nAt xs (i+2),nAt xs (i+3),nAt xs (i+4),nAt xs (i+5),nAt xs (i+6),nAt xs (i+7),nAt xs (i+8),nAt xs (i+9),bAt xs (i+10),bAt xs (i+11)⟩,jJv (cAt xs (i+12)),zQo (cAt xs (i+13))⟩
theorem yQ1{l:List Fr}(h:k<l.length):frAt (frs l) (k*14)=l[k]:=by
 obtain⟨e0,e1,e2,e3,e4,e5,e6,e7,e8,e9,e10,e11,⟨_,e12⟩,_,e13⟩:=jKz h;simp only[frAt,e0,e1,e2,e3,e4,e5,e6,e7,e8,e9,e10,e11,e12,e13,zUo,zZN]
def zHq(xs:List DV):List Fr:=(List.range (xs.length / 14)).map λk=>frAt xs (k*14)
theorem jJu(l:List Fr):zHq (frs l)=l:=by
 have e:(frs l).length / 14=l.length:=by rw[zGV];omega
 unfold zHq;rw[e];refine wQP (by simp) λi h1 h2=>?_;simp only[List.getElem_map,wZs];exact yQ1 h2
theorem zGm{cs:List DV}:∀(ys xs:List DV)(i:Nat),sets (cs++xs) (i+cs.length) ys=cs++sets xs i ys
 |[],xs,i=>rfl
 |y::ys,xs,i=>by
  rw[sets,sets,List.set_append_right _ _ (by omega),show i+cs.length-cs.length=i by omega,show i+cs.length+1=(i+1)+cs.length by omega];exact zGm ys _ _
def u16s(l:List Int):List DV:=l.map (.int .u16)
theorem zH1(l:List Int):(u16s l).length=l.length:=by simp[u16s]
theorem jGi{l:List Int}(h:k<l.length):(u16s l)[k]?=some (.int .u16 l[k]):=by simp[u16s,h]
theorem jWh{l:List Int}(h:k<l.length):nAt (u16s l) k=l[k]:=by simp[nAt,jGi h]
theorem jVa(l k:List Int):u16s l++u16s k=u16s (l++k):=by simp[u16s]
theorem jHo(l:List Int):ints (u16s l)=l:=by
 unfold ints u16s;rw[wZk];exact(List.map_congr_left λx _=>rfl).trans (List.map_id' l)
def pxN(l:List Px)(j:Nat):Px:=(l[j]?).getD .zero
def acN(l:List Ac)(j:Nat):Ac:=(l[j]?).getD .zero
def ksN(mk:List Int)(m:Int)(j:Nat):Int:=if mk.length=0 then m else(mk[j]?).getD 0
def scR(m opac:Int)(l:List Px)(mk:List Int):List Px:=(List.range l.length).map λj=>(zKH (pxN l j) (ksN mk m j) opac m).1
def stR(kno:Bool)(op mode m:Int)(l:List Px)(acc:List Ac)(back:List Px):List Ac:=(List.range l.length).map λj=>accS kno op mode m (pxN l j) (acN acc j) (pxN back j)
def rsR(m:Int)(acc:List Ac)(back:List Px):List Px:=(List.range acc.length).map λj=>zZy (acN acc j) (pxN back j) m
theorem zJN{l:List Px}(h:k<l.length):pxN l k=l[k]:=by unfold pxN;rw[List.getElem?_eq_getElem h];rfl
theorem jXN{l:List Ac}(h:k<l.length):acN l k=l[k]:=by unfold acN;rw[List.getElem?_eq_getElem h];rfl
def yYl(l:List Px)(acc:List Ac)(back:List Px)(k:Nat):Prop:=0<k/\pxN l k=pxN l (k-1)/\acN acc k=acN acc (k-1)/\pxN back k=pxN back (k-1)
theorem zJ8(m opac:Int)(l:List Px)(mk:List Int):(scR m opac l mk).length=l.length:=by simp[scR]
theorem jVf(kno:Bool)(op mode m:Int)(l:List Px)(acc:List Ac)(back:List Px):(stR kno op mode m l acc back).length=l.length:=by simp[stR]
theorem zGw(m:Int)(acc:List Ac)(back:List Px):(rsR m acc back).length=acc.length:=by simp[rsR]
variable{m:Int}{mk:List Int}
theorem jGA{opac:Int}{l:List Px}(h:k<(scR m opac l mk).length):(scR m opac l mk)[k]=(zKH (pxN l k) (ksN mk m k) opac m).1:=by simp[scR]
variable{acc:List Ac}{back:List Px}
theorem yZu{kno:Bool}{op mode:Int}{l:List Px}(h:k<(stR kno op mode m l acc back).length):(stR kno op mode m l acc back)[k]=accS kno op mode m (pxN l k) (acN acc k) (pxN back k):=by simp[stR]
theorem jGD(h:k<(rsR m acc back).length):(rsR m acc back)[k]=zZy (acN acc k) (pxN back k) m:=by simp[rsR]
def rng{α:Type}(n:Nat)(f:Nat->α):List α:=(List.range n).map f
variable{α:Type}
theorem zXq(n:Nat)(f:Nat->α):(rng n f).length=n:=by simp[rng]
theorem jWq{f:Nat->α}(h:j<(rng n f).length):(rng n f)[j]=f j:=by simp[rng]
theorem zX7{f g:Nat->α}(h:∀j,j<n->f j=g j):rng n f=rng n g:=List.map_congr_left λj hj=>h j (by simpa using hj)
theorem zVM{f:Nat->Px}(h:j<n):pxN (rng n f) j=f j:=by rw[zJN (by rw[zXq];exact h),jWq]
theorem zUh{f:Nat->Ac}(h:j<n):acN (rng n f) j=f j:=by rw[jXN (by rw[zXq];exact h),jWq]
def lvN(L:List Lv)(t:Nat):Lv:=(L[t]?).getD zZ8
def colA(n:Nat)(L:Nat->List Lv)(t:Nat):Fr:=⟨(lvN (L 0) t).op,rng n λj=>(lvN (L j) t).acc,rng n λj=>(lvN (L j) t).back⟩
def colF(n:Nat)(L:Nat->List Lv):List Fr:=rng (L 0).length (colA n L)
def zHl(n:Nat):Fr:=⟨zZ8.op,List.replicate n .zero,List.replicate n .zero⟩
def topF(F:List Fr):Fr:=(F[F.length-1]?).getD (zHl 0)
def zKz(m:Int)(F:List Fr)(o:Oq)(src:List Px)(mk:List Int):List Fr:=
 F.set (F.length-1) ⟨(topF F).op,stR (topF F).op.kno o.oper o.mode m (scR m o.opac src mk) (topF F).acc (topF F).back,(topF F).back⟩
def zHA(F:List Fr)(o:Oq):List Fr:=
 F++[⟨o,rng (topF F).acc.length λj=>(zQG o.iso (topF F).op.kno (acN (topF F).acc j) (pxN (topF F).back j)).1,rng (topF F).acc.length λj=>(zQG o.iso (topF F).op.kno (acN (topF F).acc j) (pxN (topF F).back j)).2⟩]
theorem zYG(F:List Fr)(t:Fr):topF (F++[t])=t:=by simp[topF]
theorem yZx{P:List Lv}{t:Lv}(h:i<P.length):lvN (P++[t]) i=lvN P i:=by
 unfold lvN;rw[wQO h]
theorem jWN(P:List Lv)(t:Lv):lvN (P++[t]) P.length=t:=by simp[lvN]
theorem zY4(n:Nat)(L:Nat->List Lv):(colF n L).length=(L 0).length:=zXq _ _
variable{L:Nat->List Lv}
theorem jUX{L':Nat->List Lv}{t:Nat}(h0:lvN (L 0) t=lvN (L' 0) t)(h:∀j,j<n->lvN (L j) t=lvN (L' j) t):colA n L t=colA n L' t:=by
 unfold colA;rw[h0,zX7 (λj hj=>by rw[h j hj]),zX7 (g:=λj=>(lvN (L' j) t).back) (λj hj=>by rw[h j hj])]
variable{P:Nat->List Lv}{t:Nat->Lv}
theorem zXU(hk:∀j,(P j).length=k):
  colF n (λj=>P j++[t j])=colF n P++[⟨(t 0).op,rng n λj=>(t j).acc,rng n λj=>(t j).back⟩]:=by
 have g:∀(Q:Nat->List Lv)(u:Nat),u<(Q 0).length->(colF n Q)[u]?=some (colA n Q u):=λQ u h=>by
  unfold colF;rw[List.getElem?_eq_getElem (by rw[zXq];exact h),jWq]
 have e0:∀j,lvN (P j++[t j]) k=t j:=λj=>by have:=jWN (P j) (t j);rwa [hk j]at this
 refine wXa λi=>?_;by_cases e:i<k
 .rw[g _ i (by simp[hk];omega),wQO (by rw[zY4,hk];exact e),g _ i (by rw[hk];exact e)];exact congrArg some (jUX (yZx (by rw[hk];exact e)) λj _=>yZx (by rw[hk];exact e))
 .by_cases e2:i=k
  .subst e2;rw[g _ i (by simp[hk]),wQq (by rw[zY4,hk];omega),zY4,hk,wZa];simp only[colA,e0,wXh]
  .rw[wQW (by rw[zY4];simp[hk];omega),wQW (by simp[zY4,hk];omega)]
theorem jHS(n:Nat):colF n (λ_=>[zZ8])=[zHl n]:=by
 have:=zXU (n:=n) (k:=0) (P:=λ_=>[]) (t:=λ_=>zZ8) (λ_=>rfl);have e:∀{α:Type}(a:α),rng n (λ_=>a)=List.replicate n a:=λa=>by unfold rng;rw[wXG,wZD]
 rw[e,e]at this;exact this
theorem zUs{st:List Oq}(h:∀j,StOk m st (L j)):∃(P:Nat->List Lv)(t:Nat->Lv),(∀j,L j=P j++[t j])/\(∀j,(P j).length=st.length)/\∀j,(t j).op=(t 0).op:=by
 have hs:=λj=>(h j).split;refine⟨λj=>(L j).dropLast,λj=>lvN (L j) st.length,λj=>?_,λj=>?_,λj=>?_⟩
 .obtain⟨P,t,e⟩:=hs j;have hl:=(h j).len;rw[e]at hl;have hp:P.length=st.length:=by simpa using hl
  show L j=(L j).dropLast++[lvN (L j) st.length]
  rw[e,wZv,<-hp,jWN]
 .have hl:=(h j).len;rw[wXJ];omega
 .have g:∀j,((L j)[st.length]?).map Lv.op=(zZ8.op::st)[st.length]?:=λj=>by rw[<-(h j).ops,wQY]
  have k:∀j,st.length<(L j).length:=λj=>by have:=(h j).len;omega
  have q:∀j,lvN (L j) st.length=(L j)[st.length]'(k j):=λj=>by unfold lvN;rw[List.getElem?_eq_getElem (k j)];rfl
  have a:=g j;have b:=g 0;rw[List.getElem?_eq_getElem (k _)]at a b
  show(lvN (L j) st.length).op=(lvN (L 0) st.length).op
  rw[q,q];rw[<-b]at a;simpa using a
theorem yQh(A:List α)(x y:α):(A++[x]).set ((A++[x]).length-1) y=A++[y]:=by simp
theorem jHR(hk:∀j,(P j).length=k)(hop:∀j,(t j).op=(t 0).op){src:List Px}{q:Nat->Px}(hl:src.length=n)(hq:∀j,j<n->(zKH (pxN src j) (ksN mk m j) o.opac m).1=q j)(hb:∀j,zHa m (P j++[t j]) o (q j)=true) :
  colF n (λj=>zJX m (P j++[t j]) o (q j))=zKz m (colF n λj=>P j++[t j]) o src mk:=by
 have e:∀j,zJX m (P j++[t j]) o (q j)=P j++[⟨(t j).op,accS (t j).op.kno o.oper o.mode m (q j) (t j).acc (t j).back,(t j).back⟩]:=λj=>by
  unfold zJX;rw[if_pos (hb j),zZZ,zWh]
 simp only[e];rw[zXU hk,zXU hk];unfold zKz;rw[yQh,zYG];congr 1;congr 1;congr 1;unfold stR;rw[zJ8,hl];refine List.map_congr_left λj hj=>?_;have hj:j<n:=by simpa using hj
 have e2:pxN (scR m o.opac src mk) j=q j:=by
  rw[zJN (by rw[zJ8,hl];exact hj),jGA,hq j hj]
 rw[e2,zUh hj,zVM hj,hop j]
theorem yZb(hk:∀j,(P j).length=k)(hop:∀j,(t j).op=(t 0).op)(h2:o.kind=2)(h65:k<64):
  colF n (λj=>jUz (P j++[t j]) o)=zHA (colF n λj=>P j++[t j]) o:=by
 have e:∀j,jUz (P j++[t j]) o=(P j++[t j])++[⟨o,(zQG o.iso (t j).op.kno (t j).acc (t j).back).1,(zQG o.iso (t j).op.kno (t j).acc (t j).back).2⟩]:=λj=>by
  unfold jUz;rw[if_pos ⟨h2,by simp[hk];omega⟩,zZZ]
 simp only[e];rw[zXU (k:=k+1) (λj=>by simp[hk]),zXU hk];unfold zHA;rw[zYG];simp only[zXq];congr 1;congr 1;have a:rng n (λj=>(zQG o.iso (t j).op.kno (t j).acc (t j).back).1)=rng n λj=>(zQG o.iso (t 0).op.kno (acN (rng n λj=>(t j).acc) j) (pxN (rng n λj=>(t j).back) j)).1:=zX7 λj hj=>by rw[zUh hj,zVM hj,hop j]
 have b:rng n (λj=>(zQG o.iso (t j).op.kno (t j).acc (t j).back).2)=rng n λj=>(zQG o.iso (t 0).op.kno (acN (rng n λj=>(t j).acc) j) (pxN (rng n λj=>(t j).back) j)).2:=zX7 λj hj=>by rw[zUh hj,zVM hj,hop j]
 rw[a,b]
def jYB(ms:List Im)(i x y:Int):Px:=if 0<=i then match ms[i.toNat]? with
 |some m=>m.at_ x y
 |none=>.zero
 else .zero
def pixR(ms:List Im)(i x y:Int)(n:Nat):List Px:=rng n λj=>jYB ms i (x+j) y
def maR(ms:List Im)(o:Oq)(x y:Int)(n:Nat):List Int:=if o.mask=0 then[] else(pixR ms (o.mask-1) (x-o.mx) (y-o.my) n).map Px.al
variable{ms:List Im}
theorem jHa{i dx dy:Int}(hx:x-dx<1099511627776)(hy:y-dy<1099511627776):zJ4 ms i x y dx dy=jYB ms i (x-dx) (y-dy):=by
 unfold zJ4 jYB;split
 .cases ms[i.toNat]? with
  |none=>rfl
  |some q=>
   show jVN q x y dx dy=q.at_ (x-dx) (y-dy)
   unfold jVN;split
   .rw[at_out (by omega)]
   .rfl
 .rfl
theorem zKU(ms:List Im)(i x y:Int)(n:Nat):(pixR ms i x y n).length=n:=zXq _ _
theorem yQf(hk:o.kind=1)(hj:j<n)(hx:x+j-o.x<1099511627776)(hy:y-o.y<1099511627776):pxN (pixR ms o.image (x-o.x) (y-o.y) n) j=srcS ms o (x+j) y:=by
 unfold pixR;rw[zVM hj,srcS,if_pos hk,jHa hx hy];congr 1;omega
theorem yQK(h0:0<=o.mask)(hj:j<n)(hx:x+j-o.mx<1099511627776)(hy:y-o.my<1099511627776):ksN (maR ms o x y n) m j=if o.mask=0 then m else zYu ms o (x+j) y:=by
 unfold ksN maR;by_cases h:o.mask=0
 .rw[if_pos h,if_pos h];rfl
 .rw[if_neg h,if_neg h,if_neg (by rw[wQD,zKU];omega),wQY,List.getElem?_eq_getElem (by rw[zKU];exact hj)];unfold zYu;rw[if_pos (by omega),jHa hx hy];simp only[wQv,wQA,pixR,jWq];congr 2;omega
theorem yZ4(ms:List Im)(o:Oq)(x y:Int)(n:Nat):(maR ms o x y n).length=0\/(maR ms o x y n).length=n:=by
 unfold maR;split
 .exact .inl rfl
 .exact .inr (by rw[wQD,zKU])
def popF(s:Scr)(m x y:Int)(F:List Fr):List Fr:=
 zKz m F.dropLast (topF F).op (rsR m (topF F).acc (topF F).back) (maR s.ims (topF F).op x y (rsR m (topF F).acc (topF F).back).length)
def yXo(s:Scr)(m x y n:Int)(F:List Fr)(o:Oq):List Fr:=
 zKz m F o (pixR s.ims o.image (x-o.x) (y-o.y) n.toNat) (maR s.ims o x y (pixR s.ims o.image (x-o.x) (y-o.y) n.toNat).length)
def jZG(s:Scr)(m:Int)(e:List Int)(act:List Bool)(x y n:Int)(q:Nat × List Fr)(o:Oq):Nat × List Fr:=
 if o.kind=3 then(q.1+1,popF s m x y q.2)
 else if(act[q.1]?).getD false=false then(((e[q.1]?).getD 0).toNat+1,q.2)
 else if o.kind=2 then(q.1+1,zHA q.2 o)
 else(q.1+1,yXo s m x y n q.2 o)
def zGy(s:Scr)(m:Int)(e:List Int)(act:List Bool)(x y n:Int)(q:Nat × List Fr):Nat × List Fr:=
 match s.ops[q.1]? with
 |none=>q
 |some o=>jZG s m e act x y n q o
def zXg(s:Scr)(m:Int)(e:List Int)(act:List Bool)(x y n:Int):Nat->Nat × List Fr
 |0=>(0,[zHl n.toNat])
 |k+1=>zGy s m e act x y n (zXg s m e act x y n k)
def zY9(s:Scr)(m:Int)(e:List Int)(act:List Bool)(x y n:Int):List Fr:=(zXg s m e act x y n s.ops.length).2
def frN(F:List Fr)(k:Nat):Fr:=(F[k]?).getD (zHl 0)
def zY8(s:Scr)(m:Int)(e:List Int)(act:List Bool)(x y n:Int):List Px:=
 rsR m (frN (zY9 s m e act x y n) 0).acc (frN (zY9 s m e act x y n) 0).back
structure zG1(s:Scr)(m:Int)(F:List Fr)(o:Oq)(l:List Px)(x y:Int):Prop where
  len:1<=F.length/\F.length<=66
  mask:(0<=o.mask/\o.mask<=s.ims.length)/\(-1073741824<=o.mx/\o.mx<=1073741824) /\ -1073741824<=o.my/\o.my<=1073741824
  src:l.length<=100000
  oper:isNm o.oper=true
  mode:isNm o.mode=true
  acc:(topF F).acc.length=l.length
  back:(topF F).back.length=l.length
  ok1:∀j,j<l.length->(zKH (pxN l j) (ksN (maR s.ims o x y l.length) m j) o.opac m).2=true
  ok2:∀j,j<l.length->zXu (topF F).op.kno o.oper o.mode m (pxN (scR m o.opac l (maR s.ims o x y l.length)) j) (acN (topF F).acc j) (pxN (topF F).back j)=true
def FrOk(m:Int)(t:Fr):Prop:=t.acc.length<=100000/\t.back.length=t.acc.length/\∀j,j<t.acc.length->(acN t.acc j).ok (pxN t.back j) m=true
structure jH9(s:Scr)(m:Int)(e:List Int)(act:List Bool)(x y n:Int)(q:Nat × List Fr)(o:Oq):Prop where
  len:1<=q.2.length/\q.2.length<=65
  fr:FrOk m (topF q.2)
  pop:o.kind=3->2<=q.2.length/\zG1 s m q.2.dropLast (topF q.2).op (rsR m (topF q.2).acc (topF q.2).back) x y
  inA:o.kind≠3->q.1<act.length
  skip:o.kind≠3->act[q.1]?=some false->∃v:Nat,e[q.1]?=some (v:Int)/\q.1<=v/\v<s.ops.length
  draw:o.kind≠3->o.kind≠2->act[q.1]?=some true->zG1 s m q.2 o (pixR s.ims o.image (x-o.x) (y-o.y) n.toNat) x y/\(0<=o.image/\o.image<s.ims.length)/\(-1073741824<=o.x/\o.x<=1073741824) /\ -1073741824<=o.y/\o.y<=1073741824
structure jZv(s:Scr)(m:Int)(e:List Int)(act:List Bool)(x y n:Int):Prop where
  step:∀k o,s.ops[(zXg s m e act x y n k).1]?=some o->jH9 s m e act x y n (zXg s m e act x y n k) o
  last:1<=(zY9 s m e act x y n).length/\(zY9 s m e act x y n).length<=65/\FrOk m (frN (zY9 s m e act x y n) 0)
  wide:(frN (zY9 s m e act x y n) 0).acc.length=n.toNat
variable{n:Int}{s:Scr}{q:Nat × List Fr}{e:List Int}
theorem zGx{act:List Bool}(h:q.1<s.ops.length):zGy s m e act x y n q=jZG s m e act x y n q s.ops[q.1]:=by
 unfold zGy;rw[List.getElem?_eq_getElem h]
theorem jQg{act:List Bool}(h:s.ops.length<=q.1):zGy s m e act x y n q=q:=by
 unfold zGy;rw[wQW h]
theorem zWj(s:Scr)(m:Int)(e:List Int)(act:List Bool)(x y n:Int)(k:Nat):zXg s m e act x y n (k+1)=zGy s m e act x y n (zXg s m e act x y n k):=rfl
theorem jWp{act:List Bool}(h:jH9 s m e act x y n q o):q.1<(jZG s m e act x y n q o).1:=by
 unfold jZG;split
 .exact Nat.lt_succ_self _
 .next h3=>
  split
  .next h2=>
   have hl:=h.inA h3;have ha:act[q.1]?=some false:=by
    rw[List.getElem?_eq_getElem hl]at h2 |-;exact congrArg some h2
   obtain⟨v,hv,h1,_⟩:=h.skip h3 ha;rw[hv]
   show q.1<((v:Int).toNat+1)
   omega
  .split<;>exact Nat.lt_succ_self _
theorem zWk{s:Scr}{m:Int}{e:List Int}{act:List Bool}{x y n:Int}{k:Nat}(h:s.ops.length<=(zXg s m e act x y n k).1):∀j,zXg s m e act x y n (k+j)=zXg s m e act x y n k
 |0=>rfl
 |j+1=>by
  rw[<-Nat.add_assoc,zWj,zWk h j,jQg h]
theorem jX4{s:Scr}{m:Int}{e:List Int}{act:List Bool}{x y n:Int}(g:∀k o,s.ops[(zXg s m e act x y n k).1]?=some o->jH9 s m e act x y n (zXg s m e act x y n k) o):∀k,min k s.ops.length<=(zXg s m e act x y n k).1
 |0=>by omega
 |k+1=>by
  have ih:=jX4 g k
  rcases wQx (zXg s m e act x y n k).1 s.ops.length with h|h
  .have:=jWp (g k _ (List.getElem?_eq_getElem h));rw[zWj,zGx h];omega
  .have:=zWk (s:=s) (k:=k) h 1;rw[this];omega
theorem jGF{act:List Bool}(g:jZv s m e act x y n)(h:s.ops.length<=(zXg s m e act x y n k).1):(zXg s m e act x y n k).2=zY9 s m e act x y n:=by
 unfold zY9;have hl:s.ops.length<=(zXg s m e act x y n s.ops.length).1:=by have:=jX4 g.step s.ops.length;omega
 rcases Nat.le_total k s.ops.length with hk|hk
 .obtain⟨j,ej⟩:=Nat.le.dest hk;rw[<-ej,zWk h j]
 .obtain⟨j,ej⟩:=Nat.le.dest hk;rw[<-ej,zWk hl j]
theorem yQY(l:List Fr)(k:Nat):(frs l).take (k*14)=frs (l.take k):=by
 induction l generalizing k with
 |nil=>simp[frs]
 |cons q l ih=>
  have e0:∀t,frs (q::t)=q.cells++frs t:=λt=>by simp[frs]
  have ec:q.cells.length=14:=rfl
  cases k with
  |zero=>simp[frs]
  |succ k=>
   rw[e0,wX0,ec,wQR (by omega),show(k+1)*14-14=k*14 by omega,ih,wYu,e0]
theorem jKy(l:List Fr):(frs l).take ((l.length-1)*14)=frs l.dropLast:=by
 rw[yQY,wZ6]
def toBs(xs:List DV):List Bool:=(List.range xs.length).map (bAt xs)
theorem yZI(l:List Bool):toBs (bs l)=l:=by
 unfold toBs;rw[jZh];refine wQP (by simp) λi h1 h2=>?_;simp only[List.getElem_map,wZs];exact jHV (List.getElem?_eq_getElem h2)
def actL(s:Scr)(r:Rc):List Bool:=(zXs s r).1
def zKV(s:Scr)(m:Int)(e:List Int)(r:Rc)(F:List Fr):Nat->List Fr
 |0=>F
 |k+1=>zY9 s m e (actL s r) r.a (r.b+k) (r.c-r.a)
def zXE(s:Scr)(m:Int)(e:List Int)(r:Rc):Nat->List Px
 |0=>[]
 |k+1=>zXE s m e r k++zY8 s m e (actL s r) r.a (r.b+k) (r.c-r.a)
def zQ2(r:Rc):Nat:=(r.d-r.b).toNat
structure zGf(s:Scr)(m:Int)(e:List Int)(r:Rc):Prop where
  row:∀k:Nat,k<zQ2 r->jZv s m e (actL s r) r.a (r.b+k) (r.c-r.a)
  wide:0<=r.c-r.a/\r.c-r.a<=1000
  high:r.d-r.b<=1000
  at_:(-536870912<=r.a/\r.a<=536870912) /\ -536870912<=r.b/\r.d<=536870912
theorem jZ7{act:List Bool}(g:jZv s m e act x y n):(zY8 s m e act x y n).length=n.toNat:=by
 unfold zY8;rw[zGw];exact g.wide
theorem zKy{s:Scr}{m:Int}{e:List Int}{r:Rc}(h:zGf s m e r):∀k,k<=zQ2 r->(zXE s m e r k).length=k*(r.c-r.a).toNat
 |0,_=>by simp[zXE]
 |k+1,hk=>by
  rw[zXE,wQe,zKy h k (by omega),jZ7 (h.row k (by omega)),wQu,wXI]
theorem jWA{s:Scr}{m:Int}{e:List Int}{r:Rc}(h:zGf s m e r):∀k,k<=zQ2 r->∀y x:Nat,y<k->x<(r.c-r.a).toNat->pxN (zXE s m e r k) (y*(r.c-r.a).toNat+x)=pxN (zY8 s m e (actL s r) r.a (r.b+y) (r.c-r.a)) x
 |0,_,y,x,hy,_=>by omega
 |k+1,hk,y,x,hy,hx=>by
  have hl:=zKy h k (by omega);unfold pxN;rw[zXE]
  rcases wQx y k with hlt|hge
  .have h1:y*(r.c-r.a).toNat+x<k*(r.c-r.a).toNat:=by
    have:(y+1)*(r.c-r.a).toNat<=k*(r.c-r.a).toNat:=wQ1 _ hlt;rw[wQu,wXI]at this;omega
   rw[wQO (by omega)];exact jWA h k (by omega) y x hlt hx
  .have:y=k:=by omega
   subst this;rw[wQq (by omega),hl,wJb]
def jVb(s:Scr):Int:=wrap .i64 ((cntS s.c s.tw s.th).1*(cntS s.c s.tw s.th).2.1)
def zX3(s:Scr):List Int:=zXx s.ord (jVb s)
def zZa(s:Scr):List Rc:=(zX3 s).map λi=>(zGG s.c s.tw s.th i).1
def upB(x:Ex)(f:Int):Bool:=decide ((2*f+1)*x.d<=x.up 2)
variable{x:Ex}
theorem jGe(h:x.ok){k:Int}(hk:0<=k):k+2*x.p<=x.up 2↔k*k<=4*(x.q*x.q*x.r):=by
 have hn:0<=x.q*x.q*x.r:=Int.mul_nonneg (zQ1 _) h.r;have e2:(2*x.q)*(2*x.q)*x.r=4*(x.q*x.q*x.r):=by grind
 unfold Ex.up;rw[e2,<-jQK (by omega) hk];omega
theorem yXL(h:x.ok)(hk:n<2*x.p):n<=x.up 2:=by
 have hn:0<=x.q*x.q*x.r:=Int.mul_nonneg (zQ1 _) h.r;have e2:(2*x.q)*(2*x.q)*x.r=4*(x.q*x.q*x.r):=by grind
 unfold Ex.up;rw[e2];have:=(zYI (n:=4*(x.q*x.q*x.r)) (by omega)).1;omega
theorem jGf(h:x.ok)(hm:0<=m):2*m+2*x.p<=x.up 2↔m*m<=x.q*x.q*x.r:=by
 rw[jGe h (by omega)];have:2*m*(2*m)=4*(m*m):=by grind
 omega
theorem yXK(h:x.ok)(hm:0<=m):2*m+1+2*x.p<=x.up 2↔m*m+m<x.q*x.q*x.r:=by
 rw[jGe h (by omega)];have:(2*m+1)*(2*m+1)=4*(m*m)+4*m+1:=by grind
 omega
theorem yXM(h:x.ok)(hm:18446744073709551616<=m)(hs:x.q*x.q*x.r<340282366920938463463374607431768211456):¬2*m+2*x.p<=x.up 2:=by
 rw[jGf h (by omega)];have:(18446744073709551616:Int)*18446744073709551616<=m*m:=wQz hm hm (by decide) (by omega);omega
def zV5(s a d b:Int):Ex:=if d=0 then zZm 0 else if d*a>=b*(a-s) then zZm (a*b) else⟨a*a*d,0,0,a-s⟩
def zGY(s a d b:Int):Ex:=if d=b then zZm (a*b) else if(b-d)*a>=s*b then zZm 0 else⟨a*b*s-(b-d)*a*a,0,0,s⟩
def jQW(s a d b:Int)(tw:Bool):Int:=if tw then 2*s*d else a*b-2*(b-d)*(a-s)
theorem jV1(s a d b:Int):jQW s a d b (decide (2*s<=a))=zK4 s a d b:=by
 unfold jQW zK4;by_cases h:2*s<=a
 .rw[if_pos h,if_pos (decide_eq_true h)]
 .rw[if_neg h,if_neg (by simpa using h)]
theorem jV2(s a d b:Int):jQW s a d b (decide (2*d<=b))=zK4 d b s a:=by
 unfold jQW zK4;by_cases h:2*d<=b
 .rw[if_pos h,if_pos (decide_eq_true h)];grind
 .rw[if_neg h,if_neg (by simpa using h)];grind
def facF(f a m:Int):Int:=if f=1 then m else if f=2 then a else if f=3 then m-a else 0
theorem yYh{op:Int}(h:1<=op/\op<13)(a b m:Int):facF (zYH op 1) b m=facA op a b m/\facF (zYH op 2) a m=facB op a b m:=by
 rcases zY2 h with rfl|rfl|rfl|rfl|rfl|rfl|rfl|rfl|rfl|rfl|rfl|rfl<;>exact⟨rfl,rfl⟩
def shpF(r f g m:Int):Int:=if r=1 then f else if r=2 then g else if r=3 then zZs (m*f+(m-f)*g) m else if r=4 then zZs (f*g) m else 0
theorem yXO{op:Int}(h:1<=op/\op<13)(f g m:Int):shpF (zYH op 3) f g m=zXX op f g m:=by
 rcases zY2 h with rfl|rfl|rfl|rfl|rfl|rfl|rfl|rfl|rfl|rfl|rfl|rfl<;>rfl
section
attribute [local irreducible] Ans AnsO AnsG AnsN AnsI
def jUQ:Gam:=yYc.add [.p 313 (λv=>some (rJ (lenS (nAt (uj v) 0)))),
 .p 311 (λv=>some (rJ (64-lenS (nAt (uj v) 0)))),
 .p 308 (λ| [.d (.int _ hi),.d (.int _ lo),.d (.int _ y)]=>some (RV.tup [RV.d (DV.int .u64 (wV hi lo / y)),RV.d (DV.int .u64 (wV hi lo%y))])|_=>none)]
def kR(a:Int):DV:=DV.int IntKind.u32 a
def aED(a:Int × Int):Nat:=Int.toNat a.snd
def yQ(a:Int × Int)(b:Prop):Prop:=0<=a.fst/\0<=a.snd/\b
def jT(a:Int):Int:=wrap IntKind.u32 a
def aEE(a:Int):RV:=RV.d (kR (zZs a 255))
abbrev wXN:=@IntWalk.u32_in
theorem zXD(n:Int):Ans prog 118 [rD (DV.int .u32 n)] (rD (DV.int .u32 (zZs n 255))):=
 vv jUQ (gY (vT (Ann.loop (Inv.mk (Int × Int) (λ(a:Int × Int)=>yQ a (a.fst*255+a.snd=n)) (λ(b:Int × Int)=>nH (iF 0 (kR b.snd) 3 (kR b.fst) [])) (λ(c:Int × Int)=>aED c)) (λ(d:Int × Int)=>aL)))) Tryz.func118 (gJ (∃d:Int × Int,aT (yQ d (d.fst*255+d.snd=n)) (aT (kR n=kR d.snd) (kR 0=kR d.fst))) (∀c:Int × Int,let a:=c.snd;let e:=Int.fdiv a (HPow.hPow (2:Int) (Min.min (Int.toNat 8) (32:Nat)));bP (yQ c (c.fst*255+a=n)) (bP (gL a 255) ((0:Int)<=8) (eZ ((0:Int)<=8) (∃b:Int × Int,dE (yQ b (b.fst*255+b.snd=n)) (aED b<aED c) (aT (kR (jT (e+jT (BitVec.toNat (HAnd.hAnd (BitVec.ofInt 32 a) (BitVec.ofInt 32 255)):Int)))=kR b.snd) (kR (jT (c.fst+e))=kR b.fst))))) (bP (dR a 255) (dL (eJ a 128) (rD (kR (jT (c.fst+1)))=aEE n)) (aE (fI a 128) (rD (kR c.fst)=aEE n))))) λhwf=>by
  delta eS aE eJ fI dL bP aT dE dR gL eZ gJ kR aED yQ jT aEE;simp only[sS];simp only[RV.wfs,RV.wf,DV.wf,DV.wfs]at hwf;have mi:IntKind.min .u64=0:=rfl;have ma:IntKind.max .u64=18446744073709551615:=rfl;have mj:IntKind.min .u32=0:=rfl;have mb:IntKind.max .u32=4294967295:=rfl;simp only[mi,ma,mj,mb]at hwf;have f8:∀a:Int,0<=a->Int.fdiv a (2 ^ min (Int.toNat 8) 32)=a / 256:=λa ha=>by
   rw[show((2:Int) ^ min (Int.toNat 8) 32)=256 from by decide];exact wZq _ (by omega)
  refine⟨⟨(0,n),by omega,rfl,rfl⟩,λz ⟨h0,h1,h2⟩=>⟨λhc=>?_,λhc=>⟨λhd=>?_,λhd=>?_⟩⟩⟩
  .obtain⟨a,b⟩:=z;simp only at h0 h1 h2 hc |-;rw[f8 b h1,yXB h1 (by omega)];rw[wXN (b%256) (by omega),wXN (a+b / 256) (by omega),wXN (b / 256+b%256) (by omega)];exact⟨by decide,by decide,(a+b / 256,b / 256+b%256),⟨by simp only;omega,by simp only;omega,by simp only;omega⟩,by simp only;omega,rfl,rfl⟩
  .obtain⟨a,b⟩:=z;simp only at h0 h1 h2 hc hd |-;rw[<-h2,jHx h1 (by omega),if_pos (by omega),wXN _ (by omega)]
  .obtain⟨a,b⟩:=z;simp only at h0 h1 h2 hc hd |-;rw[<-h2,jHx h1 (by omega),if_neg (by omega)]
def aJP(a:Nat)(b:Int)(c:Nat)(d:DV)(e:vz):vz:=iF a (cF b) c d e
def xX(a:Nat)(b:Int)(c:Nat)(d:Int)(e:vz):vz:=aJP a b c (cF d) e
def fD(a b:Int):Prop:=cF a=cF b
def aEF(a:Int):Int:=zZs a 65535
theorem zXS(n:Int):Ans prog 119 [rD (DV.int .u64 n)] (rD (DV.int .u64 (zZs n 65535))):=
 vv jUQ (gY (vT (Ann.loop (Inv.mk (Int × Int) (λ(a:Int × Int)=>yQ a (a.fst*65535+a.snd=n)) (λ(b:Int × Int)=>nH (xX 0 b.snd 3 b.fst [])) (λ(c:Int × Int)=>aED c)) (λ(d:Int × Int)=>aL)))) Tryz.func119 (gJ (∃d:Int × Int,aT (yQ d (d.fst*65535+d.snd=n)) (aT (fD n d.snd) (fD 0 d.fst))) (∀c:Int × Int,let a:=c.snd;bP (yQ c (c.fst*65535+a=n)) (bP (gL a 65535) ((0:Int)<=16) (eZ ((0:Int)<=16) (∃b:Int × Int,dE (yQ b (b.fst*65535+b.snd=n)) (aED b<aED c) (aT (fD (bV (nV a 16+zW (HAnd.hAnd (xZ a) (xZ 65535)))) b.snd) (fD (bV (c.fst+nV a 16)) b.fst))))) (bP (dR a 65535) (dL (eJ a 32768) (jL (bV (c.fst+1))=jL (aEF n))) (aE (fI a 32768) (jL c.fst=jL (aEF n)))))) λhwf=>by
  delta eS aE eJ fI dL bP aT dE dR gL eZ gJ cF bV jL xZ fD nV zW aED yQ aEF;simp only[sS,zXD];simp only[RV.wfs,RV.wf,DV.wf,DV.wfs]at hwf;have mi:IntKind.min .u64=0:=rfl;have ma:IntKind.max .u64=18446744073709551615:=rfl;have mj:IntKind.min .u32=0:=rfl;have mb:IntKind.max .u32=4294967295:=rfl;simp only[mi,ma,mj,mb]at hwf;have f8:∀a:Int,0<=a->Int.fdiv a (2 ^ min (Int.toNat 16) 64)=a / 65536:=λa ha=>by
   rw[show((2:Int) ^ min (Int.toNat 16) 64)=65536 from by decide];exact wZq _ (by omega)
  refine⟨⟨(0,n),by omega,rfl,rfl⟩,λz ⟨h0,h1,h2⟩=>⟨λhc=>?_,λhc=>⟨λhd=>?_,λhd=>?_⟩⟩⟩
  .obtain⟨a,b⟩:=z;simp only at h0 h1 h2 hc |-;rw[f8 b h1,yZk h1 (by omega)];rw[wQk (b%65536) (by omega),wQk (a+b / 65536) (by omega),wQk (b / 65536+b%65536) (by omega)];exact⟨by decide,by decide,(a+b / 65536,b / 65536+b%65536),⟨by simp only;omega,by simp only;omega,by simp only;omega⟩,by simp only;omega,rfl,rfl⟩
  .obtain⟨a,b⟩:=z;simp only at h0 h1 h2 hc hd |-;rw[<-h2,jKr h1 (by omega),if_pos (by omega),wQk _ (by omega)]
  .obtain⟨a,b⟩:=z;simp only at h0 h1 h2 hc hd |-;rw[<-h2,jKr h1 (by omega),if_neg (by omega)]
def uV(a:Int × Int)(b c:Int)(d:Prop):Prop:=0<=a.fst/\a.fst<b/\0<=a.snd/\a.snd<=c/\d
def wG(a:Int × Int)(b:Int):Prop:=a.snd+lenS a.fst=lenS b
def aHN(a:Int × Int)(b c:Int):Prop:=uV a 4294967296 b (wG a c)
def aFS(a:Int):Prop:=fI a 4294967296
def mN(a:List UInt8):List UInt8:=8::8::a
def nI(a:List UInt8):List UInt8:=7::7::7::7::a
def zY(a:List UInt8):List UInt8:=mN (mN (mN (mN (mN (mN (mN (mN a)))))))
def zZ(a:List UInt8):List UInt8:=6::6::6::6::a
def aCT(a:Prop)(b:Int)(c:Int × Int)(d:Prop):Prop:=aT a (aT (fD b c.fst) d)
theorem zWR(x:Int):Ans prog 313 [rD (DV.int .u64 x)] (rJ ((lenS x))):=
 vv jUQ (fK (uh (Int × Int) (λd=>aHN d 32 x) (λa=>let e:=nH (aJP 0 a.fst 2 (aB a.snd) []);e) (λi=>uh (Int × Int) (λc=>uV c 65536 48 (wG c x)) (λa=>let e:=nH (aJP 0 a.fst 2 (aB a.snd) []);e) (λh=>uh (Int × Int) (λb=>uV b 256 56 (wG b x)) (λa=>let e:=nH (aJP 0 a.fst 2 (aB a.snd) []);e) (λf=>aL))))) Tryz.func313 (let l:=ByteArray.mk (List.toArray (0::1::2::2::3::3::3::3::4::4::4::4::4::4::4::4::5::5::5::5::5::5::5::5::5::5::5::5::5::5::5::5::6::6::zZ (zZ (zZ (zZ (zZ (zZ (6::6::zZ (7::nI (nI (nI (nI (nI (nI (nI (nI (nI (nI (nI (nI (nI (nI (7::7::7::nI (mN (zY (zY (zY (zY (zY (zY (mN (mN (mN (mN (zY (mN (mN (mN []))))))))))))))))))))))))))))))))))))));True/\gJ (eJ x 4294967296->aX ((0:Int)<=32) (∃j:Int × Int,aCT (aHN j 32 x) (nV x 32) j (bX 32 j.snd))) (aFS x->(∃h:Int × Int,aCT (aHN h 32 x) x h (dM h.snd)))/\(∀g:Int × Int,aHN g 32 x->gJ (bL (eJ g.fst 65536) ((0:Int)<=16) (True/\True/\True/\True/\(∃f:Int × Int,aCT (uV f 65536 48 (wG f x)) (nV g.fst 16) f (qG (g.snd+16) f.snd)))) (fI g.fst 65536->(∃e:Int × Int,aCT (uV e 65536 48 (wG e x)) g.fst e (bX g.snd e.snd)))/\(∀a:Int × Int,uV a 65536 48 (wG a x)->gJ (bL (eJ a.fst 256) ((0:Int)<=8) (True/\True/\True/\True/\(∃d:Int × Int,aCT (uV d 256 56 (wG d x)) (nV a.fst 8) d (qG (a.snd+8) d.snd)))) (fI a.fst 256->(∃c:Int × Int,aCT (uV c 256 56 (wG c x)) a.fst c (bX a.snd c.snd)))/\(∀b:Int × Int,let k:=wrap IntKind.u8 b.fst;aN (uV b 256 56 (wG b x)) (aR (gU k (ByteArray.size l)) (jC (aU (b.snd+aU (UInt8.toNat (Option.getD l.data.toList[Int.toNat k]? (0:UInt8)):Int))) (lenS x))))))) λhwf=>by
  delta eS aB aV eJ fI jC aU aN aX aR aT gU bL bX qG gJ cF dM fD aFS nV uV wG aHN mN nI zY zZ aCT;simp only[sS,zXD,zXS];simp only[RV.wfs,RV.wf,DV.wf,DV.wfs,uc]at hwf;have f1:∀a:Int,0<=a->Int.fdiv a (2 ^ min (Int.toNat 32) 64)=a / 4294967296:=λa ha=>by
   rw[show((2:Int) ^ min (Int.toNat 32) 64)=4294967296 from by decide];exact wZq _ (by omega)
  have f2:∀a:Int,0<=a->Int.fdiv a (2 ^ min (Int.toNat 16) 64)=a / 65536:=λa ha=>by
   rw[show((2:Int) ^ min (Int.toNat 16) 64)=65536 from by decide];exact wZq _ (by omega)
  have f3:∀a:Int,0<=a->Int.fdiv a (2 ^ min (Int.toNat 8) 64)=a / 256:=λa ha=>by
   rw[show((2:Int) ^ min (Int.toNat 8) 64)=256 from by decide];exact wZq _ (by omega)
  have q1:((2:Int) ^ 32)=4294967296:=rfl;have q2:((2:Int) ^ 16)=65536:=rfl;have q3:((2:Int) ^ 8)=256:=rfl;have g1:=λy (h:2 ^ 32<=y)=>zGM (x:=y) 32 h;have g2:=λy (h:2 ^ 16<=y)=>zGM (x:=y) 16 h;have g3:=λy (h:2 ^ 8<=y)=>zGM (x:=y) 8 h;simp only[q1,q2,q3]at g1 g2 g3;refine⟨⟨λh=>⟨by decide,(x / 4294967296,32),⟨by simp only;omega,by simp only;omega,by simp only;omega,by simp only;omega,by simp only;have:=g1 x (by omega);omega⟩,f1 x hwf.1.1,rfl⟩,λh=>⟨(x,0),⟨hwf.1.1,by simp only;omega,by simp only;omega,by simp only;omega,by simp only;omega⟩,rfl,rfl⟩⟩,?_⟩;intro p ⟨a1,a2,a3,a4,a5⟩;refine⟨⟨λh=>⟨by decide,(p.1 / 65536,p.2+16),⟨by simp only;omega,by simp only;omega,by simp only;omega,by simp only;omega,by simp only;have:=g2 p.1 (by omega);omega⟩,f2 p.1 a1,by rw[wQb _ (by omega)]⟩,λh=>⟨p,⟨a1,by omega,a3,by omega,a5⟩,rfl,rfl⟩⟩,?_⟩;intro q ⟨b1,b2,b3,b4,b5⟩;refine⟨⟨λh=>⟨by decide,(q.1 / 256,q.2+8),⟨by simp only;omega,by simp only;omega,by simp only;omega,by simp only;omega,by simp only;have:=g3 q.1 (by omega);omega⟩,f3 q.1 b1,by rw[wQb _ (by omega)]⟩,λh=>⟨q,⟨b1,by omega,b3,by omega,b5⟩,rfl,rfl⟩⟩,?_⟩;intro r ⟨c1,c2,c3,c4,c5⟩;rw[IntWalk.u8_in r.1 ⟨c1,by omega⟩];have sz:∀(l:Array UInt8),((⟨l⟩:ByteArray).size:Int)=(l.size:Int):=λ_=>rfl;obtain⟨m,hm⟩:=wZd c1;rw[hm]at c2 c5 |-;rw[wQp];have tb:∀m:Nat,m<256->(((([0,1,2,2,3,3,3,3,4,4,4,4,4,4,4,4,5,5,5,5,5,5,5,5,5,5,5,5,5,5,5,5,6,6,6,6,6,6,6,6,6,6,6,6,6,6,6,6,6,6,6,6,6,6,6,6,6,6,6,6,6,6,6,6,7,7,7,7,7,7,7,7,7,7,7,7,7,7,7,7,7,7,7,7,7,7,7,7,7,7,7,7,7,7,7,7,7,7,7,7,7,7,7,7,7,7,7,7,7,7,7,7,7,7,7,7,7,7,7,7,7,7,7,7,7,7,7,7,8,8,8,8,8,8,8,8,8,8,8,8,8,8,8,8,8,8,8,8,8,8,8,8,8,8,8,8,8,8,8,8,8,8,8,8,8,8,8,8,8,8,8,8,8,8,8,8,8,8,8,8,8,8,8,8,8,8,8,8,8,8,8,8,8,8,8,8,8,8,8,8,8,8,8,8,8,8,8,8,8,8,8,8,8,8,8,8,8,8,8,8,8,8,8,8,8,8,8,8,8,8,8,8,8,8,8,8,8,8,8,8,8,8,8,8,8,8,8,8,8,8,8,8,8,8,8,8]:List UInt8)[m]?.getD 0).toNat:Nat):Int)=lenS m:=wQH (by decide +kernel);have tt:=tb m (by omega);refine⟨⟨by omega,by rw[sz];simp only[wZA,wQC,wZr];omega⟩,?_⟩;rw[<-c5,<-tt];clear tb tt sz;generalize Option.getD _ _=w;have:=UInt8.toNat_lt w;have h1:wrap .i64 (w.toNat:Int)=(w.toNat:Int):=wQb _ (by omega);rw[h1,wQb _ (by omega)]
theorem zVd(x:Int)(h0:1<=x):Ans prog 311 [rD (DV.int .u64 x)] (rJ ((64-lenS x))):=
 vv jUQ aL Tryz.func311 (True/\aX (Ans prog 313 (cA x []) (aV (lenS x))) (jC (cN 64 (lenS x)) (64-lenS x))) λhwf=>by
  delta eS aB aV jC aU aX cN cF cA;simp only[sS,zXD,zXS,zWR];have hx:x<18446744073709551616:=by
   simp only[RV.wfs,RV.wf,DV.wf]at hwf;have ma:IntKind.max .u64=18446744073709551615:=rfl;rw[ma]at hwf;omega
  obtain⟨s,e,hs,_⟩:=jKc h0 hx;rw[e];exact wQb _ (by omega)
def aBR(a:Ann):Ann:=gY (gY a)
def xW(a:Int):Int:=a*4294967296
def xY(a:Nat)(b:Int)(c:Nat)(d:Int)(e:Nat)(f:Int)(g:Nat)(h:Int)(i:vz):vz:=xX a b c d (xX e f g h i)
def aFQ(a:Int × Int):Nat:=Int.toNat a.fst
def aCR(a:Nat)(b:Int)(c:vz):vz:=mP a (cF b) c
def zX(a b c:DV)(d:Prop):Prop:=aG (eS a) (eS b) (eS c) d
def aCS(a:Nat):Int:=HPow.hPow (2:Int) a
theorem jZX(hi lo y:Int)(h0:hi<y):Ans prog 308 [rD (DV.int .u64 hi),rD (DV.int .u64 lo),rD (DV.int .u64 y)] (rT [rD (DV.int .u64 (wV hi lo / y)),rD (DV.int .u64 (wV hi lo%y))]):=
 vv jUQ (qA (aBR (aBR (uh Dv (λt=>Dv.is t hi lo y) (λc=>nH (aCR 2 (xW c.v1+c.v0) (xY 8 (c.s:Int) 9 c.v1 10 c.v0 11 c.u (xX 13 c.w1 14 c.w0 [])))) (λa=>let d:=a.w0;let e:=(a.s:Int);let b:=xW a.v1+a.v0;let l:=xW a.u+a.w1;gY (Ann.cut (Inv.mk Int (λ(s:Int)=>s=l/b) (λ(r:Int)=>nH (xX 2 b 8 e (xY 9 a.v1 10 a.v0 11 a.u 13 a.w1 (xX 14 d 15 r [])))) (λ(w:Int)=>(0:Nat))) (Ann.loop (Inv.mk (Int × Int) (λ(k:Int × Int)=>DgOk a.v1 a.v0 a.u a.w1 k.fst k.snd) (λ(j:Int × Int)=>nH (aCR 2 b (xY 8 e 9 a.v1 10 a.v0 11 a.u (xY 13 a.w1 14 d 15 j.fst 16 j.snd [])))) (λ(m:Int × Int)=>aFQ m)) (λ(v:Int × Int)=>aL)) (λ(g:Int)=>uh Int (λq=>q=l-g*b) (λp=>nH (aCR 2 b (xX 8 e 9 a.v1 (xY 10 a.v0 14 d 15 g 17 p [])))) (λf=>gY (Ann.cut (Inv.mk Int (λ(o:Int)=>o=(xW f+d)/b) (λ(n:Int)=>nH (aCR 2 b (xY 8 e 14 d 15 g 17 f (aCR 18 n [])))) (λ(w:Int)=>(0:Nat))) (Ann.loop (Inv.mk (Int × Int) (λ(i:Int × Int)=>DgOk a.v1 a.v0 f a.w0 i.fst i.snd) (λ(h:Int × Int)=>nH (aCR 2 b (xY 8 e 9 a.v1 10 a.v0 14 d (xY 15 g 16 h.snd 17 f 18 h.fst [])))) (λ(m:Int × Int)=>aFQ m)) (λ(v:Int × Int)=>aL)) (λ(u:Int)=>aL)))))))))) Tryz.func308 (let Q:=pU (wV hi lo/y) (wV hi lo%y);let G:=fQ 64 (lenS y);let H:=aCS (Min.min (Int.toNat G) (64:Nat));let z0:=bJ lo H;let z1:=fQ 64 G;let I:=bJ y H;let J:=0<=G;fV (mE y->False) (fJ (fS y) (lQ y hi->False) (bP (decide (y<=hi)=false) (mE hi->True/\aX (gH y) (gH y/\True/\True/\eS true/\pU (aBU lo y) (Int.tmod lo y)=Q)) (fS hi->True/\kH (Ans prog 311 (cA y []) (aV (64-lenS y))) (True/\True/\True/\J/\bD ((0:Int)<=32) (gC J (aX (0<=z1) (bD J (True/\(0:Int)<=32/\True/\bI (∃d:Dv,aT (Dv.is d hi lo y) (fD I (xW d.v1+d.v0)/\eW (fD (fQ 64 (lenS y)) (d.s:Int)) (fD (nV I 32) d.v1) (fD (zW (aFR I)) d.v0) (fD (zW (HOr.hOr (xZ (bJ hi H)) (xZ (nV lo z1)))) d.u) (fD (nV z0 32) d.w1) (fD (zW (aFR z0)) d.w0)))/\(∀b:Dv,let t:=(b.s:Int);let a:=b.v1;let e:=xW a+b.v0;let u:=eS (cF b.w0);let h:=eS (cF b.v0);let i:=eS (cF a);let v:=cF t;let o:=eS (cF e);let j:=b.v0;let k:=b.v1;let p:=cF b.w0;let R:=eS v;let w:=cF e;let q:=b.w1;let V:=xW b.u+q;let E:=V/e;let x:=eS (cF t);bP (Dv.is b hi lo y) (gH a) (bW ((∃B:Int × Int,aT (DgOk k j b.u b.w1 B.fst B.snd) (o/\oJ x i h (eS (cF b.u)) (eS (cF q)) u (fD (aBU b.u a) B.fst) (fD (fQ b.u (bJ (bV (Int.tdiv b.u a)) a)) B.snd)))/\(∀n:Int × Int,let F:=bV (n.snd+a);let l:=n.fst;let X:=bW (eJ F 4294967296->(∃O:Int,aT (O=E) (qV w x i h (zX (cF b.u) (cF q) p (fD (fQ l 1) O))))) (aFS F->(∃s:Int × Int,dE (DgOk k j b.u b.w1 s.fst s.snd) (aFQ s<aFQ n) (o/\oJ x i h (eS (cF b.u)) (eS (cF q)) u (fD (fQ l 1) s.fst) (fD F s.snd))));let Y:=qZ 4294967296 n.snd q;let Z:=bJ l b.v0;DgOk k j b.u b.w1 n.fst n.snd->aP (aFS l) (True/\True/\True/\True/\aP (gL Z Y) X (dR Z Y->(∃P:Int,aT (P=E) (qV w x i h (zX (cF b.u) (cF q) p (fD l P)))))) (aN (xH l 4294967296) X))) (∀f:Int,let W:=V-f*e;f=E->(True/\aK (∃M:Int,aT (M=W) (o/\cP v (eS (cF a)) (zX (cF b.v0) p (cF f) (fD (fQ (qZ b.u 4294967296 q) (bJ f e)) M)))))/\(∀c:Int,let C:=(xW c+b.w0)/e;bP (c=W) (gH a) (bW ((∃A:Int × Int,aT (DgOk k j c b.w0 A.fst A.snd) (o/\qV v i h u (aG (eS (cF f)) (fD (fQ c (bJ (bV (Int.tdiv c a)) a)) A.snd) (eS (cF c)) (fD (aBU c a) A.fst))))/\(∀m:Int × Int,let g:=m.fst;let D:=bV (m.snd+a);let S:=bW (eJ D 4294967296->(∃K:Int,aT (K=C) (cP w R (zX p (cF f) (cF c) (fD (fQ g 1) K))))) (aFS D->(∃r:Int × Int,dE (DgOk k j c b.w0 r.fst r.snd) (aFQ r<aFQ m) (o/\qV v i h u (aG (eS (cF f)) (fD D r.snd) (eS (cF c)) (fD (fQ g 1) r.fst)))));let T:=qZ 4294967296 m.snd b.w0;let U:=bJ g b.v0;DgOk k j c b.w0 m.fst m.snd->aP (aFS g) (True/\True/\True/\True/\aP (gL U T) S (dR U T->(∃L:Int,aT (L=C) (cP w R (zX p (cF f) (cF c) (fD g L)))))) (aN (xH g 4294967296) S))) (∀z:Int,bK (z=C) (aK (aX (0<=t) (pU (qZ f 4294967296 z) (nV (fQ (qZ c 4294967296 b.w0) (bJ z e)) t)=Q)))))))))))))))))) λhwf=>by
  delta eS aB aV aE aP eJ fI aG aK aN bD aX fS gC mE fJ gH cP bP bK bW aT gD dE dR gL kH fV bI oJ eW cF bV fQ aBU lQ xH qV xW aFQ cA bJ gE xZ zX fD pU aFS aCS nV qZ zW aFR;simp only[sS,zXD,zXS,zWR];simp only[RV.wfs,RV.wf,DV.wf,DV.wfs,uc]at hwf;have f32:∀a:Int,0<=a->Int.fdiv a (2 ^ min (Int.toNat 32) 64)=a / 4294967296:=λa ha=>by
   rw[show((2:Int) ^ min (Int.toNat 32) 64)=4294967296 from by decide];exact wZq _ (by omega)
  obtain⟨⟨a0,a1⟩,⟨l0,l1⟩,⟨y0,y1⟩,_⟩:=hwf;have hy:1<=y:=by omega
  have hy0:(y==0)=true->y=0:=λh=>by simpa using h
  refine⟨λh=>absurd (hy0 h) (by omega),λ_=>⟨λh=>absurd h (by omega),λ_=>⟨λhz=>?_,λhz=>?_⟩⟩⟩
  .have hz:hi=0:=by simpa using hz
   subst hz;rw[zWW,wQ5 l0,wZ1 l0];have:=wZY y l0;have:=wQU l0 y0;rw[wQk _ (by omega)];exact⟨by omega,by omega,rfl,rfl⟩
  obtain⟨s,es,s63,ys1,ys2⟩:=jKc hy (by omega);have LZ:=zVd y hy;obtain⟨p1,p2,p3,p4,hD⟩:=yQ6 a0 h0 l0 (by omega) s63 ys1 ys2;have ws:wrap .u64 (s:Int)=s:=wQk _ (by omega);have ws2:wrap .u64 (64-(s:Int))=((64-s:Nat):Int):=by rw[wQk _ (by omega)];omega
  have ms:min s 64=s:=by omega
  have mt:min (64-s) 64=64-s:=by omega
  have wy:wrap .u64 (y*2 ^ s)=y*2 ^ s:=wQk _ (by omega);have hp:(0:Int)<2 ^ s:=wZ7 (by decide);have h0':0<=hi*2 ^ s:=Int.mul_nonneg a0 (by omega);have wh:wrap .u64 (hi*2 ^ s)=hi*2 ^ s:=wQk _ (by omega);have fl:Int.fdiv lo (2 ^ (64-s))=lo / 2 ^ (64-s):=wZq _ (wZ8 (wZ7 (by decide)));obtain⟨or1,or2⟩:=yXU (s:=s) (by omega) a0 p3 p1 p2;have wl:wrap .u64 (lo*2 ^ s)=lo*2 ^ s%18446744073709551616:=wYM _;rw[es]at LZ |-;simp only[ws,ws2,wQp,ms,mt,wy,wh,fl,wl,or1];have m0:0<=lo*2 ^ s%18446744073709551616:=by omega
  have m1:lo*2 ^ s%18446744073709551616<18446744073709551616:=by omega
  rw[zGc (show 0<=y*2 ^ s by omega) ys2,zGc m0 m1,f32 _ (show 0<=y*2 ^ s by omega),f32 _ m0,wQk (hi*2 ^ s+lo / 2 ^ (64-s)) (by omega),wQk (y*2 ^ s%4294967296) (by omega),wQk (lo*2 ^ s%18446744073709551616%4294967296) (by omega)];refine⟨LZ,by omega,by omega,by omega,by omega,by omega,by omega,⟨_,hD,by simp only;omega,rfl,rfl,rfl,rfl,rfl,rfl⟩,?_⟩;clear hD or1 or2 wl fl wh wy LZ es p1 p2 p3 p4 m0 m1 ys1 ys2 h0' hp s63 ws ws2 ms mt;intro D hD;obtain⟨k1,k2,ok,w0a,w0b,s63⟩:=hD;have ok2:=ok;obtain⟨va,vb,v0a,v0b,ua,ub,wa,wb⟩:=ok2;have W:∀x:Int,0<=x->x<18446744073709551616->wrap .u64 x=x:=λx x0 x1=>wQk x ⟨x0,by omega⟩;have M:∀x:Int,wrap .u64 x=x%18446744073709551616:=λx=>wYM x;have st:∀u w:Int,DvOk D.v1 D.v0 u w->wrap .u64 (Int.tdiv u D.v1)=u / D.v1/\wrap .u64 (u-wrap .u64 (u / D.v1*D.v1))=u-u / D.v1*D.v1:=λu w o=>by
   have g:=o.start;have gp:=g.pos o;have gh:=g.hi;have g0:=g.r0;have g1:=g.r1;have u0:=o.u0;have u1:=o.u1;rw[wQ5 u0,W (u / D.v1) gp (by omega)];have e4:0<=u / D.v1*D.v1:=Int.mul_nonneg gp (by omega);refine⟨rfl,?_⟩;rw[W (u / D.v1*D.v1) e4 (by omega),W _ g0 (by omega)]
  have rd:∀u w:Int,DvOk D.v1 D.v0 u w->∀z:Int × Int,DgOk D.v1 D.v0 u w z.1 z.2->wrap .u64 (z.1*D.v0)=z.1*D.v0/\wrap .u64 (wrap .u64 (4294967296*z.2)+w)=4294967296*z.2+w/\wrap .u64 (z.2+D.v1)=z.2+D.v1/\(z.1>=4294967296\/z.1*D.v0>4294967296*z.2+w->wrap .u64 (z.1-1)=z.1-1/\(z.1-1).toNat<z.1.toNat):=λu w o z g=>by
   obtain⟨s1,s2,s3,s4⟩:=g.sizes o;have gp:=g.pos o;have gh:=g.hi;have g0:=g.r0;have g1:=g.r1;have w0:=o.w0;rw[W _ s1 s2,W (4294967296*z.2) (by omega) (by omega),W _ s3 s4,W _ (show 0<=z.2+D.v1 by omega) (by omega)];refine⟨rfl,rfl,rfl,λhc=>?_⟩;have:1<=z.1:=by
    rcases hc with hc|hc
    .omega
    .have:=(g.over o).1 hc;have:=o.dig.1;omega
   exact⟨W _ (by omega) (by omega),by omega⟩
  have lp:∀u w:Int,DvOk D.v1 D.v0 u w->∀z:Int × Int,DgOk D.v1 D.v0 u w z.1 z.2->(z.1>=4294967296\/z.1*D.v0>4294967296*z.2+w)->(z.2+D.v1>=4294967296->∃a,a=(u*4294967296+w) / (D.v1*4294967296+D.v0)/\z.1-1=a)/\(¬z.2+D.v1>=4294967296->∃z':Int × Int,DgOk D.v1 D.v0 u w z'.1 z'.2/\z'.1.toNat<z.1.toNat/\z.1-1=z'.1/\z.2+D.v1=z'.2):=λu w o z g hc=>
   ⟨λh=>⟨_,rfl,g.last o hc h⟩,λh=>⟨(z.1-1,z.2+D.v1),g.next o hc (by omega),((rd u w o z g).2.2.2 hc).2,rfl,rfl⟩⟩
  obtain⟨t1,t2⟩:=st _ _ ok;rw[t1,t2];refine⟨by omega,⟨⟨(D.u / D.v1,D.u-D.u / D.v1*D.v1),ok.start,rfl,rfl⟩,?_⟩,?_⟩
  .intro p g;obtain⟨r1,r2,r3,r4⟩:=rd _ _ ok p g;rw[r1,r2,r3];refine⟨λh1=>⟨λh2=>?_,λh2=>?_⟩,λh1=>?_⟩
   .rw[(r4 (.inr h2)).1];exact lp _ _ ok p g (.inr h2)
   .exact⟨_,rfl,g.done ok (λh=>h.elim h1 h2)⟩
   .rw[(r4 (.inl h1)).1];exact lp _ _ ok p g (.inl h1)
  intro a ha;have dg:=ok.dig;rw[<-ha]at dg;have e1:=wZN (D.u*4294967296+D.w1) (D.v1*4294967296+D.v0);have e2:=wZb (D.u*4294967296+D.w1) (b:=D.v1*4294967296+D.v0) (by omega);have e3:=wZc (D.u*4294967296+D.w1) (show 0<D.v1*4294967296+D.v0 by omega);rw[<-ha,wQB _ a]at e1;have eb:wrap .u64 (wrap .u64 (wrap .u64 (D.u*4294967296)+D.w1)-wrap .u64 (a*(D.v1*4294967296+D.v0)))=D.u*4294967296+D.w1-a*(D.v1*4294967296+D.v0):=by
   simp only[M];generalize a*(D.v1*4294967296+D.v0)=Y at *;omega
  refine⟨⟨_,rfl,eb⟩,?_⟩;intro b hb;have okb:DvOk D.v1 D.v0 b D.w0:=⟨va,vb,v0a,v0b,by omega,by omega,w0a,w0b⟩
  obtain⟨t1,t2⟩:=st _ _ okb;rw[t1,t2];refine⟨by omega,⟨⟨(b / D.v1,b-b / D.v1*D.v1),okb.start,rfl,rfl⟩,?_⟩,?_⟩
  .intro p g;obtain⟨r1,r2,r3,r4⟩:=rd _ _ okb p g;rw[r1,r2,r3];have sw:∀X:Prop × Prop,True:=λ_=>trivial;refine⟨λh1=>⟨λh2=>?_,λh2=>?_⟩,λh1=>?_⟩
   .rw[(r4 (.inr h2)).1];obtain⟨x1,x2⟩:=lp _ _ okb p g (.inr h2);exact⟨x1,λh=>by obtain⟨z,y1,y2,y3,y4⟩:=x2 h;exact⟨z,y1,y2,y4,y3⟩⟩
   .exact⟨_,rfl,g.done okb (λh=>h.elim h1 h2)⟩
   .rw[(r4 (.inl h1)).1];obtain⟨x1,x2⟩:=lp _ _ okb p g (.inl h1);exact⟨x1,λh=>by obtain⟨z,y1,y2,y3,y4⟩:=x2 h;exact⟨z,y1,y2,y4,y3⟩⟩
  intro c hc;have dgb:=okb.dig;rw[<-hc]at dgb;obtain⟨d1,d2⟩:=jUj (v:=D.v1*4294967296+D.v0) (u:=D.u) (a:=D.w1) (b:=D.w0) (by omega);rw[<-ha,<-hb,<-hc]at d1 d2;obtain⟨q1,q2⟩:=jUo (a:=wV hi lo) (y:=y) (k:=2 ^ D.s) (wZ7 (by decide));rw[k1,k2]at q1 q2;rw[<-d1]at q1;rw[<-d2]at q2;have e4:0<=b*4294967296+D.w0-c*(D.v1*4294967296+D.v0)/\b*4294967296+D.w0-c*(D.v1*4294967296+D.v0)<D.v1*4294967296+D.v0:=by
   rw[d2];exact⟨wZb _ (by omega),wZc _ (by omega)⟩
  have er:wrap .u64 (wrap .u64 (wrap .u64 (b*4294967296)+D.w0)-wrap .u64 (c*(D.v1*4294967296+D.v0)))=b*4294967296+D.w0-c*(D.v1*4294967296+D.v0):=by
   simp only[M];generalize c*(D.v1*4294967296+D.v0)=Y at *;omega
  rw[er,W (a*4294967296) (by omega) (by omega),W _ (show 0<=a*4294967296+c by omega) (by omega),wQM (by omega),wZq _ (wZ8 (wZ7 (by decide)))];exact⟨by omega,q1,q2⟩
def zGT:Gam:=jUQ.add [.p 228 gZ14,
 .p 286 (λv=>let e:=(nAt (uj v) 0)+(nAt (uj v) 1)+(nAt (uj v) 2);some (RV.tup [RV.d (DV.int .u64 (e%18446744073709551616)),RV.d (DV.int .u64 (e / 18446744073709551616))])),
 .p 300 (λ| [.d (.int _ x),.d (.int _ y),.d (.int _ c)]=>some (RV.tup [RV.d (DV.int .u64 ((x-y-c)%18446744073709551616)),RV.d (DV.int .u64 (if x<y+c then 1 else 0))])|_=>none),
 .p 312 (λv=>some (RV.d (dQ false))),
 .p 310 (λv=>some (rJ (cmpI (nAt (uj v) 0) (nAt (uj v) 1)))),
 .p 309 (λv=>some (rJ (orI (cAt (uj v) 0)))),
 .p 292 (λv=>some (RV.agg [DV.int .u64 0,DV.int .u64 (nAt (uj v) 0)])),
 .p 276 (λv=>let c:=(nAt (uj v) 0)*(nAt (uj v) 1);some (RV.agg [DV.int .u64 (hiW c),DV.int .u64 (loW c)])),
 .p 275 (λv=>let e:=wV (nAt (ul v 1) 0) (nAt (ul v 1) 1);let f:=wV (nAt (ul v 0) 0) (nAt (ul v 0) 1);let c:=addW f e;some (RV.tup [RV.agg [DV.int .u64 (hiW c),DV.int .u64 (loW c)],RV.d (dQ (addK f e))])),
 .p 299 (λv=>some (rJ (cmpI (wV (nAt (ul v 0) 0) (nAt (ul v 0) 1)) (wV (nAt (ul v 1) 0) (nAt (ul v 1) 1)))))]
theorem zQK(n d:Int):Ans prog 228 [rD (DV.int .u64 n),rD (DV.int .u64 d)] (rD (DV.int .u64 (zZs n d))):=
 vv zGT aL Tryz.func228 (let a:=jL (zZs n d);let b:=Int.tmod n d;let c:=fQ d b;qL d (jL 0=a) (oK d 0 (gH d) (bD (gH d) (nN (rX b c (True/\True/\True/\True/\jL (bV (aBU n d+1))=a) (aE (fI b c) (jL (aBU n d)=a))))))) λhwf=>by
  delta eS aE eJ fI bD aX gH nN bP oK cS cF bV jL fQ rX aBU qL;simp only[sS];simp only[RV.wfs,RV.wf,DV.wf]at hwf;have m1:IntKind.min .u64=0:=rfl;have m2:IntKind.max .u64=18446744073709551615:=rfl;rw[m1,m2]at hwf;have t1:Int.tdiv n d=n / d:=wQ5 (by omega);have t2:Int.tmod n d=n%d:=wZ1 (by omega);refine⟨λq=>by(have q:d=0:=(by simpa using q));simp[zZs,q],λq=>?_⟩;have q:d≠0:=by simpa using q
  have b1:0<=n%d:=wZb _ q;have b2:n%d<d:=wZc _ (by omega);have b3:0<=n / d:=wQU (by omega) (by omega);have b4:n / d<=n:=wZY _ (by omega);simp only[t1,t2];rw[wQk (n / d) ⟨b3,by omega⟩,wQk (d-n%d) (by omega)];refine⟨q,q,λq2=>?_,λq2=>?_⟩
  .have b5:d>=2\/d=1:=by omega
   have b6:n / d+1<=18446744073709551615:=by
    rcases b5 with b5|b5
    .have:n / d<n\/n=0:=by
      by_cases hn:n=0
      .exact .inr hn
      .exact .inl (wY8 (by omega) (by omega))
     rcases this with h|h
     .omega
     .subst h;simp
    .subst b5;omega
   rw[wQk _ ⟨by omega,b6⟩];simp[zZs,q];omega
  .simp[zZs,q];omega
theorem zQF(x:Int):Ans prog 312 [rD (DV.int .u64 x)] (rD (dQ false)):=
 vv zGT aL Tryz.func312 (vH (aM (x !=x)=aM false)) λhwf=>by
  delta eS aM vH;simp only[sS,zQK];simp
theorem zQD(x y:Int):Ans prog 310 [rD (DV.int .u64 x),rD (DV.int .u64 y)] (rJ ((cmpI x y))):=
 vv zGT aL Tryz.func310 (let a:=cmpI x y;True/\aX (Ans prog 312 (cA x []) (aM false)) (Ans prog 312 (cA y []) (aM false)/\True/\True/\tC false (kB (false=true) 0 a) (kB (eS false) (-1) a)/\bL (eS false) (kB (false=true) 1 a) (eS false->True/\True/\True/\(jE x y->True/\jC (-1) a)/\(gX x y->oZ (gL x y) (jC 1 a) (dR x y) (jC 0 a))))) λhwf=>by
  delta eS aB aV gX oZ jC aX jE bL dR gL aM cF cA kB tC;simp only[sS,zQK,zQF];unfold cmpI;grind
theorem jZO(n:Nat)(xs:List DV)(hx:n=2/\∃a b,xs=[.int .i64 a,.int .i64 b]):Ans prog 309 [rD (dS n xs)] (rJ ((orI xs))):=
 vv zGT (gI (ui (λa=>bZ a 2 (orI xs=orI (List.drop a xs))) (λc=>nH (aIW 3 0 6 n xs 7 8 c)) (λb=>2-b) (λd=>aL))) Tryz.func309 (let b:=orI xs;qB (∃d:Nat,aT (bZ d 2 (b=orI (List.drop d xs))) (kQ jG n xs (dC d))) (∀a:Nat,bL (bZ a 2 (b=orI (List.drop a xs))) (dT a n->dF a n 1 xs/\kH (uI xs a) (aP (jN (cB xs a 1) 0) (rD (aB (nAt xs (aZ a 1)))=aV b) (aE (fN (cB xs a 1)) (∃c:Nat,dE (bZ c 2 (b=orI (List.drop c xs))) (2-c<2-a) (kQ jG n xs (bQ a c)))))) (aAZ (eV a n) 0 b))) λhwf=>by
  delta eS aB aV aW aE iE aP aAZ aU aG bM fC aT aZ dE bQ bL dC qB kH dF cB dT eV mZ bZ jG jK uI dN jN fN kQ;simp only[sS,zQK,zQF,zQD];obtain⟨rfl,a,b,rfl⟩:=hx;refine⟨⟨0,⟨by omega,rfl⟩,rfl⟩,λj ⟨hj,he⟩=>⟨λh=>?_,λh=>?_⟩⟩
  .have:j=0\/j=1:=by omega
   rcases this with rfl|rfl
   .have hw:wrap .i64 (((0:Nat):Int)+1)=((1:Nat):Int):=by decide
    refine⟨⟨by omega,by omega,by simp⟩,rfl,λq=>?_,λq=>⟨1,⟨by omega,?_⟩,by omega,hw⟩⟩
    .have q:a≠0:=wQQ.1 q;change a=if a=0 then _ else a
     rw[if_neg q]
    .have q:a=0:=wZu.1 q;subst q;rfl
   .have hw:wrap .i64 (((1:Nat):Int)+1)=((2:Nat):Int):=by decide
    refine⟨⟨by omega,by omega,by simp⟩,rfl,λq=>?_,λq=>⟨2,⟨by omega,?_⟩,by omega,hw⟩⟩
    .have q:b≠0:=wQQ.1 q;rw[he];change b=if b=0 then _ else b
     rw[if_neg q]
    .have q:b=0:=wZu.1 q;rw[he];subst q;rfl
  .have:j=2:=by omega
   subst this;rw[he];rfl
def gQ(a b:Int)(c:List DV):List DV:=cF a::cF b::c
theorem zXC(n:Int):Ans prog 292 [rD (DV.int .u64 n)] (rA [DV.int .u64 0,DV.int .u64 n]):=
 vv zGT aL Tryz.func292 (True/\True/\True/\True/\eS (rA (gQ 0 n []))) λhwf=>by
  delta eS cF gQ;simp only[sS,zQK,zQF,zQD]
def fO(a:Int):List DV:=gQ (hiW a) (loW a) []
theorem zQZ(a b:Int):Ans prog 276 [rD (DV.int .u64 a),rD (DV.int .u64 b)] (rA [DV.int .u64 (hiW (a*b)),DV.int .u64 (loW (a*b))]):=
 vv zGT aL Tryz.func276 (True/\bD (Ans prog 103 (gE a b) (pU (hiW (a*b)) (loW (a*b)))) (aK (eS (rA (fO (a*b)))))) λhwf=>by
  delta eS aK bD cF cA gE pU gQ fO;simp only[sS,zWQ,zQK,zQF,zQD,zXC]
theorem zZk(ah al bh bl:Int):Ans prog 299 [rA [DV.int .u64 ah,DV.int .u64 al],rA [DV.int .u64 bh,DV.int .u64 bl]] (rJ ((cmpI (wV ah al) (wV bh bl)))):=
 vv zGT aL Tryz.func299 (let a:=aAE (cmpI ah bh) (cmpI al bl);let b:=orI a;True/\nB (Ans prog 310 (gE ah bh) (aV (cmpI ah bh))) (True/\True/\True/\Ans prog 310 (gE al bl) (aV (cmpI al bl))/\True/\tX 309 2 a [] (aV b)/\True/\eS true/\jC b (cmpI (wV ah al) (wV bh bl)))) λhwf=>by
  delta eS aB aV jC bD pM tX nB cF cA gE aAE;simp only[sS,zQK,zQF,zQD,zXC,zQZ];simp only[RV.wfs,RV.wf,DV.wf,DV.wfs,uc]at hwf;obtain⟨⟨h1,h2,_⟩,⟨h3,h4,_⟩,_⟩:=hwf;exact⟨jZO _ _ ⟨rfl,_,_,rfl⟩,yYi h2.1 (by omega) h4.1 (by omega) _ _⟩
def aIG(a:Int):Int:=a%18446744073709551616
abbrev wQo:=@decide_eq_false
theorem zXa(ah al bh bl:Int):Ans prog 275 [rA [DV.int .u64 ah,DV.int .u64 al],rA [DV.int .u64 bh,DV.int .u64 bl]] (rT [rA [DV.int .u64 (hiW (addW (wV ah al) (wV bh bl))),DV.int .u64 (loW (addW (wV ah al) (wV bh bl)))],rD (dQ (addK (wV ah al) (wV bh bl)))]):=
 vv zGT aL Tryz.func275 (let c:=addK (wV ah al) (wV bh bl);let d:=fO (addW (wV ah al) (wV bh bl));let e:=aIG (al+bl+0);let a:=(al+bl+0)/18446744073709551616;let f:=ah+bh+a;let g:=aIG f;let b:=f/18446744073709551616;bI (gC (AnsE prog 286 (cA al (gE bl 0)) (pU e a)) (aK (aR (AnsE prog 286 (cA ah (gE bh a)) (pU g b)) (True/\uX b (gA (gQ 0 0 []) [aM false]=dA d c) (dL (fN b) (rB (gQ g e []) d c))))))) λhwf=>by
  delta eS aK aX dL gC aR aM bI cS cF dN fN cA gE pU gA gQ dA rB uX fO aIG;simp only[sS,zQK,zQF,zQD,zXC,zQZ,zZk];simp only[RV.wfs,RV.wf,DV.wf,DV.wfs,uc]at hwf;obtain⟨⟨h1,h2,_⟩,⟨h3,h4,_⟩,_⟩:=hwf;refine⟨jK0 _ _ _ (by omega) (by omega) (by omega),jK0 _ _ _ (by omega) (by omega) (by omega),λh=>?_,λh=>?_⟩
  .have h:=wQQ.1 h;have e:¬wV ah al+wV bh bl<340282366920938463463374607431768211456:=by unfold wV;omega
   unfold addW addK;rw[if_neg e,wQo e];exact⟨⟨rfl,rfl⟩,rfl⟩
  .have h:=wZu.1 h;have e:wV ah al+wV bh bl<340282366920938463463374607431768211456:=by unfold wV;omega
   unfold addW addK;rw[if_pos e,decide_eq_true e];unfold wV hiW loW;exact⟨by omega,rfl⟩
theorem zJU(ah al bh bl:Int):Ans prog 297 [rA [DV.int .u64 ah,DV.int .u64 al],rA [DV.int .u64 bh,DV.int .u64 bl]] (rT [rA [DV.int .u64 (hiW (subW (wV ah al) (wV bh bl))),DV.int .u64 (loW (subW (wV ah al) (wV bh bl)))],rD (dQ (subK (wV ah al) (wV bh bl)))]):=
 vv zGT aL Tryz.func297 (let c:=subK (wV ah al) (wV bh bl);let d:=fO (subW (wV ah al) (wV bh bl));let e:=aIG (al-bl-0);let a:=if al<bl+0 then(1:Int) else(0:Int);let f:=aIG (ah-bh-a);let b:=if ah<bh+a then(1:Int) else(0:Int);aK (AnsE prog 300 (cA al (gE bl 0)) (pU e a)/\aK (bD (AnsE prog 300 (cA ah (gE bh a)) (pU f b)) (bI (uX b (gA (gQ 0 0 []) [aM false]=dA d c) (dL (fN b) (rB (gQ f e []) d c))))))) λhwf=>by
  delta eS aK bD dL aM bI cS cF dN fN cA gE pU gA gQ dA rB uX fO aIG;simp only[sS,zQK,zQF,zQD,zXC,zQZ,zZk,zXa];simp only[RV.wfs,RV.wf,DV.wf,DV.wfs,uc]at hwf;obtain⟨⟨h1,h2,_⟩,⟨h3,h4,_⟩,_⟩:=hwf;refine⟨jJw _ _ _ (by omega) (by omega) (by omega),jJw _ _ _ (by omega) (by omega) (by split<;>omega),λh=>?_,λh=>?_⟩
  .have h:=wQQ.1 h;have e:wV ah al<wV bh bl:=by unfold wV;split at h<;>split at h<;>omega
   unfold subW subK;rw[if_pos e,wQo (by omega)];exact⟨⟨rfl,rfl⟩,rfl⟩
  .have h:=wZu.1 h;have e:¬wV ah al<wV bh bl:=by unfold wV;split at h<;>split at h<;>omega
   unfold subW subK;rw[if_neg e,decide_eq_true (by omega)];unfold wV at e;unfold wV hiW loW;split at h<;>split at h<;>exact⟨by omega,rfl⟩
def jR(a:Int):Int:=wV (hiW a) (loW a)
def vQ(a:List RV)(b:Int):Prop:=sX 276 a (fO b)
theorem zKi(ah al k:Int)(h:wV ah al*k<340282366920938463463374607431768211456):Ans prog 296 [rA [DV.int .u64 ah,DV.int .u64 al],rD (DV.int .u64 k)] (rT [rA [DV.int .u64 (hiW (wV ah al*k)),DV.int .u64 (loW (wV ah al*k))],rD (dQ true)]):=
 vv zGT aL Tryz.func296 (let c:=dA (fO (wV ah al*k)) true;let a:=loW (ah*k);let d:=wV a 0;let e:=addK d (jR (al*k));let f:=addW d (jR (al*k));let b:=hiW (ah*k);bI (eZ (Ans prog 103 (gE ah k) (pU b a)) (uX b (gA (gQ 0 0 []) [aM false]=c) (aE (fN b) (True/\True/\True/\vQ (gE al k) (al*k)/\bH 275 (gQ a 0 []) (gB (fO (al*k))) (dA (fO f) e)/\True/\True/\True/\True/\dA (fO f) e=c))))) λhwf=>by
  delta eS aE gB bH eZ aM bI cS cF dN fN cA gE pU gA gQ dA sX uX fO jR vQ;simp only[sS,zQK,zQF,zQD,zXC,zQZ,zZk,zXa,zJU];simp only[RV.wfs,RV.wf,DV.wf,DV.wfs,uc]at hwf;obtain⟨⟨h1,h2,_⟩,h3,_⟩:=hwf;have e:wV ah al*k=ah*k*18446744073709551616+al*k:=by unfold wV;grind
  rw[e]at h |-;have n1:0<=ah*k:=Int.mul_nonneg h1.1 h3.1;have n2:0<=al*k:=Int.mul_nonneg h2.1 h3.1;have ez:hiW (ah*k)=0:=by unfold hiW;omega
  have el:loW (ah*k)=ah*k:=by unfold loW;omega
  rw[ez,el];have m64:=zWQ ah k;rw[ez,el]at m64;refine⟨m64,λq=>absurd q (by decide),λ_=>?_⟩;rw[zJu];have ea:wV (ah*k) 0=ah*k*18446744073709551616:=by unfold wV;omega
  unfold addW addK;rw[ea,if_pos h,decide_eq_true h];exact⟨⟨rfl,rfl⟩,rfl⟩
theorem zVx(ah al d:Int)(h:1<=d):Ans prog 295 [rA [DV.int .u64 ah,DV.int .u64 al],rD (DV.int .u64 d)] (rT [rA [DV.int .u64 (hiW ((wV ah al) / d)),DV.int .u64 (loW ((wV ah al) / d))],rD (DV.int .u64 ((wV ah al)%d)),rD (dQ true)]):=
 vv zGT aL Tryz.func295 (let a:=gA (fO (wV ah al/d)) (cA (wV ah al%d) sN);let b:=wV (Int.tmod ah d) al;let c:=b%d;let e:=b/d;bI (mH (mE d) (gA (gQ 0 0 []) (cA 0 [aM false])=a) (fJ (fS d) (gH d) (eZ (Ans prog 308 (cA (Int.tmod ah d) (gE al d)) (pU e c)) (nN (sW (gH d) (gA (gQ (aBU ah d) e []) (cA c sN)=a))))))) λhwf=>by
  delta eS aX fS mE fJ gH nN bK eZ aM bI cF bV aBU mH sN cA gE pU sW gA gQ fO;simp only[sS,zQK,zQF,zQD,zXC,zQZ,zZk,zXa,zJU];simp only[RV.wfs,RV.wf,DV.wf,DV.wfs,uc]at hwf;obtain⟨⟨h1,h2,_⟩,h3,_⟩:=hwf;have t1:Int.tmod ah d=ah%d:=wZ1 h1.1;have t2:Int.tdiv ah d=ah / d:=wQ5 h1.1;have b1:0<=ah%d:=wZb _ (by omega);have b2:ah%d<d:=wZc _ (by omega);have b3:0<=ah / d:=wQU h1.1 (by omega);have b4:ah / d<=ah:=wZY _ h1.1;have D:=jZX (ah%d) al d b2;simp only[t1,t2];rw[wQk (ah / d) ⟨b3,by omega⟩];have e0:=wZN ah d;have e:wV ah al=wV (ah%d) al+d*(ah / d*18446744073709551616):=by unfold wV;grind
  have c1:0<=wV (ah%d) al:=by unfold wV;omega
  have c2:wV (ah%d) al<d*18446744073709551616:=by unfold wV;omega
  have c3:0<=wV (ah%d) al / d:=wQU c1 (by omega);have c4:wV (ah%d) al / d<18446744073709551616:=wXo (by omega) (by rw[wQB];exact c2);have d1:wV ah al / d=ah / d*18446744073709551616+wV (ah%d) al / d:=by rw[e,Int.add_mul_ediv_left _ _ (by omega)];omega
  have d2:wV ah al%d=wV (ah%d) al%d:=by rw[e,wYt]
  have hd0:(d==0)=true->d=0:=λq=>by simpa using q
  refine⟨λq=>absurd (hd0 q) (by omega),λ_=>⟨by omega,D,by omega,?_⟩⟩;rw[d1,d2];unfold hiW loW;exact⟨by omega,rfl⟩
theorem jXR(ah al:Int):Ans prog 293 [rA [DV.int .u64 ah,DV.int .u64 al]] (rD (DV.int .u64 (zZH (wV ah al)))):=
 vv zGT (gI (ui (λc=>c<=64) (λb=>aAB (dP 1 1 (xX 3 (zZH (wV ah al)/aCS b*aCS b) 4 (aCS b/2) [])) 1 [cD (cF ah),cD (cF al)] []) (λa=>a) (λd=>aL))) Tryz.func293 (let a:=zZH (wV ah al);let h:=gQ ah al [];fV (∃k:Nat,gV (k<=64) (sI (fD 0 (a/aCS k*aCS k)) (fD 9223372036854775808 (aCS k/2))) h) (∀b:Nat,let g:=a/aCS b*aCS b;let c:=aCS b/2;let l:=nV c 1;let d:=zW (HOr.hOr (xZ g) (xZ c));let i:=d*d;let j:=cmpI (jR i) (wV ah al);bP (b<=64) (bK (gL c 0) (bD (vQ (cA d (cA d [])) i) (nT (bH 299 (fO i) (gB h) (aV j)) (aN (lQ j 0) (bD ((0:Int)<=1) (∃f:Nat,aG (f<=64) (f<b) (sI (fD d (a/aCS f*aCS f)) (fD l (aCS f/2))) (eS h)))) (pG (decide (j<=0)) ((0:Int)<=1/\True/\(∃e:Nat,aG (e<=64) (e<b) (sI (fD g (a/aCS e*aCS e)) (fD l (aCS e/2))) (eS h))))))) (aE (dR c 0) (jL g=jL a)))) λhwf=>by
  delta eS aB aV aE aG aN bD gB bP bK pG aT dE dR gL bH fV jW cF bV jL lQ sI nT gV cA xZ fD aCS nV zW gQ sX fO jR vQ;simp only[sS,zQK,zQF,zQD,zXC,zQZ,zZk,zXa,zJU];simp only[RV.wfs,RV.wf,DV.wf,DV.wfs,uc]at hwf;obtain⟨⟨h1,h2,_⟩,_⟩:=hwf;have hA:0<=wV ah al/\wV ah al<340282366920938463463374607431768211456:=by unfold wV;omega
  obtain⟨r0,r1,r2⟩:=zYI hA.1;have r3:zZH (wV ah al)<18446744073709551616:=(jQi hA.1 (by decide)).2 (by omega);obtain⟨f,hf⟩:=wZd r0;have le:=λk hk=>jQK (n:=wV ah al) (k:=k) hA.1 hk;rw[hf]at le r3 |-;have hf64:f<2 ^ 64:=by omega
  have M:=λx=>zQZ x x;have CC:=λx y=>zZk x y ah al;refine⟨⟨64,Nat.le_refl _,?_,by decide⟩,λi hi=>⟨λh=>?_,λh=>?_⟩⟩
  .have:(f:Int) / 2 ^ 64=0:=wYz (by omega) (by omega);rw[this];rfl
  .obtain⟨k,rfl⟩:∃k,i=k+1:=⟨i-1,by
    rcases wZ0 i with h0|h0
    .subst h0;exact absurd h (by decide)
    .omega⟩
   have hk:k<64:=by omega
   obtain⟨b1,b2,b3,b4⟩:=jWb hf64 hk;have p0:(2 ^ k:Nat)<2 ^ 64:=wYI (by decide) (by omega);have c2:((2:Int) ^ (k+1) / 2)=((2 ^ k:Nat):Int):=by
    rw[Int.pow_succ,Int.mul_ediv_cancel _ (by decide)];simp
   have c3:∀j,(f:Int) / 2 ^ j*2 ^ j=((f / 2 ^ j*2 ^ j:Nat):Int):=λj=>by simp
   have c4:wrap .u64 ((f / 2 ^ (k+1)*2 ^ (k+1)+2 ^ k:Nat):Int)=((f / 2 ^ (k+1)*2 ^ (k+1)+2 ^ k:Nat):Int):=wQk _ (by omega);have c5:Int.fdiv ((2 ^ k:Nat):Int) (2 ^ min (Int.toNat 1) 64)=(2:Int) ^ k / 2:=by
    rw[show((2:Int) ^ min (Int.toNat 1) 64)=2 from by decide,wZq _ (by omega)];simp
   simp only[c2,c3,b1,c4,c5];rw[zJu];have hs:cmpI (((f / 2 ^ (k+1)*2 ^ (k+1)+2 ^ k:Nat):Int)*((f / 2 ^ (k+1)*2 ^ (k+1)+2 ^ k:Nat):Int)) (wV ah al)<=0↔f / 2 ^ (k+1)*2 ^ (k+1)+2 ^ k<=f:=by
    have l1:=le ((f / 2 ^ (k+1)*2 ^ (k+1)+2 ^ k:Nat):Int) (by omega);have:∀a b:Int,cmpI a b<=0↔a<=b:=λa b=>by unfold cmpI;grind
    rw[this,<-l1];omega
   rw[hs];refine⟨λhq=>⟨by decide,k,by omega,by omega,?_,rfl⟩,λhq=>⟨by decide,k,by omega,by omega,?_,rfl⟩⟩
   .rw[b3 hq]
   .rw[b4 (by omega)]
  .have:i=0:=by
    rcases wZ0 i with h0|h0
    .exact h0
    .obtain⟨k,rfl⟩:∃k,i=k+1:=⟨i-1,by omega⟩
     exfalso;have c2:((2:Int) ^ (k+1) / 2)=((2 ^ k:Nat):Int):=by
      rw[Int.pow_succ,Int.mul_ediv_cancel _ (by decide)];simp
     rw[c2]at h;have:=wXm k;omega
   subst this;simp
def vo(l:List DV):Ex:=⟨wV (nAt l 0) (nAt l 1),nAt l 2,nAt l 3,nAt l 4⟩
def jV3:Gam:=zGT.add [.p 297 (λv=>let e:=wV (nAt (ul v 1) 0) (nAt (ul v 1) 1);let f:=wV (nAt (ul v 0) 0) (nAt (ul v 0) 1);let c:=subW f e;some (RV.tup [RV.agg [DV.int .u64 (hiW c),DV.int .u64 (loW c)],RV.d (dQ (subK f e))])),
 .p 296 (λv=>let c:=wV (nAt (ul v 0) 0) (nAt (ul v 0) 1)*(nAt (uj v) 1);some (RV.tup [RV.agg [DV.int .u64 (hiW c),DV.int .u64 (loW c)],RV.d (dQ true)])),
 .p 295 (λv=>let c:=wV (nAt (ul v 0) 0) (nAt (ul v 0) 1);let e:=nAt (uj v) 1;some (RV.tup [RV.agg [DV.int .u64 (hiW (c / e)),DV.int .u64 (loW (c / e))],RV.d (DV.int .u64 (c%e)),RV.d (dQ true)])),
 .p 293 (λv=>some (RV.d (DV.int .u64 (zZH (wV (nAt (ul v 0) 0) (nAt (ul v 0) 1)))))),
 .p 291 (λv=>let c:=ul v 0;some (RV.d (dQ (exOk (nAt c 0) (nAt c 2) (nAt c 3) (nAt c 4))))),
 .p 294 (λv=>let e:=nAt (ul v 0) 2;let c:=e*e*(nAt (ul v 0) 3);some (RV.agg [DV.int .u64 (hiW c),DV.int .u64 (loW c)])),
 .p 298 (λv=>some (rJ (jVn (nAt (ul v 0) 2) (nAt (ul v 0) 3) (wV (nAt (ul v 1) 0) (nAt (ul v 1) 1))))),
 .p 278 (λv=>some (RV.tup [RV.d (DV.int .u64 (vo (ul v 0)).floor),RV.d (dQ true)])),
 .p 279 (λv=>some (RV.d (dQ (upB (vo (ul v 0)) (nAt (uj v) 1)))))]
theorem zX4(ph pl q r d:Int):Ans prog 291 [rA [DV.int .u64 ph,DV.int .u64 pl,DV.int .u64 q,DV.int .u64 r,DV.int .u64 d]] (rD (dQ (exOk ph q r d))):=
 vv jV3 aL Tryz.func291 (let a:=exOk ph q r d;True/\True/\True/\True/\aP (jE ph 4294967296) (aP (jE q 70368744177664) (True/\True/\True/\(jE r 8589934592->True/\True/\True/\True/\True/\cZ (decide (d>=1)) a)/\fY (tA r 8589934592 true) a) (mG (tA q 70368744177664 true) a)) (mI (tA ph 4294967296 true) a)) λhwf=>by
  delta eS aE aP tA jE bK aM fP cZ fY gO mG mI;simp only[sS];unfold exOk;grind
theorem zJH(ph pl q r d:Int)(hp:ph<4294967296)(hq:q<70368744177664)(hr:r<8589934592):Ans prog 294 [rA [DV.int .u64 ph,DV.int .u64 pl,DV.int .u64 q,DV.int .u64 r,DV.int .u64 d]] (rA [DV.int .u64 (hiW (q*q*r)),DV.int .u64 (loW (q*q*r))]):=
 vv jV3 aL Tryz.func294 (bI (True/\True/\True/\vQ (cA q (cA q [])) (q*q)/\bD (bH 296 (fO (q*q)) (cA r []) (dA (fO (jR (q*q)*r)) true)) (gC (eS true) (cV (fO (jR (q*q)*r)) (fO (q*q*r)))))) λhwf=>by
  delta eS bD aX gC cV bH aM bI cF cA gA gQ dA sX fO jR vQ;simp only[sS,zX4];simp only[RV.wfs,RV.wf,DV.wf,DV.wfs,uc]at hwf;obtain⟨⟨w1,w2,w3,w4,w5,_⟩,_⟩:=hwf;have hP:0<=wV ph pl/\wV ph pl<79228162514264337593543950336:=by unfold wV;omega
  have x1:=zQf w3.1 (show q<=70368744177664 by omega) w3.1 (show q<=70368744177664 by omega);have x2:=zQf x1.1 x1.2 w4.1 (show r<=8589934592 by omega);exact⟨zQZ _ _,zKi _ _ _ (by rw[zJu];omega),by rw[zJu];exact⟨rfl,rfl⟩⟩
def yB(a b c d e:Int):List DV:=cF a::gQ b c (gQ d e [])
def aDT(a:FuncId)(b c:Int)(d:RV):Prop:=bH a (fO b) (gB (fO c)) d
theorem jXT(ph pl q r d nh nl:Int)(hp:ph<4294967296)(hq:q<70368744177664)(hr:r<8589934592):Ans prog 298 [rA [DV.int .u64 ph,DV.int .u64 pl,DV.int .u64 q,DV.int .u64 r,DV.int .u64 d],rA [DV.int .u64 nh,DV.int .u64 nl]] (rJ ((jVn q r (wV nh nl)))):=
 vv jV3 aL Tryz.func298 (let a:=jVn q r (wV nh nl);let b:=cmpI (jR (q*q*r)) (jR (nl*nl));bI (True/\True/\True/\(gL nh 0->True/\jC (-1) a)/\bL (dR nh 0) (iG 294 (yB ph pl q r d) [] (fO (q*q*r))) (True/\True/\True/\True/\vQ (cA nl (cA nl [])) (nl*nl)/\aDT 299 (q*q*r) (nl*nl) (aV b)/\eC True (eS true) (jC b a)))) λhwf=>by
  delta eS aB aV jC eC gB bL dR gL bH iG bI cF cA gQ yB sX fO jR vQ aDT;simp only[sS,zX4];simp only[RV.wfs,RV.wf,DV.wf,DV.wfs,uc]at hwf;obtain⟨⟨w1,w2,w3,w4,w5,_⟩,⟨w6,w7,_⟩,_⟩:=hwf;have hP:0<=wV ph pl/\wV ph pl<79228162514264337593543950336:=by unfold wV;omega
  have x1:=zQf w3.1 (show q<=70368744177664 by omega) w3.1 (show q<=70368744177664 by omega);have x2:=zQf x1.1 x1.2 w4.1 (show r<=8589934592 by omega);have S:=zJH ph pl q r d hp hq hr;have M:=zQZ nl nl;have Cc:=zZk (hiW (q*q*r)) (loW (q*q*r)) (hiW (nl*nl)) (loW (nl*nl));refine⟨λh=>?_,λh=>?_⟩
  .unfold jVn;rw[if_pos (by unfold wV;omega)]
  .have e:nh=0:=by omega
   subst e;refine⟨S,M,Cc,?_⟩;rw[zWW,zJu,zJu];unfold jVn;rw[if_neg (by omega)]
def vR(a:Int)(b:List RV):RV:=RV.tup (cA a b)
def aJF(a:Int):Prop:=eJ a 9223372036854775808
def aJG(a:Int):Prop:=fI a 9223372036854775808
theorem jZA(ph pl q r d:Int)(hp:ph<4294967296)(hq:q<70368744177664)(hr:r<8589934592)(hd:1<=d)(hf:(⟨wV ph pl,q,r,d⟩:Ex).floor<4611686018427387904):Ans prog 278 [rA [DV.int .u64 ph,DV.int .u64 pl,DV.int .u64 q,DV.int .u64 r,DV.int .u64 d]] (rT [rD (DV.int .u64 ((⟨wV ph pl,q,r,d⟩:Ex).floor)),rD (dQ true)]):=
 vv jV3 aL Tryz.func278 (let b:=vR (Ex.floor ⟨wV ph pl,q,r,d⟩) sN;let h:=vR 0 [aM false];let i:=h=b;let a:=zZH (jR (q*q*r));let j:=wV 0 a;let c:=addW (wV ph pl) j;let k:=jR c;let e:=k/d;let l:=hiW e;let f:=loW e;let m:=gQ 0 a [];let g:=exOk ph q r d;bI (True/\bH 291 (yB ph pl q r d) [] (aM g)/\True/\aE (dV g) (h=b)/\fJ (bO g) (iG 294 (yB ph pl q r d) [] (fO (q*q*r))) (pP (bH 293 (fO (q*q*r)) [] (jL a)) (sX 292 (cA a []) m) (bH 275 (gQ ph pl []) (gB m) (dA (fO c) (addK (wV ph pl) j))) (nB (eS true) (bD (bH 295 (fO c) (cA d []) (gA (fO e) (cA (k%d) sN))) (aK (aDS l 0 (aP (aJF f) i (bK (aJG f) (vR f sN=b))) (aN (mK l 0) i)))))))) λhwf=>by
  delta eS aE aP eJ fI aK aN bD gB fJ bK gD dR bH iG aM bI pP nB cF jL bO dV mK sN cA gA gQ yB dA sX aDS fO jR vR aJF aJG;simp only[sS,zX4];simp only[RV.wfs,RV.wf,DV.wf,DV.wfs,uc]at hwf;obtain⟨⟨w1,w2,w3,w4,w5,_⟩,_⟩:=hwf;have hP:0<=wV ph pl/\wV ph pl<79228162514264337593543950336:=by unfold wV;omega
  have x1:=zQf w3.1 (show q<=70368744177664 by omega) w3.1 (show q<=70368744177664 by omega);have x2:=zQf x1.1 x1.2 w4.1 (show r<=8589934592 by omega);have eok:(⟨wV ph pl,q,r,d⟩:Ex).ok:=⟨hP.1,w3.1,w4.1,by simp only;omega⟩
  have hok:exOk ph q r d=true:=by simp[exOk];omega
  have S:=zJH ph pl q r d hp hq hr;have up0:=Ex.up_nonneg eok (t:=1) (by omega);have e1:(⟨wV ph pl,q,r,d⟩:Ex).up 1=wV ph pl+zZH (q*q*r):=by unfold Ex.up;simp only[wZM]
  have fl:(⟨wV ph pl,q,r,d⟩:Ex).floor=(wV ph pl+zZH (q*q*r)) / d:=by unfold Ex.floor;rw[e1]
  have F0:0<=(⟨wV ph pl,q,r,d⟩:Ex).floor:=wQU up0 w5.1;obtain⟨r0,_,_⟩:=zYI (n:=q*q*r) (by omega);have r3:zZH (q*q*r)<18446744073709551616:=(jQi (by omega) (by decide)).2 (by omega);have Q:=jXR (hiW (q*q*r)) (loW (q*q*r));rw[zJu]at Q;have A:=zXa ph pl 0 (zZH (q*q*r));rw[zWW]at A;have ad:addW (wV ph pl) (zZH (q*q*r))=wV ph pl+zZH (q*q*r):=by unfold addW;rw[if_pos (by omega)]
  rw[ad]at A;have D:=zVx (hiW (wV ph pl+zZH (q*q*r))) (loW (wV ph pl+zZH (q*q*r))) d hd;rw[zJu,<-fl]at D;have h1:hiW (⟨wV ph pl,q,r,d⟩:Ex).floor=0:=zY3 F0 (by omega);have h2:loW (⟨wV ph pl,q,r,d⟩:Ex).floor=(⟨wV ph pl,q,r,d⟩:Ex).floor:=zYv F0 (by omega);rw[h1,h2]at D;simp only[hok,zJu,zWW,ad,<-fl,h1,h2];exact⟨λh=>(by cases h),λ_=>⟨S,Q,zXC _,A,D,λ_=>⟨λh=>(by omega),λ_=>trivial⟩,λh=>absurd h (by decide)⟩⟩
theorem jVc(ph pl q r d f:Int)(hp:ph<4294967296)(hq:q<70368744177664)(hr:r<8589934592)(hd:1<=d)(hf:f<4611686018427387904):Ans prog 279 [rA [DV.int .u64 ph,DV.int .u64 pl,DV.int .u64 q,DV.int .u64 r,DV.int .u64 d],rD (DV.int .u64 f)] (rD (dQ (upB (⟨wV ph pl,q,r,d⟩:Ex) f))):=
 vv jV3 aL Tryz.func279 (let b:=upB ⟨wV ph pl,q,r,d⟩ f;let o:=gO b;let c:=wV ph pl*2;let p:=jR c;let s:=bV (bJ 2 f+1);let e:=s*d;let t:=jR e;let g:=subW t p;let u:=jR g;let a:=u/2;let h:=jR a;let i:=loW a;let j:=i*i;let v:=jR j;let k:=addK v h;let l:=addW v h;let w:=cmpI (jR (q*q*r)) (jR l);let m:=u%2;let x:=jVn q r h;let y:=hiW a;let n:=subK t p;fV (bH 296 (gQ ph pl []) (cA 2 []) (dA (fO c) true)) (kM (vQ (gE s d) e) (aX (aDT 297 e c (dA (fO g) n)) (fT (eS true) (xR n (cZ true b)) (xI n (kH (bH 295 (fO g) (cA 2 []) (gA (fO a) (cA m sN))) (aK (True/\True/\True/\(gL y 0->True/\o)/\(dR y 0->qL m (aX (bH 298 (yB ph pl q r d) (gB (fO a)) (aV x)) (cZ (decide (x>=0)) b)) (iL (fS m) (vQ (cA i (cA i [])) j) (aX (aDT 275 j a (dA (fO l) k)) (fT (eS true) (k=true->True/\iG 294 (yB ph pl q r d) [] (fO (q*q*r))/\True/\aDT 299 (q*q*r) l (aV w)/\kV (cZ (decide (w>0)) b)) (bP (bG k) (eS true) o))))))))))))) λhwf=>by
  delta eS aB aV aK aX gB fS bG bP kV dR gL kH bH fT iG fV aM kM cS iL cF bV qL cZ gO bO xI dV xR sN cA bJ gE gA gQ yB dA sX fO jR vQ aDT;simp only[sS,zX4];simp only[RV.wfs,RV.wf,DV.wf,DV.wfs,uc]at hwf;obtain⟨⟨w1,w2,w3,w4,w5,_⟩,w6,_⟩:=hwf;have hP:0<=wV ph pl/\wV ph pl<79228162514264337593543950336:=by unfold wV;omega
  have x1:=zQf w3.1 (show q<=70368744177664 by omega) w3.1 (show q<=70368744177664 by omega);have x2:=zQf x1.1 x1.2 w4.1 (show r<=8589934592 by omega);have eok:(⟨wV ph pl,q,r,d⟩:Ex).ok:=⟨hP.1,w3.1,w4.1,by simp only;omega⟩
  have wf1:wrap .u64 (2*f)=2*f:=wQk _ (by omega);have wf2:wrap .u64 (2*f+1)=2*f+1:=wQk _ (by omega);simp only[wf1,wf2,zJu];have n0:=zQf (x:=2*f+1) (A:=9223372036854775807) (by omega) (by omega) w5.1 w5.2;have ub:upB (⟨wV ph pl,q,r,d⟩:Ex) f=decide ((2*f+1)*d<=(⟨wV ph pl,q,r,d⟩:Ex).up 2):=rfl;have MS:=zKi ph pl 2 (by omega);have MU:=zQZ (2*f+1) d;have SB:=zJU (hiW ((2*f+1)*d)) (loW ((2*f+1)*d)) (hiW (wV ph pl*2)) (loW (wV ph pl*2));rw[zJu,zJu]at SB;rw[ub];clear ub;have un:=λn h=>yXL eok (n:=n) h;have ue:=λm h=>jGf eok (m:=m) h;have uo:=λm h=>yXK eok (m:=m) h;have ubg:=λm h=>yXM eok (m:=m) h (by simp only;omega);have SQ:=zJH ph pl q r d hp hq hr;simp only at un ue uo ubg;generalize hN:(2*f+1)*d=N at *;generalize (⟨wV ph pl,q,r,d⟩:Ex).up 2=V at *;refine⟨MS,MU,SB,λh=>?_,λh=>?_⟩
  .have h:¬wV ph pl*2<=N:=wX7 h;exact(decide_eq_true (un N (by omega))).symm
  have h:wV ph pl*2<=N:=wQH h;have sw:subW N (wV ph pl*2)=N-wV ph pl*2:=by unfold subW;rw[if_neg (by omega)]
  simp only[sw,zJu];obtain⟨K,hK⟩:∃K,K=N-wV ph pl*2:=⟨_,rfl⟩
  rw[<-hK];have DM:=zVx (hiW K) (loW K) 2 (by decide);rw[zJu]at DM;have hN2:N=K+2*wV ph pl:=by omega
  rw[hN2];clear hN hN2 sw SB MS MU;have e2:=wZN K 2;have m0:0<=K / 2:=by omega
  refine⟨DM,λh1=>?_,λh1=>?_⟩
  .have h1:¬K / 2<18446744073709551616:=by unfold hiW at h1;omega
   have:=ubg (K / 2) (by omega);exact(wQo (by omega)).symm
  have h1:K / 2<18446744073709551616:=by unfold hiW at h1;omega
  have z1:hiW (K / 2)=0:=zY3 m0 h1;have z2:loW (K / 2)=K / 2:=zYv m0 h1;simp only[z1,z2,zWW,zJu];have R:=jXT ph pl q r d 0 (K / 2) hp hq hr;rw[zWW]at R;have ME:=zQZ (K / 2) (K / 2);have AE:=zXa (hiW (K / 2*(K / 2))) (loW (K / 2*(K / 2))) 0 (K / 2);rw[zWW,zJu]at AE;have mm:=zQf m0 (show K / 2<=18446744073709551615 by omega) m0 (show K / 2<=18446744073709551615 by omega);have ea:addW (K / 2*(K / 2)) (K / 2)=K / 2*(K / 2)+K / 2:=by unfold addW;rw[if_pos (by omega)]
  have ek:addK (K / 2*(K / 2)) (K / 2)=true:=decide_eq_true (by omega);have CE:=zZk (hiW (q*q*r)) (loW (q*q*r)) (hiW (K / 2*(K / 2)+K / 2)) (loW (K / 2*(K / 2)+K / 2));rw[zJu,zJu]at CE;rw[ea]at AE |-;have ge:∀a b:Int,0<=cmpI a b↔b<=a:=λa b=>yXs;have gt:∀a b:Int,cmpI a b>0↔b<a:=λa b=>by unfold cmpI;grind
  refine⟨λh2=>⟨R,?_⟩,λh2=>⟨ME,AE,λ_=>⟨SQ,CE,?_⟩,λh=>(by rw[ek]at h;cases h)⟩⟩
  .have h2:K%2=0:=by simpa using h2
   have ev:=ue (K / 2) m0;rw[decide_eq_decide,show K+2*wV ph pl=2*(K / 2)+2*wV ph pl by omega,ev];unfold jVn;rw[if_neg (by omega)];exact ge _ _
  .have h2:¬K%2=0:=by simpa using h2
   have ev:=uo (K / 2) m0;rw[decide_eq_decide,show K+2*wV ph pl=2*(K / 2)+1+2*wV ph pl by omega,ev];exact gt _ _
theorem zUp(ph pl q r d:Int)(hp:ph<4294967296)(hq:q<70368744177664)(hr:r<8589934592)(hd:1<=d)(hf:(⟨wV ph pl,q,r,d⟩:Ex).floor<4611686018427387904):Ans prog 263 [rA [DV.int .u64 ph,DV.int .u64 pl,DV.int .u64 q,DV.int .u64 r,DV.int .u64 d]] (rT [rD (DV.int .u64 ((⟨wV ph pl,q,r,d⟩:Ex).half)),rD (dQ true)]):=
 vv jV3 aL Tryz.func263 (let b:=vR (Ex.half ⟨wV ph pl,q,r,d⟩) sN;let f:=(⟨wV ph pl,q,r,d⟩:Ex);let a:=Ex.floor f;let g:=vR a sN;let h:=vR 0 [aM false];let c:=upB f a;let e:=bV (a+1);let i:=h=b;let j:=gQ ph pl (cF q::gQ r d []);fV (bH 278 j [] g) (bI (True/\aP (dV true) i (bO true->True/\True/\bH 279 j (cA a []) (aM c)/\aE (c=true) (aP (aJF e) i (aN (aJG e) (vR e sN=b)))/\bP (c=false) (aE (aJF a) (h=b)) (aN (aJG a) (g=b)))))) λhwf=>by
  delta eS aE aP eJ fI aN bP bH fV aM bI cF bV bO dV sN cA gQ vR aJF aJG;simp only[sS,zX4];simp only[RV.wfs,RV.wf,DV.wf,DV.wfs,uc]at hwf;obtain⟨⟨w1,w2,w3,w4,w5,_⟩,_⟩:=hwf;have hP:0<=wV ph pl/\wV ph pl<79228162514264337593543950336:=by unfold wV;omega
  have x1:=zQf w3.1 (show q<=70368744177664 by omega) w3.1 (show q<=70368744177664 by omega);have x2:=zQf x1.1 x1.2 w4.1 (show r<=8589934592 by omega);have eok:(⟨wV ph pl,q,r,d⟩:Ex).ok:=⟨hP.1,w3.1,w4.1,by simp only;omega⟩
  have F:=jZA ph pl q r d hp hq hr hd hf;have up0:=Ex.up_nonneg eok (t:=1) (by omega);have F0:0<=(⟨wV ph pl,q,r,d⟩:Ex).floor:=wQU up0 w5.1;have U:=jVc ph pl q r d (⟨wV ph pl,q,r,d⟩:Ex).floor hp hq hr hd hf;have hh:=Ex.half_floor eok;have ub:upB (⟨wV ph pl,q,r,d⟩:Ex) (⟨wV ph pl,q,r,d⟩:Ex).floor=decide ((2*(⟨wV ph pl,q,r,d⟩:Ex).floor+1)*d<=(⟨wV ph pl,q,r,d⟩:Ex).up 2):=rfl;rw[wQk ((⟨wV ph pl,q,r,d⟩:Ex).floor+1) (by omega)];generalize (⟨wV ph pl,q,r,d⟩:Ex).floor=fl at *;refine⟨F,λh=>(by cases h),U,λh=>?_,λh=>?_⟩
  .rw[ub]at h;rw[hh,if_pos (wQH h)];exact⟨λh=>(by omega),λ_=>rfl⟩
  .rw[ub]at h;rw[hh,if_neg (wX7 h)];exact⟨λh=>(by omega),λ_=>rfl⟩
def jKu:Gam:=jV3.add [.p 303 (λv=>some (RV.agg [DV.int .u64 0,DV.int .u64 (nAt (uj v) 0),DV.int .u64 0,DV.int .u64 0,DV.int .u64 (nAt (uj v) 1)])),
 .p 304 (λv=>some (RV.d (DV.int .u64 (jQW (nAt (uj v) 0) (nAt (uj v) 1) (nAt (uj v) 2) (nAt (uj v) 3) (bAt (uj v) 4))))),
 .p 307 (λv=>let c:=(zKn (nAt (uj v) 0) (nAt (uj v) 1) (nAt (uj v) 2) (nAt (uj v) 3));some (RV.agg [DV.int .u64 (hiW c.p),DV.int .u64 (loW c.p),DV.int .u64 c.q,DV.int .u64 c.r,DV.int .u64 c.d])),
 .p 305 (λv=>let c:=(zV5 (nAt (uj v) 0) (nAt (uj v) 1) (nAt (uj v) 2) (nAt (uj v) 3));some (RV.agg [DV.int .u64 (hiW c.p),DV.int .u64 (loW c.p),DV.int .u64 c.q,DV.int .u64 c.r,DV.int .u64 c.d])),
 .p 306 (λv=>let c:=(zGY (nAt (uj v) 0) (nAt (uj v) 1) (nAt (uj v) 2) (nAt (uj v) 3));some (RV.agg [DV.int .u64 (hiW c.p),DV.int .u64 (loW c.p),DV.int .u64 c.q,DV.int .u64 c.r,DV.int .u64 c.d])),
 .p 290 (λv=>let c:=(zQk (nAt (uj v) 0) (nAt (uj v) 1) (nAt (uj v) 2) (nAt (uj v) 3) (nAt (uj v) 4));some (RV.agg [DV.int .u64 (hiW c.p),DV.int .u64 (loW c.p),DV.int .u64 c.q,DV.int .u64 c.r,DV.int .u64 c.d]))]
def oT(a b:Int):List DV:=yB 0 a 0 0 b
theorem zZD(p den:Int):Ans prog 303 [rD (DV.int .u64 p),rD (DV.int .u64 den)] (rA [DV.int .u64 0,DV.int .u64 p,DV.int .u64 0,DV.int .u64 0,DV.int .u64 den]):=
 vv jKu aL Tryz.func303 (qU (eS (rA (oT p den)))) λhwf=>by
  delta eS cF qU gQ yB oT;simp only[sS]
theorem jZV(s a d b:Int)(tw:Bool)(h0:0<=s)(h1:s<=a)(h2:0<=d)(h3:d<=b)(ha:a<=65535)(hb:b<=65535)(h5:0<=jQW s a d b tw):Ans prog 304 [rD (DV.int .u64 s),rD (DV.int .u64 a),rD (DV.int .u64 d),rD (DV.int .u64 b),rD (dQ tw)] (rD (DV.int .u64 (jQW s a d b tw))):=
 vv jKu aL Tryz.func304 (let c:=jL (jQW s a d b tw);gJ (dL (tw=true) (jL (bJ (bJ 2 s) d)=c)) (dL (tw=false) (aK (jL (fQ (bJ a b) (bJ (bJ 2 (fQ b d)) (fQ a s)))=c)))) λhwf=>by
  delta eS aK dL gJ cF bV jL fQ bJ;simp only[sS,zZD];have W:∀x:Int,0<=x->x<18446744073709551616->wrap .u64 x=x:=λx x0 x1=>wQk x ⟨x0,by omega⟩;have p1:=zQf (x:=2*s) (y:=d) (A:=131070) (B:=65535) (by omega) (by omega) h2 (by omega);have p2:=zQf (x:=a) (y:=b) (A:=65535) (B:=65535) (by omega) ha (by omega) hb;have p3:=zQf (x:=2*(b-d)) (y:=a-s) (A:=131070) (B:=65535) (by omega) (by omega) (by omega) (by omega);simp only[W (2*s) (by omega) (by omega),W (b-d) (by omega) (by omega),W (2*(b-d)) (by omega) (by omega),W (a-s) (by omega) (by omega),W (a*b) (by omega) (by omega),W (2*s*d) (by omega) (by omega),W (2*(b-d)*(a-s)) (by omega) (by omega)];unfold jQW at h5 |-;refine⟨λh=>by rw[h];rfl,λh=>?_⟩;rw[h]at h5 |-;rw[if_neg (by decide)]at h5 |-;exact W _ h5 (by omega)
def oU(a:Ex):List DV:=yB (hiW a.p) (loW a.p) a.q a.r a.d
def aCV(a:List RV)(b:List DV)(c d e f:Int):Prop:=bD (sX 303 a b) (cV b (yB (hiW c) (loW c) d e f))
def aCU(a:Int)(b:List DV):Prop:=sX 303 (gE a 1) b
theorem jZU(s a d b:Int)(h0:0<=s)(h1:s<=a)(h2:0<=d)(h3:d<=b)(ha:a<=65535)(hb:b<=65535):Ans prog 307 [rD (DV.int .u64 s),rD (DV.int .u64 a),rD (DV.int .u64 d),rD (DV.int .u64 b)] (rA [DV.int .u64 (hiW (zKn s a d b).p),DV.int .u64 (loW (zKn s a d b).p),DV.int .u64 ((zKn s a d b).q),DV.int .u64 ((zKn s a d b).r),DV.int .u64 ((zKn s a d b).d)]):=
 vv jKu aL Tryz.func307 (let c:=zKn s a d b;let g:=oU c;let e:=bJ 2 s;let h:=fQ e a;let f:=bJ (bJ 2 d) (fQ a s);let i:=qZ (bJ (bJ d a) b) b (bJ (bJ h d) (fQ (qZ (bJ 16 d) d (bJ (bJ 3 b) b)) (bJ (bJ 12 d) b)));let j:=fQ (bJ (bJ d a) b) (bJ (bJ (fQ a e) d) (fQ b d));fV (mE b->kH (aCU 0 (oT 0 1)) (cV (oT 0 1) g)) (aE (fS b) (xF e a (qU (aK (aCV (gE j b) (oT j b) c.p c.q c.r c.d))) (aE (decide (bJ 2 s<=a)=false) (aP (lQ (bJ 4 d) b) (True/\True/\True/\True/\aK (aK (aK (aCV (gE i (bV (b*b))) (oT i (bV (b*b))) c.p c.q c.r c.d)))) (fP (decide (bJ 4 d<=b)=false) (aBT (aCU f (oT f 1)) (aK (cV (yB 0 f h (bJ d b) 1) g))))))))) λhwf=>by
  delta eS aE aP aK bD fS mE aR cV kH fV cS fP aBT cF bV fQ lQ xF qU cA bJ gE qZ gQ yB oT oU sX aCV aCU;simp only[sS,zZD];have W:∀x:Int,0<=x->x<18446744073709551616->wrap .u64 x=x:=λx x0 x1=>wQk x ⟨x0,by omega⟩;have p1:=zQf (x:=d) (y:=a) (A:=65535) (B:=65535) h2 (by omega) (by omega) ha;have p2:=zQf (x:=b) (y:=b) (A:=65535) (B:=65535) (by omega) hb (by omega) hb;have p5:=zQf (x:=d) (y:=b) (A:=65535) (B:=65535) h2 (by omega) (by omega) hb;have p6:=zQf (x:=d*a) (y:=b) (A:=4294836225) (B:=65535) p1.1 (by omega) (by omega) hb;have su:=zH5 h0 h1 h2 h3;simp only[W (2*s) (by omega) (by omega),W (d*a) p1.1 (by omega),W (b-d) (by omega) (by omega),W (a-s) (by omega) (by omega),W (b*b) p2.1 (by omega),W (4*d) (by omega) (by omega),W (d*b) p5.1 (by omega),W (16*d) (by omega) (by omega),W (3*b) (by omega) (by omega),W (12*d) (by omega) (by omega),W (2*d) (by omega) (by omega),W (d*a*b) p6.1 (by omega)];unfold zKn at su |-;have fx:∀x:Ex,0<=x.p->x.p<18446744073709551616->0=hiW x.p/\x.p=loW x.p:=λx a b=>⟨(zY3 a b).symm,(zYv a b).symm⟩
  refine⟨λh=>?_,λh=>⟨λc1=>?_,λc1=>⟨λc2=>?_,λc2=>?_⟩⟩⟩
  .have h:b=0:=by simpa using h
   rw[if_pos h]
   (repeat' (first|exact trivial|rfl|apply And.intro))
  .have h:¬b=0:=by simpa using h
   rw[if_neg h,if_pos c1]at su |-;have q1:=zQf (x:=a-2*s) (y:=d) (A:=65535) (B:=65535) (by omega) (by omega) h2 (by omega);have q2:=zQf (x:=(a-2*s)*d) (y:=b-d) (A:=4294836225) (B:=65535) q1.1 (by omega) (by omega) (by omega);have q3:=su.ok.p;simp only at q3;simp only[W (a-2*s) (by omega) (by omega),W ((a-2*s)*d) q1.1 (by omega),W ((a-2*s)*d*(b-d)) q2.1 (by omega),W (d*a*b-(a-2*s)*d*(b-d)) q3 (by omega)];obtain⟨e1,e2⟩:=fx _ su.ok.p (by simp only;omega)
   (repeat' (first|exact e1|exact e2|exact trivial|rfl|apply And.intro))
  .have h:¬b=0:=by simpa using h
   rw[if_neg h,if_neg c1,if_pos c2]at su |-;have⟨k1,k2⟩:=jWm h2 c2;have e16:16*d*d=16*(d*d):=by grind
   have e12:12*d*b=12*(d*b):=by grind
   have e3:3*b*b=3*(b*b):=by grind
   have p7:=zQf (x:=d) (y:=d) (A:=65535) (B:=65535) h2 (by omega) h2 (by omega);have q1:=zQf (x:=2*s-a) (y:=d) (A:=65535) (B:=65535) (by omega) (by omega) h2 (by omega);have q4:=zQf (x:=d*a) (y:=b*b) (A:=4294836225) (B:=4294836225) p1.1 (by omega) p2.1 (by omega);have kk:16*d*d+3*b*b-12*d*b<=81601888275:=by omega
   have q5:=zQf (x:=(2*s-a)*d) (y:=16*d*d+3*b*b-12*d*b) (A:=4294836225) (B:=81601888275) q1.1 (by omega) k1 kk;have ab:=zQf (x:=a) (y:=b) (A:=65535) (B:=65535) (by omega) ha (by omega) hb;have abb:=zQf (x:=a*b) (y:=b*b) (A:=4294836225) (B:=4294836225) ab.1 (by omega) p2.1 (by omega);have up:=su.p;simp only at up;have e4:d*a*b*b=d*a*(b*b):=by rw[Int.mul_assoc (d*a)]
   have tot:d*a*(b*b)+(2*s-a)*d*(16*d*d+3*b*b-12*d*b)<18446744073709551616:=by omega
   simp only[W (16*d*d) (by omega) (by omega),W (3*b*b) (by omega) (by omega),W (16*d*d+3*b*b) (by omega) (by omega),W (12*d*b) (by omega) (by omega),W (16*d*d+3*b*b-12*d*b) k1 (by omega),W (2*s-a) (by omega) (by omega),W ((2*s-a)*d) q1.1 (by omega),e4,W (d*a*(b*b)) q4.1 (by omega),W ((2*s-a)*d*(16*d*d+3*b*b-12*d*b)) q5.1 (by omega),W (d*a*(b*b)+(2*s-a)*d*(16*d*d+3*b*b-12*d*b)) (by omega) tot];obtain⟨e1,e2⟩:=fx _ su.ok.p (by simp only;omega)
   (repeat' (first|exact e1|exact e2|exact trivial|rfl|apply And.intro))
  .have h:¬b=0:=by simpa using h
   rw[if_neg h,if_neg c1,if_neg c2];have q1:=zQf (x:=2*d) (y:=a-s) (A:=131070) (B:=65535) (by omega) (by omega) (by omega) (by omega);simp only[W (2*d*(a-s)) q1.1 (by omega),W (2*s-a) (by omega) (by omega)];have e1:=(zY3 q1.1 (show 2*d*(a-s)<18446744073709551616 by omega)).symm;have e2:=(zYv q1.1 (show 2*d*(a-s)<18446744073709551616 by omega)).symm
   (repeat' (first|exact e1|exact e2|exact trivial|rfl|apply And.intro))
theorem jZi(s a d b:Int)(h0:0<=s)(h1:s<=a)(h2:0<=d)(h3:d<=b)(ha:a<=65535)(hb:b<=65535):Ans prog 305 [rD (DV.int .u64 s),rD (DV.int .u64 a),rD (DV.int .u64 d),rD (DV.int .u64 b)] (rA [DV.int .u64 (hiW (zV5 s a d b).p),DV.int .u64 (loW (zV5 s a d b).p),DV.int .u64 ((zV5 s a d b).q),DV.int .u64 ((zV5 s a d b).r),DV.int .u64 ((zV5 s a d b).d)]):=
 vv jKu aL Tryz.func305 (let c:=zV5 s a d b;let e:=fQ a s;let f:=gQ 0 0 [cF 1];let g:=gQ 0 0 f;fV (mE d->kH (aCU 0 g) (cV g (oU c))) (qP (fS d) (rX (bJ d a) (bJ b e) (aCV (gE (bJ a b) 1) (gQ 0 (bJ a b) f) c.p c.q c.r c.d) (fP (fI (bJ d a) (bJ b e)) (aCV (gE (bJ (bV (a*a)) d) e) (oT (bJ (bV (a*a)) d) e) c.p c.q c.r c.d))))) λhwf=>by
  delta eS aE eJ fI aN bD fS mE cV kH fV fP cF bV fQ rX qP cA bJ gE gQ yB oT oU sX aCV aCU;simp only[sS,zZD];have W:∀x:Int,0<=x->x<18446744073709551616->wrap .u64 x=x:=λx x0 x1=>wQk x ⟨x0,by omega⟩;have fin:∀(x:Ex)(n X:Int),x=zZm n->0<=n->n<18446744073709551616->X=n->(0=hiW x.p/\X=loW x.p/\0=x.q/\0=x.r/\1=x.d):=λx n X e n0 n1 hX=>by
   rw[e,hX];exact⟨(zY3 n0 n1).symm,(zYv n0 n1).symm,rfl,rfl,rfl⟩
  have fin2:∀(x:Ex)(n e X D:Int),x=⟨n,0,0,e⟩->0<=n->n<18446744073709551616->X=n->D=e->(0=hiW x.p/\X=loW x.p/\0=x.q/\0=x.r/\D=x.d):=λx n e X D q n0 n1 hX hD=>by
   rw[q,hX,hD];exact⟨(zY3 n0 n1).symm,(zYv n0 n1).symm,rfl,rfl,rfl⟩
  have a0:0<=a:=by omega
  have b0:0<=b:=by omega
  have sb:=zQf (x:=s) (y:=b) (A:=65535) (B:=65535) h0 (by omega) b0 hb;have da:=zQf (x:=d) (y:=a) (A:=65535) (B:=65535) h2 (by omega) a0 ha;have sd:=zQf (x:=s) (y:=d) (A:=65535) (B:=65535) h0 (by omega) h2 (by omega);have ab:=zQf (x:=a) (y:=b) (A:=65535) (B:=65535) a0 ha b0 hb;have aa:=zQf (x:=a) (y:=a) (A:=65535) (B:=65535) a0 ha a0 ha;have aad:=zQf (x:=a*a) (y:=d) (A:=4294836225) (B:=65535) aa.1 (by omega) h2 (by omega);have ba:=zQf (x:=b) (y:=a-s) (A:=65535) (B:=65535) b0 hb (by omega) (by omega);have bd:=zQf (x:=b-d) (y:=a) (A:=65535) (B:=65535) (by omega) (by omega) a0 ha;have bda:=zQf (x:=(b-d)*a) (y:=a) (A:=4294836225) (B:=65535) bd.1 (by omega) a0 ha;have abs:=zQf (x:=a*b) (y:=s) (A:=4294836225) (B:=65535) ab.1 (by omega) h0 (by omega);have s2:=zQf (x:=2*s) (y:=d) (A:=131070) (B:=65535) (by omega) (by omega) h2 (by omega);simp only[W (d*a) da.1 (by omega),W (a-s) (by omega) (by omega),W (b*(a-s)) ba.1 (by omega),W (a*b) ab.1 (by omega),W (a*a) aa.1 (by omega),W (a*a*d) aad.1 (by omega)];refine⟨λk=>?_,λk=>⟨λk2=>?_,λk2=>?_⟩⟩
  .have k:d=0:=by simpa using k
   exact fin _ 0 0 (by unfold zV5;rw[if_pos k]) (by omega) (by omega) rfl
  .have k:¬d=0:=by simpa using k
   exact fin _ (a*b) _ (by unfold zV5;rw[if_neg k,if_pos k2]) ab.1 (by omega) rfl
  .have k:¬d=0:=by simpa using k
   exact fin2 _ (a*a*d) (a-s) _ _ (by unfold zV5;rw[if_neg k,if_neg k2]) aad.1 (by omega) rfl rfl
def yA(a b c d e:Int):Prop:=aCV (gE a 1) (oT a 1) b c d e
theorem jZW(s a d b:Int)(h0:0<=s)(h1:s<=a)(h2:0<=d)(h3:d<=b)(ha:a<=65535)(hb:b<=65535):Ans prog 306 [rD (DV.int .u64 s),rD (DV.int .u64 a),rD (DV.int .u64 d),rD (DV.int .u64 b)] (rA [DV.int .u64 (hiW (zGY s a d b).p),DV.int .u64 (loW (zGY s a d b).p),DV.int .u64 ((zGY s a d b).q),DV.int .u64 ((zGY s a d b).r),DV.int .u64 ((zGY s a d b).d)]):=
 vv jKu aL Tryz.func306 (let c:=zGY s a d b;let e:=bJ (fQ b d) a;let f:=fQ (bJ (bJ a b) s) (bJ e a);True/\True/\cS (d==b) (yA (bJ a b) c.p c.q c.r c.d) (aN ((d==b)=false) (bW (eJ e (bJ s b)->kH (aCU 0 (oT 0 1)) (cV (oT 0 1) (oU c))) (bK (fI e (bJ s b)) (aK (aCV (gE f s) (oT f s) c.p c.q c.r c.d)))))) λhwf=>by
  delta eS eJ fI aK aN bD bK bW cV kH cS cF bV fQ cA bJ gE gQ yB oT oU sX aCV yA aCU;simp only[sS,zZD];have W:∀x:Int,0<=x->x<18446744073709551616->wrap .u64 x=x:=λx x0 x1=>wQk x ⟨x0,by omega⟩;have fin:∀(x:Ex)(n X:Int),x=zZm n->0<=n->n<18446744073709551616->X=n->(0=hiW x.p/\X=loW x.p/\0=x.q/\0=x.r/\1=x.d):=λx n X e n0 n1 hX=>by
   rw[e,hX];exact⟨(zY3 n0 n1).symm,(zYv n0 n1).symm,rfl,rfl,rfl⟩
  have fin2:∀(x:Ex)(n e X D:Int),x=⟨n,0,0,e⟩->0<=n->n<18446744073709551616->X=n->D=e->(0=hiW x.p/\X=loW x.p/\0=x.q/\0=x.r/\D=x.d):=λx n e X D q n0 n1 hX hD=>by
   rw[q,hX,hD];exact⟨(zY3 n0 n1).symm,(zYv n0 n1).symm,rfl,rfl,rfl⟩
  have a0:0<=a:=by omega
  have b0:0<=b:=by omega
  have sb:=zQf (x:=s) (y:=b) (A:=65535) (B:=65535) h0 (by omega) b0 hb;have da:=zQf (x:=d) (y:=a) (A:=65535) (B:=65535) h2 (by omega) a0 ha;have sd:=zQf (x:=s) (y:=d) (A:=65535) (B:=65535) h0 (by omega) h2 (by omega);have ab:=zQf (x:=a) (y:=b) (A:=65535) (B:=65535) a0 ha b0 hb;have aa:=zQf (x:=a) (y:=a) (A:=65535) (B:=65535) a0 ha a0 ha;have aad:=zQf (x:=a*a) (y:=d) (A:=4294836225) (B:=65535) aa.1 (by omega) h2 (by omega);have ba:=zQf (x:=b) (y:=a-s) (A:=65535) (B:=65535) b0 hb (by omega) (by omega);have bd:=zQf (x:=b-d) (y:=a) (A:=65535) (B:=65535) (by omega) (by omega) a0 ha;have bda:=zQf (x:=(b-d)*a) (y:=a) (A:=4294836225) (B:=65535) bd.1 (by omega) a0 ha;have abs:=zQf (x:=a*b) (y:=s) (A:=4294836225) (B:=65535) ab.1 (by omega) h0 (by omega);have s2:=zQf (x:=2*s) (y:=d) (A:=131070) (B:=65535) (by omega) (by omega) h2 (by omega);have hu:=zQQ (mode:=8) h0 h1 h2 h3;have eb:zQk 8 s a d b=zGY s a d b:=rfl;rw[eb]at hu;simp only[W (s*b) sb.1 (by omega),W (b-d) (by omega) (by omega),W ((b-d)*a) bd.1 (by omega),W (a*b) ab.1 (by omega),W (a*b*s) abs.1 (by omega),W ((b-d)*a*a) bda.1 (by omega)];refine⟨λk=>?_,λk=>⟨λk2=>?_,λk2=>?_⟩⟩
  .have k:d=b:=by simpa using k
   exact fin _ (a*b) _ (by unfold zGY;rw[if_pos k]) ab.1 (by omega) rfl
  .have k:¬d=b:=by simpa using k
   exact fin _ 0 0 (by unfold zGY;rw[if_neg k,if_pos k2]) (by omega) (by omega) rfl
  .have k:¬d=b:=by simpa using k
   have e:zGY s a d b=⟨a*b*s-(b-d)*a*a,0,0,s⟩:=by unfold zGY;rw[if_neg k,if_neg k2]
   have q0:=hu.ok.p;rw[e]at q0;simp only at q0;exact fin2 _ _ s _ _ e q0 (by omega) (W _ q0 (by omega)) rfl
def pV(a:FuncId)(b:List RV)(c:Int):Prop:=Ans prog a b (jL c)
def aAA(a b:Int)(c:Prop):Prop:=dL ((a==b)=true) c
theorem jZT(mode s a d b:Int)(h0:0<=s)(h1:s<=a)(h2:0<=d)(h3:d<=b)(ha:a<=65535)(hb:b<=65535):Ans prog 290 [rJ (mode),rD (DV.int .u64 s),rD (DV.int .u64 a),rD (DV.int .u64 d),rD (DV.int .u64 b)] (rA [DV.int .u64 (hiW (zQk mode s a d b).p),DV.int .u64 (loW (zQk mode s a d b).p),DV.int .u64 ((zQk mode s a d b).q),DV.int .u64 ((zQk mode s a d b).r),DV.int .u64 ((zQk mode s a d b).d)]):=
 vv jKu aL Tryz.func290 (let h:=zQk mode s a d b;let c:=h.d;let e:=h.r;let f:=h.q;let g:=h.p;let m:=qZ s b (bJ d a);let n:=Min.min (bJ s b) (bJ d a);let o:=Max.max (bJ s b) (bJ d a);let i:=oU h;let p:=oU (zKn s a d b);let j:=cA s (cA a (gE d b));let q:=oU h;let r:=decide (bJ 2 s<=a);let k:=jQW s a d b r;let t:=oT k 1;let u:=oU (zGY s a d b);let v:=oU (zV5 s a d b);let w:=decide (bJ 2 d<=b);let l:=jQW s a d b w;let x:=oT l 1;True/\cS (mode==1) (yA (bJ s b) g f e c) (mY mode 1 (lZ mode->True/\yA (bJ s d) g f e c) 2 (xJ (qF mode) (yA (fQ m (bJ s d)) g f e c)) (mY mode 3 (qP ((mode==4)=true) (dY (pV 304 (cA s (cA a (cA d (cA b [aM w])))) l) (aCU l x) (cV x q))) 4 (aAA mode 5 (yA n g f e c)) (mY mode 5 (aAA mode 6 (yA o g f e c)) 6 (aE ((mode==7)=true) (bD (sX 305 j v) (cV v i))) (mY mode 7 (aE ((mode==8)=true) (bD (sX 306 j u) (cV u i))) 8 (qP ((mode==9)=true) (dY (pV 304 (cA s (cA a (cA d (cA b [aM r])))) k) (aCU k t) (cV t q))) (mY mode 9 (aE ((mode==10)=true) (bD (sX 307 j p) (cV p i))) 10 (aAA mode 11 (aK (yA (fQ o n) g f e c))) (aE ((mode==11)=false) (aK (yA (fQ m (bJ (bJ 2 s) d)) g f e c))))))))) λhwf=>by
  delta eS aE dY aK aN bD dL lZ bP cV oK mY qF aM cS cF bV jL fQ qP xJ cA bJ gE qZ gQ yB oT oU sX aCV yA aCU pV aAA;simp only[sS,zZD];have W:∀x:Int,0<=x->x<18446744073709551616->wrap .u64 x=x:=λx x0 x1=>wQk x ⟨x0,by omega⟩;have fin:∀(x:Ex)(n X:Int),x=zZm n->0<=n->n<18446744073709551616->X=n->(0=hiW x.p/\X=loW x.p/\0=x.q/\0=x.r/\1=x.d):=λx n X e n0 n1 hX=>by
   rw[e,hX];exact⟨(zY3 n0 n1).symm,(zYv n0 n1).symm,rfl,rfl,rfl⟩
  have fin2:∀(x:Ex)(n e X D:Int),x=⟨n,0,0,e⟩->0<=n->n<18446744073709551616->X=n->D=e->(0=hiW x.p/\X=loW x.p/\0=x.q/\0=x.r/\D=x.d):=λx n e X D q n0 n1 hX hD=>by
   rw[q,hX,hD];exact⟨(zY3 n0 n1).symm,(zYv n0 n1).symm,rfl,rfl,rfl⟩
  have a0:0<=a:=by omega
  have b0:0<=b:=by omega
  have sb:=zQf (x:=s) (y:=b) (A:=65535) (B:=65535) h0 (by omega) b0 hb;have da:=zQf (x:=d) (y:=a) (A:=65535) (B:=65535) h2 (by omega) a0 ha;have sd:=zQf (x:=s) (y:=d) (A:=65535) (B:=65535) h0 (by omega) h2 (by omega);have ab:=zQf (x:=a) (y:=b) (A:=65535) (B:=65535) a0 ha b0 hb;have aa:=zQf (x:=a) (y:=a) (A:=65535) (B:=65535) a0 ha a0 ha;have aad:=zQf (x:=a*a) (y:=d) (A:=4294836225) (B:=65535) aa.1 (by omega) h2 (by omega);have ba:=zQf (x:=b) (y:=a-s) (A:=65535) (B:=65535) b0 hb (by omega) (by omega);have bd:=zQf (x:=b-d) (y:=a) (A:=65535) (B:=65535) (by omega) (by omega) a0 ha;have bda:=zQf (x:=(b-d)*a) (y:=a) (A:=4294836225) (B:=65535) bd.1 (by omega) a0 ha;have abs:=zQf (x:=a*b) (y:=s) (A:=4294836225) (B:=65535) ab.1 (by omega) h0 (by omega);have s2:=zQf (x:=2*s) (y:=d) (A:=131070) (B:=65535) (by omega) (by omega) h2 (by omega);have hu:=zQQ (mode:=mode) h0 h1 h2 h3;simp only[W (s*b) sb.1 (by omega),W (d*a) da.1 (by omega),W (s*d) sd.1 (by omega),W (2*s) (by omega) (by omega),W (2*d) (by omega) (by omega),W (2*s*d) s2.1 (by omega),W (s*b+d*a) (by omega) (by omega),jV1,jV2];have fn:∀n X:Int,zQk mode s a d b=zZm n->(0<=n->n<=a*b->X=n)->(0=hiW (zQk mode s a d b).p/\X=loW (zQk mode s a d b).p/\0=(zQk mode s a d b).q/\0=(zQk mode s a d b).r/\1=(zQk mode s a d b).d):=λn X e hX=>by
   have u:=hu;rw[e]at u;have n0:0<=n:=u.ok.p;have n1:n<=a*b*1:=u.p;exact fin _ n X e n0 (by omega) (hX n0 (by omega))
  have fex:∀x y:Ex,y=x->(hiW x.p=hiW y.p/\loW x.p=loW y.p/\x.q=y.q/\x.r=y.r/\x.d=y.d):=λx y h=>by rw[h];exact⟨rfl,rfl,rfl,rfl,rfl⟩
  have H1:=zHT h0 h1 h2 h3;have H2:=zHT h2 h3 h0 h1;have hT:=λtw h=>jZV s a d b tw h0 h1 h2 h3 ha hb h;refine⟨λc=>?_,λc1=>?_⟩
  .have c:mode=1:=by simpa using c
   exact fn (s*b) _ (by rw[c];rfl) λ_ _=>rfl
  refine⟨λc=>?_,λc2=>?_⟩
  .have c:mode=2:=by simpa using c
   exact fn (s*d) _ (by rw[c];rfl) λ_ _=>rfl
  refine⟨λc=>?_,λc3=>?_⟩
  .have c:mode=3:=by simpa using c
   exact fn (s*b+d*a-s*d) _ (by rw[c];rfl) λq0 q1=>W _ q0 (by omega)
  refine⟨λc=>?_,λc4=>?_⟩
  .have c:mode=4:=by simpa using c
   have:=hT (decide (2*d<=b)) (by rw[jV2];exact H2.1);rw[jV2]at this;exact⟨this,fn (zK4 d b s a) _ (by rw[c];rfl) λ_ _=>rfl⟩
  refine⟨λc=>?_,λc5=>?_⟩
  .have c:mode=5:=by simpa using c
   exact fn (min (s*b) (d*a)) _ (by rw[c];rfl) λ_ _=>rfl
  refine⟨λc=>?_,λc6=>?_⟩
  .have c:mode=6:=by simpa using c
   exact fn (max (s*b) (d*a)) _ (by rw[c];rfl) λ_ _=>rfl
  refine⟨λc=>?_,λc7=>?_⟩
  .have c:mode=7:=by simpa using c
   exact⟨jZi s a d b h0 h1 h2 h3 ha hb,fex _ _ (by rw[c];rfl)⟩
  refine⟨λc=>?_,λc8=>?_⟩
  .have c:mode=8:=by simpa using c
   exact⟨jZW s a d b h0 h1 h2 h3 ha hb,fex _ _ (by rw[c];rfl)⟩
  refine⟨λc=>?_,λc9=>?_⟩
  .have c:mode=9:=by simpa using c
   have:=hT (decide (2*s<=a)) (by rw[jV1];exact H1.1);rw[jV1]at this;exact⟨this,fn (zK4 s a d b) _ (by rw[c];rfl) λ_ _=>rfl⟩
  refine⟨λc=>?_,λc10=>?_⟩
  .have c:mode=10:=by simpa using c
   exact⟨jZU s a d b h0 h1 h2 h3 ha hb,fex _ _ (by rw[c];rfl)⟩
  refine⟨λc=>?_,λc11=>?_⟩
  .have c:mode=11:=by simpa using c
   exact fn (max (s*b) (d*a)-min (s*b) (d*a)) _ (by rw[c];rfl) λq0 q1=>W _ q0 (by omega)
  .have n:∀k:Int,(mode==k)=false->¬mode=k:=λk h=>by simpa using h
   exact fn (s*b+d*a-2*s*d) _ (by unfold zQk;rw[if_neg (n _ c1),if_neg (n _ c2),if_neg (n _ c3),if_neg (n _ c4),if_neg (n _ c5),if_neg (n _ c6),if_neg (n _ c7),if_neg (n _ c8),if_neg (n _ c9),if_neg (n _ c10),if_neg (n _ c11)]) λq0 q1=>W _ q0 (by omega)
theorem zV9(mode s a d b:Int):Ans prog 273 [rJ (mode),rD (dK s),rD (dK a),rD (dK d),rD (dK b)] (rT [rA [DV.int .u64 (hiW (blE mode s a d b).p),DV.int .u64 (loW (blE mode s a d b).p),DV.int .u64 ((blE mode s a d b).q),DV.int .u64 ((blE mode s a d b).r),DV.int .u64 ((blE mode s a d b).d)],rD (dQ (blK mode s a d b))]):=
 vv jKu aL Tryz.func273 (let e:=oU (blE mode s a d b);let c:=gA (oT 0 0) [aM false]=dA e (blK mode s a d b);let f:=oU (zQk mode (bV s) (bV a) (bV d) (bV b));bI (cL 217 mode [] (aM (qN mode))/\True/\True/\aE (bO (qN mode)) (mL (dR s a) (fU (gL d b) c (dR d b->aK (aX (cL 290 mode (cA (bV s) (cA (bV a) (gE (bV d) (bV b)))) (rA f)) (rB f e (blK mode s a d b))))) (mK s a) c)/\fP (dU (qN mode)) c)) λhwf=>by
  delta eS aB aV aE aK aX cL bK gD dR gL fU aM bI fP cF bV qN bO dU mK mL cA gE gA gQ yB dA oT rB oU;simp only[sS,zZD];simp only[RV.wfs,RV.wf,DV.wf,DV.wfs,uc]at hwf;have W:∀x:Int,0<=x->x<18446744073709551616->wrap .u64 x=x:=λx x0 x1=>wQk x ⟨x0,by omega⟩;obtain⟨_,⟨s0,s1⟩,⟨a0,a1⟩,⟨d0,d1⟩,⟨b0,b1⟩,_⟩:=hwf;simp only[W s s0 (by omega),W a a0 (by omega),W d d0 (by omega),W b b0 (by omega)];have bad:¬(isNm mode=true/\s<=a/\d<=b)->(0=hiW (blE mode s a d b).p/\0=loW (blE mode s a d b).p/\0=(blE mode s a d b).q/\0=(blE mode s a d b).r/\0=(blE mode s a d b).d)/\false=blK mode s a d b:=λhn=>by
   have:blK mode s a d b=false:=by
    cases e:blK mode s a d b with
    |false=>rfl
    |true=>
     simp only[blK,wQd,wQf]at e;exact absurd ⟨e.1,e.2.1,e.2.2⟩ hn
   have e2:blE mode s a d b=.zero:=by unfold blE;rw[this];rfl
   rw[this,e2];exact⟨⟨rfl,rfl,rfl,rfl,rfl⟩,rfl⟩
  refine⟨zQM _,λhm=>⟨λhsa=>⟨λhdb=>?_,λhdb=>?_⟩,λhsa=>?_⟩,λhm=>?_⟩
  case refine_1=>exact bad λh=>by omega
  case refine_3=>exact bad λh=>by omega
  case refine_4=>exact bad λh=>hm (wQH h.1)
  have h1:s<=a:=by omega
  have h2:d<=b:=by omega
  have k:blK mode s a d b=true:=by unfold blK;rw[show isNm mode=true from decide_eq_true hm,decide_eq_true h1,decide_eq_true h2];rfl
  have e:blE mode s a d b=zQk mode s a d b:=by unfold blE;rw[if_pos k]
  rw[k,e];exact⟨jZT mode s a d b s0 h1 d0 h2 a1 b1,⟨rfl,rfl,rfl,rfl,rfl⟩,rfl⟩
def zGS:Gam:=jKu.add [.p 263 (λv=>some (RV.tup [RV.d (DV.int .u64 (vo (ul v 0)).half),RV.d (dQ true)])),
 .p 273 (λ| [.d (.int _ mode),.d (.int _ s),.d (.int _ a),.d (.int _ d),.d (.int _ b)]=>let c:=(blE mode s a d b);some (RV.tup [RV.agg [DV.int .u64 (hiW c.p),DV.int .u64 (loW c.p),DV.int .u64 c.q,DV.int .u64 c.r,DV.int .u64 c.d],RV.d (dQ (blK mode s a d b))])|_=>none),
 .p 280 (λv=>some (RV.d (dK (facF (nAt (uj v) 0) (nAt (uj v) 1) (nAt (uj v) 2))))),
 .p 264 (λ| [.d (.int _ op),.d (.int _ a),.d (.int _ b),.d (.int _ m)]=>some (RV.tup [RV.d (dK (fcA op a b m)),RV.d (dK (fcB op a b m)),RV.d (dQ (fcK op a b m))])|_=>none),
 .p 265 (λv=>some (RV.d (dK (wrap .u16 (zZs ((nAt (uj v) 0)*(nAt (uj v) 1)+(nAt (uj v) 2)*(nAt (uj v) 3)) (nAt (uj v) 4)))))),
 .p 246 (λv=>some (RV.d (dK (zZK (nAt (uj v) 0) (nAt (uj v) 1) (nAt (uj v) 2) (nAt (uj v) 3))))),
 .p 247 (λv=>some (RV.d (dK (zXX (nAt (uj v) 0) (nAt (uj v) 1) (nAt (uj v) 2) (nAt (uj v) 3))))),
 .p 262 (λ| [.d (.int _ op),.d (.int _ mode),.d (.int _ m),.d (.int _ s),.d (.int _ a),.d (.int _ d),.d (.int _ b)]=>let c:=(vlE op mode m s a d b);some (RV.tup [RV.agg [DV.int .u64 (hiW c.p),DV.int .u64 (loW c.p),DV.int .u64 c.q,DV.int .u64 c.r,DV.int .u64 c.d],RV.d (dQ (vlK op mode m s a d b))])|_=>none),
 .p 245 (λv=>some (RV.tup [RV.d (dK (colS (nAt (uj v) 0) (nAt (uj v) 1) (nAt (uj v) 2) (nAt (uj v) 3) (nAt (uj v) 4) (nAt (uj v) 5) (nAt (uj v) 6))),RV.d (dQ true)])),
 .p 274 (λv=>some (RV.d (dQ (zXe (nAt (uj v) 0))))),
 .p 277 (λv=>some (RV.d (DV.int .u64 ((nAt (uj v) 0)*(nAt (uj v) 1)+(nAt (uj v) 2)*(nAt (uj v) 3)+(nAt (uj v) 4)*(nAt (uj v) 5))))),
 .p 259 (λv=>some (RV.tup [RV.d (dK (knoC (nAt (uj v) 0) (nAt (uj v) 1) (nAt (uj v) 2) (nAt (uj v) 3) (nAt (uj v) 4) (nAt (uj v) 5) (nAt (uj v) 6) (nAt (uj v) 7))),RV.d (dQ true)])),
 .p 260 (λv=>some (RV.tup [RV.d (dK (knoA (nAt (uj v) 0) (nAt (uj v) 1) (nAt (uj v) 2) (nAt (uj v) 3) (nAt (uj v) 4))),RV.d (dQ true)])),
 .p 261 (λv=>some (RV.tup [RV.d (dK (knoA (nAt (uj v) 0) (nAt (uj v) 1) (nAt (uj v) 2) (nAt (uj v) 3) 0)),RV.d (dQ true)]))]
theorem zJO(f a m:Int)(h:a<=m):Ans prog 280 [rJ (f),rD (dK a),rD (dK m)] (rD (dK (facF f a m))):=
 vv zGS aL Tryz.func280 (let b:=facF f a m;True/\aP (uA f) (kT m b) (mY f 1 (aE (lZ f) (kI a=kI b)) 2 (bK (qF f) (kT (mA (m-a)) b)) (rQ f 3 (kT 0 b)))) λhwf=>by
  delta eS aE aP aF kI lZ rQ kT bP bK oK mY uA mA qF;simp only[sS];unfold facF;refine⟨λh=>?_,λh1=>⟨λh=>?_,λh2=>⟨λh=>?_,λh3=>?_⟩⟩⟩
  .rw[if_pos (by simpa using h)]
  .rw[if_neg (by simpa using h1),if_pos (by simpa using h)]
  .rw[if_neg (by simpa using h1),if_neg (by simpa using h2),if_pos (by simpa using h)];simp only[RV.wfs,RV.wf,DV.wf]at hwf;have mj:IntKind.min .u16=0:=rfl;have mb:IntKind.max .u16=65535:=rfl;simp only[mj,mb]at hwf;exact wZn _ (by omega)
  .rw[if_neg (by simpa using h1),if_neg (by simpa using h2),if_neg (by simpa using h3)]
def gK(a b:Int)(c:List RV):List RV:=RV.d (aF a)::RV.d (aF b)::c
theorem zJq(op a b m:Int):Ans prog 264 [rJ (op),rD (dK a),rD (dK b),rD (dK m)] (rT [rD (dK (fcA op a b m)),rD (dK (fcB op a b m)),rD (dQ (fcK op a b m))]):=
 vv zGS aL Tryz.func264 (let d:=rT (gK (fcA op a b m) (fcB op a b m) [aM (fcK op a b m)]);let c:=rT (gK 0 0 [aM false])=d;let e:=facF (zYH op 2) a m;let f:=facF (zYH op 1) b m;bI (sW (cL 216 op [] (dA (DV.str (zZT op)::aDV op 1 2 3) (qN op))) (aP (bO (qN op)) (mL (dR a m) (fU (gL b m) c (aE (dR b m) (bD (cL 280 (zYH op 1) (gK b m []) (kI f)) (True/\True/\True/\cL 280 (zYH op 2) (gK a m []) (kI e)/\kV (rT (gK f e sN)=d))))) (mK a m) c) (fP (dU (qN op)) c)))) λhwf=>by
  delta eS aB aV aE aP aF bD aX cL kI bK kV gD dR gL fU aM bI fP qN bO dU mK mL sN sW gA dA gK aDV;simp only[sS];simp only[RV.wfs,RV.wf,DV.wf,DV.wfs,uc]at hwf;have fbad:¬(isNm op=true/\a<=m/\b<=m)->fcK op a b m=false/\fcA op a b m=0/\fcB op a b m=0:=λhn=>by
   have:fcK op a b m=false:=by
    cases e:fcK op a b m with
    |false=>rfl
    |true=>
     simp only[fcK,wQd,wQf]at e;exact absurd ⟨e.1,e.2.1,e.2.2⟩ hn
   exact⟨this,by unfold fcA;rw[this];rfl,by unfold fcB;rw[this];rfl⟩
  have fgood:isNm op=true->a<=m->b<=m->fcK op a b m=true/\fcA op a b m=facA op a b m/\fcB op a b m=facB op a b m:=λh1 h2 h3=>by
   have:fcK op a b m=true:=by unfold fcK;rw[h1,decide_eq_true h2,decide_eq_true h3];rfl
   exact⟨this,by unfold fcA;rw[if_pos this],by unfold fcB;rw[if_pos this]⟩
  obtain⟨_,⟨a0,a1⟩,⟨b0,b1⟩,⟨m0,m1⟩,_⟩:=hwf;have OF:=zQh op;refine⟨OF,λho=>⟨λhx=>⟨λhy=>?_,λhy=>?_⟩,λhx=>?_⟩,λho=>?_⟩
  case refine_1=>obtain⟨e1,e2,e3⟩:=fbad (λh=>by omega);rw[e1,e2,e3];exact⟨rfl,rfl,rfl⟩
  case refine_3=>obtain⟨e1,e2,e3⟩:=fbad (λh=>by omega);rw[e1,e2,e3];exact⟨rfl,rfl,rfl⟩
  case refine_4=>obtain⟨e1,e2,e3⟩:=fbad (λh=>ho (wQH h.1));rw[e1,e2,e3];exact⟨rfl,rfl,rfl⟩
  obtain⟨e1,e2,e3⟩:=fgood (decide_eq_true ho) (by omega) (by omega);obtain⟨k1,k2⟩:=yYh ho a b m;rw[e1,e2,e3];exact⟨zJO _ _ _ (by omega),zJO _ _ _ (by omega),k1,k2,rfl⟩
def lV(a b:Int):Int:=mA (zZs a b)
theorem zJm(x p y q m:Int):Ans prog 265 [rD (dK x),rD (dK p),rD (dK y),rD (dK q),rD (dK m)] (rD (dK (wrap .u16 (zZs (x*p+y*q) m)))):=
 vv zGS aL Tryz.func265 (let a:=bV (sV x p+sV y q);vH (aK (aX (pV 228 (gE a (bV m)) (zZs a (bV m))) (kT (lV a (bV m)) (lV (x*p+y*q) m))))) λhwf=>by
  delta eS aF aK aX kI kT mA cF bV jL cA bJ gE sV pV vH lV;simp only[sS];simp only[RV.wfs,RV.wf,DV.wf,DV.wfs,uc]at hwf;have W:∀x:Int,0<=x->x<18446744073709551616->wrap .u64 x=x:=λx x0 x1=>wQk x ⟨x0,by omega⟩;obtain⟨⟨x0,x1⟩,⟨p0,p1⟩,⟨y0,y1⟩,⟨q0,q1⟩,⟨m0,m1⟩,_⟩:=hwf;have e1:=zQf x0 x1 p0 p1;have e2:=zQf y0 y1 q0 q1;rw[W x x0 (by omega),W p p0 (by omega),W y y0 (by omega),W q q0 (by omega),W m m0 (by omega),W (x*p) e1.1 (by omega),W (y*q) e2.1 (by omega),W (x*p+y*q) (by omega) (by omega)];exact⟨zQK _ _,rfl⟩
def oV(a b c d:Int):List RV:=gK a b (gK c d [])
def aDH(a:FuncId)(b:List RV)(c:Int):Prop:=Ans prog a b (kI c)
def aAK(a b c e f:Int):List RV:=RV.d (aF a)::oV b c e f
theorem zJZ(op a b m:Int)(hf:zXe m=true)(ho:isNm op=true)(h1:a<=m)(h3:b<=m):Ans prog 246 [rJ (op),rD (dK a),rD (dK b),rD (dK m)] (rD (dK (zZK op a b m))):=
 vv zGS aL Tryz.func246 (let c:=fcB op a b m;let d:=fcA op a b m;let e:=lV (d*a+c*b) m;gC (rK 264 op a (gK b m []) (rT (gK d c [aM (fcK op a b m)]))) (aK (bD (aDH 265 (aAK d a c b m) e) (kT e (zZK op a b m))))) λhwf=>by
  delta eS aB aV aF aK bD aX cL gC kI kT rK mA aM gK oV aDH aAK lV;simp only[sS];simp only[RV.wfs,RV.wf,DV.wf,DV.wfs,uc]at hwf;have W:∀x:Int,0<=x->x<18446744073709551616->wrap .u64 x=x:=λx x0 x1=>wQk x ⟨x0,by omega⟩;have U:∀x:Int,0<=x->x<=65535->wrap .u16 x=x:=λx x0 x1=>wZn x ⟨x0,by omega⟩;have fbad:¬(isNm op=true/\a<=m/\b<=m)->fcK op a b m=false/\fcA op a b m=0/\fcB op a b m=0:=λhn=>by
   have:fcK op a b m=false:=by
    cases e:fcK op a b m with
    |false=>rfl
    |true=>
     simp only[fcK,wQd,wQf]at e;exact absurd ⟨e.1,e.2.1,e.2.2⟩ hn
   exact⟨this,by unfold fcA;rw[this];rfl,by unfold fcB;rw[this];rfl⟩
  have fgood:isNm op=true->a<=m->b<=m->fcK op a b m=true/\fcA op a b m=facA op a b m/\fcB op a b m=facB op a b m:=λh1 h2 h3=>by
   have:fcK op a b m=true:=by unfold fcK;rw[h1,decide_eq_true h2,decide_eq_true h3];rfl
   exact⟨this,by unfold fcA;rw[if_pos this],by unfold fcB;rw[if_pos this]⟩
  obtain⟨_,⟨a0,a1⟩,⟨b0,b1⟩,⟨m0,m1⟩,_⟩:=hwf;have hm:=(zZC hf).1;obtain⟨e1,e2,e3⟩:=fgood ho h1 h3;have fa:=zJq op a b m;rw[e1,e2,e3]at fa;rw[e1,e2,e3];have al:=jZq (op:=op) hm a0 h1 b0 h3;have aS:=zYo (op:=op) (a:=a) (f:=m) (b:=b) (g:=m) hm a0 h1 (Int.le_refl _) b0 h3 (Int.le_refl _);have uu:=U (zZK op a b m) al (by omega);exact⟨fa,zJm _ _ _ _ _,uu⟩
theorem zJY(op f g m:Int)(hf:zXe m=true)(ho:isNm op=true)(h1:f<=m)(h3:g<=m):Ans prog 247 [rJ (op),rD (dK f),rD (dK g),rD (dK m)] (rD (dK (zXX op f g m))):=
 vv zGS aL Tryz.func247 (let b:=zXX op f g m;let c:=kT 0 b;let d:=kI b;let a:=zYH op 3;let e:=lV (f*g+(0:Int)*0) m;let h:=lV (m*f+mA (m-f)*g) m;True/\True/\aBT (cL 216 op [] (dA (DV.str (zZT op)::aDV op 1 2 3) (qN op))) (aP (dR f m) (True/\True/\True/\(dR g m->qL m c (fS m->True/\aP (uA a) (kT f b) (oK a 1 (aE (lZ a) (kI g=d)) (mY a 2 (dL (qF a) (bD (aDH 265 (rD (aF m)::oV f (mA (m-f)) g m) h) (kT h b))) 3 ((a==4)=true->True/\bD (aDH 265 (aAK f g 0 0 m) e) (kT e b)) (rQ a 4 c)))))/\aE (mK g m) (kI 0=d)) (bK (mK f m) c))) λhwf=>by
  delta eS aB aV aE aP aF bD cL dL fS kI lZ rQ kT bP aR bK gD dR oK mY uA mA qF aM cS aBT qL qN mK gA dA gK oV aDH aAK lV aDV;simp only[sS];simp only[RV.wfs,RV.wf,DV.wf,DV.wfs,uc]at hwf;have W:∀x:Int,0<=x->x<18446744073709551616->wrap .u64 x=x:=λx x0 x1=>wQk x ⟨x0,by omega⟩;have U:∀x:Int,0<=x->x<=65535->wrap .u16 x=x:=λx x0 x1=>wZn x ⟨x0,by omega⟩;obtain⟨_,⟨f0,f1⟩,⟨g0,g1⟩,⟨m0,m1⟩,_⟩:=hwf;have hm:=(zZC hf).1;have ho':=wQH ho;have sh:=zYo (op:=op) (a:=0) (f:=f) (b:=0) (g:=g) hm (Int.le_refl _) f0 h1 (Int.le_refl _) g0 h3;have s0:=jZq (op:=op) (a:=0) (b:=0) hm (Int.le_refl _) (by omega) (Int.le_refl _) (by omega);have s1:0<=zXX op f g m/\zXX op f g m<=65535:=by omega
  have e:=yXO ho' f g m;rw[U (m-f) (by omega) (by omega),wZe,wZw,<-e];rw[<-e]at s1;unfold shpF at s1 |-;have uu:=λx (h:0<=x/\x<=65535)=>U x h.1 h.2;have os:=zJm m f (m-f) g m;have ot:=zJm f g 0 0 m;rw[wZe,wZw]at ot;refine⟨zQh op,λ_=>⟨λ_=>⟨λh=>absurd (show m=0 by simpa using h) (by omega),λ_=>⟨λc=>?_,λc1=>⟨λc=>?_,λc2=>⟨λc=>?_,λc3=>⟨λc=>?_,λc4=>?_⟩⟩⟩⟩⟩,λh=>absurd h3 (by omega)⟩,λh=>absurd h1 (by omega)⟩
  .rw[if_pos (by simpa using c)]
  .rw[if_neg (by simpa using c1),if_pos (by simpa using c)]
  .rw[if_neg (by simpa using c1),if_neg (by simpa using c2),if_pos (by simpa using c)]at s1 |-;exact⟨os,uu _ s1⟩
  .rw[if_neg (by simpa using c1),if_neg (by simpa using c2),if_neg (by simpa using c3),if_pos (by simpa using c)]at s1 |-;exact⟨ot,uu _ s1⟩
  .rw[if_neg (by simpa using c1),if_neg (by simpa using c2),if_neg (by simpa using c3),if_neg (by simpa using c4)]
theorem zZA(m:Int):Ans prog 274 [rD (dK m)] (rD (dQ (zXe m))):=
 vv zGS aL Tryz.func274 (fV (bK ((m==255)=false) (cZ (m==65535) (zXe m))) (aE (gD (m==255)) (cZ true (zXe m)))) λhwf=>by
  delta eS aE bK gD fV aM cZ;simp only[sS];unfold zXe;grind
theorem zVm(a b c d e f:Int):Ans prog 277 [rD (dK a),rD (dK b),rD (dK c),rD (dK d),rD (dK e),rD (dK f)] (rD (DV.int .u64 (a*b+c*d+e*f))):=
 vv zGS aL Tryz.func277 (qU (vH (aK (jL (bV (bV (sV a b+sV c d)+sV e f))=jL (a*b+c*d+e*f))))) λhwf=>by
  delta eS aK cF bV jL qU bJ sV vH;simp only[sS,zZA];simp only[RV.wfs,RV.wf,DV.wf,DV.wfs,uc]at hwf;have W:∀x:Int,0<=x->x<18446744073709551616->wrap .u64 x=x:=λx x0 x1=>wQk x ⟨x0,by omega⟩;obtain⟨⟨a0,a1⟩,⟨b0,b1⟩,⟨c0,c1⟩,⟨d0,d1⟩,⟨e0,e1⟩,⟨f0,f1⟩,_⟩:=hwf;have q1:=zQf a0 a1 b0 b1;have q2:=zQf c0 c1 d0 d1;have q3:=zQf e0 e1 f0 f1;rw[W a a0 (by omega),W b b0 (by omega),W c c0 (by omega),W d d0 (by omega),W e e0 (by omega),W f f0 (by omega),W (a*b) q1.1 (by omega),W (c*d) q2.1 (by omega),W (e*f) q3.1 (by omega),W (a*b+c*d) (by omega) (by omega),W (a*b+c*d+e*f) (by omega) (by omega)]
def vP(a:Nat)(b:Int)(c:Nat)(d:Int)(e:vz):vz:=aEM a b c (aF d) e
def aJU(a:Nat)(b:Int)(c:Nat)(d:Int)(e:vz)(f:Nat)(g:Bx)(h:Nat)(i:Bx):Snap:=aDR (vP a b c d e) f g h i
theorem jYw(op mode m s a d b:Int):Ans prog 262 [rJ (op),rJ (mode),rD (dK m),rD (dK s),rD (dK a),rD (dK d),rD (dK b)] (rT [rA [DV.int .u64 (hiW (vlE op mode m s a d b).p),DV.int .u64 (loW (vlE op mode m s a d b).p),DV.int .u64 ((vlE op mode m s a d b).q),DV.int .u64 ((vlE op mode m s a d b).r),DV.int .u64 ((vlE op mode m s a d b).d)],rD (dQ (vlK op mode m s a d b))]):=
 vv zGS (let c:=blE mode s a d b;let e:=c.p;qA (ug (vlK op mode m s a d b=true) (aJU 2 m 3 s (vP 5 d 6 b (dP 14 14 (vP 16 (fcA op a b m) 17 (fcB op a b m) (dP 19 19 [])))) 14 (bY (cF 0) (aDU (cF 0) (aDU (cF 0) []))) 19 (bY (cF (hiW e)) (aH (cF (loW e)) (cF c.q) (cF c.r) (cF c.d) []))) aL)) Tryz.func262 (let h:=vlK op mode m s a d b;let p:=oU (vlE op mode m s a d b);let c:=blE mode s a d b;let e:=c.d;let q:=c.r;let r:=c.q;let f:=fcA op a b m;let t:=bV f;let g:=fcB op a b m;let u:=bJ (sV d m) e;let i:=u*bV g;let v:=jR i;let w:=c.p;let x:=loW w;let y:=qZ (sV (mA (m-b)) s) e x;let j:=y*bV f;let z:=jR j;let k:=addW z v;let A:=h=true;let l:=gA (oT 0 0) [aM false]=dA p h;let n:=fcK op a b m;let o:=blK mode s a d b;let B:=gQ (hiW w) x (gQ r q [cF e]);let C:=(∃E:Unit,iB A (cP (aF m) (eQ s) (eQ d/\eQ b/\eC (eS (0:Nat)) (eQ f) (aT (eQ g) (eS (0:Nat))))) (oT 0 0) B);bI (eZ (rK 264 op a (gK b m []) (rT (gK f g [aM n]))) (aK (aR (cL 273 mode (oV s a d b) (dA B o)) (True/\True/\True/\aAL n (True/\True/\True/\(bO o->cS (m !=255) (cS (m !=65535) (True/\True/\l) (dN m 65535->C)) (aE (bG (m !=255)) C))/\bK (dU o) l) (fP (dU n) l)/\(∀D:Unit,dL A (vH (aK (kM (vQ (gE y t) j) (True/\True/\True/\vQ (gE u (bV g)) i/\aBT (aDT 275 j i (dA (fO k) (addK z v))) (aK (aK (rB (gQ (hiW k) (loW k) (cF (bJ t r)::gQ q (bJ (bV (bV m*bV m)) e) [])) p h))))))))))))) λhwf=>by
  delta eS aB aV aE eC aF aG aK cL dL gB cP bG aR bK eQ rK aT gD bH eZ mA aM bI kM cS fP iB aBT cF bV bO dU dN cA bJ gE qZ sV gA gQ yB dA oT rB oU sX vH gK oV aAL fO jR vQ aDT;simp only[sS,zZA];simp only[RV.wfs,RV.wf,DV.wf,DV.wfs,uc]at hwf;have W:∀x:Int,0<=x->x<18446744073709551616->wrap .u64 x=x:=λx x0 x1=>wQk x ⟨x0,by omega⟩;have U:∀x:Int,0<=x->x<=65535->wrap .u16 x=x:=λx x0 x1=>wZn x ⟨x0,by omega⟩;have fbad:¬(isNm op=true/\a<=m/\b<=m)->fcK op a b m=false/\fcA op a b m=0/\fcB op a b m=0:=λhn=>by
   have:fcK op a b m=false:=by
    cases e:fcK op a b m with
    |false=>rfl
    |true=>
     simp only[fcK,wQd,wQf]at e;exact absurd ⟨e.1,e.2.1,e.2.2⟩ hn
   exact⟨this,by unfold fcA;rw[this];rfl,by unfold fcB;rw[this];rfl⟩
  have fgood:isNm op=true->a<=m->b<=m->fcK op a b m=true/\fcA op a b m=facA op a b m/\fcB op a b m=facB op a b m:=λh1 h2 h3=>by
   have:fcK op a b m=true:=by unfold fcK;rw[h1,decide_eq_true h2,decide_eq_true h3];rfl
   exact⟨this,by unfold fcA;rw[if_pos this],by unfold fcB;rw[if_pos this]⟩
  obtain⟨_,_,⟨m0,m1⟩,⟨s0,s1⟩,⟨a0,a1⟩,⟨d0,d1⟩,⟨b0,b1⟩,_⟩:=hwf;have FA:=zJq op a b m;have BE:=zV9 mode s a d b;have k0:vlK op mode m s a d b=(blK mode s a d b&&(fcK op a b m&&zXe m)):=rfl;have no:vlK op mode m s a d b=false->(0=hiW (vlE op mode m s a d b).p/\0=loW (vlE op mode m s a d b).p/\0=(vlE op mode m s a d b).q/\0=(vlE op mode m s a d b).r/\0=(vlE op mode m s a d b).d)/\false=vlK op mode m s a d b:=λh=>by
   have:vlE op mode m s a d b=.zero:=by unfold vlE;rw[h];rfl
   rw[this,h];exact⟨⟨rfl,rfl,rfl,rfl,rfl⟩,rfl⟩
  refine⟨FA,BE,⟨λkf=>⟨λkb=>⟨λq1=>⟨λq2=>?_,λq2=>⟨(),?_⟩⟩,λq1=>⟨(),?_⟩⟩,λkb=>?_⟩,λkf=>?_⟩,λk=>?_⟩
  .refine no ?_
   have km:zXe m=false:=wQo (by
    have q1:=wQQ.1 q1;have q2:=wQQ.1 q2
    omega)
   rw[k0,km,wXL,wXL]
  .have q2:=wZu.1 q2;rw[k0,kb,kf,show zXe m=true from decide_eq_true (.inr q2)];rfl
  .have q1:=wZu.1 q1;rw[k0,kb,kf,show zXe m=true from decide_eq_true (.inl q1)];rfl
  .exact no (by rw[k0,kb];rfl)
  .exact no (by rw[k0,kf,wYE,wXL])
  have k':=k;rw[k0]at k';simp only[wQd]at k';obtain⟨kb,kf,km⟩:=k';have ve:vlE op mode m s a d b=valS op mode m s a d b:=by unfold vlE;rw[if_pos k]
  have be:blE mode s a d b=zQk mode s a d b:=by unfold blE;rw[if_pos kb]
  simp only[blK,wQd,wQf]at kb;simp only[fcK,wQd,wQf]at kf;obtain⟨kb1,kb2,kb3⟩:=kb;obtain⟨kf1,kf2,kf3⟩:=kf;obtain⟨e1,e2,e3⟩:=fgood kf1 kf2 kf3;obtain⟨ok,t1,t2,t3,t4⟩:=zUf (mode:=mode) s0 kb2 d0 kb3 a1 b1;have tu:=(zQQ (mode:=mode) s0 kb2 d0 kb3).p;have⟨⟨f0,f1⟩,f2,f3⟩:=jWY (op:=op) a0 kf2 b0 kf3;have tp:=ok.p;have tq:=ok.q;have td:=ok.d;rw[k,ve,be,e2,e3];have vS:valS op mode m s a d b=⟨(zQk mode s a d b).p*facA op a b m+(m-b)*s*facA op a b m*(zQk mode s a d b).d+facB op a b m*d*m*(zQk mode s a d b).d,facA op a b m*(zQk mode s a d b).q,(zQk mode s a d b).r,m*m*(zQk mode s a d b).d⟩:=rfl;rw[vS];clear vS ve be e1 e2 e3 fbad fgood k0 no FA BE k kb1 kf1 km;generalize facA op a b m=A at *;generalize facB op a b m=F at *;generalize (zQk mode s a d b).p=p at *;generalize (zQk mode s a d b).q=q at *;generalize (zQk mode s a d b).r=r at *;generalize (zQk mode s a d b).d=e at *;simp only at *;have q1:=zQf (x:=m-b) (y:=s) (A:=65535) (B:=65535) (by omega) (by omega) s0 s1;have qz:(m-b)*s+a*b<=4294836225:=by
   have z1:=Int.mul_le_mul_of_nonneg_left kb2 (show 0<=m-b by omega);have z2:=zQf a0 a1 m0 m1;have z3:(m-b)*a+a*b=a*m:=by grind
   omega
  have qe:((m-b)*s+a*b)*e<=4294836225*4294836225:=by
   have z1:=zQf a0 a1 b0 b1;exact(zQf (x:=(m-b)*s+a*b) (y:=e) (A:=4294836225) (B:=4294836225) (by omega) qz (by omega) t1).2
  have qd:((m-b)*s+a*b)*e=(m-b)*s*e+a*b*e:=by grind
  have q2:=zQf (x:=(m-b)*s) (y:=e) (A:=4294836225) (B:=4294836225) q1.1 (by omega) (by omega) t1;have q3:=zQf d0 d1 m0 m1;have q4:=zQf (x:=d*m) (y:=e) (A:=4294836225) (B:=4294836225) q3.1 (by omega) (by omega) t1;have q5:=zQf (x:=(m-b)*s*e+p) (y:=A) (A:=18446744073709551615) (B:=65535) (by omega) (by omega) f0 (by omega);have q6:=zQf (x:=d*m*e) (y:=F) (A:=18446744073709551615) (B:=65535) q4.1 (by omega) f2 (by omega);have q8:=zQf (x:=A) (y:=q) (A:=65535) (B:=65535) f0 (by omega) tq t3;have q9:=zQf (x:=m) (y:=m) (A:=65535) (B:=65535) m0 m1 m0 m1;have q10:=zQf (x:=m*m) (y:=e) (A:=4294836225) (B:=4294836225) q9.1 (by omega) (by omega) t1;have lp:loW p=p:=zYv tp (by omega);have ad:∀x y:Int,x+y<340282366920938463463374607431768211456->addW x y=x+y:=λx y h=>by unfold addW;rw[if_pos h]
  simp only[lp,U (m-b) (by omega) (by omega),W (m-b) (by omega) (by omega),W s s0 (by omega),W A f0 (by omega),W F f2 (by omega),W d d0 (by omega),W m m0 (by omega),W ((m-b)*s) q1.1 (by omega),W ((m-b)*s*e) q2.1 (by omega),W ((m-b)*s*e+p) (by omega) (by omega),W (d*m) q3.1 (by omega),W (d*m*e) q4.1 (by omega),W (A*q) q8.1 (by omega),W (m*m) q9.1 (by omega),W (m*m*e) q10.1 (by omega)];have AD:=zXa (hiW (((m-b)*s*e+p)*A)) (loW (((m-b)*s*e+p)*A)) (hiW (d*m*e*F)) (loW (d*m*e*F));refine⟨zQZ _ _,zQZ _ _,AD,?_⟩;simp only[zJu];rw[ad _ _ (by omega),show((m-b)*s*e+p)*A+d*m*e*F=p*A+(m-b)*s*A*e+F*d*m*e by grind]
  (repeat' (first|exact trivial|rfl|apply And.intro))
theorem zK0(op mode m s a d b:Int)(hf:zXe m=true)(ho:isNm op=true)(hm:isNm mode=true)(h1:s<=a)(h2:a<=m)(h3:d<=b)(h4:b<=m):Ans prog 245 [rJ (op),rJ (mode),rD (dK m),rD (dK s),rD (dK a),rD (dK d),rD (dK b)] (rT [rD (dK (colS op mode m s a d b)),rD (dQ true)]):=
 vv zGS aL Tryz.func245 (let f:=jX (colS op mode m s a d b);let c:=vlE op mode m s a d b;let g:=Ex.half ⟨jR c.p,c.q,c.r,c.d⟩;let h:=oU c;let e:=vlK op mode m s a d b;qU (True/\iT (cL 262 op (aV mode::aAK m s a d b) (dA h e)) (aP (dV e) (zK 0 [aM false]=f) (bO e->aX (bH 263 h [] (vR g sN)) (aK (jX (mA g)=f)))))) λhwf=>by
  delta eS aB aV aE aP aF aK bD aX cL bH mA aM iT cF zK jX bO dV qU sN cA gA gQ yB dA oU gK oV aAK jR vR;simp only[sS,zZA];simp only[RV.wfs,RV.wf,DV.wf,DV.wfs,uc]at hwf;have W:∀x:Int,0<=x->x<18446744073709551616->wrap .u64 x=x:=λx x0 x1=>wQk x ⟨x0,by omega⟩;have U:∀x:Int,0<=x->x<=65535->wrap .u16 x=x:=λx x0 x1=>wZn x ⟨x0,by omega⟩;obtain⟨_,_,⟨m0,m1⟩,⟨s0,s1⟩,⟨a0,a1⟩,⟨d0,d1⟩,⟨b0,b1⟩,_⟩:=hwf;have hM:=(zZC hf).1;have kb:blK mode s a d b=true:=by unfold blK;rw[hm,decide_eq_true h1,decide_eq_true h3];rfl
  have kf:fcK op a b m=true:=by unfold fcK;rw[ho,decide_eq_true h2,decide_eq_true h4];rfl
  have k:vlK op mode m s a d b=true:=by unfold vlK;rw[kb,kf,hf];rfl
  have ve:vlE op mode m s a d b=valS op mode m s a d b:=by unfold vlE;rw[if_pos k]
  have va:=jYw op mode m s a d b;rw[k,ve]at va;rw[k,ve];obtain⟨ok,l1,l2⟩:=jJt (op:=op) (mode:=mode) hM s0 h1 h2 d0 h3 h4;obtain⟨bk,t1,t2,t3,t4⟩:=zUf (mode:=mode) s0 h1 d0 h3 a1 b1;have⟨⟨f0,f1⟩,f2,f3⟩:=jWY (op:=op) a0 h2 b0 h4;have⟨c0,c1⟩:=jYU (op:=op) (mode:=mode) hM s0 h1 h2 d0 h3 h4;have aS:=zYo (op:=op) (a:=a) (f:=m) (b:=b) (g:=m) hM a0 h2 (Int.le_refl _) b0 h4 (Int.le_refl _);have hq:(valS op mode m s a d b).q=facA op a b m*(zQk mode s a d b).q:=rfl;have hr:(valS op mode m s a d b).r=(zQk mode s a d b).r:=rfl;have hh:(valS op mode m s a d b).half=colS op mode m s a d b:=rfl;have hfl:=Ex.half_floor ok;have n1:=zQf f0 (show facA op a b m<=65535 by omega) bk.q t3;have g1:=zQf f0 (show facA op a b m<=65535 by omega) a0 a1;have g2:=zQf f2 (show facB op a b m<=65535 by omega) b0 b1;have g3:=zQf (x:=(zQk mode s a d b).d) (y:=m) (A:=4294836225) (B:=65535) (by have:=bk.d;omega) t1 m0 m1;have g4:=zQf (x:=(zQk mode s a d b).d*m) (y:=facA op a b m*a+facB op a b m*b) (A:=281462092005375) (B:=8589672450) g3.1 (by omega) (by omega) (by omega);have eta:(⟨wV (hiW (valS op mode m s a d b).p) (loW (valS op mode m s a d b).p),(valS op mode m s a d b).q,(valS op mode m s a d b).r,(valS op mode m s a d b).d⟩:Ex)=valS op mode m s a d b:=by rw[zJu]
  have ha:=zUp (hiW (valS op mode m s a d b).p) (loW (valS op mode m s a d b).p) (valS op mode m s a d b).q (valS op mode m s a d b).r (valS op mode m s a d b).d (by unfold hiW;omega) (by rw[hq];omega) (by rw[hr];omega) (by have:=ok.d;omega) (by rw[eta];rw[hh]at hfl;split at hfl<;>omega);refine⟨va,λh=>(by cases h),λ_=>⟨ha,?_⟩⟩;rw[eta,hh];exact U _ c0 (by omega)
theorem zYx(mode m s a f c d b:Int)(hf:zXe m=true)(hm:isNm mode=true)(h1:s<=a)(h2:a<=f)(h3:f<=m)(h4:d<=b)(h5:b<=m)(h6:c<=m):Ans prog 259 [rJ (mode),rD (dK m),rD (dK s),rD (dK a),rD (dK f),rD (dK c),rD (dK d),rD (dK b)] (rT [rD (dK (knoC mode m s a f c d b)),rD (dQ true)]):=
 vv zGS (let e:=blE mode s a d b;let g:=e.p;gY (ug True (jJ (tD 1 m (vP 2 s 3 a (vP 4 f 5 c (vP 6 d 7 b (dP 18 18 []))))) 18 (bY (cF (hiW g)) (aH (cF (loW g)) (cF e.q) (cF e.r) (cF e.d) [])) []) aL)) Tryz.func259 (let n:=jX (knoC mode m s a f c d b);let e:=blE mode s a d b;let i:=e.d;let o:=bJ (bV m) i;let p:=e.p;let q:=jR p;let j:=mA (m-f)*c+mA (f-a)*d+mA (m-b)*s;let k:=j*i;let r:=jR k;let h:=addW r q;let t:=Ex.half ⟨jR h,e.q,e.r,o⟩;let g:=zK 0 [aM false]=n;let l:=blK mode s a d b;let u:=oU e;True/\True/\vH (aR (cL 273 mode (oV s a d b) (dA u l)) (True/\True/\True/\(True/\True/\True/\bL (bO l) (Ans prog 274 (oB m) (aM (zXe m))) (aP (bO (zXe m)) (zU (dR a f) (dR f m) (aDS b m (aP (gL c m) g (dR c m->(∃w:Unit,True/\aT (eQ m/\eQ s/\eC (eQ a) (eQ f) (aG (eQ c) (eS (aF d)) (eS (aF b)) (eS (0:Nat)))) (eS u)))) (aN (mK b m) g)) (dL (mK f m) g) (mK a f) g) (xJ (dU (zXe m)) g))/\aN (dU l) (aK g))/\(∀v:Unit,aN True (True/\aK (pV 277 (gK (mA (m-f)) c (oV (mA (f-a)) d (mA (m-b)) s)) j/\True/\True/\vQ (gE j i) k/\bD (aDT 275 k p (dA (fO h) (addK r q))) (gC (eS true) (aK (aX (bH 263 (yB (hiW h) (loW h) e.q e.r o) [] (vR t sN)) (aK (jX (mA t)=n))))))))))) λhwf=>by
  delta eS aB aV aE aP eC aF aG aK aN bD aX cL dL gB gC oB aR eQ aT gD bL dR gL bH mA aM cF bV jL zK jX bO dU xJ mK sN zU cA bJ gE gA gQ yB dA oU sX pV vH gK oV aDS fO jR vR vQ aDT;simp only[sS,zZA];simp only[RV.wfs,RV.wf,DV.wf,DV.wfs,uc]at hwf;have W:∀x:Int,0<=x->x<18446744073709551616->wrap .u64 x=x:=λx x0 x1=>wQk x ⟨x0,by omega⟩;have U:∀x:Int,0<=x->x<=65535->wrap .u16 x=x:=λx x0 x1=>wZn x ⟨x0,by omega⟩;obtain⟨_,⟨m0,m1⟩,⟨s0,s1⟩,⟨a0,a1⟩,⟨f0,f1⟩,⟨c0,c1⟩,⟨d0,d1⟩,⟨b0,b1⟩,_⟩:=hwf;have hM:=(zZC hf).1;have kb:blK mode s a d b=true:=by unfold blK;rw[hm,decide_eq_true h1,decide_eq_true h4];rfl
  have be:blE mode s a d b=zQk mode s a d b:=by unfold blE;rw[if_pos kb]
  have bl:=zV9 mode s a d b;rw[kb,be]at bl;rw[kb,be];obtain⟨ok,l1,l2⟩:=jKf (mode:=mode) hM s0 h1 h2 h3 d0 h4 h5 c0 h6;obtain⟨bk,t1,t2,t3,t4⟩:=zUf (mode:=mode) s0 h1 d0 h4 a1 b1;have⟨k0,k1⟩:=jYz (mode:=mode) (A:=m) hM s0 h1 h2 h3 d0 h4 h5 c0 h6;have ka:=jYA (acc:=m) (b:=b) hM a0 h2 h3 m0 (Int.le_refl _) b0 h5;have hh:(knoX mode m s a f c d b).half=knoC mode m s a f c d b:=rfl;have hfl:=Ex.half_floor ok;rw[hh]at hfl;have td:=bk.d;have tp:=bk.p;have q1:=zQf (x:=m-f) (y:=c) (A:=65535) (B:=65535) (by omega) (by omega) c0 c1;have q2:=zQf (x:=f-a) (y:=d) (A:=65535) (B:=65535) (by omega) (by omega) d0 d1;have q3:=zQf (x:=m-b) (y:=s) (A:=65535) (B:=65535) (by omega) (by omega) s0 s1;have q4:=zQf (x:=(m-f)*c+(f-a)*d+(m-b)*s) (y:=(zQk mode s a d b).d) (A:=12884508675) (B:=4294836225) (by omega) (by omega) (by omega) t1;have q5:=zQf (x:=m) (y:=(zQk mode s a d b).d) (A:=65535) (B:=4294836225) m0 m1 (by omega) t1;simp only[W m m0 (by omega),U (m-f) (by omega) (by omega),U (f-a) (by omega) (by omega),U (m-b) (by omega) (by omega),W (m*(zQk mode s a d b).d) q5.1 (by omega),zJu];have kx:knoX mode m s a f c d b=⟨(zQk mode s a d b).p+((m-f)*c+(f-a)*d+(m-b)*s)*(zQk mode s a d b).d,(zQk mode s a d b).q,(zQk mode s a d b).r,m*(zQk mode s a d b).d⟩:=rfl;have ae:addW (((m-f)*c+(f-a)*d+(m-b)*s)*(zQk mode s a d b).d) (zQk mode s a d b).p=(zQk mode s a d b).p+((m-f)*c+(f-a)*d+(m-b)*s)*(zQk mode s a d b).d:=by unfold addW;rw[if_pos (by omega),wXF]
  have mu:=zQZ ((m-f)*c+(f-a)*d+(m-b)*s) (zQk mode s a d b).d;have ad:=zXa (hiW (((m-f)*c+(f-a)*d+(m-b)*s)*(zQk mode s a d b).d)) (loW (((m-f)*c+(f-a)*d+(m-b)*s)*(zQk mode s a d b).d)) (hiW (zQk mode s a d b).p) (loW (zQk mode s a d b).p);have ha:=zUp (hiW (knoX mode m s a f c d b).p) (loW (knoX mode m s a f c d b).p) (knoX mode m s a f c d b).q (knoX mode m s a f c d b).r (knoX mode m s a f c d b).d (by rw[kx];unfold hiW;simp only;omega) (by rw[kx];simp only;omega) (by rw[kx];simp only;omega) (by have:=ok.d;omega) (by rw[zJu];change (knoX mode m s a f c d b).floor<_;split at hfl<;>omega);rw[zJu]at ha;change Ans _ _ _ (RV.tup [RV.d (DV.int .u64 (knoX mode m s a f c d b).half),_]) at ha;rw[hh,kx]at ha;simp only[zJu,ae]at ad |-;have hh2:(⟨(zQk mode s a d b).p+((m-f)*c+(f-a)*d+(m-b)*s)*(zQk mode s a d b).d,(zQk mode s a d b).q,(zQk mode s a d b).r,m*(zQk mode s a d b).d⟩:Ex).half=knoC mode m s a f c d b:=hh;simp only[hh2];have uk:wrap .u16 (knoC mode m s a f c d b)=knoC mode m s a f c d b:=U _ k0 (by omega);have SU:=zVm (m-f) c (f-a) d (m-b) s;refine⟨bl,⟨λ_=>⟨λ_=>⟨λ_=>⟨λ_=>⟨λ_=>⟨λh=>absurd h6 (by omega),λ_=>⟨(),trivial⟩⟩,λh=>absurd h5 (by omega)⟩,λh=>absurd h3 (by omega)⟩,λh=>absurd h2 (by omega)⟩,λh=>(by rw[hf]at h;cases h)⟩,λh=>(by cases h)⟩,SU,mu,ad,ha,uk⟩
theorem zJ1(m a f acc b:Int)(hf:zXe m=true)(h1:a<=f)(h2:f<=m)(h4:acc<=m)(h5:b<=m):Ans prog 260 [rD (dK m),rD (dK a),rD (dK f),rD (dK acc),rD (dK b)] (rT [rD (dK (knoA m a f acc b)),rD (dQ true)]):=
 vv zGS aL Tryz.func260 (let e:=jX (knoA m a f acc b);let c:=zK 0 [aM false]=e;let d:=mA (m-f)*acc+mA (f-a)*b+m*a;bI (Ans prog 274 (oB m) (aM (zXe m))/\True/\True/\aE (bO (zXe m)) (zU (dR a f) (dR f m) (aDS acc m (aP (gL b m) c (xJ (dR b m) (aX (pV 277 (gK (mA (m-f)) acc (oV (mA (f-a)) b m a)) d) (aR (pV 228 (gE d (bV m)) (zZs d (bV m))) (jX (lV d (bV m))=e))))) (aN (mK acc m) c)) (dL (mK f m) c) (mK a f) c)/\xJ (dU (zXe m)) c)) λhwf=>by
  delta eS aE aP aF aK aN aX dL oB aR gD dR gL mA aM bI cF bV jL zK jX bO dU xJ mK zU cA gE pV gK oV lV aDS;simp only[sS,zZA];simp only[RV.wfs,RV.wf,DV.wf,DV.wfs,uc]at hwf;have W:∀x:Int,0<=x->x<18446744073709551616->wrap .u64 x=x:=λx x0 x1=>wQk x ⟨x0,by omega⟩;have U:∀x:Int,0<=x->x<=65535->wrap .u16 x=x:=λx x0 x1=>wZn x ⟨x0,by omega⟩;obtain⟨⟨m0,m1⟩,⟨a0,a1⟩,⟨f0,f1⟩,⟨c0,c1⟩,⟨b0,b1⟩,_⟩:=hwf;have hM:=(zZC hf).1;have ka:=jYA (acc:=acc) (b:=b) hM a0 h1 h2 c0 h4 b0 h5;have q1:=zQf (x:=m-f) (y:=acc) (A:=65535) (B:=65535) (by omega) (by omega) c0 c1;have q2:=zQf (x:=f-a) (y:=b) (A:=65535) (B:=65535) (by omega) (by omega) b0 b1;have q3:=zQf (x:=m) (y:=a) (A:=65535) (B:=65535) m0 m1 a0 a1;have SU:=zVm (m-f) acc (f-a) b m a;have HA:=zQK ((m-f)*acc+(f-a)*b+m*a) m;have uk:wrap .u16 (zZs ((m-f)*acc+(f-a)*b+m*a) m)=knoA m a f acc b:=U _ ka.1 (by unfold knoA at ka;omega);simp only[W m m0 (by omega),U (m-f) (by omega) (by omega),U (f-a) (by omega) (by omega)];refine⟨λ_=>⟨λ_=>⟨λ_=>⟨λ_=>⟨λh=>absurd h5 (by omega),λ_=>⟨SU,HA,uk⟩⟩,λh=>absurd h4 (by omega)⟩,λh=>absurd h2 (by omega)⟩,λh=>absurd h1 (by omega)⟩,λh=>(by rw[hf]at h;cases h)⟩
theorem zHC(m a f own:Int)(hf:zXe m=true)(h1:a<=f)(h2:f<=m)(h4:own<=m):Ans prog 261 [rD (dK m),rD (dK a),rD (dK f),rD (dK own)] (rT [rD (dK (knoA m a f own 0)),rD (dQ true)]):=
 vv zGS aL Tryz.func261 (let b:=jX (knoA m a f own 0);bI (eZ (Ans prog 260 (aAK m a f own 0) b) (eS b))) λhwf=>by
  delta eS aF eZ aM bI zK jX gK oV aAK;simp only[sS,zZA];simp only[RV.wfs,RV.wf,DV.wf,DV.wfs,uc]at hwf;exact zJ1 _ _ _ _ _ hf h1 h2 h4 (by omega)
abbrev aD(q:Ac):List DV:=[DV.int .u16 q.a,DV.int .u16 q.b,DV.int .u16 q.c,DV.int .u16 q.al,DV.int .u16 q.own,DV.int .u16 q.f]
def vq(l:List DV):Ac:=⟨nAt l 0,nAt l 1,nAt l 2,nAt l 3,nAt l 4,nAt l 5⟩
def jYF:Gam:=zGS.add [.p 118 (λv=>some (RV.d (DV.int .u32 (zZs (nAt (uj v) 0) 255)))),
 .p 119 (λv=>some (RV.d (DV.int .u64 (zZs (nAt (uj v) 0) 65535)))),
 .p 64 (λv=>let c:=zXc (uy (ul v 0)) (nAt (uj v) 1) (nAt (uj v) 2);some (RV.tup [RV.agg (pD (c.1)),RV.d (dQ c.2)])),
 .p 229 (λv=>let c:=zKH (uy (ul v 0)) (nAt (uj v) 1) (nAt (uj v) 2) (nAt (uj v) 3);some (RV.tup [RV.agg (pD (c.1)),RV.d (dQ c.2)])),
 .p 182 (λv=>some (RV.d (dQ (Ac.ok (vq (ul v 0)) (uy (ul v 1)) (nAt (uj v) 2))))),
 .p 181 (λv=>let c:=zQG (bAt (uj v) 0) (bAt (uj v) 1) (vq (ul v 2)) (uy (ul v 3));some (RV.tup [RV.agg (aD (c.1)),RV.agg (pD (c.2))])),
 .p 244 (λv=>some (RV.tup [RV.agg (aD (accS true 4 (nAt (uj v) 0) (nAt (uj v) 1) (uy (ul v 2)) (vq (ul v 3)) (uy (ul v 4)))),RV.d (dQ true)])),
 .p 230 (λv=>let c:=nAt (uj v) 3;let e:=nAt (uj v) 2;let f:=nAt (uj v) 1;let g:=bAt (uj v) 0;let h:=vq (ul v 5);let i:=uy (ul v 6);let j:=uy (ul v 4);some (RV.tup [RV.agg (aD (zUr g f e c j h i)),RV.d (dQ (zXu g f e c j h i))])),
 .p 183 (λv=>some (RV.d (dK (remS (nAt (uj v) 3) (nAt (uj v) 0) (nAt (uj v) 2) (nAt (uj v) 1))))),
 .p 109 (λv=>let c:=nAt (uj v) 2;let e:=vq (ul v 0);let f:=uy (ul v 1);some (RV.tup [RV.agg (pD (resE e f c)),RV.d (dQ (Ac.ok e f c))]))]
def aKB(a b c:Int)(d:Px)(e:Int)(f:wc):Bx:=aHO a b c d.al e f
def aKA(a b:Int)(d:Px)(e:Int)(f:wc):Bx:=aKB a b d.c d e f
def aJZ(a:Int)(c:Px)(d:Int)(e:wc):Bx:=aKA a c.b c d e
def aKC(b:Px)(c:Int)(d:wc):Bx:=aJZ b.a b c d
def aAJ(a:Px)(b:wc):Bx:=aKC a a.f b
def aMS(a:Nat)(b:Int)(c:Nat)(d:Int)(e:vz)(f:Nat)(g:Bx)(h:Nat)(i:Int)(j:wc):Snap:=aJU a b c d e f g h (aAH i j)
def aMT(a:Nat)(b:Int)(c:Nat)(d:Int)(e:vz)(f:Nat)(g:Bx)(h:Nat)(i:wc):Snap:=aMS a b c d e f g h 0 i
def aMU(a:Nat)(b:Int)(c:Nat)(d:Int)(e:vz)(f:Nat)(g:Bx)(h:Nat)(i:wc):Snap:=aMT a b c d e f g h (oP i)
def aAW(a:Nat)(b:Int)(c:Nat)(d:Int)(e:vz)(f:Nat)(g:Bx)(h:Nat)(i:wc):Snap:=aMU a b c d e f g h (oP i)
def qK(a:Bool)(b:Prop):Prop:=a=true->True/\b
def tR(a:Px)(b c d e:Int)(f:Prop):Prop:=aG (zYF a b c=true) (eQ b/\iO c (xP (cT (aG (eS (1:Nat)) (eS (2:Nat)) (eS (3:Nat)) (eS (4:Nat)))) d e)) f (eS mV)
theorem zVD(p:Px)(k m:Int):Ans prog 64 [rA (pD p),rD (dK k),rD (dK m)] (rT [rA (pD ((zXc p k m).1)),rD (dQ ((zXc p k m).2))]):=
 vv jYF (let b:=zXb p k m;let a:=[Cl.ptr 3 0,Cl.ptr 3 1,Cl.ptr 3 2,Cl.ptr 3 3,Cl.ptr 3 4];let d:=zYF p k m=true;let c:=b.a;fK (ug d (aAW 1 k 2 m (kU 3 3 6 6 []) 3 (aAJ p []) 6 []) (nA (uf d (aAW 1 k 2 m (yT 3 6 37 a 38 0) 3 (aAJ p []) 6 []) yJ (uf d (aAW 1 k 2 m (yT 3 6 37 a 38 1) 3 (aJZ c p p.f []) 6 []) yJ (uf d (aAW 1 k 2 m (yT 3 6 37 a 38 2) 3 (aKA c b.b p p.f []) 6 []) yJ (uf d (aAW 1 k 2 m (yT 3 6 37 a 38 3) 3 (aKB c b.b b.c p p.f []) 6 []) yJ (uf d (aAW 1 k 2 m (yT 3 6 37 a 38 4) 3 (aKC b p.f []) 6 []) yJ (uf d (aAW 1 k 2 m (yT 3 6 37 a 38 5) 3 (aAJ b []) 6 []) vJ aL))))))))) Tryz.func64 (let B:=zXc p k m;let C:=eG B.fst;let b:=zXb p k m;let h:=b.c;let d:=b.b;let a:=b.a;let i:=aBV a d h b.al b.f;let e:=zYF p k m;let f:=jT k;let D:=jT p.f*f;let j:=jT D;let l:=bV j;let n:=b.al;let o:=b.c;let q:=b.b;let r:=b.a;let g:=(m==255)=true;let E:=cO r q o n p.f;let F:=jT p.al*f;let s:=jT F;let t:=bV s;let c:=p.al;let G:=cO a d h c p.f;let H:=jT p.c*f;let u:=jT H;let v:=bV u;let I:=cO a d p.c c p.f;let J:=jT p.b*f;let w:=jT J;let x:=bV w;let K:=cO a p.b p.c c p.f;let L:=jT p.a*f;let y:=jT L;let z:=bV y;let A:=gA mV [aM false]=dA C B.snd;let M:=mL (bO (Px.ok p m)) (fU (gL k m) A (dR k m->(∃z6:Unit,iB (zYF p k m=true) (eQ k/\iO m (eS (0:Nat)/\True)) (eG p) mV))) (dU (Px.ok p m)) A;True/\True/\True/\cS (m !=255) (True/\True/\True/\(dN m 65535->True/\True/\aHP p m/\M)/\fP (kP m 65535) A) (iL (bG (m !=255)) (aHP p m) M)/\(∀z5:Unit,qK e (jW (kS 3) aCF True (aR (cU 2 2 3) (xQ (∃z4:Unit,iB (zYF p k m=true) (eQ k/\iO m (sI (cT (aG (eS (1:Nat)) (eS (2:Nat)) (eS (3:Nat)) (eS (4:Nat)))) jG)) (eG p) mV) (∀z3:Unit,qK e (eX 0/\kS 5/\kM (g->iT (lM 118 (kR (jT L)) [] (aEE y)) (∃z2:Unit,tR p k m 0 1 (cO (lV y 255) p.b p.c c p.f=K))) (rQ m 255 (iT (pV 119 (cA z []) (aEF z)) (∃z1:Unit,tR p k m 0 1 (cO (lV z 65535) p.b p.c c p.f=K)))))) (∀z0:Unit,qK e (eX 1/\cU 1 1 5/\kM (g->iT (lM 118 (kR (jT J)) [] (aEE w)) (∃Z:Unit,tR p k m 1 2 (cO a (lV w 255) p.c c p.f=I))) (rQ m 255 (iT (pV 119 (cA x []) (aEF x)) (∃Y:Unit,tR p k m 1 2 (cO a (lV x 65535) p.c c p.f=I)))))) (∀X:Unit,qK e (eX 2/\cU 2 2 5/\kM (g->iT (lM 118 (kR (jT H)) [] (aEE u)) (∃W:Unit,tR p k m 2 3 (cO a d (lV u 255) c p.f=G))) (rQ m 255 (iT (pV 119 (cA v []) (aEF v)) (∃V:Unit,tR p k m 2 3 (cQ a d (aF (lV v 65535)::cQ p.al p.f [])=G)))))) (∀U:Unit,qK e (eX 3/\cU 3 3 5/\kM (g->iT (lM 118 (kR (jT F)) [] (aEE s)) (∃T:Unit,tR p k m 3 4 (cO a d h (lV s 255) p.f=E))) (rQ m 255 (iT (pV 119 (cA t []) (aEF t)) (∃S:Unit,tR p k m 3 4 (cO a d h (lV t 65535) p.f=E)))))) (∀R:Unit,qK e (eX 4/\cU 4 4 5/\kM (g->iT (lM 118 (kR (jT D)) [] (aEE j)) (∃Q:Unit,tR p k m 4 5 (cO r q o n (lV j 255)=i))) (rQ m 255 (iT (pV 119 (cA l []) (aEF l)) (∃P:Unit,tR p k m 4 5 (cO r q o n (lV l 65535)=i)))))) (∀O:Unit,qK e (aR xO (rB i C B.snd)))))))) λhwf=>by
  delta eS aB aE gX aF aU aG cQ aK bD cU cO kS oB rQ jE cP bM bG aR bK cT eQ iO aT gD dE dR gL eG bH fU mV mA aM qG iT jG kM lM cS fP iL iB jW qK cF bV jL bO dU aBV dN lY eX xP xQ xO sI aCF kP mL cA gA dA rB pV aHP lV kR jT aEE aEF tR;simp only[sS];simp only[RV.wfs,RV.wf,DV.wf,DV.wfs,uc]at hwf;obtain⟨⟨⟨a0,a1⟩,⟨b0,b1⟩,⟨c0,c1⟩,⟨l0,l1⟩,⟨f0,f1⟩,_⟩,⟨k0,k1⟩,⟨m0,m1⟩,_⟩:=hwf;have s1:zXc p k m=if zYF p k m then(zXb p k m,true) else(.zero,false):=rfl
  have bad:¬(zXe m=true/\p.ok m=true/\k<=m)->(0=(zXc p k m).1.a/\0=(zXc p k m).1.b/\0=(zXc p k m).1.c/\0=(zXc p k m).1.al/\0=(zXc p k m).1.f)/\false=(zXc p k m).2:=λhn=>by
   have:zXc p k m=(.zero,false):=by
    rw[s1,if_neg];intro e;simp only[zYF,wQd,wQf]at e;exact hn ⟨e.1,e.2.1,e.2.2⟩
   rw[this];exact⟨⟨rfl,rfl,rfl,rfl,rfl⟩,rfl⟩
  have vp:=zQt p.a p.b p.c p.al p.f m;change Ans _ _ _ (RV.d (DV.bool (p.ok m))) at vp;have nf:(m !=255)=true->(m !=65535)=true->¬zXe m=true:=λh1 h2 h=>by
   have h1:=wQQ.1 h1;have h2:=wQQ.1 h2
   rcases zGU h with h|h<;>contradiction
  have fa:(m !=65535)=false->zXe m=true:=λh=>decide_eq_true (.inr (wZu.1 h));have fb:(m !=255)=false->zXe m=true:=λh=>decide_eq_true (.inl (wZu.1 h));have sb:zXe m=true->p.ok m=true->¬k>m->zYF p k m=true:=λh1 h2 h3=>by
   unfold zYF;rw[h1,h2,decide_eq_true (show k<=m by omega)];rfl
  have tail:zXe m=true->_/\(p.ok m=true->(k>m->_/\_)/\(¬k>m->∃_:Unit,zYF p k m=true))/\(p.ok m=false->_/\_):=λhf=>⟨vp,λhp=>⟨λhk=>bad (λh=>by omega),λhk=>⟨(),sb hf hp hk⟩⟩,λhp=>bad (λh=>by rw[hp]at h;exact absurd h.2.1 (by decide))⟩
  refine⟨⟨λh1=>⟨λh2=>tail (fa h2),λh2=>bad (λh=>nf h1 h2 h.1)⟩,λh1=>tail (fb h1)⟩,λhs=>?_⟩;clear bad nf fa fb sb tail vp;have hs':=hs;unfold zYF at hs';simp only[wQd,wQf]at hs';obtain⟨hf,hp,hk⟩:=hs';have hm:=(zZC hf).1;have e:zXc p k m=(zXb p k m,true):=by rw[s1,if_pos hs]
  rw[e];clear e s1;obtain⟨o1,o2⟩:=jXZ hm hp ⟨a0,b0,c0⟩ k0 hk;obtain⟨x1,x2,x3,x4,x5⟩:=Px.ok_iff.1 o1;obtain⟨y1,y2,y3⟩:=o2;have W32:∀x:Int,0<=x->x<4294967296->wrap .u32 x=x:=λx x0 x1=>wXN x ⟨x0,by omega⟩;have W64:∀x:Int,0<=x->x<18446744073709551616->wrap .u64 x=x:=λx x0 x1=>wQk x ⟨x0,by omega⟩;have U:∀x:Int,0<=x->x<=65535->wrap .u16 x=x:=λx x0 x1=>wZn x ⟨x0,by omega⟩;have ch:∀v:Int,0<=v->v<=65535->wrap .u32 (wrap .u32 v*wrap .u32 k)=v*k/\wrap .u64 (v*k)=v*k:=λv v0 v1=>by
   have:=zQf v0 v1 k0 k1;rw[W32 v v0 (by omega),W32 k k0 (by omega),W32 _ this.1 (by omega),W64 _ this.1 (by omega)];exact⟨rfl,rfl⟩
  have ca:=ch _ a0 a1;have cb:=ch _ b0 b1;have cc:=ch _ c0 c1;have cl:=ch _ l0 l1;have cf:=ch _ f0 f1;simp only[ca.1,ca.2,cb.1,cb.2,cc.1,cc.2,cl.1,cl.2,cf.1,cf.2];clear ch ca cb cc cl cf;have w1:wrap .i64 (0+1)=1:=by decide
  have w2:wrap .i64 (1+1)=2:=by decide
  have w3:wrap .i64 (2+1)=3:=by decide
  have w4:wrap .i64 (3+1)=4:=by decide
  have w5:wrap .i64 (4+1)=5:=by decide
  have fin:∀(v z r:Int),z=zZs (v*k) m->0<=z->z<=65535->((m==255)=true->wrap .u16 (zZs (v*k) 255)=z)/\((m==255)=false->wrap .u16 (zZs (v*k) 65535)=z):=λv z r hz z0 z1=>by
   subst hz
   rcases zGU hf with rfl|rfl
   .exact⟨λ_=>U _ z0 z1,λh=>by cases h⟩
   .exact⟨λh=>absurd h (by decide),λ_=>U _ z0 z1⟩
  have g1:=fin p.a (zXb p k m).a 0 rfl y1 (by omega);have g2:=fin p.b (zXb p k m).b 0 rfl y2 (by omega);have g3:=fin p.c (zXb p k m).c 0 rfl y3 (by omega);have g4:=fin p.al (zXb p k m).al 0 rfl (by omega) (by omega);have g5:=fin p.f (zXb p k m).f 0 rfl (by omega) (by omega);have B1:=λv=>zXD (v*k);have B2:=λv=>zXS (v*k)
  (repeat' (first|intro _|apply And.intro|refine Exists.intro () ?_))<;>first|exact hs|exact B1 _|exact B2 _|exact w1|exact w2|exact w3|exact w4|exact w5|decide|rfl|exact g1.1 ‹_›|exact g1.2 ‹_›|exact g2.1 ‹_›|exact g2.2 ‹_›|exact g3.1 ‹_›|exact g3.2 ‹_›|exact g4.1 ‹_›|exact g4.2 ‹_›|exact g5.1 ‹_›|exact g5.2 ‹_›|omega
theorem jZD(p:Px)(j k m:Int):Ans prog 229 [rA (pD p),rD (dK j),rD (dK k),rD (dK m)] (rT [rA (pD ((zKH p j k m).1)),rD (dQ ((zKH p j k m).2))]):=
 vv jYF aL Tryz.func229 (let b:=(zKH p j k m).fst;let e:=dA (cQ b.a b.b (aF b.c::cQ b.al b.f [])) (zKH p j k m).snd;let a:=(zXc p j m).fst;let f:=zXc a k m;let g:=f.snd;let c:=f.fst;let h:=aBV c.a c.b c.c c.al c.f;let i:=aBV a.a a.b a.c a.al a.f;let d:=(zXc p j m).snd;True/\True/\True/\True/\gJ (bH 64 (eG p) (gK j m []) (dA i d)) (True/\True/\True/\True/\fU (dV d) (gA mV [aM false]=e) (bO d->eZ (bH 64 i (gK k m []) (dA h g)) (dA h g=e)))) λhwf=>by
  delta eS aF cQ cO eG bH fU eZ mV aM gJ bO aBV dV gA dA gK;simp only[sS];have S:=zVD p j m;have S2:=zVD (zXc p j m).1 k m;refine⟨S,λh=>?_,λh=>⟨S2,?_⟩⟩
  .have:zYF p j m=false:=by
    cases e:zYF p j m with
    |false=>rfl
    |true=>unfold zXc at h;rw[if_pos e]at h;cases h
   unfold zKH;rw[this];exact⟨⟨rfl,rfl,rfl,rfl,rfl⟩,rfl⟩
  .have:zYF p j m=true:=by
    cases e:zYF p j m with
    |true=>rfl
    |false=>unfold zXc at h;rw[e]at h;cases h
   have e:zKH p j k m=zXc (zXc p j m).1 k m:=by
    unfold zKH;rw[if_pos this];have:zXc p j m=(zXb p j m,true):=by unfold zXc;rw[if_pos this]
    rw[this]
   rw[e];exact⟨⟨rfl,rfl,rfl,rfl,rfl⟩,rfl⟩
def aOP(a b c:Nat)(e:DV)(f:wc)(g:Nat)(h:Int):vz:=yT a b c (Cl.d e::f) g h
def aOQ(a b c:Nat)(d:Int)(e:wc)(f:Nat)(g:Int):vz:=aOP a b c (aF d) e f g
def aKU(a b c:Nat)(d e f:Int)(g:wc)(h:Nat)(i:Int):vz:=aOQ a b c d (aAG e f g) h i
def aKV(b c d:Nat)(e:Ac)(f g:Int)(h:wc)(i:Nat)(j:Int):vz:=aKU b c d e.a f g h i j
def aKW(a c d:Nat)(e:Ac)(f:Int)(g:wc)(h:Nat)(i:Int):vz:=aKV a c d e e.b f g h i
def aGA(a b d:Nat)(e:Ac)(f:wc)(g:Nat)(h:Int):vz:=aKW a b d e e.c f g h
def aLB(a b c d e f:Int)(g:wc):wc:=aAG a b (aCI c d e f g)
def aLC(a b c d:Int)(e:Ac)(f:Int)(g:wc):wc:=aLB a b c d e.own f g
def aLD(a b c:Int)(d:Ac)(e:Int)(f:wc):wc:=aLC a b c d.al d e f
def aIZ(a b c:Int)(d:Ac)(e:wc):wc:=aLD a b c d d.f e
def aIY(a b:Int)(d:Ac)(e:wc):wc:=aIZ a b d.c d e
def aMC(a:Nat)(b:Int)(c:vz)(d:Nat)(e:wc)(f:Nat)(g:Bx)(h:vD):Snap:=aFC (tD a b c) d e f g h
def aFZ(a:Int)(c:Ac)(d:wc):wc:=aIY a c.b c d
def aMD(a:Nat)(b:Int)(c:vz)(d:Nat)(e:Int)(f:Ac)(g:wc)(h:Nat)(i:Bx)(j:vD):Snap:=aMC a b c d (aFZ e f g) h i j
def aMI(b:Nat)(c:Int)(d:vz)(e:Nat)(f:Ac)(g:wc)(h:Nat)(i:Bx)(j:vD):Snap:=aMD b c d e f.a f g h i j
def yI(a:Nat)(b:Int)(c:vz)(d:Nat)(e:Ac)(f:wc)(g:Nat)(h:Px)(i:vD):Snap:=aMI a b c d e f g (aAJ h f) i
theorem zVZ(x:Ac)(k:Px)(m:Int):Ans prog 182 [rA (aD x),rA (pD k),rD (dK m)] (rD (dQ (Ac.ok x k m))):=
 vv jYF (let a:=x.a<=x.al;pH (uf True (yI 2 m (aGA 3 4 10 x [] 11 0) 3 x [] 4 k []) yJ (uf (a/\True) (yI 2 m (aGA 3 4 10 x [] 11 1) 3 x [] 4 k []) yJ (uf (aT a (x.b<=x.al)) (yI 2 m (aGA 3 4 10 x [] 11 2) 3 x [] 4 k []) yJ (uf (dE a (x.b<=x.al) (x.c<=x.al)) (yI 2 m (aGA 3 4 10 x [] 11 3) 3 x [] 4 k []) vJ aL))))) Tryz.func182 (let b:=Ac.ok x k m;let d:=gO b;let h:=aK d;let a:=x.al;let c:=x.own;let i:=aE (jM c a) h;let j:=xF c x.f (True/\True/\xF a m (True/\True/\aP (lQ x.f m) (aHP k m/\True/\True/\qP (Px.ok k m=true) (cZ (k.f==k.al) b)/\fY (bG (Px.ok k m)) b) (mG (jM x.f m) b)) (mI (jM a m) b)) (jM c x.f->aK d);let l:=lQ c a;let e:=x.a<=a;let n:=dE e (x.b<=a) (x.c<=a);let o:=eS (eG k)/\True;let f:=cQ x.a x.b (cQ x.c a (cQ c x.f []));let p:=eS f;let q:=aF x.a::cQ x.b x.c [];let g:=eS q;let r:=aT e (x.b<=a);let s:=e/\True;bI (True/\True/\True/\(∃B:Unit,iB True (iO m (sI (eS q) jG)) f (eG k))/\aG (∀A:Unit,qS (aCD/\nJ 0 x.a/\True/\True/\True/\True/\True/\(gL x.a a->True/\d)/\aE (dR x.a a) (∃z:Unit,iB s (iO m (xP g 0 1)) f (eG k)))) (∀y:Unit,yL s aCE (nJ 1 x.b) (aAF x.b a b (∃w:Unit,pP r (iO m (xP g 1 2)) p o))) (∀v:Unit,yL r aCG (nJ 2 x.c) (aAF x.c a b (∃u:Unit,pP n (iO m (xP g 2 3)) p o))) (∀t:Unit,bL n aCH (yM ((m==255)=false) (mH ((m==65535)=true) (mH l j i) (bK (bG (m==65535)) h)) (gD (m==255)) (bW (bK l j) i))))) λhwf=>by
  delta eS aB aE aP gX aF aU aG cQ aK aN cO oB jE cP bM bG bK bW eY iO aT gD dE bL dR gL eG bH aM qG bI jG pP cS fP iB jM cZ lQ fY gO mH xF mG mI qP lY xP qS sI aCD aCG aCE aCH yM aAF aDM nJ aHP yL;simp only[sS];simp only[RV.wfs,RV.wf,DV.wf,DV.wfs,uc]at hwf;have vp:=zQt k.a k.b k.c k.al k.f m;change Ans _ _ _ (RV.d (DV.bool (k.ok m))) at vp;have no:¬((x.a<=x.al/\x.b<=x.al/\x.c<=x.al)/\zXe m=true/\(x.own<=x.al/\x.own<=x.f/\x.al<=m/\x.f<=m)/\k.ok m=true/\k.f=k.al)->false=x.ok k m:=λh=>by
   cases e:x.ok k m with
   |false=>rfl
   |true=>exact absurd (Ac.ok_iff.1 e) h
  have w1:wrap .i64 (0+1)=1:=by decide
  have w2:wrap .i64 (1+1)=2:=by decide
  have w3:wrap .i64 (2+1)=3:=by decide
  have tail:(x.a<=x.al/\x.b<=x.al/\x.c<=x.al)->zXe m=true->(x.own<=x.al->(x.own<=x.f->(x.al<=m->(x.f<=m->_/\(k.ok m=true->(k.f==k.al)=x.ok k m)/\(k.ok m=false->false=x.ok k m))/\(¬x.f<=m->false=x.ok k m))/\(¬x.al<=m->false=x.ok k m))/\(¬x.own<=x.f->false=x.ok k m))/\(¬x.own<=x.al->false=x.ok k m):=λh3 hf=>⟨λg1=>⟨λg2=>⟨λg3=>⟨λg4=>⟨vp,λhk=>(by
   by_cases e:k.f=k.al
   .rw[Ac.ok_iff.2 ⟨h3,hf,⟨g1,g2,g3,g4⟩,hk,e⟩];simpa using e
   .rw[<-no (λq=>e q.2.2.2.2)]
    simpa using e),λhk=>no (λq=>by rw[hk]at q;exact absurd q.2.2.2.1 (by decide))⟩,λh=>no (λq=>by omega)⟩,λh=>no (λq=>by omega)⟩,λh=>no (λq=>by omega)⟩,λh=>no (λq=>by omega)⟩
  refine⟨⟨(),trivial⟩,⟨by decide,by decide,λh=>no (λq=>by omega),λh=>⟨(),by omega,w1⟩⟩,λh1=>⟨by decide,by decide,λh=>no (λq=>by omega),λh=>⟨(),⟨h1,by omega⟩,w2⟩⟩,λh2=>⟨by decide,by decide,λh=>no (λq=>by omega),λh=>⟨(),⟨h2.1,h2.2,by omega⟩,w3⟩⟩,λh3=>⟨by decide,λm1=>⟨λm2=>tail h3 (decide_eq_true (.inr (by simpa using m2))),λm2=>no λq=>?_⟩,λm1=>tail h3 (decide_eq_true (.inl (by simpa using m1)))⟩⟩
  rcases zGU q.2.1 with h|h
  .rw[h]at m1;cases m1
  .rw[h]at m2;cases m2
def nW(a b c d e f:Int):List DV:=cQ a b (cQ c d (cQ e f []))
def oX(a b c:Int)(d:Ac):List DV:=nW a b c d.al d.own d.f
def pX(d:Ac):List DV:=oX d.a d.b d.c d
theorem jQX(iso kno:Bool)(x:Ac)(k:Px):Ans prog 181 [rD (dQ iso),rD (dQ kno),rA (aD x),rA (pD k)] (rT [rA (aD ((zQG iso kno x k).1)),rA (pD ((zQG iso kno x k).2))]):=
 vv jYF aL Tryz.func181 (let a:=(zQG iso kno x k).snd;let b:=gA (pX (zQG iso kno x k).fst) (gB (aBV a.a a.b a.c a.al a.f));bI (cS iso (True/\True/\bW (eS true) (gA (nW 0 0 0 0 0 0) (gB mV)=b)) (iso=false->oZ (dV kno) (True/\True/\True/\True/\kM (eS true) (gA (nW x.a x.b x.c x.al 0 0) (gB (aEY x.a x.b x.c x.al))=b)) (bO kno) (bW (eS true) (gA (aF k.a::cQ k.b k.c (cQ k.al 0 [aF 0])) (gB (eG k))=b))))) λhwf=>by
  delta eS oZ aF cQ aK cO gB bW eG aEY mV bI kM cS bO aBV dV gA nW oX pX;simp only[sS];unfold zQG;cases iso<;>cases kno<;>simp[Px.zero]
def aMA(a b c d e:Nat)(f:Ac)(g:wc)(h:Nat)(i:Int):vz:=kU a a b b (aGA c d e f g h i)
def pY(a b c d e:Nat)(f:Ac)(g:Nat)(h:Int):vz:=aMA a b c d e f [] g h
def aMG(a:Nat)(b:DV)(c:wc)(d:Nat)(e:wc)(f:vD):vD:=aIU a (vK b c) d e f
def aMW(a:Nat)(b:DV)(c:wc)(d:Nat)(e:wc)(f:vD):vD:=aMG a b (oP c) d e f
def yK(a:Nat)(b:wc)(c:Nat)(d:wc)(e:vD):vD:=aMW a nO b c d e
def aHQ(a:Nat)(b:wc)(c:Nat)(d:Bx)(e:vD):vD:=vL a (Bx.cells b) c d e
def aAI(a b c:Int)(d:Prop):Prop:=dB (aT (eS (aF a::cQ b c [])) d)
def aDK(a:Bool)(b:List RV)(c:Ac)(d:Bool)(e:Int)(f:Prop):Prop:=fT (eS true) (aN (dV a) (gA (nW 0 0 0 0 0 0) b=dA (pX c) d)) (aN (bO a) (aR (cU e e 3) f))
theorem zGQ(mode m:Int)(p:Px)(x:Ac)(k:Px)(hs:zXu true 4 mode m p x k=true):Ans prog 244 [rJ (mode),rD (dK m),rA (pD p),rA (aD x),rA (pD k)] (rT [rA (aD (accS true 4 mode m p x k)),rD (dQ true)]):=
 vv jYF (let d:=accS true 4 mode m p x k;let f:=d.b;let e:=d.a;let b:=aAJ k [];let a:=aFZ x.a x [];let c:=aAJ p [];gI (uf True (jJ (tY 0 mode 1 m (dP 7 7 (pY 8 9 10 12 19 x 20 0))) 7 c (aHQ 8 a 9 b (yK 10 [] 12 a []))) yJ (uf True (jJ (tY 0 mode 1 m (dP 7 7 (pY 8 9 10 12 19 x 20 1))) 7 c (aHQ 8 a 9 b (yK 10 [] 12 (aFZ e x []) []))) yJ (uf True (jJ (tY 0 mode 1 m (dP 7 7 (pY 8 9 10 12 19 x 20 2))) 7 c (aHQ 8 a 9 b (yK 10 [] 12 (aIY e f x []) []))) yJ (uf True (jJ (tY 0 mode 1 m (dP 7 7 (pY 8 9 10 12 19 x 20 3))) 7 c (aHQ 8 a 9 b (yK 10 [] 12 (aIZ e f d.c x []) []))) vJ aL))))) Tryz.func244 (let c:=accS true 4 mode m p x k;let i:=zXX 4 p.f x.f m;let a:=p.al;let j:=knoA m a p.f x.own 0;let b:=k.al;let l:=knoA m a p.f x.al b;let n:=c.c;let e:=c.b;let d:=c.a;let o:=knoC mode m p.c a p.f x.c k.c b;let f:=nW 0 0 0 0 0 0;let g:=eS (eG p);let h:=[aM false];let q:=knoC mode m p.b a p.f x.b k.b b;let r:=knoC mode m p.a a p.f x.a k.a b;kM (∃A:Unit,True/\uF (bM mode/\iO m (dB (aAI x.a x.b x.c jG))) g (eS (pX x)) (eG k) (aT (eS f) (eS (pX x)))) (aG (∀z:Unit,qS (jW aCD (nJ 0 x.a) True (gC (kS 3) (True/\True/\True/\True/\bD (cU 0 0 3) (bD (rK 259 mode m (gK p.a a (oV p.f x.a k.a b)) (jX r)) (aDK true h c true 0 (∃y:Unit,True/\nQ (bM mode/\iO m (dB (aAI x.a x.b x.c (lY 0 1)))) g (pX x) (eG k) f (oX r x.b x.c x=oX d x.b x.c x)))))))) (∀w:Unit,qS (jW aCE (nJ 1 x.b) True (gC aCF (True/\True/\True/\True/\bD (cU 1 1 3) (bD (rK 259 mode m (gK p.b a (oV p.f x.b k.b b)) (jX q)) (aDK true h c true 1 (∃v:Unit,True/\nQ (bM mode/\iO m (dB (aAI x.a x.b x.c (lY 1 2)))) g (pX x) (eG k) f (oX d q x.c x=oX d e x.c x)))))))) (∀u:Unit,qS (jW aCG (nJ 2 x.c) True (gC (cU 2 2 3) (True/\True/\True/\True/\bD (cU 2 2 3) (bD (rK 259 mode m (gK p.c a (oV p.f x.c k.c b)) (jX o)) (aDK true h c true 2 (∃t:Unit,True/\nQ (bM mode/\iO m (dB (aAI x.a x.b x.c (lY 2 3)))) g (pX x) (eG k) f (oX d e o x=oX d e n x)))))))) (∀s:Unit,qS (aR aCH (nB (Ans prog 260 (gK m a (gK p.f x.al (oB b))) (jX l)) (kM (Ans prog 261 (oV m a p.f x.own) (jX j)) (aK (iT (rK 247 4 p.f (gK x.f m []) (kI i)) (rB (nW d e n l j i) (pX c) true))))))))) λhwf=>by
  delta eS aB aV gX aF aU aG cQ aK aN bD aX cL cU cO gC kS oB kI jE cP bM aR lN dB rK iO nQ aT eG fT aM qG iT jG kM nB uF jW zK jX bO lY qS aCD aCG aCE aCH aCF dV gA dA rB nW oX pX gK aDM oV aAI nJ aDK;simp only[sS];simp only[RV.wfs,RV.wf,DV.wf,DV.wfs,uc]at hwf;obtain⟨_,⟨m0,m1⟩,⟨⟨pa0,_⟩,⟨pb0,_⟩,⟨pc0,_⟩,⟨pl0,_⟩,⟨pf0,_⟩,_⟩,⟨⟨xa0,_⟩,⟨xb0,_⟩,⟨xc0,_⟩,⟨xl0,_⟩,⟨xo0,_⟩,⟨xf0,_⟩,_⟩,⟨⟨ka0,_⟩,⟨kb0,_⟩,⟨kc0,_⟩,⟨kl0,_⟩,⟨kf0,_⟩,_⟩,_⟩:=hwf;unfold zXu at hs;simp only[wQd]at hs;obtain⟨h1,h2,h3,h4,h5⟩:=hs;obtain⟨⟨q1,q2,q3⟩,hf,⟨q4,q5,q6,q7⟩,hk2,hk3⟩:=Ac.ok_iff.1 h3;obtain⟨r1,r2,r3,r4,r5⟩:=Px.ok_iff.1 hk2;obtain⟨p1,p2,p3,p4,p5⟩:=Px.ok_iff.1 h4;have sh:=zJY 4 p.f x.f m hf h1 p5 q7;have k1:=zYx mode m p.a p.al p.f x.a k.a k.al hf h2 p1 p4 p5 r1 (by omega) (by omega);have k2:=zYx mode m p.b p.al p.f x.b k.b k.al hf h2 p2 p4 p5 r2 (by omega) (by omega);have k3:=zYx mode m p.c p.al p.f x.c k.c k.al hf h2 p3 p4 p5 r3 (by omega) (by omega);have ka:=zJ1 m p.al p.f x.al k.al hf p4 p5 q6 (by omega);have ko:=zHC m p.al p.f x.own hf p4 p5 (by omega);have w1:wrap .i64 (0+1)=1:=by decide
  have w2:wrap .i64 (1+1)=2:=by decide
  have w3:wrap .i64 (2+1)=3:=by decide
  (repeat' (first|intro _|apply And.intro|refine Exists.intro () ?_))<;>first|exact sh|exact k1|exact k2|exact k3|exact ka|exact ko|exact w1|exact w2|exact w3|exact trivial|rfl|decide|(exfalso;contradiction)|omega
def aDI(a b c d e:Int):Prop:=cT (aAI a b c (lY d e))
theorem jZM(kno:Bool)(op mode m:Int)(p:Px)(x:Ac)(k:Px)(ho:isNm op=true)(hm:isNm mode=true):Ans prog 230 [rD (dQ kno),rJ (op),rJ (mode),rD (dK m),rA (pD p),rA (aD x),rA (pD k)] (rT [rA (aD (zUr kno op mode m p x k)),rD (dQ (zXu kno op mode m p x k))]):=
 vv jYF (let c:=accS kno op mode m p x k;let e:=c.b;let d:=c.a;let a:=aFZ x.a x [];let b:=aAJ p [];let f:=zXu kno op mode m p x k=true;let g:=kno=false/\f;fK (ug f (vM (aBA 0 kno 1 (aB op) (tY 2 mode 3 m (kU 11 11 12 12 (kU 13 13 14 14 [])))) 11 b 12 a (vL 13 (aAJ k []) 14 (aAH 0 (vK nO (oP []))) [])) (gI (uf g (vM (jF 1 op (tY 2 mode 3 m (pY 11 12 14 16 51 x 52 0))) 11 b 12 a (yK 14 [] 16 a [])) yJ (uf g (vM (jF 1 op (tY 2 mode 3 m (pY 11 12 14 16 51 x 52 1))) 11 b 12 a (yK 14 [] 16 (aFZ d x []) [])) yJ (uf g (vM (aDJ op mode (tD 3 m (pY 11 12 14 16 51 x 52 2))) 11 b 12 a (yK 14 [] 16 (aIY d e x []) [])) yJ (uf g (vM (jF 1 op (tY 2 mode 3 m (pY 11 12 14 16 51 x 52 3))) 11 b 12 a (yK 14 [] 16 (aIZ d e c.c x []) [])) vJ aL))))))) Tryz.func230 (let b:=zXu kno op mode m p x k;let j:=zUr kno op mode m p x k;let o:=pX j;let t:=zXX op p.f x.f m;let a:=p.al;let u:=zZK op a x.own m;let c:=x.al;let v:=zZK op a c m;let q:=accS kno op mode m p x k;let w:=q.c;let l:=q.b;let f:=q.a;let y:=b=true;let d:=kno=false/\y;let z:=colS op mode m p.c a x.c c;let h:=nW 0 0 0 0 0 0;let e:=pX x;let g:=eG p;let i:=aF m;let n:=[aM false];let A:=colS op mode m p.b a x.b c;let B:=colS op mode m p.a a x.a c;let C:=eS h;let D:=pX (accS true 4 mode m p x k);let r:=gA h n=dA o b;let s:=Ac.ok x k m;let E:=(∃P:Unit,nQ y (tU kno/\oN op mode i (eS (0:Nat)) (cT (dB True))) g e (eG k) C);qB (bI (bH 182 e (rA (eG k)::oB m) (aM s)/\True/\True/\bP (bO s) (aHP p m) (mL (bO (Px.ok p m)) (True/\qK kno (cS (op !=4) (True/\True/\r) (dN op 4->E))/\aE (bG kno) E) (dU (Px.ok p m)) r)/\fP (dU s) r)) (∀O:Unit,tC b (aE (kno=true) (eZ (rK 244 mode m (rA g::rA e::gB (eG k)) (dA D true)) (rB D o b))) (aN (kno=false) (True/\True/\True/\(∃M:Unit,uF d (oN op mode i (eS (0:Nat)) (cT (aAI x.a x.b x.c jG))) (eS g) e (aT C (eS e)))/\aG (∀L:Unit,d->True/\aCD/\True/\nJ 0 x.a/\bW (kS 3) (nB (cL 245 op (aV mode::aAK m p.a a x.a c) (jX B)) (aDK true n j b 0 (∃K:Unit,nQ d (oN op mode i (eS (0:Nat)) (aDI x.a x.b x.c 0 1)) g e h (oX B x.b x.c x=oX f x.b x.c x))))) (∀J:Unit,d->True/\aCE/\True/\nJ 1 x.b/\bW aCF (nB (cL 245 op (aV mode::aAK m p.b a x.b c) (jX A)) (aDK true n j b 1 (∃I:Unit,nQ d (oN op mode i (eS (0:Nat)) (aDI x.a x.b x.c 1 2)) g e h (oX f A x.c x=oX f l x.c x))))) (∀H:Unit,d->True/\aCG/\True/\nJ 2 x.c/\bW (cU 2 2 3) (nB (cL 245 op (aV mode::aAK m p.c a x.c c) (jX z)) (aDK true n j b 2 (∃G:Unit,nQ d (oN op mode i (eS (0:Nat)) (aDI x.a x.b x.c 2 3)) g e h (oX f l z x=oX f l w x))))) (∀F:Unit,d->sW aCH (aR (rK 246 op a (gK c m []) (kI v)) (gC (rK 246 op a (gK x.own m []) (kI u)) (True/\True/\True/\True/\iT (rK 247 op p.f (gK x.f m []) (kI t)) (rB (nW f l w v u t) o b))))))))) λhwf=>by
  delta eS aB aV aE gX aF aU aG cQ aN bD aX cL cU cO gB gC kS oB kI jE bM nP bG bP aR bK bW cT lN dB rK tU nQ aT gD bL qB eG bH fT eZ aM qG bI iT jG nB uF cS fP qK zK jX bO dU dN lY oN aCD aCG aCE aCH aCF dV mL sW gA dA rB tC nW oX pX gK aDM oV aAI nJ aDI aAK aHP aDK;simp only[sS];simp only[RV.wfs,RV.wf,DV.wf,DV.wfs,uc]at hwf;obtain⟨_,_,_,⟨m0,m1⟩,⟨⟨pa0,_⟩,⟨pb0,_⟩,⟨pc0,_⟩,⟨pl0,_⟩,⟨pf0,_⟩,_⟩,⟨⟨xa0,_⟩,⟨xb0,_⟩,⟨xc0,_⟩,⟨xl0,_⟩,⟨xo0,_⟩,⟨xf0,_⟩,_⟩,⟨⟨ka0,_⟩,⟨kb0,_⟩,⟨kc0,_⟩,⟨kl0,_⟩,⟨kf0,_⟩,_⟩,_⟩:=hwf;have va:=zVZ x k m;have vp:=zQt p.a p.b p.c p.al p.f m;change Ans _ _ _ (RV.d (DV.bool (p.ok m))) at vp;have mk:x.ok k m=true->p.ok m=true->(kno=true->op=4)->zXu kno op mode m p x k=true:=λh3 h4 h5=>by
   unfold zXu;rw[ho,hm,h3,h4]
   cases kno with
   |false=>rfl
   |true=>rw[h5 rfl];rfl
  have e0:zUr kno op mode m p x k=if zXu kno op mode m p x k then accS kno op mode m p x k else .zero:=rfl
  have bad:¬(x.ok k m=true/\p.ok m=true/\(kno=true->op=4))->(0=(zUr kno op mode m p x k).a/\0=(zUr kno op mode m p x k).b/\0=(zUr kno op mode m p x k).c/\0=(zUr kno op mode m p x k).al/\0=(zUr kno op mode m p x k).own/\0=(zUr kno op mode m p x k).f)/\false=zXu kno op mode m p x k:=λhn=>by
   have hf:zXu kno op mode m p x k=false:=by
    cases e:zXu kno op mode m p x k with
    |false=>rfl
    |true=>
     unfold zXu at e;simp only[wQd]at e
     exact absurd ⟨e.2.2.1,e.2.2.2.1,λhk=>by
      have:=e.2.2.2.2;rw[hk]at this
      simpa using this⟩ hn
   rw[e0,hf];exact⟨⟨rfl,rfl,rfl,rfl,rfl,rfl⟩,rfl⟩
  refine⟨⟨va,λhx=>⟨vp,λhp=>⟨λhk=>⟨λh4=>bad λq=>absurd (q.2.2 hk) (wQQ.1 h4),λh4=>⟨(),mk hx hp λ_=>wZu.1 h4⟩⟩,λhk=>⟨(),mk hx hp λh=>by rw[hk]at h;cases h⟩⟩,λhp=>bad λq=>by rw[hp]at q;exact absurd q.2.1 (by decide)⟩,λhx=>bad λq=>by rw[hx]at q;exact absurd q.1 (by decide)⟩,λhs=>?_⟩;clear bad mk va vp;have e1:zUr kno op mode m p x k=accS kno op mode m p x k:=by rw[e0,if_pos hs]
  rw[e1,hs];clear e0 e1;have hs':=hs;unfold zXu at hs';simp only[wQd]at hs';obtain⟨h1,h2,h3,h4,h5⟩:=hs';obtain⟨⟨q1,q2,q3⟩,hf,⟨q4,q5,q6,q7⟩,hk2,hk3⟩:=Ac.ok_iff.1 h3;obtain⟨r1,r2,r3,r4,r5⟩:=Px.ok_iff.1 hk2;obtain⟨p1,p2,p3,p4,p5⟩:=Px.ok_iff.1 h4
  cases kno with
  |true=>
   have h6:op=4:=by simpa using h5
   subst h6;exact⟨λ_=>⟨zGQ mode m p x k hs,⟨rfl,rfl,rfl,rfl,rfl,rfl⟩,rfl⟩,λh=>(by cases h)⟩
  |false=>
   have sh:=zJY op p.f x.f m hf h1 p5 q7;have c1:=zK0 op mode m p.a p.al x.a x.al hf h1 h2 p1 (by omega) q1 q6;have c2:=zK0 op mode m p.b p.al x.b x.al hf h1 h2 p2 (by omega) q2 q6;have c3:=zK0 op mode m p.c p.al x.c x.al hf h1 h2 p3 (by omega) q3 q6;have a1:=zJZ op p.al x.al m hf h1 (by omega) q6;have a2:=zJZ op p.al x.own m hf h1 (by omega) (by omega);have w1:wrap .i64 (0+1)=1:=by decide
   have w2:wrap .i64 (1+1)=2:=by decide
   have w3:wrap .i64 (2+1)=3:=by decide
   (repeat' (first|intro _|apply And.intro|refine Exists.intro () ?_))<;>first|exact sh|exact c1|exact c2|exact c3|exact a1|exact a2|exact w1|exact w2|exact w3|exact hs|exact trivial|rfl|decide|(exfalso;contradiction)|omega
theorem zGR(c k own m:Int)(h1:own<=m)(hm:0<m):Ans prog 183 [rD (dK c),rD (dK k),rD (dK own),rD (dK m)] (rD (dK (remS m c own k))):=
 vv jYF aL Tryz.func183 (let a:=sV (mA (m-own)) k;let b:=fQ (sV m c) a;xS (aK (xF (sV m c) a (kT 0 (remS m c own k)) (aE (decide (sV m c<=a)=false) (eZ (pV 228 (gE b (bV m)) (zZs b (bV m))) (kT (Min.min (lV b (bV m)) own) (remS m c own k))))))) λhwf=>by
  delta eS aE aF aK kI kT eZ mA bI cS cF bV jL fQ xF xS cA bJ gE sV pV lV;simp only[sS];simp only[RV.wfs,RV.wf,DV.wf,DV.wfs,uc]at hwf;have W:∀x:Int,0<=x->x<18446744073709551616->wrap .u64 x=x:=λx x0 x1=>wQk x ⟨x0,by omega⟩;have U:∀x:Int,0<=x->x<=65535->wrap .u16 x=x:=λx x0 x1=>wZn x ⟨x0,by omega⟩;obtain⟨⟨c0,c1⟩,⟨k0,k1⟩,⟨o0,o1⟩,⟨m0,m1⟩,_⟩:=hwf;have n1:=zQf m0 m1 c0 c1;have n2:=zQf (x:=m-own) (y:=k) (A:=65535) (B:=65535) (by omega) (by omega) k0 k1;rw[W m m0 (by omega),W c c0 (by omega),W k k0 (by omega),U (m-own) (by omega) (by omega),W (m-own) (by omega) (by omega),W (m*c) n1.1 (by omega),W ((m-own)*k) n2.1 (by omega)];unfold remS;refine⟨λh=>by rw[if_neg (by omega)],λh=>?_⟩;rw[if_pos (by omega),W (m*c-(m-own)*k) (by omega) (by omega)];have u0:=zJi (n:=m*c-(m-own)*k) hm (by omega);have u1:=zXz (n:=m*c-(m-own)*k) (k:=c) hm (by omega);exact⟨zQK _ _,by rw[U _ u0 (by omega)]⟩
theorem zHD(x:Ac)(k:Px)(m:Int):Ans prog 109 [rA (aD x),rA (pD k),rD (dK m)] (rT [rA (pD (resE x k m)),rD (dQ (Ac.ok x k m))]):=
 vv jYF (let a:=zZy x k m;let b:=a.a;let d:=Ac.ok x k m=true;let c:=aAG x.own x.f [];qW (uf d (yI 2 m (pY 3 4 6 8 23 x 24 0) 3 x [] 4 k (xT 6 [] 8 (aAH 0 (oP c)) [])) yJ (uf d (yI 2 m (pY 3 4 6 8 23 x 24 1) 3 x [] 4 k (aIU 6 (oP (oP [])) 8 (aAG b 0 (cD nO::c)) [])) yJ (uf d (yI 2 m (pY 3 4 6 8 23 x 24 2) 3 x [] 4 k (xT 6 [] 8 (aHO b a.b 0 x.own x.f []) [])) yJ (uf d (yI 2 m (pY 3 4 6 8 23 x 24 3) 3 x [] 4 k (xT 6 [] 8 (aHO b a.b a.c x.own x.f []) [])) vJ aL))))) Tryz.func109 (let b:=Ac.ok x k m;let a:=x.own;let e:=zZy x k m;let f:=e.b;let c:=e.a;let g:=cQ c f (aF e.c::cQ a x.f []);let h:=remS m x.c a k.c;let d:=b=true;let i:=remS m x.b a k.b;let j:=remS m x.a a k.a;True/\True/\qO (bH 182 (pX x) (rA (eG k)::oB m) (aM b)) (aN (dV b) (gA mV [aM false]=dA (eG (resE x k m)) b)) (aN (bO b) (bW (∃t:Unit,nQ d (iO m (cT (aAI x.a x.b x.c jG))) (pX x) (eG k) mV (eS (cO 0 0 0 a x.f))) (aG (∀s:Unit,tC b aCD (sW (nJ 0 x.a) (aR (cU 0 0 3) (True/\aDH 183 (oV x.a k.a a m) j/\True/\kS 3/\nN (∃r:Unit,nQ d (iO m (aDI x.a x.b x.c 0 1)) (pX x) (eG k) mV (cO j 0 0 a x.f=cO c 0 0 a x.f)))))) (∀q:Unit,tC b aCE (sW (nJ 1 x.b) (aR (cU 1 1 3) (True/\aDH 183 (oV x.b k.b a m) i/\True/\aCF/\nN (∃p:Unit,nQ d (iO m (aDI x.a x.b x.c 1 2)) (pX x) (eG k) mV (cO c i 0 a x.f=cO c f 0 a x.f)))))) (∀o:Unit,tC b aCG (sW (nJ 2 x.c) (aR (cU 2 2 3) (True/\aDH 183 (oV x.c k.c a m) h/\True/\cU 2 2 3/\nN (∃n:Unit,nQ d (iO m (aDI x.a x.b x.c 2 3)) (pX x) (eG k) mV (cO c f h a x.f=g)))))) (∀l:Unit,qK b (aR aCH (rB g (eG (resE x k m)) b))))))) λhwf=>by
  delta eS aB gX aF aU aG cQ aN aX cU cO kS nN oB kI jE cP bM aR bW cT lN dB iO nQ aT bL eG bH mV aM qG jG qK bO qO lY aCD aCG aCE aCH aCF dV sW gA dA rB tC nW oX pX gK aDM oV aAI nJ aDH aDI;simp only[sS];simp only[RV.wfs,RV.wf,DV.wf,DV.wfs,uc]at hwf;obtain⟨⟨⟨xa0,xa1⟩,⟨xb0,xb1⟩,⟨xc0,xc1⟩,⟨xl0,xl1⟩,⟨xo0,xo1⟩,⟨xf0,xf1⟩,_⟩,⟨⟨ka0,ka1⟩,⟨kb0,kb1⟩,⟨kc0,kc1⟩,⟨kl0,kl1⟩,⟨kf0,kf1⟩,_⟩,⟨m0,m1⟩,_⟩:=hwf;have va:=zVZ x k m;have e0:resE x k m=if x.ok k m then zZy x k m else .zero:=rfl
  cases hx:x.ok k m with
  |false=>
   rw[hx]at e0 va;have e0:resE x k m=.zero:=e0;rw[e0];exact⟨va,λ_=>⟨⟨rfl,rfl,rfl,rfl,rfl⟩,rfl⟩,λh=>by cases h⟩
  |true=>
   rw[hx]at e0 va;have e0:resE x k m=zZy x k m:=e0;rw[e0];obtain⟨⟨q1,q2,q3⟩,hf,⟨q4,q5,q6,q7⟩,hk2,hk3⟩:=Ac.ok_iff.1 hx;have hm:=(zZC hf).1;have R:=λc k=>zGR c k x.own m (by omega) hm;have w1:wrap .i64 (0+1)=1:=by decide
   have w2:wrap .i64 (1+1)=2:=by decide
   have w3:wrap .i64 (2+1)=3:=by decide
   (repeat' (first|intro _|apply And.intro|refine Exists.intro () ?_))<;>first|exact va|exact R _ _|exact w1|exact w2|exact w3|exact hx|exact trivial|rfl|decide|(exfalso;contradiction)|omega
def yQU:Gam:=jYF.add []
def fH(a:List Px):DV:=DV.sl (List.length a) (pxs a)
def aHY(a:List Int):DV:=DV.sl (List.length a) (u16s a)
def vZ(a:Nat)(b:List Px):List DV:=pxs (List.take a b)
def wD(a:Nat)(b:List Px):Prop:=a<=List.length b
def aJE(a:Nat)(b:List Px)(c d:Nat):vz:=lO a (List.length b) c d
def aGJ(a:List Px):Int:=(List.length a:Int)
def aGK(a:Nat)(b:List Px)(c:Nat):Prop:=dF a (List.length b) c (pxs b)
def aAR(a:List Px)(b c d e f:Nat):Prop:=fR (cE (pxs a) b) (cE (pxs a) c) (cE (pxs a) d) (cE (pxs a) e) (cE (pxs a) f)
def aHZ(a:Prop)(b:List Px)(c:Prop):Prop:=jK a (fH b) (List.length b) c
def tJ(a:DV):RV:=RV.tup (RV.d a::sN)
def aGP(a:List DV)(b c:Nat):Px:=⟨cB a b c,iH a b c,iQ a b c,iR a b c,aY a (cR b c)⟩
theorem jZB(l:List Px)(mk:List Int)(opac m:Int)(hl:l.length<=100000)(hm:mk.length=0\/mk.length=l.length)(hok:∀j,j<l.length->(zKH (pxN l j) (ksN mk m j) opac m).2=true):Ans prog 212 [rD (dS l.length (pxs l)),rD (dS mk.length (u16s mk)),rD (dK opac),rD (dK m)] (rT [rD (dS ((scR m opac l mk).length) (pxs (scR m opac l mk))),rD (dQ true)]):=
 vv yQU (let b:=pxs l;fK (ug True (nH (iF 0 (fH l) 1 (aHY mk) (vP 2 opac 3 m []))) (pH (ui (λg=>wD g l) (λc=>yY (mP 1 (aHY mk) (vP 2 opac 3 m (iP 10 1010 c (mP 26 (fH l) (aJE 27 l 28 c))))) 1010 37 5 (vZ c (scR m opac l mk)) []) (λf=>List.length l-f) (λa=>gY (vT (gY (uh Int (λe=>e=ksN mk m a) (λd=>aDR (mP 1 (aHY mk) (vP 2 opac 3 m (iP 10 1010 a (dP 12 12 (aEM 13 d 26 (fH l) (aJE 27 l 28 a)))))) 1010 (bR 37 5 (vZ a (scR m opac l mk))) 12 (bY (fG b (aZ a 5)) (aH (fG b (cR a 5)) (fG b (gN a 5)) (fG b (hZ a 5)) (fG b (gS a 5)) []))) (λh=>aL))))))))) Tryz.func212 (let g:=scR m opac l mk;let u:=tJ (fH g);let k:=List.length l;let b:=pxs l;let e:=eQ m;let h:=eS (aHY mk);let w:=rT [rD (DV.sl 0 []),aM false]=u;let i:=List.length mk;let x:=(∃z:Unit,True/\zX (fH l) (aHY mk) (aF opac) e/\True);let r:=(i:Int);gJ (True/\uX r (aP (jN r (aGJ l)) w (dN (i:Int) (aGJ l)->x)) (bG (r !=0)->True/\x)) (∀y:Unit,iL True (∃f:Nat,dE (wD f l) (h/\cP (aF opac) e (aHZ (0=f) l (dC f))) (([]:List DV)=vZ f g)) (∀a:Nat,let d:=vZ a g;let p:=cO (cB b a 5) (iH b a 5) (iQ b a 5) (iR b a 5) (aY b (cR a 5));let q:=ksN mk m a;bL (wD a l) (aDO (dT a k) (aGK a l 5) (aAR l (aZ a 5) (cR a 5) (gN a 5) (hZ a 5) (gS a 5)) (True/\True/\True/\(rW i->True/\dY (dF a (List.length mk) 1 (u16s mk)) (kN (u16s mk) (aZ a 1)) (∃t:Int,iB (t=q) (h/\eQ opac/\e/\eC (eS a) (eS (0:Nat)) (aHZ (fG (u16s mk) (aZ a 1)=aF t) l (iS a))) d p))/\(uB i->(∃s:Int,iB (s=q) (h/\eQ opac/\e/\eC (eS a) (eS (0:Nat)) (aHZ (aF m=aF s) l (iS a))) d p))) (∀j:Int,let v:=zKH (aGP b a 5) j opac m;let n:=eG v.fst;let o:=v.snd;aE (j=q) (iT (bH 229 p (rD (aF j)::gK opac m []) (dA n o)) (aP (dV o) w (aN (bO o) (aR (zZQ 5 10 a 1 d n) (∃c:Nat,aG (wD c l) (dZ (List.length l) c a) (h/\cP (aF opac) e (jK (a+1=c) (fH l) k (bQ a c))) (d++n=vZ c g)))))))) (aN (eV a k) (tJ (DV.sl a d)=u))))) λhwf=>by
  delta eS aB aW aE iE aP dY eC aF aU aG cQ fG aN bD cO fR cP bG aR eY eQ fC aT aZ dE bQ bL dR cR gL dC rW uB eG fM bH aY dF cB dT eV iH iQ iR aM bT bU dZ gJ gN gS hZ iT iS cS cE jK iL iB bO dN jN kN dV sN zX gA dA uX gK yL aDO fH aGJ aGK aAR aHY aHZ tJ aGP vZ wD;simp only[sS,zQE];clear hwf;have hM:=ud
  refine⟨⟨λh1=>⟨λh2=>?_,λ_=>⟨(),trivial⟩⟩,λ_=>⟨(),trivial⟩⟩,⟨0,wQj _,⟨rfl,rfl⟩,rfl⟩,λk hk=>⟨λhlt=>?_,λhge=>?_⟩⟩
  .have h1:=wQQ.1 h1;have h2:=wQQ.1 h2;omega
  .have h:k<l.length:=by omega
   obtain⟨e1,e2,e3,e4,e5⟩:=zQX h;have q:=zKx h;have hw:wrap .i64 ((k:Int)+1)=((k+1:Nat):Int):=by rw[wQb _ (by omega)];omega
   have ok:=hok k h;have en:=zJN h;have hmk:0<mk.length->k<mk.length:=by omega
   simp only[e1,e2,e3,e4,e5,wQg];generalize l[k]=P at *;rw[en]at ok;refine⟨by omega,q,⟨λh1=>⟨⟨by omega,by have:=hmk (by omega);omega,by rw[zH1];exact hmk (by omega)⟩,(by rw[jWh (hmk (by omega))];exact jGi (hmk (by omega))),ksN mk m k,rfl,?_⟩,λh1=>⟨ksN mk m k,rfl,?_⟩⟩,λw hw2=>?_⟩
   .rw[jWh (hmk (by omega))];unfold ksN;rw[if_neg (by omega),List.getElem?_eq_getElem (hmk (by omega))];rfl
   .unfold ksN;rw[if_pos (by omega)]
   .have hs:k<(scR m opac l mk).length:=by rw[zJ8];exact h
    have ts:=wZm (l:=scR m opac l mk) (i:=k);rw[List.getElem?_eq_getElem hs,jGA hs,en,<-hw2]at ts;have ap:zZQ 5 10 k 1 (pxs ((scR m opac l mk).take k)) (Px.ds (zKH P w opac m).1):=⟨by rw[zQE,wQl,wQM (by omega)],rfl,hM _ (by omega),by omega⟩
    rw[<-hw2]at ok;refine⟨jZD P w opac m,λh1=>(by rw[ok]at h1;cases h1),λ_=>⟨ap,k+1,by omega,by omega,⟨rfl,hw⟩,?_⟩⟩;rw[ts,<-zJB];rfl
  .have:k=l.length:=by omega
   subst this;rw[wQR (by rw[zJ8];omega)];exact⟨(zJ8 _ _ _ _).symm,rfl⟩
def aDX(a:List Ac):DV:=DV.sl (List.length a) (acs a)
def aEN(a:Nat)(b:List Ac):List DV:=acs (List.take a b)
def vV(a b:Prop)(c:Nat)(d:Prop):Prop:=aG a b (eS (fC c)) d
def kC(a:List Ac)(b:Nat):Prop:=cE (acs a) b
def aEO(a:Nat)(b:List Ac)(c:Nat):Prop:=kC (List.take a b) c
theorem jXW(kno:Bool)(op mode m:Int)(l:List Px)(acc:List Ac)(back:List Px)(hl:l.length<=100000)(ha:acc.length=l.length)(hb:back.length=l.length)(ho:isNm op=true)(hmo:isNm mode=true)(hok:∀j,j<l.length->zXu kno op mode m (pxN l j) (acN acc j) (pxN back j)=true):Ans prog 214 [rD (dQ kno),rJ (op),rJ (mode),rD (dK m),rD (dS l.length (pxs l)),rD (dS acc.length (acs acc)),rD (dS back.length (pxs back))] (rT [rD (dS ((stR kno op mode m l acc back).length) (acs (stR kno op mode m l acc back))),rD (dQ true)]):=
 vv yQU (let c:=stR kno op mode m l acc back;fK (ug True (nH (aEX 0 kno (aDJ op mode (aEM 3 m 4 (fH l) (iF 5 (aDX acc) 6 (fH back) []))))) (pH (ui (λg=>wD g l) (λb=>yY (aEX 0 kno (aDJ op mode (aEM 3 m 4 (fH l) (iF 5 (aDX acc) 6 (fH back) (iP 16 1016 b (aJE 33 l 34 b)))))) 1016 199 6 (aEN b c) []) (λf=>List.length l-f) (λa=>gI (vT (uh Bool (λe=>e=true->yYl l acc back a) (λd=>yY (aEX 0 kno (aDJ op mode (aEM 3 m 4 (fH l) (iF 5 (aDX acc) 6 (fH back) (iP 16 1016 a (zF 17 a 33 (List.length l) (xM 34 a 74 (DV.bool d) []))))))) 1016 199 6 (aEN a c) []) (λh=>aL)))))))) Tryz.func214 (let A:=tJ (aDX (stR kno op mode m l acc back));let f:=stR kno op mode m l acc back;let t:=List.length l;let d:=pxs back;let b:=acs acc;let e:=pxs l;let k:=List.length l;let u:=eS (fH back);let n:=eS (aDX acc);let o:=eS (fH l);let h:=eQ m;let p:=bM op;let q:=DV.bool kno;let R:=rT [rD (DV.sl 0 []),aM false];let v:=List.length acc;let Z:=iS t;let z4:=R=A;let z5:=(v:Int);gJ (bI (fU (dN (aGJ l) z5) (aP (jN (aGJ l) (aGJ back)) z4 (dN (aGJ l) (aGJ back)->(∃z7:Unit,True/\(tU kno/\fX op mode (aG h (eS (fH l)) (eS (aDX acc)) u))/\True))) (aN (kP (aGJ l) z5) z4))) (∀z6:Unit,iL True (∃s:Nat,dE (wD s l) (cP q p (nP mode h o n (vV u (0=s) k (dC s)))) (([]:List DV)=aEN s f)) (∀a:Nat,let c:=aEN a f;let B:=aY b (gN a 6);let C:=aY b (cR a 6);let D:=iR b a 6;let E:=iQ b a 6;let F:=iH b a 6;let G:=cB b a 6;let Q:=(⟨G,F,E,D,C,B⟩:Ac);let H:=pX (zUr kno op mode m (aGP e a 5) Q (aGP d a 5));let I:=zXu kno op mode m (aGP e a 5) Q (aGP d a 5);let S:=aY d (cR a 5);let T:=aY e (cR a 5);let U:=aAR back (aZ a 5) (cR a 5) (gN a 5) (hZ a 5) (gS a 5);let V:=eW (kC acc (aZ a 6)) (kC acc (cR a 6)) (kC acc (gN a 6)) (kC acc (hZ a 6)) (kC acc (gS a 6)) (kC acc (pO a 6));let W:=aAR l (aZ a 5) (cR a 5) (gN a 5) (hZ a 5) (gS a 5);let g:=gT a;let J:=aW g 6;let w:=bT J;let x:=J+1;let r:=gT a;let X:=nW (eF c r 6) (aCZ c a 6) (aDA c a 6) (aDB c a 6) (aY c x) (aY c w);let Y:=bU J;let K:=yYl l acc back a;let L:=(∃O:Bool,gV (O=true->K) (cP q p (nP mode h o n (qV (fH back) (eS a) (iS a) Z (aT (iS a) (jH false O))))) c);let M:=aW g 5;let y:=M+1;let z0:=uL (uL (cB e a 5==eF e r 5) (iH e a 5==aCZ e a 5) (iQ e a 5==aDA e a 5)) (iR e a 5==aDB e a 5) (T==aY e y);let z1:=aIE (uL (G==eF b r 6) (F==aCZ b a 6) (E==aDA b a 6)) (D==aDB b a 6) (C==aY b x) (B==aY b w) true;let z2:=bU M;let z3:=bT M;bL (wD a l) (bP (dT a t) (yM (rW a) (dY (aGK a l 5) W (True/\True/\iE g t 5 e/\aAR l (aW g 5) y z3 (rH g 5) z2/\cS z0 (dY (dF a v 6 b) V (aBE (iE g v 6 b) (eW (kC acc (aW g 6)) (kC acc x) (kC acc w) (kC acc (rH g 6)) (kC acc Y) (kC acc (tB g 6))) (z1=true->aBE (aGK a back 5) U (iE g (List.length back) 5 d) (aAR back (aW g 5) y z3 (rH g 5) z2/\True/\True/\eS true/\(∃P:Bool,gV (P=true->K) (cP q p (nP mode h o n (qV (fH back) (eS a) (iS a) Z (aT (iS a) (jH (uL (uL (cB d a 5==eF d r 5) (iH d a 5==aCZ d a 5) (iQ d a 5==aDA d a 5)) (iR d a 5==aDB d a 5) (S==aY d y)) P))))) c))) (bL (bG z1) (eS true) L))) (fJ (bG z0) (eS true) L))) (bG (decide ((a:Int)>0))) (kV L)) (∀z:Bool,(z=true->K)->aN (z=true) (dY (gU r a) (eW (aEO a f (aW g 6)) (aEO a f x) (aEO a f w) (aEO a f (rH g 6)) (aEO a f Y) (aEO a f (tB g 6))) (aR (zZQ 6 12 a 1 c X) (∃j:Nat,aG (wD j l) (dZ k j a) (cP q p (nP mode h o n (vV u (a+1=j) k (bQ a j)))) (c++X=aEN j f))))/\aN (z=false) (True/\True/\True/\aGK a l 5/\W/\True/\True/\dF a v 6 b/\V/\True/\True/\aGK a back 5/\eY U (Ans prog 230 (aM kno::aV op::aV mode::rD (aF m)::rA (cO (cB e a 5) (iH e a 5) (iQ e a 5) (iR e a 5) T)::rA (nW G F E D C B)::gB (cO (cB d a 5) (iH d a 5) (iQ d a 5) (iR d a 5) S)) (dA H I)) (fT (eS true) (aE (dV I) (R=A)) (aN (bO I) (aR (zZQ 6 12 a 1 c H) (∃i:Nat,aG (wD i l) (dZ k i a) (cP q p (nP mode h o n (vV u (a+1=i) k (bQ a i)))) (c++H=aEN i f)))))))) (aN (eV a t) (tJ (DV.sl a c)=A))))) λhwf=>by
  delta eS aB aV aW aE iE aP dY aF aU aG cQ fG aN cO cN gB fR fJ cP bM nP bG bP aR eY eQ kV tU fC aT gD aZ dE gU bQ bL eF cR gL dC rW fM aY dF fT fU cB dT eV iH iQ iR aBE aM bT bU jH bI fX dZ gJ gN gS hZ iS gT pO cS cE iL eW bO dN jN dV uL kP qV sN gV gA dA aCZ aDA aDB rH tB yM nW oX pX fH aGJ aGK aAR aDX tJ aGP vV kC wD aEN aEO aIE;simp only[sS];clear hwf;have hM:=ud
  have pxe:∀p q:Px,((p.a==q.a&&(p.b==q.b&&(p.c==q.c&&true)))&&(p.al==q.al&&(p.f==q.f&&true)))=true->p=q:=λp q h=>by
   simp only[wQd,wZt,and_true]at h;obtain⟨a,b,c,d,e⟩:=p;obtain⟨a',b',c',d',e'⟩:=q;simp only at h;obtain⟨⟨h1,h2,h3⟩,h4,h5⟩:=h;rw[h1,h2,h3,h4,h5]
  have ace:∀p q:Ac,((p.a==q.a&&(p.b==q.b&&(p.c==q.c&&true)))&&(p.al==q.al&&(p.own==q.own&&(p.f==q.f&&true))))=true->p=q:=λp q h=>by
   simp only[wQd,wZt,and_true]at h;obtain⟨a,b,c,d,e,g⟩:=p;obtain⟨a',b',c',d',e',g'⟩:=q;simp only at h;obtain⟨⟨h1,h2,h3⟩,h4,h5,h6⟩:=h;rw[h1,h2,h3,h4,h5,h6]
  have ebad:∀h:¬(acc.length=l.length/\back.length=l.length),(0=(stR kno op mode m l acc back).length/\[]=acs (stR kno op mode m l acc back))/\false=true:=λh=>absurd ⟨ha,hb⟩ h;refine⟨⟨λh1=>⟨λh2=>ebad (by have:=wQQ.1 h2;omega),λ_=>⟨(),trivial⟩⟩,λh1=>ebad (by have:=wQQ.1 h1;omega)⟩,⟨0,wQj _,⟨rfl,rfl⟩,rfl⟩,λk hk=>⟨λhlt=>?_,λhge=>?_⟩⟩
  .have h:k<l.length:=by omega
   have h':k<acc.length:=by omega
   have h'':k<back.length:=by omega
   have w1:wrap .i64 ((k:Int)+1)=((k+1:Nat):Int):=by rw[wQb _ (by omega)];omega
   have hs:k<(stR kno op mode m l acc back).length:=by rw[jVf];exact h
   have ts:=wZm (l:=stR kno op mode m l acc back) (i:=k);rw[List.getElem?_eq_getElem hs,yZu hs]at ts;have tl:((stR kno op mode m l acc back).take k).length=k:=by rw[wQl,wQM (by omega)]
   have ok:=hok k h;have ap:∀x:Ac,zZQ 6 12 k 1 (acs ((stR kno op mode m l acc back).take k)) (Ac.ds x):=λx=>⟨by rw[zYp,tl],rfl,hM _ (by omega),by omega⟩
   have nx:∀x:Ac,x=accS kno op mode m (pxN l k) (acN acc k) (pxN back k)->∃k',k'<=l.length/\l.length-k'<l.length-k/\(k+1=k'/\wrap .i64 ((k:Int)+1)=(k':Int))/\acs ((stR kno op mode m l acc back).take k)++Ac.ds x=acs ((stR kno op mode m l acc back).take k'):=λx hx=>⟨k+1,by omega,by omega,⟨rfl,w1⟩,by rw[ts,<-hx,<-jU5];rfl⟩
   clear ts;refine⟨⟨λh0=>?_,λh0=>⟨false,λq=>(by cases q),rfl⟩⟩,λc hc=>⟨λhc1=>?_,λhc1=>?_⟩⟩
   .obtain⟨j,rfl⟩:∃j,k=j+1:=⟨k-1,by omega⟩
    have wj:wrap .i64 (((j+1:Nat):Int)-1)=(j:Int):=by rw[wQb _ (by omega)];omega
    have g:j<l.length:=by omega
    have g':j<acc.length:=by omega
    have g'':j<back.length:=by omega
    obtain⟨e1,e2,e3,e4,e5⟩:=zQX h;obtain⟨f1,f2,f3,f4,f5⟩:=zQX g;obtain⟨a1,a2,a3,a4,a5,a6⟩:=jZs h';obtain⟨b1,b2,b3,b4,b5,b6⟩:=jZs g';obtain⟨c1,c2,c3,c4,c5⟩:=zQX h'';obtain⟨d1,d2,d3,d4,d5⟩:=zQX g'';simp only[Nat.add_zero]at a1 b1;simp only[wj,wQp,e1,e2,e3,e4,e5,f1,f2,f3,f4,f5,a1,a2,a3,a4,a5,a6,b1,b2,b3,b4,b5,b6,c1,c2,c3,c4,c5,d1,d2,d3,d4,d5];have R1:=zKx h;have R2:=zKx g;have R3:=jZr h';have R4:=jZr g';have R5:=zKx h'';have R6:=zKx g'';simp only[Nat.add_zero]at R3 R4;have n1:=zJN h;have n2:=zJN g;have n3:=jXN h';have n4:=jXN g';have n5:=zJN h'';have n6:=zJN g'';refine⟨⟨by omega,by omega,by rw[zQE];omega⟩,R1,⟨by omega,by omega,by rw[zQE];omega⟩,R2,λq1=>⟨⟨by omega,by omega,by rw[zYp];omega⟩,R3,⟨by omega,by omega,by rw[zYp];omega⟩,R4,λq2=>⟨⟨by omega,by omega,by rw[zQE];omega⟩,R5,⟨by omega,by omega,by rw[zQE];omega⟩,R6,_,λq3=>?_,rfl⟩,λ_=>⟨false,λq=>(by cases q),rfl⟩⟩,λ_=>⟨false,λq=>(by cases q),rfl⟩⟩;have z1:=pxe _ _ q1;have z2:=ace _ _ q2;have z3:=pxe _ _ q3;exact⟨by omega,by rw[n1,wZE,n2,z1],by rw[n3,wZE,n4,z2],by rw[n5,wZE,n6,z3]⟩
   .obtain⟨k0,s1,s2,s3⟩:=hc hc1;obtain⟨j,rfl⟩:∃j,k=j+1:=⟨k-1,by omega⟩
    have wj:wrap .i64 (((j+1:Nat):Int)-1)=(j:Int):=by rw[wQb _ (by omega)];omega
    rw[wZE]at s1 s2 s3;have hj:j<((stR kno op mode m l acc back).take (j+1)).length:=by rw[tl];omega
    obtain⟨a1,a2,a3,a4,a5,a6⟩:=jZs hj;have R:=jZr hj;have ev:((stR kno op mode m l acc back).take (j+1))[j]=accS kno op mode m (pxN l (j+1)) (acN acc (j+1)) (pxN back (j+1)):=by rw[List.getElem_take,yZu,s1,s2,s3]
    simp only[Nat.add_zero]at a1 R;simp only[wj,wQp,a1,a2,a3,a4,a5,a6];exact⟨by omega,R,ap _,nx _ ev⟩
   .obtain⟨e1,e2,e3,e4,e5⟩:=zQX h;obtain⟨a1,a2,a3,a4,a5,a6⟩:=jZs h';obtain⟨c1,c2,c3,c4,c5⟩:=zQX h'';simp only[Nat.add_zero]at a1;simp only[e1,e2,e3,e4,e5,a1,a2,a3,a4,a5,a6,c1,c2,c3,c4,c5];have R1:=zKx h;have R3:=jZr h';have R5:=zKx h'';simp only[Nat.add_zero]at R3;have n1:=zJN h;have n3:=jXN h';have n5:=zJN h'';have se:zUr kno op mode m l[k] acc[k] back[k]=accS kno op mode m (pxN l k) (acN acc k) (pxN back k):=by
     rw[n1,n3,n5]at ok |-;unfold zUr;rw[if_pos ok]
    have S:=jZM kno op mode m l[k] acc[k] back[k] ho hmo;rw[n1,n3,n5]at ok;refine⟨⟨by omega,by omega,by rw[zQE];omega⟩,R1,⟨by omega,by omega,by rw[zYp];omega⟩,R3,⟨by omega,by omega,by rw[zQE];omega⟩,R5,S,λq=>(by rw[ok]at q;cases q),λ_=>⟨ap _,nx _ se⟩⟩
  .have:k=l.length:=by omega
   subst this;rw[wQR (by rw[jVf];omega)];exact⟨(jVf _ _ _ _ _ _ _).symm,rfl⟩
def aAS(a:Nat)(b:List Ac):Prop:=a<=List.length b
theorem zVC(acc:List Ac)(back:List Px)(m:Int)(hl:acc.length<=100000)(hb:back.length=acc.length)(hok:∀j,j<acc.length->(acN acc j).ok (pxN back j) m=true):Ans prog 158 [rD (dS acc.length (acs acc)),rD (dS back.length (pxs back)),rD (dK m)] (rT [rD (dS ((rsR m acc back).length) (pxs (rsR m acc back))),rD (dQ true)]):=
 vv yQU (let b:=List.length acc;fK (ug True (nH (iF 0 (aDX acc) 1 (fH back) (tD 2 m []))) (pH (ui (λd=>aAS d acc) (λa=>yY (oF 0 b (acs acc) (iF 1 (fH back) 2 (aF m) (iP 8 1008 a (lO 18 b 19 a)))) 1008 37 5 (vZ a (rsR m acc back)) []) (λc=>b-c) (λe=>aL))))) Tryz.func158 (let g:=rsR m acc back;let h:=tJ (fH g);let b:=List.length acc;let d:=pxs back;let c:=acs acc;let p:=rT [rD (DV.sl 0 []),aM false];gJ (True/\True/\aP (jN (b:Int) (aGJ back)) (p=h) (dN (b:Int) (aGJ back)->(∃r:Unit,True/\dE (eS (aDX acc)) (eS (fH back)) (eQ m)/\True))) (∀q:Unit,iL True (∃f:Nat,dE (aAS f acc) (cP (aDX acc) (eS (fH back)) (vV (eQ m) (0=f) b (dC f))) (([]:List DV)=vZ f g)) (∀a:Nat,let i:=vZ a g;let l:=aY c (gN a 6);let n:=aY c (cR a 6);let o:=(⟨cB c a 6,iH c a 6,iQ c a 6,iR c a 6,n,l⟩:Ac);let j:=eG (resE o (aGP d a 5) m);let k:=Ac.ok o (aGP d a 5) m;bL (aAS a acc) (aE (dT a b) (True/\True/\dF a b 6 c/\eW (kC acc (aZ a 6)) (kC acc (cR a 6)) (kC acc (gN a 6)) (kC acc (hZ a 6)) (kC acc (gS a 6)) (kC acc (pO a 6))/\True/\True/\aGK a back 5/\aAR back (aZ a 5) (cR a 5) (gN a 5) (hZ a 5) (gS a 5)/\aX (bH 109 (nW (cB c a 6) (iH c a 6) (iQ c a 6) (iR c a 6) n l) (rA (cO (cB d a 5) (iH d a 5) (iQ d a 5) (iR d a 5) (aY d (cR a 5)))::oB m) (dA j k)) (fT (eS true) (aE (dV k) (p=h)) (aN (bO k) (aR (zZQ 5 10 a 1 i j) (∃e:Nat,aG (aAS e acc) (dZ b e a) (cP (aDX acc) (eS (fH back)) (vV (eQ m) (a+1=e) b (bQ a e))) (i++j=vZ e g))))))) (aN (eV a b) (tJ (DV.sl a i)=h))))) λhwf=>by
  delta eS aB aW aE iE aP aF aU aG cQ fG aN aX cO fR oB cP aR eQ fC aT aZ dE bQ bL cR dC eG fM bH aY dF fT cB dT eV iH iQ iR aM bT bU dZ gJ gN gS hZ pO cE iL eW bO dN jN dV sN gA dA nW fH aGJ aGK aAR aDX tJ aAS aGP vV vZ kC;simp only[sS];clear hwf;have hM:=ud
  refine⟨⟨λh1=>absurd hb (by have:=wQQ.1 h1;omega),λ_=>⟨(),trivial⟩⟩,⟨0,wQj _,⟨rfl,rfl⟩,rfl⟩,λk hk=>⟨λhlt=>?_,λhge=>?_⟩⟩
  .have h':k<acc.length:=by omega
   have h'':k<back.length:=by omega
   have w1:wrap .i64 ((k:Int)+1)=((k+1:Nat):Int):=by rw[wQb _ (by omega)];omega
   have hs:k<(rsR m acc back).length:=by rw[zGw];exact h'
   have ts:=wZm (l:=rsR m acc back) (i:=k);rw[List.getElem?_eq_getElem hs,jGD hs]at ts;have tl:((rsR m acc back).take k).length=k:=by rw[wQl,wQM (by omega)]
   have ok:=hok k h';have ap:∀x:Px,zZQ 5 10 k 1 (pxs ((rsR m acc back).take k)) (Px.ds x):=λx=>⟨by rw[zQE,tl],rfl,hM _ (by omega),by omega⟩
   have nx:∀x:Px,x=zZy (acN acc k) (pxN back k) m->∃k',k'<=acc.length/\acc.length-k'<acc.length-k/\(k+1=k'/\wrap .i64 ((k:Int)+1)=(k':Int))/\pxs ((rsR m acc back).take k)++Px.ds x=pxs ((rsR m acc back).take k'):=λx hx=>⟨k+1,by omega,by omega,⟨rfl,w1⟩,by rw[ts,<-hx,<-zJB];rfl⟩
   clear ts;obtain⟨a1,a2,a3,a4,a5,a6⟩:=jZs h';obtain⟨c1,c2,c3,c4,c5⟩:=zQX h'';simp only[Nat.add_zero]at a1;simp only[a1,a2,a3,a4,a5,a6,c1,c2,c3,c4,c5];have R3:=jZr h';have R5:=zKx h'';simp only[Nat.add_zero]at R3;have n3:=jXN h';have n5:=zJN h'';rw[n3,n5]at ok nx;have se:resE acc[k] back[k] m=zZy acc[k] back[k] m:=by unfold resE;rw[if_pos ok]
   exact⟨⟨by omega,by omega,by rw[zYp];omega⟩,R3,⟨by omega,by omega,by rw[zQE];omega⟩,R5,zHD acc[k] back[k] m,λq=>(by rw[ok]at q;cases q),λ_=>⟨ap _,nx _ se⟩⟩
  .have:k=acc.length:=by omega
   subst this;rw[wQR (by rw[zGw];omega)];exact⟨(zGw _ _ _).symm,rfl⟩
end
end Go.Proofs.YtbnmadpcdlnleaaGreatDoor
