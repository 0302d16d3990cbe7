/-
  Part 5 of what TopOneStepIsHalfAUnit rests on.
-/
import Derived.Test.YtbnmadpcdlnleaaGreatDoorTopOneStepIsHalfAUnitZ4
namespace Go.Proofs.YtbnmadpcdlnleaaGreatDoor
open Go.IntKind (wrap)
open Go.RowKit
set_option linter.unusedVariables false
set_option linter.unusedSimpArgs false
set_option maxRecDepth 20000
open Go.Proofs.Tryz (prog)
section
attribute [local irreducible] Ans AnsO AnsG AnsN AnsI
def yQQ:Gam:=yQR.add []
abbrev wYt:=@Int.mul_assoc
theorem zKL (v m:Int) (x:Iv) (n:Int) (hx:x.un) (h1:m*x.lo<=v*1099511627776) (h2:v*1099511627776<=m*x.hi) (h3:n=1):Ans prog 20 [rD (dK v),rD (dK m),rA [dJ x.lo,dJ x.hi],rJ (n)] (rD (dQ true)):=
 zQa (Γ:=yQQ) aL zQb Tryz.func20 rfl (nL rfl) λhwf=>by
  refine Eq.mpr (by kernel_rfl:_=(let a:=bJ 2 (bH m);let c:=a*bH x.lo;let d:=fS c;let e:=iL (2*aI v) n;let f:=bH e;let g:=fS (f*1099511627776);let h:=cX (f*1099511627776);let i:=kV (bF 60 h [jY c] (wI g d)) (aB (decide (cmpI g d>=0))=aB true);let j:=eY 1099511627776;let k:=fR 59 (bI e) j h;let b:=aX (aI (2*aI v)) n;let l:=a*bH x.hi;let o:=fS l;let p:=bH b;let q:=fS (p*1099511627776);let r:=cmpI q o;let s:=cX (p*1099511627776);let t:=bI (2*bH m);uD (bV (fR 59 t [bI x.lo] (cX (a*bH x.lo))) (aH (fR 59 t [bI x.hi] (cX (a*bH x.hi))) (dA (bS (fU b 0 (True/\fR 59 (bI b) j s/\True/\bF 60 s [jY l] (wI q o)/\True/\True/\eS true/\(xI r=true->True/\aB false=aB true)/\(gT r 0->True/\True/\True/\True/\aH k i)) (bL (uC (xI b)) (eS true) (jC k i))))))))) ?_;delta eS aI aH aX dA fU bL gT bF bV iL aB bS kV wI cE bH aR gH cX bJ bI jY eY uC uD fR jC fS xI;simp only [sS];simp only [RV.wfs,RV.wf,DV.wf,DV.wfs] at hwf;have mi:IntKind.min .i64 = -9223372036854775808:=rfl;have ma:IntKind.max .i64=9223372036854775807:=rfl;have mj:IntKind.min .u16=0:=rfl;have mb:IntKind.max .u16=65535:=rfl;simp only [mi,ma,mj,mb] at hwf;obtain ⟨⟨v0,v1⟩,⟨m0,m1⟩,_⟩:=hwf;subst h3;obtain ⟨x0,x1,x2⟩:=hx;have e1:wrap .i64 v=v:=zVZ (by omega) (by omega);have e2:wrap .i64 (2*v)=2*v:=zVZ (by omega) (by omega);have e3:wrap .i64 (2*v-1)=2*v-1:=zVZ (by omega) (by omega);have e4:wrap .i64 (2*v+1)=2*v+1:=zVZ (by omega) (by omega);have u1:wrap .u64 m=m:=wQd _ ⟨by omega,by omega⟩;have u2:wrap .u64 (2*m)=2*m:=wQd _ ⟨by omega,by omega⟩;have u3:wrap .u64 x.lo=x.lo:=wQd _ ⟨by omega,by omega⟩;have u4:wrap .u64 x.hi=x.hi:=wQd _ ⟨by omega,by omega⟩;have u5:wrap .u64 (2*v+1)=2*v+1:=wQd _ ⟨by omega,by omega⟩;have M:=zWl;have C:=λa b=>zH8 (hiW a) (loW a) (hiW b) (loW b);simp only [zYh] at C;simp only [e1,e2,e3,e4,u1,u2,u3,u4,u5,zYh];have c1:∀ a b:Int,a<=b->¬ cmpI a b>0:=λa b h=>by unfold cmpI; split<;>(try split)<;>omega
  have c2:∀ a b:Int,b<=a->cmpI a b>=0:=λa b h=>by unfold cmpI; split<;>(try split)<;>omega
  have L:2*m*x.lo<=(2*v+1)*1099511627776:=by rw [wYt]; omega
  have H:(2*v-1)*1099511627776<=2*m*x.hi:=by rw [wYt]; omega
  refine ⟨M _ _,M _ _,λhp=>?_,λhp=>⟨M _ _,C _ _,c2 _ _ L⟩⟩;rw [wQd (2*v-1) ⟨by omega,by omega⟩];exact ⟨M _ _,C _ _,λh=>absurd h (c1 _ _ H),λ_=>⟨M _ _,C _ _,c2 _ _ L⟩⟩
end
def upB (x:Ex) (f:Int):Bool:=decide ((2*f+1)*x.d<=x.up 2)
theorem jV6 {x:Ex} (h:x.ok) {k:Int} (hk:0<=k):k+2*x.p<=x.up 2↔k*k<=4*(x.q*x.q*x.r):=by
 have hn:0<=x.q*x.q*x.r:=Int.mul_nonneg (zQ6 _) h.r;have e2:(2*x.q)*(2*x.q)*x.r=4*(x.q*x.q*x.r):=by grind
 unfold Ex.up;rw [e2,<- jZW (by omega) hk];omega
theorem yQq {x:Ex} (h:x.ok) {n:Int} (hk:n<2*x.p):n<=x.up 2:=by
 have hn:0<=x.q*x.q*x.r:=Int.mul_nonneg (zQ6 _) h.r;have e2:(2*x.q)*(2*x.q)*x.r=4*(x.q*x.q*x.r):=by grind
 unfold Ex.up;rw [e2];have:=(zYY (n:=4*(x.q*x.q*x.r)) (by omega)).1;omega
theorem jV7 {x:Ex} (h:x.ok) {m:Int} (hm:0<=m):2*m+2*x.p<=x.up 2↔m*m<=x.q*x.q*x.r:=by
 rw [jV6 h (by omega)];have:2*m*(2*m)=4*(m*m):=by grind
 omega
theorem yQp {x:Ex} (h:x.ok) {m:Int} (hm:0<=m):2*m+1+2*x.p<=x.up 2↔m*m+m<x.q*x.q*x.r:=by
 rw [jV6 h (by omega)];have:(2*m+1)*(2*m+1)=4*(m*m)+4*m+1:=by grind
 omega
theorem yQr {x:Ex} (h:x.ok) {m:Int} (hm:18446744073709551616<=m) (hs:x.q*x.q*x.r<340282366920938463463374607431768211456):¬ 2*m+2*x.p<=x.up 2:=by
 rw [jV7 h (by omega)];have:(18446744073709551616:Int)*18446744073709551616<=m*m:=wQx hm hm (by decide) (by omega);omega
def zJ8 (s a d b:Int):Ex:=if d=0 then zZj 0 else if d*a>=b*(a-s) then zZj (a*b) else ⟨a*a*d,0,0,a-s⟩
def zW2 (s a d b:Int):Ex:=if d=b then zZj (a*b) else if (b-d)*a>=s*b then zZj 0 else ⟨a*b*s-(b-d)*a*a,0,0,s⟩
def zHx (s a d b:Int) (tw:Bool):Int:=if tw then 2*s*d else a*b-2*(b-d)*(a-s)
theorem jJU (s a d b:Int):zHx s a d b (decide (2*s<=a))=zKs s a d b:=by
 unfold zHx zKs;by_cases h:2*s<=a
 ·rw [if_pos h,if_pos (decide_eq_true h)]
 ·rw [if_neg h,if_neg (by simpa using h)]
theorem jJV (s a d b:Int):zHx s a d b (decide (2*d<=b))=zKs d b s a:=by
 unfold zHx zKs;by_cases h:2*d<=b
 ·rw [if_pos h,if_pos (decide_eq_true h)]; grind
 ·rw [if_neg h,if_neg (by simpa using h)]; grind
def facF (f a m:Int):Int:=if f=1 then m else if f=2 then a else if f=3 then m-a else 0
theorem yQZ {op:Int} (h:1<=op/\op<13) (a b m:Int):facF (zX4 op 1) b m=facA op a b m/\facF (zX4 op 2) a m=facB op a b m:=by
 rcases zYT h with rfl | rfl | rfl | rfl | rfl | rfl | rfl | rfl | rfl | rfl | rfl | rfl<;>exact ⟨rfl,rfl⟩
def shpF (r f g m:Int):Int:=if r=1 then f else if r=2 then g else if r=3 then zZb (m*f+(m-f)*g) m else if r=4 then zZb (f*g) m else 0
theorem yQt {op:Int} (h:1<=op/\op<13) (f g m:Int):shpF (zX4 op 3) f g m=zYz op f g m:=by
 rcases zYT h with rfl | rfl | rfl | rfl | rfl | rfl | rfl | rfl | rfl | rfl | rfl | rfl<;>rfl
section
attribute [local irreducible] Ans AnsO AnsG AnsN AnsI
def jVJ:Gam:=yQQ.add [.p 313 (λ| [.d (.int _ x)]=>some (rJ (lenS x)) | _=>none),
 .p 311 (λ| [.d (.int _ x)]=>some (rJ (64-lenS x)) | _=>none),
 .p 308 (λ| [.d (.int _ hi),.d (.int _ lo),.d (.int _ y)]=>some (RV.tup [RV.d (DV.int .u64 (wV hi lo / y)),RV.d (DV.int .u64 (wV hi lo%y))]) | _=>none)]
def nY (a:Int):DV:=DV.int IntKind.u32 a
def aDA (a:Int × Int):Nat:=Int.toNat a.snd
def xZ (a:Int × Int) (b:Prop):Prop:=0<=a.fst/\0<=a.snd/\b
def lQ (a:Int):Int:=wrap IntKind.u32 a
def aDB (a:Int):RV:=RV.d (nY (lQ a))
def aDC (a:Int):RV:=RV.d (nY (zZb a 255))
abbrev wXB:=@IntWalk.u32_in
theorem zXp (n:Int):Ans prog 118 [rD (DV.int .u32 n)] (rD (DV.int .u32 (zZb n 255))):=
 zQa (Γ:=jVJ) (dZ (pE (Ann.loop (Inv.mk (Int × Int) (λ(a:Int × Int)=>xZ a (a.fst*255+a.snd=n)) (λ(b:Int × Int)=>uN (sT 0 (nY b.snd) 3 (nY b.fst) [])) (λ(c:Int × Int)=>aDA c)) (λ(d:Int × Int)=>aL)))) zQb Tryz.func118 rfl (nL rfl) λhwf=>by
  refine Eq.mpr (by kernel_rfl:_=(fZ (∃ d:Int × Int,aW (xZ d (d.fst*255+d.snd=n)) (aW (nY n=nY d.snd) (nY 0=nY d.fst))) (∀ c:Int × Int,let a:=c.snd;let e:=decide (a>255);let f:=Int.fdiv a (HPow.hPow (2:Int) (Min.min (Int.toNat 8) (32:Nat)));qX (xZ c (c.fst*255+a=n)) (e=true->True/\True/\(0:Int)<=8/\bV ((0:Int)<=8) (∃ b:Int × Int,bK (xZ b (b.fst*255+b.snd=n)) (aDA b<aDA c) (aW (nY (lQ (f+lQ (BitVec.toNat (HAnd.hAnd (BitVec.ofInt 32 a) (BitVec.ofInt 32 255)):Int)))=nY b.snd) (nY (lQ (c.fst+f))=nY b.fst)))) (cR e (aBA a 128 (bX (aDB (c.fst+1)) (aDC n))) (kX a 128->True/\True/\rD (nY c.fst)=aDC n))))) ?_;delta eS bX qX aW bK cR bV fZ kX aBA nY aDA xZ lQ aDB aDC;simp only [sS];simp only [RV.wfs,RV.wf,DV.wf,DV.wfs] at hwf;have mi:IntKind.min .u64=0:=rfl;have ma:IntKind.max .u64=18446744073709551615:=rfl;have mj:IntKind.min .u32=0:=rfl;have mb:IntKind.max .u32=4294967295:=rfl;simp only [mi,ma,mj,mb] at hwf;have f8:∀ a:Int,0<=a->Int.fdiv a (2 ^ min (Int.toNat 8) 32)=a / 256:=λa ha=>by
   rw [show ((2:Int) ^ min (Int.toNat 8) 32)=256 from by decide];exact wQU _ (by omega)
  refine ⟨⟨(0,n),⟨by omega,by omega,by omega⟩,rfl,rfl⟩,λz ⟨h0,h1,h2⟩=>⟨λhc=>?_,λhc=>⟨λhd=>?_,λhd=>?_⟩⟩⟩
  ·obtain ⟨a,b⟩:=z;simp only at h0 h1 h2 hc |-;rw [f8 b h1,yQh h1 (by omega)];rw [wXB (b%256) ⟨by omega,by omega⟩,wXB (a+b / 256) ⟨by omega,by omega⟩,wXB (b / 256+b%256) ⟨by omega,by omega⟩];exact ⟨by decide,by decide,(a+b / 256,b / 256+b%256),⟨by simp only; omega,by simp only; omega,by simp only; omega⟩,by simp only; omega,rfl,rfl⟩
  ·obtain ⟨a,b⟩:=z;simp only at h0 h1 h2 hc hd |-;rw [<- h2,jUc h1 (by omega),if_pos (by omega),wXB _ ⟨by omega,by omega⟩]
  ·obtain ⟨a,b⟩:=z;simp only at h0 h1 h2 hc hd |-;rw [<- h2,jUc h1 (by omega),if_neg (by omega)]
def aLZ (a:Nat) (b:Int) (c:Nat) (d:DV) (e:List (Nat × AV)):List (Nat × AV):=sT a (cE b) c d e
def zI (a:Nat) (b:Int) (c:Nat) (d:Int) (e:List (Nat × AV)):List (Nat × AV):=aLZ a b c (cE d) e
def aDD (a:Int):RV:=aR (zZb a 65535)
theorem zXB (n:Int):Ans prog 119 [rD (DV.int .u64 n)] (rD (DV.int .u64 (zZb n 65535))):=
 zQa (Γ:=jVJ) (dZ (pE (Ann.loop (Inv.mk (Int × Int) (λ(a:Int × Int)=>xZ a (a.fst*65535+a.snd=n)) (λ(b:Int × Int)=>uN (zI 0 b.snd 3 b.fst [])) (λ(c:Int × Int)=>aDA c)) (λ(d:Int × Int)=>aL)))) zQb Tryz.func119 rfl (nL rfl) λhwf=>by
  refine Eq.mpr (by kernel_rfl:_=(fZ (∃ d:Int × Int,aW (xZ d (d.fst*65535+d.snd=n)) (aW (cM n d.snd) (cM 0 d.fst))) (∀ c:Int × Int,let a:=c.snd;let e:=decide (a>65535);qX (xZ c (c.fst*65535+a=n)) (e=true->True/\True/\(0:Int)<=16/\bV ((0:Int)<=16) (∃ b:Int × Int,bK (xZ b (b.fst*65535+b.snd=n)) (aDA b<aDA c) (aW (cM (bH (jI a 16+jX (aFM a 65535))) b.snd) (cM (bH (c.fst+jI a 16)) b.fst)))) (cR e (aBA a 32768 (bX (bI (c.fst+1)) (aDD n))) (kX a 32768->True/\True/\aR c.fst=aDD n))))) ?_;delta eS bX qX aW bK cR bV fZ cE bH aR cM kX jI jX aFM bI aBA aDA xZ aDD;simp only [sS,zXp];simp only [RV.wfs,RV.wf,DV.wf,DV.wfs] at hwf;have mi:IntKind.min .u64=0:=rfl;have ma:IntKind.max .u64=18446744073709551615:=rfl;have mj:IntKind.min .u32=0:=rfl;have mb:IntKind.max .u32=4294967295:=rfl;simp only [mi,ma,mj,mb] at hwf;have f8:∀ a:Int,0<=a->Int.fdiv a (2 ^ min (Int.toNat 16) 64)=a / 65536:=λa ha=>by
   rw [show ((2:Int) ^ min (Int.toNat 16) 64)=65536 from by decide];exact wQU _ (by omega)
  refine ⟨⟨(0,n),⟨by omega,by omega,by omega⟩,rfl,rfl⟩,λz ⟨h0,h1,h2⟩=>⟨λhc=>?_,λhc=>⟨λhd=>?_,λhd=>?_⟩⟩⟩
  ·obtain ⟨a,b⟩:=z;simp only at h0 h1 h2 hc |-;rw [f8 b h1,jGT h1 (by omega)];rw [wQd (b%65536) ⟨by omega,by omega⟩,wQd (a+b / 65536) ⟨by omega,by omega⟩,wQd (b / 65536+b%65536) ⟨by omega,by omega⟩];exact ⟨by decide,by decide,(a+b / 65536,b / 65536+b%65536),⟨by simp only; omega,by simp only; omega,by simp only; omega⟩,by simp only; omega,rfl,rfl⟩
  ·obtain ⟨a,b⟩:=z;simp only at h0 h1 h2 hc hd |-;rw [<- h2,jYt h1 (by omega),if_pos (by omega),wQd _ ⟨by omega,by omega⟩]
  ·obtain ⟨a,b⟩:=z;simp only at h0 h1 h2 hc hd |-;rw [<- h2,jYt h1 (by omega),if_neg (by omega)]
def uP (a:Int × Int) (b c:Int) (d:Prop):Prop:=0<=a.fst/\a.fst<b/\0<=a.snd/\a.snd<=c/\d
def vJ (a:Int × Int) (b:Int):Prop:=a.snd+lenS a.fst=lenS b
def aGB (a:Int × Int) (b c:Int):Prop:=uP a 4294967296 b (vJ a c)
def aEK (a:Int):Prop:=kX a 4294967296
def xK (a:List UInt8):List UInt8:=8::8::a
def lN (a:List UInt8):List UInt8:=xK (xK (xK (xK a)))
def kM (a:List UInt8):List UInt8:=7::7::7::7::a
def kN (a:List UInt8):List UInt8:=6::6::a
def aCJ (a:Prop) (b:Int) (c:Int × Int) (d:Prop):Prop:=aW a (aW (cM b c.fst) d)
theorem zVV (x:Int):Ans prog 313 [rD (DV.int .u64 x)] (rJ ((lenS x))):=
 zQa (Γ:=jVJ) (cT (Ann.cut (Inv.mk (Int × Int) (λ(d:Int × Int)=>aGB d 32 x) (λ(a:Int × Int)=>let e:=uN (tO 0 (cE a.fst) 2 a.snd []);e) (λ(g:Int × Int)=>(0:Nat))) aL (λ(i:Int × Int)=>Ann.cut (Inv.mk (Int × Int) (λ(c:Int × Int)=>uP c 65536 48 (vJ c x)) (λ(a:Int × Int)=>let e:=uN (tO 0 (cE a.fst) 2 a.snd []);e) (λ(g:Int × Int)=>(0:Nat))) aL (λ(h:Int × Int)=>Ann.cut (Inv.mk (Int × Int) (λ(b:Int × Int)=>uP b 256 56 (vJ b x)) (λ(a:Int × Int)=>let e:=uN (tO 0 (cE a.fst) 2 a.snd []);e) (λ(g:Int × Int)=>(0:Nat))) aL (λ(f:Int × Int)=>aL))))) zQb Tryz.func313 rfl (nL rfl) λhwf=>by
  refine Eq.mpr (by kernel_rfl:_=(let l:=aAZ (0::1::2::2::3::3::3::3::4::4::4::4::4::4::4::4::5::5::5::5::5::5::5::5::5::5::5::5::5::5::5::5::kN (kN (kN (kN (kN (kN (kN (kN (kN (kN (kN (kN (kN (kN (kN (kN (kM (kM (kM (kM (kM (kM (kM (kM (kM (kM (kM (kM (kM (kM (kM (kM (xK (xK (xK (lN (lN (lN (xK (lN (lN (lN (lN (lN (lN (lN (lN (lN (lN (lN (lN [])))))))))))))))))))))))))))))))))))))))))))))))))));True/\fZ (fQ x 4294967296->yR 32 (∃ j:Int × Int,aCJ (aGB j 32 x) (jI x 32) j (bE 32 j.snd))) (aEK x->(∃ h:Int × Int,aCJ (aGB h 32 x) x h (cF h.snd)))/\(∀ g:Int × Int,aGB g 32 x->fZ (bL (fQ g.fst 65536) ((0:Int)<=16) (True/\True/\True/\True/\(∃ f:Int × Int,aCJ (uP f 65536 48 (vJ f x)) (jI g.fst 16) f (bE (aI (g.snd+16)) f.snd)))) (kX g.fst 65536->(∃ e:Int × Int,aCJ (uP e 65536 48 (vJ e x)) g.fst e (bE g.snd e.snd)))/\(∀ d:Int × Int,uP d 65536 48 (vJ d x)->fZ (bL (fQ d.fst 256) ((0:Int)<=8) (True/\True/\True/\True/\(∃ c:Int × Int,aCJ (uP c 256 56 (vJ c x)) (jI d.fst 8) c (bE (aI (d.snd+8)) c.snd)))) (kX d.fst 256->(∃ b:Int × Int,aCJ (uP b 256 56 (vJ b x)) d.fst b (bE d.snd b.snd)))/\(∀ a:Int × Int,let k:=wrap IntKind.u8 a.fst;yJ (uP a 256 56 (vJ a x)) (aM (gO k (ByteArray.size l)) (cA (aI (a.snd+aI (UInt8.toNat (Option.getD l.data.toList[Int.toNat k]? (0:UInt8)):Int))) (lenS x)))))))) ?_;delta eS cA aI aK aM aW gO bL yJ bE fZ cE fQ cM kX jI yR aAZ cF aEK uP vJ aGB xK lN kM kN aCJ;simp only [sS,zXp,zXB];simp only [RV.wfs,RV.wf,DV.wf,DV.wfs] at hwf;have mi:IntKind.min .u64=0:=rfl;have ma:IntKind.max .u64=18446744073709551615:=rfl;have mj:IntKind.min .u16=0:=rfl;have mb:IntKind.max .u16=65535:=rfl;simp only [mi,ma,mj,mb] at hwf;have f1:∀ a:Int,0<=a->Int.fdiv a (2 ^ min (Int.toNat 32) 64)=a / 4294967296:=λa ha=>by
   rw [show ((2:Int) ^ min (Int.toNat 32) 64)=4294967296 from by decide];exact wQU _ (by omega)
  have f2:∀ a:Int,0<=a->Int.fdiv a (2 ^ min (Int.toNat 16) 64)=a / 65536:=λa ha=>by
   rw [show ((2:Int) ^ min (Int.toNat 16) 64)=65536 from by decide];exact wQU _ (by omega)
  have f3:∀ a:Int,0<=a->Int.fdiv a (2 ^ min (Int.toNat 8) 64)=a / 256:=λa ha=>by
   rw [show ((2:Int) ^ min (Int.toNat 8) 64)=256 from by decide];exact wQU _ (by omega)
  have q1:((2:Int) ^ 32)=4294967296:=rfl;have q2:((2:Int) ^ 16)=65536:=rfl;have q3:((2:Int) ^ 8)=256:=rfl;have g1:=λy (h:2 ^ 32<=y)=>zUz (x:=y) 32 h;have g2:=λy (h:2 ^ 16<=y)=>zUz (x:=y) 16 h;have g3:=λy (h:2 ^ 8<=y)=>zUz (x:=y) 8 h;simp only [q1,q2,q3] at g1 g2 g3;refine ⟨⟨λh=>⟨by decide,(x / 4294967296,32),⟨by simp only; omega,by simp only; omega,by simp only; omega,by simp only; omega,by simp only; have:=g1 x (by omega); omega⟩,f1 x hwf.1.1,rfl⟩,λh=>⟨(x,0),⟨hwf.1.1,by simp only; omega,by simp only; omega,by simp only; omega,by simp only; omega⟩,rfl,rfl⟩⟩,?_⟩;intro p ⟨a1,a2,a3,a4,a5⟩;refine ⟨⟨λh=>⟨by decide,(p.1 / 65536,p.2+16),⟨by simp only; omega,by simp only; omega,by simp only; omega,by simp only; omega,by simp only; have:=g2 p.1 (by omega); omega⟩,f2 p.1 a1,by rw [wQb _ ⟨by omega,by omega⟩]⟩,λh=>⟨p,⟨a1,by omega,a3,by omega,a5⟩,rfl,rfl⟩⟩,?_⟩;intro q ⟨b1,b2,b3,b4,b5⟩;refine ⟨⟨λh=>⟨by decide,(q.1 / 256,q.2+8),⟨by simp only; omega,by simp only; omega,by simp only; omega,by simp only; omega,by simp only; have:=g3 q.1 (by omega); omega⟩,f3 q.1 b1,by rw [wQb _ ⟨by omega,by omega⟩]⟩,λh=>⟨q,⟨b1,by omega,b3,by omega,b5⟩,rfl,rfl⟩⟩,?_⟩;intro r ⟨c1,c2,c3,c4,c5⟩;rw [IntWalk.u8_in r.1 ⟨c1,by omega⟩];have sz:∀ (l:Array UInt8),((⟨l⟩:ByteArray).size:Int)=(l.size:Int):=λ_=>rfl;obtain ⟨m,hm⟩:=wQT c1;rw [hm] at c2 c5 |-;rw [wQl];have tb:∀ m:Nat,m<256->(((([0,1,2,2,3,3,3,3,4,4,4,4,4,4,4,4,5,5,5,5,5,5,5,5,5,5,5,5,5,5,5,5,6,6,6,6,6,6,6,6,6,6,6,6,6,6,6,6,6,6,6,6,6,6,6,6,6,6,6,6,6,6,6,6,7,7,7,7,7,7,7,7,7,7,7,7,7,7,7,7,7,7,7,7,7,7,7,7,7,7,7,7,7,7,7,7,7,7,7,7,7,7,7,7,7,7,7,7,7,7,7,7,7,7,7,7,7,7,7,7,7,7,7,7,7,7,7,7,8,8,8,8,8,8,8,8,8,8,8,8,8,8,8,8,8,8,8,8,8,8,8,8,8,8,8,8,8,8,8,8,8,8,8,8,8,8,8,8,8,8,8,8,8,8,8,8,8,8,8,8,8,8,8,8,8,8,8,8,8,8,8,8,8,8,8,8,8,8,8,8,8,8,8,8,8,8,8,8,8,8,8,8,8,8,8,8,8,8,8,8,8,8,8,8,8,8,8,8,8,8,8,8,8,8,8,8,8,8,8,8,8,8,8,8,8,8,8,8,8,8,8,8,8,8,8,8]:List UInt8)[m]?.getD 0).toNat:Nat):Int)=lenS m:=wQ2 (by decide +kernel);have tt:=tb m (by omega);refine ⟨⟨by omega,by rw [sz]; simp only [wZs,wQJ,wZq]; omega⟩,?_⟩;rw [<- c5,<- tt];clear tb tt sz;generalize Option.getD _ _=w;have:=UInt8.toNat_lt w;have h1:wrap .i64 (w.toNat:Int)=(w.toNat:Int):=wQb _ ⟨by omega,by omega⟩;rw [h1,wQb _ ⟨by omega,by omega⟩]
theorem zKx (x:Int) (h0:1<=x):Ans prog 311 [rD (DV.int .u64 x)] (rJ ((64-lenS x))):=
 zQa (Γ:=jVJ) aL zQb Tryz.func311 rfl (nL rfl) λhwf=>by
  refine Eq.mpr (by kernel_rfl:_=(True/\aK (aCI 313 (aR x) (lenS x)) (cA (aX 64 (lenS x)) (64-lenS x)))) ?_;delta eS cA aI aK aX cE aR dL aCI;simp only [sS,zXp,zXB,zVV];have hx:x<18446744073709551616:=by
   simp only [RV.wfs,RV.wf,DV.wf] at hwf;have ma:IntKind.max .u64=18446744073709551615:=rfl;rw [ma] at hwf; omega
  obtain ⟨s,e,hs,_⟩:=jYe h0 hx;rw [e];exact wQb _ ⟨by omega,by omega⟩
def xJ (a:Int):Int:=a*4294967296
def uM (a:Nat) (b:Int) (c:Nat) (d:Int) (e:Nat) (f:Int) (g:Nat) (h:Int) (i:List (Nat × AV)):List (Nat × AV):=zI a b c d (zI e f g h i)
def aEI (a:Int × Int):Nat:=Int.toNat a.fst
def uO (a:Int):Prop:=eS (cE a)
def zK (a:Int) (b:Prop) (c:Int) (d:Prop):Prop:=aF (uO a) b (eS (cE c)) d
theorem jQu (hi lo y:Int) (h0:hi<y):Ans prog 308 [rD (DV.int .u64 hi),rD (DV.int .u64 lo),rD (DV.int .u64 y)] (rT [rD (DV.int .u64 (wV hi lo / y)),rD (DV.int .u64 (wV hi lo%y))]):=
 zQa (Γ:=jVJ) (dZ (dZ (vQ (dZ (dZ (Ann.cut (Inv.mk Dv (λ(u:Dv)=>Dv.is u hi lo y) (λ(b:Dv)=>zJ 2 (cE (xJ b.v1+b.v0)) (zI 8 (b.s:Int) 9 b.v1 (uM 10 b.v0 11 b.u 13 b.w1 14 b.w0 []))) (λ(z:Dv)=>(0:Nat))) aL (λ(a:Dv)=>let c:=a.w0;let e:=(a.s:Int);let d:=xJ a.v1+a.v0;let h:=cE d;let m:=xJ a.u+a.w1;dZ (Ann.cut (Inv.mk Int (λ(t:Int)=>t=m/d) (λ(s:Int)=>uN (uM 2 d 8 e 9 a.v1 10 a.v0 (uM 11 a.u 13 a.w1 14 c 15 s []))) (λ(x:Int)=>(0:Nat))) (Ann.loop (Inv.mk (Int × Int) (λ(l:Int × Int)=>DgOk a.v1 a.v0 a.u a.w1 l.fst l.snd) (λ(k:Int × Int)=>zJ 2 h (uM 8 e 9 a.v1 10 a.v0 11 a.u (uM 13 a.w1 14 c 15 k.fst 16 k.snd []))) (λ(n:Int × Int)=>aEI n)) (λ(w:Int × Int)=>aL)) (λ(g:Int)=>Ann.cut (Inv.mk Int (λ(r:Int)=>r=m-g*d) (λ(q:Int)=>zJ 2 h (zI 8 e 9 a.v1 (uM 10 a.v0 14 c 15 g 17 q []))) (λ(x:Int)=>(0:Nat))) aL (λ(f:Int)=>dZ (Ann.cut (Inv.mk Int (λ(p:Int)=>p=(xJ f+c)/d) (λ(o:Int)=>uN (uM 2 d 8 e 14 c 15 g (zI 17 f 18 o []))) (λ(x:Int)=>(0:Nat))) (Ann.loop (Inv.mk (Int × Int) (λ(j:Int × Int)=>DgOk a.v1 a.v0 f a.w0 j.fst j.snd) (λ(i:Int × Int)=>zJ 2 h (uM 8 e 9 a.v1 10 a.v0 14 c (uM 15 g 16 i.snd 17 f 18 i.fst []))) (λ(n:Int × Int)=>aEI n)) (λ(w:Int × Int)=>aL)) (λ(v:Int)=>aL)))))))))))) zQb Tryz.func308 rfl (nL rfl) λhwf=>by
  refine Eq.mpr (by kernel_rfl:_=(let M:=aR (wV hi lo%y);let O:=aR (wV hi lo/y);let m:=dH 64 (lenS y);let X:=aAW lo m 64;let Y:=dH 64 m;let G:=aAW y m 64;let Z:=0<=m;True/\nN y 0 False (dX (mA y) (jZ y hi->False) (cR (decide (y<=hi)) ((hi==0)=true->True/\aK (y≠0) (kV (y≠0) (aGA (bI (Int.tdiv lo y)) (aR (Int.tmod lo y)) O M))) ((hi==0)=false->True/\iK (aCI 311 (aR y) (64-lenS y)) (True/\True/\True/\Z/\eV ((0:Int)<=32) (yR m (yR Y (aH Z (True/\(0:Int)<=32/\True/\aV (∃ g:Dv,aW (Dv.is g hi lo y) (cM G (xJ g.v1+g.v0)/\cQ (cM (dH 64 (lenS y)) (g.s:Int)) (cM (jI G 32) g.v1) (cM (jX (aEJ G)) g.v0) (cM (jX (aAX (aAW hi m 64) (jI lo Y))) g.u) (cM (jI X 32) g.w1) (cM (jX (aEJ X)) g.w0)))/\(∀ b:Dv,let v:=(b.s:Int);let c:=b.v1;let h:=xJ c+b.v0;let e:=b.w0;let s:=uO e;let j:=uO b.v0;let i:=uO c;let f:=uO v;let D:=cE h;let t:=eS D;let k:=b.v0;let l:=b.v1;let S:=xJ b.u+b.w1;let E:=S/h;let w:=uO b.w1;let U:=uO h;qX (Dv.is b hi lo y) (c≠0) (iV ((∃ A:Int × Int,aW (DgOk l k b.u b.w1 A.fst A.snd) (t/\rI f i j (uO b.u) w s (cM (bH (Int.tdiv b.u c)) A.fst) (cM (dH b.u (bJ (bH (Int.tdiv b.u c)) c)) A.snd)))/\(∀ q:Int × Int,let F:=bH (q.snd+c);let u:=q.fst;let z0:=(∃ p:Int × Int,bK (DgOk l k b.u b.w1 p.fst p.snd) (aEI p<aEI q) (t/\rI f i j (uO b.u) w s (cM (dH u 1) p.fst) (cM F p.snd)));let z1:=aEK F;let z2:=(∃ K:Int,aW (K=E) (U/\f/\i/\j/\zK b.u w e (cM (dH u 1) K)));let z3:=fQ F 4294967296;let V:=qI 4294967296 q.snd b.w1;let W:=bJ u b.v0;DgOk l k b.u b.w1 q.fst q.snd->bY (aEK u) (True/\True/\True/\True/\bY (nE W V) (iV (z3->z2) (z1->z0)) (gT W V->(∃ L:Int,aW (L=E) (U/\f/\i/\j/\zK b.u w e (cM u L))))) (jG (decide (u>=4294967296)) (bS (True/\True/\True/\(z3->z2)/\(z1->z0)))))) (∀ d:Int,let T:=S-d*h;d=E->xH (∃ J:Int,aW (J=T) (t/\eC (cE v) i (zK b.v0 s d (cM (dH (qI b.u 4294967296 b.w1) (bJ d h)) J))))/\(∀ a:Int,let B:=(xJ a+e)/h;qX (a=T) (c≠0) (iV ((∃ z:Int × Int,aW (DgOk l k a b.w0 z.fst z.snd) (t/\f/\i/\j/\s/\zK d (cM (dH a (bJ (bH (Int.tdiv a c)) c)) z.snd) a (cM (bH (Int.tdiv a c)) z.fst)))/\(∀ o:Int × Int,let r:=o.fst;let C:=bH (o.snd+c);let P:=aG (True/\(fQ C 4294967296->(∃ H:Int,aW (H=B) (eC D f (zK e (uO d) a (cM (dH r 1) H)))))/\(aEK C->(∃ n:Int × Int,bK (DgOk l k a b.w0 n.fst n.snd) (aEI n<aEI o) (t/\f/\i/\j/\s/\zK d (cM C n.snd) a (cM (dH r 1) n.fst)))));let Q:=qI 4294967296 o.snd e;let R:=bJ r b.v0;DgOk l k a b.w0 o.fst o.snd->bY (aEK r) (iV (nE R Q->P) (gT R Q->(∃ I:Int,aW (I=B) (eC D f (zK e (uO d) a (cM r I)))))) (jG (decide (r>=4294967296)) P))) (∀ x:Int,x=B->True/\True/\True/\True/\aG (yR v (aGA (bI (bJ d 4294967296+x)) (aR (jI (dH (qI a 4294967296 e) (bJ x h)) v)) O M)))))))))))))))))) ?_;delta eS bY aF aG aH aK eV dX mA eC iV qX aW bK jG nE gT iK cR dC aV bS nN kV rI cQ cE bH aR bJ dH fQ cM aDN kX jI jX aFM yR aAX aAW bI jZ dL aGA xH xJ aEI aEK qI aEJ uO zK aCI;simp only [sS,zXp,zXB,zVV];simp only [RV.wfs,RV.wf,DV.wf,DV.wfs] at hwf;have mi:IntKind.min .u64=0:=rfl;have ma:IntKind.max .u64=18446744073709551615:=rfl;have mj:IntKind.min .u16=0:=rfl;have mb:IntKind.max .u16=65535:=rfl;simp only [mi,ma,mj,mb] at hwf;have f32:∀ a:Int,0<=a->Int.fdiv a (2 ^ min (Int.toNat 32) 64)=a / 4294967296:=λa ha=>by
   rw [show ((2:Int) ^ min (Int.toNat 32) 64)=4294967296 from by decide];exact wQU _ (by omega)
  obtain ⟨⟨a0,a1⟩,⟨l0,l1⟩,⟨y0,y1⟩,_⟩:=hwf;have hy:1<=y:=by omega
  have hy0:(y==0)=true->y=0:=λh=>by simpa using h
  refine ⟨λh=>absurd (hy0 h) (by omega),λ_=>⟨λh=>absurd h (by omega),λ_=>⟨λhz=>?_,λhz=>?_⟩⟩⟩
  ·have hz:hi=0:=by simpa using hz
   subst hz;rw [zV0,wQS l0,wZO l0];have:=wZw y l0;have:=wQs l0 y0;rw [wQd _ ⟨by omega,by omega⟩];exact ⟨by omega,by omega,rfl,rfl⟩
  obtain ⟨s,es,s63,ys1,ys2⟩:=jYe hy (by omega);have LZ:=zKx y hy;obtain ⟨p1,p2,p3,p4,hD⟩:=jGH a0 h0 l0 (by omega) s63 ys1 ys2;have ws:wrap .u64 (s:Int)=s:=wQd _ ⟨by omega,by omega⟩;have ws2:wrap .u64 (64-(s:Int))=((64-s:Nat):Int):=by rw [wQd _ ⟨by omega,by omega⟩]; omega
  have ms:min s 64=s:=by omega
  have mt:min (64-s) 64=64-s:=by omega
  have wy:wrap .u64 (y*2 ^ s)=y*2 ^ s:=wQd _ ⟨by omega,by omega⟩;have hp:(0:Int)<2 ^ s:=wQB (by decide);have h0':0<=hi*2 ^ s:=Int.mul_nonneg a0 (by omega);have wh:wrap .u64 (hi*2 ^ s)=hi*2 ^ s:=wQd _ ⟨by omega,by omega⟩;have fl:Int.fdiv lo (2 ^ (64-s))=lo / 2 ^ (64-s):=wQU _ (wZm (wQB (by decide)));obtain ⟨or1,or2⟩:=jKC (s:=s) (by omega) a0 p3 p1 p2;have wl:wrap .u64 (lo*2 ^ s)=lo*2 ^ s%18446744073709551616:=wZl _;rw [es] at LZ |-;simp only [ws,ws2,wQl,ms,mt,wy,wh,fl,wl,or1];have m0:0<=lo*2 ^ s%18446744073709551616:=by omega
  have m1:lo*2 ^ s%18446744073709551616<18446744073709551616:=by omega
  rw [zW6 (show 0<=y*2 ^ s by omega) ys2,zW6 m0 m1,f32 _ (show 0<=y*2 ^ s by omega),f32 _ m0,wQd (hi*2 ^ s+lo / 2 ^ (64-s)) ⟨by omega,by omega⟩,wQd (y*2 ^ s%4294967296) ⟨by omega,by omega⟩,wQd (lo*2 ^ s%18446744073709551616%4294967296) ⟨by omega,by omega⟩];refine ⟨LZ,by omega,by omega,by omega,by omega,by omega,by omega,⟨_,hD,by simp only; omega,rfl,rfl,rfl,rfl,rfl,rfl⟩,?_⟩;clear hD or1 or2 wl fl wh wy LZ es p1 p2 p3 p4 m0 m1 ys1 ys2 h0' hp s63 ws ws2 ms mt;intro D hD;obtain ⟨k1,k2,ok,w0a,w0b,s63⟩:=hD;have ok2:=ok;obtain ⟨va,vb,v0a,v0b,ua,ub,wa,wb⟩:=ok2;have W:∀ x:Int,0<=x->x<18446744073709551616->wrap .u64 x=x:=λx x0 x1=>wQd x ⟨x0,by omega⟩;have M:∀ x:Int,wrap .u64 x=x%18446744073709551616:=λx=>wZl x;have st:∀ u w:Int,DvOk D.v1 D.v0 u w->wrap .u64 (Int.tdiv u D.v1)=u / D.v1/\wrap .u64 (u-wrap .u64 (u / D.v1*D.v1))=u-u / D.v1*D.v1:=λu w o=>by
   have g:=o.start;have gp:=g.pos o;have gh:=g.hi;have g0:=g.r0;have g1:=g.r1;have u0:=o.u0;have u1:=o.u1;rw [wQS u0,W (u / D.v1) gp (by omega)];have e4:0<=u / D.v1*D.v1:=Int.mul_nonneg gp (by omega);refine ⟨rfl,?_⟩;rw [W (u / D.v1*D.v1) e4 (by omega),W _ g0 (by omega)]
  have rd:∀ u w:Int,DvOk D.v1 D.v0 u w->∀ z:Int × Int,DgOk D.v1 D.v0 u w z.1 z.2->wrap .u64 (z.1*D.v0)=z.1*D.v0/\wrap .u64 (wrap .u64 (4294967296*z.2)+w)=4294967296*z.2+w/\wrap .u64 (z.2+D.v1)=z.2+D.v1/\(z.1>=4294967296\/z.1*D.v0>4294967296*z.2+w->wrap .u64 (z.1-1)=z.1-1/\(z.1-1).toNat<z.1.toNat):=λu w o z g=>by
   obtain ⟨s1,s2,s3,s4⟩:=g.sizes o;have gp:=g.pos o;have gh:=g.hi;have g0:=g.r0;have g1:=g.r1;have w0:=o.w0;rw [W _ s1 s2,W (4294967296*z.2) (by omega) (by omega),W _ s3 s4,W _ (show 0<=z.2+D.v1 by omega) (by omega)];refine ⟨rfl,rfl,rfl,λhc=>?_⟩;have:1<=z.1:=by
    rcases hc with hc | hc
    ·omega
    ·have:=(g.over o).1 hc;have:=o.dig.1;omega
   exact ⟨W _ (by omega) (by omega),by omega⟩
  have lp:∀ u w:Int,DvOk D.v1 D.v0 u w->∀ z:Int × Int,DgOk D.v1 D.v0 u w z.1 z.2->(z.1>=4294967296\/z.1*D.v0>4294967296*z.2+w)->(z.2+D.v1>=4294967296->∃ a,a=(u*4294967296+w) / (D.v1*4294967296+D.v0)/\z.1-1=a)/\(¬ z.2+D.v1>=4294967296->∃ z':Int × Int,DgOk D.v1 D.v0 u w z'.1 z'.2/\z'.1.toNat<z.1.toNat/\z.1-1=z'.1/\z.2+D.v1=z'.2):=λu w o z g hc=>
   ⟨λh=>⟨_,rfl,g.last o hc h⟩,λh=>⟨(z.1-1,z.2+D.v1),g.next o hc (by omega),((rd u w o z g).2.2.2 hc).2,rfl,rfl⟩⟩
  obtain ⟨t1,t2⟩:=st _ _ ok;rw [t1,t2];refine ⟨by omega,⟨⟨(D.u / D.v1,D.u-D.u / D.v1*D.v1),ok.start,rfl,rfl⟩,?_⟩,?_⟩
  ·intro p g;obtain ⟨r1,r2,r3,r4⟩:=rd _ _ ok p g;rw [r1,r2,r3];refine ⟨λh1=>⟨λh2=>?_,λh2=>?_⟩,λh1=>?_⟩
   ·rw [(r4 (.inr h2)).1];exact lp _ _ ok p g (.inr h2)
   ·exact ⟨_,rfl,g.done ok (λh=>h.elim h1 h2)⟩
   ·rw [(r4 (.inl h1)).1];exact lp _ _ ok p g (.inl h1)
  intro a ha;have dg:=ok.dig;rw [<- ha] at dg;have e1:=wZh (D.u*4294967296+D.w1) (D.v1*4294967296+D.v0);have e2:=wQL (D.u*4294967296+D.w1) (b:=D.v1*4294967296+D.v0) (by omega);have e3:=wQM (D.u*4294967296+D.w1) (show 0<D.v1*4294967296+D.v0 by omega);rw [<- ha,wQy _ a] at e1;have eb:wrap .u64 (wrap .u64 (wrap .u64 (D.u*4294967296)+D.w1)-wrap .u64 (a*(D.v1*4294967296+D.v0)))=D.u*4294967296+D.w1-a*(D.v1*4294967296+D.v0):=by
   simp only [M];generalize a*(D.v1*4294967296+D.v0)=Y at *;omega
  refine ⟨⟨_,rfl,eb⟩,?_⟩;intro b hb;have okb:DvOk D.v1 D.v0 b D.w0:=⟨va,vb,v0a,v0b,by omega,by omega,w0a,w0b⟩
  obtain ⟨t1,t2⟩:=st _ _ okb;rw [t1,t2];refine ⟨by omega,⟨⟨(b / D.v1,b-b / D.v1*D.v1),okb.start,rfl,rfl⟩,?_⟩,?_⟩
  ·intro p g;obtain ⟨r1,r2,r3,r4⟩:=rd _ _ okb p g;rw [r1,r2,r3];have sw:∀ X:Prop × Prop,True:=λ_=>trivial;refine ⟨λh1=>⟨λh2=>?_,λh2=>?_⟩,λh1=>?_⟩
   ·rw [(r4 (.inr h2)).1];obtain ⟨x1,x2⟩:=lp _ _ okb p g (.inr h2);exact ⟨x1,λh=>by obtain ⟨z,y1,y2,y3,y4⟩:=x2 h; exact ⟨z,y1,y2,y4,y3⟩⟩
   ·exact ⟨_,rfl,g.done okb (λh=>h.elim h1 h2)⟩
   ·rw [(r4 (.inl h1)).1];obtain ⟨x1,x2⟩:=lp _ _ okb p g (.inl h1);exact ⟨x1,λh=>by obtain ⟨z,y1,y2,y3,y4⟩:=x2 h; exact ⟨z,y1,y2,y4,y3⟩⟩
  intro c hc;have dgb:=okb.dig;rw [<- hc] at dgb;obtain ⟨d1,d2⟩:=jVe (v:=D.v1*4294967296+D.v0) (u:=D.u) (a:=D.w1) (b:=D.w0) (by omega);rw [<- ha,<- hb,<- hc] at d1 d2;obtain ⟨q1,q2⟩:=jVk (a:=wV hi lo) (y:=y) (k:=2 ^ D.s) (wQB (by decide));rw [k1,k2] at q1 q2;rw [<- d1] at q1;rw [<- d2] at q2;have e4:0<=b*4294967296+D.w0-c*(D.v1*4294967296+D.v0)/\b*4294967296+D.w0-c*(D.v1*4294967296+D.v0)<D.v1*4294967296+D.v0:=by
   rw [d2];exact ⟨wQL _ (by omega),wQM _ (by omega)⟩
  have er:wrap .u64 (wrap .u64 (wrap .u64 (b*4294967296)+D.w0)-wrap .u64 (c*(D.v1*4294967296+D.v0)))=b*4294967296+D.w0-c*(D.v1*4294967296+D.v0):=by
   simp only [M];generalize c*(D.v1*4294967296+D.v0)=Y at *;omega
  rw [er,W (a*4294967296) (by omega) (by omega),W _ (show 0<=a*4294967296+c by omega) (by omega),wQG (by omega),wQU _ (wZm (wQB (by decide)))];exact ⟨by omega,q1,q2⟩
def zUG:Gam:=jVJ.add [.p 228 gZ14,
 .p 286 (λ| [.d (.int _ x),.d (.int _ y),.d (.int _ c)]=>some (RV.tup [RV.d (DV.int .u64 ((x+y+c)%18446744073709551616)),RV.d (DV.int .u64 ((x+y+c) / 18446744073709551616))]) | _=>none),
 .p 300 (λ| [.d (.int _ x),.d (.int _ y),.d (.int _ c)]=>some (RV.tup [RV.d (DV.int .u64 ((x-y-c)%18446744073709551616)),RV.d (DV.int .u64 (if x<y+c then 1 else 0))]) | _=>none),
 .p 312 (λ| [.d (.int _ x)]=>some (RV.d (dQ false)) | _=>none),
 .p 310 (λ| [.d (.int _ x),.d (.int _ y)]=>some (rJ (cmpI x y)) | _=>none),
 .p 309 (λ| [.d (.sl n xs)]=>some (rJ (orI xs)) | _=>none),
 .p 292 (λ| [.d (.int _ n)]=>some (RV.agg [DV.int .u64 0,DV.int .u64 n]) | _=>none),
 .p 276 gZ15,
 .p 275 (λ| [.agg [.int _ ah,.int _ al],.agg [.int _ bh,.int _ bl]]=>some (RV.tup [RV.agg [DV.int .u64 (hiW (addW (wV ah al) (wV bh bl))),DV.int .u64 (loW (addW (wV ah al) (wV bh bl)))],RV.d (dQ (addK (wV ah al) (wV bh bl)))]) | _=>none),
 .p 299 gZ16]
theorem zQy (n d:Int):Ans prog 228 [rD (DV.int .u64 n),rD (DV.int .u64 d)] (rD (DV.int .u64 (zZb n d))):=
 zQa (Γ:=zUG) aL zQb Tryz.func228 rfl (nL rfl) λhwf=>by
  refine Eq.mpr (by kernel_rfl:_=(let a:=aR (zZb n d);let b:=Int.tmod n d;let c:=dH d b;True/\True/\True/\((d==0)=true->True/\aR 0=a)/\cR (d==0) (d≠0) (aH (d≠0) (lY (jS b c (bX (bI (bH (Int.tdiv n d)+1)) a) (kX b c->True/\True/\bI (Int.tdiv n d)=a)))))) ?_;delta eS jS aH aK lY bX cR cE bH aR dH kX bI;simp only [sS];simp only [RV.wfs,RV.wf,DV.wf] at hwf;have m1:IntKind.min .u64=0:=rfl;have m2:IntKind.max .u64=18446744073709551615:=rfl;rw [m1,m2] at hwf;have t1:Int.tdiv n d=n / d:=wQS (by omega);have t2:Int.tmod n d=n%d:=wZO (by omega);refine ⟨λq=>by (have q:d=0:=(by simpa using q)); simp [zZb,q],λq=>?_⟩;have q:d≠0:=by simpa using q
  have b1:0<=n%d:=wQL _ q;have b2:n%d<d:=wQM _ (by omega);have b3:0<=n / d:=wQs (by omega) (by omega);have b4:n / d<=n:=wZw _ (by omega);simp only [t1,t2];rw [wQd (n / d) ⟨b3,by omega⟩,wQd (d-n%d) ⟨by omega,by omega⟩];refine ⟨q,q,λq2=>?_,λq2=>?_⟩
  ·have b5:d>=2\/d=1:=by omega
   have b6:n / d+1<=18446744073709551615:=by
    rcases b5 with b5 | b5
    ·have:n / d<n\/n=0:=by
      by_cases hn:n=0
      ·exact .inr hn
      ·exact .inl (wYC (by omega) (by omega))
     rcases this with h | h
     ·omega
     ·subst h; simp
    ·subst b5; omega
   rw [wQd _ ⟨by omega,b6⟩];simp [zZb,q]; omega
  ·simp [zZb,q]; omega
theorem zQu (x:Int):Ans prog 312 [rD (DV.int .u64 x)] (rD (dQ false)):=
 zQa (Γ:=zUG) aL zQb Tryz.func312 rfl (nL rfl) λhwf=>by
  refine Eq.mpr (by kernel_rfl:_=(True/\bX (aB (x !=x)) (aB false))) ?_;delta eS bX aB;simp only [sS,zQy];simp
theorem zQr (x y:Int):Ans prog 310 [rD (DV.int .u64 x),rD (DV.int .u64 y)] (rJ ((cmpI x y))):=
 zQa (Γ:=zUG) aL zQb Tryz.func310 rfl (nL rfl) λhwf=>by
  refine Eq.mpr (by kernel_rfl:_=(let a:=cA 0 (cmpI x y);let b:=cA 1 (cmpI x y);let c:=cA (-1) (cmpI x y);True/\aK (dL 312 (aR x) (aB false)) (dL 312 (aR y) (aB false)/\True/\True/\qN false (false=true->True/\a) (eS false->eZ c)/\bL (eS false) (false=true->True/\b) (dX (eS false) (pK x y c) (decide (x<y)=false->fU x y b (nJ x y a)))))) ?_;delta eS cA aK dX kD pK fU nJ bL eZ aB cE aR dL qN;simp only [sS,zQy,zQu];unfold cmpI;grind
theorem jQo (n:Nat) (xs:List DV) (hx:n=2/\∃ a b,xs=[.int .i64 a,.int .i64 b]):Ans prog 309 [rD (dS n xs)] (rJ ((orI xs))):=
 zQa (Γ:=zUG) (eF (Ann.loop (Inv.mk Nat (λ(a:Nat)=>cB a 2 (orI xs=orI (List.drop a xs))) (λ(c:Nat)=>uN (xP 3 0 6 n xs 7 8 c)) (λ(b:Nat)=>2-b)) (λ(d:Nat)=>aL))) zQb Tryz.func309 rfl (nL rfl) λhwf=>by
  refine Eq.mpr (by kernel_rfl:_=(let b:=orI xs;dP (∃ d:Nat,aW (cB d 2 (b=orI (List.drop d xs))) (sP gN n xs d)) (∀ a:Nat,let e:=bT xs a 1;bL (cB a 2 (b=orI (List.drop a xs))) (gY a n->eG a n 1 xs/\iK (aZ (gM xs a 1)) (tH (fI e=true) (cA e b) (hZ e) (∃ c:Nat,bK (cB c 2 (b=orI (List.drop c xs))) (2-c<2-a) (iG gN n xs a c)))) (pV a n->True/\True/\cA 0 b)))) ?_;delta eS aY bY aZ cA tH aI aF bG aW nH nG bK aT gW bL gD dP mG iK bT eG gM cB gA gN gY pV fI hZ iG sP;simp only [sS,zQy,zQu,zQr];obtain ⟨rfl,a,b,rfl⟩:=hx;refine ⟨⟨0,⟨by omega,rfl⟩,rfl⟩,λj ⟨hj,he⟩=>⟨λh=>?_,λh=>?_⟩⟩
  ·have:j=0\/j=1:=by omega
   rcases this with rfl | rfl
   ·have hw:wrap .i64 (((0:Nat):Int)+1)=((1:Nat):Int):=by decide
    refine ⟨⟨by omega,by omega,by simp⟩,rfl,λq=>?_,λq=>⟨1,⟨by omega,?_⟩,by omega,hw⟩⟩
    ·have q:a≠0:=wQP.1 q;change a=if a=0 then _ else a
     rw [if_neg q]
    ·have q:a=0:=wZv.1 q;subst q; rfl
   ·have hw:wrap .i64 (((1:Nat):Int)+1)=((2:Nat):Int):=by decide
    refine ⟨⟨by omega,by omega,by simp⟩,rfl,λq=>?_,λq=>⟨2,⟨by omega,?_⟩,by omega,hw⟩⟩
    ·have q:b≠0:=wQP.1 q;rw [he];change b=if b=0 then _ else b
     rw [if_neg q]
    ·have q:b=0:=wZv.1 q;rw [he];subst q; rfl
  ·have:j=2:=by omega
   subst this;rw [he]; rfl
theorem zXn (n:Int):Ans prog 292 [rD (DV.int .u64 n)] (rA [DV.int .u64 0,DV.int .u64 n]):=
 zQa (Γ:=zUG) aL zQb Tryz.func292 rfl (nL rfl) λhwf=>by
  refine Eq.mpr (by kernel_rfl:_=(True/\True/\True/\True/\eS (rA (gH 0 n)))) ?_;delta eS cE gH;simp only [sS,zQy,zQu,zQr]
theorem zQL (a b:Int):Ans prog 276 [rD (DV.int .u64 a),rD (DV.int .u64 b)] (rA [DV.int .u64 (hiW (a*b)),DV.int .u64 (loW (a*b))]):=
 zQa (Γ:=zUG) aL zQb Tryz.func276 rfl (nL rfl) λhwf=>by
  refine Eq.mpr (by kernel_rfl:_=(True/\aH (uB 103 a (eY b) (uA (hiW (a*b)) (loW (a*b)))) (aG (eS (jY (a*b)))))) ?_;delta eS aG aH cE aR gH cX jY eY uB uA;simp only [sS,zXS,zQy,zQu,zQr,zXn]
theorem zQ0 (ah al bh bl:Int):Ans prog 299 [rA [DV.int .u64 ah,DV.int .u64 al],rA [DV.int .u64 bh,DV.int .u64 bl]] (rJ ((cmpI (wV ah al) (wV bh bl)))):=
 zQa (Γ:=zUG) aL zQb Tryz.func299 rfl (nL rfl) λhwf=>by
  refine Eq.mpr (by kernel_rfl:_=(let a:=sM (cmpI ah bh) (cmpI al bl);let b:=orI a;True/\jC (uB 310 ah (eY bh) (wI ah bh)) (True/\True/\True/\uB 310 al (eY bl) (wI al bl)/\aED (aCI 309 (dO 2 a) b) (cA b (cmpI (wV ah al) (wV bh bl)))))) ?_;delta eS cA aH dO sM wI cE aR eY uB dL jC aED aCI;simp only [sS,zQy,zQu,zQr,zXn,zQL];simp only [RV.wfs,RV.wf,DV.wf,DV.wfs] at hwf;have mi:IntKind.min .u64=0:=rfl;have ma:IntKind.max .u64=18446744073709551615:=rfl;have mj:IntKind.min .u16=0:=rfl;have mb:IntKind.max .u16=65535:=rfl;simp only [mi,ma,mj,mb] at hwf;obtain ⟨⟨h1,h2,_⟩,⟨h3,h4,_⟩,_⟩:=hwf;exact ⟨jQo _ _ ⟨rfl,_,_,rfl⟩,yQ3 h2.1 (by omega) h4.1 (by omega) _ _⟩
def aCU (a b:Int):RV:=dG (cX (addW a b)) (addK a b)
def aGX (a:Int):Int:=a%18446744073709551616
abbrev wX1:=@decide_eq_false
theorem zZW (ah al bh bl:Int):Ans prog 275 [rA [DV.int .u64 ah,DV.int .u64 al],rA [DV.int .u64 bh,DV.int .u64 bl]] (rT [rA [DV.int .u64 (hiW (addW (wV ah al) (wV bh bl))),DV.int .u64 (loW (addW (wV ah al) (wV bh bl)))],rD (dQ (addK (wV ah al) (wV bh bl)))]):=
 zQa (Γ:=zUG) aL zQb Tryz.func275 rfl (nL rfl) λhwf=>by
  refine Eq.mpr (by kernel_rfl:_=(let c:=aGX (al+bl+0);let a:=(al+bl+0)/18446744073709551616;let d:=ah+bh+a;let e:=aGX d;let b:=d/18446744073709551616;aG (aM (AnsE prog 286 (aR al::aR bl::eY 0) (uA c a)) (uD (True/\aK (AnsE prog 286 (aR ah::aR bh::eY a) (uA e b)) (True/\True/\sV (fI b) (qJ (gH 0 0) (dG (cX (addW (wV ah al) (wV bh bl))) (addK (wV ah al) (wV bh bl)))) (hZ b) (aV (mU (gH e c)=aCU (wV ah al) (wV bh bl))))))))) ?_;delta eS aG aK aM aB aV cE aR gH cX eY uA uD fI hZ nT dG mU qJ sV aCU aGX;simp only [sS,zQy,zQu,zQr,zXn,zQL,zQ0];simp only [RV.wfs,RV.wf,DV.wf,DV.wfs] at hwf;have mi:IntKind.min .u64=0:=rfl;have ma:IntKind.max .u64=18446744073709551615:=rfl;have mj:IntKind.min .u16=0:=rfl;have mb:IntKind.max .u16=65535:=rfl;simp only [mi,ma,mj,mb] at hwf;obtain ⟨⟨h1,h2,_⟩,⟨h3,h4,_⟩,_⟩:=hwf;refine ⟨jYT _ _ _ (by omega) (by omega) (by omega),jYT _ _ _ (by omega) (by omega) (by omega),λh=>?_,λh=>?_⟩
  ·have h:=wQP.1 h;have e:¬ wV ah al+wV bh bl<340282366920938463463374607431768211456:=by unfold wV; omega
   unfold addW addK;rw [if_neg e,wX1 e];exact ⟨⟨rfl,rfl⟩,rfl⟩
  ·have h:=wZv.1 h;have e:wV ah al+wV bh bl<340282366920938463463374607431768211456:=by unfold wV; omega
   unfold addW addK;rw [if_pos e,decide_eq_true e];unfold wV hiW loW;exact ⟨⟨by omega,by omega⟩,rfl⟩
theorem zJk (ah al bh bl:Int):Ans prog 297 [rA [DV.int .u64 ah,DV.int .u64 al],rA [DV.int .u64 bh,DV.int .u64 bl]] (rT [rA [DV.int .u64 (hiW (subW (wV ah al) (wV bh bl))),DV.int .u64 (loW (subW (wV ah al) (wV bh bl)))],rD (dQ (subK (wV ah al) (wV bh bl)))]):=
 zQa (Γ:=zUG) aL zQb Tryz.func297 rfl (nL rfl) λhwf=>by
  refine Eq.mpr (by kernel_rfl:_=(let b:=subK (wV ah al) (wV bh bl);let c:=subW (wV ah al) (wV bh bl);let d:=aGX (al-bl-0);let a:=if al<bl+0 then (1:Int) else (0:Int);let e:=aGX (ah-bh-a);let f:=if ah<bh+a then (1:Int) else (0:Int);aG (aM (AnsE prog 300 (aR al::aR bl::eY 0) (uA d a)) (True/\True/\True/\True/\bV (AnsE prog 300 (aR ah::aR bh::eY a) (uA e f)) (mO (fI f) (qJ (gH 0 0) (dG (cX c) b)) (bX (mU (gH e d)) (dG (cX c) b))))))) ?_;delta eS aG aM bX bV aB mO cE aR gH cX eY uA fI nT dG mU qJ aGX;simp only [sS,zQy,zQu,zQr,zXn,zQL,zQ0,zZW];simp only [RV.wfs,RV.wf,DV.wf,DV.wfs] at hwf;have mi:IntKind.min .u64=0:=rfl;have ma:IntKind.max .u64=18446744073709551615:=rfl;have mj:IntKind.min .u16=0:=rfl;have mb:IntKind.max .u16=65535:=rfl;simp only [mi,ma,mj,mb] at hwf;obtain ⟨⟨h1,h2,_⟩,⟨h3,h4,_⟩,_⟩:=hwf;refine ⟨jXD _ _ _ (by omega) (by omega) (by omega),jXD _ _ _ (by omega) (by omega) (by split<;>omega),λh=>?_,λh=>?_⟩
  ·have h:=wQP.1 h;have e:wV ah al<wV bh bl:=by unfold wV; split at h<;>split at h<;>omega
   unfold subW subK;rw [if_pos e,wX1 (by omega)];exact ⟨⟨rfl,rfl⟩,rfl⟩
  ·have h:=wZv.1 h;have e:¬ wV ah al<wV bh bl:=by unfold wV; split at h<;>split at h<;>omega
   unfold subW subK;rw [if_neg e,decide_eq_true (by omega)];unfold wV at e;unfold wV hiW loW;split at h<;>split at h<;>exact ⟨⟨by omega,by omega⟩,rfl⟩
def aCV (a:RV) (b:List RV) (c:Int) (d:Prop):Prop:=True/\True/\True/\fR 276 a b (cX c)/\d
theorem zJK (ah al k:Int) (h:wV ah al*k<340282366920938463463374607431768211456):Ans prog 296 [rA [DV.int .u64 ah,DV.int .u64 al],rD (DV.int .u64 k)] (rT [rA [DV.int .u64 (hiW (wV ah al*k)),DV.int .u64 (loW (wV ah al*k))],rD (dQ true)]):=
 zQa (Γ:=zUG) aL zQb Tryz.func296 rfl (nL rfl) λhwf=>by
  refine Eq.mpr (by kernel_rfl:_=(let c:=mU (cX (wV ah al*k));let a:=loW (ah*k);let d:=aCU (wV a 0) (fS (al*k));let b:=hiW (ah*k);aV (bV (uB 103 ah (eY k) (uA b a)) (sV (fI b) (qJ (gH 0 0) c) (hZ b) (aCV (aR al) (eY k) (al*k) (bF 275 (gH a 0) [jY (al*k)] d/\bX d c)))))) ?_;delta eS bX bF bV aB aV cE aR gH cX jY eY uB uA fR fI hZ fS nT dG mU qJ sV aCU aCV;simp only [sS,zQy,zQu,zQr,zXn,zQL,zQ0,zZW,zJk];simp only [RV.wfs,RV.wf,DV.wf,DV.wfs] at hwf;have mi:IntKind.min .u64=0:=rfl;have ma:IntKind.max .u64=18446744073709551615:=rfl;have mj:IntKind.min .u16=0:=rfl;have mb:IntKind.max .u16=65535:=rfl;simp only [mi,ma,mj,mb] at hwf;obtain ⟨⟨h1,h2,_⟩,h3,_⟩:=hwf;have e:wV ah al*k=ah*k*18446744073709551616+al*k:=by unfold wV; grind
  rw [e] at h |-;have n1:0<=ah*k:=Int.mul_nonneg h1.1 h3.1;have n2:0<=al*k:=Int.mul_nonneg h2.1 h3.1;have ez:hiW (ah*k)=0:=by unfold hiW; omega
  have el:loW (ah*k)=ah*k:=by unfold loW; omega
  rw [ez,el];have m64:=zXS ah k;rw [ez,el] at m64;refine ⟨m64,λq=>absurd q (by decide),λ_=>?_⟩;rw [zYh];have ea:wV (ah*k) 0=ah*k*18446744073709551616:=by unfold wV; omega
  unfold addW addK;rw [ea,if_pos h,decide_eq_true h];exact ⟨⟨rfl,rfl⟩,rfl⟩
theorem zKO (ah al d:Int) (h:1<=d):Ans prog 295 [rA [DV.int .u64 ah,DV.int .u64 al],rD (DV.int .u64 d)] (rT [rA [DV.int .u64 (hiW ((wV ah al) / d)),DV.int .u64 (loW ((wV ah al) / d))],rD (DV.int .u64 ((wV ah al)%d)),rD (dQ true)]):=
 zQa (Γ:=zUG) aL zQb Tryz.func295 rfl (nL rfl) λhwf=>by
  refine Eq.mpr (by kernel_rfl:_=(let a:=yQ (cX (wV ah al/d)) (wV ah al%d) [aB true];let b:=wV (Int.tmod ah d) al;let c:=b%d;let e:=b/d;aV (gP ((d==0)=true) (rT [rA (gH 0 0),aR 0,aB false]=a) ((d==0)=false->True/\True/\True/\aM (d≠0) (aM (uB 308 (Int.tmod ah d) (aR al::eY d) (uA e c)) (aH (eS true) (eV (d≠0) (True/\yQ (gH (bH (Int.tdiv ah d)) e) c [aB true]=a)))))))) ?_;delta eS aH eV aM aB aV cE bH aR gH cX gP yQ eY uB uA;simp only [sS,zQy,zQu,zQr,zXn,zQL,zQ0,zZW,zJk];simp only [RV.wfs,RV.wf,DV.wf,DV.wfs] at hwf;have mi:IntKind.min .u64=0:=rfl;have ma:IntKind.max .u64=18446744073709551615:=rfl;have mj:IntKind.min .u16=0:=rfl;have mb:IntKind.max .u16=65535:=rfl;simp only [mi,ma,mj,mb] at hwf;obtain ⟨⟨h1,h2,_⟩,h3,_⟩:=hwf;have t1:Int.tmod ah d=ah%d:=wZO h1.1;have t2:Int.tdiv ah d=ah / d:=wQS h1.1;have b1:0<=ah%d:=wQL _ (by omega);have b2:ah%d<d:=wQM _ (by omega);have b3:0<=ah / d:=wQs h1.1 (by omega);have b4:ah / d<=ah:=wZw _ h1.1;have D:=jQu (ah%d) al d b2;simp only [t1,t2];rw [wQd (ah / d) ⟨b3,by omega⟩];have e0:=wZh ah d;have e:wV ah al=wV (ah%d) al+d*(ah / d*18446744073709551616):=by unfold wV; grind
  have c1:0<=wV (ah%d) al:=by unfold wV; omega
  have c2:wV (ah%d) al<d*18446744073709551616:=by unfold wV; omega
  have c3:0<=wV (ah%d) al / d:=wQs c1 (by omega);have c4:wV (ah%d) al / d<18446744073709551616:=wZV (by omega) (by rw [wQy]; exact c2);have d1:wV ah al / d=ah / d*18446744073709551616+wV (ah%d) al / d:=by rw [e,wXW _ _ (by omega)]; omega
  have d2:wV ah al%d=wV (ah%d) al%d:=by rw [e,wXM]
  have hd0:(d==0)=true->d=0:=λq=>by simpa using q
  refine ⟨λq=>absurd (hd0 q) (by omega),λ_=>⟨by omega,D,by omega,?_⟩⟩;rw [d1,d2];unfold hiW loW;exact ⟨⟨by omega,by omega⟩,rfl⟩
theorem jZl (ah al:Int):Ans prog 293 [rA [DV.int .u64 ah,DV.int .u64 al]] (rD (DV.int .u64 (zXV (wV ah al)))):=
 zQa (Γ:=zUG) (eF (Ann.loop (Inv.mk Nat (λ(c:Nat)=>c<=64) (λ(b:Nat)=>uQ (yL (zI 3 (zXV (wV ah al)/aDN b*aDN b) 4 (aDN b/2) [])) 1 (rL ah al [])) (λ(a:Nat)=>a)) (λ(d:Nat)=>aL))) zQb Tryz.func293 rfl (nL rfl) λhwf=>by
  refine Eq.mpr (by kernel_rfl:_=(let a:=zXV (wV ah al);let g:=eS (gH ah al);vW (∃ i:Nat,bK (i<=64) (bK (eS (0:Nat)) (cM 0 (a/aDN i*aDN i)) (cM 9223372036854775808 (aDN i/2))) g) (∀ b:Nat,let f:=a/aDN b*aDN b;let c:=aDN b/2;let j:=jI c 1;let h:=aAX f c;let k:=jX h*jX h;let l:=fS k;let m:=decide (cmpI l (wV ah al)<=0);let n:=cX k;let o:=(BitVec.toNat h:Int);qX (b<=64) (nE c 0->True/\True/\True/\True/\aH (fR 276 (bI o) [bI o] n) (uF (bF 299 n [rA (gH ah al)] (wI l (wV ah al))) (eS true) (m=true->True/\True/\True/\aH ((0:Int)<=1) (∃ e:Nat,aF (e<=64) (e<b) (bK (eS (0:Nat)) (cM (jX h) (a/aDN e*aDN e)) (cM j (aDN e/2))) g)) (m=false->True/\(0:Int)<=1/\True/\(∃ d:Nat,aF (d<=64) (d<b) (bK (eS (0:Nat)) (cM f (a/aDN d*aDN d)) (cM j (aDN d/2))) g)))) (xX c 0 (aR f=aR a))))) ?_;delta eS aF aH qX aW bK nE gT bF vW wI cE bH aR gH cX cM aDN jI jX aAX bI fR xX uF fS;simp only [sS,zQy,zQu,zQr,zXn,zQL,zQ0,zZW,zJk];simp only [RV.wfs,RV.wf,DV.wf,DV.wfs] at hwf;have mi:IntKind.min .u64=0:=rfl;have ma:IntKind.max .u64=18446744073709551615:=rfl;have mj:IntKind.min .u16=0:=rfl;have mb:IntKind.max .u16=65535:=rfl;simp only [mi,ma,mj,mb] at hwf;obtain ⟨⟨h1,h2,_⟩,_⟩:=hwf;have hA:0<=wV ah al/\wV ah al<340282366920938463463374607431768211456:=by unfold wV; omega
  obtain ⟨r0,r1,r2⟩:=zYY hA.1;have r3:zXV (wV ah al)<18446744073709551616:=(jZy hA.1 (by decide)).2 (by omega);obtain ⟨f,hf⟩:=wQT r0;have le:=λk hk=>jZW (n:=wV ah al) (k:=k) hA.1 hk;rw [hf] at le r3 |-;have hf64:f<2 ^ 64:=by omega
  have M:=λx=>zQL x x;have CC:=λx y=>zQ0 x y ah al;refine ⟨⟨64,Nat.le_refl _,?_,by decide⟩,λi hi=>⟨λh=>?_,λh=>?_⟩⟩
  ·have:(f:Int) / 2 ^ 64=0:=Int.ediv_eq_zero_of_lt (by omega) (by omega);rw [this]; rfl
  ·obtain ⟨k,rfl⟩:∃ k,i=k+1:=⟨i-1,by
    rcases wZ0 i with h0 | h0
    ·subst h0; exact absurd h (by decide)
    ·omega⟩
   have hk:k<64:=by omega
   obtain ⟨b1,b2,b3,b4⟩:=jJ3 hf64 hk;have p0:(2 ^ k:Nat)<2 ^ 64:=wYq (by decide) (by omega);have c2:((2:Int) ^ (k+1) / 2)=((2 ^ k:Nat):Int):=by
    rw [Int.pow_succ,Int.mul_ediv_cancel _ (by decide)]; simp
   have c3:∀ j,(f:Int) / 2 ^ j*2 ^ j=((f / 2 ^ j*2 ^ j:Nat):Int):=λj=>by simp
   have c4:wrap .u64 ((f / 2 ^ (k+1)*2 ^ (k+1)+2 ^ k:Nat):Int)=((f / 2 ^ (k+1)*2 ^ (k+1)+2 ^ k:Nat):Int):=wQd _ ⟨by omega,by omega⟩;have c5:Int.fdiv ((2 ^ k:Nat):Int) (2 ^ min (Int.toNat 1) 64)=(2:Int) ^ k / 2:=by
    rw [show ((2:Int) ^ min (Int.toNat 1) 64)=2 from by decide,wQU _ (by omega)]; simp
   simp only [c2,c3,b1,c4,c5];rw [zYh];have hs:cmpI (((f / 2 ^ (k+1)*2 ^ (k+1)+2 ^ k:Nat):Int)*((f / 2 ^ (k+1)*2 ^ (k+1)+2 ^ k:Nat):Int)) (wV ah al)<=0↔f / 2 ^ (k+1)*2 ^ (k+1)+2 ^ k<=f:=by
    have l1:=le ((f / 2 ^ (k+1)*2 ^ (k+1)+2 ^ k:Nat):Int) (by omega);have:∀ a b:Int,cmpI a b<=0↔a<=b:=λa b=>by unfold cmpI; grind
    rw [this,<- l1];omega
   rw [hs];refine ⟨λhq=>⟨by decide,k,by omega,by omega,?_,rfl⟩,λhq=>⟨by decide,k,by omega,by omega,?_,rfl⟩⟩
   ·rw [b3 hq]
   ·rw [b4 (by omega)]
  ·have:i=0:=by
    rcases wZ0 i with h0 | h0
    ·exact h0
    ·obtain ⟨k,rfl⟩:∃ k,i=k+1:=⟨i-1,by omega⟩
     exfalso;have c2:((2:Int) ^ (k+1) / 2)=((2 ^ k:Nat):Int):=by
      rw [Int.pow_succ,Int.mul_ediv_cancel _ (by decide)]; simp
     rw [c2] at h;have:=wZ9 k;omega
   subst this;simp
def jJW:Gam:=zUG.add [.p 297 (λ| [.agg [.int _ ah,.int _ al],.agg [.int _ bh,.int _ bl]]=>some (RV.tup [RV.agg [DV.int .u64 (hiW (subW (wV ah al) (wV bh bl))),DV.int .u64 (loW (subW (wV ah al) (wV bh bl)))],RV.d (dQ (subK (wV ah al) (wV bh bl)))]) | _=>none),
 .p 296 (λ| [.agg [.int _ ah,.int _ al],.d (.int _ k)]=>some (RV.tup [RV.agg [DV.int .u64 (hiW (wV ah al*k)),DV.int .u64 (loW (wV ah al*k))],RV.d (dQ true)]) | _=>none),
 .p 295 gZ17,
 .p 293 (λ| [.agg [.int _ ah,.int _ al]]=>some (RV.d (DV.int .u64 (zXV (wV ah al)))) | _=>none),
 .p 291 (λ| [.agg [.int _ ph,.int _ pl,.int _ q,.int _ r,.int _ d]]=>some (RV.d (dQ (exOk ph q r d))) | _=>none),
 .p 294 (λ| [.agg [.int _ ph,.int _ pl,.int _ q,.int _ r,.int _ d]]=>some (RV.agg [DV.int .u64 (hiW (q*q*r)),DV.int .u64 (loW (q*q*r))]) | _=>none),
 .p 298 (λ| [.agg [.int _ ph,.int _ pl,.int _ q,.int _ r,.int _ d],.agg [.int _ nh,.int _ nl]]=>some (rJ (jJj q r (wV nh nl))) | _=>none),
 .p 278 (λ| [.agg [.int _ ph,.int _ pl,.int _ q,.int _ r,.int _ d]]=>some (RV.tup [RV.d (DV.int .u64 (⟨wV ph pl,q,r,d⟩:Ex).floor),RV.d (dQ true)]) | _=>none),
 .p 279 (λ| [.agg [.int _ ph,.int _ pl,.int _ q,.int _ r,.int _ d],.d (.int _ f)]=>some (RV.d (dQ (upB (⟨wV ph pl,q,r,d⟩:Ex) f))) | _=>none)]
theorem zXL (ph pl q r d:Int):Ans prog 291 [rA [DV.int .u64 ph,DV.int .u64 pl,DV.int .u64 q,DV.int .u64 r,DV.int .u64 d]] (rD (dQ (exOk ph q r d))):=
 zQa (Γ:=jJW) aL zQb Tryz.func291 rfl (nL rfl) λhwf=>by
  refine Eq.mpr (by kernel_rfl:_=(let a:=eM (exOk ph q r d);let b:=True/\True/\a;True/\True/\True/\True/\kA (kD ph 4294967296) (kD q 70368744177664) (True/\True/\True/\pK r 8589934592 (True/\True/\True/\True/\aBC d 1 (exOk ph q r d))/\(mN r 8589934592 true->b)) (mN q 70368744177664 true->True/\True/\b) (yJ (mN ph 4294967296 true) (aV a)))) ?_;delta eS bY mN kD pK yJ aB aV eM aBC kA;simp only [sS];unfold exOk;grind
theorem zY6 (ph pl q r d:Int) (hp:ph<4294967296) (hq:q<70368744177664) (hr:r<8589934592):Ans prog 294 [rA [DV.int .u64 ph,DV.int .u64 pl,DV.int .u64 q,DV.int .u64 r,DV.int .u64 d]] (rA [DV.int .u64 (hiW (q*q*r)),DV.int .u64 (loW (q*q*r))]):=
 zQa (Γ:=jJW) aL zQb Tryz.func294 rfl (nL rfl) λhwf=>by
  refine Eq.mpr (by kernel_rfl:_=(aV (aCV (aR q) (eY q) (q*q) (eV (bF 296 (cX (q*q)) (eY r) (mU (cX (fS (q*q)*r)))) (lY (jY (fS (q*q)*r)=jY (q*q*r))))))) ?_;delta eS aH aK eV lY bF aB aV cE aR gH cX jY eY fR fS nT mU aCV;simp only [sS,zXL];simp only [RV.wfs,RV.wf,DV.wf,DV.wfs] at hwf;have mi:IntKind.min .u64=0:=rfl;have ma:IntKind.max .u64=18446744073709551615:=rfl;have mj:IntKind.min .u16=0:=rfl;have mb:IntKind.max .u16=65535:=rfl;simp only [mi,ma,mj,mb] at hwf;obtain ⟨⟨w1,w2,w3,w4,w5,_⟩,_⟩:=hwf;have hP:0<=wV ph pl/\wV ph pl<79228162514264337593543950336:=by unfold wV; omega
  have x1:=zQc w3.1 (show q<=70368744177664 by omega) w3.1 (show q<=70368744177664 by omega);have x2:=zQc x1.1 x1.2 w4.1 (show r<=8589934592 by omega);exact ⟨zQL _ _,zJK _ _ _ (by rw [zYh]; omega),by rw [zYh]; exact ⟨rfl,rfl⟩⟩
def kO (a b c d e:Int):List DV:=cE a::cE b::cE c::gH d e
theorem jZn (ph pl q r d nh nl:Int) (hp:ph<4294967296) (hq:q<70368744177664) (hr:r<8589934592):Ans prog 298 [rA [DV.int .u64 ph,DV.int .u64 pl,DV.int .u64 q,DV.int .u64 r,DV.int .u64 d],rA [DV.int .u64 nh,DV.int .u64 nl]] (rJ ((jJj q r (wV nh nl)))):=
 zQa (Γ:=jJW) aL zQb Tryz.func298 rfl (nL rfl) λhwf=>by
  refine Eq.mpr (by kernel_rfl:_=(let a:=jJj q r (wV nh nl);aV (fU nh 0 (cA (-1) a) (bL (gT nh 0) (bF 294 (kO ph pl q r d) [] (jY (q*q*r))) (True/\True/\True/\True/\fR 276 (aR nl) (eY nl) (cX (nl*nl))/\bF 299 (cX (q*q*r)) [jY (nl*nl)] (wI (fS (q*q*r)) (fS (nl*nl)))/\True/\eS true/\cA (cmpI (fS (q*q*r)) (fS (nl*nl))) a))))) ?_;delta eS cA fU bL gT bF aV wI cE aR gH cX jY eY fR fS kO;simp only [sS,zXL];simp only [RV.wfs,RV.wf,DV.wf,DV.wfs] at hwf;have mi:IntKind.min .u64=0:=rfl;have ma:IntKind.max .u64=18446744073709551615:=rfl;have mj:IntKind.min .u16=0:=rfl;have mb:IntKind.max .u16=65535:=rfl;simp only [mi,ma,mj,mb] at hwf;obtain ⟨⟨w1,w2,w3,w4,w5,_⟩,⟨w6,w7,_⟩,_⟩:=hwf;have hP:0<=wV ph pl/\wV ph pl<79228162514264337593543950336:=by unfold wV; omega
  have x1:=zQc w3.1 (show q<=70368744177664 by omega) w3.1 (show q<=70368744177664 by omega);have x2:=zQc x1.1 x1.2 w4.1 (show r<=8589934592 by omega);have S:=zY6 ph pl q r d hp hq hr;have M:=zQL nl nl;have Cc:=zQ0 (hiW (q*q*r)) (loW (q*q*r)) (hiW (nl*nl)) (loW (nl*nl));refine ⟨λh=>?_,λh=>?_⟩
  ·unfold jJj;rw [if_pos (by unfold wV; omega)]
  ·have e:nh=0:=by omega
   subst e;refine ⟨S,M,Cc,?_⟩;rw [zV0,zYh,zYh];unfold jJj;rw [if_neg (by omega)]
def aAC (a:Prop) (b c:RV) (d:Prop):Prop:=bY a (kY b (gR c)) d
def aHV (a:Int):Prop:=fQ a 9223372036854775808
theorem jQb (ph pl q r d:Int) (hp:ph<4294967296) (hq:q<70368744177664) (hr:r<8589934592) (hd:1<=d) (hf:(⟨wV ph pl,q,r,d⟩:Ex).floor<4611686018427387904):Ans prog 278 [rA [DV.int .u64 ph,DV.int .u64 pl,DV.int .u64 q,DV.int .u64 r,DV.int .u64 d]] (rT [rD (DV.int .u64 ((⟨wV ph pl,q,r,d⟩:Ex).floor)),rD (dQ true)]):=
 zQa (Γ:=jJW) aL zQb Tryz.func278 rfl (nL rfl) λhwf=>by
  refine Eq.mpr (by kernel_rfl:_=(let g:=Ex.floor ⟨wV ph pl,q,r,d⟩;let a:=gR (aR g);let b:=zXV (fS (q*q*r));let h:=wV 0 b;let i:=addW (wV ph pl) h;let j:=fS i;let c:=j/d;let k:=hiW c;let e:=loW c;let l:=gH 0 b;let m:=aR b;let f:=exOk ph q r d;aV (True/\bF 291 (kO ph pl q r d) [] (aB f)/\True/\(uR f->True/\True/\kY (aR 0) a)/\pA f (aAR (bF 294 (kO ph pl q r d) [] (jY (q*q*r))) (bF 293 (cX (q*q*r)) [] m) (cG (fR 292 m [] l) (bF 275 (gH ph pl) [rA l] (aCU (wV ph pl) h)) (True/\True/\True/\True/\eS true/\bV (bF 295 (cX i) (eY d) (yQ (cX c) (j%d) [aB true])) (True/\iV (nJ k 0 (aAC (aHV e) (aR 0) (aR g) (kX e 9223372036854775808->True/\True/\True/\True/\gR (aR e)=a))) (jG (xI k) (xB (aR 0) a))))))))) ?_;delta eS bY cG iV nJ jG bF bV aB aV aAR cE aR gH cX fQ kX yQ gR kY jY eY sO fR xB fS xI pA kO nT dG uR aCU aAC aHV;simp only [sS,zXL];simp only [RV.wfs,RV.wf,DV.wf,DV.wfs] at hwf;have mi:IntKind.min .u64=0:=rfl;have ma:IntKind.max .u64=18446744073709551615:=rfl;have mj:IntKind.min .u16=0:=rfl;have mb:IntKind.max .u16=65535:=rfl;simp only [mi,ma,mj,mb] at hwf;obtain ⟨⟨w1,w2,w3,w4,w5,_⟩,_⟩:=hwf;have hP:0<=wV ph pl/\wV ph pl<79228162514264337593543950336:=by unfold wV; omega
  have x1:=zQc w3.1 (show q<=70368744177664 by omega) w3.1 (show q<=70368744177664 by omega);have x2:=zQc x1.1 x1.2 w4.1 (show r<=8589934592 by omega);have eok:(⟨wV ph pl,q,r,d⟩:Ex).ok:=⟨hP.1,w3.1,w4.1,by simp only; omega⟩
  have hok:exOk ph q r d=true:=by simp [exOk]; omega
  have S:=zY6 ph pl q r d hp hq hr;have up0:=Ex.up_nonneg eok (t:=1) (by omega);have e1:(⟨wV ph pl,q,r,d⟩:Ex).up 1=wV ph pl+zXV (q*q*r):=by unfold Ex.up; simp only [wZB]
  have fl:(⟨wV ph pl,q,r,d⟩:Ex).floor=(wV ph pl+zXV (q*q*r)) / d:=by unfold Ex.floor; rw [e1]
  have F0:0<=(⟨wV ph pl,q,r,d⟩:Ex).floor:=wQs up0 w5.1;obtain ⟨r0,_,_⟩:=zYY (n:=q*q*r) (by omega);have r3:zXV (q*q*r)<18446744073709551616:=(jZy (by omega) (by decide)).2 (by omega);have Q:=jZl (hiW (q*q*r)) (loW (q*q*r));rw [zYh] at Q;have A:=zZW ph pl 0 (zXV (q*q*r));rw [zV0] at A;have ad:addW (wV ph pl) (zXV (q*q*r))=wV ph pl+zXV (q*q*r):=by unfold addW; rw [if_pos (by omega)]
  rw [ad] at A;have D:=zKO (hiW (wV ph pl+zXV (q*q*r))) (loW (wV ph pl+zXV (q*q*r))) d hd;rw [zYh,<- fl] at D;have h1:hiW (⟨wV ph pl,q,r,d⟩:Ex).floor=0:=zYu F0 (by omega);have h2:loW (⟨wV ph pl,q,r,d⟩:Ex).floor=(⟨wV ph pl,q,r,d⟩:Ex).floor:=zX8 F0 (by omega);rw [h1,h2] at D;simp only [hok,zYh,zV0,ad,<- fl,h1,h2];exact ⟨λh=>(by cases h),λ_=>⟨S,Q,zXn _,A,D,λ_=>⟨λh=>(by omega),λ_=>trivial⟩,λh=>absurd h (by decide)⟩⟩
theorem jJb (ph pl q r d f:Int) (hp:ph<4294967296) (hq:q<70368744177664) (hr:r<8589934592) (hd:1<=d) (hf:f<4611686018427387904):Ans prog 279 [rA [DV.int .u64 ph,DV.int .u64 pl,DV.int .u64 q,DV.int .u64 r,DV.int .u64 d],rD (DV.int .u64 f)] (rD (dQ (upB (⟨wV ph pl,q,r,d⟩:Ex) f))):=
 zQa (Γ:=jJW) aL zQb Tryz.func279 rfl (nL rfl) λhwf=>by
  refine Eq.mpr (by kernel_rfl:_=(let e:=wV ph pl;let b:=upB ⟨e,q,r,d⟩ f;let k:=eM b;let l:=fS (e*2);let m:=fS (qI 2 f 1*d);let n:=subW m l;let o:=fS n;let a:=o/2;let c:=fS a;let g:=loW a;let h:=g*g;let i:=fS h;let p:=addK i c;let s:=addW i c;let t:=fS s;let u:=[jY a];let v:=jJj q r c;let w:=o%2;let x:=hiW a;let y:=cX n;let j:=subK m l;let z:=qI 2 f 1*d;vW (bF 296 (gH ph pl) (eY 2) (mU (cX (e*2)))) (aG (aCV (bI (bJ 2 f+1)) (eY d) z (dN (bF 297 (cX z) [jY (e*2)] (dG y j)) (uY (eS true) j (oN b) (gI j (iK (bF 295 y (eY 2) (yQ (cX a) w [aB true])) (aG (fU x 0 k (gT x 0->mO (w==0) (aK (bF 298 (kO ph pl q r d) u (rD (DV.int IntKind.i64 v))) (aBC v 0 b)) (aCV (aR g) (eY g) h (dN (bF 275 (cX h) u (aCU i c)) (eS true/\True/\True/\(p=true->True/\bF 294 (kO ph pl q r d) [] (jY (q*q*r))/\True/\bF 299 (cX (q*q*r)) [jY s] (wI (fS (q*q*r)) t)/\dA (aB (xI (cmpI (fS (q*q*r)) t))=aB b))/\mB p (True/\eS true/\k))))))))))))))) ?_;delta eS aG aK dN dA mB fU gT iK bF vW aB mO wI cE bH aR gH cX bJ yQ bI jY eY eM aBC oN gI fR qH uY fS xI qI kO nT dG mU aCU aCV;simp only [sS,zXL];simp only [RV.wfs,RV.wf,DV.wf,DV.wfs] at hwf;have mi:IntKind.min .u64=0:=rfl;have ma:IntKind.max .u64=18446744073709551615:=rfl;have mj:IntKind.min .u16=0:=rfl;have mb:IntKind.max .u16=65535:=rfl;simp only [mi,ma,mj,mb] at hwf;obtain ⟨⟨w1,w2,w3,w4,w5,_⟩,w6,_⟩:=hwf;have hP:0<=wV ph pl/\wV ph pl<79228162514264337593543950336:=by unfold wV; omega
  have x1:=zQc w3.1 (show q<=70368744177664 by omega) w3.1 (show q<=70368744177664 by omega);have x2:=zQc x1.1 x1.2 w4.1 (show r<=8589934592 by omega);have eok:(⟨wV ph pl,q,r,d⟩:Ex).ok:=⟨hP.1,w3.1,w4.1,by simp only; omega⟩
  have wf1:wrap .u64 (2*f)=2*f:=wQd _ ⟨by omega,by omega⟩;have wf2:wrap .u64 (2*f+1)=2*f+1:=wQd _ ⟨by omega,by omega⟩;simp only [wf1,wf2,zYh];have n0:=zQc (x:=2*f+1) (A:=9223372036854775807) (by omega) (by omega) w5.1 w5.2;have ub:upB (⟨wV ph pl,q,r,d⟩:Ex) f=decide ((2*f+1)*d<=(⟨wV ph pl,q,r,d⟩:Ex).up 2):=rfl;have MS:=zJK ph pl 2 (by omega);have MU:=zQL (2*f+1) d;have SB:=zJk (hiW ((2*f+1)*d)) (loW ((2*f+1)*d)) (hiW (wV ph pl*2)) (loW (wV ph pl*2));rw [zYh,zYh] at SB;rw [ub];clear ub;have un:=λn h=>yQq eok (n:=n) h;have ue:=λm h=>jV7 eok (m:=m) h;have uo:=λm h=>yQp eok (m:=m) h;have ubg:=λm h=>yQr eok (m:=m) h (by simp only; omega);have SQ:=zY6 ph pl q r d hp hq hr;simp only at un ue uo ubg;generalize hN:(2*f+1)*d=N at *;generalize (⟨wV ph pl,q,r,d⟩:Ex).up 2=V at *;refine ⟨MS,MU,SB,λh=>?_,λh=>?_⟩
  ·have h:¬ wV ph pl*2<=N:=wXY h;exact (decide_eq_true (un N (by omega))).symm
  have h:wV ph pl*2<=N:=wQ2 h;have sw:subW N (wV ph pl*2)=N-wV ph pl*2:=by unfold subW; rw [if_neg (by omega)]
  simp only [sw,zYh];obtain ⟨K,hK⟩:∃ K,K=N-wV ph pl*2:=⟨_,rfl⟩
  rw [<- hK];have DM:=zKO (hiW K) (loW K) 2 (by decide);rw [zYh] at DM;have hN2:N=K+2*wV ph pl:=by omega
  rw [hN2];clear hN hN2 sw SB MS MU;have e2:=wZh K 2;have m0:0<=K / 2:=by omega
  refine ⟨DM,λh1=>?_,λh1=>?_⟩
  ·have h1:¬ K / 2<18446744073709551616:=by unfold hiW at h1; omega
   have:=ubg (K / 2) (by omega);exact (wX1 (by omega)).symm
  have h1:K / 2<18446744073709551616:=by unfold hiW at h1; omega
  have z1:hiW (K / 2)=0:=zYu m0 h1;have z2:loW (K / 2)=K / 2:=zX8 m0 h1;simp only [z1,z2,zV0,zYh];have R:=jZn ph pl q r d 0 (K / 2) hp hq hr;rw [zV0] at R;have ME:=zQL (K / 2) (K / 2);have AE:=zZW (hiW (K / 2*(K / 2))) (loW (K / 2*(K / 2))) 0 (K / 2);rw [zV0,zYh] at AE;have mm:=zQc m0 (show K / 2<=18446744073709551615 by omega) m0 (show K / 2<=18446744073709551615 by omega);have ea:addW (K / 2*(K / 2)) (K / 2)=K / 2*(K / 2)+K / 2:=by unfold addW; rw [if_pos (by omega)]
  have ek:addK (K / 2*(K / 2)) (K / 2)=true:=decide_eq_true (by omega);have CE:=zQ0 (hiW (q*q*r)) (loW (q*q*r)) (hiW (K / 2*(K / 2)+K / 2)) (loW (K / 2*(K / 2)+K / 2));rw [zYh,zYh] at CE;rw [ea] at AE |-;have ge:∀ a b:Int,0<=cmpI a b↔b<=a:=λa b=>yQa;have gt:∀ a b:Int,cmpI a b>0↔b<a:=λa b=>by unfold cmpI; grind
  refine ⟨λh2=>⟨R,?_⟩,λh2=>⟨ME,AE,λ_=>⟨SQ,CE,?_⟩,λh=>(by rw [ek] at h; cases h)⟩⟩
  ·have h2:K%2=0:=by simpa using h2
   have ev:=ue (K / 2) m0;rw [decide_eq_decide,show K+2*wV ph pl=2*(K / 2)+2*wV ph pl by omega,ev];unfold jJj;rw [if_neg (by omega)];exact ge _ _
  ·have h2:¬ K%2=0:=by simpa using h2
   have ev:=uo (K / 2) m0;rw [decide_eq_decide,show K+2*wV ph pl=2*(K / 2)+1+2*wV ph pl by omega,ev];exact gt _ _
theorem zWv (ph pl q r d:Int) (hp:ph<4294967296) (hq:q<70368744177664) (hr:r<8589934592) (hd:1<=d) (hf:(⟨wV ph pl,q,r,d⟩:Ex).floor<4611686018427387904):Ans prog 263 [rA [DV.int .u64 ph,DV.int .u64 pl,DV.int .u64 q,DV.int .u64 r,DV.int .u64 d]] (rT [rD (DV.int .u64 ((⟨wV ph pl,q,r,d⟩:Ex).half)),rD (dQ true)]):=
 zQa (Γ:=jJW) aL zQb Tryz.func263 rfl (nL rfl) λhwf=>by
  refine Eq.mpr (by kernel_rfl:_=(let e:=Ex.half ⟨wV ph pl,q,r,d⟩;let b:=gR (aR e);let f:=(⟨wV ph pl,q,r,d⟩:Ex);let a:=Ex.floor f;let g:=gR (aR a);let c:=upB f a;let h:=bH (a+1);let i:=aR e;True/\bV (bF 278 (kO ph pl q r d) [] g) (aAC (uR true) (aR 0) i (sO true->True/\True/\bF 279 (kO ph pl q r d) (eY a) (aB c)/\qW c (aAC (aHV h) (aR 0) i (fK h 9223372036854775808 (True/\True/\gR (bI (a+1))=b)))/\cR c (aHV a->True/\True/\kY (aR 0) b) (fK a 9223372036854775808 (True/\True/\g=b)))))) ?_;delta eS bY fK qW bF cR bV aB cE bH aR gH fQ bI gR kY eY sO kO uR aAC aHV;simp only [sS,zXL];simp only [RV.wfs,RV.wf,DV.wf,DV.wfs] at hwf;have mi:IntKind.min .u64=0:=rfl;have ma:IntKind.max .u64=18446744073709551615:=rfl;have mj:IntKind.min .u16=0:=rfl;have mb:IntKind.max .u16=65535:=rfl;simp only [mi,ma,mj,mb] at hwf;obtain ⟨⟨w1,w2,w3,w4,w5,_⟩,_⟩:=hwf;have hP:0<=wV ph pl/\wV ph pl<79228162514264337593543950336:=by unfold wV; omega
  have x1:=zQc w3.1 (show q<=70368744177664 by omega) w3.1 (show q<=70368744177664 by omega);have x2:=zQc x1.1 x1.2 w4.1 (show r<=8589934592 by omega);have eok:(⟨wV ph pl,q,r,d⟩:Ex).ok:=⟨hP.1,w3.1,w4.1,by simp only; omega⟩
  have F:=jQb ph pl q r d hp hq hr hd hf;have up0:=Ex.up_nonneg eok (t:=1) (by omega);have F0:0<=(⟨wV ph pl,q,r,d⟩:Ex).floor:=wQs up0 w5.1;have U:=jJb ph pl q r d (⟨wV ph pl,q,r,d⟩:Ex).floor hp hq hr hd hf;have hh:=Ex.half_floor eok;have ub:upB (⟨wV ph pl,q,r,d⟩:Ex) (⟨wV ph pl,q,r,d⟩:Ex).floor=decide ((2*(⟨wV ph pl,q,r,d⟩:Ex).floor+1)*d<=(⟨wV ph pl,q,r,d⟩:Ex).up 2):=rfl;rw [wQd ((⟨wV ph pl,q,r,d⟩:Ex).floor+1) ⟨by omega,by omega⟩];generalize (⟨wV ph pl,q,r,d⟩:Ex).floor=fl at *;refine ⟨F,λh=>(by cases h),U,λh=>?_,λh=>?_⟩
  ·rw [ub] at h;rw [hh,if_pos (wQ2 h)];exact ⟨λh=>(by omega),λ_=>rfl⟩
  ·rw [ub] at h;rw [hh,if_neg (wXY h)];exact ⟨λh=>(by omega),λ_=>rfl⟩
def jYw:Gam:=jJW.add [.p 303 (λ| [.d (.int _ p),.d (.int _ den)]=>some (RV.agg [DV.int .u64 0,DV.int .u64 p,DV.int .u64 0,DV.int .u64 0,DV.int .u64 den]) | _=>none),
 .p 304 (λ| [.d (.int _ s),.d (.int _ a),.d (.int _ d),.d (.int _ b),.d (.bool tw)]=>some (RV.d (DV.int .u64 (zHx s a d b tw))) | _=>none),
 .p 307 (λ| [.d (.int _ s),.d (.int _ a),.d (.int _ d),.d (.int _ b)]=>let c:=(zJx s a d b); some (RV.agg [DV.int .u64 (hiW c.p),DV.int .u64 (loW c.p),DV.int .u64 c.q,DV.int .u64 c.r,DV.int .u64 c.d]) | _=>none),
 .p 305 (λ| [.d (.int _ s),.d (.int _ a),.d (.int _ d),.d (.int _ b)]=>let c:=(zJ8 s a d b); some (RV.agg [DV.int .u64 (hiW c.p),DV.int .u64 (loW c.p),DV.int .u64 c.q,DV.int .u64 c.r,DV.int .u64 c.d]) | _=>none),
 .p 306 (λ| [.d (.int _ s),.d (.int _ a),.d (.int _ d),.d (.int _ b)]=>let c:=(zW2 s a d b); some (RV.agg [DV.int .u64 (hiW c.p),DV.int .u64 (loW c.p),DV.int .u64 c.q,DV.int .u64 c.r,DV.int .u64 c.d]) | _=>none),
 .p 290 (λ| [.d (.int _ mode),.d (.int _ s),.d (.int _ a),.d (.int _ d),.d (.int _ b)]=>let c:=(zQi mode s a d b); some (RV.agg [DV.int .u64 (hiW c.p),DV.int .u64 (loW c.p),DV.int .u64 c.q,DV.int .u64 c.r,DV.int .u64 c.d]) | _=>none)]
def qK (a:Int) (b:List DV):List DV:=cE 0::cE a::b
theorem zZo (p den:Int):Ans prog 303 [rD (DV.int .u64 p),rD (DV.int .u64 den)] (rA [DV.int .u64 0,DV.int .u64 p,DV.int .u64 0,DV.int .u64 0,DV.int .u64 den]):=
 zQa (Γ:=jYw) aL zQb Tryz.func303 rfl (nL rfl) λhwf=>by
  refine Eq.mpr (by kernel_rfl:_=(bS (eS (rA (qK p (qK 0 [cE den])))))) ?_;delta eS bS cE qK;simp only [sS]
theorem jQs (s a d b:Int) (tw:Bool) (h0:0<=s) (h1:s<=a) (h2:0<=d) (h3:d<=b) (ha:a<=65535) (hb:b<=65535) (h5:0<=zHx s a d b tw):Ans prog 304 [rD (DV.int .u64 s),rD (DV.int .u64 a),rD (DV.int .u64 d),rD (DV.int .u64 b),rD (dQ tw)] (rD (DV.int .u64 (zHx s a d b tw))):=
 zQa (Γ:=jYw) aL zQb Tryz.func304 rfl (nL rfl) λhwf=>by
  refine Eq.mpr (by kernel_rfl:_=(let c:=aR (zHx s a d b tw);fZ (tw=true->True/\bX (bI (bJ 2 s*d)) c) (tw=false->True/\lE (bI (bJ a b-bJ (bJ 2 (dH b d)) (dH a s))=c)))) ?_;delta eS aG bX fZ cE bH aR bJ dH bI lE;simp only [sS,zZo];have W:∀ x:Int,0<=x->x<18446744073709551616->wrap .u64 x=x:=λx x0 x1=>wQd x ⟨x0,by omega⟩;have p1:=zQc (x:=2*s) (y:=d) (A:=131070) (B:=65535) (by omega) (by omega) h2 (by omega);have p2:=zQc (x:=a) (y:=b) (A:=65535) (B:=65535) (by omega) ha (by omega) hb;have p3:=zQc (x:=2*(b-d)) (y:=a-s) (A:=131070) (B:=65535) (by omega) (by omega) (by omega) (by omega);simp only [W (2*s) (by omega) (by omega),W (b-d) (by omega) (by omega),W (2*(b-d)) (by omega) (by omega),W (a-s) (by omega) (by omega),W (a*b) (by omega) (by omega),W (2*s*d) (by omega) (by omega),W (2*(b-d)*(a-s)) (by omega) (by omega)];unfold zHx at h5 |-;refine ⟨λh=>by rw [h]; rfl,λh=>?_⟩;rw [h] at h5 |-;rw [if_neg (by decide)] at h5 |-;exact W _ h5 (by omega)
def xM (a:Ex):RV:=RV.agg (kO (hiW a.p) (loW a.p) a.q a.r a.d)
def mV (a:RV) (b:Int):Prop:=fR 303 a (eY 1) (kO 0 b 0 0 1)
def nU (a:Int):RV:=RV.agg (kO 0 a 0 0 1)
def nV (a:Prop) (b:RV) (c:Ex):Prop:=aH a (b=RV.agg (kO (hiW c.p) (loW c.p) c.q c.r c.d))
theorem jQr (s a d b:Int) (h0:0<=s) (h1:s<=a) (h2:0<=d) (h3:d<=b) (ha:a<=65535) (hb:b<=65535):Ans prog 307 [rD (DV.int .u64 s),rD (DV.int .u64 a),rD (DV.int .u64 d),rD (DV.int .u64 b)] (rA [DV.int .u64 (hiW (zJx s a d b).p),DV.int .u64 (loW (zJx s a d b).p),DV.int .u64 ((zJx s a d b).q),DV.int .u64 ((zJx s a d b).r),DV.int .u64 ((zJx s a d b).d)]):=
 zQa (Γ:=jYw) aL zQb Tryz.func307 rfl (nL rfl) λhwf=>by
  refine Eq.mpr (by kernel_rfl:_=(let e:=zJx s a d b;let g:=xM e;let f:=bJ 2 s;let h:=dH f a;let i:=bJ (bJ 2 d) (dH a s);let j:=qK 0 [cE (bH (b*b))];let k:=bJ (bJ h d) (dH (qI (bJ 16 d) d (bJ (bJ 3 b) b)) (bJ (bJ 12 d) b));let c:=bJ (bJ d a) b;let l:=qI c b k;let m:=qK 0 [cE b];let n:=bJ (bJ (dH a f) d) (dH b d);let o:=dH c n;True/\nN b 0 (iK (mV (aR 0) 0) (nU 0=g)) (gV (b==0) (aAY f a (bS (aG (nV (fR 303 (bI (c-n)) (eY b) (qK o m)) (rA (qK o m)) e))) (gV (decide (bJ 2 s<=a)) (bY (jZ (bJ 4 d) b) (lE (aG (aG (nV (fR 303 (bI (bJ c b+k)) [bI (b*b)] (qK l j)) (rA (qK l j)) e)))) (gV (decide (bJ 4 d<=b)) (xD (mV (bI (bJ 2 d*dH a s)) i) (lE (rA (qK i (cE h::gH (bJ d b) 1))=g)))))))))) ?_;delta eS bY aG aH aM gV iK dC bS nN cE bH aR gH bJ dH bI eY jZ aAY fR lE xD qI kO xM mV nU nV qK;simp only [sS,zZo];have W:∀ x:Int,0<=x->x<18446744073709551616->wrap .u64 x=x:=λx x0 x1=>wQd x ⟨x0,by omega⟩;have p1:=zQc (x:=d) (y:=a) (A:=65535) (B:=65535) h2 (by omega) (by omega) ha;have p2:=zQc (x:=b) (y:=b) (A:=65535) (B:=65535) (by omega) hb (by omega) hb;have p5:=zQc (x:=d) (y:=b) (A:=65535) (B:=65535) h2 (by omega) (by omega) hb;have p6:=zQc (x:=d*a) (y:=b) (A:=4294836225) (B:=65535) p1.1 (by omega) (by omega) hb;have su:=zGH h0 h1 h2 h3;simp only [W (2*s) (by omega) (by omega),W (d*a) p1.1 (by omega),W (b-d) (by omega) (by omega),W (a-s) (by omega) (by omega),W (b*b) p2.1 (by omega),W (4*d) (by omega) (by omega),W (d*b) p5.1 (by omega),W (16*d) (by omega) (by omega),W (3*b) (by omega) (by omega),W (12*d) (by omega) (by omega),W (2*d) (by omega) (by omega),W (d*a*b) p6.1 (by omega)];unfold zJx at su |-;have fx:∀ x:Ex,0<=x.p->x.p<18446744073709551616->0=hiW x.p/\x.p=loW x.p:=λx a b=>⟨(zYu a b).symm,(zX8 a b).symm⟩
  refine ⟨λh=>?_,λh=>⟨λc1=>?_,λc1=>⟨λc2=>?_,λc2=>?_⟩⟩⟩
  ·have h:b=0:=by simpa using h
   rw [if_pos h]
   (repeat' (first | exact trivial | rfl | apply And.intro))
  ·have h:¬ b=0:=by simpa using h
   rw [if_neg h,if_pos c1] at su |-;have q1:=zQc (x:=a-2*s) (y:=d) (A:=65535) (B:=65535) (by omega) (by omega) h2 (by omega);have q2:=zQc (x:=(a-2*s)*d) (y:=b-d) (A:=4294836225) (B:=65535) q1.1 (by omega) (by omega) (by omega);have q3:=su.ok.p;simp only at q3;simp only [W (a-2*s) (by omega) (by omega),W ((a-2*s)*d) q1.1 (by omega),W ((a-2*s)*d*(b-d)) q2.1 (by omega),W (d*a*b-(a-2*s)*d*(b-d)) q3 (by omega)];obtain ⟨e1,e2⟩:=fx _ su.ok.p (by simp only; omega)
   (repeat' (first | exact e1 | exact e2 | exact trivial | rfl | apply And.intro))
  ·have h:¬ b=0:=by simpa using h
   rw [if_neg h,if_neg c1,if_pos c2] at su |-;have ⟨k1,k2⟩:=jKm h2 c2;have e16:16*d*d=16*(d*d):=by grind
   have e12:12*d*b=12*(d*b):=by grind
   have e3:3*b*b=3*(b*b):=by grind
   have p7:=zQc (x:=d) (y:=d) (A:=65535) (B:=65535) h2 (by omega) h2 (by omega);have q1:=zQc (x:=2*s-a) (y:=d) (A:=65535) (B:=65535) (by omega) (by omega) h2 (by omega);have q4:=zQc (x:=d*a) (y:=b*b) (A:=4294836225) (B:=4294836225) p1.1 (by omega) p2.1 (by omega);have kk:16*d*d+3*b*b-12*d*b<=81601888275:=by omega
   have q5:=zQc (x:=(2*s-a)*d) (y:=16*d*d+3*b*b-12*d*b) (A:=4294836225) (B:=81601888275) q1.1 (by omega) k1 kk;have ab:=zQc (x:=a) (y:=b) (A:=65535) (B:=65535) (by omega) ha (by omega) hb;have abb:=zQc (x:=a*b) (y:=b*b) (A:=4294836225) (B:=4294836225) ab.1 (by omega) p2.1 (by omega);have up:=su.p;simp only at up;have e4:d*a*b*b=d*a*(b*b):=by rw [wYt (d*a)]
   have tot:d*a*(b*b)+(2*s-a)*d*(16*d*d+3*b*b-12*d*b)<18446744073709551616:=by omega
   simp only [W (16*d*d) (by omega) (by omega),W (3*b*b) (by omega) (by omega),W (16*d*d+3*b*b) (by omega) (by omega),W (12*d*b) (by omega) (by omega),W (16*d*d+3*b*b-12*d*b) k1 (by omega),W (2*s-a) (by omega) (by omega),W ((2*s-a)*d) q1.1 (by omega),e4,W (d*a*(b*b)) q4.1 (by omega),W ((2*s-a)*d*(16*d*d+3*b*b-12*d*b)) q5.1 (by omega),W (d*a*(b*b)+(2*s-a)*d*(16*d*d+3*b*b-12*d*b)) (by omega) tot];obtain ⟨e1,e2⟩:=fx _ su.ok.p (by simp only; omega)
   (repeat' (first | exact e1 | exact e2 | exact trivial | rfl | apply And.intro))
  ·have h:¬ b=0:=by simpa using h
   rw [if_neg h,if_neg c1,if_neg c2];have q1:=zQc (x:=2*d) (y:=a-s) (A:=131070) (B:=65535) (by omega) (by omega) (by omega) (by omega);simp only [W (2*d*(a-s)) q1.1 (by omega),W (2*s-a) (by omega) (by omega)];have e1:=(zYu q1.1 (show 2*d*(a-s)<18446744073709551616 by omega)).symm;have e2:=(zX8 q1.1 (show 2*d*(a-s)<18446744073709551616 by omega)).symm
   (repeat' (first | exact e1 | exact e2 | exact trivial | rfl | apply And.intro))
theorem zHS (s a d b:Int) (h0:0<=s) (h1:s<=a) (h2:0<=d) (h3:d<=b) (ha:a<=65535) (hb:b<=65535):Ans prog 305 [rD (DV.int .u64 s),rD (DV.int .u64 a),rD (DV.int .u64 d),rD (DV.int .u64 b)] (rA [DV.int .u64 (hiW (zJ8 s a d b).p),DV.int .u64 (loW (zJ8 s a d b).p),DV.int .u64 ((zJ8 s a d b).q),DV.int .u64 ((zJ8 s a d b).r),DV.int .u64 ((zJ8 s a d b).d)]):=
 zQa (Γ:=jYw) aL zQb Tryz.func305 rfl (nL rfl) λhwf=>by
  refine Eq.mpr (by kernel_rfl:_=(let e:=xM (zJ8 s a d b);let c:=dH a s;True/\nN d 0 (iK (mV (aR 0) 0) (nU 0=e)) ((d==0)=false->True/\bS (jS (bJ d a) (bJ b c) (nV (mV (bI (a*b)) (bJ a b)) (nU (bJ a b)) (zJ8 s a d b)) (kX (bJ d a) (bJ b c)->True/\True/\jC (fR 303 (bI (bH (a*a)*d)) [bI (a-s)] (kO 0 (bJ (bH (a*a)) d) 0 0 c)) (rA (kO 0 (bJ (bH (a*a)) d) 0 0 c)=e)))))) ?_;delta eS jS aH iK dC bS nN cE bH aR gH bJ dH kX bI eY fR jC kO xM mV nU nV;simp only [sS,zZo];have W:∀ x:Int,0<=x->x<18446744073709551616->wrap .u64 x=x:=λx x0 x1=>wQd x ⟨x0,by omega⟩;have fin:∀ (x:Ex) (n X:Int),x=zZj n->0<=n->n<18446744073709551616->X=n->(0=hiW x.p/\X=loW x.p/\0=x.q/\0=x.r/\1=x.d):=λx n X e n0 n1 hX=>by
   rw [e,hX];exact ⟨(zYu n0 n1).symm,(zX8 n0 n1).symm,rfl,rfl,rfl⟩
  have fin2:∀ (x:Ex) (n e X D:Int),x=⟨n,0,0,e⟩->0<=n->n<18446744073709551616->X=n->D=e->(0=hiW x.p/\X=loW x.p/\0=x.q/\0=x.r/\D=x.d):=λx n e X D q n0 n1 hX hD=>by
   rw [q,hX,hD];exact ⟨(zYu n0 n1).symm,(zX8 n0 n1).symm,rfl,rfl,rfl⟩
  have a0:0<=a:=by omega
  have b0:0<=b:=by omega
  have sb:=zQc (x:=s) (y:=b) (A:=65535) (B:=65535) h0 (by omega) b0 hb;have da:=zQc (x:=d) (y:=a) (A:=65535) (B:=65535) h2 (by omega) a0 ha;have sd:=zQc (x:=s) (y:=d) (A:=65535) (B:=65535) h0 (by omega) h2 (by omega);have ab:=zQc (x:=a) (y:=b) (A:=65535) (B:=65535) a0 ha b0 hb;have aa:=zQc (x:=a) (y:=a) (A:=65535) (B:=65535) a0 ha a0 ha;have aad:=zQc (x:=a*a) (y:=d) (A:=4294836225) (B:=65535) aa.1 (by omega) h2 (by omega);have ba:=zQc (x:=b) (y:=a-s) (A:=65535) (B:=65535) b0 hb (by omega) (by omega);have bd:=zQc (x:=b-d) (y:=a) (A:=65535) (B:=65535) (by omega) (by omega) a0 ha;have bda:=zQc (x:=(b-d)*a) (y:=a) (A:=4294836225) (B:=65535) bd.1 (by omega) a0 ha;have abs:=zQc (x:=a*b) (y:=s) (A:=4294836225) (B:=65535) ab.1 (by omega) h0 (by omega);have s2:=zQc (x:=2*s) (y:=d) (A:=131070) (B:=65535) (by omega) (by omega) h2 (by omega);simp only [W (d*a) da.1 (by omega),W (a-s) (by omega) (by omega),W (b*(a-s)) ba.1 (by omega),W (a*b) ab.1 (by omega),W (a*a) aa.1 (by omega),W (a*a*d) aad.1 (by omega)];refine ⟨λk=>?_,λk=>⟨λk2=>?_,λk2=>?_⟩⟩
  ·have k:d=0:=by simpa using k
   exact fin _ 0 0 (by unfold zJ8; rw [if_pos k]) (by omega) (by omega) rfl
  ·have k:¬ d=0:=by simpa using k
   exact fin _ (a*b) _ (by unfold zJ8; rw [if_neg k,if_pos k2]) ab.1 (by omega) rfl
  ·have k:¬ d=0:=by simpa using k
   exact fin2 _ (a*a*d) (a-s) _ _ (by unfold zJ8; rw [if_neg k,if_neg k2]) aad.1 (by omega) rfl rfl
theorem jQt (s a d b:Int) (h0:0<=s) (h1:s<=a) (h2:0<=d) (h3:d<=b) (ha:a<=65535) (hb:b<=65535):Ans prog 306 [rD (DV.int .u64 s),rD (DV.int .u64 a),rD (DV.int .u64 d),rD (DV.int .u64 b)] (rA [DV.int .u64 (hiW (zW2 s a d b).p),DV.int .u64 (loW (zW2 s a d b).p),DV.int .u64 ((zW2 s a d b).q),DV.int .u64 ((zW2 s a d b).r),DV.int .u64 ((zW2 s a d b).d)]):=
 zQa (Γ:=jYw) aL zQb Tryz.func306 rfl (nL rfl) λhwf=>by
  refine Eq.mpr (by kernel_rfl:_=(let c:=zW2 s a d b;let e:=bJ (dH b d) a;let f:=bJ e a;let g:=dH (bJ (bJ a b) s) f;True/\True/\mO (d==b) (nV (mV (bI (a*b)) (bJ a b)) (nU (bJ a b)) c) (bS (aBU (fQ e (bJ s b)->iK (mV (aR 0) 0) (nU 0=xM c)) (kX e (bJ s b)) (aG (nV (fR 303 (bI (bJ (bJ a b) s-f)) (eY s) (kO 0 g 0 0 s)) (rA (kO 0 g 0 0 s)) c)))))) ?_;delta eS aG aH iK bS mO cE bH aR gH bJ dH fQ kX bI eY fR aBU kO xM mV nU nV;simp only [sS,zZo];have W:∀ x:Int,0<=x->x<18446744073709551616->wrap .u64 x=x:=λx x0 x1=>wQd x ⟨x0,by omega⟩;have fin:∀ (x:Ex) (n X:Int),x=zZj n->0<=n->n<18446744073709551616->X=n->(0=hiW x.p/\X=loW x.p/\0=x.q/\0=x.r/\1=x.d):=λx n X e n0 n1 hX=>by
   rw [e,hX];exact ⟨(zYu n0 n1).symm,(zX8 n0 n1).symm,rfl,rfl,rfl⟩
  have fin2:∀ (x:Ex) (n e X D:Int),x=⟨n,0,0,e⟩->0<=n->n<18446744073709551616->X=n->D=e->(0=hiW x.p/\X=loW x.p/\0=x.q/\0=x.r/\D=x.d):=λx n e X D q n0 n1 hX hD=>by
   rw [q,hX,hD];exact ⟨(zYu n0 n1).symm,(zX8 n0 n1).symm,rfl,rfl,rfl⟩
  have a0:0<=a:=by omega
  have b0:0<=b:=by omega
  have sb:=zQc (x:=s) (y:=b) (A:=65535) (B:=65535) h0 (by omega) b0 hb;have da:=zQc (x:=d) (y:=a) (A:=65535) (B:=65535) h2 (by omega) a0 ha;have sd:=zQc (x:=s) (y:=d) (A:=65535) (B:=65535) h0 (by omega) h2 (by omega);have ab:=zQc (x:=a) (y:=b) (A:=65535) (B:=65535) a0 ha b0 hb;have aa:=zQc (x:=a) (y:=a) (A:=65535) (B:=65535) a0 ha a0 ha;have aad:=zQc (x:=a*a) (y:=d) (A:=4294836225) (B:=65535) aa.1 (by omega) h2 (by omega);have ba:=zQc (x:=b) (y:=a-s) (A:=65535) (B:=65535) b0 hb (by omega) (by omega);have bd:=zQc (x:=b-d) (y:=a) (A:=65535) (B:=65535) (by omega) (by omega) a0 ha;have bda:=zQc (x:=(b-d)*a) (y:=a) (A:=4294836225) (B:=65535) bd.1 (by omega) a0 ha;have abs:=zQc (x:=a*b) (y:=s) (A:=4294836225) (B:=65535) ab.1 (by omega) h0 (by omega);have s2:=zQc (x:=2*s) (y:=d) (A:=131070) (B:=65535) (by omega) (by omega) h2 (by omega);have hu:=zZk (mode:=8) h0 h1 h2 h3;have eb:zQi 8 s a d b=zW2 s a d b:=rfl;rw [eb] at hu;simp only [W (s*b) sb.1 (by omega),W (b-d) (by omega) (by omega),W ((b-d)*a) bd.1 (by omega),W (a*b) ab.1 (by omega),W (a*b*s) abs.1 (by omega),W ((b-d)*a*a) bda.1 (by omega)];refine ⟨λk=>?_,λk=>⟨λk2=>?_,λk2=>?_⟩⟩
  ·have k:d=b:=by simpa using k
   exact fin _ (a*b) _ (by unfold zW2; rw [if_pos k]) ab.1 (by omega) rfl
  ·have k:¬ d=b:=by simpa using k
   exact fin _ 0 0 (by unfold zW2; rw [if_neg k,if_pos k2]) (by omega) (by omega) rfl
  ·have k:¬ d=b:=by simpa using k
   have e:zW2 s a d b=⟨a*b*s-(b-d)*a*a,0,0,s⟩:=by unfold zW2; rw [if_neg k,if_neg k2]
   have q0:=hu.ok.p;rw [e] at q0;simp only at q0;exact fin2 _ _ s _ _ e q0 (by omega) (W _ q0 (by omega)) rfl
def xL (a:Ex):List DV:=kO (hiW a.p) (loW a.p) a.q a.r a.d
theorem jQq (mode s a d b:Int) (h0:0<=s) (h1:s<=a) (h2:0<=d) (h3:d<=b) (ha:a<=65535) (hb:b<=65535):Ans prog 290 [rJ (mode),rD (DV.int .u64 s),rD (DV.int .u64 a),rD (DV.int .u64 d),rD (DV.int .u64 b)] (rA [DV.int .u64 (hiW (zQi mode s a d b).p),DV.int .u64 (loW (zQi mode s a d b).p),DV.int .u64 ((zQi mode s a d b).q),DV.int .u64 ((zQi mode s a d b).r),DV.int .u64 ((zQi mode s a d b).d)]):=
 zQa (Γ:=jYw) aL zQb Tryz.func290 rfl (nL rfl) λhwf=>by
  refine Eq.mpr (by kernel_rfl:_=(let c:=zQi mode s a d b;let n:=bJ (bJ 2 s) d;let g:=qI s b (bJ d a);let o:=dH g n;let h:=bJ s b;let e:=Min.min h (bJ d a);let f:=Max.max h (bJ d a);let p:=dH f e;let k:=aR a::aR d::eY b;let i:=xM (zQi mode s a d b);let q:=cE 0::gH 0 1;let r:=decide (bJ 2 s<=a);let l:=zHx s a d b r;let t:=aR l;let u:=decide (bJ 2 d<=b);let m:=zHx s a d b u;let v:=aR m;let j:=bJ s d;let w:=dH g j;True/\True/\True/\True/\((mode==1)=true->True/\nV (mV (bI (s*b)) h) (nU h) c)/\dU mode 1 (gJ mode 2 (nV (mV (bI (s*d)) j) (nU j) c)) 2 (gJ mode 3 (aG (nV (mV (bI (g-j)) w) (nU w) c))) (dU mode 3 (gJ mode 4 (bS (cZ (uB 304 s [aR a,aR d,aR b,aB u] v) (mV v m) (nU m=i)))) 4 (gJ mode 5 (jC (mV (aR e) e) (nU e=i))) (dU mode 5 (gJ mode 6 (jC (mV (aR f) f) (nU f=i))) 6 (eW mode 7 (nV (fR 305 (aR s) k (xL (zJ8 s a d b))) (xM (zJ8 s a d b)) c)) (dU mode 7 (eW mode 8 (nV (fR 306 (aR s) k (xL (zW2 s a d b))) (xM (zW2 s a d b)) c)) 8 (gJ mode 9 (bS (cZ (uB 304 s [aR a,aR d,aR b,aB r] t) (fR 303 t (eY 1) (qK l q)) (rA (qK l q)=i)))) (dU mode 9 (eW mode 10 (nV (fR 307 (aR s) k (xL (zJx s a d b))) (xM (zJx s a d b)) c)) 10 (gJ mode 11 (lE (nV (mV (bI (f-e)) p) (nU p) c))) (gV (mode==11) (aG (nV (mV (bI (g-n)) o) (nU o) c))))))))) ?_;delta eS cZ aG aH eW gJ gV cR dU aB bS cE bH aR gH bJ dH bI eY uB fR jC lE qI kO xL xM mV nU nV qK;simp only [sS,zZo];have W:∀ x:Int,0<=x->x<18446744073709551616->wrap .u64 x=x:=λx x0 x1=>wQd x ⟨x0,by omega⟩;have fin:∀ (x:Ex) (n X:Int),x=zZj n->0<=n->n<18446744073709551616->X=n->(0=hiW x.p/\X=loW x.p/\0=x.q/\0=x.r/\1=x.d):=λx n X e n0 n1 hX=>by
   rw [e,hX];exact ⟨(zYu n0 n1).symm,(zX8 n0 n1).symm,rfl,rfl,rfl⟩
  have fin2:∀ (x:Ex) (n e X D:Int),x=⟨n,0,0,e⟩->0<=n->n<18446744073709551616->X=n->D=e->(0=hiW x.p/\X=loW x.p/\0=x.q/\0=x.r/\D=x.d):=λx n e X D q n0 n1 hX hD=>by
   rw [q,hX,hD];exact ⟨(zYu n0 n1).symm,(zX8 n0 n1).symm,rfl,rfl,rfl⟩
  have a0:0<=a:=by omega
  have b0:0<=b:=by omega
  have sb:=zQc (x:=s) (y:=b) (A:=65535) (B:=65535) h0 (by omega) b0 hb;have da:=zQc (x:=d) (y:=a) (A:=65535) (B:=65535) h2 (by omega) a0 ha;have sd:=zQc (x:=s) (y:=d) (A:=65535) (B:=65535) h0 (by omega) h2 (by omega);have ab:=zQc (x:=a) (y:=b) (A:=65535) (B:=65535) a0 ha b0 hb;have aa:=zQc (x:=a) (y:=a) (A:=65535) (B:=65535) a0 ha a0 ha;have aad:=zQc (x:=a*a) (y:=d) (A:=4294836225) (B:=65535) aa.1 (by omega) h2 (by omega);have ba:=zQc (x:=b) (y:=a-s) (A:=65535) (B:=65535) b0 hb (by omega) (by omega);have bd:=zQc (x:=b-d) (y:=a) (A:=65535) (B:=65535) (by omega) (by omega) a0 ha;have bda:=zQc (x:=(b-d)*a) (y:=a) (A:=4294836225) (B:=65535) bd.1 (by omega) a0 ha;have abs:=zQc (x:=a*b) (y:=s) (A:=4294836225) (B:=65535) ab.1 (by omega) h0 (by omega);have s2:=zQc (x:=2*s) (y:=d) (A:=131070) (B:=65535) (by omega) (by omega) h2 (by omega);have hu:=zZk (mode:=mode) h0 h1 h2 h3;simp only [W (s*b) sb.1 (by omega),W (d*a) da.1 (by omega),W (s*d) sd.1 (by omega),W (2*s) (by omega) (by omega),W (2*d) (by omega) (by omega),W (2*s*d) s2.1 (by omega),W (s*b+d*a) (by omega) (by omega),jJU,jJV];have fn:∀ n X:Int,zQi mode s a d b=zZj n->(0<=n->n<=a*b->X=n)->(0=hiW (zQi mode s a d b).p/\X=loW (zQi mode s a d b).p/\0=(zQi mode s a d b).q/\0=(zQi mode s a d b).r/\1=(zQi mode s a d b).d):=λn X e hX=>by
   have u:=hu;rw [e] at u;have n0:0<=n:=u.ok.p;have n1:n<=a*b*1:=u.p;exact fin _ n X e n0 (by omega) (hX n0 (by omega))
  have fex:∀ x y:Ex,y=x->(hiW x.p=hiW y.p/\loW x.p=loW y.p/\x.q=y.q/\x.r=y.r/\x.d=y.d):=λx y h=>by rw [h]; exact ⟨rfl,rfl,rfl,rfl,rfl⟩
  have H1:=zGx h0 h1 h2 h3;have H2:=zGx h2 h3 h0 h1;have hT:=λtw h=>jQs s a d b tw h0 h1 h2 h3 ha hb h;refine ⟨λc=>?_,λc1=>?_⟩
  ·have c:mode=1:=by simpa using c
   exact fn (s*b) _ (by rw [c]; rfl) λ_ _=>rfl
  refine ⟨λc=>?_,λc2=>?_⟩
  ·have c:mode=2:=by simpa using c
   exact fn (s*d) _ (by rw [c]; rfl) λ_ _=>rfl
  refine ⟨λc=>?_,λc3=>?_⟩
  ·have c:mode=3:=by simpa using c
   exact fn (s*b+d*a-s*d) _ (by rw [c]; rfl) λq0 q1=>W _ q0 (by omega)
  refine ⟨λc=>?_,λc4=>?_⟩
  ·have c:mode=4:=by simpa using c
   have:=hT (decide (2*d<=b)) (by rw [jJV]; exact H2.1);rw [jJV] at this;exact ⟨this,fn (zKs d b s a) _ (by rw [c]; rfl) λ_ _=>rfl⟩
  refine ⟨λc=>?_,λc5=>?_⟩
  ·have c:mode=5:=by simpa using c
   exact fn (min (s*b) (d*a)) _ (by rw [c]; rfl) λ_ _=>rfl
  refine ⟨λc=>?_,λc6=>?_⟩
  ·have c:mode=6:=by simpa using c
   exact fn (max (s*b) (d*a)) _ (by rw [c]; rfl) λ_ _=>rfl
  refine ⟨λc=>?_,λc7=>?_⟩
  ·have c:mode=7:=by simpa using c
   exact ⟨zHS s a d b h0 h1 h2 h3 ha hb,fex _ _ (by rw [c]; rfl)⟩
  refine ⟨λc=>?_,λc8=>?_⟩
  ·have c:mode=8:=by simpa using c
   exact ⟨jQt s a d b h0 h1 h2 h3 ha hb,fex _ _ (by rw [c]; rfl)⟩
  refine ⟨λc=>?_,λc9=>?_⟩
  ·have c:mode=9:=by simpa using c
   have:=hT (decide (2*s<=a)) (by rw [jJU]; exact H1.1);rw [jJU] at this;exact ⟨this,fn (zKs s a d b) _ (by rw [c]; rfl) λ_ _=>rfl⟩
  refine ⟨λc=>?_,λc10=>?_⟩
  ·have c:mode=10:=by simpa using c
   exact ⟨jQr s a d b h0 h1 h2 h3 ha hb,fex _ _ (by rw [c]; rfl)⟩
  refine ⟨λc=>?_,λc11=>?_⟩
  ·have c:mode=11:=by simpa using c
   exact fn (max (s*b) (d*a)-min (s*b) (d*a)) _ (by rw [c]; rfl) λq0 q1=>W _ q0 (by omega)
  ·have n:∀ k:Int,(mode==k)=false->¬ mode=k:=λk h=>by simpa using h
   exact fn (s*b+d*a-2*s*d) _ (by unfold zQi; rw [if_neg (n _ c1),if_neg (n _ c2),if_neg (n _ c3),if_neg (n _ c4),if_neg (n _ c5),if_neg (n _ c6),if_neg (n _ c7),if_neg (n _ c8),if_neg (n _ c9),if_neg (n _ c10),if_neg (n _ c11)]) λq0 q1=>W _ q0 (by omega)
theorem zVe (mode s a d b:Int):Ans prog 273 [rJ (mode),rD (dK s),rD (dK a),rD (dK d),rD (dK b)] (rT [rA [DV.int .u64 (hiW (blE mode s a d b).p),DV.int .u64 (loW (blE mode s a d b).p),DV.int .u64 ((blE mode s a d b).q),DV.int .u64 ((blE mode s a d b).r),DV.int .u64 ((blE mode s a d b).d)],rD (dQ (blK mode s a d b))]):=
 zQa (Γ:=jYw) aL zQb Tryz.func273 rfl (nL rfl) λhwf=>by
  refine Eq.mpr (by kernel_rfl:_=(let c:=blE mode s a d b;let f:=c.p;let g:=[cE (hiW f),cE (loW f),cE c.q,cE c.r,cE c.d];let e:=dG g (blK mode s a d b);let h:=kO 0 0 0 0 0;let i:=nT h (aB false);let j:=zQi mode (bH s) (bH a) (bH d) (bH b);yV (fC 217 mode (aB (rO mode))) (pA (rO mode) (xC s a (fU d b (qJ h (dG g (blK mode s a d b))) (gT d b->aG (aK (Ans prog 290 [rD (DV.int IntKind.i64 mode),bI s,bI a,bI d,bI b] (xM j)) (mU (xL j)=e)))) (fP (decide (s>a)) false (i=e)))) (jN (rO mode) (bX i e)))) ?_;delta eS aG aK bX fU nJ gT aB aV fC fP cE bH aR gH bI rO sO yV xC pA kO nT dG jN mU qJ xL xM;simp only [sS,zZo];simp only [RV.wfs,RV.wf,DV.wf,DV.wfs] at hwf;have mi:IntKind.min .u64=0:=rfl;have ma:IntKind.max .u64=18446744073709551615:=rfl;have mj:IntKind.min .u16=0:=rfl;have mb:IntKind.max .u16=65535:=rfl;simp only [mi,ma,mj,mb] at hwf;have W:∀ x:Int,0<=x->x<18446744073709551616->wrap .u64 x=x:=λx x0 x1=>wQd x ⟨x0,by omega⟩;obtain ⟨_,⟨s0,s1⟩,⟨a0,a1⟩,⟨d0,d1⟩,⟨b0,b1⟩,_⟩:=hwf;simp only [W s s0 (by omega),W a a0 (by omega),W d d0 (by omega),W b b0 (by omega)];have bad:¬ (isNm mode=true/\s<=a/\d<=b)->(0=hiW (blE mode s a d b).p/\0=loW (blE mode s a d b).p/\0=(blE mode s a d b).q/\0=(blE mode s a d b).r/\0=(blE mode s a d b).d)/\false=blK mode s a d b:=λhn=>by
   have:blK mode s a d b=false:=by
    cases e:blK mode s a d b with
    | false=>rfl
    | true=>
     simp only [blK,wQf,wQh] at e;exact absurd ⟨e.1,e.2.1,e.2.2⟩ hn
   have e2:blE mode s a d b=.zero:=by unfold blE; rw [this]; rfl
   rw [this,e2]; exact ⟨⟨rfl,rfl,rfl,rfl,rfl⟩,rfl⟩
  refine ⟨zQA _,λhm=>⟨λhsa=>⟨λhdb=>?_,λhdb=>?_⟩,λhsa=>?_⟩,λhm=>?_⟩
  case refine_1=>exact bad λh=>by omega
  case refine_3=>exact bad λh=>by omega
  case refine_4=>exact bad λh=>hm (wQ2 h.1)
  have h1:s<=a:=by omega
  have h2:d<=b:=by omega
  have k:blK mode s a d b=true:=by unfold blK; rw [show isNm mode=true from decide_eq_true hm,decide_eq_true h1,decide_eq_true h2]; rfl
  have e:blE mode s a d b=zQi mode s a d b:=by unfold blE; rw [if_pos k]
  rw [k,e];exact ⟨jQq mode s a d b s0 h1 d0 h2 a1 b1,⟨rfl,rfl,rfl,rfl,rfl⟩,rfl⟩
def zUF:Gam:=jYw.add [.p 263 (λ| [.agg [.int _ ph,.int _ pl,.int _ q,.int _ r,.int _ d]]=>some (RV.tup [RV.d (DV.int .u64 (⟨wV ph pl,q,r,d⟩:Ex).half),RV.d (dQ true)]) | _=>none),
 .p 273 (λ| [.d (.int _ mode),.d (.int _ s),.d (.int _ a),.d (.int _ d),.d (.int _ b)]=>let c:=(blE mode s a d b); some (RV.tup [RV.agg [DV.int .u64 (hiW c.p),DV.int .u64 (loW c.p),DV.int .u64 c.q,DV.int .u64 c.r,DV.int .u64 c.d],RV.d (dQ (blK mode s a d b))]) | _=>none),
 .p 280 (λ| [.d (.int _ f),.d (.int _ a),.d (.int _ m)]=>some (RV.d (dK (facF f a m))) | _=>none),
 .p 264 (λ| [.d (.int _ op),.d (.int _ a),.d (.int _ b),.d (.int _ m)]=>some (RV.tup [RV.d (dK (fcA op a b m)),RV.d (dK (fcB op a b m)),RV.d (dQ (fcK op a b m))]) | _=>none),
 .p 265 (λ| [.d (.int _ x),.d (.int _ p),.d (.int _ y),.d (.int _ q),.d (.int _ m)]=>some (RV.d (dK (wrap .u16 (zZb (x*p+y*q) m)))) | _=>none),
 .p 246 (λ| [.d (.int _ op),.d (.int _ a),.d (.int _ b),.d (.int _ m)]=>some (RV.d (dK (zXF op a b m))) | _=>none),
 .p 247 (λ| [.d (.int _ op),.d (.int _ f),.d (.int _ g),.d (.int _ m)]=>some (RV.d (dK (zYz op f g m))) | _=>none),
 .p 262 (λ| [.d (.int _ op),.d (.int _ mode),.d (.int _ m),.d (.int _ s),.d (.int _ a),.d (.int _ d),.d (.int _ b)]=>let c:=(vlE op mode m s a d b); some (RV.tup [RV.agg [DV.int .u64 (hiW c.p),DV.int .u64 (loW c.p),DV.int .u64 c.q,DV.int .u64 c.r,DV.int .u64 c.d],RV.d (dQ (vlK op mode m s a d b))]) | _=>none),
 .p 245 (λ| [.d (.int _ op),.d (.int _ mode),.d (.int _ m),.d (.int _ s),.d (.int _ a),.d (.int _ d),.d (.int _ b)]=>some (RV.tup [RV.d (dK (colS op mode m s a d b)),RV.d (dQ true)]) | _=>none),
 .p 274 (λ| [.d (.int _ m)]=>some (RV.d (dQ (zZ1 m))) | _=>none),
 .p 277 (λ| [.d (.int _ a),.d (.int _ b),.d (.int _ c),.d (.int _ d),.d (.int _ e),.d (.int _ f)]=>some (RV.d (DV.int .u64 (a*b+c*d+e*f))) | _=>none),
 .p 259 (λ| [.d (.int _ mode),.d (.int _ m),.d (.int _ s),.d (.int _ a),.d (.int _ f),.d (.int _ c),.d (.int _ d),.d (.int _ b)]=>some (RV.tup [RV.d (dK (knoC mode m s a f c d b)),RV.d (dQ true)]) | _=>none),
 .p 260 (λ| [.d (.int _ m),.d (.int _ a),.d (.int _ f),.d (.int _ acc),.d (.int _ b)]=>some (RV.tup [RV.d (dK (knoA m a f acc b)),RV.d (dQ true)]) | _=>none),
 .p 261 (λ| [.d (.int _ m),.d (.int _ a),.d (.int _ f),.d (.int _ own)]=>some (RV.tup [RV.d (dK (knoA m a f own 0)),RV.d (dQ true)]) | _=>none)]
theorem zJa (f a m:Int) (h:a<=m):Ans prog 280 [rJ (f),rD (dK a),rD (dK m)] (rD (dK (facF f a m))):=
 zQa (Γ:=zUF) aL zQb Tryz.func280 rfl (nL rfl) λhwf=>by
  refine Eq.mpr (by kernel_rfl:_=(let b:=facF f a m;True/\kZ f 1 (lZ m b) (dU f 1 (eW f 2 (lZ a b)) 2 ((f==3)=true->True/\True/\True/\True/\lZ (kU (m-a)) b) (nA f 3 (aP 0=aP b))))) ?_;delta eS bY aE aP eW lZ nA cR kU dU kZ;simp only [sS];unfold facF;refine ⟨λh=>?_,λh1=>⟨λh=>?_,λh2=>⟨λh=>?_,λh3=>?_⟩⟩⟩
  ·rw [if_pos (by simpa using h)]
  ·rw [if_neg (by simpa using h1),if_pos (by simpa using h)]
  ·rw [if_neg (by simpa using h1),if_neg (by simpa using h2),if_pos (by simpa using h)];simp only [RV.wfs,RV.wf,DV.wf] at hwf;have mj:IntKind.min .u16=0:=rfl;have mb:IntKind.max .u16=65535:=rfl;simp only [mj,mb] at hwf;exact wQ8 _ ⟨by omega,by omega⟩
  ·rw [if_neg (by simpa using h1),if_neg (by simpa using h2),if_neg (by simpa using h3)]
theorem zYL (op a b m:Int):Ans prog 264 [rJ (op),rD (dK a),rD (dK b),rD (dK m)] (rT [rD (dK (fcA op a b m)),rD (dK (fcB op a b m)),rD (dQ (fcK op a b m))]):=
 zQa (Γ:=zUF) aL zQb Tryz.func264 rfl (nL rfl) λhwf=>by
  refine Eq.mpr (by kernel_rfl:_=(let c:=rT [aP (fcA op a b m),aP (fcB op a b m),aB (fcK op a b m)];let d:=rT [aP 0,aP 0,aB false];let e:=facF (zX4 op 2) a m;let f:=aP (facF (zX4 op 1) b m);aV (dN (fC 216 op (dG (DV.str (zZt op)::zO (zX4 op 1) (zX4 op 2) (zX4 op 3)) (rO op))) (bY (sO (rO op)) (xC a m (fU b m (True/\True/\d=c) (xX b m (pR (Ans prog 280 (rD (DV.int IntKind.i64 (zX4 op 1))::fW b m []) f) (Ans prog 280 (rD (DV.int IntKind.i64 (zX4 op 2))::fW a m []) (aP e)) (dA (rT [f,aP e,aB true]=c))))) (fP (decide (a>m)) false (d=c))) (jN (rO op) (bX d c)))))) ?_;delta eS bY aE aP aH aK dN dA bX fU nJ gT aB aV fC pR fP rO sO xX xC fW nT dG jN zO;simp only [sS];simp only [RV.wfs,RV.wf,DV.wf,DV.wfs] at hwf;have mi:IntKind.min .u64=0:=rfl;have ma:IntKind.max .u64=18446744073709551615:=rfl;have mj:IntKind.min .u16=0:=rfl;have mb:IntKind.max .u16=65535:=rfl;simp only [mi,ma,mj,mb] at hwf;have fbad:¬ (isNm op=true/\a<=m/\b<=m)->fcK op a b m=false/\fcA op a b m=0/\fcB op a b m=0:=λhn=>by
   have:fcK op a b m=false:=by
    cases e:fcK op a b m with
    | false=>rfl
    | true=>
     simp only [fcK,wQf,wQh] at e;exact absurd ⟨e.1,e.2.1,e.2.2⟩ hn
   exact ⟨this,by unfold fcA; rw [this]; rfl,by unfold fcB; rw [this]; rfl⟩
  have fgood:isNm op=true->a<=m->b<=m->fcK op a b m=true/\fcA op a b m=facA op a b m/\fcB op a b m=facB op a b m:=λh1 h2 h3=>by
   have:fcK op a b m=true:=by unfold fcK; rw [h1,decide_eq_true h2,decide_eq_true h3]; rfl
   exact ⟨this,by unfold fcA; rw [if_pos this],by unfold fcB; rw [if_pos this]⟩
  obtain ⟨_,⟨a0,a1⟩,⟨b0,b1⟩,⟨m0,m1⟩,_⟩:=hwf;have OF:=zQe op;refine ⟨OF,λho=>⟨λhx=>⟨λhy=>?_,λhy=>?_⟩,λhx=>?_⟩,λho=>?_⟩
  case refine_1=>obtain ⟨e1,e2,e3⟩:=fbad (λh=>by omega); rw [e1,e2,e3]; exact ⟨rfl,rfl,rfl⟩
  case refine_3=>obtain ⟨e1,e2,e3⟩:=fbad (λh=>by omega); rw [e1,e2,e3]; exact ⟨rfl,rfl,rfl⟩
  case refine_4=>obtain ⟨e1,e2,e3⟩:=fbad (λh=>ho (wQ2 h.1)); rw [e1,e2,e3]; exact ⟨rfl,rfl,rfl⟩
  obtain ⟨e1,e2,e3⟩:=fgood (decide_eq_true ho) (by omega) (by omega);obtain ⟨k1,k2⟩:=yQZ ho a b m;rw [e1,e2,e3];exact ⟨zJa _ _ _ (by omega),zJa _ _ _ (by omega),k1,k2,rfl⟩
def jO (a b:Int):Int:=kU (zZb a b)
def vD (a b:Int):Int:=bJ (bH a) (bH b)
theorem zYI (x p y q m:Int):Ans prog 265 [rD (dK x),rD (dK p),rD (dK y),rD (dK q),rD (dK m)] (rD (dK (wrap .u16 (zZb (x*p+y*q) m)))):=
 zQa (Γ:=zUF) aL zQb Tryz.func265 rfl (nL rfl) λhwf=>by
  refine Eq.mpr (by kernel_rfl:_=(let a:=vD x p+vD y q;let b:=bH a;True/\lE (aK (Ans prog 228 [bI a,bI m] (aR (zZb b (bH m)))) (lZ (jO b (bH m)) (jO (x*p+y*q) m))))) ?_;delta eS aE aP aG aK lZ kU cE bH aR bJ bI lE jO vD;simp only [sS];simp only [RV.wfs,RV.wf,DV.wf,DV.wfs] at hwf;have mi:IntKind.min .u64=0:=rfl;have ma:IntKind.max .u64=18446744073709551615:=rfl;have mj:IntKind.min .u16=0:=rfl;have mb:IntKind.max .u16=65535:=rfl;simp only [mi,ma,mj,mb] at hwf;have W:∀ x:Int,0<=x->x<18446744073709551616->wrap .u64 x=x:=λx x0 x1=>wQd x ⟨x0,by omega⟩;obtain ⟨⟨x0,x1⟩,⟨p0,p1⟩,⟨y0,y1⟩,⟨q0,q1⟩,⟨m0,m1⟩,_⟩:=hwf;have e1:=zQc x0 x1 p0 p1;have e2:=zQc y0 y1 q0 q1;rw [W x x0 (by omega),W p p0 (by omega),W y y0 (by omega),W q q0 (by omega),W m m0 (by omega),W (x*p) e1.1 (by omega),W (y*q) e2.1 (by omega),W (x*p+y*q) (by omega) (by omega)];exact ⟨zQy _ _,rfl⟩
def mZ (a b c d:Int):List RV:=fW a b (fW c d [])
theorem zJo (op a b m:Int) (hf:zZ1 m=true) (ho:isNm op=true) (h1:a<=m) (h3:b<=m):Ans prog 246 [rJ (op),rD (dK a),rD (dK b),rD (dK m)] (rD (dK (zXF op a b m))):=
 zQa (Γ:=zUF) aL zQb Tryz.func246 rfl (nL rfl) λhwf=>by
  refine Eq.mpr (by kernel_rfl:_=(let c:=fcB op a b m;let d:=fcA op a b m;let e:=aP (jO (d*a+c*b) m);lX (vC 264 op a (fW b m []) (rT [aP d,aP c,aB (fcK op a b m)])) (aG (aH (Ans prog 265 (aP d::mZ a c b m) e) (e=aP (zXF op a b m)))))) ?_;delta eS aE aP aG aH aK lX vC kU aB fW mZ jO;simp only [sS];simp only [RV.wfs,RV.wf,DV.wf,DV.wfs] at hwf;have mi:IntKind.min .u64=0:=rfl;have ma:IntKind.max .u64=18446744073709551615:=rfl;have mj:IntKind.min .u16=0:=rfl;have mb:IntKind.max .u16=65535:=rfl;simp only [mi,ma,mj,mb] at hwf;have W:∀ x:Int,0<=x->x<18446744073709551616->wrap .u64 x=x:=λx x0 x1=>wQd x ⟨x0,by omega⟩;have U:∀ x:Int,0<=x->x<=65535->wrap .u16 x=x:=λx x0 x1=>wQ8 x ⟨x0,by omega⟩;have fbad:¬ (isNm op=true/\a<=m/\b<=m)->fcK op a b m=false/\fcA op a b m=0/\fcB op a b m=0:=λhn=>by
   have:fcK op a b m=false:=by
    cases e:fcK op a b m with
    | false=>rfl
    | true=>
     simp only [fcK,wQf,wQh] at e;exact absurd ⟨e.1,e.2.1,e.2.2⟩ hn
   exact ⟨this,by unfold fcA; rw [this]; rfl,by unfold fcB; rw [this]; rfl⟩
  have fgood:isNm op=true->a<=m->b<=m->fcK op a b m=true/\fcA op a b m=facA op a b m/\fcB op a b m=facB op a b m:=λh1 h2 h3=>by
   have:fcK op a b m=true:=by unfold fcK; rw [h1,decide_eq_true h2,decide_eq_true h3]; rfl
   exact ⟨this,by unfold fcA; rw [if_pos this],by unfold fcB; rw [if_pos this]⟩
  obtain ⟨_,⟨a0,a1⟩,⟨b0,b1⟩,⟨m0,m1⟩,_⟩:=hwf;have hm:=(zQ4 hf).1;obtain ⟨e1,e2,e3⟩:=fgood ho h1 h3;have fa:=zYL op a b m;rw [e1,e2,e3] at fa;rw [e1,e2,e3];have al:=zHY (op:=op) hm a0 h1 b0 h3;have aS:=zX1 (op:=op) (a:=a) (f:=m) (b:=b) (g:=m) hm a0 h1 (Int.le_refl _) b0 h3 (Int.le_refl _);have uu:=U (zXF op a b m) al (by omega);exact ⟨fa,zYI _ _ _ _ _,uu⟩
theorem zJn (op f g m:Int) (hf:zZ1 m=true) (ho:isNm op=true) (h1:f<=m) (h3:g<=m):Ans prog 247 [rJ (op),rD (dK f),rD (dK g),rD (dK m)] (rD (dK (zYz op f g m))):=
 zQa (Γ:=zUF) aL zQb Tryz.func247 rfl (nL rfl) λhwf=>by
  refine Eq.mpr (by kernel_rfl:_=(let b:=zYz op f g m;let c:=aP 0=aP b;let a:=zX4 op 3;let d:=aP (jO (f*g+(0:Int)*0) m);let e:=jO (m*f+kU (m-f)*g) m;True/\True/\aM (fC 216 op (dG (DV.str (zZt op)::zO (zX4 op 1) (zX4 op 2) a) (rO op))) (True/\True/\True/\True/\bY (gT f m) (True/\True/\True/\(gT g m->mO (m==0) c (kZ a 1 (lZ f b) (cR (a==1) (eW a 2 (lZ g b)) (dU a 2 (gJ a 3 (jC (Ans prog 265 (aP m::mZ f (kU (m-f)) g m) (aP e)) (lZ e b))) 3 (gJ a 4 (aH (Ans prog 265 (aP f::mZ g 0 0 m) d) (d=aP b))) (nA a 4 c)))))/\jV (decide (g>m)) c) (fP (decide (f>m)) false c)))) ?_;delta eS bY aE aP aH eW gJ lZ nA aM gT cR kU dU aB fC jV fP mO kZ rO jC fW nT dG zO mZ jO;simp only [sS];simp only [RV.wfs,RV.wf,DV.wf,DV.wfs] at hwf;have mi:IntKind.min .u64=0:=rfl;have ma:IntKind.max .u64=18446744073709551615:=rfl;have mj:IntKind.min .u16=0:=rfl;have mb:IntKind.max .u16=65535:=rfl;simp only [mi,ma,mj,mb] at hwf;have W:∀ x:Int,0<=x->x<18446744073709551616->wrap .u64 x=x:=λx x0 x1=>wQd x ⟨x0,by omega⟩;have U:∀ x:Int,0<=x->x<=65535->wrap .u16 x=x:=λx x0 x1=>wQ8 x ⟨x0,by omega⟩;obtain ⟨_,⟨f0,f1⟩,⟨g0,g1⟩,⟨m0,m1⟩,_⟩:=hwf;have hm:=(zQ4 hf).1;have ho':=wQ2 ho;have sh:=zX1 (op:=op) (a:=0) (f:=f) (b:=0) (g:=g) hm (Int.le_refl _) f0 h1 (Int.le_refl _) g0 h3;have s0:=zHY (op:=op) (a:=0) (b:=0) hm (Int.le_refl _) (by omega) (Int.le_refl _) (by omega);have s1:0<=zYz op f g m/\zYz op f g m<=65535:=by omega
  have e:=yQt ho' f g m;rw [U (m-f) (by omega) (by omega),wQ9,wZJ,<- e];rw [<- e] at s1;unfold shpF at s1 |-;have uu:=λx (h:0<=x/\x<=65535)=>U x h.1 h.2;have os:=zYI m f (m-f) g m;have ot:=zYI f g 0 0 m;rw [wQ9,wZJ] at ot;refine ⟨zQe op,λ_=>⟨λ_=>⟨λh=>absurd (show m=0 by simpa using h) (by omega),λ_=>⟨λc=>?_,λc1=>⟨λc=>?_,λc2=>⟨λc=>?_,λc3=>⟨λc=>?_,λc4=>?_⟩⟩⟩⟩⟩,λh=>absurd h3 (by omega)⟩,λh=>absurd h1 (by omega)⟩
  ·rw [if_pos (by simpa using c)]
  ·rw [if_neg (by simpa using c1),if_pos (by simpa using c)]
  ·rw [if_neg (by simpa using c1),if_neg (by simpa using c2),if_pos (by simpa using c)] at s1 |-;exact ⟨os,uu _ s1⟩
  ·rw [if_neg (by simpa using c1),if_neg (by simpa using c2),if_neg (by simpa using c3),if_pos (by simpa using c)] at s1 |-;exact ⟨ot,uu _ s1⟩
  ·rw [if_neg (by simpa using c1),if_neg (by simpa using c2),if_neg (by simpa using c3),if_neg (by simpa using c4)]
theorem zZm (m:Int):Ans prog 274 [rD (dK m)] (rD (dQ (zZ1 m))):=
 zQa (Γ:=zUF) aL zQb Tryz.func274 rfl (nL rfl) λhwf=>by
  refine Eq.mpr (by kernel_rfl:_=(True/\gP ((m==255)=false) (aB (m==65535)=aB (zZ1 m)) (jV (m==255) (oN (zZ1 m))))) ?_;delta eS aB jV gP oN;simp only [sS];unfold zZ1;grind
theorem zKF (a b c d e f:Int):Ans prog 277 [rD (dK a),rD (dK b),rD (dK c),rD (dK d),rD (dK e),rD (dK f)] (rD (DV.int .u64 (a*b+c*d+e*f))):=
 zQa (Γ:=zUF) aL zQb Tryz.func277 rfl (nL rfl) λhwf=>by
  refine Eq.mpr (by kernel_rfl:_=(aV (aG (aG (bI (bH (vD a b+vD c d)+vD e f)=aR (a*b+c*d+e*f)))))) ?_;delta eS aG aV cE bH aR bJ bI vD;simp only [sS,zZm];simp only [RV.wfs,RV.wf,DV.wf,DV.wfs] at hwf;have mi:IntKind.min .u64=0:=rfl;have ma:IntKind.max .u64=18446744073709551615:=rfl;have mj:IntKind.min .u16=0:=rfl;have mb:IntKind.max .u16=65535:=rfl;simp only [mi,ma,mj,mb] at hwf;have W:∀ x:Int,0<=x->x<18446744073709551616->wrap .u64 x=x:=λx x0 x1=>wQd x ⟨x0,by omega⟩;obtain ⟨⟨a0,a1⟩,⟨b0,b1⟩,⟨c0,c1⟩,⟨d0,d1⟩,⟨e0,e1⟩,⟨f0,f1⟩,_⟩:=hwf;have q1:=zQc a0 a1 b0 b1;have q2:=zQc c0 c1 d0 d1;have q3:=zQc e0 e1 f0 f1;rw [W a a0 (by omega),W b b0 (by omega),W c c0 (by omega),W d d0 (by omega),W e e0 (by omega),W f f0 (by omega),W (a*b) q1.1 (by omega),W (c*d) q2.1 (by omega),W (e*f) q3.1 (by omega),W (a*b+c*d) (by omega) (by omega),W (a*b+c*d+e*f) (by omega) (by omega)]
def xY (a:Nat) (b:Int) (c:Nat) (d:Int) (e:List (Nat × AV)):List (Nat × AV):=aGU a b c (aE d) e
def aIE (a:Nat) (b:Int) (c:Nat) (d:Int) (e:List (Nat × AV)) (f:Nat) (g:List Cl) (h:Nat) (i:List Cl):Snap:=qQ (xY a b c d e) f g h i
theorem jZV (op mode m s a d b:Int):Ans prog 262 [rJ (op),rJ (mode),rD (dK m),rD (dK s),rD (dK a),rD (dK d),rD (dK b)] (rT [rA [DV.int .u64 (hiW (vlE op mode m s a d b).p),DV.int .u64 (loW (vlE op mode m s a d b).p),DV.int .u64 ((vlE op mode m s a d b).q),DV.int .u64 ((vlE op mode m s a d b).r),DV.int .u64 ((vlE op mode m s a d b).d)],rD (dQ (vlK op mode m s a d b))]):=
 zQa (Γ:=zUF) (let c:=blE mode s a d b;let e:=c.p;vQ (Ann.cut (Inv.mk Unit (λ(i:Unit)=>vlK op mode m s a d b=true) (λ(h:Unit)=>aIE 2 m 3 s (xY 5 d 6 b (yK 14 16 (fcA op a b m) (vM 17 (fcB op a b m) 19 19 []))) 14 (aEU 0 (rL 0 0 (rL 0 0 []))) 19 (aEU (hiW e) (rL (loW e) c.q (rL c.r c.d [])))) (λ(g:Unit)=>(0:Nat))) aL (λ(f:Unit)=>aL))) zQb Tryz.func262 rfl (nL rfl) λhwf=>by
  refine Eq.mpr (by kernel_rfl:_=(let g:=vlK op mode m s a d b;let n:=xL (vlE op mode m s a d b);let i:=dG n g;let c:=blE mode s a d b;let e:=c.d;let f:=fcA op a b m;let h:=fcB op a b m;let o:=bH h;let p:=bJ (vD d m) e;let q:=p*o;let r:=fS q;let t:=bH f;let u:=loW c.p;let v:=vD (kU (m-b)) s;let w:=qI v e u;let x:=fS (w*t);let y:=addW x r;let z:=w*t;let j:=kO 0 0 0 0 0;let A:=nT j (aB false);let k:=fcK op a b m;let l:=blK mode s a d b;let B:=xL c;let C:=(∃ E:Unit,gS (g=true) (eC (aE m) (bZ s) (bZ d/\bZ b/\eS (0:Nat)/\bZ f/\aW (bZ h) (eS (0:Nat)))) j B);jC (vC 264 op a (fW b m []) (rT [aP f,aP h,aB k])) (aG (bV (Ans prog 273 (rD (DV.int IntKind.i64 mode)::mZ s a d b) (dG B l)) (fZ (vB k (True/\True/\True/\(sO l->oL (m !=255) (True/\True/\True/\((m !=65535)=true->True/\qJ j (dG n g))/\((m !=65535)=false->C)) C)/\fP (!l) false (A=i)) (jN k (bX A i))) (∀ D:Unit,g=true->True/\True/\True/\aV (lE (aG (aCV (bI (bJ v e+u)) [bI f] z (aCV (bI (vD d m*e)) [bI h] (p*o) (aM (bF 275 (cX z) [jY q] (aCU x r)) (lE (aG (mU [cE (hiW y),cE (loW y),cE (bJ (bH f) c.q),cE c.r,cE (bJ (bH (bH m*bH m)) e)]=i)))))))))))))) ?_;delta eS aE aF aP aG aH eC aM bZ bX vC aW bF bV kU aB aV fZ fP cE bH aR gH cX bJ bI jY mP oL sO gI fR jC lE fW gS fS qI kO nT dG jN mU qJ xL mZ vB vD aCU aCV;simp only [sS,zZm];simp only [RV.wfs,RV.wf,DV.wf,DV.wfs] at hwf;have mi:IntKind.min .u64=0:=rfl;have ma:IntKind.max .u64=18446744073709551615:=rfl;have mj:IntKind.min .u16=0:=rfl;have mb:IntKind.max .u16=65535:=rfl;simp only [mi,ma,mj,mb] at hwf;have W:∀ x:Int,0<=x->x<18446744073709551616->wrap .u64 x=x:=λx x0 x1=>wQd x ⟨x0,by omega⟩;have U:∀ x:Int,0<=x->x<=65535->wrap .u16 x=x:=λx x0 x1=>wQ8 x ⟨x0,by omega⟩;have fbad:¬ (isNm op=true/\a<=m/\b<=m)->fcK op a b m=false/\fcA op a b m=0/\fcB op a b m=0:=λhn=>by
   have:fcK op a b m=false:=by
    cases e:fcK op a b m with
    | false=>rfl
    | true=>
     simp only [fcK,wQf,wQh] at e;exact absurd ⟨e.1,e.2.1,e.2.2⟩ hn
   exact ⟨this,by unfold fcA; rw [this]; rfl,by unfold fcB; rw [this]; rfl⟩
  have fgood:isNm op=true->a<=m->b<=m->fcK op a b m=true/\fcA op a b m=facA op a b m/\fcB op a b m=facB op a b m:=λh1 h2 h3=>by
   have:fcK op a b m=true:=by unfold fcK; rw [h1,decide_eq_true h2,decide_eq_true h3]; rfl
   exact ⟨this,by unfold fcA; rw [if_pos this],by unfold fcB; rw [if_pos this]⟩
  obtain ⟨_,_,⟨m0,m1⟩,⟨s0,s1⟩,⟨a0,a1⟩,⟨d0,d1⟩,⟨b0,b1⟩,_⟩:=hwf;have FA:=zYL op a b m;have BE:=zVe mode s a d b;have k0:vlK op mode m s a d b=(blK mode s a d b&&(fcK op a b m&&zZ1 m)):=rfl;have no:vlK op mode m s a d b=false->(0=hiW (vlE op mode m s a d b).p/\0=loW (vlE op mode m s a d b).p/\0=(vlE op mode m s a d b).q/\0=(vlE op mode m s a d b).r/\0=(vlE op mode m s a d b).d)/\false=vlK op mode m s a d b:=λh=>by
   have:vlE op mode m s a d b=.zero:=by unfold vlE; rw [h]; rfl
   rw [this,h];exact ⟨⟨rfl,rfl,rfl,rfl,rfl⟩,rfl⟩
  refine ⟨FA,BE,⟨λkf=>⟨λkb=>⟨λq1=>⟨λq2=>?_,λq2=>⟨(),?_⟩⟩,λq1=>⟨(),?_⟩⟩,λkb=>?_⟩,λkf=>?_⟩,λk=>?_⟩
  ·refine no ?_
   have km:zZ1 m=false:=wX1 (by
    have q1:=wQP.1 q1;have q2:=wQP.1 q2
    omega)
   rw [k0,km,wXV,wXV]
  ·have q2:=wZv.1 q2;rw [k0,kb,kf,show zZ1 m=true from decide_eq_true (.inr q2)]; rfl
  ·have q1:=wZv.1 q1;rw [k0,kb,kf,show zZ1 m=true from decide_eq_true (.inl q1)]; rfl
  ·exact no (by rw [k0,kb]; rfl)
  ·exact no (by rw [k0,kf,Bool.false_and,wXV])
  have k':=k;rw [k0] at k';simp only [wQf] at k';obtain ⟨kb,kf,km⟩:=k';have ve:vlE op mode m s a d b=valS op mode m s a d b:=by unfold vlE; rw [if_pos k]
  have be:blE mode s a d b=zQi mode s a d b:=by unfold blE; rw [if_pos kb]
  simp only [blK,wQf,wQh] at kb;simp only [fcK,wQf,wQh] at kf;obtain ⟨kb1,kb2,kb3⟩:=kb;obtain ⟨kf1,kf2,kf3⟩:=kf;obtain ⟨e1,e2,e3⟩:=fgood kf1 kf2 kf3;obtain ⟨ok,t1,t2,t3,t4⟩:=zWg (mode:=mode) s0 kb2 d0 kb3 a1 b1;have tu:=(zZk (mode:=mode) s0 kb2 d0 kb3).p;have ⟨⟨f0,f1⟩,f2,f3⟩:=jK2 (op:=op) a0 kf2 b0 kf3;have tp:=ok.p;have tq:=ok.q;have td:=ok.d;rw [k,ve,be,e2,e3];have vS:valS op mode m s a d b=⟨(zQi mode s a d b).p*facA op a b m+(m-b)*s*facA op a b m*(zQi mode s a d b).d+facB op a b m*d*m*(zQi mode s a d b).d,facA op a b m*(zQi mode s a d b).q,(zQi mode s a d b).r,m*m*(zQi mode s a d b).d⟩:=rfl;rw [vS];clear vS ve be e1 e2 e3 fbad fgood k0 no FA BE k kb1 kf1 km;generalize facA op a b m=A at *;generalize facB op a b m=F at *;generalize (zQi mode s a d b).p=p at *;generalize (zQi mode s a d b).q=q at *;generalize (zQi mode s a d b).r=r at *;generalize (zQi mode s a d b).d=e at *;simp only at *;have q1:=zQc (x:=m-b) (y:=s) (A:=65535) (B:=65535) (by omega) (by omega) s0 s1;have qz:(m-b)*s+a*b<=4294836225:=by
   have z1:=Int.mul_le_mul_of_nonneg_left kb2 (show 0<=m-b by omega);have z2:=zQc a0 a1 m0 m1;have z3:(m-b)*a+a*b=a*m:=by grind
   omega
  have qe:((m-b)*s+a*b)*e<=4294836225*4294836225:=by
   have z1:=zQc a0 a1 b0 b1;exact (zQc (x:=(m-b)*s+a*b) (y:=e) (A:=4294836225) (B:=4294836225) (by omega) qz (by omega) t1).2
  have qd:((m-b)*s+a*b)*e=(m-b)*s*e+a*b*e:=by grind
  have q2:=zQc (x:=(m-b)*s) (y:=e) (A:=4294836225) (B:=4294836225) q1.1 (by omega) (by omega) t1;have q3:=zQc d0 d1 m0 m1;have q4:=zQc (x:=d*m) (y:=e) (A:=4294836225) (B:=4294836225) q3.1 (by omega) (by omega) t1;have q5:=zQc (x:=(m-b)*s*e+p) (y:=A) (A:=18446744073709551615) (B:=65535) (by omega) (by omega) f0 (by omega);have q6:=zQc (x:=d*m*e) (y:=F) (A:=18446744073709551615) (B:=65535) q4.1 (by omega) f2 (by omega);have q8:=zQc (x:=A) (y:=q) (A:=65535) (B:=65535) f0 (by omega) tq t3;have q9:=zQc (x:=m) (y:=m) (A:=65535) (B:=65535) m0 m1 m0 m1;have q10:=zQc (x:=m*m) (y:=e) (A:=4294836225) (B:=4294836225) q9.1 (by omega) (by omega) t1;have lp:loW p=p:=zX8 tp (by omega);have ad:∀ x y:Int,x+y<340282366920938463463374607431768211456->addW x y=x+y:=λx y h=>by unfold addW; rw [if_pos h]
  simp only [lp,U (m-b) (by omega) (by omega),W (m-b) (by omega) (by omega),W s s0 (by omega),W A f0 (by omega),W F f2 (by omega),W d d0 (by omega),W m m0 (by omega),W ((m-b)*s) q1.1 (by omega),W ((m-b)*s*e) q2.1 (by omega),W ((m-b)*s*e+p) (by omega) (by omega),W (d*m) q3.1 (by omega),W (d*m*e) q4.1 (by omega),W (A*q) q8.1 (by omega),W (m*m) q9.1 (by omega),W (m*m*e) q10.1 (by omega)];have AD:=zZW (hiW (((m-b)*s*e+p)*A)) (loW (((m-b)*s*e+p)*A)) (hiW (d*m*e*F)) (loW (d*m*e*F));refine ⟨zQL _ _,zQL _ _,AD,?_⟩;simp only [zYh];rw [ad _ _ (by omega),show ((m-b)*s*e+p)*A+d*m*e*F=p*A+(m-b)*s*A*e+F*d*m*e by grind]
  (repeat' (first | exact trivial | rfl | apply And.intro))
theorem zKp (op mode m s a d b:Int) (hf:zZ1 m=true) (ho:isNm op=true) (hm:isNm mode=true) (h1:s<=a) (h2:a<=m) (h3:d<=b) (h4:b<=m):Ans prog 245 [rJ (op),rJ (mode),rD (dK m),rD (dK s),rD (dK a),rD (dK d),rD (dK b)] (rT [rD (dK (colS op mode m s a d b)),rD (dQ true)]):=
 zQa (Γ:=zUF) aL zQb Tryz.func245 rfl (nL rfl) λhwf=>by
  refine Eq.mpr (by kernel_rfl:_=(let f:=iO (colS op mode m s a d b);let c:=vlE op mode m s a d b;let g:=Ex.half ⟨fS c.p,c.q,c.r,c.d⟩;let h:=xL c;let e:=vlK op mode m s a d b;aV (True/\True/\True/\True/\eV (Ans prog 262 (rD (DV.int IntKind.i64 op)::rD (DV.int IntKind.i64 mode)::aP m::mZ s a d b) (dG h e)) (bY (uR e) (kY (aP 0) f) (sO e->aK (bF 263 h [] (gR (aR g))) (aG (iO (kU g)=f))))))) ?_;delta eS bY aE aP aG aH aK eV bF kU aB aV cE aR gH gR iO kY sO fW fS kO nT dG xL uR mZ;simp only [sS,zZm];simp only [RV.wfs,RV.wf,DV.wf,DV.wfs] at hwf;have mi:IntKind.min .u64=0:=rfl;have ma:IntKind.max .u64=18446744073709551615:=rfl;have mj:IntKind.min .u16=0:=rfl;have mb:IntKind.max .u16=65535:=rfl;simp only [mi,ma,mj,mb] at hwf;have W:∀ x:Int,0<=x->x<18446744073709551616->wrap .u64 x=x:=λx x0 x1=>wQd x ⟨x0,by omega⟩;have U:∀ x:Int,0<=x->x<=65535->wrap .u16 x=x:=λx x0 x1=>wQ8 x ⟨x0,by omega⟩;obtain ⟨_,_,⟨m0,m1⟩,⟨s0,s1⟩,⟨a0,a1⟩,⟨d0,d1⟩,⟨b0,b1⟩,_⟩:=hwf;have hM:=(zQ4 hf).1;have kb:blK mode s a d b=true:=by unfold blK; rw [hm,decide_eq_true h1,decide_eq_true h3]; rfl
  have kf:fcK op a b m=true:=by unfold fcK; rw [ho,decide_eq_true h2,decide_eq_true h4]; rfl
  have k:vlK op mode m s a d b=true:=by unfold vlK; rw [kb,kf,hf]; rfl
  have ve:vlE op mode m s a d b=valS op mode m s a d b:=by unfold vlE; rw [if_pos k]
  have va:=jZV op mode m s a d b;rw [k,ve] at va;rw [k,ve];obtain ⟨ok,l1,l2⟩:=jXz (op:=op) (mode:=mode) hM s0 h1 h2 d0 h3 h4;obtain ⟨bk,t1,t2,t3,t4⟩:=zWg (mode:=mode) s0 h1 d0 h3 a1 b1;have ⟨⟨f0,f1⟩,f2,f3⟩:=jK2 (op:=op) a0 h2 b0 h4;have ⟨c0,c1⟩:=jXg (op:=op) (mode:=mode) hM s0 h1 h2 d0 h3 h4;have aS:=zX1 (op:=op) (a:=a) (f:=m) (b:=b) (g:=m) hM a0 h2 (Int.le_refl _) b0 h4 (Int.le_refl _);have hq:(valS op mode m s a d b).q=facA op a b m*(zQi mode s a d b).q:=rfl;have hr:(valS op mode m s a d b).r=(zQi mode s a d b).r:=rfl;have hh:(valS op mode m s a d b).half=colS op mode m s a d b:=rfl;have hfl:=Ex.half_floor ok;have n1:=zQc f0 (show facA op a b m<=65535 by omega) bk.q t3;have g1:=zQc f0 (show facA op a b m<=65535 by omega) a0 a1;have g2:=zQc f2 (show facB op a b m<=65535 by omega) b0 b1;have g3:=zQc (x:=(zQi mode s a d b).d) (y:=m) (A:=4294836225) (B:=65535) (by have:=bk.d; omega) t1 m0 m1;have g4:=zQc (x:=(zQi mode s a d b).d*m) (y:=facA op a b m*a+facB op a b m*b) (A:=281462092005375) (B:=8589672450) g3.1 (by omega) (by omega) (by omega);have eta:(⟨wV (hiW (valS op mode m s a d b).p) (loW (valS op mode m s a d b).p),(valS op mode m s a d b).q,(valS op mode m s a d b).r,(valS op mode m s a d b).d⟩:Ex)=valS op mode m s a d b:=by rw [zYh]
  have ha:=zWv (hiW (valS op mode m s a d b).p) (loW (valS op mode m s a d b).p) (valS op mode m s a d b).q (valS op mode m s a d b).r (valS op mode m s a d b).d (by unfold hiW; omega) (by rw [hq]; omega) (by rw [hr]; omega) (by have:=ok.d; omega) (by rw [eta]; rw [hh] at hfl; split at hfl<;>omega);refine ⟨va,λh=>(by cases h),λ_=>⟨ha,?_⟩⟩;rw [eta,hh];exact U _ c0 (by omega)
def aCT (a b:Int) (c:Prop):Prop:=jG (decide (a>b)) c
theorem zYa (mode m s a f c d b:Int) (hf:zZ1 m=true) (hm:isNm mode=true) (h1:s<=a) (h2:a<=f) (h3:f<=m) (h4:d<=b) (h5:b<=m) (h6:c<=m):Ans prog 259 [rJ (mode),rD (dK m),rD (dK s),rD (dK a),rD (dK f),rD (dK c),rD (dK d),rD (dK b)] (rT [rD (dK (knoC mode m s a f c d b)),rD (dQ true)]):=
 zQa (Γ:=zUF) (let e:=blE mode s a d b;let g:=e.p;dZ (Ann.cut (Inv.mk Unit (λ(k:Unit)=>True) (λ(j:Unit)=>uQ (xY 1 m 2 s (xY 3 a 4 f (xY 5 c 6 d (vM 7 b 18 18 [])))) 18 (aEU (hiW g) (rL (loW g) e.q (rL e.r e.d [])))) (λ(i:Unit)=>(0:Nat))) aL (λ(h:Unit)=>aL))) zQb Tryz.func259 rfl (nL rfl) λhwf=>by
  refine Eq.mpr (by kernel_rfl:_=(let e:=iO (knoC mode m s a f c d b);let g:=blE mode s a d b;let h:=g.d;let o:=bJ (bH m) h;let p:=g.r;let q:=g.q;let r:=g.p;let t:=fS r;let j:=kU (m-f)*c+kU (f-a)*d+kU (m-b)*s;let u:=fS (j*h);let k:=addW u t;let v:=Ex.half ⟨fS k,q,p,o⟩;let w:=cX (j*h);let x:=aR j;let i:=aP 0;let l:=kY i e;let n:=blK mode s a d b;let y:=xL g;aV (xD (Ans prog 273 (rD (DV.int IntKind.i64 mode)::mZ s a d b) (dG y n)) (True/\True/\True/\vB n (aM (dL 274 (aP m) (aB (zZ1 m))) (pA (zZ1 m) (kA (gT a f) (gT f m) (xC b m (bY (nE c m) (kY i e) (gT c m->(∃ A:Unit,True/\aW (rI (bZ m) (bZ s) (bZ a) (bZ f) (bZ c) (bZ d) (bZ b) (eS (0:Nat))) (eS y)))) (aCT b m (xB i e))) (aCT f m (bX (rT [i,aB false]) e)) (aCT a f (bS l)))/\pU (zZ1 m) (aG l))) (jN n (xH l))/\(∀ z:Unit,oQ (aG (aH (pB 277 (kU (m-f)) c (mZ (kU (f-a)) d (kU (m-b)) s) x) (aK (fR 276 x (eY h) w) (aM (bF 275 w [jY r] (aCU u t)) (bV (eS true) (bS (aK (bF 263 (kO (hiW k) (loW k) q p o) [] (gR (aR v))) (aG (iO (kU v)=e)))))))))))))) ?_;delta eS bY aE aF aP aG aH aK aM bZ bX aW nJ jG nE gT bF bV kU aB aV bS rI cE bH aR gH cX bJ gR iO kY jY eY sO dL gI fR pU kA oQ xB xC fW xD pB xH fS pA kO nT dG jN xL mZ vB aCT aCU;simp only [sS,zZm];simp only [RV.wfs,RV.wf,DV.wf,DV.wfs] at hwf;have mi:IntKind.min .u64=0:=rfl;have ma:IntKind.max .u64=18446744073709551615:=rfl;have mj:IntKind.min .u16=0:=rfl;have mb:IntKind.max .u16=65535:=rfl;simp only [mi,ma,mj,mb] at hwf;have W:∀ x:Int,0<=x->x<18446744073709551616->wrap .u64 x=x:=λx x0 x1=>wQd x ⟨x0,by omega⟩;have U:∀ x:Int,0<=x->x<=65535->wrap .u16 x=x:=λx x0 x1=>wQ8 x ⟨x0,by omega⟩;obtain ⟨_,⟨m0,m1⟩,⟨s0,s1⟩,⟨a0,a1⟩,⟨f0,f1⟩,⟨c0,c1⟩,⟨d0,d1⟩,⟨b0,b1⟩,_⟩:=hwf;have hM:=(zQ4 hf).1;have kb:blK mode s a d b=true:=by unfold blK; rw [hm,decide_eq_true h1,decide_eq_true h4]; rfl
  have be:blE mode s a d b=zQi mode s a d b:=by unfold blE; rw [if_pos kb]
  have bl:=zVe mode s a d b;rw [kb,be] at bl;rw [kb,be];obtain ⟨ok,l1,l2⟩:=jYh (mode:=mode) hM s0 h1 h2 h3 d0 h4 h5 c0 h6;obtain ⟨bk,t1,t2,t3,t4⟩:=zWg (mode:=mode) s0 h1 d0 h4 a1 b1;have ⟨k0,k1⟩:=jZZ (mode:=mode) (A:=m) hM s0 h1 h2 h3 d0 h4 h5 c0 h6;have ka:=jZ0 (acc:=m) (b:=b) hM a0 h2 h3 m0 (Int.le_refl _) b0 h5;have hh:(knoX mode m s a f c d b).half=knoC mode m s a f c d b:=rfl;have hfl:=Ex.half_floor ok;rw [hh] at hfl;have td:=bk.d;have tp:=bk.p;have q1:=zQc (x:=m-f) (y:=c) (A:=65535) (B:=65535) (by omega) (by omega) c0 c1;have q2:=zQc (x:=f-a) (y:=d) (A:=65535) (B:=65535) (by omega) (by omega) d0 d1;have q3:=zQc (x:=m-b) (y:=s) (A:=65535) (B:=65535) (by omega) (by omega) s0 s1;have q4:=zQc (x:=(m-f)*c+(f-a)*d+(m-b)*s) (y:=(zQi mode s a d b).d) (A:=12884508675) (B:=4294836225) (by omega) (by omega) (by omega) t1;have q5:=zQc (x:=m) (y:=(zQi mode s a d b).d) (A:=65535) (B:=4294836225) m0 m1 (by omega) t1;simp only [W m m0 (by omega),U (m-f) (by omega) (by omega),U (f-a) (by omega) (by omega),U (m-b) (by omega) (by omega),W (m*(zQi mode s a d b).d) q5.1 (by omega),zYh];have kx:knoX mode m s a f c d b=⟨(zQi mode s a d b).p+((m-f)*c+(f-a)*d+(m-b)*s)*(zQi mode s a d b).d,(zQi mode s a d b).q,(zQi mode s a d b).r,m*(zQi mode s a d b).d⟩:=rfl;have ae:addW (((m-f)*c+(f-a)*d+(m-b)*s)*(zQi mode s a d b).d) (zQi mode s a d b).p=(zQi mode s a d b).p+((m-f)*c+(f-a)*d+(m-b)*s)*(zQi mode s a d b).d:=by unfold addW; rw [if_pos (by omega),wXu]
  have mu:=zQL ((m-f)*c+(f-a)*d+(m-b)*s) (zQi mode s a d b).d;have ad:=zZW (hiW (((m-f)*c+(f-a)*d+(m-b)*s)*(zQi mode s a d b).d)) (loW (((m-f)*c+(f-a)*d+(m-b)*s)*(zQi mode s a d b).d)) (hiW (zQi mode s a d b).p) (loW (zQi mode s a d b).p);have ha:=zWv (hiW (knoX mode m s a f c d b).p) (loW (knoX mode m s a f c d b).p) (knoX mode m s a f c d b).q (knoX mode m s a f c d b).r (knoX mode m s a f c d b).d (by rw [kx]; unfold hiW; simp only; omega) (by rw [kx]; simp only; omega) (by rw [kx]; simp only; omega) (by have:=ok.d; omega) (by rw [zYh]; change (knoX mode m s a f c d b).floor<_; split at hfl<;>omega);rw [zYh] at ha;change Ans _ _ _ (RV.tup [RV.d (DV.int .u64 (knoX mode m s a f c d b).half),_]) at ha;rw [hh,kx] at ha;simp only [zYh,ae] at ad |-;have hh2:(⟨(zQi mode s a d b).p+((m-f)*c+(f-a)*d+(m-b)*s)*(zQi mode s a d b).d,(zQi mode s a d b).q,(zQi mode s a d b).r,m*(zQi mode s a d b).d⟩:Ex).half=knoC mode m s a f c d b:=hh;simp only [hh2];have uk:wrap .u16 (knoC mode m s a f c d b)=knoC mode m s a f c d b:=U _ k0 (by omega);have SU:=zKF (m-f) c (f-a) d (m-b) s;refine ⟨bl,⟨λ_=>⟨λ_=>⟨λ_=>⟨λ_=>⟨λ_=>⟨λh=>absurd h6 (by omega),λ_=>⟨(),trivial⟩⟩,λh=>absurd h5 (by omega)⟩,λh=>absurd h3 (by omega)⟩,λh=>absurd h2 (by omega)⟩,λh=>(by rw [hf] at h; cases h)⟩,λh=>(by cases h)⟩,SU,mu,ad,ha,uk⟩
theorem zJq (m a f acc b:Int) (hf:zZ1 m=true) (h1:a<=f) (h2:f<=m) (h4:acc<=m) (h5:b<=m):Ans prog 260 [rD (dK m),rD (dK a),rD (dK f),rD (dK acc),rD (dK b)] (rT [rD (dK (knoA m a f acc b)),rD (dQ true)]):=
 zQa (Γ:=zUF) aL zQb Tryz.func260 rfl (nL rfl) λhwf=>by
  refine Eq.mpr (by kernel_rfl:_=(let c:=iO (knoA m a f acc b);let d:=aP 0;let g:=kY d c;let e:=kU (m-f)*acc+kU (f-a)*b+m*a;yV (dL 274 (aP m) (aB (zZ1 m))) (pA (zZ1 m) (xC a f (True/\True/\True/\True/\xX f m (xC acc m (bY (nE b m) (kY d c) (nJ b m (aG (aK (pB 277 (kU (m-f)) acc (mZ (kU (f-a)) b m a) (aR e)) (aM (uB 228 e [bI m] (aR (zZb e (bH m)))) (iO (jO e (bH m))=c)))))) (aCT acc m (xB d c)))/\aCT f m (bX (rT [d,aB false]) c)) (aCT a f (bS g)))) (pU (zZ1 m) (aG g)))) ?_;delta eS bY aE aP aG aK aM bX nJ jG nE gT kU aB aV bS cE bH aR bI gR iO kY uB sO dL pU yV xX xB xC fW pB pA mZ jO aCT;simp only [sS,zZm];simp only [RV.wfs,RV.wf,DV.wf,DV.wfs] at hwf;have mi:IntKind.min .u64=0:=rfl;have ma:IntKind.max .u64=18446744073709551615:=rfl;have mj:IntKind.min .u16=0:=rfl;have mb:IntKind.max .u16=65535:=rfl;simp only [mi,ma,mj,mb] at hwf;have W:∀ x:Int,0<=x->x<18446744073709551616->wrap .u64 x=x:=λx x0 x1=>wQd x ⟨x0,by omega⟩;have U:∀ x:Int,0<=x->x<=65535->wrap .u16 x=x:=λx x0 x1=>wQ8 x ⟨x0,by omega⟩;obtain ⟨⟨m0,m1⟩,⟨a0,a1⟩,⟨f0,f1⟩,⟨c0,c1⟩,⟨b0,b1⟩,_⟩:=hwf;have hM:=(zQ4 hf).1;have ka:=jZ0 (acc:=acc) (b:=b) hM a0 h1 h2 c0 h4 b0 h5;have q1:=zQc (x:=m-f) (y:=acc) (A:=65535) (B:=65535) (by omega) (by omega) c0 c1;have q2:=zQc (x:=f-a) (y:=b) (A:=65535) (B:=65535) (by omega) (by omega) b0 b1;have q3:=zQc (x:=m) (y:=a) (A:=65535) (B:=65535) m0 m1 a0 a1;have SU:=zKF (m-f) acc (f-a) b m a;have HA:=zQy ((m-f)*acc+(f-a)*b+m*a) m;have uk:wrap .u16 (zZb ((m-f)*acc+(f-a)*b+m*a) m)=knoA m a f acc b:=U _ ka.1 (by unfold knoA at ka; omega);simp only [W m m0 (by omega),U (m-f) (by omega) (by omega),U (f-a) (by omega) (by omega)];refine ⟨λ_=>⟨λ_=>⟨λ_=>⟨λ_=>⟨λh=>absurd h5 (by omega),λ_=>⟨SU,HA,uk⟩⟩,λh=>absurd h4 (by omega)⟩,λh=>absurd h2 (by omega)⟩,λh=>absurd h1 (by omega)⟩,λh=>(by rw [hf] at h; cases h)⟩
theorem zGk (m a f own:Int) (hf:zZ1 m=true) (h1:a<=f) (h2:f<=m) (h4:own<=m):Ans prog 261 [rD (dK m),rD (dK a),rD (dK f),rD (dK own)] (rT [rD (dK (knoA m a f own 0)),rD (dQ true)]):=
 zQa (Γ:=zUF) aL zQb Tryz.func261 rfl (nL rfl) λhwf=>by
  refine Eq.mpr (by kernel_rfl:_=(let b:=iO (knoA m a f own 0);aV (bV (Ans prog 260 (aP m::mZ a f own 0) b) (eS b)))) ?_;delta eS aE aP bV aB aV gR iO fW mZ;simp only [sS,zZm];simp only [RV.wfs,RV.wf,DV.wf,DV.wfs] at hwf;have mi:IntKind.min .u64=0:=rfl;have ma:IntKind.max .u64=18446744073709551615:=rfl;have mj:IntKind.min .u16=0:=rfl;have mb:IntKind.max .u16=65535:=rfl;simp only [mi,ma,mj,mb] at hwf;exact zJq _ _ _ _ _ hf h1 h2 h4 (by omega)
abbrev aD (q:Ac):List DV:=[DV.int .u16 q.a,DV.int .u16 q.b,DV.int .u16 q.c,DV.int .u16 q.al,DV.int .u16 q.own,DV.int .u16 q.f]
def jZ6:Gam:=zUF.add [.p 118 (λ| [.d (.int _ n)]=>some (RV.d (DV.int .u32 (zZb n 255))) | _=>none),
 .p 119 (λ| [.d (.int _ n)]=>some (RV.d (DV.int .u64 (zZb n 65535))) | _=>none),
 .p 64 (λ| [.agg [.int _ pa,.int _ pb,.int _ pc,.int _ pal,.int _ pf],.d (.int _ k),.d (.int _ m)]=>some (RV.tup [RV.agg (pD ((zZS (⟨pa,pb,pc,pal,pf⟩:Px) k m).1)),RV.d (dQ (zZS (⟨pa,pb,pc,pal,pf⟩:Px) k m).2)]) | _=>none),
 .p 229 (λ| [.agg [.int _ pa,.int _ pb,.int _ pc,.int _ pal,.int _ pf],.d (.int _ j),.d (.int _ k),.d (.int _ m)]=>some (RV.tup [RV.agg (pD ((zJH (⟨pa,pb,pc,pal,pf⟩:Px) j k m).1)),RV.d (dQ (zJH (⟨pa,pb,pc,pal,pf⟩:Px) j k m).2)]) | _=>none),
 .p 182 (λ| [.agg [.int _ xa,.int _ xb,.int _ xc,.int _ xal,.int _ xown,.int _ xf],.agg [.int _ ka,.int _ kb,.int _ kc,.int _ kal,.int _ kf],.d (.int _ m)]=>some (RV.d (dQ (Ac.ok (⟨xa,xb,xc,xal,xown,xf⟩:Ac) (⟨ka,kb,kc,kal,kf⟩:Px) m))) | _=>none),
 .p 181 (λ| [.d (.bool iso),.d (.bool kno),.agg [.int _ xa,.int _ xb,.int _ xc,.int _ xal,.int _ xown,.int _ xf],.agg [.int _ ka,.int _ kb,.int _ kc,.int _ kal,.int _ kf]]=>some (RV.tup [RV.agg (aD ((zZI iso kno (⟨xa,xb,xc,xal,xown,xf⟩:Ac) (⟨ka,kb,kc,kal,kf⟩:Px)).1)),RV.agg (pD ((zZI iso kno (⟨xa,xb,xc,xal,xown,xf⟩:Ac) (⟨ka,kb,kc,kal,kf⟩:Px)).2))]) | _=>none),
 .p 244 (λ| [.d (.int _ mode),.d (.int _ m),.agg [.int _ pa,.int _ pb,.int _ pc,.int _ pal,.int _ pf],.agg [.int _ xa,.int _ xb,.int _ xc,.int _ xal,.int _ xown,.int _ xf],.agg [.int _ ka,.int _ kb,.int _ kc,.int _ kal,.int _ kf]]=>some (RV.tup [RV.agg (aD (accS true 4 mode m (⟨pa,pb,pc,pal,pf⟩:Px) (⟨xa,xb,xc,xal,xown,xf⟩:Ac) (⟨ka,kb,kc,kal,kf⟩:Px))),RV.d (dQ true)]) | _=>none),
 .p 230 (λ| [.d (.bool kno),.d (.int _ op),.d (.int _ mode),.d (.int _ m),.agg [.int _ pa,.int _ pb,.int _ pc,.int _ pal,.int _ pf],.agg [.int _ xa,.int _ xb,.int _ xc,.int _ xal,.int _ xown,.int _ xf],.agg [.int _ ka,.int _ kb,.int _ kc,.int _ kal,.int _ kf]]=>some (RV.tup [RV.agg (aD (zWx kno op mode m (⟨pa,pb,pc,pal,pf⟩:Px) (⟨xa,xb,xc,xal,xown,xf⟩:Ac) (⟨ka,kb,kc,kal,kf⟩:Px))),RV.d (dQ (zZ4 kno op mode m (⟨pa,pb,pc,pal,pf⟩:Px) (⟨xa,xb,xc,xal,xown,xf⟩:Ac) (⟨ka,kb,kc,kal,kf⟩:Px)))]) | _=>none),
 .p 183 (λ| [.d (.int _ c),.d (.int _ k),.d (.int _ own),.d (.int _ m)]=>some (RV.d (dK (remS m c own k))) | _=>none),
 .p 109 (λ| [.agg [.int _ xa,.int _ xb,.int _ xc,.int _ xal,.int _ xown,.int _ xf],.agg [.int _ ka,.int _ kb,.int _ kc,.int _ kal,.int _ kf],.d (.int _ m)]=>some (RV.tup [RV.agg (pD (resE (⟨xa,xb,xc,xal,xown,xf⟩:Ac) (⟨ka,kb,kc,kal,kf⟩:Px) m)),RV.d (dQ (Ac.ok (⟨xa,xb,xc,xal,xown,xf⟩:Ac) (⟨ka,kb,kc,kal,kf⟩:Px) m))]) | _=>none)]
def aAB (a:Nat) (b:Int) (c:Nat) (d:Int) (e:List (Nat × AV)) (f:Nat) (g:List Cl) (h:Nat) (i:List Cl):Snap:=aIE a b c d e f g h (wO i)
def aFB (a b:RV) (c:Prop):Prop:=eV (dL 118 a b) c
def aFC (a b:RV) (c:Prop):Prop:=eV (dL 119 a b) c
def tG (a:Px) (b c d e:Int) (f:Prop):Prop:=aF (zX5 a b c=true) (bZ b/\fN c (wS (bN (aF (eS (1:Nat)) (eS (2:Nat)) (eS (3:Nat)) (eS (4:Nat)))) d e)) f (eS oH)
def aDF (a:Px) (b c:Int) (d:Prop):Prop:=zX5 a b c=true->True/\d
theorem zKV (p:Px) (k m:Int):Ans prog 64 [rA (pD p),rD (dK k),rD (dK m)] (rT [rA (pD ((zZS p k m).1)),rD (dQ ((zZS p k m).2))]):=
 zQa (Γ:=jZ6) (let b:=zXg p k m;let a:=[Cl.ptr 3 0,Cl.ptr 3 1,Cl.ptr 3 2,Cl.ptr 3 3,Cl.ptr 3 4];let d:=zX5 p k m=true;let c:=b.a;cT (Ann.cut (Inv.mk Unit (λ(h:Unit)=>d) (λ(s:Unit)=>aAB 1 k 2 m (gC 3 3 6 6 []) 3 (sK p) 6 []) (λ(f:Unit)=>(0:Nat))) aL (λ(r:Unit)=>rF (Ann.link (Inv.mk Unit (λ(h:Unit)=>d) (λ(q:Unit)=>aAB 1 k 2 m (yA 3 6 37 a 38 0) 3 (sK p) 6 []) (λ(f:Unit)=>(0:Nat))) (λ(i:Unit)=>xS) (Ann.link (Inv.mk Unit (λ(h:Unit)=>d) (λ(o:Unit)=>aAB 1 k 2 m (yA 3 6 37 a 38 1) 3 (aIG c p p.f) 6 []) (λ(f:Unit)=>(0:Nat))) (λ(i:Unit)=>xS) (Ann.link (Inv.mk Unit (λ(h:Unit)=>d) (λ(n:Unit)=>aAB 1 k 2 m (yA 3 6 37 a 38 2) 3 (aIH c b.b p p.f) 6 []) (λ(f:Unit)=>(0:Nat))) (λ(i:Unit)=>xS) (Ann.link (Inv.mk Unit (λ(h:Unit)=>d) (λ(l:Unit)=>aAB 1 k 2 m (yA 3 6 37 a 38 3) 3 (aGH c b.b b.c p.al (mY p.f [])) 6 []) (λ(f:Unit)=>(0:Nat))) (λ(i:Unit)=>xS) (Ann.link (Inv.mk Unit (λ(h:Unit)=>d) (λ(j:Unit)=>aAB 1 k 2 m (yA 3 6 37 a 38 4) 3 (aII b p.f) 6 []) (λ(f:Unit)=>(0:Nat))) (λ(i:Unit)=>xS) (Ann.link (Inv.mk Unit (λ(h:Unit)=>d) (λ(g:Unit)=>aAB 1 k 2 m (yA 3 6 37 a 38 5) 3 (sK b) 6 []) (λ(f:Unit)=>(0:Nat))) (λ(e:Unit)=>vA) aL))))))))) zQb Tryz.func64 rfl (nL rfl) λhwf=>by
  refine Eq.mpr (by kernel_rfl:_=(let r:=zZS p k m;let o:=dG (dB r.fst) r.snd;let d:=zXg p k m;let g:=d.al;let e:=d.c;let b:=d.b;let a:=d.a;let q:=pI a b e g d.f;let f:=lQ k;let s:=lQ p.f*f;let h:=lQ s;let t:=bH h;let u:=pI a b e g p.f;let v:=lQ p.al*f;let i:=lQ v;let w:=bH i;let c:=p.al;let x:=pI a b e c p.f;let y:=lQ p.c*f;let j:=lQ y;let z:=bH j;let A:=zX5 p k m;let B:=dR a b p.c c p.f;let C:=lQ p.b*f;let l:=lQ C;let D:=bH l;let E:=dR a p.b p.c c p.f;let F:=lQ p.a*f;let n:=lQ F;let G:=bH n;let H:=vB (Px.ok p m) (fU k m (qJ oH (dG (dB r.fst) r.snd)) (gT k m->(∃ z1:Unit,gS (A=true) (bZ k/\fN m (aZ (eS (0:Nat)))) (dB p) oH))) (fP (!(Px.ok p m)) false (nT oH (aB false)=o));True/\True/\True/\aV (((m !=255)=true->True/\True/\True/\True/\cR (m !=65535) (aEP (dB p) m p) H/\jV (m !=65535) (bX (nT oH (aB false)) o))/\mB (m !=255) (True/\True/\True/\aEP (dB p) m p/\H))/\(∀ z0:Unit,aDF p k m (fH (fL 3) (iX 3) (rN 2 2 (aBJ (∃ Z:Unit,gS (A=true) (bZ k/\fN m (bK (eS (0:Nat)) (bN (aF (eS (1:Nat)) (eS (2:Nat)) (eS (3:Nat)) (eS (4:Nat)))) gN)) (dB p) oH) (∀ Y:Unit,aDF p k m (fJ 0/\fL 5/\aG (nN m 255 (aFB (aDB F) (aDC n) (∃ X:Unit,tG p k m 0 1 (dR (jO n 255) p.b p.c c p.f=E))) (nA m 255 (aFC (bI n) (aDD G) (∃ W:Unit,tG p k m 0 1 (dR (jO G 65535) p.b p.c c p.f=E))))))) (∀ V:Unit,aDF p k m (fJ 1/\iX 5/\aG (nN m 255 (aFB (aDB C) (aDC l) (∃ U:Unit,tG p k m 1 2 (dR a (jO l 255) p.c c p.f=B))) (nA m 255 (aFC (bI l) (aDD D) (∃ T:Unit,tG p k m 1 2 (dR a (jO D 65535) p.c c p.f=B))))))) (∀ S:Unit,A=true->cZ (fJ 2) (jT 5) (aV (iV (dC m 255 (aFB (aDB y) (aDC j) (∃ R:Unit,tG p k m 2 3 (pI a b (jO j 255) c p.f=x)))) (nA m 255 (aFC (bI j) (aDD z) (∃ Q:Unit,tG p k m 2 3 (pI a b (jO z 65535) c p.f=x))))))) (∀ P:Unit,aDF p k m (fJ 3/\aAI/\aG (nN m 255 (aFB (aDB v) (aDC i) (∃ O:Unit,tG p k m 3 4 (pI a b e (jO i 255) p.f=u))) (nA m 255 (aFC (bI i) (aDD w) (∃ M:Unit,tG p k m 3 4 (dR a b e (jO w 65535) p.f=u))))))) (∀ L:Unit,aDF p k m (fJ 4/\oF 4 4 5/\aG (nN m 255 (aFB (aDB s) (aDC h) (∃ K:Unit,tG p k m 4 5 (dR a b d.c g (jO h 255)=q))) (nA m 255 (aFC (bI h) (aDD t) (∃ J:Unit,tG p k m 4 5 (dR a b d.c g (jO t 65535)=q))))))) (∀ I:Unit,aDF p k m (aM yY (mU q=o))))))))) ?_;delta eS aZ cZ aE aI aF aP aG aH oF dR eV fL pI nA kD eC aM bG bN bZ fN mB bX iV aW fU bK gT iX jT aAI bF cR dB dC oH kU aB bE aV gN jV nN fP cE bH aR bI rN dL gI lM fJ wS yY aBJ uF fH gS nT dG mU qJ vB aEP jO nY lQ aDB aDC aDD aFB aFC tG aDF;simp only [sS];simp only [RV.wfs,RV.wf,DV.wf,DV.wfs] at hwf;have mi:IntKind.min .u64=0:=rfl;have ma:IntKind.max .u64=18446744073709551615:=rfl;have mj:IntKind.min .u16=0:=rfl;have mb:IntKind.max .u16=65535:=rfl;simp only [mi,ma,mj,mb] at hwf;obtain ⟨⟨⟨a0,a1⟩,⟨b0,b1⟩,⟨c0,c1⟩,⟨l0,l1⟩,⟨f0,f1⟩,_⟩,⟨k0,k1⟩,⟨m0,m1⟩,_⟩:=hwf;have s1:zZS p k m=if zX5 p k m then (zXg p k m,true) else (.zero,false):=rfl
  have bad:¬ (zZ1 m=true/\p.ok m=true/\k<=m)->(0=(zZS p k m).1.a/\0=(zZS p k m).1.b/\0=(zZS p k m).1.c/\0=(zZS p k m).1.al/\0=(zZS p k m).1.f)/\false=(zZS p k m).2:=λhn=>by
   have:zZS p k m=(.zero,false):=by
    rw [s1,if_neg];intro e;simp only [zX5,wQf,wQh] at e;exact hn ⟨e.1,e.2.1,e.2.2⟩
   rw [this]; exact ⟨⟨rfl,rfl,rfl,rfl,rfl⟩,rfl⟩
  have vp:=zQp p.a p.b p.c p.al p.f m;change Ans _ _ _ (RV.d (DV.bool (p.ok m))) at vp;have nf:(m !=255)=true->(m !=65535)=true->¬ zZ1 m=true:=λh1 h2 h=>by
   have h1:=wQP.1 h1;have h2:=wQP.1 h2
   rcases zUH h with h | h<;>contradiction
  have fa:(m !=65535)=false->zZ1 m=true:=λh=>decide_eq_true (.inr (wZv.1 h));have fb:(m !=255)=false->zZ1 m=true:=λh=>decide_eq_true (.inl (wZv.1 h));have sb:zZ1 m=true->p.ok m=true->¬ k>m->zX5 p k m=true:=λh1 h2 h3=>by
   unfold zX5; rw [h1,h2,decide_eq_true (show k<=m by omega)]; rfl
  have tail:zZ1 m=true->_/\(p.ok m=true->(k>m->_/\_)/\(¬ k>m->∃ _:Unit,zX5 p k m=true))/\(p.ok m=false->_/\_):=λhf=>⟨vp,λhp=>⟨λhk=>bad (λh=>by omega),λhk=>⟨(),sb hf hp hk⟩⟩,λhp=>bad (λh=>by rw [hp] at h; exact absurd h.2.1 (by decide))⟩
  refine ⟨⟨λh1=>⟨λh2=>tail (fa h2),λh2=>bad (λh=>nf h1 h2 h.1)⟩,λh1=>tail (fb h1)⟩,λhs=>?_⟩;clear bad nf fa fb sb tail vp;have hs':=hs;unfold zX5 at hs';simp only [wQf,wQh] at hs';obtain ⟨hf,hp,hk⟩:=hs';have hm:=(zQ4 hf).1;have e:zZS p k m=(zXg p k m,true):=by rw [s1,if_pos hs]
  rw [e];clear e s1;obtain ⟨o1,o2⟩:=jZt hm hp ⟨a0,b0,c0⟩ k0 hk;obtain ⟨x1,x2,x3,x4,x5⟩:=Px.ok_iff.1 o1;obtain ⟨y1,y2,y3⟩:=o2;have W32:∀ x:Int,0<=x->x<4294967296->wrap .u32 x=x:=λx x0 x1=>wXB x ⟨x0,by omega⟩;have W64:∀ x:Int,0<=x->x<18446744073709551616->wrap .u64 x=x:=λx x0 x1=>wQd x ⟨x0,by omega⟩;have U:∀ x:Int,0<=x->x<=65535->wrap .u16 x=x:=λx x0 x1=>wQ8 x ⟨x0,by omega⟩;have ch:∀ v:Int,0<=v->v<=65535->wrap .u32 (wrap .u32 v*wrap .u32 k)=v*k/\wrap .u64 (v*k)=v*k:=λv v0 v1=>by
   have:=zQc v0 v1 k0 k1;rw [W32 v v0 (by omega),W32 k k0 (by omega),W32 _ this.1 (by omega),W64 _ this.1 (by omega)];exact ⟨rfl,rfl⟩
  have ca:=ch _ a0 a1;have cb:=ch _ b0 b1;have cc:=ch _ c0 c1;have cl:=ch _ l0 l1;have cf:=ch _ f0 f1;simp only [ca.1,ca.2,cb.1,cb.2,cc.1,cc.2,cl.1,cl.2,cf.1,cf.2];clear ch ca cb cc cl cf;have w1:wrap .i64 (0+1)=1:=by decide
  have w2:wrap .i64 (1+1)=2:=by decide
  have w3:wrap .i64 (2+1)=3:=by decide
  have w4:wrap .i64 (3+1)=4:=by decide
  have w5:wrap .i64 (4+1)=5:=by decide
  have fin:∀ (v z r:Int),z=zZb (v*k) m->0<=z->z<=65535->((m==255)=true->wrap .u16 (zZb (v*k) 255)=z)/\((m==255)=false->wrap .u16 (zZb (v*k) 65535)=z):=λv z r hz z0 z1=>by
   subst hz
   rcases zUH hf with rfl | rfl
   ·exact ⟨λ_=>U _ z0 z1,λh=>by cases h⟩
   ·exact ⟨λh=>absurd h (by decide),λ_=>U _ z0 z1⟩
  have g1:=fin p.a (zXg p k m).a 0 rfl y1 (by omega);have g2:=fin p.b (zXg p k m).b 0 rfl y2 (by omega);have g3:=fin p.c (zXg p k m).c 0 rfl y3 (by omega);have g4:=fin p.al (zXg p k m).al 0 rfl (by omega) (by omega);have g5:=fin p.f (zXg p k m).f 0 rfl (by omega) (by omega);have B1:=λv=>zXp (v*k);have B2:=λv=>zXB (v*k)
  (repeat' (first | intro _ | apply And.intro | refine Exists.intro () ?_))<;>first | exact hs | exact B1 _ | exact B2 _ | exact w1 | exact w2 | exact w3 | exact w4 | exact w5 | decide | rfl | exact g1.1 ‹_› | exact g1.2 ‹_› | exact g2.1 ‹_› | exact g2.2 ‹_› | exact g3.1 ‹_› | exact g3.2 ‹_› | exact g4.1 ‹_› | exact g4.2 ‹_› | exact g5.1 ‹_› | exact g5.2 ‹_› | omega
theorem jQd (p:Px) (j k m:Int):Ans prog 229 [rA (pD p),rD (dK j),rD (dK k),rD (dK m)] (rT [rA (pD ((zJH p j k m).1)),rD (dQ ((zJH p j k m).2))]):=
 zQa (Γ:=jZ6) aL zQb Tryz.func229 rfl (nL rfl) λhwf=>by
  refine Eq.mpr (by kernel_rfl:_=(let c:=(zJH p j k m).snd;let d:=(zJH p j k m).fst;let a:=(zZS p j m).fst;let e:=zZS a k m;let f:=dG (dB e.fst) e.snd;let b:=(zZS p j m).snd;aV (bV (bF 64 (dB p) (fW j m []) (dG (dB a) b)) (sN b (qJ oH (dG (dB d) c)) (sO b->bV (bF 64 (dB a) (fW k m []) f) (f=dG (dB d) c)))))) ?_;delta eS aE aP dR bF bV dB oH aB aV sO sN fW nT dG qJ;simp only [sS];have S:=zKV p j m;have S2:=zKV (zZS p j m).1 k m;refine ⟨S,λh=>?_,λh=>⟨S2,?_⟩⟩
  ·have:zX5 p j m=false:=by
    cases e:zX5 p j m with
    | false=>rfl
    | true=>unfold zZS at h; rw [if_pos e] at h; cases h
   unfold zJH;rw [this];exact ⟨⟨rfl,rfl,rfl,rfl,rfl⟩,rfl⟩
  ·have:zX5 p j m=true:=by
    cases e:zX5 p j m with
    | true=>rfl
    | false=>unfold zZS at h; rw [e] at h; cases h
   have e:zJH p j k m=zZS (zZS p j m).1 k m:=by
    unfold zJH;rw [if_pos this];have:zZS p j m=(zXg p j m,true):=by unfold zZS; rw [if_pos this]
    rw [this]
   rw [e];exact ⟨⟨rfl,rfl,rfl,rfl,rfl⟩,rfl⟩
def aMB (a b c:Nat) (d:Int) (e:List Cl) (f:Nat) (g:Int):List (Nat × AV):=yA a b c (mY d e) f g
def aIW (a b c:Nat) (d e f:Int) (g:List Cl) (h:Nat) (i:Int):List (Nat × AV):=aMB a b c d (zV e f g) h i
def aIX (b c d:Nat) (e:Ac) (f g:Int) (h:List Cl) (i:Nat) (j:Int):List (Nat × AV):=aIW b c d e.a f g h i j
def aIY (a c d:Nat) (e:Ac) (f:Int) (g:List Cl) (h:Nat) (i:Int):List (Nat × AV):=aIX a c d e e.b f g h i
def aIZ (a b d:Nat) (e:Ac) (f:List Cl) (g:Nat) (h:Int):List (Nat × AV):=aIY a b d e e.c f g h
def uZ (a b c:Nat) (d:Ac) (e:Nat) (f:Int):List (Nat × AV):=aIZ a b c d [] e f
def aHO (a b c d e f:Int) (g:List Cl):List Cl:=zV a b (aGH c d e f g)
def aJI (a b c d:Int) (e:Ac) (f:Int) (g:List Cl):List Cl:=aHO a b c d e.own f g
def aJJ (a b c:Int) (d:Ac) (e:Int) (f:List Cl):List Cl:=aJI a b c d.al d e f
def aGI (a b c:Int) (d:Ac) (e:List Cl):List Cl:=aJJ a b c d d.f e
def aIC (a b:Int) (d:Ac) (e:List Cl):List Cl:=aGI a b d.c d e
def aEO (a:Int) (c:Ac) (d:List Cl):List Cl:=aIC a c.b c d
def qO (a b c d e f:Int):List DV:=[aE a,aE b,aE c,aE d,aE e,aE f]
def qP (a b c:Int) (d:Ac):List DV:=qO a b c d.al d.own d.f
def sW (d:Ac):List DV:=qP d.a d.b d.c d
theorem zK8 (x:Ac) (k:Px) (m:Int):Ans prog 182 [rA (aD x),rA (pD k),rD (dK m)] (rD (dQ (Ac.ok x k m))):=
 zQa (Γ:=jZ6) (let a:=aEO x.a x [];let b:=x.a<=x.al;pM (Ann.link (Inv.mk Unit (λ(o:Unit)=>True) (λ(n:Unit)=>qQ (kP 2 (aE m) (uZ 3 4 10 x 11 0)) 3 a 4 (sK k)) (λ(d:Unit)=>(0:Nat))) (λ(g:Unit)=>xS) (Ann.link (Inv.mk Unit (λ(l:Unit)=>aZ b) (λ(j:Unit)=>qQ (kP 2 (aE m) (uZ 3 4 10 x 11 1)) 3 a 4 (sK k)) (λ(d:Unit)=>(0:Nat))) (λ(g:Unit)=>xS) (Ann.link (Inv.mk Unit (λ(i:Unit)=>aW b (x.b<=x.al)) (λ(h:Unit)=>qQ (kP 2 (aE m) (uZ 3 4 10 x 11 2)) 3 a 4 (sK k)) (λ(d:Unit)=>(0:Nat))) (λ(g:Unit)=>xS) (Ann.link (Inv.mk Unit (λ(f:Unit)=>bK b (x.b<=x.al) (x.c<=x.al)) (λ(e:Unit)=>qQ (kP 2 (aE m) (uZ 3 4 10 x 11 3)) 3 a 4 (sK k)) (λ(d:Unit)=>(0:Nat))) (λ(c:Unit)=>vA) aL))))) zQb Tryz.func182 rfl (nL rfl) λhwf=>by
  refine Eq.mpr (by kernel_rfl:_=(let b:=Ac.ok x k m;let g:=eM b;let d:=aG g;let a:=x.al;let c:=dB k;let h:=gP (jZ x.own a) (aAY x.own x.f (True/\True/\oL (decide (a<=m)) (True/\True/\bY (jZ x.f m) (aEP c m k/\True/\True/\(Px.ok k m=true->True/\bS (aB (k.f==k.al)=aB b))/\mP (Px.ok k m) g) (jJ (decide (x.f<=m)) true b)) (rM b)) (uC (decide (x.own<=x.f))->d)) (aBL x.own a d);let e:=x.a<=a;let i:=bK e (x.b<=a) (x.c<=a);let j:=aCM x.a x.b x.c;let f:=eS j;let l:=aW e (x.b<=a);let n:=aZ e;aV (True/\True/\True/\(∃ v:Unit,gS True (fN m (bK (eS (0:Nat)) (eS j) gN)) (sW x) c)/\aF (∀ u:Unit,jW (cG wR (iH 0 0 3 x.a) (zW x.a a b (∃ t:Unit,gS n (fN m (wS f 0 1)) (sW x) c)))) (∀ s:Unit,xV n wT (iH 1 1 3 x.b) (zW x.b a b (∃ r:Unit,gS l (fN m (wS f 1 2)) (sW x) c))) (∀ q:Unit,xV l wX (iH 2 2 3 x.c) (zW x.c a b (∃ p:Unit,gS i (fN m (wS f 2 3)) (sW x) c))) (∀ o:Unit,bL i wY (pT (m==255) (gP ((m==65535)=true) h (fP (m==65535) true d)) (zA (m==255) (aV h))))))) ?_;delta eS bY aZ aE aI aF aP aG dR kD eC bG cG fN aW fU bK bL jG gT bF dB aB bE aV bS gN jW fP gP pT jZ mP oL eM jJ aAY aBL rM uC lM wS wR wX wT wY xX zA gS aCM qO qP sW iH aEP xV zW;simp only [sS];simp only [RV.wfs,RV.wf,DV.wf,DV.wfs] at hwf;have mi:IntKind.min .u64=0:=rfl;have ma:IntKind.max .u64=18446744073709551615:=rfl;have mj:IntKind.min .u16=0:=rfl;have mb:IntKind.max .u16=65535:=rfl;simp only [mi,ma,mj,mb] at hwf;have vp:=zQp k.a k.b k.c k.al k.f m;change Ans _ _ _ (RV.d (DV.bool (k.ok m))) at vp;have no:¬ ((x.a<=x.al/\x.b<=x.al/\x.c<=x.al)/\zZ1 m=true/\(x.own<=x.al/\x.own<=x.f/\x.al<=m/\x.f<=m)/\k.ok m=true/\k.f=k.al)->false=x.ok k m:=λh=>by
   cases e:x.ok k m with
   | false=>rfl
   | true=>exact absurd (Ac.ok_iff.1 e) h
  have w1:wrap .i64 (0+1)=1:=by decide
  have w2:wrap .i64 (1+1)=2:=by decide
  have w3:wrap .i64 (2+1)=3:=by decide
  have tail:(x.a<=x.al/\x.b<=x.al/\x.c<=x.al)->zZ1 m=true->(x.own<=x.al->(x.own<=x.f->(x.al<=m->(x.f<=m->_/\(k.ok m=true->(k.f==k.al)=x.ok k m)/\(k.ok m=false->false=x.ok k m))/\(¬ x.f<=m->false=x.ok k m))/\(¬ x.al<=m->false=x.ok k m))/\(¬ x.own<=x.f->false=x.ok k m))/\(¬ x.own<=x.al->false=x.ok k m):=λh3 hf=>⟨λg1=>⟨λg2=>⟨λg3=>⟨λg4=>⟨vp,λhk=>(by
   by_cases e:k.f=k.al
   ·rw [Ac.ok_iff.2 ⟨h3,hf,⟨g1,g2,g3,g4⟩,hk,e⟩];simpa using e
   ·rw [<- no (λq=>e q.2.2.2.2)]
    simpa using e),λhk=>no (λq=>by rw [hk] at q; exact absurd q.2.2.2.1 (by decide))⟩,λh=>no (λq=>by omega)⟩,λh=>no (λq=>by omega)⟩,λh=>no (λq=>by omega)⟩,λh=>no (λq=>by omega)⟩
  refine ⟨⟨(),trivial⟩,⟨by decide,by decide,λh=>no (λq=>by omega),λh=>⟨(),by omega,w1⟩⟩,λh1=>⟨by decide,by decide,λh=>no (λq=>by omega),λh=>⟨(),⟨h1,by omega⟩,w2⟩⟩,λh2=>⟨by decide,by decide,λh=>no (λq=>by omega),λh=>⟨(),⟨h2.1,h2.2,by omega⟩,w3⟩⟩,λh3=>⟨by decide,λm1=>⟨λm2=>tail h3 (decide_eq_true (.inr (by simpa using m2))),λm2=>no λq=>?_⟩,λm1=>tail h3 (decide_eq_true (.inl (by simpa using m1)))⟩⟩
  rcases zUH q.2.1 with h | h
  ·rw [h] at m1; cases m1
  ·rw [h] at m2; cases m2
theorem zHy (iso kno:Bool) (x:Ac) (k:Px):Ans prog 181 [rD (dQ iso),rD (dQ kno),rA (aD x),rA (pD k)] (rT [rA (aD ((zZI iso kno x k).1)),rA (pD ((zZI iso kno x k).2))]):=
 zQa (Γ:=jZ6) aL zQb Tryz.func181 rfl (nL rfl) λhwf=>by
  refine Eq.mpr (by kernel_rfl:_=(let a:=nT (sW (zZI iso kno x k).fst) (kR (zZI iso kno x k).snd);aV (True/\True/\True/\(iso=true->True/\bS (dA (nT (qO 0 0 0 0 0 0) (lW 0 0 0 0 0)=a)))/\(iso=false->sN kno (lE (dA (nT (qO x.a x.b x.c x.al 0 0) (rA (aDQ x.a x.b x.c x.al))=a))) (gI kno (True/\True/\True/\True/\dA (nT (qO k.a k.b k.c k.al 0 0) (rA (aE k.a::aE k.b::aCM k.c k.al k.f))=a))))))) ?_;delta eS aE aG dR lW dA kR aDQ aV bS gI lE sN nT aCM qO qP sW;simp only [sS];unfold zZI;cases iso<;>cases kno<;>simp [Px.zero]
def xU (a b c d e:Nat) (f:Ac) (g:Nat) (h:Int):List (Nat × AV):=gC a a b b (uZ c d e f g h)
def aJL (a:List (Nat × AV)) (b:Nat) (c:Px) (d:Nat) (e:List Cl) (f:Nat) (g:List Cl) (h:Nat) (i:List Cl) (j:List (Nat × Bx)):Snap:=vN a b (sK c) d e f g h i j
def aJM (a:List (Nat × AV)) (b:Nat) (c:Px) (d:Nat) (e f g:Int) (h:Ac) (i:List Cl) (j:Nat) (k:List Cl) (l:Nat) (m:List Cl) (n:List (Nat × Bx)):Snap:=aJL a b c d (aGI e f g h i) j k l m n
def aJN (b:List (Nat × AV)) (c:Nat) (d:Px) (e:Nat) (f:Ac) (g h:Int) (i:List Cl) (j:Nat) (k:List Cl) (l:Nat) (m:List Cl) (n:List (Nat × Bx)):Snap:=aJM b c d e f.a g h f i j k l m n
def aJO (a:List (Nat × AV)) (c:Nat) (d:Px) (e:Nat) (f:Ac) (g:Int) (h:List Cl) (i:Nat) (j:List Cl) (k:Nat) (l:List Cl) (m:List (Nat × Bx)):Snap:=aJN a c d e f f.b g h i j k l m
def xT (a:List (Nat × AV)) (b:Nat) (d:Px) (e:Nat) (f:Ac) (g:List Cl) (h:Nat) (i:List Cl) (j:Nat) (k:List Cl) (l:List (Nat × Bx)):Snap:=aJO a b d e f f.c g h i j k l
def zS (a b c:Int) (d:Prop):Prop:=bP (aW (eS [aE a,aE b,aE c]) d)
def zT (a b:Prop) (c:Ac) (d:Px) (e:List DV) (f:Prop):Prop:=iT a b (eS (sW c)) (dB d) e f
def aCP (a b:Prop) (c:Bool) (d:Prop) (e:Int) (f:Prop):Prop:=eV a (uY b c d (aEN c (rN e e f)))
def aIK (a b c d:Int) (e:List DV):List DV:=aE a::aE b::aE c::aE d::e
theorem zUD (mode m:Int) (p:Px) (x:Ac) (k:Px) (hs:zZ4 true 4 mode m p x k=true):Ans prog 244 [rJ (mode),rD (dK m),rA (pD p),rA (aD x),rA (pD k)] (rT [rA (aD (accS true 4 mode m p x k)),rD (dQ true)]):=
 zQa (Γ:=jZ6) (let b:=accS true 4 mode m p x k;let d:=b.b;let c:=b.a;let a:=aHO 0 0 0 0 0 0 [];eF (Ann.link (Inv.mk Unit (λ(h:Unit)=>True) (λ(n:Unit)=>xT (vE mode (uK m 7 (xU 8 9 10 12 19 x 20 0))) 7 p 8 x [] 9 (sK k) 10 a (oY 12 (aEO x.a x []))) (λ(f:Unit)=>(0:Nat))) (λ(i:Unit)=>xS) (Ann.link (Inv.mk Unit (λ(h:Unit)=>True) (λ(l:Unit)=>xT (vE mode (uK m 7 (xU 8 9 10 12 19 x 20 1))) 7 p 8 x [] 9 (sK k) 10 a (oY 12 (aEO c x []))) (λ(f:Unit)=>(0:Nat))) (λ(i:Unit)=>xS) (Ann.link (Inv.mk Unit (λ(h:Unit)=>True) (λ(j:Unit)=>xT (vE mode (uK m 7 (xU 8 9 10 12 19 x 20 2))) 7 p 8 x [] 9 (sK k) 10 a (oY 12 (aIC c d x []))) (λ(f:Unit)=>(0:Nat))) (λ(i:Unit)=>xS) (Ann.link (Inv.mk Unit (λ(h:Unit)=>True) (λ(g:Unit)=>xT (vE mode (uK m 7 (xU 8 9 10 12 19 x 20 3))) 7 p 8 x [] 9 (sK k) 10 a (oY 12 (aGI c d b.c x []))) (λ(f:Unit)=>(0:Nat))) (λ(e:Unit)=>vA) aL))))) zQb Tryz.func244 rfl (nL rfl) λhwf=>by
  refine Eq.mpr (by kernel_rfl:_=(let d:=accS true 4 mode m p x k;let h:=d.c;let e:=d.b;let c:=d.a;let j:=mU (aE c::aIK e h d.al d.own [aE d.f]);let l:=zYz 4 p.f x.f m;let a:=p.al;let n:=knoA m a p.f x.own 0;let b:=k.al;let o:=knoA m a p.f x.al b;let q:=knoC mode m p.c a p.f x.c k.c b;let f:=qO 0 0 0 0 0 0;let g:=eS (dB p);let i:=qJ f j;let r:=rD (DV.int IntKind.i64 mode);let s:=knoC mode m p.b a p.f x.b k.b b;let t:=knoC mode m p.a a p.f x.a k.a b;aG (True/\True/\True/\(∃ C:Unit,True/\tW (gX mode (fN m (bP (zS x.a x.b x.c gN)))) g (eS (sW x)) (dB k) (aW (eS f) (eS (sW x))))/\aF (∀ B:Unit,jW (fH wR (iH 0 0 3 x.a) (True/\True/\True/\True/\dN (fL 3) (aH (fL 3) (aCP (vC 259 mode m (fW p.a a (mZ p.f x.a k.a b)) (iO t)) (eS true) true i 0 (∃ A:Unit,True/\zT (gX mode (fN m (bP (zS x.a x.b x.c (lM 0 1))))) g x k f (qP t x.b x.c x=qP c x.b x.c x))))))) (∀ z:Unit,jW (fH wT (iH 1 1 3 x.b) (True/\True/\True/\True/\dN (iX 3) (aH (iX 3) (aCP (Ans prog 259 (r::fW m p.b (fW a p.f (aP x.b::fW k.b b []))) (iO s)) (eS true) true i 1 (∃ y:Unit,True/\zT (gX mode (fN m (bP (zS x.a x.b x.c (lM 1 2))))) g x k f (qP c s x.c x=qP c e x.c x))))))) (∀ w:Unit,jW (fH wX (iH 2 2 3 x.c) (True/\True/\True/\True/\dN (jT 3) (aH (jT 3) (aCP (Ans prog 259 (r::fW m p.c (fW a p.f (fW x.c k.c [aP b]))) (iO q)) (eS true) true i 2 (∃ v:Unit,True/\zT (gX mode (fN m (bP (zS x.a x.b x.c (lM 2 3))))) g x k f (qP c e q x=qP c e h x))))))) (∀ u:Unit,True->dN wY (True/\True/\True/\Ans prog 260 (aP m::mZ a p.f x.al b) (iO o)/\xH (True/\True/\True/\pB 261 m a (fW p.f x.own []) (iO n)/\aG (eV (vC 247 4 p.f (fW x.f m []) (aP l)) (mU (qO c e h o n l)=j)))))))) ?_;delta eS aE aI aF aP aG aH aK oF dR eV fL kD eC aM bG oK bP dN fN iT vC aW iX jT gX dB aB bE gN jW tW gR iO rN gI lM wR wX wT wY uF fH qH uY fW pB xH nT mU qJ aEN qO qP sW iH zS zT mZ aCP aIK;simp only [sS];simp only [RV.wfs,RV.wf,DV.wf,DV.wfs] at hwf;have mi:IntKind.min .u64=0:=rfl;have ma:IntKind.max .u64=18446744073709551615:=rfl;have mj:IntKind.min .u16=0:=rfl;have mb:IntKind.max .u16=65535:=rfl;simp only [mi,ma,mj,mb] at hwf;obtain ⟨_,⟨m0,m1⟩,⟨⟨pa0,_⟩,⟨pb0,_⟩,⟨pc0,_⟩,⟨pl0,_⟩,⟨pf0,_⟩,_⟩,⟨⟨xa0,_⟩,⟨xb0,_⟩,⟨xc0,_⟩,⟨xl0,_⟩,⟨xo0,_⟩,⟨xf0,_⟩,_⟩,⟨⟨ka0,_⟩,⟨kb0,_⟩,⟨kc0,_⟩,⟨kl0,_⟩,⟨kf0,_⟩,_⟩,_⟩:=hwf;unfold zZ4 at hs;simp only [wQf] at hs;obtain ⟨h1,h2,h3,h4,h5⟩:=hs;obtain ⟨⟨q1,q2,q3⟩,hf,⟨q4,q5,q6,q7⟩,hk2,hk3⟩:=Ac.ok_iff.1 h3;obtain ⟨r1,r2,r3,r4,r5⟩:=Px.ok_iff.1 hk2;obtain ⟨p1,p2,p3,p4,p5⟩:=Px.ok_iff.1 h4;have sh:=zJn 4 p.f x.f m hf h1 p5 q7;have k1:=zYa mode m p.a p.al p.f x.a k.a k.al hf h2 p1 p4 p5 r1 (by omega) (by omega);have k2:=zYa mode m p.b p.al p.f x.b k.b k.al hf h2 p2 p4 p5 r2 (by omega) (by omega);have k3:=zYa mode m p.c p.al p.f x.c k.c k.al hf h2 p3 p4 p5 r3 (by omega) (by omega);have ka:=zJq m p.al p.f x.al k.al hf p4 p5 q6 (by omega);have ko:=zGk m p.al p.f x.own hf p4 p5 (by omega);have w1:wrap .i64 (0+1)=1:=by decide
  have w2:wrap .i64 (1+1)=2:=by decide
  have w3:wrap .i64 (2+1)=3:=by decide
  (repeat' (first | intro _ | apply And.intro | refine Exists.intro () ?_))<;>first | exact sh | exact k1 | exact k2 | exact k3 | exact ka | exact ko | exact w1 | exact w2 | exact w3 | exact trivial | rfl | decide | (exfalso; contradiction) | omega
def zU (a:Nat) (b:Int) (c:Nat) (d:Int) (e:List (Nat × AV)):List (Nat × AV):=aDO a b c (aE d) e
def aCN (a b c d e:Int):Prop:=bN (zS a b c (lM d e))
def aCO (a b c:Int) (d e:Prop):Prop:=nC a (bG b) (eS (aE c)) d e
theorem jQn (kno:Bool) (op mode m:Int) (p:Px) (x:Ac) (k:Px) (ho:isNm op=true) (hm:isNm mode=true):Ans prog 230 [rD (dQ kno),rJ (op),rJ (mode),rD (dK m),rA (pD p),rA (aD x),rA (pD k)] (rT [rA (aD (zWx kno op mode m p x k)),rD (dQ (zZ4 kno op mode m p x k))]):=
 zQa (Γ:=jZ6) (let b:=accS kno op mode m p x k;let d:=b.b;let c:=b.a;let a:=aHO 0 0 0 0 0 0 [];let e:=zZ4 kno op mode m p x k=true;let g:=kno=false/\e;let f:=zV x.own x.f [];cT (Ann.cut (Inv.mk Unit (λ(u:Unit)=>e) (λ(t:Unit)=>xT (tO 0 (DV.bool kno) 1 op (zU 2 mode 3 m (gC 11 11 12 12 (gC 13 13 14 14 [])))) 11 p 12 x [] 13 (sK k) 14 a []) (λ(i:Unit)=>(0:Nat))) aL (λ(s:Unit)=>eF (Ann.link (Inv.mk Unit (λ(l:Unit)=>g) (λ(r:Unit)=>aGG (aAJ op (zU 2 mode 3 m (xU 11 12 14 16 51 x 52 0))) 11 (sK p) 12 (aEO x.a x []) 14 a (oY 16 (aEO x.a x []))) (λ(i:Unit)=>(0:Nat))) (λ(n:Unit)=>xS) (Ann.link (Inv.mk Unit (λ(l:Unit)=>g) (λ(q:Unit)=>xT (aAJ op (zU 2 mode 3 m (xU 11 12 14 16 51 x 52 1))) 11 p 12 x [] 14 a 16 (aGH c x.b x.c x.al f) []) (λ(i:Unit)=>(0:Nat))) (λ(n:Unit)=>xS) (Ann.link (Inv.mk Unit (λ(l:Unit)=>g) (λ(o:Unit)=>xT (aAJ op (zU 2 mode 3 m (xU 11 12 14 16 51 x 52 2))) 11 p 12 x [] 14 a 16 (mY c (zV d x.c (mY x.al f))) []) (λ(i:Unit)=>(0:Nat))) (λ(n:Unit)=>xS) (Ann.link (Inv.mk Unit (λ(l:Unit)=>g) (λ(j:Unit)=>xT (aAJ op (zU 2 mode 3 m (xU 11 12 14 16 51 x 52 3))) 11 p 12 x [] 14 a 16 (aGI c d b.c x []) []) (λ(i:Unit)=>(0:Nat))) (λ(h:Unit)=>vA) aL))))))) zQb Tryz.func230 rfl (nL rfl) λhwf=>by
  refine Eq.mpr (by kernel_rfl:_=(let g:=zZ4 kno op mode m p x k;let t:=sW (zWx kno op mode m p x k);let h:=dG t g;let u:=zYz op p.f x.f m;let a:=p.al;let v:=zXF op a x.own m;let b:=x.al;let w:=zXF op a b m;let o:=accS kno op mode m p x k;let y:=o.c;let i:=o.b;let f:=o.a;let z:=g=true;let c:=kno=false/\z;let A:=colS op mode m p.c a x.c b;let e:=qO 0 0 0 0 0 0;let d:=sW x;let j:=pI p.a p.b p.c p.al p.f;let l:=eS j;let n:=qJ e (dG t g);let q:=rD (DV.int IntKind.i64 mode);let r:=rD (DV.int IntKind.i64 op);let B:=aGY x.c b [aE x.own,aE x.f];let C:=aE f;let D:=colS op mode m p.b a x.b b;let E:=colS op mode m p.a a x.a b;let F:=eS e;let G:=mU (sW (accS true 4 mode m p x k));let H:=nT e (aB false);let s:=Ac.ok x k m;let I:=(∃ T:Unit,iT z (eS (DV.bool kno)/\aCO op mode m (eS (0:Nat)) (bN (bP True))) l d (dB k) F);dP (yV (bF 182 d [kR k,aP m] (aB s)) (gI s (True/\aEP j m p/\vB (Px.ok p m) (True/\(kno=true->True/\True/\True/\True/\((op !=4)=true->True/\n)/\((op !=4)=false->I))/\mP kno I) (fP (!(Px.ok p m)) false (H=h)))) (jN s (bX H h))) (∀ S:Unit,qN g (qW kno (bV (vC 244 mode m [rA j,rA d,kR k] G) (G=h))) (kno=false->True/\dP (∃ R:Unit,tW c (aCO op mode m (eS (0:Nat)) (bN (zS x.a x.b x.c gN))) (eS j) d (aW F (eS d))) (aF (∀ Q:Unit,c->wG wR (iH 0 0 3 x.a) (bV (fL 3) (aCP (Ans prog 245 (r::q::aP m::mZ p.a a x.a b) (iO E)) (eS true) true n 0 (∃ P:Unit,iT c (aCO op mode m (eS (0:Nat)) (aCN x.a x.b x.c 0 1)) l d e (qP E x.b x.c x=qP f x.b x.c x))))) (∀ O:Unit,c->wG wT (iH 1 1 3 x.b) (bV (iX 3) (aCP (Ans prog 245 (r::q::aP m::mZ p.b a x.b b) (iO D)) (eS true) true n 1 (∃ M:Unit,iT c (aCO op mode m (eS (0:Nat)) (aCN x.a x.b x.c 1 2)) l d e (C::aE D::B=C::aE i::B))))) (∀ L:Unit,c->wG wX (iH 2 2 3 x.c) (bV (jT 3) (aCP (Ans prog 245 (r::q::aP m::mZ p.c a x.c b) (iO A)) (eS true) true n 2 (∃ K:Unit,iT c (aCO op mode m (eS (0:Nat)) (aCN x.a x.b x.c 2 3)) l d e (qP f i A x=qP f i y x))))) (∀ J:Unit,bL c wY (True/\True/\True/\True/\eV (vC 246 op a (fW b m []) (aP w)) (True/\True/\True/\vC 246 op a (fW x.own m []) (aP v)/\aG (iK (vC 247 op p.f (fW x.f m []) (aP u)) (bX (mU (qO f i y w v u)) h)))))))))) ?_;delta eS aE aI aF aP aG aH oF dR lW eV fL pI kD aM bG nC oK bP bN iT bX vC qW aW bL dP iX jT iK kR bF bV dB aB bE aV gN wG tW fP gR iO mP rN gI yV lM wR wX wT wY aGY qH uY fW nT dG jN mU qJ aEN qN qO qP sW iH zS aCN mZ vB aEP aCO aCP;simp only [sS];simp only [RV.wfs,RV.wf,DV.wf,DV.wfs] at hwf;have mi:IntKind.min .u64=0:=rfl;have ma:IntKind.max .u64=18446744073709551615:=rfl;have mj:IntKind.min .u16=0:=rfl;have mb:IntKind.max .u16=65535:=rfl;simp only [mi,ma,mj,mb] at hwf;obtain ⟨_,_,_,⟨m0,m1⟩,⟨⟨pa0,_⟩,⟨pb0,_⟩,⟨pc0,_⟩,⟨pl0,_⟩,⟨pf0,_⟩,_⟩,⟨⟨xa0,_⟩,⟨xb0,_⟩,⟨xc0,_⟩,⟨xl0,_⟩,⟨xo0,_⟩,⟨xf0,_⟩,_⟩,⟨⟨ka0,_⟩,⟨kb0,_⟩,⟨kc0,_⟩,⟨kl0,_⟩,⟨kf0,_⟩,_⟩,_⟩:=hwf;have va:=zK8 x k m;have vp:=zQp p.a p.b p.c p.al p.f m;change Ans _ _ _ (RV.d (DV.bool (p.ok m))) at vp;have mk:x.ok k m=true->p.ok m=true->(kno=true->op=4)->zZ4 kno op mode m p x k=true:=λh3 h4 h5=>by
   unfold zZ4;rw [ho,hm,h3,h4]
   cases kno with
   | false=>rfl
   | true=>rw [h5 rfl]; rfl
  have e0:zWx kno op mode m p x k=if zZ4 kno op mode m p x k then accS kno op mode m p x k else .zero:=rfl
  have bad:¬ (x.ok k m=true/\p.ok m=true/\(kno=true->op=4))->(0=(zWx kno op mode m p x k).a/\0=(zWx kno op mode m p x k).b/\0=(zWx kno op mode m p x k).c/\0=(zWx kno op mode m p x k).al/\0=(zWx kno op mode m p x k).own/\0=(zWx kno op mode m p x k).f)/\false=zZ4 kno op mode m p x k:=λhn=>by
   have hf:zZ4 kno op mode m p x k=false:=by
    cases e:zZ4 kno op mode m p x k with
    | false=>rfl
    | true=>
     unfold zZ4 at e;simp only [wQf] at e
     exact absurd ⟨e.2.2.1,e.2.2.2.1,λhk=>by
      have:=e.2.2.2.2;rw [hk] at this
      simpa using this⟩ hn
   rw [e0,hf];exact ⟨⟨rfl,rfl,rfl,rfl,rfl,rfl⟩,rfl⟩
  refine ⟨⟨va,λhx=>⟨vp,λhp=>⟨λhk=>⟨λh4=>bad λq=>absurd (q.2.2 hk) (wQP.1 h4),λh4=>⟨(),mk hx hp λ_=>wZv.1 h4⟩⟩,λhk=>⟨(),mk hx hp λh=>by rw [hk] at h; cases h⟩⟩,λhp=>bad λq=>by rw [hp] at q; exact absurd q.2.1 (by decide)⟩,λhx=>bad λq=>by rw [hx] at q; exact absurd q.1 (by decide)⟩,λhs=>?_⟩;clear bad mk va vp;have e1:zWx kno op mode m p x k=accS kno op mode m p x k:=by rw [e0,if_pos hs]
  rw [e1,hs];clear e0 e1;have hs':=hs;unfold zZ4 at hs';simp only [wQf] at hs';obtain ⟨h1,h2,h3,h4,h5⟩:=hs';obtain ⟨⟨q1,q2,q3⟩,hf,⟨q4,q5,q6,q7⟩,hk2,hk3⟩:=Ac.ok_iff.1 h3;obtain ⟨r1,r2,r3,r4,r5⟩:=Px.ok_iff.1 hk2;obtain ⟨p1,p2,p3,p4,p5⟩:=Px.ok_iff.1 h4
  cases kno with
  | true=>
   have h6:op=4:=by simpa using h5
   subst h6;exact ⟨λ_=>⟨zUD mode m p x k hs,⟨rfl,rfl,rfl,rfl,rfl,rfl⟩,rfl⟩,λh=>(by cases h)⟩
  | false=>
   have sh:=zJn op p.f x.f m hf h1 p5 q7;have c1:=zKp op mode m p.a p.al x.a x.al hf h1 h2 p1 (by omega) q1 q6;have c2:=zKp op mode m p.b p.al x.b x.al hf h1 h2 p2 (by omega) q2 q6;have c3:=zKp op mode m p.c p.al x.c x.al hf h1 h2 p3 (by omega) q3 q6;have a1:=zJo op p.al x.al m hf h1 (by omega) q6;have a2:=zJo op p.al x.own m hf h1 (by omega) (by omega);have w1:wrap .i64 (0+1)=1:=by decide
   have w2:wrap .i64 (1+1)=2:=by decide
   have w3:wrap .i64 (2+1)=3:=by decide
   (repeat' (first | intro _ | apply And.intro | refine Exists.intro () ?_))<;>first | exact sh | exact c1 | exact c2 | exact c3 | exact a1 | exact a2 | exact w1 | exact w2 | exact w3 | exact hs | exact trivial | rfl | decide | (exfalso; contradiction) | omega
theorem zUE (c k own m:Int) (h1:own<=m) (hm:0<m):Ans prog 183 [rD (dK c),rD (dK k),rD (dK own),rD (dK m)] (rD (dK (remS m c own k))):=
 zQa (Γ:=jZ6) aL zQb Tryz.func183 rfl (nL rfl) λhwf=>by
  refine Eq.mpr (by kernel_rfl:_=(let a:=vD (kU (m-own)) k;let b:=vD m c;let d:=dH b a;aV (lE (aAY b a (aP 0=aP (remS m c own k)) (gV (decide (b<=a)) (bV (Ans prog 228 [bI (b-a),bI m] (aR (zZb d (bH m)))) (lZ (Min.min (jO d (bH m)) own) (remS m c own k)))))))) ?_;delta eS aE aP aG lZ gV bV kU aV cE bH aR bJ dH bI aAY lE jO vD;simp only [sS];simp only [RV.wfs,RV.wf,DV.wf,DV.wfs] at hwf;have mi:IntKind.min .u64=0:=rfl;have ma:IntKind.max .u64=18446744073709551615:=rfl;have mj:IntKind.min .u16=0:=rfl;have mb:IntKind.max .u16=65535:=rfl;simp only [mi,ma,mj,mb] at hwf;have W:∀ x:Int,0<=x->x<18446744073709551616->wrap .u64 x=x:=λx x0 x1=>wQd x ⟨x0,by omega⟩;have U:∀ x:Int,0<=x->x<=65535->wrap .u16 x=x:=λx x0 x1=>wQ8 x ⟨x0,by omega⟩;obtain ⟨⟨c0,c1⟩,⟨k0,k1⟩,⟨o0,o1⟩,⟨m0,m1⟩,_⟩:=hwf;have n1:=zQc m0 m1 c0 c1;have n2:=zQc (x:=m-own) (y:=k) (A:=65535) (B:=65535) (by omega) (by omega) k0 k1;rw [W m m0 (by omega),W c c0 (by omega),W k k0 (by omega),U (m-own) (by omega) (by omega),W (m-own) (by omega) (by omega),W (m*c) n1.1 (by omega),W ((m-own)*k) n2.1 (by omega)];unfold remS;refine ⟨λh=>by rw [if_neg (by omega)],λh=>?_⟩;rw [if_pos (by omega),W (m*c-(m-own)*k) (by omega) (by omega)];have u0:=zYH (n:=m*c-(m-own)*k) hm (by omega);have u1:=zXk (n:=m*c-(m-own)*k) (k:=c) hm (by omega);exact ⟨zQy _ _,by rw [U _ u0 (by omega)]⟩
theorem zGl (x:Ac) (k:Px) (m:Int):Ans prog 109 [rA (aD x),rA (pD k),rD (dK m)] (rT [rA (pD (resE x k m)),rD (dQ (Ac.ok x k m))]):=
 zQa (Γ:=jZ6) (let b:=zZ0 x k m;let c:=b.a;let a:=aEO x.a x [];let d:=Ac.ok x k m=true;oU (Ann.link (Inv.mk Unit (λ(h:Unit)=>d) (λ(n:Unit)=>vN (aGF (aE m) 3 3 4 4 (uZ 6 8 23 x 24 0)) 3 a 4 (sK k) 6 (wO []) 8 (aIB x.own x.f []) []) (λ(f:Unit)=>(0:Nat))) (λ(i:Unit)=>xS) (Ann.link (Inv.mk Unit (λ(h:Unit)=>d) (λ(l:Unit)=>vN (vM 2 m 3 3 (vL 4 4 (uZ 6 8 23 x 24 1))) 3 a 4 (sK k) 6 (wO []) 8 (aGE c x.own x.f []) []) (λ(f:Unit)=>(0:Nat))) (λ(i:Unit)=>xS) (Ann.link (Inv.mk Unit (λ(h:Unit)=>d) (λ(j:Unit)=>vN (aGF (aE m) 3 3 4 4 (uZ 6 8 23 x 24 2)) 3 a 4 (sK k) 6 (wO []) 8 (aHN c b.b x.own x.f []) []) (λ(f:Unit)=>(0:Nat))) (λ(i:Unit)=>xS) (Ann.link (Inv.mk Unit (λ(h:Unit)=>d) (λ(g:Unit)=>vN (aGF (aE m) 3 3 4 4 (uZ 6 8 23 x 24 3)) 3 a 4 (sK k) 6 (wO []) 8 (zR c b.b b.c x.own x.f) []) (λ(f:Unit)=>(0:Nat))) (λ(e:Unit)=>vA) aL))))) zQb Tryz.func109 rfl (nL rfl) λhwf=>by
  refine Eq.mpr (by kernel_rfl:_=(let b:=Ac.ok x k m;let a:=x.own;let e:=zZ0 x k m;let f:=e.b;let c:=e.a;let h:=dR c f e.c a x.f;let i:=remS m x.c a k.c;let d:=b=true;let g:=fW a m [];let j:=remS m x.b a k.b;let l:=remS m x.a a k.a;bS (True/\bF 182 (sW x) [kR k,aP m] (aB b)/\True/\qH b (qJ oH (dG (dB (resE x k m)) b))/\gI b (aG (True/\(∃ u:Unit,zT d (fN m (bN (zS x.a x.b x.c gN))) x k oH (eS (dR 0 0 0 a x.f)))/\aF (∀ t:Unit,qN b wR (dN (iH 0 0 3 x.a) (rN 0 0 (True/\pB 183 x.a k.a g (aP l)/\True/\fL 3/\lY (∃ s:Unit,zT d (fN m (aCN x.a x.b x.c 0 1)) x k oH (dR l 0 0 a x.f=dR c 0 0 a x.f)))))) (∀ r:Unit,qN b wT (dN (iH 1 1 3 x.b) (rN 1 1 (True/\pB 183 x.b k.b g (aP j)/\True/\iX 3/\lY (∃ q:Unit,zT d (fN m (aCN x.a x.b x.c 1 2)) x k oH (dR c j 0 a x.f=dR c f 0 a x.f)))))) (∀ p:Unit,qN b wX (dN (iH 2 2 3 x.c) (rN 2 2 (True/\pB 183 x.c k.c g (aP i)/\True/\jT 3/\lY (∃ o:Unit,zT d (fN m (aCN x.a x.b x.c 2 3)) x k oH (dR c f i a x.f=h)))))) (∀ n:Unit,b=true->True/\aM wY (mU h=dG (dB (resE x k m)) b))))))) ?_;delta eS aE aI aF aP aG aK oF dR lW fL lY kD eC aM bG oK bP bN dN fN iT aW bL iX jT kR bF dB oH aB bE bS gN rN gI lM wR wX wT wY qH fW pB nT dG mU qJ qN qO qP sW iH zS zT aCN;simp only [sS];simp only [RV.wfs,RV.wf,DV.wf,DV.wfs] at hwf;have mi:IntKind.min .u64=0:=rfl;have ma:IntKind.max .u64=18446744073709551615:=rfl;have mj:IntKind.min .u16=0:=rfl;have mb:IntKind.max .u16=65535:=rfl;simp only [mi,ma,mj,mb] at hwf;obtain ⟨⟨⟨xa0,xa1⟩,⟨xb0,xb1⟩,⟨xc0,xc1⟩,⟨xl0,xl1⟩,⟨xo0,xo1⟩,⟨xf0,xf1⟩,_⟩,⟨⟨ka0,ka1⟩,⟨kb0,kb1⟩,⟨kc0,kc1⟩,⟨kl0,kl1⟩,⟨kf0,kf1⟩,_⟩,⟨m0,m1⟩,_⟩:=hwf;have va:=zK8 x k m;have e0:resE x k m=if x.ok k m then zZ0 x k m else .zero:=rfl
  cases hx:x.ok k m with
  | false=>
   rw [hx] at e0 va;have e0:resE x k m=.zero:=e0;rw [e0];exact ⟨va,λ_=>⟨⟨rfl,rfl,rfl,rfl,rfl⟩,rfl⟩,λh=>by cases h⟩
  | true=>
   rw [hx] at e0 va;have e0:resE x k m=zZ0 x k m:=e0;rw [e0];obtain ⟨⟨q1,q2,q3⟩,hf,⟨q4,q5,q6,q7⟩,hk2,hk3⟩:=Ac.ok_iff.1 hx;have hm:=(zQ4 hf).1;have R:=λc k=>zUE c k x.own m (by omega) hm;have w1:wrap .i64 (0+1)=1:=by decide
   have w2:wrap .i64 (1+1)=2:=by decide
   have w3:wrap .i64 (2+1)=3:=by decide
   (repeat' (first | intro _ | apply And.intro | refine Exists.intro () ?_))<;>first | exact va | exact R _ _ | exact w1 | exact w2 | exact w3 | exact hx | exact trivial | rfl | decide | (exfalso; contradiction) | omega
end
def acs (l:List Ac):List DV:=l.flatMap Ac.ds
theorem jVZ (l k:List Ac):acs l++acs k=acs (l++k):=by simp [acs]
theorem zX2 (l:List Ac):(acs l).length=l.length*6:=by
 induction l with
 | nil=>rfl
 | cons t l ih=>
  show (t.ds++acs l).length=_
  rw [wQi,ih];simp only [Ac.ds,wQJ,wZq];omega
theorem yQm {l:List Ac} {k:Nat} (h:k<l.length) (j:Nat) (hj:j<6):(acs l)[k*6+j]?=l[k].ds[j]?:=by
 induction l generalizing k with
 | nil=>simp at h
 | cons o l ih=>
  have e:acs (o::l)=o.ds++acs l:=by simp [acs]
  have ec:o.ds.length=6:=rfl;rw [e]
  cases k with
  | zero=>simp only [wXR]; rw [wQH (by omega)]; simp
  | succ k=>
   rw [wQp (by omega)];have:=ih (k:=k) (by simpa using h);simp only [wZt];rw [<- this];congr 1;omega
theorem zHZ {l:List Ac} {k:Nat} (h:k<l.length):(acs l)[k*6+0]?=some (.int .u16 l[k].a)/\(acs l)[k*6+1]?=some (.int .u16 l[k].b)/\(acs l)[k*6+2]?=some (.int .u16 l[k].c)/\(acs l)[k*6+3]?=some (.int .u16 l[k].al)/\(acs l)[k*6+4]?=some (.int .u16 l[k].own)/\(acs l)[k*6+5]?=some (.int .u16 l[k].f):=by
 have g:=λj hj=>yQm h j hj;exact ⟨g 0 (by omega),g 1 (by omega),g 2 (by omega),g 3 (by omega),g 4 (by omega),g 5 (by omega)⟩
theorem zH0 {l:List Ac} {k:Nat} (h:k<l.length):nAt (acs l) (k*6+0)=l[k].a/\nAt (acs l) (k*6+1)=l[k].b/\nAt (acs l) (k*6+2)=l[k].c/\nAt (acs l) (k*6+3)=l[k].al/\nAt (acs l) (k*6+4)=l[k].own/\nAt (acs l) (k*6+5)=l[k].f:=by
 obtain ⟨e0,e1,e2,e3,e4,e5⟩:=zHZ h;simp only [nAt,bAt,e0,e1,e2,e3,e4,e5,and_self]
def acAt (xs:List DV) (i:Nat):Ac:=⟨nAt xs (i+0),nAt xs (i+1),nAt xs (i+2),nAt xs (i+3),nAt xs (i+4),nAt xs (i+5)⟩
theorem jGX {l:List Ac} {k:Nat} (h:k<l.length):acAt (acs l) (k*6)=l[k]:=by
 obtain ⟨e0,e1,e2,e3,e4,e5⟩:=zH0 h;simp only [acAt,e0,e1,e2,e3,e4,e5]
def jXC (xs:List DV):List Ac:=(List.range (xs.length / 6)).map λk=>acAt xs (k*6)
theorem zWu (l:List Ac):jXC (acs l)=l:=by
 have e:(acs l).length / 6=l.length:=by rw [zX2]; omega
 unfold jXC;rw [e];refine wQ1 (by simp) λi h1 h2=>?_;simp only [List.getElem_map,wZj];exact jGX h2
structure Fr where
  op:Oq
  acc:List Ac
  back:List Px
def Fr.cells (t:Fr):List DV:=t.op.cells++[.sl t.acc.length (acs t.acc),.sl t.back.length (pxs t.back)]
def frs (l:List Fr):List DV:=l.flatMap Fr.cells
theorem jVL (l k:List Fr):frs l++frs k=frs (l++k):=by simp [frs]
theorem zUI (l:List Fr):(frs l).length=l.length*14:=by
 induction l with
 | nil=>rfl
 | cons t l ih=>
  show (t.cells++frs l).length=_
  rw [wQi,ih];simp only [Fr.cells,Oq.cells,wQi,wQJ,wZq];omega
theorem jH2 {l:List Fr} {k:Nat} (h:k<l.length) (j:Nat) (hj:j<14):(frs l)[k*14+j]?=l[k].cells[j]?:=by
 induction l generalizing k with
 | nil=>simp at h
 | cons o l ih=>
  have e:frs (o::l)=o.cells++frs l:=by simp [frs]
  have ec:o.cells.length=14:=rfl;rw [e]
  cases k with
  | zero=>simp only [wXR]; rw [wQH (by omega)]; simp
  | succ k=>
   rw [wQp (by omega)];have:=ih (k:=k) (by simpa using h);simp only [wZt];rw [<- this];congr 1;omega
theorem jYz {l:List Fr} {k:Nat} (h:k<l.length):(frs l)[k*14+0]?=some (.int .i64 l[k].op.kind)/\(frs l)[k*14+1]?=some (.int .i64 l[k].op.image)/\(frs l)[k*14+2]?=some (.int .i64 l[k].op.x)/\(frs l)[k*14+3]?=some (.int .i64 l[k].op.y)/\(frs l)[k*14+4]?=some (.int .i64 l[k].op.mask)/\(frs l)[k*14+5]?=some (.int .i64 l[k].op.mx)/\(frs l)[k*14+6]?=some (.int .i64 l[k].op.my)/\(frs l)[k*14+7]?=some (.int .u16 l[k].op.opac)/\(frs l)[k*14+8]?=some (.int .i64 l[k].op.oper)/\(frs l)[k*14+9]?=some (.int .i64 l[k].op.mode)/\(frs l)[k*14+10]?=some (.bool l[k].op.iso)/\(frs l)[k*14+11]?=some (.bool l[k].op.kno)/\(frs l)[k*14+12]?=some (.sl l[k].acc.length (acs l[k].acc))/\(frs l)[k*14+13]?=some (.sl l[k].back.length (pxs l[k].back)):=by
 have g:=λj hj=>jH2 h j hj;exact ⟨g 0 (by omega),g 1 (by omega),g 2 (by omega),g 3 (by omega),g 4 (by omega),g 5 (by omega),g 6 (by omega),g 7 (by omega),g 8 (by omega),g 9 (by omega),g 10 (by omega),g 11 (by omega),g 12 (by omega),g 13 (by omega)⟩
theorem jYB {l:List Fr} {k:Nat} (h:k<l.length):nAt (frs l) (k*14+0)=l[k].op.kind/\nAt (frs l) (k*14+1)=l[k].op.image/\nAt (frs l) (k*14+2)=l[k].op.x/\nAt (frs l) (k*14+3)=l[k].op.y/\nAt (frs l) (k*14+4)=l[k].op.mask/\nAt (frs l) (k*14+5)=l[k].op.mx/\nAt (frs l) (k*14+6)=l[k].op.my/\nAt (frs l) (k*14+7)=l[k].op.opac/\nAt (frs l) (k*14+8)=l[k].op.oper/\nAt (frs l) (k*14+9)=l[k].op.mode/\bAt (frs l) (k*14+10)=l[k].op.iso/\bAt (frs l) (k*14+11)=l[k].op.kno/\(lAt (frs l) (k*14+12)=l[k].acc.length/\cAt (frs l) (k*14+12)=acs l[k].acc)/\lAt (frs l) (k*14+13)=l[k].back.length/\cAt (frs l) (k*14+13)=pxs l[k].back:=by
 obtain ⟨e0,e1,e2,e3,e4,e5,e6,e7,e8,e9,e10,e11,e12,e13⟩:=jYz h;simp only [nAt,bAt,lAt,cAt,e0,e1,e2,e3,e4,e5,e6,e7,e8,e9,e10,e11,e12,e13,and_self]
def frAt (xs:List DV) (i:Nat):Fr:=⟨⟨nAt xs (i+0),nAt xs (i+1),nAt xs (i+2),nAt xs (i+3),nAt xs (i+4),nAt xs (i+5),nAt xs (i+6),nAt xs (i+7),nAt xs (i+8),nAt xs (i+9),bAt xs (i+10),bAt xs (i+11)⟩,jXC (cAt xs (i+12)),zQg (cAt xs (i+13))⟩
theorem jGA {l:List Fr} {k:Nat} (h:k<l.length):frAt (frs l) (k*14)=l[k]:=by
 obtain ⟨e0,e1,e2,e3,e4,e5,e6,e7,e8,e9,e10,e11,⟨_,e12⟩,_,e13⟩:=jYB h;simp only [frAt,e0,e1,e2,e3,e4,e5,e6,e7,e8,e9,e10,e11,e12,e13,zWu,zZC]
def zU7 (xs:List DV):List Fr:=(List.range (xs.length / 14)).map λk=>frAt xs (k*14)
theorem jXB (l:List Fr):zU7 (frs l)=l:=by
 have e:(frs l).length / 14=l.length:=by rw [zUI]; omega
 unfold zU7;rw [e];refine wQ1 (by simp) λi h1 h2=>?_;simp only [List.getElem_map,wZj];exact jGA h2
theorem zUf {cs:List DV}:∀ (ys xs:List DV) (i:Nat),sets (cs++xs) (i+cs.length) ys=cs++sets xs i ys
 | [],xs,i=>rfl
 | y::ys,xs,i=>by
  rw [sets,sets,List.set_append_right _ _ (by omega),show i+cs.length-cs.length=i by omega,show i+cs.length+1=(i+1)+cs.length by omega];exact zUf ys _ _
def u16s (l:List Int):List DV:=l.map (.int .u16)
theorem zGD (l:List Int):(u16s l).length=l.length:=by simp [u16s]
theorem jV9 {l:List Int} {k:Nat} (h:k<l.length):(u16s l)[k]?=some (.int .u16 l[k]):=by simp [u16s,h]
theorem jKg {l:List Int} {k:Nat} (h:k<l.length):nAt (u16s l) k=l[k]:=by simp [nAt,jV9 h]
theorem jY9 (l k:List Int):u16s l++u16s k=u16s (l++k):=by simp [u16s]
theorem jW6 (l:List Int):ints (u16s l)=l:=by
 unfold ints u16s;rw [wQ5];exact (List.map_congr_left λx _=>rfl).trans (List.map_id' l)
def pxN (l:List Px) (j:Nat):Px:=(l[j]?).getD .zero
def acN (l:List Ac) (j:Nat):Ac:=(l[j]?).getD .zero
def ksN (mk:List Int) (m:Int) (j:Nat):Int:=if mk.length=0 then m else (mk[j]?).getD 0
def scR (m opac:Int) (l:List Px) (mk:List Int):List Px:=(List.range l.length).map λj=>(zJH (pxN l j) (ksN mk m j) opac m).1
def stR (kno:Bool) (op mode m:Int) (l:List Px) (acc:List Ac) (back:List Px):List Ac:=(List.range l.length).map λj=>accS kno op mode m (pxN l j) (acN acc j) (pxN back j)
def rsR (m:Int) (acc:List Ac) (back:List Px):List Px:=(List.range acc.length).map λj=>zZ0 (acN acc j) (pxN back j) m
theorem zY9 {l:List Px} {k:Nat} (h:k<l.length):pxN l k=l[k]:=by unfold pxN; rw [List.getElem?_eq_getElem h]; rfl
theorem jZj {l:List Ac} {k:Nat} (h:k<l.length):acN l k=l[k]:=by unfold acN; rw [List.getElem?_eq_getElem h]; rfl
def yQ7 (l:List Px) (acc:List Ac) (back:List Px) (k:Nat):Prop:=0<k/\pxN l k=pxN l (k-1)/\acN acc k=acN acc (k-1)/\pxN back k=pxN back (k-1)
theorem zJz (m opac:Int) (l:List Px) (mk:List Int):(scR m opac l mk).length=l.length:=by simp [scR]
theorem jJd (kno:Bool) (op mode m:Int) (l:List Px) (acc:List Ac) (back:List Px):(stR kno op mode m l acc back).length=l.length:=by simp [stR]
theorem zUj (m:Int) (acc:List Ac) (back:List Px):(rsR m acc back).length=acc.length:=by simp [rsR]
theorem jWs {m opac:Int} {l:List Px} {mk:List Int} {k:Nat} (h:k<(scR m opac l mk).length):(scR m opac l mk)[k]=(zJH (pxN l k) (ksN mk m k) opac m).1:=by simp [scR]
theorem jG4 {kno:Bool} {op mode m:Int} {l:List Px} {acc:List Ac} {back:List Px} {k:Nat} (h:k<(stR kno op mode m l acc back).length):(stR kno op mode m l acc back)[k]=accS kno op mode m (pxN l k) (acN acc k) (pxN back k):=by simp [stR]
theorem jWv {m:Int} {acc:List Ac} {back:List Px} {k:Nat} (h:k<(rsR m acc back).length):(rsR m acc back)[k]=zZ0 (acN acc k) (pxN back k) m:=by simp [rsR]
section
attribute [local irreducible] Ans AnsO AnsG AnsN AnsI
def jGt:Gam:=jZ6.add []
def jP (a:List Px):DV:=DV.sl (List.length a) (pxs a)
def qR (a:List Px):Cl:=Cl.d (jP a)
def aGM (a:Nat) (b:List Px) (c d:Nat):List (Nat × AV):=lO a (List.length b) c d
def aGN (a:List Int):DV:=DV.sl (List.length a) (u16s a)
def vF (a:Nat) (b:List Px):List DV:=pxs (List.take a b)
def vG (a:Nat) (b:List Px):Prop:=a<=List.length b
def aCY (a:List Px):Int:=(List.length a:Int)
def aEY (a:Nat) (b:List Px) (c:Nat):Prop:=eG a (List.length b) c (pxs b)
def aEZ (a:List Px) (b c:Nat):Prop:=gU (bD (pxs a) (aT b 5) (bT (pxs a) b 5)) (bD (pxs a) (gF b c) (dT (pxs a) b 5)) (bD (pxs a) (cI (aT b c)) (eH (pxs a) b 5)) (bD (pxs a) (mK b c) (dE (pxs a) b 5)) (mR (pxs a) (aT b c))
def aCZ (a:List Px):RV:=dO (List.length a) (pxs a)
def aFA (a:List DV) (b c:Nat):Px:=⟨bT a b c,dT a b c,eH a b c,dE a b c,kT a b c⟩
theorem jQc (l:List Px) (mk:List Int) (opac m:Int) (hl:l.length<=100000) (hm:mk.length=0\/mk.length=l.length) (hok:∀ j,j<l.length->(zJH (pxN l j) (ksN mk m j) opac m).2=true):Ans prog 212 [rD (dS l.length (pxs l)),rD (dS mk.length (u16s mk)),rD (dK opac),rD (dK m)] (rT [rD (dS ((scR m opac l mk).length) (pxs (scR m opac l mk))),rD (dQ true)]):=
 zQa (Γ:=jGt) (cT (Ann.cut (Inv.mk Unit (λ(n:Unit)=>True) (λ(k:Unit)=>uN (sT 0 (jP l) 1 (aGN mk) (xY 2 opac 3 m []))) (λ(j:Unit)=>(0:Nat))) aL (λ(i:Unit)=>pM (Ann.loop (Inv.mk Nat (λ(f:Nat)=>vG f l) (λ(b:Nat)=>oE (kP 1 (aGN mk) (xY 2 opac 3 m (mE 10 1010 b 26 (qR l) (aGM 27 l 28 b)))) 1010 37 5 (vF b (scR m opac l mk)) []) (λ(e:Nat)=>List.length l-e)) (λ(a:Nat)=>dZ (pE (dZ (Ann.cut (Inv.mk Int (λ(d:Int)=>d=ksN mk m a) (λ(c:Int)=>oE (kP 1 (aGN mk) (xY 2 opac 3 m (mE 10 1010 a 12 (Cl.ptr 12 0) (aGU 13 c 26 (jP l) (aGM 27 l 28 a))))) 1010 37 5 (vF a (scR m opac l mk)) (oY 12 (zR (bT (pxs l) a 5) (dT (pxs l) a 5) (eH (pxs l) a 5) (dE (pxs l) a 5) (kT (pxs l) a 5)))) (λ(h:Int)=>(0:Nat))) aL (λ(g:Int)=>aL))))))))) zQb Tryz.func212 rfl (nL rfl) λhwf=>by
  refine Eq.mpr (by kernel_rfl:_=(let h:=scR m opac l mk;let n:=aCZ h;let o:=List.length l;let w:=gA (List.length l);let e:=eS (jP l);let f:=bZ m;let i:=eS (aGN mk);let x:=eS (nH o);let j:=List.length mk;let y:=(∃ C:Unit,True/\aF e (eS (aGN mk)) (bZ opac) f/\True);let z:=(j:Int);let A:=z !=aCY l;fZ (True/\aCH (fI z) (True/\True/\aAC (A=true) (dO 0 []) n (A=false->y)) y) (∀ B:Unit,jW (True/\True/\True/\(∃ g:Nat,bK (vG g l) (i/\eC (aE opac) f (mG (0=g) e w g)) (([]:List DV)=vF g h))/\(∀ a:Nat,let c:=vF a h;let r:=dR (bT (pxs l) a 5) (dT (pxs l) a 5) (eH (pxs l) a 5) (dE (pxs l) a 5) (kT (pxs l) a 5);let s:=ksN mk m a;bL (vG a l) (eX a o true (cG (aEY a l 5) (aEZ l a 5) (True/\True/\True/\fU (j:Int) 0 (cZ (eG a j 1 (u16s mk)) (aZ (bD (u16s mk) (aT a 1) (bT (u16s mk) a 1))) (∃ u:Int,gS (u=s) (i/\bZ opac/\f/\eS a/\eS (0:Nat)/\aF (aE (bT (u16s mk) a 1)=aE u) e x (gA a)) c r)) (aDR j (∃ t:Int,gS (t=s) (i/\bZ opac/\f/\eS a/\eS (0:Nat)/\aF (aE m=aE t) e x (gA a)) c r))/\(∀ k:Int,let v:=zJH (aFA (pxs l) a 5) k opac m;let d:=v.fst;let p:=aE d.a::aE d.b::aCM d.c d.al d.f;let q:=v.snd;k=s->True/\True/\eV (bF 229 r (aP k::fW opac m []) (dG p q)) (aAC (uR q) (dO 0 []) n (aEN q (aM (zZ2 5 10 a 1 c p) (∃ b:Nat,aF (vG b l) (bW (List.length l) b a) (i/\eC (aE opac) f (gW (a+1=b) e w a b)) (c++p=vF b h))))))))) (eX a o false (True/\True/\gR (dO a c)=gR n))))))) ?_;delta eS aY bY aZ cZ aE aI aF aP aH dR bD eV gU eC aM cG bZ mB aW nH nG fU dO bK aT gW bL gF mG gT bF aU bT eG eX dT dE eH kT aDR aB cI bU bW fZ mK gA jW gR kY gI fI mR fW gS aCH nT dG uR aEN aCM jP aCY aEY aGN aEZ aCZ aFA vF aAC vG;simp only [sS,zQs];clear hwf;have hM:∀ n:Nat,n<=100000->n<=maxLen:=λn h=>by unfold maxLen; omega
  refine ⟨⟨λh1=>⟨λh2=>?_,λ_=>⟨(),trivial⟩⟩,λ_=>⟨(),trivial⟩⟩,⟨0,Nat.zero_le _,⟨rfl,rfl⟩,rfl⟩,λk hk=>⟨λhlt=>?_,λhge=>?_⟩⟩
  ·have h1:=wQP.1 h1;have h2:=wQP.1 h2;omega
  ·have h:k<l.length:=by omega
   obtain ⟨e1,e2,e3,e4,e5⟩:=zQJ h;have q:=zJW h;have hw:wrap .i64 ((k:Int)+1)=((k+1:Nat):Int):=by rw [wQb _ ⟨by omega,by omega⟩]; omega
   have ok:=hok k h;have en:=zY9 h;have hmk:0<mk.length->k<mk.length:=by omega
   simp only [e1,e2,e3,e4,e5,wQo];generalize l[k]=P at *;rw [en] at ok;refine ⟨⟨by omega,by omega,by omega⟩,q,⟨λh1=>⟨⟨by omega,by have:=hmk (by omega); omega,by rw [zGD]; exact hmk (by omega)⟩,(by rw [jKg (hmk (by omega))]; exact jV9 (hmk (by omega))),ksN mk m k,rfl,?_⟩,λh1=>⟨ksN mk m k,rfl,?_⟩⟩,λw hw2=>?_⟩
   ·rw [jKg (hmk (by omega))];unfold ksN;rw [if_neg (by omega),List.getElem?_eq_getElem (hmk (by omega))]; rfl
   ·unfold ksN;rw [if_pos (by omega)]
   ·have hs:k<(scR m opac l mk).length:=by rw [zJz]; exact h
    have ts:=wZf (l:=scR m opac l mk) (i:=k);rw [List.getElem?_eq_getElem hs,jWs hs,en,<- hw2] at ts;have ap:zZ2 5 10 k 1 (pxs ((scR m opac l mk).take k)) (Px.ds (zJH P w opac m).1):=⟨by rw [zQs,wQm,wQG (by omega)],rfl,hM _ (by omega),by omega⟩
    rw [<- hw2] at ok;refine ⟨jQd P w opac m,λh1=>(by rw [ok] at h1; cases h1),λ_=>⟨ap,k+1,by omega,by omega,⟨rfl,hw⟩,?_⟩⟩;rw [ts,<- zYZ]; rfl
  ·have:k=l.length:=by omega
   subst this;rw [wQY (by rw [zJz]; omega)];exact ⟨(zJz _ _ _ _).symm,rfl⟩
def aGQ (a:List Ac):DV:=DV.sl (List.length a) (acs a)
def aDG (a:Nat) (b:List Ac):List DV:=acs (List.take a b)
def aFE (a:Bool) (b:Int) (c:Prop):Prop:=eC (DV.bool a) (bG b) c
def aFD (a:Int) (b c:Prop) (d:List Ac) (e:Prop):Prop:=nC a b c (gD (List.length d) (acs d)) e
theorem jZp (kno:Bool) (op mode m:Int) (l:List Px) (acc:List Ac) (back:List Px) (hl:l.length<=100000) (ha:acc.length=l.length) (hb:back.length=l.length) (ho:isNm op=true) (hmo:isNm mode=true) (hok:∀ j,j<l.length->zZ4 kno op mode m (pxN l j) (acN acc j) (pxN back j)=true):Ans prog 214 [rD (dQ kno),rJ (op),rJ (mode),rD (dK m),rD (dS l.length (pxs l)),rD (dS acc.length (acs acc)),rD (dS back.length (pxs back))] (rT [rD (dS ((stR kno op mode m l acc back).length) (acs (stR kno op mode m l acc back))),rD (dQ true)]):=
 zQa (Γ:=jGt) (let c:=stR kno op mode m l acc back;cT (Ann.cut (Inv.mk Unit (λ(o:Unit)=>True) (λ(n:Unit)=>zJ 0 (DV.bool kno) (uI op mode (aGU 3 m 4 (jP l) (sT 5 (aGQ acc) 6 (jP back) [])))) (λ(k:Unit)=>(0:Nat))) aL (λ(j:Unit)=>pM (Ann.loop (Inv.mk Nat (λ(g:Nat)=>vG g l) (λ(b:Nat)=>oE (tO 0 (DV.bool kno) 1 op (zU 2 mode 3 m (kP 4 (jP l) (sT 5 (aGQ acc) 6 (jP back) (xW 16 (Cl.ref 1016 b) (aGM 33 l 34 b)))))) 1016 199 6 (aDG b c) []) (λ(f:Nat)=>List.length l-f)) (λ(a:Nat)=>eF (pE (Ann.cut (Inv.mk Bool (λ(e:Bool)=>e=true->yQ7 l acc back a) (λ(d:Bool)=>oE (tO 0 (DV.bool kno) 1 op (zU 2 mode 3 m (sT 4 (jP l) 5 (aGQ acc) (aFW 6 (jP back) 16 1016 a (aIJ 17 a 33 (List.length l) (aDO 34 (a:Int) 74 (DV.bool d) [])))))) 1016 199 6 (aDG a c) []) (λ(i:Bool)=>(0:Nat))) aL (λ(h:Bool)=>aL)))))))) zQb Tryz.func214 rfl (nL rfl) λhwf=>by
  refine Eq.mpr (by kernel_rfl:_=(let Q:=stR kno op mode m l acc back;let R:=dO (List.length Q) (acs Q);let A:=gR R;let v:=stR kno op mode m l acc back;let w:=List.length l;let e:=pxs back;let b:=acs acc;let f:=pxs l;let I:=List.length l;let J:=gA I;let h:=eS (jP back);let i:=eS (jP l);let j:=bZ m;let L:=dO 0 [];let k:=pxs back;let n:=pxs l;let s:=List.length acc;let Z:=gA w;let z9:=aCY l !=(s:Int);let y0:=aCY l !=aCY back;fZ (aV (pT z9 (True/\True/\aAC (y0=true) L R (y0=false->(∃ y2:Unit,True/\(eS (DV.bool kno)/\iM op mode (aF j i (gD s b) h))/\True))) (jG z9 (xB L A)))) (∀ y1:Unit,oQ (fZ (∃ u:Nat,bK (vG u l) (aFE kno op (aFD mode j i acc (mG h (0=u) J u))) (([]:List DV)=aDG u v)) (∀ a:Nat,let c:=aDG a v;let B:=aU b (gF a 6);let C:=kT b a 6;let D:=dE b a 6;let E:=eH b a 6;let F:=dT b a 6;let G:=bT b a 6;let S:=(⟨G,F,E,D,C,B⟩:Ac);let H:=sW (zWx kno op mode m (aFA f a 5) S (aFA e a 5));let K:=zZ4 kno op mode m (aFA f a 5) S (aFA e a 5);let x:=aT a 6;let T:=cQ (bD b x (bT b a 6)) (bD b (gF a 6) (dT b a 6)) (bD b (cI x) (eH b a 6)) (bD b (mK a 6) (dE b a 6)) (mR b x) (bD b (cP x) (aU b (gF a 6)));let d:=cV a;let o:=kE d 6;let g:=cV a;let y:=aY g 6;let U:=uX c a 6;let V:=jH c g 6;let W:=aE (qM c a 6)::aE V::aGY U (gE c g 6) [aE (aU c y),aE (aU c o)];let t:=aY d 6;let X:=cP t;let M:=yQ7 l acc back a;let Y:=eS c;let z0:=(∃ O:Bool,bK (O=true->M) (aFE kno op (aFD mode j i acc (h/\eS a/\gA a/\Z/\aW (gA a) (wD false O)))) Y);let z1:=dA z0;let p:=aY g 5;let z2:=gE f g 5;let z3:=jH f g 5;let z4:=zQ (zQ (bT n a 5==qM f a 5) (dT f a 5==z3) (eH f a 5==uX f a 5)) (dE n a 5==z2) (kT f a 5==aU f p);let z5:=jH b g 6;let z6:=pS (zQ (G==qM b a 6) (F==z5) (E==uX b a 6)) (D==gE b g 6) (pS (C==aU b y) (B==aU b o) true);let z7:=gE e g 5;let z8:=jH e g 5;bL (vG a l) (eX a w true (True/\fU (a:Int) 0 (cZ (aEY a l 5) (aEZ l a 5) (True/\True/\lS d w 5 f/\gU (bD n p (qM f a 5)) (bD n (kE d 5) z3) (bD n (nS d 5) (uX f a 5)) (bD n (lG d 5) z2) (mR f p)/\True/\True/\True/\(z4=true->True/\cZ (eG a s 6 b) T (True/\True/\lS d s 6 b/\cQ (bD b t (nAt b t)) (bD b o z5) (bD b (nS d 6) (uX b a 6)) (bD b (lG d 6) (gE b d 6)) (mR b y) (bD b X (aU b o))/\True/\True/\True/\(z6=true->True/\True/\aEY a back 5/\aEZ back a 5/\True/\True/\True/\lS d (List.length back) 5 e/\kV (gU (bD k p (qM e a 5)) (bD k (kE d 5) z8) (bD k (nS d 5) (uX e a 5)) (bD k (lG d 5) z7) (mR e p)) (∃ P:Bool,bK (P=true->M) (aFE kno op (aFD mode j i acc (h/\eS a/\gA a/\Z/\aW (gA a) (wD (zQ (zQ (bT k a 5==qM e a 5) (dT e a 5==z8) (eH e a 5==uX e a 5)) (dE k a 5==z7) (kT e a 5==aU e p)) P)))) Y))/\bL (uC z6) (eS true) z0))/\(uC z4->z1))) (mP (xI (a:Int)) z1)/\(∀ z:Bool,(z=true->M)->qW z (True/\True/\gO g a/\cQ (bD c t (nAt c t)) (bD c o V) (bD c (nS d 6) U) (bD c (lG d 6) (gE c d 6)) (mR c y) (bD c X (aU c o))/\True/\aM (zZ2 6 12 a 1 c W) (∃ r:Nat,aF (vG r l) (bW I r a) (aFE kno op (aFD mode j i acc (gW h (a+1=r) J a r))) (c++W=aDG r v)))/\aBS z (fZ (aEY a l 5) (aEZ l a 5/\True/\True/\eG a s 6 b/\T/\True/\True/\aEY a back 5/\cG (aEZ back a 5) (Ans prog 230 (aB kno::iN op mode [aP m,rA (pI (bT n a 5) (dT f a 5) (eH f a 5) (dE n a 5) (kT f a 5)),rA (aE G::aIK F E D C [aE B]),lW (bT k a 5) (dT e a 5) (eH e a 5) (dE k a 5) (kT e a 5)]) (dG H K)) (iY (eS true) (uR K->True/\True/\kY L A) (aEN K (aM (zZ2 6 12 a 1 c H) (∃ q:Nat,aF (vG q l) (bW I q a) (aFE kno op (aFD mode j i acc (gW h (a+1=q) J a q))) (c++H=aDG q v)))))))))) (eX a w false (True/\True/\gR (dO a c)=A))))))) ?_;delta eS aY bY lS cZ aE aI aF aP dR bD aX lW gU pI eC aM bG nC cG bZ dA qW aW nH nG fU dO bK aT gO gW bL jG gD gF mG aU bT eG eX dT dE eH iY jH gE kT aB pF aV cI bU cP iM bW iN fZ mK gA cV wD kV cQ pS pT gR kY mP uC gI oQ aGY zQ mR kE nS lG aBS xB xI nT dG uR aEN qM uX qO qP sW aIK jP aCY aEY aEZ aFA aAC vG aDG aFE aFD;simp only [sS];clear hwf;have hM:∀ n:Nat,n<=100000->n<=maxLen:=λn h=>by unfold maxLen; omega
  have pxe:∀ p q:Px,((p.a==q.a&&(p.b==q.b&&(p.c==q.c&&true)))&&(p.al==q.al&&(p.f==q.f&&true)))=true->p=q:=λp q h=>by
   simp only [wQf,wXx,and_true] at h;obtain ⟨a,b,c,d,e⟩:=p;obtain ⟨a',b',c',d',e'⟩:=q;simp only at h;obtain ⟨⟨h1,h2,h3⟩,h4,h5⟩:=h;rw [h1,h2,h3,h4,h5]
  have ace:∀ p q:Ac,((p.a==q.a&&(p.b==q.b&&(p.c==q.c&&true)))&&(p.al==q.al&&(p.own==q.own&&(p.f==q.f&&true))))=true->p=q:=λp q h=>by
   simp only [wQf,wXx,and_true] at h;obtain ⟨a,b,c,d,e,g⟩:=p;obtain ⟨a',b',c',d',e',g'⟩:=q;simp only at h;obtain ⟨⟨h1,h2,h3⟩,h4,h5,h6⟩:=h;rw [h1,h2,h3,h4,h5,h6]
  have ebad:∀ h:¬ (acc.length=l.length/\back.length=l.length),(0=(stR kno op mode m l acc back).length/\[]=acs (stR kno op mode m l acc back))/\false=true:=λh=>absurd ⟨ha,hb⟩ h;refine ⟨⟨λh1=>⟨λh2=>ebad (by have:=wQP.1 h2; omega),λ_=>⟨(),trivial⟩⟩,λh1=>ebad (by have:=wQP.1 h1; omega)⟩,⟨0,Nat.zero_le _,⟨rfl,rfl⟩,rfl⟩,λk hk=>⟨λhlt=>?_,λhge=>?_⟩⟩
  ·have h:k<l.length:=by omega
   have h':k<acc.length:=by omega
   have h'':k<back.length:=by omega
   have w1:wrap .i64 ((k:Int)+1)=((k+1:Nat):Int):=by rw [wQb _ ⟨by omega,by omega⟩]; omega
   have hs:k<(stR kno op mode m l acc back).length:=by rw [jJd]; exact h
   have ts:=wZf (l:=stR kno op mode m l acc back) (i:=k);rw [List.getElem?_eq_getElem hs,jG4 hs] at ts;have tl:((stR kno op mode m l acc back).take k).length=k:=by rw [wQm,wQG (by omega)]
   have ok:=hok k h;have ap:∀ x:Ac,zZ2 6 12 k 1 (acs ((stR kno op mode m l acc back).take k)) (Ac.ds x):=λx=>⟨by rw [zX2,tl],rfl,hM _ (by omega),by omega⟩
   have nx:∀ x:Ac,x=accS kno op mode m (pxN l k) (acN acc k) (pxN back k)->∃ k',k'<=l.length/\l.length-k'<l.length-k/\(k+1=k'/\wrap .i64 ((k:Int)+1)=(k':Int))/\acs ((stR kno op mode m l acc back).take k)++Ac.ds x=acs ((stR kno op mode m l acc back).take k'):=λx hx=>⟨k+1,by omega,by omega,⟨rfl,w1⟩,by rw [ts,<- hx,<- jVZ]; rfl⟩
   clear ts;refine ⟨⟨λh0=>?_,λh0=>⟨false,λq=>(by cases q),rfl⟩⟩,λc hc=>⟨λhc1=>?_,λhc1=>?_⟩⟩
   ·obtain ⟨j,rfl⟩:∃ j,k=j+1:=⟨k-1,by omega⟩
    have wj:wrap .i64 (((j+1:Nat):Int)-1)=(j:Int):=by rw [wQb _ ⟨by omega,by omega⟩]; omega
    have g:j<l.length:=by omega
    have g':j<acc.length:=by omega
    have g'':j<back.length:=by omega
    obtain ⟨e1,e2,e3,e4,e5⟩:=zQJ h;obtain ⟨f1,f2,f3,f4,f5⟩:=zQJ g;obtain ⟨a1,a2,a3,a4,a5,a6⟩:=zH0 h';obtain ⟨b1,b2,b3,b4,b5,b6⟩:=zH0 g';obtain ⟨c1,c2,c3,c4,c5⟩:=zQJ h'';obtain ⟨d1,d2,d3,d4,d5⟩:=zQJ g'';simp only [Nat.add_zero] at a1 b1;simp only [wj,wQl,e1,e2,e3,e4,e5,f1,f2,f3,f4,f5,a1,a2,a3,a4,a5,a6,b1,b2,b3,b4,b5,b6,c1,c2,c3,c4,c5,d1,d2,d3,d4,d5];have R1:=zJW h;have R2:=zJW g;have R3:=zHZ h';have R4:=zHZ g';have R5:=zJW h'';have R6:=zJW g'';simp only [Nat.add_zero] at R3 R4;have n1:=zY9 h;have n2:=zY9 g;have n3:=jZj h';have n4:=jZj g';have n5:=zY9 h'';have n6:=zY9 g'';refine ⟨⟨by omega,by omega,by rw [zQs]; omega⟩,R1,⟨by omega,by omega,by rw [zQs]; omega⟩,R2,λq1=>⟨⟨by omega,by omega,by rw [zX2]; omega⟩,R3,⟨by omega,by omega,by rw [zX2]; omega⟩,R4,λq2=>⟨⟨by omega,by omega,by rw [zQs]; omega⟩,R5,⟨by omega,by omega,by rw [zQs]; omega⟩,R6,_,λq3=>?_,rfl⟩,λ_=>⟨false,λq=>(by cases q),rfl⟩⟩,λ_=>⟨false,λq=>(by cases q),rfl⟩⟩;have z1:=pxe _ _ q1;have z2:=ace _ _ q2;have z3:=pxe _ _ q3;exact ⟨by omega,by rw [n1,wZI,n2,z1],by rw [n3,wZI,n4,z2],by rw [n5,wZI,n6,z3]⟩
   ·obtain ⟨k0,s1,s2,s3⟩:=hc hc1;obtain ⟨j,rfl⟩:∃ j,k=j+1:=⟨k-1,by omega⟩
    have wj:wrap .i64 (((j+1:Nat):Int)-1)=(j:Int):=by rw [wQb _ ⟨by omega,by omega⟩]; omega
    rw [wZI] at s1 s2 s3;have hj:j<((stR kno op mode m l acc back).take (j+1)).length:=by rw [tl]; omega
    obtain ⟨a1,a2,a3,a4,a5,a6⟩:=zH0 hj;have R:=zHZ hj;have ev:((stR kno op mode m l acc back).take (j+1))[j]=accS kno op mode m (pxN l (j+1)) (acN acc (j+1)) (pxN back (j+1)):=by rw [List.getElem_take,jG4,s1,s2,s3]
    simp only [Nat.add_zero] at a1 R;simp only [wj,wQl,a1,a2,a3,a4,a5,a6];exact ⟨⟨by omega,by omega⟩,R,ap _,nx _ ev⟩
   ·obtain ⟨e1,e2,e3,e4,e5⟩:=zQJ h;obtain ⟨a1,a2,a3,a4,a5,a6⟩:=zH0 h';obtain ⟨c1,c2,c3,c4,c5⟩:=zQJ h'';simp only [Nat.add_zero] at a1;simp only [e1,e2,e3,e4,e5,a1,a2,a3,a4,a5,a6,c1,c2,c3,c4,c5];have R1:=zJW h;have R3:=zHZ h';have R5:=zJW h'';simp only [Nat.add_zero] at R3;have n1:=zY9 h;have n3:=jZj h';have n5:=zY9 h'';have se:zWx kno op mode m l[k] acc[k] back[k]=accS kno op mode m (pxN l k) (acN acc k) (pxN back k):=by
     rw [n1,n3,n5] at ok |-;unfold zWx;rw [if_pos ok]
    have S:=jQn kno op mode m l[k] acc[k] back[k] ho hmo;rw [n1,n3,n5] at ok;refine ⟨⟨by omega,by omega,by rw [zQs]; omega⟩,R1,⟨by omega,by omega,by rw [zX2]; omega⟩,R3,⟨by omega,by omega,by rw [zQs]; omega⟩,R5,S,λq=>(by rw [ok] at q; cases q),λ_=>⟨ap _,nx _ se⟩⟩
  ·have:k=l.length:=by omega
   subst this;rw [wQY (by rw [jJd]; omega)];exact ⟨(jJd _ _ _ _ _ _ _).symm,rfl⟩
def aAA (a:Nat) (b:List Ac):Prop:=a<=List.length b
theorem zKT (acc:List Ac) (back:List Px) (m:Int) (hl:acc.length<=100000) (hb:back.length=acc.length) (hok:∀ j,j<acc.length->(acN acc j).ok (pxN back j) m=true):Ans prog 158 [rD (dS acc.length (acs acc)),rD (dS back.length (pxs back)),rD (dK m)] (rT [rD (dS ((rsR m acc back).length) (pxs (rsR m acc back))),rD (dQ true)]):=
 zQa (Γ:=jGt) (cT (Ann.cut (Inv.mk Unit (λ(h:Unit)=>True) (λ(g:Unit)=>zJ 0 (aGQ acc) (sT 1 (jP back) 2 (aE m) [])) (λ(f:Unit)=>(0:Nat))) aL (λ(e:Unit)=>pM (Ann.loop (Inv.mk Nat (λ(c:Nat)=>aAA c acc) (λ(a:Nat)=>oE (sT 0 (aGQ acc) 1 (jP back) (aFW 2 (aE m) 8 1008 a (lO 18 (List.length acc) 19 a))) 1008 37 5 (vF a (rsR m acc back)) []) (λ(b:Nat)=>List.length acc-b)) (λ(d:Nat)=>aL))))) zQb Tryz.func158 rfl (nL rfl) λhwf=>by
  refine Eq.mpr (by kernel_rfl:_=(let f:=rsR m acc back;let l:=gR (aCZ f);let c:=List.length acc;let g:=pxs back;let b:=acs acc;let r:=gA c;let j:=eS (jP back);let s:=(c:Int) !=aCY back;fZ (True/\True/\aAC (s=true) (dO 0 []) (aCZ f) (s=false->(∃ u:Unit,True/\bK (gD c b) j (bZ m)/\True))) (∀ t:Unit,True->True/\True/\True/\True/\(∃ e:Nat,bK (aAA e acc) (eC (aGQ acc) j (mG (bZ m) (0=e) r e)) (([]:List DV)=vF e f))/\(∀ a:Nat,let i:=vF a f;let n:=aU b (gF a 6);let o:=(⟨bT b a 6,dT b a 6,eH b a 6,dE b a 6,kT b a 6,n⟩:Ac);let p:=resE o (aFA g a 5) m;let q:=dB p;let k:=Ac.ok o (aFA g a 5) m;let h:=aT a 6;bL (aAA a acc) (eX a c true (True/\True/\True/\eG a c 6 b/\cQ (bD b h (bT b a 6)) (bD b (gF a 6) (dT b a 6)) (bD b (cI h) (eH b a 6)) (bD b (mK a 6) (dE b a 6)) (mR b h) (bD b (cP h) (aU b (gF a 6)))/\True/\True/\aEY a back 5/\fH (aEZ back a 5) (bF 109 (qO (bT b a 6) (dT b a 6) (eH b a 6) (dE b a 6) (kT b a 6) n) [lW (bT (pxs back) a 5) (dT g a 5) (eH g a 5) (dE (pxs back) a 5) (kT g a 5),aP m] (dG (dB p) k)) (lX (eS true) ((uR k->True/\True/\kY (dO 0 []) l)/\aEN k (aM (zZ2 5 10 a 1 i q) (∃ d:Nat,aF (aAA d acc) (bW c d a) (eC (aGQ acc) j (gW (bZ m) (a+1=d) r a d)) (i++q=vF d f))))))) (eX a c false (True/\True/\gR (dO a i)=l)))))) ?_;delta eS aY bY aE aI aF aP aK dR bD lW gU lX eC aM bZ aW nH nG dO bK aT gW bL gD gF mG bF aU bT eG dB eX dT dE eH kT aB cI bU cP bW fZ mK gA cQ gR kY gI uF fH mR nT dG uR aEN qO jP aCY aEY aEZ aCZ aGQ aAA aFA vF aAC;simp only [sS];clear hwf;have hM:∀ n:Nat,n<=100000->n<=maxLen:=λn h=>by unfold maxLen; omega
  refine ⟨⟨λh1=>absurd hb (by have:=wQP.1 h1; omega),λ_=>⟨(),trivial⟩⟩,⟨0,Nat.zero_le _,⟨rfl,rfl⟩,rfl⟩,λk hk=>⟨λhlt=>?_,λhge=>?_⟩⟩
  ·have h':k<acc.length:=by omega
   have h'':k<back.length:=by omega
   have w1:wrap .i64 ((k:Int)+1)=((k+1:Nat):Int):=by rw [wQb _ ⟨by omega,by omega⟩]; omega
   have hs:k<(rsR m acc back).length:=by rw [zUj]; exact h'
   have ts:=wZf (l:=rsR m acc back) (i:=k);rw [List.getElem?_eq_getElem hs,jWv hs] at ts;have tl:((rsR m acc back).take k).length=k:=by rw [wQm,wQG (by omega)]
   have ok:=hok k h';have ap:∀ x:Px,zZ2 5 10 k 1 (pxs ((rsR m acc back).take k)) (Px.ds x):=λx=>⟨by rw [zQs,tl],rfl,hM _ (by omega),by omega⟩
   have nx:∀ x:Px,x=zZ0 (acN acc k) (pxN back k) m->∃ k',k'<=acc.length/\acc.length-k'<acc.length-k/\(k+1=k'/\wrap .i64 ((k:Int)+1)=(k':Int))/\pxs ((rsR m acc back).take k)++Px.ds x=pxs ((rsR m acc back).take k'):=λx hx=>⟨k+1,by omega,by omega,⟨rfl,w1⟩,by rw [ts,<- hx,<- zYZ]; rfl⟩
   clear ts;obtain ⟨a1,a2,a3,a4,a5,a6⟩:=zH0 h';obtain ⟨c1,c2,c3,c4,c5⟩:=zQJ h'';simp only [Nat.add_zero] at a1;simp only [a1,a2,a3,a4,a5,a6,c1,c2,c3,c4,c5];have R3:=zHZ h';have R5:=zJW h'';simp only [Nat.add_zero] at R3;have n3:=jZj h';have n5:=zY9 h'';rw [n3,n5] at ok nx;have se:resE acc[k] back[k] m=zZ0 acc[k] back[k] m:=by unfold resE; rw [if_pos ok]
   exact ⟨⟨by omega,by omega,by rw [zX2]; omega⟩,R3,⟨by omega,by omega,by rw [zQs]; omega⟩,R5,zGl acc[k] back[k] m,λq=>(by rw [ok] at q; cases q),λ_=>⟨ap _,nx _ se⟩⟩
  ·have:k=acc.length:=by omega
   subst this;rw [wQY (by rw [zUj]; omega)];exact ⟨(zUj _ _ _).symm,rfl⟩
end
def jXx (ms:List Im):Prop:=∀ i∈ms,(0<=i.w/\i.w<=16777216)/\0<=i.h/\i.h<=16777216
theorem zK2 {v:Int} (h:zXr v=true) : -1048576<=v/\v<=1048576:=wQ2 h
theorem at_out {m:Im} {x y:Int} (h:¬ (0<=x/\x<m.w/\0<=y/\y<m.h)):m.at_ x y=.zero:=by
 unfold Im.at_;rw [if_neg];simp;omega
theorem jQT {s:Scr} (hd:jXx s.ims) {i dx dy x y:Int} (hi:0<=i/\i<s.ims.length) (n1:zXr dx=true) (n2:zXr dy=true) (hc:s.c.has x y=true) (h:(zXd s i dx dy).has x y=false):zJ5 s.ims i x y dx dy=.zero:=by
 have hk:i.toNat<s.ims.length:=by omega
 have a1:=zK2 n1;have a2:=zK2 n2;obtain ⟨⟨w0,w1⟩,h0,h1⟩:=hd s.ims[i.toNat] (List.getElem_mem hk);rw [jQU dx dy hi.1 hk,if_neg (by simp [farB]; omega),Rc.inter_has,hc,wXq] at h;unfold zJ5;rw [if_pos hi.1,List.getElem?_eq_getElem hk];simp only;unfold zJE;split
 ·rfl
 ·rename_i hn;apply at_out;intro q;have e:Rc.empty ⟨dx,dy,dx+s.ims[i.toNat].w,dy+s.ims[i.toNat].h⟩=false:=by
   rw [Rc.empty_iff];simp only;omega
  have:Rc.has ⟨dx,dy,dx+s.ims[i.toNat].w,dy+s.ims[i.toNat].h⟩ x y=true:=by
   rw [Rc.has_iff];refine ⟨e,?_⟩;simp only;omega
  rw [this] at h;cases h
theorem jHp {s:Scr} (hd:jXx s.ims) {bits:Int} {o:Oq} {st:List Oq} (hk:o.kind=1) (he:errO bits s.ims.length o st=0) {x y:Int} (hc:s.c.has x y=true) (h:(imgR s o).has x y=false):srcS s.ims o x y=.zero:=by
 obtain ⟨f1,_,⟨n1,n2,_⟩,_⟩:=zZn (.inl hk) he;unfold imgR at h;rw [if_pos hk] at h;unfold srcS;rw [if_pos hk];exact jQT hd (f1 hk) n1 n2 hc h
theorem jGj {s:Scr} (hd:jXx s.ims) {bits:Int} {o:Oq} {st:List Oq} (hk:o.kind=1\/o.kind=2) (he:errO bits s.ims.length o st=0) {x y:Int} (hc:s.c.has x y=true) (h:(jQj s o).has x y=false):o.mask≠0/\zX7 s.ims o x y=0:=by
 obtain ⟨_,f2,⟨_,_,n1,n2⟩,_⟩:=zZn hk he;unfold jQj at h;by_cases h0:o.mask=0
 ·rw [if_pos h0,Rc.inter_has,hc] at h;cases h
 ·refine ⟨h0,?_⟩;rw [if_neg h0,if_neg (by omega)] at h;unfold zX7;split
  ·rw [jQT hd (by omega) n1 n2 hc h]; rfl
  ·rfl
theorem jQA {s:Scr} (hd:jXx s.ims) {m bits:Int} (hi:zJI m s.ims) {o:Oq} {st:List Oq} (hk:o.kind=1\/o.kind=2) (he:errO bits s.ims.length o st=0) (hb:zQo bits=m) (h0:0<=o.opac) {x y:Int} (hc:s.c.has x y=true) {src:Rc} (h:(boxF s o src).has x y=false) {p:Px} (hp:p.ok m=true) (hn:p.nn) (hs:zZl o.oper=true->src.has x y=false->p=.zero) :
  zZl o.oper=true/\(zZZ m o p (zX7 s.ims o x y)).1=.zero:=by
 have hm:=(zQ4 hi.full).1;obtain ⟨_,_,_,f1,_⟩:=zZn hk he;have ⟨m1,m2⟩:=zUy hi o x y;obtain ⟨e,_⟩:=zKU (o:=o) hi.full hp hn m1 m2 h0 (by omega);rw [e];unfold boxF at h
 cases hq:zZl o.oper with
 | false=>rw [if_pos hq,hc] at h; cases h
 | true=>
  refine ⟨rfl,?_⟩;rw [if_neg (by rw [hq]; simp)] at h;split at h
  ·rename_i hz;rw [hz]; exact zWA hm
  ·rw [Rc.inter_has] at h
   cases h1:src.has x y with
   | false=>
    have:=hs hq h1;subst this;simp only [jQB hm]
   | true=>
    rw [h1,wXt] at h;have ⟨a,b⟩:=jGj hd hk he hc h;rw [if_neg a,b,zWA hm];exact jQB hm
theorem jK4 {s:Scr} (hd:jXx s.ims) {m bits:Int} (hi:zJI m s.ims) (hb:zQo bits=m) {st:List Oq} {P:List Lv} {t:Lv} (h:StOk m st (P++[t])) {o:Oq} (hk:o.kind=1) (h0:0<=o.opac) (he:errO bits s.ims.length o st=0) {x y:Int} (hc:s.c.has x y=true) (ho:(boxF s o (imgR s o)).has x y=false) :
  zJi m s.ims x y (P++[t]) o=P++[t]:=by
 have ⟨p1,p2⟩:=zUN hi o x y;have ⟨n,e⟩:=jQA hd hi (.inl hk) he hb h0 hc ho p1 p2 (λ_ h=>jHp hd hk he hc h);unfold zJi jVP;rw [if_pos hk];split
 ·rw [e]; exact jQW h n
 ·rfl
theorem jYs {x y:Int}:∀ (l:List Rc) (a:Rc),(a.has x y=true\/∃ r∈l,r.has x y=true)->(l.foldl Rc.hull a).has x y=true
 | [],a,h=>by
  rcases h with h | ⟨r,hr,_⟩
  ·exact h
  ·simp at hr
 | b::l,a,h=>by
  refine jYs l (a.hull b) ?_
  rcases h with h | ⟨r,hr,h⟩
  ·exact .inl (Rc.hull_has (.inl h))
  ·rcases wQz.1 hr with rfl | hr
   ·exact .inl (Rc.hull_has (.inr h))
   ·exact .inr ⟨r,hr,h⟩
theorem jGq {x y:Int} {l:List Rc} (h:(zZN l).has x y=false):∀ r∈l,r.has x y=false:=λr hr=>by
 cases e:r.has x y with
 | false=>rfl
 | true=>
  have:(zZN l).has x y=true:=jYs l _ (.inr ⟨r,hr,e⟩);rw [this] at h; cases h
abbrev wYG:=@List.append_cancel_left
theorem zGO {s:Scr} (hd:jXx s.ims) {m bits:Int} (hi:zJI m s.ims) (hb:zQo bits=m) {x y:Int} (hc:s.c.has x y=true):∀ (f:Fo) (st:List Oq) (P:List Lv) (t:Lv),f.vf bits s.ims.length st->(∀ o∈f.flat,0<=o.opac)->StOk m st (P++[t]) ->
  (∀ r∈zQE s f,r.has x y=false)->runM m s.ims x y f.flat (P++[t])=P++[t]
 | .nil,st,P,t,_,_,h,_=>rfl
 | .draw o r,st,P,t,hv,ho,h,hx=>by
  rw [Fo.flat,zZM,jK4 hd hi hb h hv.1 (ho o (by simp [Fo.flat])) hv.2.1 hc (hx _ (by simp [zQE]))];exact zGO hd hi hb hc r st P t hv.2.2 (λq hq=>ho q (by simp [Fo.flat,hq])) h (λq hq=>hx q (by simp [zQE,hq]))
 | .grp o k r,st,P,t,hv,ho,h,hx=>by
  obtain ⟨h1,h2,h3,h4⟩:=hv;obtain ⟨e1,s1⟩:=zWF hb h h1 (ho o (by simp [Fo.flat])) h2 x y (ms:=s.ims);obtain ⟨_,_,_,_,f2,f3,f4,_⟩:=zZn (.inr h1) h2;have hok:∀ q∈k.flat,0<=q.opac:=λq hq=>ho q (by simp [Fo.flat,hq]);have hbx:=hx (boxF s o (zZN (zQE s k))) (by simp [zQE]);obtain ⟨b,e2,s2⟩:=zVn hi hb x y k (st++[o]) (P++[t]) _ h3 hok s1;have hu:=s2.lv ⟨o,b,(zZI o.iso t.op.kno t.acc t.back).2⟩ (by simp);have ⟨r1,r2⟩:=zGW hu
  have ⟨n,e⟩:=jQA hd hi (.inr h1) h2 hb (ho o (by simp [Fo.flat])) hc hbx r1 r2 (λ_ hh=>by
   have e3:=zGO hd hi hb hc k (st++[o]) (P++[t]) _ h3 hok s1 (jGq hh);rw [e2] at e3;have e4:=wYG e3;simp only [wQE,Lv.mk.injEq,and_true,true_and] at e4;simp only [e4]
   exact jXT)
  obtain ⟨e3,_⟩:=jX2 hi s2 f2 f3 f4 x y;rw [Fo.flat,zZM,e1,zYQ,e2,zZM,e3];simp only at e |-;rw [e,jQW h n];exact zGO hd hi hb hc r st P t h4 (λq hq=>ho q (by simp [Fo.flat,hq])) h (λq hq=>hx q (by simp [zQE,hq]))
def hit (r b:Rc):Bool:=!(b.inter r).empty
def Fo.act (s:Scr) (r:Rc):Fo->Fo
 | .nil=>.nil
 | .draw o k=>if hit r (boxF s o (imgR s o)) then .draw o (k.act s r) else k.act s r
 | .grp o g k=>if hit r (boxF s o (zZN (zQE s g))) then .grp o (g.act s r) (k.act s r) else k.act s r
theorem jUa {r b:Rc} {x y:Int} (h:hit r b=false) (hr:r.has x y=true):b.has x y=false:=by
 cases e:b.has x y with
 | false=>rfl
 | true=>
  have:(b.inter r).has x y=true:=by rw [Rc.inter_has,e,hr]; rfl
  rw [Rc.has_iff] at this;unfold hit at h;rw [this.1] at h;cases h
theorem jZh {bits:Int} {mn:Nat} (s:Scr) (r:Rc):∀ (f:Fo) (st:List Oq),f.vf bits mn st->(f.act s r).vf bits mn st
 | .nil,st,h=>trivial
 | .draw o k,st,h=>by
  unfold Fo.act;split
  ·exact ⟨h.1,h.2.1,jZh s r k st h.2.2⟩
  ·exact jZh s r k st h.2.2
 | .grp o g k,st,h=>by
  unfold Fo.act;split
  ·exact ⟨h.1,h.2.1,jZh s r g _ h.2.2.1,jZh s r k st h.2.2.2⟩
  ·exact jZh s r k st h.2.2.2
abbrev wYu:=@List.not_mem_nil
theorem zUi {s:Scr} (hd:jXx s.ims) {m bits:Int} (hi:zJI m s.ims) (hb:zQo bits=m) {r:Rc} {x y:Int} (hc:s.c.has x y=true) (hr:r.has x y=true):∀ (f:Fo) (st:List Oq) (P:List Lv) (t:Lv),f.vf bits s.ims.length st->(∀ o∈f.flat,0<=o.opac)->StOk m st (P++[t]) ->
  runM m s.ims x y (f.act s r).flat (P++[t])=runM m s.ims x y f.flat (P++[t])
 | .nil,st,P,t,_,_,h=>rfl
 | .draw o k,st,P,t,hv,ho,h=>by
  have hok:∀ q∈k.flat,0<=q.opac:=λq hq=>ho q (by simp [Fo.flat,hq]);unfold Fo.act;split
  ·obtain ⟨a,e,h1⟩:=zHL hi hb h hv.1 (ho o (by simp [Fo.flat])) hv.2.1 x y;rw [Fo.flat,Fo.flat,zZM,zZM,e];exact zUi hd hi hb hc hr k st P _ hv.2.2 hok h1
  ·rename_i hn;rw [Fo.flat,zZM,jK4 hd hi hb h hv.1 (ho o (by simp [Fo.flat])) hv.2.1 hc (jUa (by simpa using hn) hr)];exact zUi hd hi hb hc hr k st P t hv.2.2 hok h
 | .grp o g k,st,P,t,hv,ho,h=>by
  have hok:∀ q∈k.flat,0<=q.opac:=λq hq=>ho q (by simp [Fo.flat,hq]);have hog:∀ q∈g.flat,0<=q.opac:=λq hq=>ho q (by simp [Fo.flat,hq]);obtain ⟨h1,h2,h3,h4⟩:=hv;unfold Fo.act;split
  ·obtain ⟨e1,s1⟩:=zWF hb h h1 (ho o (by simp [Fo.flat])) h2 x y (ms:=s.ims);obtain ⟨_,_,_,_,f2,f3,f4,_⟩:=zZn (.inr h1) h2;have eg:=zUi hd hi hb hc hr g (st++[o]) (P++[t]) _ h3 hog s1;obtain ⟨b,e2,s2⟩:=zVn hi hb x y g (st++[o]) (P++[t]) _ h3 hog s1;obtain ⟨e3,a,e4,s3⟩:=jX2 hi s2 f2 f3 f4 x y;rw [Fo.flat,Fo.flat,zZM,zZM,e1,zYQ,zYQ,eg,e2,zZM,zZM,e3,e4];exact zUi hd hi hb hc hr k st P _ h4 hok s3
  ·rename_i hn
   have e:=zGO hd hi hb hc (.grp o g .nil) st P t ⟨h1,h2,h3,trivial⟩ (λq hq=>by
    simp only [Fo.flat,wQz,List.mem_append,wYu,or_false] at hq
    rcases hq with hq | hq | hq
    ·exact ho q (by simp [Fo.flat,hq])
    ·exact hog q hq
    ·rw [hq]; decide) h (λq hq=>by
    simp only [zQE,wQj] at hq
    rw [hq]; exact jUa (by simpa using hn) hr)
   rw [show (Fo.grp o g k).flat=(Fo.grp o g .nil).flat++k.flat by simp [Fo.flat],zYQ,e];exact zUi hd hi hb hc hr k st P t h4 hok h
def rng {α:Type} (n:Nat) (f:Nat->α):List α:=(List.range n).map f
theorem zXb {α:Type} (n:Nat) (f:Nat->α):(rng n f).length=n:=by simp [rng]
theorem jKq {α:Type} {n:Nat} {f:Nat->α} {j:Nat} (h:j<(rng n f).length):(rng n f)[j]=f j:=by simp [rng]
theorem zXO {α:Type} {n:Nat} {f g:Nat->α} (h:∀ j,j<n->f j=g j):rng n f=rng n g:=List.map_congr_left λj hj=>h j (by simpa using hj)
theorem zKY {n:Nat} {f:Nat->Px} {j:Nat} (h:j<n):pxN (rng n f) j=f j:=by rw [zY9 (by rw [zXb]; exact h),jKq]
theorem zWi {n:Nat} {f:Nat->Ac} {j:Nat} (h:j<n):acN (rng n f) j=f j:=by rw [jZj (by rw [zXb]; exact h),jKq]
def lvN (L:List Lv) (t:Nat):Lv:=(L[t]?).getD zZR
def colA (n:Nat) (L:Nat->List Lv) (t:Nat):Fr:=⟨(lvN (L 0) t).op,rng n λj=>(lvN (L j) t).acc,rng n λj=>(lvN (L j) t).back⟩
def colF (n:Nat) (L:Nat->List Lv):List Fr:=rng (L 0).length (colA n L)
def zUZ (n:Nat):Fr:=⟨zZR.op,List.replicate n .zero,List.replicate n .zero⟩
def topF (F:List Fr):Fr:=(F[F.length-1]?).getD (zUZ 0)
def zJ1 (m:Int) (F:List Fr) (o:Oq) (src:List Px) (mk:List Int):List Fr:=
 F.set (F.length-1) ⟨(topF F).op,stR (topF F).op.kno o.oper o.mode m (scR m o.opac src mk) (topF F).acc (topF F).back,(topF F).back⟩
def zGh (F:List Fr) (o:Oq):List Fr:=
 F++[⟨o,rng (topF F).acc.length λj=>(zZI o.iso (topF F).op.kno (acN (topF F).acc j) (pxN (topF F).back j)).1,rng (topF F).acc.length λj=>(zZI o.iso (topF F).op.kno (acN (topF F).acc j) (pxN (topF F).back j)).2⟩]
theorem zYi (F:List Fr) (t:Fr):topF (F++[t])=t:=by simp [topF]
theorem jG7 {P:List Lv} {t:Lv} {i:Nat} (h:i<P.length):lvN (P++[t]) i=lvN P i:=by
 unfold lvN; rw [wQH h]
theorem jKO (P:List Lv) (t:Lv):lvN (P++[t]) P.length=t:=by simp [lvN]
theorem zYv (n:Nat) (L:Nat->List Lv):(colF n L).length=(L 0).length:=zXb _ _
theorem jVR {n:Nat} {L L':Nat->List Lv} {t:Nat} (h0:lvN (L 0) t=lvN (L' 0) t) (h:∀ j,j<n->lvN (L j) t=lvN (L' j) t):colA n L t=colA n L' t:=by
 unfold colA;rw [h0,zXO (λj hj=>by rw [h j hj]),zXO (g:=λj=>(lvN (L' j) t).back) (λj hj=>by rw [h j hj])]
theorem zXD {n k:Nat} {P:Nat->List Lv} {t:Nat->Lv} (hk:∀ j,(P j).length=k) :
  colF n (λj=>P j++[t j])=colF n P++[⟨(t 0).op,rng n λj=>(t j).acc,rng n λj=>(t j).back⟩]:=by
 have g:∀ (Q:Nat->List Lv) (u:Nat),u<(Q 0).length->(colF n Q)[u]?=some (colA n Q u):=λQ u h=>by
  unfold colF;rw [List.getElem?_eq_getElem (by rw [zXb]; exact h),jKq]
 have e0:∀ j,lvN (P j++[t j]) k=t j:=λj=>by have:=jKO (P j) (t j); rwa [hk j] at this
 refine wZY λi=>?_;by_cases e:i<k
 ·rw [g _ i (by simp [hk]; omega),wQH (by rw [zYv,hk]; exact e),g _ i (by rw [hk]; exact e)];exact congrArg some (jVR (jG7 (by rw [hk]; exact e)) λj _=>jG7 (by rw [hk]; exact e))
 ·by_cases e2:i=k
  ·subst e2;rw [g _ i (by simp [hk]),wQp (by rw [zYv,hk]; omega),zYv,hk,wZg];simp only [colA,e0,wZR]
  ·rw [wQO (by rw [zYv]; simp [hk]; omega),wQO (by simp [zYv,hk]; omega)]
theorem jUy (n:Nat):colF n (λ_=>[zZR])=[zUZ n]:=by
 have:=zXD (n:=n) (k:=0) (P:=λ_=>[]) (t:=λ_=>zZR) (λ_=>rfl);have e:∀ {α:Type} (a:α),rng n (λ_=>a)=List.replicate n a:=λa=>by unfold rng; rw [wXw,wZu]
 rw [e,e] at this;exact this
theorem zWy {m:Int} {st:List Oq} {L:Nat->List Lv} (h:∀ j,StOk m st (L j)):∃ (P:Nat->List Lv) (t:Nat->Lv),(∀ j,L j=P j++[t j])/\(∀ j,(P j).length=st.length)/\∀ j,(t j).op=(t 0).op:=by
 have hs:=λj=>(h j).split;refine ⟨λj=>(L j).dropLast,λj=>lvN (L j) st.length,λj=>?_,λj=>?_,λj=>?_⟩
 ·obtain ⟨P,t,e⟩:=hs j;have hl:=(h j).len;rw [e] at hl;have hp:P.length=st.length:=by simpa using hl
  show L j=(L j).dropLast++[lvN (L j) st.length]
  rw [e,wZk,<- hp,jKO]
 ·have hl:=(h j).len;rw [wXT]; omega
 ·have g:∀ j,((L j)[st.length]?).map Lv.op=(zZR.op::st)[st.length]?:=λj=>by rw [<- (h j).ops,wQN]
  have k:∀ j,st.length<(L j).length:=λj=>by have:=(h j).len; omega
  have q:∀ j,lvN (L j) st.length=(L j)[st.length]'(k j):=λj=>by unfold lvN; rw [List.getElem?_eq_getElem (k j)]; rfl
  have a:=g j;have b:=g 0;rw [List.getElem?_eq_getElem (k _)] at a b
  show (lvN (L j) st.length).op=(lvN (L 0) st.length).op
  rw [q,q];rw [<- b] at a;simpa using a
theorem jUU {α:Type} (A:List α) (x y:α):(A++[x]).set ((A++[x]).length-1) y=A++[y]:=by simp
theorem jUx {m:Int} {n:Nat} {P:Nat->List Lv} {t:Nat->Lv} {k:Nat} (hk:∀ j,(P j).length=k) (hop:∀ j,(t j).op=(t 0).op) {o:Oq} {src:List Px} {mk:List Int} {q:Nat->Px} (hl:src.length=n)
  (hq:∀ j,j<n->(zJH (pxN src j) (ksN mk m j) o.opac m).1=q j) (hb:∀ j,zVQ m (P j++[t j]) o (q j)=true) :
  colF n (λj=>zJ0 m (P j++[t j]) o (q j))=zJ1 m (colF n λj=>P j++[t j]) o src mk:=by
 have e:∀ j,zJ0 m (P j++[t j]) o (q j)=P j++[⟨(t j).op,accS (t j).op.kno o.oper o.mode m (q j) (t j).acc (t j).back,(t j).back⟩]:=λj=>by
  unfold zJ0;rw [if_pos (hb j),zZY,zUg]
 simp only [e];rw [zXD hk,zXD hk];unfold zJ1;rw [jUU,zYi];congr 1;congr 1;congr 1;unfold stR;rw [zJz,hl];refine List.map_congr_left λj hj=>?_;have hj:j<n:=by simpa using hj
 have e2:pxN (scR m o.opac src mk) j=q j:=by
  rw [zY9 (by rw [zJz,hl]; exact hj),jWs,hq j hj]
 rw [e2,zWi hj,zKY hj,hop j]
theorem jGN {n:Nat} {P:Nat->List Lv} {t:Nat->Lv} {k:Nat} (hk:∀ j,(P j).length=k) (hop:∀ j,(t j).op=(t 0).op) {o:Oq} (h2:o.kind=2) (h65:k<64) :
  colF n (λj=>jVu (P j++[t j]) o)=zGh (colF n λj=>P j++[t j]) o:=by
 have e:∀ j,jVu (P j++[t j]) o=(P j++[t j])++[⟨o,(zZI o.iso (t j).op.kno (t j).acc (t j).back).1,(zZI o.iso (t j).op.kno (t j).acc (t j).back).2⟩]:=λj=>by
  unfold jVu;rw [if_pos ⟨h2,by simp [hk]; omega⟩,zZY]
 simp only [e];rw [zXD (k:=k+1) (λj=>by simp [hk]),zXD hk];unfold zGh;rw [zYi];simp only [zXb];congr 1;congr 1;have a:rng n (λj=>(zZI o.iso (t j).op.kno (t j).acc (t j).back).1)=rng n λj=>(zZI o.iso (t 0).op.kno (acN (rng n λj=>(t j).acc) j) (pxN (rng n λj=>(t j).back) j)).1:=zXO λj hj=>by rw [zWi hj,zKY hj,hop j]
 have b:rng n (λj=>(zZI o.iso (t j).op.kno (t j).acc (t j).back).2)=rng n λj=>(zZI o.iso (t 0).op.kno (acN (rng n λj=>(t j).acc) j) (pxN (rng n λj=>(t j).back) j)).2:=zXO λj hj=>by rw [zWi hj,zKY hj,hop j]
 rw [a,b]
def jZ2 (ms:List Im) (i x y:Int):Px:=if 0<=i then match ms[i.toNat]? with
 | some m=>m.at_ x y
 | none=>.zero
 else .zero
def pixR (ms:List Im) (i x y:Int) (n:Nat):List Px:=rng n λj=>jZ2 ms i (x+j) y
def maR (ms:List Im) (o:Oq) (x y:Int) (n:Nat):List Int:=if o.mask=0 then [] else (pixR ms (o.mask-1) (x-o.mx) (y-o.my) n).map Px.al
theorem jWT {ms:List Im} {i x y dx dy:Int} (hx:x-dx<1099511627776) (hy:y-dy<1099511627776):zJ5 ms i x y dx dy=jZ2 ms i (x-dx) (y-dy):=by
 unfold zJ5 jZ2;split
 ·cases ms[i.toNat]? with
  | none=>rfl
  | some q=>
   show zJE q x y dx dy=q.at_ (x-dx) (y-dy)
   unfold zJE;split
   ·rw [at_out (by omega)]
   ·rfl
 ·rfl
theorem zKk (ms:List Im) (i x y:Int) (n:Nat):(pixR ms i x y n).length=n:=zXb _ _
theorem jUS {ms:List Im} {o:Oq} {x y:Int} {n j:Nat} (hk:o.kind=1) (hj:j<n) (hx:x+j-o.x<1099511627776) (hy:y-o.y<1099511627776):pxN (pixR ms o.image (x-o.x) (y-o.y) n) j=srcS ms o (x+j) y:=by
 unfold pixR;rw [zKY hj,srcS,if_pos hk,jWT hx hy];congr 1; omega
theorem jGk {ms:List Im} {o:Oq} {x y m:Int} {n j:Nat} (h0:0<=o.mask) (hj:j<n) (hx:x+j-o.mx<1099511627776) (hy:y-o.my<1099511627776):ksN (maR ms o x y n) m j=if o.mask=0 then m else zX7 ms o (x+j) y:=by
 unfold ksN maR;by_cases h:o.mask=0
 ·rw [if_pos h,if_pos h]; rfl
 ·rw [if_neg h,if_neg h,if_neg (by rw [wQu,zKk]; omega),wQN,List.getElem?_eq_getElem (by rw [zKk]; exact hj)];unfold zX7;rw [if_pos (by omega),jWT hx hy];simp only [wQt,wQF,pixR,jKq];congr 2; omega
theorem jHK (ms:List Im) (o:Oq) (x y:Int) (n:Nat):(maR ms o x y n).length=0\/(maR ms o x y n).length=n:=by
 unfold maR;split
 ·exact .inl rfl
 ·exact .inr (by rw [wQu,zKk])
section
attribute [local irreducible] Ans AnsO AnsG AnsN AnsI
def rngK {α:Type} (n k:Nat) (f:Nat->α) (z:α):List α:=rng n λj=>if j<k then f j else z
theorem zGo {α:Type} (n k:Nat) (f:Nat->α) (z:α):(rngK n k f z).length=n:=zXb _ _
theorem jXL {α:Type} (n:Nat) (f:Nat->α) (z:α):rngK n 0 f z=List.replicate n z:=by
 unfold rngK;rw [zXO (g:=λ_=>z) λj _=>if_neg (by omega)];unfold rng;rw [wXw,wZu]
theorem jXM {α:Type} {n k:Nat} (f:Nat->α) (z:α) (h:n<=k):rngK n k f z=rng n f:=zXO λj hj=>if_pos (by omega)
def jVw (t:Fr) (o:Oq) (j:Nat):Ac:=(zZI o.iso t.op.kno (acN t.acc j) (pxN t.back j)).1
def jVv (t:Fr) (o:Oq) (j:Nat):Px:=(zZI o.iso t.op.kno (acN t.acc j) (pxN t.back j)).2
def pixK (ms:List Im) (i x y:Int) (n k:Nat):List Px:=rng n λj=>if j<k then jZ2 ms i (x+j) y else .zero
theorem jKA (ms:List Im) (i x y:Int) (n k:Nat):(pixK ms i x y n k).length=n:=zXb _ _
theorem jWy {α:Type} (n k:Nat) (f:Nat->α) (v:α):(rng n f).set k v=rng n λj=>if j=k then v else f j:=by
 refine wZY λi=>?_;rw [wX4];unfold rng;simp only [wQN,wQu,wZu];by_cases h:k=i
 ·subst h;by_cases hk:k<n
  ·simp [hk]
  ·simp [hk,wQO]
 ·rw [if_neg h];by_cases hi:i<n
  ·simp [hi,Ne.symm h]
  ·simp [hi]
theorem jKr {α:Type} (n k:Nat) (f:Nat->α) (z:α):(rngK n k f z).set k (f k)=rngK n (k+1) f z:=by
 unfold rngK;rw [jWy];refine zXO λj hj=>?_;by_cases h:j=k
 ·subst h; simp
 ·rw [if_neg h];by_cases h2:j<k
  ·rw [if_pos h2,if_pos (by omega)]
  ·rw [if_neg h2,if_neg (by omega)]
theorem jU6 (ms:List Im) (i x y:Int) (n k:Nat):(pixK ms i x y n k).set k (jZ2 ms i (x+k) y)=pixK ms i x y n (k+1):=by
 unfold pixK;rw [jWy];refine zXO λj hj=>?_;by_cases h:j=k
 ·subst h; simp
 ·rw [if_neg h];by_cases h2:j<k
  ·rw [if_pos h2,if_pos (by omega)]
  ·rw [if_neg h2,if_neg (by omega)]
theorem jGp {ms:List Im} {i:Int} (h0:0<=i) (h:i.toNat<ms.length) (x y:Int):jZ2 ms i x y=ms[i.toNat].at_ x y:=by
 unfold jZ2; rw [if_pos h0,List.getElem?_eq_getElem h]
theorem jKx {l:List Px} {k:Nat} (h:k<l.length) (p:Px):sets (pxs l) (k*5) p.ds=pxs (l.set k p):=by
 induction l generalizing k with
 | nil=>simp at h
 | cons q l ih=>
  cases k with
  | zero=>rfl
  | succ k=>
   have e:∀ t,pxs ((q::l).set (k+1) t)=q.ds++pxs (l.set k t):=λt=>by simp [pxs]
   have:=zUf (cs:=q.ds) p.ds (pxs l) (k*5);rw [e,<- ih (by simpa using h),<- this]
   show sets (q.ds++pxs l) _ _=_
   congr 1
   show (k+1)*5=k*5+5
   omega
theorem jGy {l:List Fr} {k:Nat} (h:k<l.length) (a:List Ac):(frs l).set (k*14+12) (.sl a.length (acs a))=frs (l.set k ⟨l[k].op,a,l[k].back⟩):=by
 induction l generalizing k with
 | nil=>simp at h
 | cons q l ih=>
  have e0:frs (q::l)=q.cells++frs l:=by simp [frs]
  have ec:q.cells.length=14:=rfl
  cases k with
  | zero=>
   rw [e0,List.set_append_left _ _ (by omega)];rfl
  | succ k=>
   have e:∀ t,frs ((q::l).set (k+1) t)=q.cells++frs (l.set k t):=λt=>by simp [frs]
   rw [e0,e,List.set_append_right _ _ (by omega),ec,show (k+1)*14+12-14=k*14+12 by omega,ih (by simpa using h)];rfl
theorem jGV {l:List Ac} {k:Nat} (h:k<l.length) (p:Ac):sets (acs l) (k*6) p.ds=acs (l.set k p):=by
 induction l generalizing k with
 | nil=>simp at h
 | cons q l ih=>
  cases k with
  | zero=>rfl
  | succ k=>
   have e:∀ t,acs ((q::l).set (k+1) t)=q.ds++acs (l.set k t):=λt=>by simp [acs]
   have:=zUf (cs:=q.ds) p.ds (acs l) (k*6);rw [e,<- ih (by simpa using h),<- this]
   show sets (q.ds++acs l) _ _=_
   congr 1
   show (k+1)*6=k*6+6
   omega
def jUg:Gam:=jGt.add [.p 212 (λ| [.d (.sl n xs),.d (.sl mn mxs),.d (.int _ opac),.d (.int _ m)]=>let a:=(scR m opac (zQg xs) (ints mxs)); some (RV.tup [RV.d (dS a.length (pxs a)),RV.d (dQ true)]) | _=>none),
 .p 214 (λ| [.d (.bool kno),.d (.int _ op),.d (.int _ mode),.d (.int _ m),.d (.sl n xs),.d (.sl an axs),.d (.sl bn bxs)]=>let a:=(stR kno op mode m (zQg xs) (jXC axs) (zQg bxs)); some (RV.tup [RV.d (dS a.length (acs a)),RV.d (dQ true)]) | _=>none),
 .q 161 ([false,true,true,true,true],2,1000) (λ| [AV.one (Cl.ptr 0 0),AV.one (Cl.d (DV.int _ i)),AV.one (Cl.d (DV.int _ x)),AV.one (Cl.d (DV.int _ y)),AV.one (Cl.d (DV.int _ n))],[Bx.cells [Cl.d (DV.int _ bits),Cl.d (DV.int _ cx0),Cl.d (DV.int _ cy0),Cl.d (DV.int _ cx1),Cl.d (DV.int _ cy1),Cl.d (DV.int _ tw),Cl.d (DV.int _ th),Cl.d (DV.sl on oxs),Cl.d (DV.sl mn mxs),Cl.d (DV.sl qn qxs),Cl.d (DV.int _ most),Cl.d (DV.sl en exs),Cl.ref 1 fn],Bx.row _ _ fxs]=>some ⟨AV.one (Cl.d (dS (pixR (zQI mxs) i x y n.toNat).length (pxs (pixR (zQI mxs) i x y n.toNat)))),[bC [cJ bits,cJ cx0,cJ cy0,cJ cx1,cJ cy1,cJ tw,cJ th,Cl.d (dS on oxs),Cl.d (dS mn mxs),Cl.d (dS qn qxs),cK most,Cl.d (dS en exs),Cl.ref 1 fn],Bx.row 249 14 fxs],false⟩ | _,_=>none),
 .q 213 ([false,true,true,true,true],2,1000) (λ| [AV.one (Cl.ptr 0 0),AV.agg [Cl.d (DV.int _ okind),Cl.d (DV.int _ oimage),Cl.d (DV.int _ ox),Cl.d (DV.int _ oy),Cl.d (DV.int _ omask),Cl.d (DV.int _ omx),Cl.d (DV.int _ omy),Cl.d (DV.int _ oopac),Cl.d (DV.int _ ooper),Cl.d (DV.int _ omode),Cl.d (DV.bool oiso),Cl.d (DV.bool okno)],AV.one (Cl.d (DV.int _ x)),AV.one (Cl.d (DV.int _ y)),AV.one (Cl.d (DV.int _ n))],[Bx.cells [Cl.d (DV.int _ bits),Cl.d (DV.int _ cx0),Cl.d (DV.int _ cy0),Cl.d (DV.int _ cx1),Cl.d (DV.int _ cy1),Cl.d (DV.int _ tw),Cl.d (DV.int _ th),Cl.d (DV.sl on oxs),Cl.d (DV.sl mn mxs),Cl.d (DV.sl qn qxs),Cl.d (DV.int _ most),Cl.d (DV.sl en exs),Cl.ref 1 fn],Bx.row _ _ fxs]=>some ⟨AV.one (Cl.d (dS (maR (zQI mxs) (⟨okind,oimage,ox,oy,omask,omx,omy,oopac,ooper,omode,oiso,okno⟩:Oq) x y n.toNat).length (u16s (maR (zQI mxs) (⟨okind,oimage,ox,oy,omask,omx,omy,oopac,ooper,omode,oiso,okno⟩:Oq) x y n.toNat)))),[bC [cJ bits,cJ cx0,cJ cy0,cJ cx1,cJ cy1,cJ tw,cJ th,Cl.d (dS on oxs),Cl.d (dS mn mxs),Cl.d (dS qn qxs),cK most,Cl.d (dS en exs),Cl.ref 1 fn],Bx.row 249 14 fxs],false⟩ | _,_=>none),
 .q 159 ([false,true,true,true,true],1,1) (λ| [AV.one (Cl.ptr 0 0),AV.agg [Cl.d (DV.int _ okind),Cl.d (DV.int _ oimage),Cl.d (DV.int _ ox),Cl.d (DV.int _ oy),Cl.d (DV.int _ omask),Cl.d (DV.int _ omx),Cl.d (DV.int _ omy),Cl.d (DV.int _ oopac),Cl.d (DV.int _ ooper),Cl.d (DV.int _ omode),Cl.d (DV.bool oiso),Cl.d (DV.bool okno)],AV.one (Cl.d (DV.sl sn sxs)),AV.one (Cl.d (DV.int _ x)),AV.one (Cl.d (DV.int _ y))],[Bx.cells [Cl.d (DV.int _ bits),Cl.d (DV.int _ cx0),Cl.d (DV.int _ cy0),Cl.d (DV.int _ cx1),Cl.d (DV.int _ cy1),Cl.d (DV.int _ tw),Cl.d (DV.int _ th),Cl.d (DV.sl on oxs),Cl.d (DV.sl mn mxs),Cl.d (DV.sl qn qxs),Cl.d (DV.int _ most),Cl.d (DV.sl en exs),Cl.ref 1 fn],Bx.row _ _ fxs]=>some ⟨AV.tup [],[bC [cJ bits,cJ cx0,cJ cy0,cJ cx1,cJ cy1,cJ tw,cJ th,Cl.d (dS on oxs),Cl.d (dS mn mxs),Cl.d (dS qn qxs),cK most,Cl.d (dS en exs),Cl.ref 1 (zJ1 most (zU7 fxs) (⟨okind,oimage,ox,oy,omask,omx,omy,oopac,ooper,omode,oiso,okno⟩:Oq) (zQg sxs) (maR (zQI mxs) (⟨okind,oimage,ox,oy,omask,omx,omy,oopac,ooper,omode,oiso,okno⟩:Oq) x y sn)).length],Bx.row 249 14 (frs (zJ1 most (zU7 fxs) (⟨okind,oimage,ox,oy,omask,omx,omy,oopac,ooper,omode,oiso,okno⟩:Oq) (zQg sxs) (maR (zQI mxs) (⟨okind,oimage,ox,oy,omask,omx,omy,oopac,ooper,omode,oiso,okno⟩:Oq) x y sn)))],false⟩ | _,_=>none),
 .q 160 ([false,true],1,1) (λ| [AV.one (Cl.ptr 0 0),AV.agg [Cl.d (DV.int _ okind),Cl.d (DV.int _ oimage),Cl.d (DV.int _ ox),Cl.d (DV.int _ oy),Cl.d (DV.int _ omask),Cl.d (DV.int _ omx),Cl.d (DV.int _ omy),Cl.d (DV.int _ oopac),Cl.d (DV.int _ ooper),Cl.d (DV.int _ omode),Cl.d (DV.bool oiso),Cl.d (DV.bool okno)]],[Bx.cells [Cl.d (DV.int _ bits),Cl.d (DV.int _ cx0),Cl.d (DV.int _ cy0),Cl.d (DV.int _ cx1),Cl.d (DV.int _ cy1),Cl.d (DV.int _ tw),Cl.d (DV.int _ th),Cl.d (DV.sl on oxs),Cl.d (DV.sl mn mxs),Cl.d (DV.sl qn qxs),Cl.d (DV.int _ most),Cl.d (DV.sl en exs),Cl.ref 1 fn],Bx.row _ _ fxs]=>some ⟨AV.tup [],[bC [cJ bits,cJ cx0,cJ cy0,cJ cx1,cJ cy1,cJ tw,cJ th,Cl.d (dS on oxs),Cl.d (dS mn mxs),Cl.d (dS qn qxs),cK most,Cl.d (dS en exs),Cl.ref 1 (zGh (zU7 fxs) (⟨okind,oimage,ox,oy,omask,omx,omy,oopac,ooper,omode,oiso,okno⟩:Oq)).length],Bx.row 249 14 (frs (zGh (zU7 fxs) (⟨okind,oimage,ox,oy,omask,omx,omy,oopac,ooper,omode,oiso,okno⟩:Oq)))],false⟩ | _,_=>none)]
def tC (a:Int) (b:List Int) (c:Nat) (d:List Fr):List Cl:=mY a (aFH b [Cl.ref c (List.length d)])
def aGL (a:Scr) (b c d e:Int) (f:List Cl):Bx:=Bx.cells (gK a.bits b c d e a.tw a.th (xR a f))
def aGS (a:Scr) (b:Prop):Prop:=nC a.tw (bG a.th) (eS (sR a.ord)) (gD (qA a) (fG a)) b
def jQ (a:List Fr):Bx:=Bx.row 249 14 (frs a)
def aCX (e:Scr) (f:Int) (g:List Int) (h:Prop):Prop:=gX e.bits (oP e.c.a e.c.b (bG e.c.c) e.c.d (aGS e (aF (gD (dV e) (fD e)) (bZ f) (eS (sR g)) h)))
def nX (e:Scr) (f:Int) (g:List Int) (h:List Fr):Bx:=aGL e e.c.a e.c.b e.c.c e.c.d (tC f g 1 h)
abbrev wXb:=@List.flatMap_def
abbrev wXc:=@List.map_replicate
theorem zXP (s:Scr) (most:Int) (e:List Int) (F:List Fr) (i x y n:Int) (hi:0<=i/\i<s.ims.length) (hu:∀ m∈s.ims,m.isU) (hn:0<=n/\n<=100000) (hx : -4294967296<=x/\x<=4294967296):AnsG prog 161 2 [aPz,aJ ((i)),aJ ((x)),aJ ((y)),aJ ((n))] [bC [cJ (s.bits),cJ (s.c.a),cJ (s.c.b),cJ (s.c.c),cJ (s.c.d),cJ (s.tw),cJ (s.th),cD (dS s.ord.length (is s.ord)),cD (dS s.ims.length (ims s.ims)),cD (dS s.ops.length (ops s.ops)),cK (most),cD (dS e.length (is e)),Cl.ref 1 F.length],bR 249 14 (frs F)] ⟨aO (cD (dS ((pixR s.ims i x y n.toNat).length) (pxs (pixR s.ims i x y n.toNat)))),[bC [cJ (s.bits),cJ (s.c.a),cJ (s.c.b),cJ (s.c.c),cJ (s.c.d),cJ (s.tw),cJ (s.th),cD (dS s.ord.length (is s.ord)),cD (dS s.ims.length (ims s.ims)),cD (dS s.ops.length (ops s.ops)),cK (most),cD (dS e.length (is e)),Cl.ref 1 F.length],bR 249 14 (frs F)],false⟩:=
 zZc (Γ:=jUg) (let k:=jU 1 249 14 (frs F);let l:=xN s (tC most e 1 F);let a:=aY i 28;let f:=eU a;let g:=eU f;let b:=kJ a;let h:=eU a;let c:=bU (aY i 28);let m:=rY (cN s c) (gQ s a) (cN s (cI (bU a))) (iB s a) (iE s a) (sH s a) (gQ s c) (kH s a) (iB s c) (iE s c) (pW (cN s (kJ a)) (gQ s h) (kH s c) (iB s h) (iE s h) (rC (sH s f) (gQ s b) (kH s f) (fO (iB s b) (iE s b) (pW (sH s b) (gQ s g) (kH s b) (iB s g) (iE s g) []))));let d:=fG s;let o:=bAt d (nS i 28);let p:=nAt d (aY i 28);vQ (Ann.cut (Inv.mk Unit (λ(z:Unit)=>True) (λ(w:Unit)=>aHU (aCE 2 x (oJ 3 y 4 n (pO 11 11 12 (aEX 23 n) []))) 11 p (jH d i 28) o (gE d i 28) (cN s a) (cN s (kE i 28)) (cN s (nS i 28)) (cN s (lG i 28)) m (aAO 23 37 5 (xQ n oH) 0 l k)) (λ(v:Unit)=>(0:Nat))) aL (λ(u:Unit)=>rF (Ann.loop (Inv.mk Nat (λ(r:Nat)=>r<=8589934592) (λ(j:Nat)=>aHU (aCE 2 x (oJ 3 y 4 n (pO 11 11 12 (aEX 1012 n) (aEF 13 (j:Int))))) 11 p (jH d i 28) o (gE d i 28) (cN s a) (cN s (kE i 28)) (cN s (nS i 28)) (cN s (lG i 28)) m (aAO 1012 37 5 (pxs (pixK s.ims i x y (Int.toNat n) j)) 0 l k)) (λ(q:Nat)=>kQ n q)) (λ(t:Nat)=>aL))))) zQb Tryz.func161 rfl (nL rfl) rfl λhwf hbx=>by
  refine Eq.mpr (by kernel_rfl:_=(let h:=Int.toNat n;let G:=pixR s.ims i x y h;let H:=nW (qR G) [nX s most e F,jQ F];let I:=zZu H;let v:=eS (frs F);let j:=aCX s most e (eS (List.length F));let J:=jP G;let L:=zZu H;let b:=fG s;let k:=nAt b (aY i 28);let a:=aY i 28;let g:=kJ a;let d:=eU a;let M:=eU d;let c:=bU (aY i 28);let r:=cI (bU a);let z:=cN s (lG i 28);let t:=nS i 28;let A:=cN s t;let B:=cN s (kE i 28);let C:=cN s a;let D:=gE b i 28;let E:=bAt b t;let l:=jH b i 28;let m:=eU d;let P:=kJ d;let o:=eU a;let Q:=cO (sH s a) (gQ s c) (kH s a) (iB s c) (iE s c) (cN s (kJ a)) (gQ s o) (kH s c) (iB s o) (iE s o) (cO (sH s d) (gQ s g) (kH s d) (iB s g) (iE s g) (cN s P) (gQ s m) (kH s g) (iB s m) (iE s m) []);let R:=cN s r;let S:=cN s c;let T:=oT k l E (kC D C B A z S (gQ s a) R (iB s a) (iE s a) Q);let U:=eS T;let V:=bK (aZ (DV.sl h (xQ n oH)=J)) j v;aV (True/\True/\True/\True/\lS i (qA s) 28 b/\aM (jR b i 28/\oG b i 28/\kG b t/\bD b (lG i 28) (gE b i 28)/\mR b a/\wZ s (cP (aY i 28)) (kE i 28)/\cL (wZ s r t) (zC b a) (jM s c) (iA s a) (jM s r) (iF s a) (sI s a) (iA s c) (cL (kI s a) (iF s c) (jM s (kJ a)) (iA s o) (kI s c) (iF s o) (sI s d) (iA s g) (kI s d/\iF s g/\jM s P/\bK (iA s m) (kI s g) (iF s m)))) (mF n 10/\True/\aV (fV y 0 (True/\True/\True/\True/\aBA y l (True/\V/\L)/\(kX y l->(∃ X:Unit,True/\gX x (aF (bG y) (bG n) (eS (0:Nat)) (yH n))/\aF (eS T) (eS (xQ n oH)) j v)))/\dX (lU y) V I)/\(∀ W:Unit,jW (True/\True/\True/\(∃ u:Nat,cQ (u<=8589934592) (gX x (nC y (bG n) (eS (0:Nat)) (yH n) (aZ (DV.int IntKind.i64 (Max.max (0:Int) (aX 0 x))=nH u)))) U (xQ n oH=pxs (pixK s.ims i x y h u)) j (eS (frs F)))/\(∀ f:Nat,let w:=pxs (pixK s.ims i x y h f);let K:=bK (aZ (DV.sl h w=J)) j v;let q:=aI (x+(f:Int));let O:=Im.at_ (jB k l E D C B A z (uG s (bU a) a r) (zD s a c) (uG s (bU d) d (gB c)) (zD s d g) (uG s (bU M) M (gB g))) q y;f<=8589934592->True/\True/\fZ (nG f n true->True/\True/\True/\True/\True/\True/\True/\pK q k (True/\True/\True/\True/\True/\True/\yU 215 (oO k l E (kC D C B A z S (gQ s a) R (iB s a) (iE s a) Q)) q y O/\vR (f:Int) n/\aM (gL (aT f 5+5) w) (∃ p:Nat,cB p 8589934592 (cQ (yI n p f) (iM x y (gW (bG n) (eS (0:Nat)) (yH n) f p)) U (sets w (aT f 5) (dB O)=pxs (pixK s.ims i x y h p)) j (eS (frs F)))))/\fV q k (True/\K/\L)) (dX (nG f n (!true)) K I)))))))) ?_;delta eS aY mN aZ lS jR lU aE aI bO aF dR bD aX dX kD pK cS mY dY gK eC aM bG nC oT bZ kQ aW nH nG bK aT gO gL gW gD vR yH yI mF cL fO kS aU fY bQ gX dB fV jH gE oG oH pF aV cI bU cP oP iM nK cB iN fZ kG jW aFH qA dV fG fD xR cQ kX aBA oS cO jB kC oO fR yU cN jM fX mR gB eU gQ iA uG iB iE kH kE kI zC nS lG kJ iF sH sI wZ zD sR xQ nW jP tC aGL aGS jQ qR aCX nX;simp only [sS];have ime:∀ m:Im,(⟨m.w,m.h,m.so,⟨m.c.a,m.c.b,m.c.c,m.c.al,m.c.f⟩,⟨m.p0.w,m.p0.h,m.p0.s,m.p0.n,m.p0.xs⟩,⟨m.p1.w,m.p1.h,m.p1.s,m.p1.n,m.p1.xs⟩,⟨m.p2.w,m.p2.h,m.p2.s,m.p2.n,m.p2.xs⟩,⟨m.p3.w,m.p3.h,m.p3.s,m.p3.n,m.p3.xs⟩,⟨m.p4.w,m.p4.h,m.p4.s,m.p4.n,m.p4.xs⟩⟩:Im)=m:=λ_=>rfl;clear hwf hbx;have hM:∀ n:Nat,n<=100000->n<=maxLen:=λn h=>by unfold maxLen; omega
  have k1:i.toNat<s.ims.length:=by omega
  have q1:=zHq k1;have IA:=λu v=>jJQ s.ims[i.toNat] u v (hu _ (List.getElem_mem k1));have ag:=λu v=>jGp hi.1 k1 u v;simp only [zHr k1,q1,and_self,true_and,ime];clear q1;generalize s.ims[i.toNat]=g at *;have en:(n.toNat:Int)=n:=by omega
  have z:repl n.toNat [DV.int .u16 0,DV.int .u16 0,DV.int .u16 0,DV.int .u16 0,DV.int .u16 0]=pxs (List.replicate n.toNat Px.zero):=by
   unfold repl pxs;rw [wXb,wXc]; rfl
  have zr:∀ f:Nat->Px,(∀ j,j<n.toNat->f j=.zero)->List.replicate n.toNat Px.zero=rng n.toNat f:=λf hf=>by
   rw [zXO hf];unfold rng;rw [wXw,wZu]
  have wn:wrap .i64 (0-x) = -x:=by rw [wQb _ ⟨by omega,by omega⟩]; omega
  have Z:∀ hy:y<0\/y>=g.h,n.toNat=(pixR s.ims i x y n.toNat).length/\repl n.toNat [DV.int .u16 0,DV.int .u16 0,DV.int .u16 0,DV.int .u16 0,DV.int .u16 0]=pxs (pixR s.ims i x y n.toNat):=λhy=>by
   refine ⟨(zKk _ _ _ _ _).symm,?_⟩;rw [z]; unfold pixR;exact congrArg pxs (zr _ λj _=>by show jZ2 s.ims i (x+j) y=_; rw [ag]; exact at_out (by omega))
  have X:∀ k:Nat,(∀ j:Nat,k<=j->j<n.toNat->g.at_ (x+j) y=.zero)->pixK s.ims i x y n.toNat k=pixR s.ims i x y n.toNat:=λk h=>by
   unfold pixK pixR;refine zXO λj hj=>?_;by_cases hk:j<k
   ·rw [if_pos hk]
   ·rw [if_neg hk,ag,h j (by omega) hj]
  have Y:∀ k:Nat,(∀ j:Nat,k<=j->j<n.toNat->g.at_ (x+j) y=.zero)->n.toNat=(pixR s.ims i x y n.toNat).length/\pxs (pixK s.ims i x y n.toNat k)=pxs (pixR s.ims i x y n.toNat):=λk h=>⟨(zKk _ _ _ _ _).symm,by rw [X k h]⟩
  rw [wn];refine ⟨⟨hi.1,hi.2,by rw [zY2]; omega⟩,⟨hn.1,by omega,by have:=hM n.toNat (by omega); omega,by omega⟩,⟨λh0=>⟨λh1=>⟨Z (.inr h1),trivial⟩,λh1=>⟨(),trivial⟩⟩,λh0=>⟨Z (.inl h0),trivial⟩⟩,⟨(max 0 (-x)).toNat,by omega,by omega,?_⟩,λk hk=>⟨λh1=>?_,λh1=>⟨Y k λj hj h2=>by omega,trivial⟩⟩⟩
  ·rw [z]; unfold pixK;rw [zr _ λj hj=>?_];split
   ·rw [ag]; exact at_out (by omega)
   ·rfl
  ·have wk:wrap .i64 (x+(k:Int))=x+k:=wQb _ ⟨by omega,by omega⟩;have wk1:wrap .i64 ((k:Int)+1)=(k:Int)+1:=wQb _ ⟨by omega,by omega⟩;rw [wk,wk1];refine ⟨λh2=>⟨IA _ _,⟨by omega,by omega⟩,?_,k+1,by omega,by omega,by omega,?_⟩,λh2=>⟨Y k λj hj h3=>at_out (by omega),trivial⟩⟩
   ·rw [zQs,jKA]; omega
   ·have:=jKx (l:=pixK s.ims i x y n.toNat k) (k:=k) (by rw [jKA]; omega) (jZ2 s.ims i (x+k) y);rw [jU6,ag] at this;exact this
def sQ (a:FuncId) (b c:Nat) (d:List AV) (e:List Bx) (f:Ret):Prop:=AnsG prog a b (AV.one (Cl.ptr c 0)::d) e f
abbrev oC (q:Oq):List Cl:=[Cl.d (DV.int .i64 q.kind),Cl.d (DV.int .i64 q.image),Cl.d (DV.int .i64 q.x),Cl.d (DV.int .i64 q.y),Cl.d (DV.int .i64 q.mask),Cl.d (DV.int .i64 q.mx),Cl.d (DV.int .i64 q.my),Cl.d (DV.int .u16 q.opac),Cl.d (DV.int .i64 q.oper),Cl.d (DV.int .i64 q.mode),Cl.d (DV.bool q.iso),Cl.d (DV.bool q.kno)]
theorem zKi (s:Scr) (most:Int) (e:List Int) (F:List Fr) (o:Oq) (x y n:Int) (hu:∀ m∈s.ims,m.isU) (hI:s.ims.length<=1000000) (hxy:(-1073741824<=x/\x<=1073741824) /\ -1073741824<=y/\y<=1073741824) (hmk:(0<=o.mask/\o.mask<=s.ims.length)/\(-1073741824<=o.mx/\o.mx<=1073741824) /\ -1073741824<=o.my/\o.my<=1073741824) (hn:0<=n/\n<=100000):AnsG prog 213 2 [aPz,AV.agg (oC o),aJ ((x)),aJ ((y)),aJ ((n))] [bC [cJ (s.bits),cJ (s.c.a),cJ (s.c.b),cJ (s.c.c),cJ (s.c.d),cJ (s.tw),cJ (s.th),cD (dS s.ord.length (is s.ord)),cD (dS s.ims.length (ims s.ims)),cD (dS s.ops.length (ops s.ops)),cK (most),cD (dS e.length (is e)),Cl.ref 1 F.length],bR 249 14 (frs F)] ⟨aO (cD (dS ((maR s.ims o x y n.toNat).length) (u16s (maR s.ims o x y n.toNat)))),[bC [cJ (s.bits),cJ (s.c.a),cJ (s.c.b),cJ (s.c.c),cJ (s.c.d),cJ (s.tw),cJ (s.th),cD (dS s.ord.length (is s.ord)),cD (dS s.ims.length (ims s.ims)),cD (dS s.ops.length (ops s.ops)),cK (most),cD (dS e.length (is e)),Cl.ref 1 F.length],bR 249 14 (frs F)],false⟩:=
 zZc (Γ:=jUg) (let b:=pixR (zQI (fG s)) (aX o.mask 1) (aX x o.mx) (aX y o.my) (Int.toNat n);oU (Ann.loop (Inv.mk Nat (λ(d:Nat)=>jF d n) (λ(a:Nat)=>oE (mE 11 1011 a 30 (qR b) (aGM 31 b 32 a)) 1011 34 1 (u16s (List.take a (maR s.ims o x y (Int.toNat n)))) (oZ 0 (cS s.bits s.c.a (dY s.c.b s.c.c s.c.d s.tw (bO s.th::xR s (tC most e 1 F)))) (jU 1 249 14 (frs F)))) (λ(c:Nat)=>kQ n c)) (λ(f:Nat)=>aL))) zQb Tryz.func213 rfl (nL rfl) rfl λhwf hbx=>by
  refine Eq.mpr (by kernel_rfl:_=(let f:=[nX s most e F,jQ F];let h:=aGN (maR s.ims o x y (Int.toNat n));let k:=zZu (nW (cD h) f);let g:=aCX s most e (eS (List.length F));let i:=maR s.ims o x y (Int.toNat n);let b:=pixR (zQI (fG s)) (aX o.mask 1) (aX x o.mx) (aX y o.my) (Int.toNat n);let l:=List.length b;let p:=gA (List.length b);let q:=eS (jP b);aV (fZ (bL ((o.mask==0)=true) (bK (aZ (DV.sl 0 []=h)) g (eS (frs F))) k) (gV (o.mask==0) (lE ((sQ 161 2 0 (zY (aX o.mask 1) (aX x o.mx) (zY (aX y o.my) n [])) f (nW (qR b) f)/\eS f)/\True/\True/\(∃ d:Nat,gU (jF d n) (mG (0=d) q p d) (([]:List DV)=u16s (List.take d i)) g (eS (frs F)))/\(∀ a:Nat,let j:=u16s (List.take a i);let m:=[aE (dE (pxs b) a 5)];bL (jF a n) (gY a l->cG (aEY a b 5) (aEZ b a 5) (xD (zZ2 1 2 a 1 j m) (∃ c:Nat,cQ (jF c n) (yI n c a) (gW (a+1=c) q p a c) (j++m=u16s (List.take c i)) g (eS (frs F))))) (eX a l false (True/\bK (aZ (DV.sl a j=h)) g (eS (frs F))/\k))))))))) ?_;delta eS aY aZ aE aI bO aF aG bD aX pJ gU cS mY dY gK aM bG nC cG bZ gV kQ jF aW nH nG bK aT gW bL gD gF mG yI fO aU bT eG gX eX dT dE eH aV cI bU oP fZ mK gA gY aFH qA dV fG fD xR cQ lE mR xD sQ sR nW zY jP tC aGL aGS jQ qR aCX nX aEY aGN aEZ;simp only [sS];clear hwf hbx;have hM:∀ n:Nat,n<=100000->n<=maxLen:=λn h=>by unfold maxLen; omega
  rw [zQ5];have w1:1<=o.mask->wrap .i64 (o.mask-1)=o.mask-1:=λh=>wQb _ ⟨by omega,by omega⟩;have w2:wrap .i64 (x-o.mx)=x-o.mx:=wQb _ ⟨by omega,by omega⟩;have w3:wrap .i64 (y-o.my)=y-o.my:=wQb _ ⟨by omega,by omega⟩;refine ⟨λh=>?_,λh=>?_⟩
  ·have h0:o.mask=0:=wZA h;have ee:maR s.ims o x y n.toNat=[]:=by unfold maR; rw [if_pos h0]
   rw [ee];exact ⟨⟨rfl,rfl⟩,trivial⟩
  ·have h0:o.mask≠0:=λh2=>by rw [h2] at h; cases h
   have h1:1<=o.mask:=by omega
   rw [w1 h1,w2,w3];have ee:maR s.ims o x y n.toNat=(pixR s.ims (o.mask-1) (x-o.mx) (y-o.my) n.toNat).map Px.al:=by unfold maR; rw [if_neg h0]
   rw [ee];have A:=zXP s most e F (o.mask-1) (x-o.mx) (y-o.my) n ⟨by omega,by omega⟩ hu hn ⟨by omega,by omega⟩;have hl:=zKk s.ims (o.mask-1) (x-o.mx) (y-o.my) n.toNat;generalize pixR s.ims (o.mask-1) (x-o.mx) (y-o.my) n.toNat=L at *;refine ⟨A,⟨0,Nat.zero_le _,⟨rfl,rfl⟩,rfl⟩,λk hk=>⟨λhlt=>?_,λhge=>?_⟩⟩
   ·have hk2:k<L.length:=by omega
    obtain ⟨q1,q2,q3,q4,q5⟩:=zQJ hk2;have q:=zJW hk2;have ts:=wZf (l:=L.map Px.al) (i:=k);rw [wQN,List.getElem?_eq_getElem hk2] at ts;rw [q1,q2,q3,q4,q5];refine ⟨⟨by omega,by omega,by rw [zQs]; omega⟩,q,⟨by rw [zGD,wQm,wQu,wQG (by omega)]; omega,rfl,hM _ (by omega),by omega⟩,k+1,by omega,by omega,⟨rfl,?_⟩,?_⟩
    ·rw [wQb _ ⟨by omega,by omega⟩]; omega
    ·rw [ts,<- jY9]; rfl
   ·have:k=L.length:=by omega
    subst this;rw [wQY (by rw [wQu]; omega),wQu];exact ⟨⟨rfl,rfl⟩,trivial⟩
def tD (a:Scr) (b:Int) (c:List Int) (d e:List Fr):Prop:=aCX a b c (List.length d=List.length e)
def qS (a:List Fr) (b:Nat):List DV:=cAt (frs a) b
def aGO (a:List Fr) (b:Nat):Nat:=aY (cV (List.length a)) b
def aGP (a:List Fr) (b:Nat):RV:=dO (lAt (frs a) b) (qS a b)
theorem zJU (s:Scr) (most:Int) (e:List Int) (F:List Fr) (o:Oq) (l:List Px) (x y:Int) (hF:1<=F.length/\F.length<=66) (hu:∀ m∈s.ims,m.isU) (hI:s.ims.length<=1000000) (hxy:(-1073741824<=x/\x<=1073741824) /\ -1073741824<=y/\y<=1073741824) (hmk:(0<=o.mask/\o.mask<=s.ims.length)/\(-1073741824<=o.mx/\o.mx<=1073741824) /\ -1073741824<=o.my/\o.my<=1073741824) (hl:l.length<=100000) (ho:isNm o.oper=true) (hmo:isNm o.mode=true) (ha:(topF F).acc.length=l.length) (hb:(topF F).back.length=l.length) (hok1:∀ j,j<l.length->(zJH (pxN l j) (ksN (maR s.ims o x y l.length) most j) o.opac most).2=true) (hok2:∀ j,j<l.length->zZ4 (topF F).op.kno o.oper o.mode most (pxN (scR most o.opac l (maR s.ims o x y l.length)) j) (acN (topF F).acc j) (pxN (topF F).back j)=true):AnsG prog 159 1 [aPz,AV.agg (oC o),aO (cD (dS l.length (pxs l))),aJ ((x)),aJ ((y))] [bC [cJ (s.bits),cJ (s.c.a),cJ (s.c.b),cJ (s.c.c),cJ (s.c.d),cJ (s.tw),cJ (s.th),cD (dS s.ord.length (is s.ord)),cD (dS s.ims.length (ims s.ims)),cD (dS s.ops.length (ops s.ops)),cK (most),cD (dS e.length (is e)),Cl.ref 1 F.length],bR 249 14 (frs F)] ⟨AV.tup [],[bC [cJ (s.bits),cJ (s.c.a),cJ (s.c.b),cJ (s.c.c),cJ (s.c.d),cJ (s.tw),cJ (s.th),cD (dS s.ord.length (is s.ord)),cD (dS s.ims.length (ims s.ims)),cD (dS s.ops.length (ops s.ops)),cK (most),cD (dS e.length (is e)),Cl.ref 1 (((zJ1 most F o l (maR s.ims o x y l.length))).length)],bR 249 14 (frs (zJ1 most F o l (maR s.ims o x y l.length)))],false⟩:=
 zZc (Γ:=jUg) aL zQb Tryz.func159 rfl (nL rfl) rfl λhwf hbx=>by
  refine Eq.mpr (by kernel_rfl:_=(let c:=zJ1 most F o l (maR s.ims o x y (List.length l));let d:=aGO F 14+13;let b:=aGO F 14+12;let f:=maR (zQI (fG s)) o x y (Int.toNat (aCY l));let k:=u16s f;let m:=scR most o.opac (zQg (pxs l)) (ints k);let n:=aGO F 14+0+11;let a:=frs F;let p:=bAt a n;let g:=stR p o.oper o.mode most (zQg (pxs m)) (jXC (qS F b)) (zQg (qS F d));let q:=aCZ m;let h:=List.length F;let j:=[nX s most e F,jQ F];bS (eV (sQ 213 2 0 (AV.agg (tK o [])::aO (bO x)::pJ (bO y) (yG (List.length l)) []) j (nW (cD (aGN f)) j)/\eS j) (aK (Ans prog 212 (aCZ l::dO (List.length f) k::fW o.opac most []) (gR q)) (eV (eS true) (True/\True/\True/\h<=maxLen/\aED (gO (cV h) h) (lX (aZ (kG a n)) (aG (aH (aZ (a[b]?=nK a b)) (True/\True/\aZ (a[d]?=nK a d)/\Ans prog 214 (aB p::iN o.oper o.mode [aP most,q,aGP F b,aGP F d]) (gR (dO (List.length g) (acs g)))/\True/\True/\True/\True/\True/\gL (b+1) a/\eS true/\bK (True/\True) (tD s most e F c) (List.set a b (aGQ g)=frs c)/\zZu (lV [] [Bx.cells (dY s.bits s.c.a s.c.b s.c.c (bO s.c.d::cS s.tw s.th (xR s (tC most e 1 c)))),jQ c] false))))))))))) ?_;delta eS aY aZ aE aI bO aF aP aG aH aK aX eV pJ lV lX cS mY dY gK nZ tK bG nC bZ yG aW dO bK gO gL gD fO gX aB bS oP nK iN cV kG aFH qA dV fG fD xR gR aED fW sQ sR nW tC aGL aGS jQ aCY aCX nX tD aGN qS aCZ aGO aGQ aGP;simp only [sS];clear hwf hbx;have hM:∀ n:Nat,n<=100000->n<=maxLen:=λn h=>by unfold maxLen; omega
  have wF:wrap .i64 ((F.length:Int)-1)=(F.length:Int)-1:=wQb _ ⟨by omega,by omega⟩;have nF:((F.length:Int)-1).toNat=F.length-1:=by omega
  have kF:F.length-1<F.length:=by omega
  have tF:F[F.length-1]=topF F:=by unfold topF; rw [List.getElem?_eq_getElem kF]; rfl
  have r:=jYz kF;have q:=jYB kF;rw [tF] at r q;simp only [Nat.add_zero] at r q;rw [zQ5,zZC,jW6];simp only [zZC,wF,nF,Nat.add_assoc,Nat.add_zero,Nat.zero_add,Nat.reduceAdd];obtain ⟨p0,p1,p2,p3,p4,p5,p6,p7,p8,p9,p10,p11,p12,p13⟩:=q;obtain ⟨s0,s1,s2,s3,s4,s5,s6,s7,s8,s9,s10,s11,s12,s13⟩:=r;rw [p11,p12.1,p12.2,p13.1,p13.2,zWu,zZC];have M:=zKi s most e F o x y l.length hu hI hxy hmk ⟨by omega,by omega⟩;have Q:=jHK s.ims o x y l.length;refine ⟨M,jQc l (maR s.ims o x y l.length) o.opac most hl Q hok1,hM _ (by omega),⟨by omega,by omega⟩,s11,s12,s13,jZp (topF F).op.kno o.oper o.mode most (scR most o.opac l (maR s.ims o x y l.length)) (topF F).acc (topF F).back (by rw [zJz]; exact hl) (by rw [zJz]; exact ha) (by rw [zJz]; exact hb) ho hmo (by rw [zJz]; exact hok2),by rw [zUI]; omega,⟨?_,?_⟩,trivial⟩
  ·unfold zJ1; rw [wZp]
  ·rw [jGy kF,tF]; rfl
def jD (a:List Fr) (b:Nat):Int:=aU (frs a) b
def tE (a:List Fr) (b:Nat):Prop:=bQ (frs a) b
theorem zKg (s:Scr) (most:Int) (e:List Int) (F:List Fr) (o:Oq) (hF:1<=F.length/\F.length<=66) (ha:(topF F).acc.length<=100000) (hb:(topF F).back.length=(topF F).acc.length):AnsG prog 160 1 [aPz,AV.agg (oC o)] [bC [cJ (s.bits),cJ (s.c.a),cJ (s.c.b),cJ (s.c.c),cJ (s.c.d),cJ (s.tw),cJ (s.th),cD (dS s.ord.length (is s.ord)),cD (dS s.ims.length (ims s.ims)),cD (dS s.ops.length (ops s.ops)),cK (most),cD (dS e.length (is e)),Cl.ref 1 F.length],bR 249 14 (frs F)] ⟨AV.tup [],[bC [cJ (s.bits),cJ (s.c.a),cJ (s.c.b),cJ (s.c.c),cJ (s.c.d),cJ (s.tw),cJ (s.th),cD (dS s.ord.length (is s.ord)),cD (dS s.ims.length (ims s.ims)),cD (dS s.ops.length (ops s.ops)),cK (most),cD (dS e.length (is e)),Cl.ref 1 (((zGh F o)).length)],bR 249 14 (frs (zGh F o))],false⟩:=
 zZc (Γ:=jUg) (let g:=(topF F).acc;let i:=List.length g;let a:=frs F;let b:=aGO F 14;let h:=lAt (frs F) (kJ b);let j:=Int.toNat (h:Int);let k:=cP (eU b);let c:=List.length F;let d:=cV c;let l:=aY d 14;let m:=cV c;oU (Ann.loop (Inv.mk Nat (λ(p:Nat)=>aAA p g) (λ(f:Nat)=>vN (gC 0 0 3 3 (gC 4 4 5 5 (lO 31 (Int.toNat (h:Int)) 32 f))) 0 (xN s (tC most e 1 F)) 3 (tK o []) 4 (gK (qM a c 14) (jH a m 14) (uX a c 14) (gE a m 14) (jD F b) (jD F (kE d 14)) (jD F (nS d 14)) (nZ (jD F (lG d 14)) (jD F (bU l)) (jD F (cP l)) (bAt a (gB b)) (bAt a (fX b)) (fO h (qS F (kJ b)) (fO (lAt (frs F) k) (qS F k) [])))) 5 (tK o [Cl.ref 23 j,Cl.ref 27 j]) (tS 1 249 14 a 23 199 6 (acs (rngK i f (jVw (topF F) o) Ac.zero)) (jU 27 37 5 (pxs (rngK i f (jVv (topF F) o) Px.zero))))) (λ(n:Nat)=>List.length g-n)) (λ(q:Nat)=>aL))) zQb Tryz.func160 rfl (nL rfl) rfl λhwf hbx=>by
  refine Eq.mpr (by kernel_rfl:_=(let p:=zGh F o;let v:=jVv (topF F) o;let q:=(topF F).acc;let h:=List.length q;let d:=aGO F 14;let r:=kJ d;let m:=lAt (frs F) r;let x:=(m:Int);let j:=Int.toNat x;let y:=jVw (topF F) o;let b:=frs F;let t:=cP (eU d);let f:=qS F t;let c:=qS F r;let A:=bAt b (fX d);let B:=(m:Int);let P:=yH B;let Q:=gX o.kind (oP o.image o.x (bG o.y) o.mask (aCO o.mx o.my o.opac (bG o.oper) (nC o.mode (eS (DV.bool o.iso)) (eS (DV.bool o.kno)) P (aZ P))));let R:=lAt (frs F) t;let g:=List.length F;let k:=cV g;let S:=aY k 14;let T:=cP S;let U:=bU S;let V:=nS k 14;let W:=kE k 14;let C:=cV g;let X:=eS (iS (qM b g 14) (jH b C 14) (uX b g 14) (gE b C 14) (jD F d) (jD F W) (jD F V) (aE (jD F (lG k 14))::oT (jD F U) (jD F T) (bAt b (gB d)) (aHW A (tU m c R f))));let Y:=oP s.bits s.c.a (bG s.c.b) s.c.c (gX s.c.d (aGS s (aF (gD (dV s) (fD s)) (bZ most) (eS (sR e)) (eS g))));let Z:=gA j;let z0:=List.length q;bS (True/\True/\True/\g<=maxLen/\cZ (gO C g) (jR b k 14/\oG b k 14/\cL (fY b d) (fY b (d+1)) (tE F d) (tE F W) (tE F V) (zC b d) (tE F U) (tE F T) (aF (kG b (gB d)) (aGR b d) (b[r]?=nK b r) (b[t]?=nK b t))) (lY (aH (mF x 12) (aH (mF x 10) (aH (eS true) (tP j (∃ n:Nat,cB n z0 (rI (bP (bP (aW Z (yO n)))) Y (eS (Oq.cells o)) X Q (eS b) (xQ B (qO 0 0 0 0 0 0)=acs (rngK h n y Ac.zero)) (xQ B oH=pxs (rngK h n v Px.zero)))) (∀ a:Nat,let w:=pxs (rngK h a v Px.zero);let z:=acs (rngK h a y Ac.zero);let D:=iS o.kind o.image o.x o.y o.mask o.mx o.my (aE o.opac::oT o.oper o.mode o.iso (aHW o.kno [DV.sl j z,DV.sl j w]));let E:=aU c (gF a 6);let G:=kT c a 6;let H:=dE c a 6;let I:=eH c a 6;let J:=dT c a 6;let K:=bT c a 6;let L:=zZI o.iso A ⟨K,J,I,H,G,E⟩ (aFA f a 5);let M:=L.snd;let O:=sW L.fst;let z1:=zM a m;let u:=aT a 6;bL (aAA a q) (eX a j true (True/\True/\True/\True/\aV (uD (aV (eG a m 6 c/\iK (cQ (bD c u (bT c a 6)) (bD c (gF a 6) (dT c a 6)) (bD c (cI u) (eH c a 6)) (bD c (mK a 6) (dE c a 6)) (mR c u) (bD c (cP u) (aU c (gF a 6)))) (True/\True/\eG a R 5 f/\aCQ f a 5/\Ans prog 181 [aB o.iso,aB A,rA (qO K J I H G E),lW (bT f a 5) (dT f a 5) (eH f a 5) (dE f a 5) (kT f a 5)] (nT O (kR M))/\True/\True/\True/\z1/\gL (aT a 6+6) z/\z1/\cG (gL (aT a 5+5) w) (eS true) (∃ l:Nat,aAA l q/\bW z0 l a/\rI (bP (bP (aW Z (rK a l)))) Y (eS (Oq.cells o)) X Q (eS b) (sets z (aT a 6) O=acs (rngK h l y Ac.zero)) (sets w (aT a 5) (dB M)=pxs (rngK h l v Px.zero))))))))) (eX a j false (jC (zZ2 14 136 (List.length F) 1 b D) (True/\True/\eS true/\bK (True/\True) (aCX s most e (List.length F+1=List.length p)) (b++D=frs p)/\zZu (lV [] [nX s most e p,jQ p] false))))))))))))) ?_;delta eS aY aZ cZ jR aE aI bO aF aH aK dR bD aX lW lV gU lY cS mY dY gK iQ bG nC iS oT bP cG bZ aW nH nG bK aT gO gL bL gD gF vR yH mF cL iK kR fO kS aU fY bQ bT eG gX dB eX dT dE eH jH gE kT oG oH tP aB aV cI bU cP bS oP bW nK cB mK tU gA cV kG rI rK yO aFH qA dV fG fD xR cQ uD jC fX mR gB eU kE zC nS lG kJ aHW aGR nT sR xQ qM zM uX qO qP sW aCO aCQ tC aGL aGS jQ aCX nX qS aGO jD aAA tE aFA;simp only [sS];clear hwf hbx;have hM:∀ n:Nat,n<=100000->n<=maxLen:=λn h=>by unfold maxLen; omega
  have wF:wrap .i64 ((F.length:Int)-1)=(F.length:Int)-1:=wQb _ ⟨by omega,by omega⟩;have nF:((F.length:Int)-1).toNat=F.length-1:=by omega
  have kF:F.length-1<F.length:=by omega
  have tF:F[F.length-1]=topF F:=by unfold topF; rw [List.getElem?_eq_getElem kF]; rfl
  have r:=jYz kF;have q:=jYB kF;rw [tF] at r q;simp only [Nat.add_zero] at r q;simp only [wF,nF,Nat.add_assoc,Nat.add_zero,Nat.zero_add,Nat.reduceAdd];obtain ⟨p0,p1,p2,p3,p4,p5,p6,p7,p8,p9,p10,p11,p12,p13⟩:=q;obtain ⟨s0,s1,s2,s3,s4,s5,s6,s7,s8,s9,s10,s11,s12,s13⟩:=r;simp only [p0,p1,p2,p3,p4,p5,p6,p7,p8,p9,p10,p11,p12.1,p12.2,p13.1,p13.2,s0,s1,s2,s3,s4,s5,s6,s7,s8,s9,s10,s11,s12,s13,true_and,and_true];clear p0 p1 p2 p3 p4 p5 p6 p7 p8 p9 p10 p11 p12 p13 s0 s1 s2 s3 s4 s5 s6 s7 s8 s9 s10 s11 s12 s13;have hP:zGh F o=F++[⟨o,rng (topF F).acc.length (jVw (topF F) o),rng (topF F).acc.length (jVv (topF F) o)⟩]:=rfl;have hL:(zGh F o).length=F.length+1:=by rw [hP,wQi]; rfl
  generalize topF F=t at *;have za:repl t.acc.length [DV.int .u16 0,DV.int .u16 0,DV.int .u16 0,DV.int .u16 0,DV.int .u16 0,DV.int .u16 0]=acs (rngK t.acc.length 0 (jVw t o) .zero):=by
   rw [jXL]; unfold repl acs;rw [wXb,wXc]; rfl
  have zb:repl t.acc.length [DV.int .u16 0,DV.int .u16 0,DV.int .u16 0,DV.int .u16 0,DV.int .u16 0]=pxs (rngK t.acc.length 0 (jVv t o) .zero):=by
   rw [jXL]; unfold repl pxs;rw [wXb,wXc]; rfl
  refine ⟨hM _ (by omega),⟨by omega,by omega⟩,⟨by omega,Int.le_refl _,by have:=hM _ ha; omega,by omega⟩,⟨by omega,Int.le_refl _,by have:=hM _ ha; omega,by omega⟩,hM _ ha,⟨0,Nat.zero_le _,⟨rfl,za,zb⟩⟩,λk hk=>⟨λhlt=>?_,λhge=>?_⟩⟩
  ·have k1:k<t.acc.length:=by omega
   have k2:k<t.back.length:=by omega
   obtain ⟨a0,a1,a2,a3,a4,a5⟩:=zH0 k1;obtain ⟨c0,c1,c2,c3,c4⟩:=zQJ k2;have ra:=zHZ k1;have rb:=zJW k2;simp only [Nat.add_zero] at a0 ra;have hA:=jZj k1;have hB:=zY9 k2;simp only [a0,a1,a2,a3,a4,a5,c0,c1,c2,c3,c4,Nat.add_assoc,Nat.reduceAdd] at ra rb |-;rw [<- hA] at ra |-;rw [<- hB] at rb |-;have hw:wrap .i64 ((k:Int)+1)=((k+1:Nat):Int):=by rw [wQb _ ⟨by omega,by omega⟩]; omega
   refine ⟨⟨by omega,by omega,by rw [zX2]; omega⟩,ra,⟨by omega,by omega,by rw [zQs]; omega⟩,rb,zHy o.iso t.op.kno (acN t.acc k) (pxN t.back k),⟨by omega,by omega⟩,by rw [zX2,zGo]; omega,⟨by omega,by omega⟩,by rw [zQs,zGo]; omega,k+1,by omega,by omega,hw,?_,?_⟩
   ·have:=jGV (l:=rngK t.acc.length k (jVw t o) .zero) (k:=k) (by rw [zGo]; omega) (jVw t o k);rw [jKr] at this;exact this
   ·have:=jKx (l:=rngK t.acc.length k (jVv t o) .zero) (k:=k) (by rw [zGo]; omega) (jVv t o k);rw [jKr] at this;exact this
  ·have e:k=t.acc.length:=by omega
   subst e;rw [jXM _ _ (Nat.le_refl _),jXM _ _ (Nat.le_refl _)];refine ⟨⟨by rw [zUI],rfl,hM _ (by omega),by omega⟩,⟨hL.symm,?_⟩,trivial⟩;rw [hP,<- jVL];unfold frs Fr.cells;simp only [wQZ,List.flatMap_nil,wQW,zXb];rfl
end
def popF (s:Scr) (m x y:Int) (F:List Fr):List Fr:=
 zJ1 m F.dropLast (topF F).op (rsR m (topF F).acc (topF F).back) (maR s.ims (topF F).op x y (rsR m (topF F).acc (topF F).back).length)
def jH8 (s:Scr) (m x y n:Int) (F:List Fr) (o:Oq):List Fr:=
 zJ1 m F o (pixR s.ims o.image (x-o.x) (y-o.y) n.toNat) (maR s.ims o x y (pixR s.ims o.image (x-o.x) (y-o.y) n.toNat).length)
def jQe (s:Scr) (m:Int) (e:List Int) (act:List Bool) (x y n:Int) (q:Nat × List Fr) (o:Oq):Nat × List Fr:=
 if o.kind=3 then (q.1+1,popF s m x y q.2)
 else if (act[q.1]?).getD false=false then (((e[q.1]?).getD 0).toNat+1,q.2)
 else if o.kind=2 then (q.1+1,zGh q.2 o)
 else (q.1+1,jH8 s m x y n q.2 o)
def zUl (s:Scr) (m:Int) (e:List Int) (act:List Bool) (x y n:Int) (q:Nat × List Fr):Nat × List Fr:=
 match s.ops[q.1]? with
 | none=>q
 | some o=>jQe s m e act x y n q o
def zZV (s:Scr) (m:Int) (e:List Int) (act:List Bool) (x y n:Int):Nat->Nat × List Fr
 | 0=>(0,[zUZ n.toNat])
 | k+1=>zUl s m e act x y n (zZV s m e act x y n k)
def zYB (s:Scr) (m:Int) (e:List Int) (act:List Bool) (x y n:Int):List Fr:=(zZV s m e act x y n s.ops.length).2
def frN (F:List Fr) (k:Nat):Fr:=(F[k]?).getD (zUZ 0)
def zYA (s:Scr) (m:Int) (e:List Int) (act:List Bool) (x y n:Int):List Px:=
 rsR m (frN (zYB s m e act x y n) 0).acc (frN (zYB s m e act x y n) 0).back
structure zUL (s:Scr) (m:Int) (F:List Fr) (o:Oq) (l:List Px) (x y:Int):Prop where
  len:1<=F.length/\F.length<=66
  mask:(0<=o.mask/\o.mask<=s.ims.length)/\(-1073741824<=o.mx/\o.mx<=1073741824) /\ -1073741824<=o.my/\o.my<=1073741824
  src:l.length<=100000
  oper:isNm o.oper=true
  mode:isNm o.mode=true
  acc:(topF F).acc.length=l.length
  back:(topF F).back.length=l.length
  ok1:∀ j,j<l.length->(zJH (pxN l j) (ksN (maR s.ims o x y l.length) m j) o.opac m).2=true
  ok2:∀ j,j<l.length->zZ4 (topF F).op.kno o.oper o.mode m (pxN (scR m o.opac l (maR s.ims o x y l.length)) j) (acN (topF F).acc j) (pxN (topF F).back j)=true
def FrOk (m:Int) (t:Fr):Prop:=t.acc.length<=100000/\t.back.length=t.acc.length/\∀ j,j<t.acc.length->(acN t.acc j).ok (pxN t.back j) m=true
structure jUO (s:Scr) (m:Int) (e:List Int) (act:List Bool) (x y n:Int) (q:Nat × List Fr) (o:Oq):Prop where
  len:1<=q.2.length/\q.2.length<=65
  fr:FrOk m (topF q.2)
  pop:o.kind=3->2<=q.2.length/\zUL s m q.2.dropLast (topF q.2).op (rsR m (topF q.2).acc (topF q.2).back) x y
  inA:o.kind≠3->q.1<act.length
  skip:o.kind≠3->act[q.1]?=some false->∃ v:Nat,e[q.1]?=some (v:Int)/\q.1<=v/\v<s.ops.length
  draw:o.kind≠3->o.kind≠2->act[q.1]?=some true->zUL s m q.2 o (pixR s.ims o.image (x-o.x) (y-o.y) n.toNat) x y/\(0<=o.image/\o.image<s.ims.length)/\(-1073741824<=o.x/\o.x<=1073741824) /\ -1073741824<=o.y/\o.y<=1073741824
structure zH3 (s:Scr) (m:Int) (e:List Int) (act:List Bool) (x y n:Int):Prop where
  step:∀ k o,s.ops[(zZV s m e act x y n k).1]?=some o->jUO s m e act x y n (zZV s m e act x y n k) o
  last:1<=(zYB s m e act x y n).length/\(zYB s m e act x y n).length<=65/\FrOk m (frN (zYB s m e act x y n) 0)
  wide:(frN (zYB s m e act x y n) 0).acc.length=n.toNat
theorem zUk {s:Scr} {m:Int} {e:List Int} {act:List Bool} {x y n:Int} {q:Nat × List Fr} (h:q.1<s.ops.length):zUl s m e act x y n q=jQe s m e act x y n q s.ops[q.1]:=by
 unfold zUl; rw [List.getElem?_eq_getElem h]
theorem zGR {s:Scr} {m:Int} {e:List Int} {act:List Bool} {x y n:Int} {q:Nat × List Fr} (h:s.ops.length<=q.1):zUl s m e act x y n q=q:=by
 unfold zUl; rw [wQO h]
theorem zVo (s:Scr) (m:Int) (e:List Int) (act:List Bool) (x y n:Int) (k:Nat):zZV s m e act x y n (k+1)=zUl s m e act x y n (zZV s m e act x y n k):=rfl
theorem jKp {s:Scr} {m:Int} {e:List Int} {act:List Bool} {x y n:Int} {q:Nat × List Fr} {o:Oq} (h:jUO s m e act x y n q o):q.1<(jQe s m e act x y n q o).1:=by
 unfold jQe;split
 ·exact Nat.lt_succ_self _
 ·next h3=>
  split
  ·next h2=>
   have hl:=h.inA h3;have ha:act[q.1]?=some false:=by
    rw [List.getElem?_eq_getElem hl] at h2 |-;exact congrArg some h2
   obtain ⟨v,hv,h1,_⟩:=h.skip h3 ha;rw [hv]
   show q.1<((v:Int).toNat+1)
   omega
  ·split<;>exact Nat.lt_succ_self _
theorem zVp {s:Scr} {m:Int} {e:List Int} {act:List Bool} {x y n:Int} {k:Nat} (h:s.ops.length<=(zZV s m e act x y n k).1):∀ j,zZV s m e act x y n (k+j)=zZV s m e act x y n k
 | 0=>rfl
 | j+1=>by
  rw [<- Nat.add_assoc,zVo,zVp h j,zGR h]
theorem jZw {s:Scr} {m:Int} {e:List Int} {act:List Bool} {x y n:Int} (g:∀ k o,s.ops[(zZV s m e act x y n k).1]?=some o->jUO s m e act x y n (zZV s m e act x y n k) o):∀ k,min k s.ops.length<=(zZV s m e act x y n k).1
 | 0=>by omega
 | k+1=>by
  have ih:=jZw g k
  rcases wQr (zZV s m e act x y n k).1 s.ops.length with h | h
  ·have:=jKp (g k _ (List.getElem?_eq_getElem h));rw [zVo,zUk h]; omega
  ·have:=zVp (s:=s) (k:=k) h 1;rw [this]; omega
theorem jWx {s:Scr} {m:Int} {e:List Int} {act:List Bool} {x y n:Int} (g:zH3 s m e act x y n) {k:Nat} (h:s.ops.length<=(zZV s m e act x y n k).1):(zZV s m e act x y n k).2=zYB s m e act x y n:=by
 unfold zYB;have hl:s.ops.length<=(zZV s m e act x y n s.ops.length).1:=by have:=jZw g.step s.ops.length; omega
 rcases Nat.le_total k s.ops.length with hk | hk
 ·obtain ⟨j,ej⟩:=Nat.le.dest hk;rw [<- ej,zVp h j]
 ·obtain ⟨j,ej⟩:=Nat.le.dest hk;rw [<- ej,zVp hl j]
theorem jGx (l:List Fr) (k:Nat):(frs l).take (k*14)=frs (l.take k):=by
 induction l generalizing k with
 | nil=>simp [frs]
 | cons q l ih=>
  have e0:∀ t,frs (q::t)=q.cells++frs t:=λt=>by simp [frs]
  have ec:q.cells.length=14:=rfl
  cases k with
  | zero=>simp [frs]
  | succ k=>
   rw [e0,wXO,ec,wQY (by omega),show (k+1)*14-14=k*14 by omega,ih,wYe,e0]
theorem jYA (l:List Fr):(frs l).take ((l.length-1)*14)=frs l.dropLast:=by
 rw [jGx,wZT]
def toBs (xs:List DV):List Bool:=(List.range xs.length).map (bAt xs)
theorem jHl (l:List Bool):toBs (bs l)=l:=by
 unfold toBs;rw [zHP];refine wQ1 (by simp) λi h1 h2=>?_;simp only [List.getElem_map,wZj];exact jUB (List.getElem?_eq_getElem h2)
section
attribute [local irreducible] Ans AnsO AnsG AnsN AnsI
def yQI:Gam:=jUg.add [.p 158 (λ| [.d (.sl an axs),.d (.sl bn bxs),.d (.int _ m)]=>let a:=(rsR m (jXC axs) (zQg bxs)); some (RV.tup [RV.d (dS a.length (pxs a)),RV.d (dQ true)]) | _=>none),
 .q 82 ([false,true,true,true,true],1,1) (λ| [AV.one (Cl.ptr 0 0),AV.one (Cl.d (DV.int _ x)),AV.one (Cl.d (DV.int _ y)),AV.one (Cl.d (DV.int _ n)),AV.one (Cl.d (DV.sl an axs))],[Bx.cells [Cl.d (DV.int _ bits),Cl.d (DV.int _ cx0),Cl.d (DV.int _ cy0),Cl.d (DV.int _ cx1),Cl.d (DV.int _ cy1),Cl.d (DV.int _ tw),Cl.d (DV.int _ th),Cl.d (DV.sl on oxs),Cl.d (DV.sl mn mxs),Cl.d (DV.sl qn qxs),Cl.d (DV.int _ most),Cl.d (DV.sl en exs),Cl.ref 1 fn],Bx.row _ _ fxs]=>some ⟨AV.one (Cl.d (dS (zYA (⟨bits,⟨cx0,cy0,cx1,cy1⟩,tw,th,ints oxs,zQI mxs,zQl qxs⟩:Scr) most (ints exs) (toBs axs) x y n).length (pxs (zYA (⟨bits,⟨cx0,cy0,cx1,cy1⟩,tw,th,ints oxs,zQI mxs,zQl qxs⟩:Scr) most (ints exs) (toBs axs) x y n)))),[bC [cJ bits,cJ cx0,cJ cy0,cJ cx1,cJ cy1,cJ tw,cJ th,Cl.d (dS on oxs),Cl.d (dS mn mxs),Cl.d (dS qn qxs),cK most,Cl.d (dS en exs),Cl.ref 1 (zYB (⟨bits,⟨cx0,cy0,cx1,cy1⟩,tw,th,ints oxs,zQI mxs,zQl qxs⟩:Scr) most (ints exs) (toBs axs) x y n).length],Bx.row 249 14 (frs (zYB (⟨bits,⟨cx0,cy0,cx1,cy1⟩,tw,th,ints oxs,zQI mxs,zQl qxs⟩:Scr) most (ints exs) (toBs axs) x y n))],false⟩ | _,_=>none)]
def aGZ (a:Scr) (b:Int) (c:List Int) (d:List Bool) (e f g:Int) (h:Nat):List Fr:=(zZV a b c d e f g h).snd
def aGT (a:Scr) (b:Int) (c:List Int) (d:List Bool) (e f g:Int) (h i:Nat):Prop:=bW (dV a) (zZV a b c d e f g h).fst (zZV a b c d e f g i).fst
theorem zKI (s:Scr) (most:Int) (e:List Int) (F:List Fr) (x y n:Int) (act:List Bool) (hu:∀ m∈s.ims,m.isU) (hI:s.ims.length<=1000000) (hG:zH3 s most e act x y n) (hn:0<=n/\n<=100000) (hxy:(-536870912<=x/\x<=536870912) /\ -536870912<=y/\y<=536870912) (hM:s.ops.length<=1000000):AnsG prog 82 1 [aPz,aJ ((x)),aJ ((y)),aJ ((n)),aO (cD (dS act.length (bs act)))] [bC [cJ (s.bits),cJ (s.c.a),cJ (s.c.b),cJ (s.c.c),cJ (s.c.d),cJ (s.tw),cJ (s.th),cD (dS s.ord.length (is s.ord)),cD (dS s.ims.length (ims s.ims)),cD (dS s.ops.length (ops s.ops)),cK (most),cD (dS e.length (is e)),Cl.ref 1 F.length],bR 249 14 (frs F)] ⟨aO (cD (dS ((zYA s most e act x y n).length) (pxs (zYA s most e act x y n)))),[bC [cJ (s.bits),cJ (s.c.a),cJ (s.c.b),cJ (s.c.c),cJ (s.c.d),cJ (s.tw),cJ (s.th),cD (dS s.ord.length (is s.ord)),cD (dS s.ims.length (ims s.ims)),cD (dS s.ops.length (ops s.ops)),cK (most),cD (dS e.length (is e)),Cl.ref 1 (((zYB s most e act x y n)).length)],bR 249 14 (frs (zYB s most e act x y n))],false⟩:=
 zZc (Γ:=yQI) (eF (Ann.loop (Inv.mk Nat (λ(f:Nat)=>True) (λ(c:Nat)=>let a:=zZV s most e act x y n c;qZ (aAM 0 1 x 2 y 3 n (zL 4 (DV.sl (List.length act) (bs act)) 11 (yG a.fst) [])) 0 (dY s.bits s.c.a s.c.b s.c.c (bO s.c.d::cS s.tw s.th (xR s (tC most e 1 a.snd)))) (jU 1 249 14 (frs a.snd))) (λ(b:Nat)=>dV s-(zZV s most e act x y n b).fst)) (λ(d:Nat)=>aL))) zQb Tryz.func82 rfl (nL rfl) rfl λhwf hbx=>by
  refine Eq.mpr (by kernel_rfl:_=(let t:=zYB s most e act x y n;let W:=zYA s most e act x y n;let f:=fD s;let Q:=zQI (fG s);let m:=gD (List.length act) (bs act);let o:=bG n;let p:=bG y;let q:=bG x;let v2:=aE 0::aE 0::aCM 0 0 0;let v3:=aHL 2 true false [DV.sl (Int.toNat n) (xQ n (aE 0::v2)),DV.sl (Int.toNat n) (xQ n v2)];let v4:=pN 0 14 (frs F);True/\lX ((0:Int)<=0/\0<=(List.length F:Int)) (fH (mF n 12) (mF n 10) (aK (zZ2 14 136 (Int.toNat 0) 1 v4 v3) (True/\eS true/\True/\(∃ v5:Nat,let V:=zZV s most e act x y n v5;aF True (mI q (mG p o m V.fst)) (aCX s most e (Int.toNat 0+1=List.length V.snd)) (v4++v3=frs V.snd))/\(∀ l:Nat,let K:=zZV s most e act x y n l;let h:=K.snd;let a:=frs h;let c:=K.snd;let L:=qS c 13;let M:=qS c 12;let X:=rsR most (jXC M) (zQg L);let Y:=frs c;let Z:=List.length c;let z0:=fL Z;let b:=K.fst;let O:=dE f b 12;let z2:=aX y O;let P:=eH f b 12;let z3:=aX x P;let u:=dT f b 12;let v:=pixR Q u z3 z2 (Int.toNat n);let w:=aT b 12;let z4:=fX w;let z5:=gB w;let R:=aT b 12;let z6:=cP R;let z7:=dF s z6;let z8:=bU R;let z9:=dF s z8;let y0:=dF s (mK b 12);let y1:=cI R;let y2:=dF s y1;let y3:=gF b 12;let y4:=dF s y3;let y5:=dF s w;let j:=bT f b 12;let S:=(⟨j,u,P,O,y5,y4,y2,y0,z9,z7,bAt f z5,bAt f z4⟩:Oq);let y6:=zU7 a;let z:=zJ1 most y6 S (zQg (pxs v)) (maR Q S x y (List.length v));let r:=[nX s most e c,jQ c];let y7:=AV.agg (gK j u P O y5 y4 y2 (nZ y0 z9 z7 (bAt f z5) (bAt f z4) []));let A:=zGh y6 S;let y9:=aT b 1;let x0:=bAt (bs act) y9;let d:=aGO c 14;let B:=cP (eU d);let C:=kJ d;let D:=rsR most (jXC (qS c C)) (zQg (qS c B));let x3:=fX d;let T:=gB d;let k:=List.length c;let g:=cV k;let x4:=aY g 14;let x5:=cP x4;let x6:=jD h x5;let x7:=bU x4;let x8:=jD h x7;let x9:=jD h (lG g 14);let w0:=nS g 14;let w1:=jD h w0;let w2:=kE g 14;let w3:=jD h w2;let w4:=jD h d;let U:=cV k;let w5:=gE a U 14;let w6:=uX a k 14;let w7:=jH a U 14;let w8:=qM a k 14;let w9:=(⟨w8,w7,w6,w5,w4,w3,w1,x9,x8,x6,bAt a T,bAt a x3⟩:Oq);let v0:=pN g 14 a;let E:=zJ1 most (zU7 v0) w9 (zQg (pxs D)) (maR Q w9 x y (List.length D));let v1:=k<=maxLen;jW (iV (eX b (dV s) true (dP (aCA b s 12) (aM (zG f b 12 (dM s w) (dM s y3) (dM s y1) (dM s z8) (dM s z6)) (kZ j 3 (jC v1 (cG (gO U k) (jR a g 14/\oG a g 14/\cL (fY a d) (fY a (d+1)) (tE c d) (tE c w2) (tE c w0) (zC a d) (tE c x7) (tE c x5) (aF (kG a T) (aGR a d) (a[C]?=nK a C) (a[B]?=nK a B))) (iW (jC v1 (aM (aAS Z) (iW (True/\True/\True/\True/\True/\Ans prog 158 [aGP c C,aGP c B,aP most] (gR (aCZ D))/\aV (True/\dN (eS true) (aM (sQ 159 1 0 (AV.agg (gK w8 w7 w6 w5 w4 w3 w1 (nZ x9 x8 x6 (bAt a T) (bAt a x3) []))::aO (qR D)::zY x y []) [aGL s s.c.a s.c.b s.c.c s.c.d (mY most (aFH e [Cl.ref 1 (Int.toNat g)])),bR 249 14 v0] (lV [] [nX s most e E,jQ E] false)) (∃ J:Nat,let x2:=zZV s most e act x y n J;tV (aGT s most e act x y n J l) (mI q (gW p o m b x2.fst)) (tD s most e E (aGZ s most e act x y n J)) (frs E=frs x2.snd))))))))))) (cR (j==3) (eG b (List.length act) 1 (bs act)) (uY (aZ (kG (bs act) y9)) x0 (True/\True/\sU (eG b (List.length e) 1 (is e)) (gM (is e) b 1) (True/\True/\True/\True/\(∃ I:Nat,let x1:=zZV s most e act x y n I;tV (aGT s most e act x y n I l) (mI q (aF p o m (aIL (aI (bT (is e) b 1+1)) x1.fst))) (tD s most e c (aGZ s most e act x y n I)) (a=frs x1.snd)))) (gI x0 (kZ j 2 (aM (sQ 160 1 0 [y7] r (lV [] [Bx.cells (rC s.bits s.c.a s.c.b (dY s.c.c s.c.d s.tw s.th (xR s (tC most e 1 A)))),jQ A] false)) (∃ H:Nat,let y8:=zZV s most e act x y n H;tV (aGT s most e act x y n H l) (mI q (gW p o m b y8.fst)) (tD s most e A (aGZ s most e act x y n H)) (frs A=frs y8.snd))) (gV (j==2) (lE ((sQ 161 2 0 (zY u z3 (zY z2 n [])) r (nW (qR v) r)/\eS r)/\True/\True/\sQ 159 1 0 (y7::pJ (qR v) (bO x) [aO (bO y)]) r (lV [] [nX s most e z,jQ z] false)/\iW (∃ G:Nat,let z1:=zZV s most e act x y n G;tV (aGT s most e act x y n G l) (mI q (gW p o m b z1.fst)) (tD s most e z (aGZ s most e act x y n G)) (frs z=frs z1.snd))))))))))))) (pV b (dV s)->True/\True/\True/\True/\fH z0 (aZ (a[(12:Nat)]?=some (DV.sl (lAt a 12) M))) (True/\True/\True/\z0/\aK (aZ (a[(13:Nat)]?=some (DV.sl (lAt a 13) L))) (eV (Ans prog 158 [dO (lAt Y 12) M,dO (lAt Y 13) L,aP most] (gR (aCZ X))) (eS true/\True/\True/\bK (aZ (jP X=jP W)) (tD s most e c t) (a=frs t)/\zZu (nW (qR W) [nX s most e t,jQ t])))))))))))) ?_;delta eS aY bY aZ jR aE aI bO aF aP aG aH aK oF bD aX eV pJ lV fL lX cS mY dY gK nZ iQ aM bG nC iS oT cG bZ dN gV iV aW nH nG dO bK aT gO gW gD dP gF mG pN iW mF cL fO kS aU fY cR bQ bT eG gX eX dT dE eH gM jH gE tQ oG rC aB aV cI bU cP oP bW nK mK cV kG jW aAS mI tV aFH qA dV fG fD xR gR kZ gI jC pV lE uF fH fX gB eU kE zC nS lG kJ qH uY dF dM aGR aHL zG aCA sQ sR aIL sU xQ qM uX aCM nW zY jP tC aGL aGS jQ qR aCX nX tD qS aCZ aGO aGP jD tE aGZ aGT;simp only [sS];clear hwf hbx;have hM2:∀ n:Nat,n<=100000->n<=maxLen:=λn h=>by unfold maxLen; omega
  have en:(n.toNat:Int)=n:=by omega
  have za:repl n.toNat [DV.int .u16 0,DV.int .u16 0,DV.int .u16 0,DV.int .u16 0,DV.int .u16 0,DV.int .u16 0]=acs (List.replicate n.toNat .zero):=by
   unfold repl acs;rw [wXb,wXc]; rfl
  have zb:repl n.toNat [DV.int .u16 0,DV.int .u16 0,DV.int .u16 0,DV.int .u16 0,DV.int .u16 0]=pxs (List.replicate n.toNat .zero):=by
   unfold repl pxs;rw [wXb,wXc]; rfl
  have hmx:=hM2 n.toNat (by omega);refine ⟨⟨by omega,by omega⟩,⟨hn.1,Int.le_refl _,by omega,by omega⟩,⟨hn.1,Int.le_refl _,by omega,by omega⟩,⟨rfl,rfl,hM2 _ (by decide),by decide⟩,⟨0,rfl,rfl,?_⟩,λk=>⟨λhlt=>?_,λhge=>?_⟩⟩
  ·rw [za,zb]
   show _=frs [zUZ n.toNat]
   unfold frs Fr.cells zUZ;simp only [wQZ,List.flatMap_nil,wQW,wXr];rfl
  ·have h:(zZV s most e act x y n k).1<s.ops.length:=by omega
   have G:=hG.step k _ (List.getElem?_eq_getElem h);have su:=(zVo s most e act x y n k).trans (zUk h);have up:=jKp G;have eu:=congrArg Prod.fst su;rw [<- eu] at up;clear eu;have fu:=congrArg Prod.snd su;obtain ⟨GL,GF,GP,GA,GS,GD⟩:=G;generalize hq:zZV s most e act x y n k=q at *;have r:=zKD h;have a:=zKE h;have hon:s.ops[q.1]?=some s.ops[q.1]:=List.getElem?_eq_getElem h;generalize s.ops[q.1]=o at *;simp only [Nat.add_assoc,Nat.reduceAdd] at r a;obtain ⟨a0,a1,a2,a3,a4,a5,a6,a7,a8,a9,a10,a11⟩:=a;obtain ⟨r0,r1,r2,r3,r4,r5,r6,r7,r8,r9,r10,r11⟩:=r;simp only [Nat.add_assoc,Nat.reduceAdd,a0,a1,a2,a3,a4,a5,a6,a7,a8,a9,a10,a11,r0,r1,r2,r3,r4,r5,r6,r7,r8,r9,r10,r11,true_and,and_true,and_self];clear a0 a1 a2 a3 a4 a5 a6 a7 a8 a9 a10 a11 r0 r1 r2 r3 r4 r5 r6 r7 r8 r9 r10 r11;have kF:q.2.length-1<q.2.length:=by omega
   have wF:wrap .i64 ((q.2.length:Int)-1)=(q.2.length:Int)-1:=wQb _ ⟨by omega,by omega⟩;have nF:((q.2.length:Int)-1).toNat=q.2.length-1:=by omega
   have tF:q.2[q.2.length-1]=topF q.2:=by unfold topF; rw [List.getElem?_eq_getElem kF]; rfl
   have r:=jYz kF;have a:=jYB kF;rw [tF] at r a;simp only [Nat.add_zero] at r a;obtain ⟨a0,a1,a2,a3,a4,a5,a6,a7,a8,a9,a10,a11,a12,a13⟩:=a;obtain ⟨r0,r1,r2,r3,r4,r5,r6,r7,r8,r9,r10,r11,r12,r13⟩:=r;simp only [wF,nF,Nat.add_assoc,Nat.reduceAdd,a0,a1,a2,a3,a4,a5,a6,a7,a8,a9,a10,a11,a12.1,a12.2,a13.1,a13.2,r0,r1,r2,r3,r4,r5,r6,r7,r8,r9,r10,r11,r12,r13,true_and,and_true,and_self];clear a0 a1 a2 a3 a4 a5 a6 a7 a8 a9 a10 a11 a12 a13 r0 r1 r2 r3 r4 r5 r6 r7 r8 r9 r10 r11 r12 r13;have hm:=hM2 q.2.length (by omega);have h2:2<=q.2.length->q.2.length-1=q.2.dropLast.length:=λ_=>wXT.symm;have go:∀ {i:Int} {F:List Fr},(zZV s most e act x y n (k+1))=(i.toNat,F)->0<=i->∃ k',s.ops.length-(zZV s most e act x y n k').1<s.ops.length-q.1/\i=((zZV s most e act x y n k').1:Int)/\F.length=(zZV s most e act x y n k').2.length/\frs F=frs (zZV s most e act x y n k').2:=λhi h0=>⟨k+1,by omega,by rw [hi]; show _=(_:Int); omega,by rw [hi],by rw [hi]⟩
   have w1:wrap .i64 ((q.1:Int)+1)=(q.1:Int)+1:=wQb _ ⟨by omega,by omega⟩;have n1:((q.1:Int)+1).toNat=q.1+1:=by omega
   have pk:∀ {F:List Fr} {o:Oq} {l:List Px},zUL s most F o l x y->AnsG prog 159 1 _ _ _:=λ{F o l} h=>zJU s most e F o l x y h.len hu hI ⟨⟨by omega,by omega⟩,by omega,by omega⟩ h.mask h.src h.oper h.mode h.acc h.back h.ok1 h.ok2;rw [jYA];simp only [zQ5,jXB,zZC,zWu,wQo];rw [w1];refine ⟨⟨by omega,by omega,by rw [zQC]; omega⟩,λh3=>?_,λh3=>?_⟩
   ·have h3:o.kind=3:=wZA h3;obtain ⟨p1,p2⟩:=GP h3;rw [h2 p1];refine ⟨hm,⟨by omega,by omega⟩,hm,⟨by omega,by omega⟩,zKT (topF q.2).acc (topF q.2).back most GF.1 GF.2.1 GF.2.2,pk p2,go (su.trans ?_) (by omega)⟩;unfold jQe;rw [if_pos h3,n1]; rfl
   ·have h3:o.kind≠3:=wXy.1 h3;have hl:=GA h3;have ha:=List.getElem?_eq_getElem hl;have hb:=jUB ha;have hg:=jUA ha;rw [hb];refine ⟨⟨by omega,by omega,by rw [zHP]; exact hl⟩,hg,λhf=>?_,λhf=>?_⟩
    ·rw [hf] at ha;obtain ⟨v,v1,v2,v3⟩:=GS h3 ha;rw [jW3 v1];have hle:q.1<e.length:=by
      rcases wQr q.1 e.length with hh | hh
      ·exact hh
      ·rw [wQO hh] at v1; cases v1
     refine ⟨⟨by omega,by omega,by rw [zQz]; exact hle⟩,jKS v1,?_⟩;have w2:wrap .i64 ((v:Int)+1)=(v:Int)+1:=wQb _ ⟨by omega,by omega⟩;rw [w2];refine go (su.trans ?_) (by omega);unfold jQe;rw [if_neg h3,ha,v1]
     show ((v:Int).toNat+1,q.2)=_
     congr 1
    ·rw [hf] at ha;refine ⟨λh2=>?_,λh2=>?_⟩
     ·have h2:o.kind=2:=wZA h2;refine ⟨zKg s most e q.2 o ⟨by omega,by omega⟩ GF.1 GF.2.1,go (su.trans ?_) (by omega)⟩;unfold jQe;rw [if_neg h3,ha,if_neg (by decide),if_pos h2,n1]
     ·have h2:o.kind≠2:=wXy.1 h2;obtain ⟨d1,d2,⟨d3,d4⟩,d5,d6⟩:=GD h3 h2 ha;have wx:wrap .i64 (x-o.x)=x-o.x:=wQb _ ⟨by omega,by omega⟩;have wy:wrap .i64 (y-o.y)=y-o.y:=wQb _ ⟨by omega,by omega⟩;rw [wx,wy];refine ⟨zXP s most e q.2 o.image (x-o.x) (y-o.y) n d2 hu hn ⟨by omega,by omega⟩,pk d1,go (su.trans ?_) (by omega)⟩;unfold jQe;rw [if_neg h3,ha,if_neg (by decide),if_neg h2,n1]; rfl
  ·have h:s.ops.length<=(zZV s most e act x y n k).1:=by omega
   rw [jWx hG h];obtain ⟨L1,L2,L3⟩:=hG.last;unfold zYA;generalize zYB s most e act x y n=G at *;have r:=jYz (l:=G) (k:=0) (by omega);have a:=jYB (l:=G) (k:=0) (by omega);have tF:G[0]=frN G 0:=by unfold frN; rw [List.getElem?_eq_getElem (by omega)]; rfl
   rw [tF] at r a;simp only [Nat.zero_mul,Nat.zero_add] at r a;obtain ⟨a0,a1,a2,a3,a4,a5,a6,a7,a8,a9,a10,a11,a12,a13⟩:=a;obtain ⟨r0,r1,r2,r3,r4,r5,r6,r7,r8,r9,r10,r11,r12,r13⟩:=r;simp only [a12.1,a12.2,a13.1,a13.2,r12,r13,zWu,zZC];exact ⟨⟨by omega,by omega⟩,trivial,⟨by omega,by omega⟩,trivial,zKT (frN G 0).acc (frN G 0).back most L3.1 L3.2.1 L3.2.2,⟨⟨trivial,trivial⟩,trivial,trivial⟩,trivial⟩
end
def actL (s:Scr) (r:Rc):List Bool:=(zXe s r).1
def zJZ (s:Scr) (m:Int) (e:List Int) (r:Rc) (F:List Fr):Nat->List Fr
 | 0=>F
 | k+1=>zYB s m e (actL s r) r.a (r.b+k) (r.c-r.a)
def zXq (s:Scr) (m:Int) (e:List Int) (r:Rc):Nat->List Px
 | 0=>[]
 | k+1=>zXq s m e r k++zYA s m e (actL s r) r.a (r.b+k) (r.c-r.a)
def zQP (r:Rc):Nat:=(r.d-r.b).toNat
structure zUa (s:Scr) (m:Int) (e:List Int) (r:Rc):Prop where
  row:∀ k:Nat,k<zQP r->zH3 s m e (actL s r) r.a (r.b+k) (r.c-r.a)
  wide:0<=r.c-r.a/\r.c-r.a<=1000
  high:r.d-r.b<=1000
  at_:(-536870912<=r.a/\r.a<=536870912) /\ -536870912<=r.b/\r.d<=536870912
theorem jQI {s:Scr} {m:Int} {e:List Int} {act:List Bool} {x y n:Int} (g:zH3 s m e act x y n):(zYA s m e act x y n).length=n.toNat:=by
 unfold zYA;rw [zUj]; exact g.wide
theorem zJY {s:Scr} {m:Int} {e:List Int} {r:Rc} (h:zUa s m e r):∀ k,k<=zQP r->(zXq s m e r k).length=k*(r.c-r.a).toNat
 | 0,_=>by simp [zXq]
 | k+1,hk=>by
  rw [zXq,wQi,zJY h k (by omega),jQI (h.row k (by omega)),wQn,wXz]
abbrev wYH:=@Nat.add_sub_cancel_left
theorem jKB {s:Scr} {m:Int} {e:List Int} {r:Rc} (h:zUa s m e r):∀ k,k<=zQP r->∀ y x:Nat,y<k->x<(r.c-r.a).toNat->pxN (zXq s m e r k) (y*(r.c-r.a).toNat+x)=pxN (zYA s m e (actL s r) r.a (r.b+y) (r.c-r.a)) x
 | 0,_,y,x,hy,_=>by omega
 | k+1,hk,y,x,hy,hx=>by
  have hl:=zJY h k (by omega);unfold pxN;rw [zXq]
  rcases wQr y k with hlt | hge
  ·have h1:y*(r.c-r.a).toNat+x<k*(r.c-r.a).toNat:=by
    have:(y+1)*(r.c-r.a).toNat<=k*(r.c-r.a).toNat:=wQR _ hlt;rw [wQn,wXz] at this; omega
   rw [wQH (by omega)];exact jKB h k (by omega) y x hlt hx
  ·have:y=k:=by omega
   subst this;rw [wQp (by omega),hl,wYH]
def jJa (s:Scr):Int:=wrap .i64 ((cntS s.c s.tw s.th).1*(cntS s.c s.tw s.th).2.1)
def zXo (s:Scr):List Int:=zXZ s.ord (jJa s)
def zZe (s:Scr):List Rc:=(zXo s).map λi=>(zUt s.c s.tw s.th i).1
end Go.Proofs.YtbnmadpcdlnleaaGreatDoor
