/-
  Part 3 of what TopOneStepIsHalfAUnit rests on.
-/
import Derived.Test.YtbnmadpcdlnleaaGreatDoorTopOneStepIsHalfAUnitZ2
import Derived.RangeFuncCalls
import Derived.RegionIn
namespace Go.Proofs.YtbnmadpcdlnleaaGreatDoor
open Go.IntKind (wrap)
open Go.RowKit
set_option linter.unusedVariables false
set_option linter.unusedSimpArgs false
set_option maxRecDepth 20000
theorem zJt {n m:Int} (hm:0<m):zZb n m=(2*n+m) / (2*m):=by
 unfold zZb;rw [if_neg (by omega)];have e1:=wZh n m;have e2:=wQL n (b:=m) (by omega);have e3:=wQM n hm;generalize n / m=q at *;generalize n%m=r at *;symm;rw [wXv (by omega)];split<;>constructor<;>grind
theorem zZ8 {n k m:Int} (hm:0<m) (h:n<=k):zZb n m<=zZb k m:=by
 rw [zJt hm,zJt hm];exact wXg (by omega) (by omega)
theorem zYb {c m:Int} (hm:0<m):zZb (m*c) m=c:=by
 rw [zJt hm,wXv (by omega)];constructor<;>grind
theorem zYH {n m:Int} (hm:0<m) (h:0<=n):0<=zZb n m:=by
 rw [zJt hm];exact wQs (by omega) (by omega)
theorem zXk {n m k:Int} (hm:0<m) (h:n<=m*k):zZb n m<=k:=by
 have:=zZ8 hm h;rwa [zYb hm] at this
def facA (op a b m:Int):Int:=
 if op=2 then m else if op=3 then 0 else if op=4 then m else if op=5 then m-b else if op=6 then b else if op=7 then 0
 else if op=8 then m-b else if op=9 then 0 else if op=10 then b else if op=11 then m-b else if op=12 then m-b else 0
def facB (op a b m:Int):Int:=
 if op=2 then 0 else if op=3 then m else if op=4 then m-a else if op=5 then m else if op=6 then 0 else if op=7 then a
 else if op=8 then 0 else if op=9 then m-a else if op=10 then m-a else if op=11 then a else if op=12 then m-a else 0
def zXF (op a b m:Int):Int:=zZb (facA op a b m*a+facB op a b m*b) m
def zYz (op f g m:Int):Int:=
 if op=2\/op=8\/op=11 then f
 else if op=3\/op=9\/op=10 then g
 else if op=4\/op=5\/op=12 then zZb (m*f+(m-f)*g) m
 else if op=6\/op=7 then zZb (f*g) m
 else 0
def valS (op mode m s a d b:Int):Ex:=
 let t:=zQi mode s a d b
 ⟨t.p*facA op a b m+(m-b)*s*facA op a b m*t.d+facB op a b m*d*m*t.d,facA op a b m*t.q,t.r,m*m*t.d⟩
def colS (op mode m s a d b:Int):Int:=(valS op mode m s a d b).half
def knoX (mode m s a f c d b:Int):Ex:=
 let t:=zQi mode s a d b
 ⟨t.p+((m-f)*c+(f-a)*d+(m-b)*s)*t.d,t.q,t.r,m*t.d⟩
def knoC (mode m s a f c d b:Int):Int:=(knoX mode m s a f c d b).half
def knoA (m a f acc b:Int):Int:=zZb ((m-f)*acc+(f-a)*b+m*a) m
theorem jK2 {op a b m:Int} (h0:0<=a) (h1:a<=m) (h2:0<=b) (h3:b<=m):(0<=facA op a b m/\facA op a b m<=m)/\0<=facB op a b m/\facB op a b m<=m:=by
 have key:∀ (c:Prop) [Decidable c] (x y:Int),0<=x/\x<=m->0<=y/\y<=m->0<=(if c then x else y)/\(if c then x else y)<=m:=λc _ x y hx hy=>by split<;>assumption
 unfold facA facB;constructor<;>(repeat' (first | apply key | omega))
theorem jXz {op mode m s a d b:Int} (hm:0<m) (h0:0<=s) (h1:s<=a) (h2:a<=m) (h3:0<=d) (h4:d<=b) (h5:b<=m) :
  let x:=valS op mode m s a d b
  let B:=(zQi mode s a d b).d*m*(facA op a b m*a+facB op a b m*b)
  x.ok/\x.p<=B/\x.q*x.q*x.r<=(B-x.p)*(B-x.p):=by
 have hu:=zZk (mode:=mode) h0 h1 h3 h4;have ⟨⟨a0,a1⟩,b0,b1⟩:=jK2 (op:=op) (show 0<=a by omega) h2 (show 0<=b by omega) h5;simp only [valS];generalize facA op a b m=A at *;generalize facB op a b m=F at *;generalize zQi mode s a d b=t at *;obtain ⟨p,q,r,e⟩:=t;obtain ⟨⟨p0,q0,r0,e0⟩,p1,q1⟩:=hu;simp only at *;have n1:0<=p*A:=Int.mul_nonneg p0 a0;have n2:p*A<=(a*b*e)*A:=Int.mul_le_mul_of_nonneg_right p1 a0;have w0:0<=A*e:=Int.mul_nonneg a0 (by omega);have n3:=zQc (x:=(m-b)*s) (y:=A*e) (A:=(m-b)*a) (B:=A*e) (Int.mul_nonneg (by omega) h0) (Int.mul_le_mul_of_nonneg_left h1 (by omega)) w0 (Int.le_refl _);have v0:0<=F*(m*e):=Int.mul_nonneg b0 (Int.mul_nonneg (by omega) (by omega));have n4:=zQc (x:=d) (y:=F*(m*e)) (A:=b) (B:=F*(m*e)) h3 h4 v0 (Int.le_refl _);have e1:(m-b)*s*A*e=(m-b)*s*(A*e):=by grind
 have e2:F*d*m*e=d*(F*(m*e)):=by grind
 have key:e*m*(A*a+F*b)=(a*b*e)*A+(m-b)*a*(A*e)+b*(F*(m*e)):=by grind
 have low:A*(a*b*e-p)<=e*m*(A*a+F*b)-(p*A+(m-b)*s*A*e+F*d*m*e):=by
  rw [key,e1,e2];have:A*(a*b*e-p)=(a*b*e)*A-p*A:=by grind
  omega
 have lp:0<=A*(a*b*e-p):=Int.mul_nonneg a0 (by omega);refine ⟨⟨by simp only; omega,Int.mul_nonneg a0 q0,r0,wZi (wZi hm hm) e0⟩,by omega,?_⟩;have s1:=wQx low low lp (by omega);have s2:(A*A)*(q*q*r)<=(A*A)*((a*b*e-p)*(a*b*e-p)):=Int.mul_le_mul_of_nonneg_left q1 (zQ6 A);have s3:A*q*(A*q)*r=(A*A)*(q*q*r):=by grind
 have s4:A*(a*b*e-p)*(A*(a*b*e-p))=(A*A)*((a*b*e-p)*(a*b*e-p)):=by grind
 rw [s3];exact wZH s2 (by rw [<- s4]; exact s1)
theorem zHK {n m k:Int} (hm:0<m) (hk:0<k):(2*(k*n)+k*m) / (2*(k*m))=(2*n+m) / (2*m):=by
 have e1:2*(k*n)+k*m=k*(2*n+m):=by grind
 have e2:2*(k*m)=k*(2*m):=by grind
 rw [e1,e2,Int.mul_ediv_mul_of_pos _ _ hk]
theorem jXg {op mode m s a d b:Int} (hm:0<m) (h0:0<=s) (h1:s<=a) (h2:a<=m) (h3:0<=d) (h4:d<=b) (h5:b<=m) :
  0<=colS op mode m s a d b/\colS op mode m s a d b<=zXF op a b m:=by
 have ⟨ok,l1,l2⟩:=jXz (op:=op) (mode:=mode) hm h0 h1 h2 h3 h4 h5;have hd:=(zZk (mode:=mode) h0 h1 h3 h4).ok.d;refine ⟨Ex.half_nonneg ok,?_⟩;have:=Ex.half_le ok l1 l2;unfold colS zXF;rw [zJt hm];refine wZH this ?_;have e1:(valS op mode m s a d b).d=(m*(zQi mode s a d b).d)*m:=by simp only [valS]; grind
 rw [e1];have e2:(zQi mode s a d b).d*m*(facA op a b m*a+facB op a b m*b)=(m*(zQi mode s a d b).d)*(facA op a b m*a+facB op a b m*b):=by grind
 rw [e2,zHK hm (wZi hm hd)];exact Int.le_refl _
theorem jYh {mode m s a f c A d b:Int} (hm:0<m) (h0:0<=s) (h1:s<=a) (h2:a<=f) (h2':f<=m) (h3:0<=d) (h4:d<=b) (h5:b<=m) (h6:0<=c) (h7:c<=A) :
  let x:=knoX mode m s a f c d b
  let B:=(zQi mode s a d b).d*((m-f)*A+(f-a)*b+m*a)
  x.ok/\x.p<=B/\x.q*x.q*x.r<=(B-x.p)*(B-x.p):=by
 have hu:=zZk (mode:=mode) h0 h1 h3 h4;simp only [knoX];generalize zQi mode s a d b=t at *;obtain ⟨p,q,r,e⟩:=t;obtain ⟨⟨p0,q0,r0,e0⟩,p1,q1⟩:=hu;simp only at *;have n1:=zQc (x:=m-f) (y:=c) (A:=m-f) (B:=A) (by omega) (Int.le_refl _) h6 h7;have n2:=zQc (x:=f-a) (y:=d) (A:=f-a) (B:=b) (by omega) (Int.le_refl _) h3 h4;have n3:=zQc (x:=m-b) (y:=s) (A:=m-b) (B:=a) (by omega) (Int.le_refl _) h0 h1;have n4:=zQc (x:=(m-f)*c+(f-a)*d+(m-b)*s) (y:=e) (A:=(m-f)*A+(f-a)*b+(m-b)*a) (B:=e) (by omega) (by omega) (by omega) (Int.le_refl _);have key:e*((m-f)*A+(f-a)*b+m*a)=a*b*e+((m-f)*A+(f-a)*b+(m-b)*a)*e:=by grind
 have low:a*b*e-p<=e*((m-f)*A+(f-a)*b+m*a)-(p+((m-f)*c+(f-a)*d+(m-b)*s)*e):=by omega
 refine ⟨⟨by simp only; omega,q0,r0,wZi hm e0⟩,by omega,?_⟩;exact wZH q1 (wQx low low (by omega) (by omega))
theorem jZZ {mode m s a f c A d b:Int} (hm:0<m) (h0:0<=s) (h1:s<=a) (h2:a<=f) (h2':f<=m) (h3:0<=d) (h4:d<=b) (h5:b<=m) (h6:0<=c) (h7:c<=A) :
  0<=knoC mode m s a f c d b/\knoC mode m s a f c d b<=knoA m a f A b:=by
 have ⟨ok,l1,l2⟩:=jYh (mode:=mode) hm h0 h1 h2 h2' h3 h4 h5 h6 h7;have hd:=(zZk (mode:=mode) h0 h1 h3 h4).ok.d;refine ⟨Ex.half_nonneg ok,?_⟩;have:=Ex.half_le ok l1 l2;unfold knoC knoA;rw [zJt hm];refine wZH this ?_;have e1:(knoX mode m s a f c d b).d=(zQi mode s a d b).d*m:=by simp only [knoX]; grind
 rw [e1,zHK hm hd];exact Int.le_refl _
theorem jZ0 {m a f acc b:Int} (hm:0<m) (h0:0<=a) (h1:a<=f) (h2:f<=m) (h3:0<=acc) (h4:acc<=m) (h5:0<=b) (h6:b<=m):0<=knoA m a f acc b/\knoA m a f acc b<=m:=by
 have n1:=zQc (x:=m-f) (y:=acc) (A:=m-f) (B:=m) (by omega) (Int.le_refl _) h3 h4;have n2:=zQc (x:=f-a) (y:=b) (A:=f-a) (B:=m) (by omega) (Int.le_refl _) h5 h6;have n3:=Int.mul_nonneg (show 0<=m by omega) h0;refine ⟨zYH hm (by omega),zXk hm ?_⟩;have:m*m=(m-f)*m+(f-a)*m+m*a:=by grind
 omega
theorem zHY {op a b m:Int} (hm:0<m) (h0:0<=a) (h1:a<=m) (h2:0<=b) (h3:b<=m):0<=zXF op a b m:=by
 have ⟨⟨a0,a1⟩,b0,b1⟩:=jK2 (op:=op) h0 h1 h2 h3;have:=Int.mul_nonneg a0 h0;have:=Int.mul_nonneg b0 h2;exact zYH hm (by omega)
theorem zX1 {op a f b g m:Int} (hm:0<m) (h0:0<=a) (h1:a<=f) (h2:f<=m) (h3:0<=b) (h4:b<=g) (h5:g<=m):zXF op a b m<=zYz op f g m/\zYz op f g m<=m:=by
 have n1:=zQc (x:=m-f) (y:=m-g) (A:=m) (B:=m) (by omega) (by omega) (by omega) (by omega);have n2:=zQc (x:=m-a) (y:=m-b) (A:=m) (B:=m) (by omega) (by omega) (by omega) (by omega);have n3:=zQc h0 h1 h3 h4;have n4:=Int.mul_nonneg (show 0<=f-a by omega) (show 0<=m-g by omega);have n5:=Int.mul_nonneg (show 0<=g-b by omega) (show 0<=m-a by omega);have n6:=Int.mul_nonneg h0 h3;have n7:=zQc (x:=f) (y:=g) (A:=f) (B:=m) (by omega) (Int.le_refl _) (by omega) h5;have e1:m*f+(m-f)*g=m*m-(m-f)*(m-g):=by grind
 have e2:m*f+(m-f)*g=m*a+(m-a)*b+(f-a)*(m-g)+(g-b)*(m-a):=by grind
 have cz:0<=m:=by omega
 unfold zXF zYz facA facB;by_cases c1:op=2
 ·subst c1; simp only [if_true,true_or,if_pos];exact ⟨zXk hm (by have:=Int.mul_le_mul_of_nonneg_left h1 cz; grind),h2⟩
 by_cases c2:op=3
 ·subst c2; simp;exact ⟨zXk hm (by have:=Int.mul_le_mul_of_nonneg_left h4 cz; grind),h5⟩
 by_cases c3:op=4
 ·subst c3; simp;exact ⟨zZ8 hm (by omega),zXk hm (by omega)⟩
 by_cases c4:op=5
 ·subst c4; simp;exact ⟨zZ8 hm (by grind),zXk hm (by omega)⟩
 by_cases c5:op=6
 ·subst c5; simp;exact ⟨zZ8 hm (by grind),zXk hm (by have:=Int.mul_le_mul_of_nonneg_right h2 (show 0<=m by omega); omega)⟩
 by_cases c6:op=7
 ·subst c6; simp;exact ⟨zZ8 hm (by grind),zXk hm (by have:=Int.mul_le_mul_of_nonneg_right h2 (show 0<=m by omega); omega)⟩
 by_cases c7:op=8
 ·subst c7; simp;exact ⟨zXk hm (by have:=Int.mul_le_mul_of_nonneg_left h1 cz; grind),h2⟩
 by_cases c8:op=9
 ·subst c8; simp;exact ⟨zXk hm (by have:=Int.mul_le_mul_of_nonneg_left h4 cz; grind),h5⟩
 by_cases c9:op=10
 ·subst c9; simp;exact ⟨zXk hm (by have:=Int.mul_le_mul_of_nonneg_left h4 cz; grind),h5⟩
 by_cases c10:op=11
 ·subst c10; simp;exact ⟨zXk hm (by have:=Int.mul_le_mul_of_nonneg_left h1 cz; grind),h2⟩
 by_cases c11:op=12
 ·subst c11; simp;exact ⟨zZ8 hm (by grind),zXk hm (by omega)⟩
 ·simp only [if_neg c1,if_neg c2,if_neg c3,if_neg c4,if_neg c5,if_neg c6,if_neg c7,if_neg c8,if_neg c9,if_neg c10,if_neg c11,c1,c2,c3,c4,c5,c6,c7,c8,c9,c10,c11,or_self];simp [zZb];omega
def atS (l:List Int) (i:Int):Int:=if i<0 then 0 else (l[i.toNat]?).getD 0
def upto (n:Nat):List Int:=(List.range n).map Int.ofNat
theorem zWq (n:Nat):(upto n).length=n:=by simp [upto]
theorem jV5 (n:Nat):upto (n+1)=upto n++[(n:Int)]:=by simp [upto,wXP]
def stp (l:List Int) (n:Nat):Nat->List Int × List Int
 | 0=>(upto n,[])
 | i+1=>
  let s:=stp l n i
  let k:=(modS (atS l i) s.1.length).toNat
  (s.1.take k++s.1.drop (k+1),s.2++[(s.1[k]?).getD 0])
theorem jHM (l:List Int) (k:Nat):(is l).take k=is (l.take k):=by simp [is,List.map_take]
theorem jHN (l:List Int) (k:Nat):(is l).drop k=is (l.drop k):=by simp [is,List.map_drop]
theorem zK6 (l m:List Int):is l++is m=is (l++m):=by simp [is]
theorem jUp {k N:Nat} (h:k<N):(is (upto k)++List.replicate (N-k) (DV.int .i64 0)).set k (.int .i64 k)=is (upto (k+1))++List.replicate (N-(k+1)) (DV.int .i64 0):=by
 have hl:(is (upto k)).length=k:=by rw [zQz,zWq]
 rw [List.set_append_right _ _ (by omega),hl,wZg,show N-k=(N-(k+1))+1 by omega,wZF,wXQ,jV5,<- zK6];simp [is]
def zJX (l:List Int) (n:Int):List Int:=if l.length=0\/64<n then [] else (stp l n.toNat n.toNat).2
theorem jJI {v:Int} {m:Nat} (hm:1<=m) (hm':m<=1000000):0<=modS v m/\(modS v m).toNat<m:=by
 rw [jWW (by omega) (by omega)];have:=wQL v (show (m:Int)≠0 by omega);have:=wQM v (show 0<(m:Int) by omega);omega
theorem zGG (l:List Int) {n:Nat} (hn:n<=64):∀ i,i<=n->(stp l n i).1.length=n-i/\(stp l n i).2.length=i
 | 0,_=>by simp [stp,zWq]
 | i+1,h=>by
  obtain ⟨h1,h2⟩:=zGG l hn i (by omega);have hk:=jJI (v:=atS l i) (m:=(stp l n i).1.length) (by omega) (by omega);simp only [stp,wQi,wQm,wZG,wQJ,wZq];omega
abbrev wZS:=@List.drop_eq_getElem_cons
theorem jKk (l:List Int) {n:Nat} (hn:n<=64):∀ i,i<=n->((stp l n i).2++(stp l n i).1).Perm (upto n)
 | 0,_=>by simp [stp]
 | i+1,h=>by
  obtain ⟨h1,h2⟩:=zGG l hn i (by omega);have hk:=jJI (v:=atS l i) (m:=(stp l n i).1.length) (by omega) (by omega);have ih:=jKk l hn i (by omega);simp only [stp];generalize (stp l n i).1=r at *;generalize (stp l n i).2=o at *;generalize (modS (atS l i) r.length).toNat=k at *;have e:r=r.take k++r[k]::r.drop (k+1):=by rw [<- wZS hk.2,wZy]
  rw [List.getElem?_eq_getElem hk.2,wQF,List.append_assoc];refine List.Perm.trans ?_ ih;refine List.Perm.append_left o ?_
  conv=>rhs; rw [e]
  simp only [List.singleton_append];exact List.perm_middle.symm
theorem jVy {l:List Int} {n:Int} (h:l.length≠0) (hn:n<=64):(zJX l n).Perm (upto n.toNat):=by
 have h1:=jKk l (n:=n.toNat) (by omega) n.toNat (Nat.le_refl _);have h2:=zGG l (n:=n.toNat) (by omega) n.toNat (Nat.le_refl _);have e:(stp l n.toNat n.toNat).1=[]:=List.eq_nil_of_length_eq_zero (by omega);rw [e,wQW] at h1;unfold zJX;rw [if_neg (by omega)];exact h1
def seqL (l:List Int) (n:Int):List Int:=if l.length=0 then upto n.toNat else l
def zK9 (s:List Int) (n:Int):Prop:=(∀ v∈s,0<=v/\v<n)/\s.Nodup
instance (s:List Int) (n:Int):Decidable (zK9 s n):=by unfold zK9; infer_instance
def zZQ (l:List Int) (n:Int):Bool:=decide (0<=n)&&decide (n<=16777216)&&(decide (l.length=0) || decide ((l.length:Int)=n))&&decide (zK9 (seqL l n) n)
def zXZ (l:List Int) (n:Int):List Int:=if zZQ l n then seqL l n else []
def zKd (s:List Int) (N:Nat):List DV:=(List.range N).map λv=>.bool (s.contains (Int.ofNat v))
theorem zGL (s:List Int) (N:Nat):(zKd s N).length=N:=by simp [zKd]
theorem jKn (s:List Int) {N:Nat} {v:Int} (h0:0<=v) (h1:v<N):(zKd s N)[v.toNat]?=some (.bool (s.contains v)):=by
 have e:Int.ofNat v.toNat=v:=by simp; omega
 simp only [zKd,wQN,wZP (show v.toNat<N by omega),wQt,e]
theorem jWr (s:List Int) {N:Nat} {v:Int} (h0:0<=v) (h1:v<N):bAt (zKd s N) v.toNat=s.contains v:=by
 simp only [bAt,jKn s h0 h1]
theorem jWq (s:List Int) {N:Nat} {v:Int} (h0:0<=v):(zKd s N).set v.toNat (.bool true)=zKd (s++[v]) N:=by
 apply wZY;intro i;rw [wX4];by_cases hi:i<N
 ·simp only [zKd,wQu,wZu,wQN,wZP hi,wQt];by_cases e:v.toNat=i
  ·have e2:Int.ofNat i=v:=by simp; omega
   rw [if_pos e,if_pos (by omega),e2];simp
  ·have e2:¬ Int.ofNat i=v:=by simp; omega
   rw [if_neg e];congr 2;rw [wYd];simp only [List.contains_iff_mem,List.mem_append,wQj,e2,or_false]
 ·have n1:∀ t:List Int,(zKd t N)[i]?=none:=λt=>wQO (by rw [zGL]; omega);rw [n1,n1];split
  ·split
   ·rw [zGL] at *; omega
   ·rfl
  ·rfl
theorem zKR {S:List Int} {k:Nat} (hk:k<S.length):S.take (k+1)=S.take k++[S[k]]:=by
 rw [wZf,List.getElem?_eq_getElem hk,wYc]
theorem jUd {S:List Int} {m:Int} {k:Nat} (hk:k<S.length) (hg:zK9 (S.take k) m) (h0:0<=S[k]) (h1:S[k]<m) (hc:(S.take k).contains S[k]=false):zK9 (S.take (k+1)) m:=by
 rw [zKR hk];refine ⟨λv hv=>?_,?_⟩
 ·rcases List.mem_append.1 hv with hv | hv
  ·exact hg.1 v hv
  ·rw [wQj.1 hv]; exact ⟨h0,h1⟩
 ·rw [wX8];refine ⟨hg.2,by simp,λa ha b hb e=>?_⟩;rw [wQj] at hb;subst hb e;have:(S.take k).contains S[k]=true:=by simpa using ha
  rw [hc] at this; cases this
theorem jUH {S:List Int} {m:Int} {k:Nat} (hk:k<S.length) (h:S[k]<0\/m<=S[k]\/(S.take k).contains S[k]=true):¬ zK9 S m:=by
 rintro ⟨g1,g2⟩;have:=g1 S[k] (List.getElem_mem hk)
 rcases h with h | h | h
 ·omega
 ·omega
 ·have hm:S[k]∈S.take k:=by simpa using h
  have e:S=S.take (k+1)++S.drop (k+1):=(wZy _ _).symm;rw [e,zKR hk,List.append_assoc,wX8] at g2;exact g2.2.2 _ hm _ (List.mem_append_left _ (wQj.2 rfl)) rfl
theorem jX5 {S:List Int} {m:Int} {k:Nat} (h0:0<=m) (hM:m<=16777216) (hS:S.length=m.toNat) (hk:k<S.length) (hg:zK9 (S.take k) m) {v:Int} (hv:v=S[k]) {Bad:Prop} (hBad:¬ zK9 S m->Bad) :
  (¬ v<0->(¬ v>=m->(0<=v/\v<(m.toNat:Int))/\(zKd (S.take k) m.toNat)[v.toNat*1]?=some (.bool (bAt (zKd (S.take k) m.toNat) (v.toNat*1))) /\
   (bAt (zKd (S.take k) m.toNat) (v.toNat*1)=true->Bad) /\
   (bAt (zKd (S.take k) m.toNat) (v.toNat*1)=false->(0<=v/\v<(m.toNat:Int))/\v.toNat*1+1<=(zKd (S.take k) m.toNat).length/\zZ2 1 8 k 1 (is (S.take k)) [.int .i64 v] /\
    ∃ k':Nat,(k'<=m.toNat/\zK9 (S.take k') m)/\m.toNat-k'<m.toNat-k/\(k+1=k'/\wrap .i64 ((k:Int)+1)=(k':Int))/\(zKd (S.take k) m.toNat).set (v.toNat*1) (.bool true)=zKd (S.take k') m.toNat/\is (S.take k)++[.int .i64 v]=is (S.take k'))) /\
   (v>=m->Bad))/\(v<0->Bad):=by
 subst hv;refine ⟨λa=>⟨λb=>?_,λb=>hBad (jUH hk (.inr (.inl b)))⟩,λa=>hBad (jUH hk (.inl a))⟩;have hlt:S[k]<(m.toNat:Int):=by omega
 simp only [wQo,jWr (S.take k) (show 0<=S[k] by omega) hlt,jKn (S.take k) (show 0<=S[k] by omega) hlt,jWq (S.take k) (show 0<=S[k] by omega),zGL];refine ⟨⟨by omega,hlt⟩,trivial,λc=>hBad (jUH hk (.inr (.inr c))),λc=>⟨⟨by omega,hlt⟩,by omega,⟨?_,rfl,by unfold maxLen; omega,by omega⟩,k+1,⟨by omega,jUd hk hg (by omega) (by omega) c⟩,by omega,⟨rfl,?_⟩,by rw [zKR hk],by rw [zKR hk,<- zK6]; rfl⟩⟩
 ·rw [zQz,wQm]; omega
 ·rw [wQb _ ⟨by omega,by omega⟩]; omega
theorem jZs {l:List Int} {m:Int} (h:l.length=0\/(l.length:Int)=m):(seqL l m).length=m.toNat:=by
 unfold seqL;split
 ·exact zWq _
 ·rcases h with h | h<;>omega
theorem jZI {l:List Int} {m:Int} (h0:0<=m) (hM:m<=16777216) (h:l.length=0\/(l.length:Int)=m) (hg:zK9 (seqL l m) m):zZQ l m=true/\zXZ l m=seqL l m:=by
 have e:zZQ l m=true:=by simp [zZQ,h0,hM,hg]; rcases h with h | h<;>simp_all
 exact ⟨e,by simp [zXZ,e]⟩
theorem jX6 {l:List Int} {m:Int} (h:m<0\/16777216<m\/(l.length≠0/\(l.length:Int)≠m)\/¬ zK9 (seqL l m) m):zZQ l m=false/\zXZ l m=[]:=by
 have e:zZQ l m=false:=by
  cases ho:zZQ l m with
  | false=>rfl
  | true=>
   simp only [zZQ,wQf,wZW,wQh] at ho;obtain ⟨⟨⟨a,b⟩,c⟩,d⟩:=ho
   rcases h with h | h | h | h
   ·omega
   ·omega
   ·rcases c with c | c
    ·exact absurd c h.1
    ·exact absurd c h.2
   ·exact absurd d h
 exact ⟨e,by simp [zXZ,e]⟩
def zVb (S:List Int) (k:Nat):List DV:=is (S.take k)++List.replicate (S.length-k) (DV.int .i64 0)
theorem zWZ {S:List Int} {k:Nat} (h:k<=S.length):(zVb S k).length=S.length:=by
 unfold zVb;rw [wQi,zQz,wQm,wXr]; omega
theorem jYI {S:List Int} {k:Nat} (h:k<S.length) {v:Int} (hv:v=S[k]):(zVb S k).set k (.int .i64 v)=zVb S (k+1):=by
 subst hv;have hl:(is (S.take k)).length=k:=by rw [zQz,wQm]; omega
 unfold zVb;rw [List.set_append_right _ _ (by omega),hl,wZg,show S.length-k=(S.length-(k+1))+1 by omega,wZF,wXQ,zKR h,<- zK6];simp [is]
theorem jXb {S:List Int} {k:Nat} (h:k<S.length):(zVb S (k+1))[k]?=some (.int .i64 S[k]):=by
 unfold zVb;have hl:k<(S.take (k+1)).length:=by rw [wQm]; omega
 rw [wQH (by rw [zQz]; exact hl),jJM hl];simp
theorem jYJ {S:List Int} {k:Nat} (h:k<S.length):nAt (zVb S (k+1)) k=S[k]:=by simp only [nAt,jXb h]
theorem jYK (S:List Int):zVb S S.length=is S:=by simp [zVb]
theorem jHc {n:Nat} {xs:List DV} (hn:xs.length=n) (hx:∀ (j:Nat) d,xs[j]?=some d->∃ v,d=.int .i64 v):xs=is (ints xs)/\n=xs.length:=by
 refine ⟨?_,hn.symm⟩;clear hn
 induction xs with
 | nil=>rfl
 | cons x xs ih=>
  obtain ⟨v,rfl⟩:=hx 0 _ rfl;have:=ih λj d hj=>hx (j+1) d hj;simp only [is,ints,wQg] at this |-;rw [<- this]
theorem zHz {n:Int} (h:0<=n):zK9 (upto n.toNat) n:=by
 refine ⟨λv hv=>?_,?_⟩
 ·simp only [upto,wQv,wQw] at hv;obtain ⟨i,hi,rfl⟩:=hv;simp; omega
 ·exact List.Pairwise.map Int.ofNat (λa b hab e=>hab (Int.ofNat.inj e)) List.nodup_range
theorem jUe {s t:List Int} {n:Int} (hp:s.Perm t) (h:zK9 t n):zK9 s n:=
 ⟨λv hv=>h.1 v (hp.mem_iff.1 hv),hp.nodup_iff.2 h.2⟩
theorem jHD {l:List Int} {n:Int} (h0:0<=n) (h1:n<=64):zZQ (zJX l n) n=true/\zXZ (zJX l n) n=seqL (zJX l n) n:=by
 by_cases hl:l.length=0
 ·have e:zJX l n=[]:=by simp [zJX,hl]
  rw [e];exact jZI h0 (by omega) (.inl rfl) (by simpa [seqL] using zHz h0)
 ·have hp:=jVy hl h1;have hlen:=hp.length_eq;rw [zWq] at hlen;refine jZI h0 (by omega) (.inr (by omega)) ?_;unfold seqL;split
  ·exact zHz h0
  ·exact jUe hp (zHz h0)
structure Oq where
  kind:Int
  image:Int
  x:Int
  y:Int
  mask:Int
  mx:Int
  my:Int
  opac:Int
  oper:Int
  mode:Int
  iso:Bool
  kno:Bool
deriving DecidableEq
def popO:Oq:=⟨3,0,0,0,0,0,0,0,0,0,false,false⟩
def Oq.fields (o:Oq):Bool:=
 if o.kind=3 then decide (o=popO)
 else !(decide (o.kind=1)&&(o.iso || o.kno)) && !(decide (o.kind=2)&&decide (o.image≠0\/o.x≠0\/o.y≠0))&&decide (o.mask≠0\/o.mx=0/\o.my=0)
def Oq.spare (o:Oq):Bool:=
 if o.kind=3 then !decide (o=popO)
 else if o.kind=1 then o.iso || o.kno || decide (o.mask=0/\(o.mx≠0\/o.my≠0))
 else decide (o.image≠0\/o.x≠0\/o.y≠0) || decide (o.mask=0/\(o.mx≠0\/o.my≠0))
theorem Oq.spare_fields {o:Oq} (h:o.kind=1\/o.kind=2\/o.kind=3):o.spare=!o.fields:=by
 rcases h with h | h | h<;>simp only [Oq.spare,Oq.fields,h]<;>cases o.iso<;>cases o.kno<;>by_cases h1:o.image=0<;>by_cases h2:o.x=0<;>by_cases h3:o.y=0<;>by_cases h4:o.mask=0<;>by_cases h5:o.mx=0<;>by_cases h6:o.my=0<;>simp [h1,h2,h3,h4,h5,h6]
def zXr (v:Int):Bool:=decide (-1048576<=v/\v<=1048576)
def Oq.cells (o:Oq):List DV:=[.int .i64 o.kind,.int .i64 o.image,.int .i64 o.x,.int .i64 o.y,.int .i64 o.mask,.int .i64 o.mx,.int .i64 o.my,.int .u16 o.opac,.int .i64 o.oper,.int .i64 o.mode,.bool o.iso,.bool o.kno]
def oqAt (xs:List DV) (i:Nat):Oq:=⟨nAt xs i,nAt xs (i+1),nAt xs (i+2),nAt xs (i+3),nAt xs (i+4),nAt xs (i+5),nAt xs (i+6),nAt xs (i+7),nAt xs (i+8),nAt xs (i+9),bAt xs (i+10),bAt xs (i+11)⟩
def ops (l:List Oq):List DV:=l.flatMap Oq.cells
theorem zQC (l:List Oq):(ops l).length=l.length*12:=by
 induction l with
 | nil=>rfl
 | cons o l ih=>simp only [ops,wQZ,wQi,wQJ] at ih |-; rw [ih]; simp [Oq.cells]; omega
theorem zY0 (l m:List Oq):ops (l++m)=ops l++ops m:=by simp [ops]
abbrev wXR:=@List.getElem_cons_zero
theorem zHb {l:List Oq} {k:Nat} (h:k<l.length) (j:Nat) (hj:j<12):(ops l)[k*12+j]?=l[k].cells[j]?:=by
 induction l generalizing k with
 | nil=>simp at h
 | cons o l ih=>
  have e:ops (o::l)=o.cells++ops l:=by simp [ops]
  rw [e]
  cases k with
  | zero=>simp only [wXR]; rw [wQH (by simp [Oq.cells]; omega)]; simp
  | succ k=>
   rw [wQp (by simp [Oq.cells]; omega)];have:=ih (k:=k) (by simpa using h);simp only [wZt];rw [<- this];congr 1;simp [Oq.cells]; omega
theorem zKD {l:List Oq} {k:Nat} (h:k<l.length):(ops l)[k*12]?=some (.int .i64 l[k].kind)/\(ops l)[k*12+1]?=some (.int .i64 l[k].image)/\(ops l)[k*12+1+1]?=some (.int .i64 l[k].x)/\(ops l)[k*12+1+1+1]?=some (.int .i64 l[k].y)/\(ops l)[k*12+1+1+1+1]?=some (.int .i64 l[k].mask)/\(ops l)[k*12+1+1+1+1+1]?=some (.int .i64 l[k].mx)/\(ops l)[k*12+1+1+1+1+1+1]?=some (.int .i64 l[k].my)/\(ops l)[k*12+1+1+1+1+1+1+1]?=some (.int .u16 l[k].opac)/\(ops l)[k*12+1+1+1+1+1+1+1+1]?=some (.int .i64 l[k].oper)/\(ops l)[k*12+1+1+1+1+1+1+1+1+1]?=some (.int .i64 l[k].mode)/\(ops l)[k*12+1+1+1+1+1+1+1+1+1+1]?=some (.bool l[k].iso)/\(ops l)[k*12+1+1+1+1+1+1+1+1+1+1+1]?=some (.bool l[k].kno):=by
 have g:=λj hj=>zHb h j hj;refine ⟨g 0 (by omega),g 1 (by omega),g 2 (by omega),g 3 (by omega),g 4 (by omega),g 5 (by omega),g 6 (by omega),g 7 (by omega),g 8 (by omega),g 9 (by omega),g 10 (by omega),g 11 (by omega)⟩
theorem zKE {l:List Oq} {k:Nat} (h:k<l.length):nAt (ops l) (k*12)=l[k].kind/\nAt (ops l) (k*12+1)=l[k].image/\nAt (ops l) (k*12+1+1)=l[k].x/\nAt (ops l) (k*12+1+1+1)=l[k].y/\nAt (ops l) (k*12+1+1+1+1)=l[k].mask/\nAt (ops l) (k*12+1+1+1+1+1)=l[k].mx/\nAt (ops l) (k*12+1+1+1+1+1+1)=l[k].my/\nAt (ops l) (k*12+1+1+1+1+1+1+1)=l[k].opac/\nAt (ops l) (k*12+1+1+1+1+1+1+1+1)=l[k].oper/\nAt (ops l) (k*12+1+1+1+1+1+1+1+1+1)=l[k].mode/\bAt (ops l) (k*12+1+1+1+1+1+1+1+1+1+1)=l[k].iso/\bAt (ops l) (k*12+1+1+1+1+1+1+1+1+1+1+1)=l[k].kno:=by
 obtain ⟨e0,e1,e2,e3,e4,e5,e6,e7,e8,e9,e10,e11⟩:=zKD h;simp only [nAt,bAt,e0,e1,e2,e3,e4,e5,e6,e7,e8,e9,e10,e11,and_self]
theorem jGa {l:List Oq} {k:Nat} (h:k<l.length):oqAt (ops l) (k*12)=l[k]:=by
 obtain ⟨e0,e1,e2,e3,e4,e5,e6,e7,e8,e9,e10,e11⟩:=zKE h;simp only [oqAt,show k*12+2=k*12+1+1 from rfl,show k*12+3=k*12+1+1+1 from rfl,show k*12+4=k*12+1+1+1+1 from rfl,show k*12+5=k*12+1+1+1+1+1 from rfl,show k*12+6=k*12+1+1+1+1+1+1 from rfl,show k*12+7=k*12+1+1+1+1+1+1+1 from rfl,show k*12+8=k*12+1+1+1+1+1+1+1+1 from rfl,show k*12+9=k*12+1+1+1+1+1+1+1+1+1 from rfl,show k*12+10=k*12+1+1+1+1+1+1+1+1+1+1 from rfl,show k*12+11=k*12+1+1+1+1+1+1+1+1+1+1+1 from rfl,e0,e1,e2,e3,e4,e5,e6,e7,e8,e9,e10,e11]
def zQl (xs:List DV):List Oq:=(List.range (xs.length / 12)).map λk=>oqAt xs (k*12)
abbrev wZj:=@List.getElem_range
theorem zQw (l:List Oq):zQl (ops l)=l:=by
 have e:(ops l).length / 12=l.length:=by rw [zQC]; omega
 unfold zQl;rw [e];refine wQ1 (by simp) λi h1 h2=>?_;simp only [List.getElem_map,wZj];exact jGa h2
def ctxB (l:List Oq):Bool:=match l.getLast? with
 | none=>true
 | some o=>o.iso && !o.kno
open Go.Proofs.Tryz (prog)
section
attribute [local irreducible] Ans AnsO AnsG AnsN AnsI
theorem jGz (e n:Nat) (b:Bool) (l:List Int):zZu ⟨.tup [.one (.ref 0 n),.one (.d (.bool b))],[.row e 1 (is l)],true⟩=True:=by
 simp only [zZu,AV.flatV,AV.flatVL,Cl.flatV,DV.flat,Bx.flatVL,Bx.flatV,true_and,and_true,eq_iff_iff,iff_true];intro d hd;obtain ⟨i,_,rfl⟩:=wQv.1 hd;rfl
def gamO:Gam:=gamB.add [.p 28 (λ| [.d (.sl n xs),.d (.int _ i)]=>some (rJ (atS (ints xs) i)) | _=>none),
 .p 31 (λ| []=>some (RV.tup [RV.tup [rJ 3,rJ 1]]) | [.d (.sl n xs),.d (.int _ m)]=>some (RV.d (dS (zJX (ints xs) m).length (is (zJX (ints xs) m)))) | _=>none),
 .q 79 ([true,true],0,1) (λ| [AV.one (Cl.d (DV.sl n xs)),AV.one (Cl.d (DV.int _ m))],[]=>some ⟨AV.tup [AV.one (Cl.ref 0 (zXZ (ints xs) m).length),AV.one (Cl.d (dQ (zZQ (ints xs) m)))],[Bx.row 3 1 (is (zXZ (ints xs) m))],true⟩ | _,_=>none)]
def lS (a:Int) (b c:Nat) (d:List DV):Prop:=0<=a/\a<(b:Int)/\aY a c<List.length d
def cZ (a b c:Prop):Prop:=True/\a/\b/\True/\c
def jR (a:List DV) (b:Int) (c:Nat):Prop:=a[aY b c]?=some (DV.int IntKind.i64 (nAt a (aY b c)))
def lU (a:Int):Prop:=mN a 0 false
def tH (a b c d:Prop):Prop:=bY a b (c->True/\True/\d)
def aAD (a:Int):Prop:=decide (a<0)=false
theorem jG1 (n:Nat) (xs:List DV) (i:Int) (hx:xs=is (ints xs)/\n=xs.length):Ans prog 28 [rD (dS n xs),rJ (i)] (rJ ((atS (ints xs) i))):=
 zQa (Γ:=gamO) aL zQb Tryz.func28 rfl (nL rfl) λhwf=>by
  refine Eq.mpr (by kernel_rfl:_=(let a:=cA 0 (atS (ints xs) i);True/\tH (aAD i) (jS i (n:Int) a (fK i (n:Int) (cZ (lS i n 1 xs) (aZ (jR xs i 1)) (cA (nAt xs (aY i 1)) (atS (ints xs) i))))) (lU i) a)) ?_;delta eS aY bY mN fK aZ lS jS cZ cA jR lU tH aAD;simp only [sS,zQh];obtain ⟨hx,rfl⟩:=hx;generalize hl:ints xs=l at *;subst hx;simp only [zQz,wQo];refine ⟨λh1=>⟨λh2=>?_,λh2=>?_⟩,λh1=>by simp [atS,h1]⟩
  ·have:l[i.toNat]?=none:=wQO (by omega);simp [atS,h1,this]
  ·have h:i.toNat<l.length:=by omega
   refine ⟨by omega,?_,?_⟩
   ·rw [zHh h]; exact jJM h
   ·rw [zHh h]; simp [atS,h1,List.getElem?_eq_getElem h]
def kP (a:Nat) (b:DV) (c:List (Nat × AV)):List (Nat × AV):=xW a (Cl.d b) c
def aIQ (a b c:Nat) (d:List DV):Nat × Bx:=(a,Bx.row b c d)
def kQ (a:Int) (b:Nat):Nat:=Int.toNat a-b
def jF (a:Nat) (b:Int):Prop:=a<=Int.toNat b
def mE (a b c d:Nat) (e:Cl) (f:List (Nat × AV)):List (Nat × AV):=aHA a (Cl.ref b c) d e f
def vP (a b:Ann):Ann:=Ann.seq (cT a) b
def oE (a:List (Nat × AV)) (b c d:Nat) (e:List DV) (f:List (Nat × Bx)):Snap:=aIO a (aIQ b c d e) f
def tO (a:Nat) (b:DV) (c:Nat) (d:Int) (e:List (Nat × AV)):List (Nat × AV):=zL a b c (bO d) e
def tN (a b c d e:Nat) (f:List (Nat × AV)):List (Nat × AV):=mE a b c d (yG e) f
def vQ (a:Ann):Ann:=cT (dZ a)
def aK (a b:Prop):Prop:=True/\a/\True/\True/\b
def jE (a:FuncId) (b c:Int) (e:List RV) (f:Int):Prop:=Ans prog a (RV.d (DV.int IntKind.i64 b)::RV.d (DV.int IntKind.i64 c)::e) (RV.d (DV.int IntKind.i64 f))
def dX (a b c:Prop):Prop:=a->True/\True/\True/\b/\c
def mA (a:Int):Prop:=(a==0)=false
def bG (a:Int):Prop:=eS (DV.int IntKind.i64 a)
def qX (a b c:Prop):Prop:=a->True/\True/\b/\c
def vO (a b:Int) (c:List RV):Prop:=jE 27 a b c (modS a b)
def gO (a:Int) (b:Nat):Prop:=0<=a/\a<(b:Int)
def gL (a:Nat) (b:List DV):Prop:=a<=List.length b
def nJ (a b:Int) (c:Prop):Prop:=decide (a>b)=false->True/\c
def gF (a b:Nat):Nat:=aT a b+1
def aAH (a:Int) (b:DV) (c:List DV):Prop:=List.replicate (Int.toNat a) b=c
def vR (a b:Int):Prop:=gO a (Int.toNat b)
def mH (a:Nat) (b:List Int):Prop:=a=List.length b
def pN (a:Int) (b:Nat) (c:List DV):List DV:=List.take (aY a b) c
def iW (a:Prop):Prop:=aM (eS true) a
def yH (a:Int):Prop:=eS (Int.toNat a)
def yI (a:Int) (b c:Nat):Prop:=kQ a b<kQ a c
def mF (a:Int) (b:Nat):Prop:=0<=a/\a<=a/\a<=(maxLen:Int)/\(b:Int)*a<=281474976710656
def nE (a b:Int):Prop:=decide (a>b)=true
def aAG (a:Nat):Bool:=(a:Int)==0
def qY (a:Int):List RV:=[RV.d (DV.int IntKind.i64 a)]
theorem zUM (n:Nat) (xs:List DV) (m:Int) (hx:xs=is (ints xs)/\n=xs.length) (hm:0<=m):AnsO prog 31 [rD (dS n xs),rJ (m)] 3 1 ((zJX (ints xs) m).length) (is (zJX (ints xs) m)):=
 zVW (t:=4) (Γ:=gamO) (vQ (vP (Ann.loop (Inv.mk Nat (λ(e:Nat)=>jF e m) (λ(b:Nat)=>oE (tO 0 (DV.sl n xs) 1 m (tN 5 1005 (Int.toNat m) 6 b [])) 1005 3 1 (is (upto b)++List.replicate (kQ m b) (DV.int IntKind.i64 0)) []) (λ(d:Nat)=>kQ m d)) (λ(f:Nat)=>aL)) (pM (Ann.loop (Inv.mk Nat (λ(e:Nat)=>jF e m) (λ(a:Nat)=>let c:=stp (ints xs) (Int.toNat m) a;oE (tO 0 (DV.sl n xs) 1 m (kP 5 (DV.sl (kQ m a) (is c.fst)) (mE 7 1007 a 8 (yG a) []))) 1007 3 1 (is c.snd) []) (λ(d:Nat)=>kQ m d)) (λ(f:Nat)=>aL))))) zQb Tryz.func31 rfl (nL rfl) rfl λhwf=>by
  refine Eq.mpr (by kernel_rfl:_=(let g:=ints xs;let r:=zJX g m;let s:=is r;let y:=s=([]:List DV);let z:=List.length r;let A:=z=0;let j:=Int.toNat m;let p:=gD n xs;let q:=DV.int IntKind.i64 0;dP (dX (mA (n:Int)) (bL (nE m 64) A y) (nJ m 64 (mF m 8/\True/\True/\(∃ i:Nat,bK (jF i m) (mG p (bG m) (yH m) i) (aAH m q (is (upto i)++List.replicate (kQ m i) q)))/\(∀ a:Nat,let x:=is (upto a)++List.replicate (kQ m a) q;dX (jF a m) (dX (nG a m true) (vR (a:Int) m) (aM (gL (gF a 1) x) (∃ f:Nat,aF (jF f m) (yI m f a) (gW p (bG m) (yH m) a f) (List.set x (aT a 1) (nH a)=is (upto f)++List.replicate (kQ m f) q)))) (qX (nG a m false) (∃ e:Nat,let I:=stp g j e;bK (jF e m) (p/\mG (bG m) (DV.sl j x=DV.sl (kQ m e) (is I.fst)) (0=e) e) (([]:List DV)=is I.snd)) (∀ b:Nat,let B:=stp g j b;let t:=is B.snd;let k:=(kQ m b:Int);let l:=(kQ m b:Int);let u:=atS g (b:Int);let c:=modS u l;let h:=is B.fst;let D:=nI (nAt h (aY c 1));let o:=aI (c+1);let E:=l-o;let F:=pN E 1 (List.drop (aY o 1) h);let G:=c-0;let v:=pN G 1 (List.drop (aY 0 1) h);let H:=Int.toNat E;let w:=Int.toNat G;jF b m->fU k 0 (aK (Ans prog 28 (dO n xs::qY (b:Int)) (rD (DV.int IntKind.i64 u))) (aM (vO u l []) (cZ (lS c (kQ m b) 1 h) (aZ (jR h c 1)) (aM (zZ2 1 8 b 1 t D) (cG ((0:Int)<=0/\0<=c/\c<=k) (zZ2 1 8 0 w [] v) (cZ (0<=o/\o<=k/\l<=l) (zZ2 1 8 w H v F) (iW (∃ d:Nat,let C:=stp g j d;aF (jF d m) (yI m d b) (p/\gW (bG m) (DV.sl (w+H) (v++F)=DV.sl (kQ m d) (is C.fst)) (b+1=d) b d) (t++D=is C.snd))))))))) (nJ k 0 (True/\(eS (3:Nat)/\eS (1:Nat))/\List.length s=z*1/\mH b r/\t=s)))))))) (jG (aAG n) (True/\A/\y)))) ?_;delta eS aY aZ lS cZ jR aI aF aK jE dX mA aM bG cG qX vO kQ jF aW nH nG fU dO bK aT gO gL nJ gW bL jG gD dP gF aAH vR mG mH pN iW nI yH yI mF nE aAG qY;simp only [sS,zQh];obtain ⟨hx,rfl⟩:=hx;generalize hl:ints xs=l at *;subst hx;have z0:l.length=0->zJX l m=[]:=λh=>by simp [zJX,h]
  have z1:64<m->zJX l m=[]:=λh=>by simp [zJX,h]
  refine ⟨λhne=>⟨λhbig=>by rw [z1 hbig]; exact ⟨rfl,rfl⟩,λhsm=>?_⟩,λhe=>by rw [z0 (by simpa [zQz] using he)]; exact ⟨rfl,rfl⟩⟩;have hll:l.length≠0:=by simpa [zQz] using hne
  have hp:zJX l m=(stp l m.toNat m.toNat).2:=by unfold zJX; rw [if_neg (by omega)]
  obtain ⟨N,rfl⟩:∃ N:Nat,m=(N:Int):=⟨m.toNat,by omega⟩
  rw [hp];simp only [wQl,wQo,maxLen];have hN:N<=64:=by omega
  have wr:∀ n:Int,-1000000<=n->n<=1000000->wrap .i64 n=n:=λn h h'=>by rw [wQ0]; omega
  refine ⟨by omega,⟨0,Nat.zero_le _,rfl,by simp [upto,is]⟩,λk hk=>⟨λhlt=>?_,λhge=>⟨⟨0,Nat.zero_le _,⟨⟨rfl,?_⟩,rfl,rfl⟩,rfl⟩,λj hj=>⟨λhlt=>?_,λhge=>?_⟩⟩⟩⟩
  ·refine ⟨by omega,by rw [wQi,zQz,zWq,wXr]; omega,k+1,by omega,by omega,by rw [wr _ (by omega) (by omega)]; omega,jUp (by omega)⟩
  ·have:k=N:=by omega
   subst this;simp [stp]
  ·obtain ⟨h1,h2⟩:=zGG l hN j (by omega);have hK:=jJI (v:=atS l j) (m:=(stp l N j).1.length) (by omega) (by omega);have e1:(stp l N (j+1)).1=(stp l N j).1.take (modS (atS l j) (stp l N j).1.length).toNat++(stp l N j).1.drop ((modS (atS l j) (stp l N j).1.length).toNat+1):=rfl;have e2:(stp l N (j+1)).2=(stp l N j).2++[((stp l N j).1[(modS (atS l j) (stp l N j).1.length).toNat]?).getD 0]:=rfl;have ha:=jG1 l.length (is l) (j:Int) ⟨by rw [zZF],by rw [zQz]⟩;rw [zZF] at ha;generalize (stp l N j).1=r at *;generalize (stp l N j).2=o at *;subst h2;rw [h1] at hK e1 e2;generalize hg:modS (atS l (o.length:Int)) ((N-o.length:Nat):Int)=g at *;obtain ⟨K,rfl⟩:∃ K:Nat,g=(K:Int):=⟨g.toNat,by omega⟩
   simp only [wQl] at hK e1 e2 |-;have w1:wrap .i64 ((K:Int)+1)=((K+1:Nat):Int):=by rw [wr _ (by omega) (by omega)]; omega
   have t1:((K:Int)-0).toNat=K:=by omega
   have t2:(((N-o.length:Nat):Int)-((K+1:Nat):Int)).toNat=N-o.length-(K+1):=by omega
   have t3:Int.toNat 0=0:=rfl;have hKr:K<r.length:=by omega
   have d1:List.take (N-o.length-(K+1)) (List.drop (K+1) (is r))=is (r.drop (K+1)):=by rw [jHN,wQY (by rw [zQz,wZG]; omega)]
   simp only [w1,t1,t2,t3,wQl,List.drop_zero,d1,jHM,zQz,zZ2,wQo,zK6,zHh hKr,List.getElem?_eq_getElem hKr,wQF,maxLen] at e2 |-;refine ⟨ha,⟨by omega,by omega,hKr⟩,jJM hKr,⟨trivial,rfl,by omega,by omega⟩,by omega,⟨rfl,?_,by omega,by omega⟩,by omega,⟨?_,?_,by omega,by omega⟩,o.length+1,by omega,by omega,⟨⟨by omega,by rw [e1]⟩,rfl,by rw [wr _ (by omega) (by omega)]; omega⟩,by rw [e2,<- zK6]; rfl⟩
   all_goals simp
   all_goals omega
  ·have:j=N:=by omega
   subst this;have h2:=(zGG l hN j (Nat.le_refl _)).2;rw [zQz,h2];exact ⟨rfl,rfl,rfl⟩
def zF (a b c:Nat) (d:List DV) (e:List (Nat × Bx)):List (Nat × Bx):=aIQ a b c d::e
def jU (a b c:Nat) (d:List DV):List (Nat × Bx):=zF a b c d []
def aEX (a:Nat) (b:Int):Cl:=Cl.ref a (Int.toNat b)
def aFF (a:Nat) (b:Int) (c:List Int):Prop:=jF a b/\zK9 (List.take a (seqL c b)) b
def aFG (a:Nat) (b:List Int) (c:Int):List DV:=zKd (List.take a (seqL b c)) (Int.toNat c)
def pJ (a b:Cl) (c:List AV):List AV:=AV.one a::AV.one b::c
def lV (a:List AV) (b:List Bx) (c:Bool):Ret:=⟨AV.tup a,b,c⟩
def gU (a b c d e:Prop):Prop:=a/\aF b c d e
def yD (a:Bool):Cl:=Cl.d (DV.bool a)
def cR (a:Bool) (b c:Prop):Prop:=a=false->True/\True/\b/\c
def tP (a:Nat) (b c:Prop):Prop:=True/\a<=maxLen/\True/\b/\c
def kG (a:List DV) (b:Nat):Prop:=a[b]?=some (DV.bool (bAt a b))
def wD (a b:Bool):Prop:=DV.bool a=DV.bool b
def yP (a b c:Prop):Prop:=aZ a/\True/\True/\b/\c
def yW:DV:=DV.bool false
def aBI (a:Prop) (b c:Bool):Prop:=aZ (aW a (wD b c))
def fI (a:Int):Bool:=a !=0
def kE (a:Int) (b:Nat):Nat:=aY a b+1
def xC (a b:Int) (c d:Prop):Prop:=True/\True/\True/\nJ a b c/\d
def xI (a:Int):Bool:=decide (a>0)
def sU (a b c:Prop):Prop:=True/\True/\a/\aZ b/\c
abbrev wXw:=@List.map_const'
theorem zVM (n:Nat) (xs:List DV) (m:Int) (hx:xs=is (ints xs)/\n=xs.length):AnsG prog 79 0 [aO (cD (dS n xs)),aJ ((m))] [] ⟨AV.tup [aO (Cl.ref 0 ((zXZ (ints xs) m).length)),aO (cD (dQ (zZQ (ints xs) m)))],[bR 3 1 (is (zXZ (ints xs) m))],true⟩:=
 zZc (Γ:=gamO) (dZ (eF (Ann.loop (Inv.mk Nat (λ(c:Nat)=>aFF c m (ints xs)) (λ(a:Nat)=>oE (tO 0 (DV.sl n xs) 1 m (mE 6 1006 (Int.toNat m) 7 (aEX 1007 m) (lO 31 (Int.toNat m) 32 a))) 1006 3 1 (zVb (seqL (ints xs) m) a) (jU 1007 4 1 (aFG a (ints xs) m))) (λ(b:Nat)=>kQ m b)) (λ(d:Nat)=>aL)))) zQb Tryz.func79 rfl (nL rfl) rfl λhwf hbx=>by
  refine Eq.mpr (by kernel_rfl:_=(let b:=ints xs;let o:=zXZ b m;let u:=is o;let v:=zZQ b m;let E:=lV (pJ (Cl.ref 0 (List.length o)) (yD v) []) [bR 3 1 u] true;let p:=aW (aBI (mH 0 o) false v) (([]:List DV)=u);let F:=p/\zZu E;let w:=True/\True/\True/\True/\True/\F;let q:=zZu E;let x:=(!false);let r:=seqL b m;let k:=Int.toNat m;let A:=gA k;let h:=eS (Int.toNat m);let C:=True/\True/\F;let s:=(n:Int);let M:=aH (mF m 1) (tP k (∃ l:Nat,aF (aFF l m b) (gD n xs/\pF m h (bK h A (yO l))) (aAH m (DV.int IntKind.i64 0) (zVb r l)) (aAH m yW (aFG l b m))) (∀ a:Nat,let y:=zVb r a;let g:=List.set y (aT a 1) (nH a);let e:=bT g a 1;let z:=aY e 1;let d:=aFG a b m;let G:=vR e m;let B:=gM g a 1;let c:=vR (a:Int) m;let H:=bAt d z;let t:=List.set g (aT a 1) (DV.int IntKind.i64 (bT xs a 1));let f:=bT t a 1;let D:=aY f 1;let I:=vR f m;let J:=gM t a 1;let K:=bAt d D;let L:=aZ (gM t a 1);bL (aFF a m b) (eX a k true (True/\True/\True/\True/\c/\gL (gF a 1) y/\fU (n:Int) 0 (True/\True/\True/\eG a n 1 xs/\aZ (gM xs a 1)/\c/\gL (gF a 1) g/\True/\True/\c/\yP J (fV f 0 (cZ c L (True/\True/\True/\fK f m (True/\True/\c/\L/\I/\aZ (kG d D)/\True/\(K=true->C)/\(K=false->True/\sU c J (cG I (gL (kE f 1) d) (∃ j:Nat,gU (aFF j m b) (yI m j a) (gD n xs/\pF m h (bK h A (rK a j))) (t=zVb r j) (List.set d D (DV.bool true)=aFG j b m)))))/\dX (decide (f>=m)=x) p q))) (lU f->w)) (cR (xI s) c (yP B (fV e 0 (cZ c (aZ (gM g a 1)) (True/\True/\True/\fK e m (sU c B (G/\aZ (kG d z)/\True/\(H=true->C)/\(H=false->True/\sU c B (cG G (gL (kE e 1) d) (∃ i:Nat,gU (aFF i m b) (yI m i a) (gD n xs/\pF m h (bK h A (rK a i))) (g=zVb r i) (List.set d z (DV.bool true)=aFG i b m))))))/\dX (decide (e>=m)=x) p q))) (lU e->w))))) (dX (pV a k) (aW (aBI (mH k o) true v) (y=u)) q)));dP (fV m 0 (xC m 16777216 (True/\True/\True/\(fI s=true->True/\True/\True/\True/\True/\True/\((s !=m)=true->C)/\bL ((s !=m)=false) (mF m 8) M)/\dX (uC (fI s)) (mF m 8) M) (dX (decide (m>16777216)=x) p q))) (lU m->w))) ?_;delta eS aY mN fK aZ cZ lU aI aF aH pJ lV gU dX yD eC cG kQ jF aW nH nG fU bK aT gO gL nJ bL gD dP gF aAH vR mH yI mF cR bT eG eX gM fV tP pF gA kG wD rK yO yP uC yW pV aBI fI kE xC xI sU aFF aFG;simp only [sS,zQh];obtain ⟨hx,rfl⟩:=hx;generalize hl:ints xs=l at *;subst hx;simp only [zQz,jGz,and_true];refine ⟨λh0=>⟨λhM=>⟨λhp=>⟨λhne=>?_,λhe=>?_⟩,λhz=>?_⟩,λhM=>(by have e:=jX6 (l:=l) (m:=m) (.inr (.inl (by omega))); rw [e.1,e.2]; exact ⟨⟨rfl,rfl⟩,rfl⟩)⟩,λh0=>(by have e:=jX6 (l:=l) (m:=m) (.inl (by omega)); rw [e.1,e.2]; exact ⟨⟨rfl,rfl⟩,rfl⟩)⟩
  ·have e:=jX6 (l:=l) (m:=m) (.inr (.inr (.inl ⟨by simpa using hp,by simpa using hne⟩)));rw [e.1,e.2]; exact ⟨⟨rfl,rfl⟩,rfl⟩
  ·have hl:l.length=0\/(l.length:Int)=m:=.inr (by simpa using he);have hp':l.length≠0:=by simpa using hp
   have hS:=jZs hl;refine ⟨⟨by omega,by omega,by unfold maxLen; omega,by omega⟩,⟨by omega,by omega,by unfold maxLen; omega,by omega⟩,by unfold maxLen; omega,⟨0,⟨by omega,by simp [zK9]⟩,rfl,by simp [zVb,hS,is],by simp [zKd,wXw]⟩,λk hk=>⟨λhlt=>?_,λhge=>?_⟩⟩
   ·have hkS:k<(seqL l m).length:=by omega
    have hkl:k<l.length:=by omega
    have hv0:nAt (is l) k=(seqL l m)[k]:=by
     rw [zHh hkl];simp [seqL,show l≠[] by intro e; subst e; simp at hkl]
    have hi:(is l)[k]?=some (.int .i64 (seqL l m)[k]):=by rw [jJM hkl,<- zHh hkl,hv0]
    have hv:(seqL l m)[k]=(seqL l m)[k]:=rfl;have f1:=zWZ (Nat.le_of_lt hkS);have f2:=jYI hkS hv;have f3:=jXb hkS;have f4:=jYJ hkS;have f5:=zWZ (S:=seqL l m) (k:=k+1) (by omega);have r:=jX5 (by omega) (by omega) hS hkS hk.2 rfl (Bad:=(0=(zXZ l m).length/\false=zZQ l m)/\[]=is (zXZ l m)) (λhb=>by have e:=jX6 (l:=l) (m:=m) (.inr (.inr (.inr hb))); rw [e.1,e.2]; exact ⟨⟨rfl,rfl⟩,rfl⟩);simp only [wQo,List.set_set,wZp,f1,f2,f3,f4,f5,hv0,hi] at r |-;refine ⟨by omega,by omega,λ_=>⟨by omega,trivial,by omega,by omega,by omega,trivial,λa=>⟨by omega,trivial,λb=>?_,(r.1 a).2⟩,r.2⟩,λhz=>absurd (by omega) hz⟩;obtain ⟨r1,r2,r3,r4⟩:=(r.1 a).1 b;refine ⟨by omega,trivial,r1,r2,r3,λc=>?_⟩;obtain ⟨s1,s2,_,k',s3,s4,⟨rfl,s6⟩,s7,_⟩:=r4 c;exact ⟨by omega,trivial,s1,s2,k+1,s3,s4,s6,rfl,s7⟩
   ·have hkm:k=(seqL l m).length:=by omega
    have hg:=hk.2;rw [wQY (by omega)] at hg;have e:=jZI (by omega) (by omega) hl hg;rw [e.1,e.2];exact ⟨⟨by omega,rfl⟩,by rw [hkm,jYK]⟩
  ·have hl:l.length=0\/(l.length:Int)=m:=.inl (by simpa using hz);have hz':l.length=0:=by simpa using hz
   have hS:=jZs hl;refine ⟨⟨by omega,by omega,by unfold maxLen; omega,by omega⟩,⟨by omega,by omega,by unfold maxLen; omega,by omega⟩,by unfold maxLen; omega,⟨0,⟨by omega,by simp [zK9]⟩,rfl,by simp [zVb,hS,is],by simp [zKd,wXw]⟩,λk hk=>⟨λhlt=>?_,λhge=>?_⟩⟩
   ·have hkS:k<(seqL l m).length:=by omega
    have hv:(k:Int)=(seqL l m)[k]:=by
     simp [seqL,show l=[] by exact List.eq_nil_of_length_eq_zero hz',upto]
    have f1:=zWZ (Nat.le_of_lt hkS);have f2:=jYI hkS hv;have f3:=jXb hkS;have f4:=jYJ hkS;have f5:=zWZ (S:=seqL l m) (k:=k+1) (by omega);have r:=jX5 (by omega) (by omega) hS hkS hk.2 rfl (Bad:=(0=(zXZ l m).length/\false=zZQ l m)/\[]=is (zXZ l m)) (λhb=>by have e:=jX6 (l:=l) (m:=m) (.inr (.inr (.inr hb))); rw [e.1,e.2]; exact ⟨⟨rfl,rfl⟩,rfl⟩);simp only [wQo,List.set_set,wZp,f1,f2,f3,f4,f5] at r |-;refine ⟨by omega,by omega,λhp=>absurd hp (by omega),λ_=>⟨by omega,trivial,λa=>⟨by omega,trivial,λb=>?_,(r.1 a).2⟩,r.2⟩⟩;obtain ⟨r1,r2,r3,r4⟩:=(r.1 a).1 b;refine ⟨by omega,trivial,r1,r2,r3,λc=>?_⟩;obtain ⟨s1,s2,_,k',s3,s4,⟨rfl,s6⟩,s7,_⟩:=r4 c;exact ⟨by omega,trivial,s1,s2,k+1,s3,s4,s6,rfl,s7⟩
   ·have hkm:k=(seqL l m).length:=by omega
    have hg:=hk.2;rw [wQY (by omega)] at hg;have e:=jZI (by omega) (by omega) hl hg;rw [e.1,e.2];exact ⟨⟨by omega,rfl⟩,by rw [hkm,jYK]⟩
def cntS (r:Rc) (w h:Int):Int × Int × Bool:=
 if r.empty then (0,0,false)
 else if w<1\/wrap .i64 (r.c-r.a)<w\/h<1\/wrap .i64 (r.d-r.b)<h then (0,0,false)
 else (wrap .i64 (Int.tdiv (wrap .i64 (wrap .i64 (wrap .i64 (r.c-r.a)+w)-1)) w),wrap .i64 (Int.tdiv (wrap .i64 (wrap .i64 (wrap .i64 (r.d-r.b)+h)-1)) h),true)
def zUt (r:Rc) (w h i:Int):Rc × Bool:=
 if (cntS r w h).2.2=false\/i<0\/wrap .i64 (Int.tdiv i (cntS r w h).1)>=(cntS r w h).2.1 then (Rc.zero,false)
 else
  let x:=wrap .i64 (r.a+wrap .i64 (Int.tmod i (cntS r w h).1*w))
  let y:=wrap .i64 (r.b+wrap .i64 (wrap .i64 (Int.tdiv i (cntS r w h).1)*h))
  (⟨x,y,min (wrap .i64 (x+w)) r.c,min (wrap .i64 (y+h)) r.d⟩,true)
def gZ2:List RV->Option RV:=λ| [.agg [.int _ a,.int _ b,.int _ c,.int _ d],.d (.int _ w),.d (.int _ h)]=>some (RV.tup [rJ (cntS ⟨a,b,c,d⟩ w h).1,rJ (cntS ⟨a,b,c,d⟩ w h).2.1,RV.d (dQ (cntS ⟨a,b,c,d⟩ w h).2.2)]) | _=>none
def gamW:Gam:=gamO.add [.p 78 gZ2,
 .p 80 (λ| [.agg [.int _ a,.int _ b,.int _ c,.int _ d],.d (.int _ w),.d (.int _ h),.d (.int _ i)]=>some (RV.tup [RV.agg (qD ((zUt ⟨a,b,c,d⟩ w h i).1)),RV.d (dQ (zUt ⟨a,b,c,d⟩ w h i).2)]) | _=>none)]
def fT (a b:Int):Int:=aI (Int.tdiv a b)
def dA (a:Prop):Prop:=True/\True/\True/\eS true/\a
def bX (a b:RV):Prop:=True/\True/\True/\True/\a=b
def yJ (a b:Prop):Prop:=a->True/\True/\True/\b
def zP (a:RV) (b:Int) (c:List RV):RV:=RV.tup (a::RV.d (DV.int IntKind.i64 b)::c)
def eJ (a b:Int) (c:List RV):RV:=zP (RV.d (DV.int IntKind.i64 a)) b c
def aAP (a:Rc) (b c:Int):RV:=aB (cntS a b c).snd.snd
def yS (a:Int):Prop:=mN a 1 false
def aDY (a b c d e f:Int):Int:=(cntS ⟨a,b,c,d⟩ e f).snd.fst
def aBU (a b c:Prop):Prop:=True/\True/\True/\a/\(b->True/\True/\True/\True/\c)
theorem zJw (a b c d w h:Int):Ans prog 78 [rA [dJ a,dJ b,dJ c,dJ d],rJ (w),rJ (h)] (rT [rJ (((cntS ⟨a,b,c,d⟩ w h).1)),rJ (((cntS ⟨a,b,c,d⟩ w h).2.1)),rD (dQ ((cntS ⟨a,b,c,d⟩ w h).2.2))]):=
 zQa (Γ:=gamW) aL zQb Tryz.func78 rfl (nL rfl) λhwf=>by
  refine Eq.mpr (by kernel_rfl:_=(let e:=eJ (cntS ⟨a,b,c,d⟩ w h).fst (aDY a b c d w h) [aAP ⟨a,b,c,d⟩ w h];let f:=eJ 0 0 [aB false];let i:=bX f e;let j:=True/\True/\f=e;let g:=nP a b c d;aV (True/\True/\bF 40 (DV.int IntKind.i64 a::DV.int IntKind.i64 b::DV.int IntKind.i64 c::nI d) [] (aB g)/\(g=true->True/\j)/\(g=false->True/\aG (dA (bY (aAE w) (xC w (aX c a) (aBU (fV h 1 (fU h (aX d b) j (gT h (aX d b)->True/\True/\True/\True/\aK (w≠0) (True/\True/\True/\h≠0/\dA (eJ (fT (aX (aI (aX c a+w)) 1) w) (fT (aX (aI (aX d b+h)) 1) h) [aB true]=e))))) (yS h) (f=e)) (jV (decide (w>aX c a)) i)) (yJ (yS w) (True/\i)))))))) ?_;delta eS bY mN aI aG aK aX fT aAE dA bX fU nJ nI gT bF fV yJ zP eJ aB aV jV aAP yS nP aDY xC aBU;simp only [sS,zQN];unfold cntS;cases he:Rc.empty ⟨a,b,c,d⟩<;>by_cases h1:w<1<;>by_cases h2:wrap .i64 (c-a)<w<;>by_cases h3:h<1<;>by_cases h4:wrap .i64 (d-b)<h<;>simp [h1,h2,h3,h4]<;>omega
def iN (a b:Int) (c:List RV):List RV:=RV.d (DV.int IntKind.i64 a)::RV.d (DV.int IntKind.i64 b)::c
def kX (a b:Int):Prop:=decide (a>=b)=false
def gR (a:RV):RV:=RV.tup [a,aB true]
def kY (a b:RV):Prop:=RV.tup [a,aB false]=b
def uD (a:Prop):Prop:=True/\True/\True/\True/\True/\a
def gI (a:Bool) (b:Prop):Prop:=(!a)=false->True/\b
def xB (a b:RV):Prop:=True/\True/\RV.tup [a,aB false]=b
def xD (a b:Prop):Prop:=True/\True/\True/\True/\aM a b
def jN (a:Bool) (b:Prop):Prop:=(!a)=(!false)->True/\True/\b
theorem jZm (a b c d w h i:Int) (hz:(cntS ⟨a,b,c,d⟩ w h).2.2=true->(cntS ⟨a,b,c,d⟩ w h).1≠0):Ans prog 80 [rA [dJ a,dJ b,dJ c,dJ d],rJ (w),rJ (h),rJ (i)] (rT [rA (qD ((zUt ⟨a,b,c,d⟩ w h i).1)),rD (dQ ((zUt ⟨a,b,c,d⟩ w h i).2))]):=
 zQa (Γ:=gamW) aL zQb Tryz.func80 rfl (nL rfl) λhwf=>by
  refine Eq.mpr (by kernel_rfl:_=(let g:=(⟨a,b,c,d⟩:Rc);let m:=zUt g w h i;let e:=rT [cU m.fst,aB m.snd];let n:=(cntS g w h).snd.snd;let f:=(cntS ⟨a,b,c,d⟩ w h).fst;let j:=fT i f;let o:=aI (b+aI (j*h));let p:=aI (a+aI (Int.tmod i f*w));let k:=f≠0;let l:=aDY a b c d w h;True/\True/\True/\True/\eV (Ans prog 78 (lB a b c d::iN w h []) (eJ f l [aAP g w h])) (uD (gI n (aBU (fV i 0 (True/\k/\jS j l (xB zN e) (kX j l->True/\True/\True/\True/\aM k (xD k (aH (eS true) (aG (aG (gR (lB p o (Min.min (aI (p+w)) c) (Min.min (aI (o+h)) d))=e)))))))) (lU i) (kY zN e))/\jN n (bX (rT [zN,aB false]) e))))) ?_;delta eS mN jS lU aI aG aH eV fT aM bX fV zP eJ aB sM lB iN cU aAP kX gR kY uD gI aDY xB aBU xD jN zN;simp only [sS,zQN,zJw];unfold zUt;generalize cntS ⟨a,b,c,d⟩ w h=T at *;obtain ⟨n1,n2,ok⟩:=T;simp only at hz |-;cases ok<;>by_cases h1:i<0<;>by_cases h2:wrap .i64 (Int.tdiv i n1)>=n2<;>simp [h1,h2,Rc.zero]<;>simp at hz<;>simp [hz]<;>omega
end
def Im.ds (m:Im):List DV:=[.int .i64 m.w,.int .i64 m.h,.bool m.so,.int .u16 m.c.a,.int .u16 m.c.b,.int .u16 m.c.c,.int .u16 m.c.al,.int .u16 m.c.f,.int .i64 m.p0.w,.int .i64 m.p0.h,.int .i64 m.p0.s,.sl m.p0.n m.p0.xs,.int .i64 m.p1.w,.int .i64 m.p1.h,.int .i64 m.p1.s,.sl m.p1.n m.p1.xs,.int .i64 m.p2.w,.int .i64 m.p2.h,.int .i64 m.p2.s,.sl m.p2.n m.p2.xs,.int .i64 m.p3.w,.int .i64 m.p3.h,.int .i64 m.p3.s,.sl m.p3.n m.p3.xs,.int .i64 m.p4.w,.int .i64 m.p4.h,.int .i64 m.p4.s,.sl m.p4.n m.p4.xs]
theorem Im.ds_len (m:Im):m.ds.length=28:=rfl
def ims (l:List Im):List DV:=l.flatMap Im.ds
theorem zY2 (l:List Im):(ims l).length=l.length*28:=by
 induction l with
 | nil=>rfl
 | cons o l ih=>simp only [ims,wQZ,wQi,wQJ] at ih |-; rw [ih,Im.ds_len]; omega
theorem jVG (l m:List Im):ims (l++m)=ims l++ims m:=by simp [ims]
theorem jGn (m:Im) (l:List Im):ims (m::l)=m.ds++ims l:=by simp [ims]
theorem jHS (m:Im):ims [m]=m.ds:=by simp [ims]
theorem jHT {l:List Im} {k:Nat} (h:k<l.length) (j:Nat) (hj:j<28):(ims l)[k*28+j]?=l[k].ds[j]?:=by
 induction l generalizing k with
 | nil=>simp at h
 | cons o l ih=>
  rw [jGn]
  cases k with
  | zero=>simp only [wXR]; rw [wQH (by rw [Im.ds_len]; omega)]; simp
  | succ k=>
   rw [wQp (by rw [Im.ds_len]; omega)];have:=ih (k:=k) (by simpa using h);simp only [wZt];rw [<- this];congr 1;rw [Im.ds_len]; omega
theorem zHq {l:List Im} {k:Nat} (h:k<l.length):(ims l)[k*28]?=some (.int .i64 l[k].w)/\(ims l)[k*28+1]?=some (.int .i64 l[k].h)/\(ims l)[k*28+1+1]?=some (.bool l[k].so)/\(ims l)[k*28+1+1+1]?=some (.int .u16 l[k].c.a)/\(ims l)[k*28+1+1+1+1]?=some (.int .u16 l[k].c.b)/\(ims l)[k*28+1+1+1+1+1]?=some (.int .u16 l[k].c.c)/\(ims l)[k*28+1+1+1+1+1+1]?=some (.int .u16 l[k].c.al)/\(ims l)[k*28+1+1+1+1+1+1+1]?=some (.int .u16 l[k].c.f)/\(ims l)[k*28+1+1+1+1+1+1+1+1]?=some (.int .i64 l[k].p0.w)/\(ims l)[k*28+1+1+1+1+1+1+1+1+1]?=some (.int .i64 l[k].p0.h)/\(ims l)[k*28+1+1+1+1+1+1+1+1+1+1]?=some (.int .i64 l[k].p0.s)/\(ims l)[k*28+1+1+1+1+1+1+1+1+1+1+1]?=some (.sl l[k].p0.n l[k].p0.xs)/\(ims l)[k*28+1+1+1+1+1+1+1+1+1+1+1+1]?=some (.int .i64 l[k].p1.w)/\(ims l)[k*28+1+1+1+1+1+1+1+1+1+1+1+1+1]?=some (.int .i64 l[k].p1.h)/\(ims l)[k*28+1+1+1+1+1+1+1+1+1+1+1+1+1+1]?=some (.int .i64 l[k].p1.s)/\(ims l)[k*28+1+1+1+1+1+1+1+1+1+1+1+1+1+1+1]?=some (.sl l[k].p1.n l[k].p1.xs)/\(ims l)[k*28+1+1+1+1+1+1+1+1+1+1+1+1+1+1+1+1]?=some (.int .i64 l[k].p2.w)/\(ims l)[k*28+1+1+1+1+1+1+1+1+1+1+1+1+1+1+1+1+1]?=some (.int .i64 l[k].p2.h)/\(ims l)[k*28+1+1+1+1+1+1+1+1+1+1+1+1+1+1+1+1+1+1]?=some (.int .i64 l[k].p2.s)/\(ims l)[k*28+1+1+1+1+1+1+1+1+1+1+1+1+1+1+1+1+1+1+1]?=some (.sl l[k].p2.n l[k].p2.xs)/\(ims l)[k*28+1+1+1+1+1+1+1+1+1+1+1+1+1+1+1+1+1+1+1+1]?=some (.int .i64 l[k].p3.w)/\(ims l)[k*28+1+1+1+1+1+1+1+1+1+1+1+1+1+1+1+1+1+1+1+1+1]?=some (.int .i64 l[k].p3.h)/\(ims l)[k*28+1+1+1+1+1+1+1+1+1+1+1+1+1+1+1+1+1+1+1+1+1+1]?=some (.int .i64 l[k].p3.s)/\(ims l)[k*28+1+1+1+1+1+1+1+1+1+1+1+1+1+1+1+1+1+1+1+1+1+1+1]?=some (.sl l[k].p3.n l[k].p3.xs)/\(ims l)[k*28+1+1+1+1+1+1+1+1+1+1+1+1+1+1+1+1+1+1+1+1+1+1+1+1]?=some (.int .i64 l[k].p4.w)/\(ims l)[k*28+1+1+1+1+1+1+1+1+1+1+1+1+1+1+1+1+1+1+1+1+1+1+1+1+1]?=some (.int .i64 l[k].p4.h)/\(ims l)[k*28+1+1+1+1+1+1+1+1+1+1+1+1+1+1+1+1+1+1+1+1+1+1+1+1+1+1]?=some (.int .i64 l[k].p4.s)/\(ims l)[k*28+1+1+1+1+1+1+1+1+1+1+1+1+1+1+1+1+1+1+1+1+1+1+1+1+1+1+1]?=some (.sl l[k].p4.n l[k].p4.xs):=by
 have g:=λj hj=>jHT h j hj;exact ⟨g 0 (by omega),g 1 (by omega),g 2 (by omega),g 3 (by omega),g 4 (by omega),g 5 (by omega),g 6 (by omega),g 7 (by omega),g 8 (by omega),g 9 (by omega),g 10 (by omega),g 11 (by omega),g 12 (by omega),g 13 (by omega),g 14 (by omega),g 15 (by omega),g 16 (by omega),g 17 (by omega),g 18 (by omega),g 19 (by omega),g 20 (by omega),g 21 (by omega),g 22 (by omega),g 23 (by omega),g 24 (by omega),g 25 (by omega),g 26 (by omega),g 27 (by omega)⟩
theorem zHr {l:List Im} {k:Nat} (h:k<l.length):nAt (ims l) (k*28)=l[k].w/\nAt (ims l) (k*28+1)=l[k].h/\bAt (ims l) (k*28+1+1)=l[k].so/\nAt (ims l) (k*28+1+1+1)=l[k].c.a/\nAt (ims l) (k*28+1+1+1+1)=l[k].c.b/\nAt (ims l) (k*28+1+1+1+1+1)=l[k].c.c/\nAt (ims l) (k*28+1+1+1+1+1+1)=l[k].c.al/\nAt (ims l) (k*28+1+1+1+1+1+1+1)=l[k].c.f/\nAt (ims l) (k*28+1+1+1+1+1+1+1+1)=l[k].p0.w/\nAt (ims l) (k*28+1+1+1+1+1+1+1+1+1)=l[k].p0.h/\nAt (ims l) (k*28+1+1+1+1+1+1+1+1+1+1)=l[k].p0.s/\lAt (ims l) (k*28+1+1+1+1+1+1+1+1+1+1+1)=l[k].p0.n/\cAt (ims l) (k*28+1+1+1+1+1+1+1+1+1+1+1)=l[k].p0.xs/\nAt (ims l) (k*28+1+1+1+1+1+1+1+1+1+1+1+1)=l[k].p1.w/\nAt (ims l) (k*28+1+1+1+1+1+1+1+1+1+1+1+1+1)=l[k].p1.h/\nAt (ims l) (k*28+1+1+1+1+1+1+1+1+1+1+1+1+1+1)=l[k].p1.s/\lAt (ims l) (k*28+1+1+1+1+1+1+1+1+1+1+1+1+1+1+1)=l[k].p1.n/\cAt (ims l) (k*28+1+1+1+1+1+1+1+1+1+1+1+1+1+1+1)=l[k].p1.xs/\nAt (ims l) (k*28+1+1+1+1+1+1+1+1+1+1+1+1+1+1+1+1)=l[k].p2.w/\nAt (ims l) (k*28+1+1+1+1+1+1+1+1+1+1+1+1+1+1+1+1+1)=l[k].p2.h/\nAt (ims l) (k*28+1+1+1+1+1+1+1+1+1+1+1+1+1+1+1+1+1+1)=l[k].p2.s/\lAt (ims l) (k*28+1+1+1+1+1+1+1+1+1+1+1+1+1+1+1+1+1+1+1)=l[k].p2.n/\cAt (ims l) (k*28+1+1+1+1+1+1+1+1+1+1+1+1+1+1+1+1+1+1+1)=l[k].p2.xs/\nAt (ims l) (k*28+1+1+1+1+1+1+1+1+1+1+1+1+1+1+1+1+1+1+1+1)=l[k].p3.w/\nAt (ims l) (k*28+1+1+1+1+1+1+1+1+1+1+1+1+1+1+1+1+1+1+1+1+1)=l[k].p3.h/\nAt (ims l) (k*28+1+1+1+1+1+1+1+1+1+1+1+1+1+1+1+1+1+1+1+1+1+1)=l[k].p3.s/\lAt (ims l) (k*28+1+1+1+1+1+1+1+1+1+1+1+1+1+1+1+1+1+1+1+1+1+1+1)=l[k].p3.n/\cAt (ims l) (k*28+1+1+1+1+1+1+1+1+1+1+1+1+1+1+1+1+1+1+1+1+1+1+1)=l[k].p3.xs/\nAt (ims l) (k*28+1+1+1+1+1+1+1+1+1+1+1+1+1+1+1+1+1+1+1+1+1+1+1+1)=l[k].p4.w/\nAt (ims l) (k*28+1+1+1+1+1+1+1+1+1+1+1+1+1+1+1+1+1+1+1+1+1+1+1+1+1)=l[k].p4.h/\nAt (ims l) (k*28+1+1+1+1+1+1+1+1+1+1+1+1+1+1+1+1+1+1+1+1+1+1+1+1+1+1)=l[k].p4.s/\lAt (ims l) (k*28+1+1+1+1+1+1+1+1+1+1+1+1+1+1+1+1+1+1+1+1+1+1+1+1+1+1+1)=l[k].p4.n/\cAt (ims l) (k*28+1+1+1+1+1+1+1+1+1+1+1+1+1+1+1+1+1+1+1+1+1+1+1+1+1+1+1)=l[k].p4.xs:=by
 obtain ⟨e0,e1,e2,e3,e4,e5,e6,e7,e8,e9,e10,e11,e12,e13,e14,e15,e16,e17,e18,e19,e20,e21,e22,e23,e24,e25,e26,e27⟩:=zHq h;simp only [nAt,bAt,lAt,cAt,e0,e1,e2,e3,e4,e5,e6,e7,e8,e9,e10,e11,e12,e13,e14,e15,e16,e17,e18,e19,e20,e21,e22,e23,e24,e25,e26,e27,and_self]
def imAt (xs:List DV) (i:Nat):Im:=⟨nAt xs i,nAt xs (i+1),bAt xs (i+2),⟨nAt xs (i+3),nAt xs (i+4),nAt xs (i+5),nAt xs (i+6),nAt xs (i+7)⟩,⟨nAt xs (i+8),nAt xs (i+9),nAt xs (i+10),lAt xs (i+11),cAt xs (i+11)⟩,⟨nAt xs (i+12),nAt xs (i+13),nAt xs (i+14),lAt xs (i+15),cAt xs (i+15)⟩,⟨nAt xs (i+16),nAt xs (i+17),nAt xs (i+18),lAt xs (i+19),cAt xs (i+19)⟩,⟨nAt xs (i+20),nAt xs (i+21),nAt xs (i+22),lAt xs (i+23),cAt xs (i+23)⟩,⟨nAt xs (i+24),nAt xs (i+25),nAt xs (i+26),lAt xs (i+27),cAt xs (i+27)⟩⟩
theorem jGo {l:List Im} {k:Nat} (h:k<l.length):imAt (ims l) (k*28)=l[k]:=by
 have e:=zHr h;simp only [imAt,show k*28+2=k*28+1+1 from rfl,show k*28+3=k*28+1+1+1 from rfl,show k*28+4=k*28+1+1+1+1 from rfl,show k*28+5=k*28+1+1+1+1+1 from rfl,show k*28+6=k*28+1+1+1+1+1+1 from rfl,show k*28+7=k*28+1+1+1+1+1+1+1 from rfl,show k*28+8=k*28+1+1+1+1+1+1+1+1 from rfl,show k*28+9=k*28+1+1+1+1+1+1+1+1+1 from rfl,show k*28+10=k*28+1+1+1+1+1+1+1+1+1+1 from rfl,show k*28+11=k*28+1+1+1+1+1+1+1+1+1+1+1 from rfl,show k*28+12=k*28+1+1+1+1+1+1+1+1+1+1+1+1 from rfl,show k*28+13=k*28+1+1+1+1+1+1+1+1+1+1+1+1+1 from rfl,show k*28+14=k*28+1+1+1+1+1+1+1+1+1+1+1+1+1+1 from rfl,show k*28+15=k*28+1+1+1+1+1+1+1+1+1+1+1+1+1+1+1 from rfl,show k*28+16=k*28+1+1+1+1+1+1+1+1+1+1+1+1+1+1+1+1 from rfl,show k*28+17=k*28+1+1+1+1+1+1+1+1+1+1+1+1+1+1+1+1+1 from rfl,show k*28+18=k*28+1+1+1+1+1+1+1+1+1+1+1+1+1+1+1+1+1+1 from rfl,show k*28+19=k*28+1+1+1+1+1+1+1+1+1+1+1+1+1+1+1+1+1+1+1 from rfl,show k*28+20=k*28+1+1+1+1+1+1+1+1+1+1+1+1+1+1+1+1+1+1+1+1 from rfl,show k*28+21=k*28+1+1+1+1+1+1+1+1+1+1+1+1+1+1+1+1+1+1+1+1+1 from rfl,show k*28+22=k*28+1+1+1+1+1+1+1+1+1+1+1+1+1+1+1+1+1+1+1+1+1+1 from rfl,show k*28+23=k*28+1+1+1+1+1+1+1+1+1+1+1+1+1+1+1+1+1+1+1+1+1+1+1 from rfl,show k*28+24=k*28+1+1+1+1+1+1+1+1+1+1+1+1+1+1+1+1+1+1+1+1+1+1+1+1 from rfl,show k*28+25=k*28+1+1+1+1+1+1+1+1+1+1+1+1+1+1+1+1+1+1+1+1+1+1+1+1+1 from rfl,show k*28+26=k*28+1+1+1+1+1+1+1+1+1+1+1+1+1+1+1+1+1+1+1+1+1+1+1+1+1+1 from rfl,show k*28+27=k*28+1+1+1+1+1+1+1+1+1+1+1+1+1+1+1+1+1+1+1+1+1+1+1+1+1+1+1 from rfl,e]
def zQI (xs:List DV):List Im:=(List.range (xs.length / 28)).map λk=>imAt xs (k*28)
theorem zQ5 (l:List Im):zQI (ims l)=l:=by
 have e:(ims l).length / 28=l.length:=by rw [zY2]; omega
 unfold zQI;rw [e];refine wQ1 (by simp) λi h1 h2=>?_;simp only [List.getElem_map,wZj];exact jGo h2
def jG0 (n:Nat) (xs:List DV):Prop:=(xs=ims (zQI xs)/\n=(zQI xs).length)/\∀ m∈zQI xs,m.isU
theorem jW5 {n:Nat} {l:List Im} (hn:n=l.length) (h:∀ m∈l,m.isU):jG0 n (ims l):=⟨⟨by rw [zQ5],by rw [zQ5]; exact hn⟩,by rw [zQ5]; exact h⟩
theorem jG0.of {n:Nat} {xs:List DV} (h:jG0 n xs):∃ l:List Im,(∀ m∈l,m.isU)/\xs=ims l/\n=l.length:=⟨zQI xs,h.2,h.1.1,h.1.2⟩
def yZa (n:Nat) (xs:List DV):Prop:=xs=ops (zQl xs)/\n=(zQl xs).length
theorem jYk {n:Nat} {l:List Oq} (h:n=l.length):yZa n (ops l):=⟨by rw [zQw],by rw [zQw]; exact h⟩
theorem zHa (o:Oq):ops [o]=o.cells:=by simp [ops]
def gOff (n c:Int):Int:=if modS n 3=0 then c else c+modS (wrap .i64 (Int.tdiv n 3)) 9-4
structure Rw where
  k:Int
  im:Int
  x:Int
  y:Int
  ma:Int
  mx:Int
  my:Int
  op:Int
  ope:Int
  mo:Int
  fl:Int
def gOp (r:Rw) (push:Bool) (n:Int) (c:Rc) (free:Bool) (most:Int):Oq:=
 let m:=decide (modS r.ma 4=0)
 ⟨if push then 2 else 1,if push then 0 else modS r.im n,if push then 0 else gOff r.x c.a,if push then 0 else gOff r.y c.b,
  if m then 1+modS (wrap .i64 (Int.tdiv r.ma 4)) n else 0,if m then gOff r.mx c.a else 0,if m then gOff r.my c.b else 0,
  if modS r.op 2=0 then zQQ (wrap .i64 (Int.tdiv r.op 2)) most else most,
  if free&&decide (modS r.ope 2=0) then 1+modS (wrap .i64 (Int.tdiv r.ope 2)) 12 else 4,
  if modS r.mo 2=0 then 1+modS (wrap .i64 (Int.tdiv r.mo 2)) 12 else 1,
  push&&decide (modS r.fl 2=0),push&&decide (modS (wrap .i64 (Int.tdiv r.fl 2)) 3=0)⟩
def rwAt (xs:List DV) (i:Nat):Rw:=⟨nAt xs i,nAt xs (i+1),nAt xs (i+2),nAt xs (i+3),nAt xs (i+4),nAt xs (i+5),nAt xs (i+6),nAt xs (i+7),nAt xs (i+8),nAt xs (i+9),nAt xs (i+10)⟩
structure Scn where
  b:Int
  x:Int
  y:Int
  w:Int
  h:Int
  tw:Int
  th:Int
  on:Nat
  oxs:List DV
  pn:Nat
  pxs:List DV
  rn:Nat
  rxs:List DV
def Scn.c (s:Scn):Rc:=⟨modS s.x 13-6,modS s.y 13-6,modS s.x 13-6+(1+modS s.w 5),modS s.y 13-6+(1+modS s.h 4)⟩
def Scn.gw (s:Scn):Int:=1+modS s.w 5
def Scn.gh (s:Scn):Int:=1+modS s.h 4
def Scn.gtw (s:Scn):Int:=1+modS s.tw s.gw
def Scn.gth (s:Scn):Int:=1+modS s.th s.gh
def Scn.most (s:Scn):Int:=gMax s.b
def Scn.bits (s:Scn):Int:=if s.most>255 then 16 else 8
def Scn.tiles (s:Scn):Int:=wrap .i64 ((cntS s.c s.gtw s.gth).1*(cntS s.c s.gtw s.gth).2.1)
def Scn.ord (s:Scn):List Int:=zJX (ints s.oxs) s.tiles
def Scn.pic (s:Scn) (k:Nat):Im:=zJb (nAt s.pxs (k*5)) (nAt s.pxs (k*5+1)) (nAt s.pxs (k*5+2)) (nAt s.pxs (k*5+3)) (lAt s.pxs (k*5+4)) (cAt s.pxs (k*5+4)) s.c.a s.c.b s.c.c s.c.d s.most
def Scn.pics (s:Scn) (k:Nat):List Im:=(List.range k).map s.pic
def Scn.solo (s:Scn):Im:=zQ3 s.gw s.gh ⟨s.most,0,0,s.most,s.most⟩
def Scn.ims (s:Scn):List Im:=if min s.pn 4=0 then [s.solo] else s.pics (min s.pn 4)
def Scn.step (s:Scn) (r:Rw) (z:List Oq × List Oq):List Oq × List Oq:=
 if modS r.k 8=0/\0<z.2.length then (z.1++[popO],z.2.dropLast)
 else
  let o:=gOp r (decide (modS r.k 8<3)) s.ims.length s.c (ctxB z.2) s.most
  (z.1++[o],if modS r.k 8<3 then z.2++[o] else z.2)
def Scn.run (s:Scn):Nat->List Oq × List Oq
 | 0=>([],[])
 | k+1=>s.step (rwAt s.rxs (k*11)) (s.run k)
def Scn.ops (s:Scn):List Oq:=(s.run (min s.rn 9)).1++List.replicate (s.run (min s.rn 9)).2.length popO
def jHi (n:Nat) (xs:List DV):Prop:=xs.length=n*5/\∀ k,k<n->xs[k*5]?=some (.int .i64 (nAt xs (k*5)))/\xs[k*5+1]?=some (.int .i64 (nAt xs (k*5+1)))/\xs[k*5+1+1]?=some (.int .i64 (nAt xs (k*5+1+1)))/\xs[k*5+1+1+1]?=some (.int .i64 (nAt xs (k*5+1+1+1)))/\xs[k*5+1+1+1+1]?=some (.sl (lAt xs (k*5+1+1+1+1)) (cAt xs (k*5+1+1+1+1)))/\Is5 (lAt xs (k*5+1+1+1+1)) (cAt xs (k*5+1+1+1+1))
def yQ9 (n:Nat) (xs:List DV):Prop:=xs.length=n*11/\∀ i,i<n*11->xs[i]?=some (.int .i64 (nAt xs i))
def Scn.ok (s:Scn):Prop:=(s.oxs=is (ints s.oxs)/\s.on=s.oxs.length)/\jHi s.pn s.pxs/\yQ9 s.rn s.rxs
theorem Scn.facts (s:Scn):(0<=modS s.x 13/\modS s.x 13<13)/\(0<=modS s.y 13/\modS s.y 13<13)/\(1<=s.gw/\s.gw<=5)/\(1<=s.gh/\s.gh<=4)/\(1<=s.gtw/\s.gtw<=s.gw)/\(1<=s.gth/\s.gth<=s.gh):=by
 have a:=@zZa s.x 13 (by omega) (by omega);have b:=@zZa s.y 13 (by omega) (by omega);have c:=@zZa s.w 5 (by omega) (by omega);have d:=@zZa s.h 4 (by omega) (by omega);have e:1<=s.gw/\s.gw<=5:=by unfold Scn.gw; omega
 have f:1<=s.gh/\s.gh<=4:=by unfold Scn.gh; omega
 have g:=@zZa s.tw s.gw (by omega) (by omega);have h:=@zZa s.th s.gh (by omega) (by omega);exact ⟨a,b,e,f,by unfold Scn.gtw; omega,by unfold Scn.gth; omega⟩
theorem Scn.pics_succ (s:Scn) (k:Nat):s.pics (k+1)=s.pics k++[s.pic k]:=by simp [Scn.pics,wXP]
theorem Scn.pics_len (s:Scn) (k:Nat):(s.pics k).length=k:=by simp [Scn.pics]
theorem Scn.ims_len (s:Scn):1<=s.ims.length/\s.ims.length<=4:=by
 unfold Scn.ims;split
 ·simp
 ·rw [Scn.pics_len]; omega
theorem Scn.run_len (s:Scn) (k:Nat):(s.run k).1.length=k/\(s.run k).2.length<=k:=by
 induction k with
 | zero=>simp [Scn.run]
 | succ k ih=>
  simp only [Scn.run,Scn.step];split
  ·simp; omega
  ·simp only [];split<;>simp<;>omega
theorem Scn.most_in (s:Scn):s.most=255\/s.most=65535:=by
 unfold Scn.most gMax;split<;>simp
theorem Scn.ims_isU (s:Scn):∀ m∈s.ims,m.isU:=by
 intro m hm;unfold Scn.ims at hm;split at hm
 ·rw [wQj] at hm; subst hm; exact zV1 _ _ _
 ·simp only [Scn.pics,wQv] at hm;obtain ⟨k,_,rfl⟩:=hm;exact jVK _ _ _ _ _ _ _ _ _ _ _
theorem Scn.c_facts (s:Scn):s.c.c-s.c.a=s.gw/\s.c.d-s.c.b=s.gh /\ -6<=s.c.a/\s.c.a<=6 /\ -6<=s.c.b/\s.c.b<=6:=by
 have:=s.facts;simp only [Scn.c,Scn.gw,Scn.gh] at this |-;omega
theorem Scn.bits_of (s:Scn):(gMax s.b>255->16=s.bits)/\(¬ gMax s.b>255->8=s.bits):=by
 unfold Scn.bits Scn.most;exact ⟨λh=>by rw [if_pos h],λh=>by rw [if_neg h]⟩
theorem cnt1 {n w:Int} (h:1<=w) (hw:w<=n) (hn:n<=5):1<=wrap .i64 (Int.tdiv (wrap .i64 (wrap .i64 (wrap .i64 n+w)-1)) w)/\wrap .i64 (Int.tdiv (wrap .i64 (wrap .i64 (wrap .i64 n+w)-1)) w)<=n:=by
 rw [wQb n ⟨by omega,by omega⟩,wQb (n+w) ⟨by omega,by omega⟩,wQb (n+w-1) ⟨by omega,by omega⟩,wQS (by omega)];have:1<=(n+w-1) / w/\(n+w-1) / w<=n:=by
  rcases (show w=1\/w=2\/w=3\/w=4\/w=5 by omega) with rfl | rfl | rfl | rfl | rfl<;>omega
 rw [wQb _ ⟨by omega,by omega⟩];exact this
theorem Scn.cnt (s:Scn):(cntS s.c s.gtw s.gth).2.2=true/\(1<=(cntS s.c s.gtw s.gth).1/\(cntS s.c s.gtw s.gth).1<=5)/\1<=(cntS s.c s.gtw s.gth).2.1/\(cntS s.c s.gtw s.gth).2.1<=4:=by
 obtain ⟨f1,f2,f3,f4,f5,f6⟩:=s.facts;have CF:=s.c_facts;have he:Rc.empty s.c=false:=by
  rw [Rc.empty_iff]; omega
 unfold cntS;rw [he,if_neg (by simp),CF.1,CF.2.1,if_neg (by rw [wQb _ ⟨by omega,by omega⟩,wQb _ ⟨by omega,by omega⟩]; omega)];have a:=cnt1 f5.1 f5.2 (by omega);have b:=cnt1 f6.1 f6.2 (by omega);exact ⟨rfl,⟨a.1,wZH a.2 (by omega)⟩,b.1,wZH b.2 (by omega)⟩
theorem Scn.tiles_in (s:Scn):0<=s.tiles/\s.tiles<=20:=by
 obtain ⟨_,a,b⟩:=s.cnt;unfold Scn.tiles;generalize (cntS s.c s.gtw s.gth).1=x at *;generalize (cntS s.c s.gtw s.gth).2.1=y at *;have h1:0<=x*y:=Int.mul_nonneg (by omega) (by omega);have h2:x*y<=5*4:=wQx a.2 b.2 (by omega) (by omega);rw [wQb _ ⟨by omega,by omega⟩];omega
theorem Scn.run_pop {s:Scn} {k:Nat} (h:modS (rwAt s.rxs (k*11)).k 8=0/\0<(s.run k).2.length):s.run (k+1)=((s.run k).1++[popO],(s.run k).2.dropLast):=by
 simp only [Scn.run,Scn.step];rw [if_pos h]
theorem Scn.run_op {s:Scn} {k:Nat} (h:¬ (modS (rwAt s.rxs (k*11)).k 8=0/\0<(s.run k).2.length)) {o:Oq} (ho:o=gOp (rwAt s.rxs (k*11)) (decide (modS (rwAt s.rxs (k*11)).k 8<3)) s.ims.length s.c (ctxB (s.run k).2) s.most) :
  (o.kind=2->s.run (k+1)=((s.run k).1++[o],(s.run k).2++[o]))/\(o.kind≠2->s.run (k+1)=((s.run k).1++[o],(s.run k).2)):=by
 have e:s.run (k+1)=((s.run k).1++[o],if modS (rwAt s.rxs (k*11)).k 8<3 then (s.run k).2++[o] else (s.run k).2):=by
  simp only [Scn.run,Scn.step];rw [if_neg h,<- ho]
 have hk:o.kind=if modS (rwAt s.rxs (k*11)).k 8<3 then 2 else 1:=by
  rw [ho];simp [gOp]
 rw [e,hk];split<;>simp
abbrev wYA:=@List.getLast?_eq_getElem?
theorem jUw {l:List Oq} (h:0<l.length):ctxB l=(l[l.length-1].iso && !l[l.length-1].kno):=by
 unfold ctxB;rw [wYA,List.getElem?_eq_getElem (by omega)]
abbrev iD (q:Im):List DV:=[DV.int .i64 q.w,DV.int .i64 q.h,DV.bool q.so,DV.int .u16 q.c.a,DV.int .u16 q.c.b,DV.int .u16 q.c.c,DV.int .u16 q.c.al,DV.int .u16 q.c.f,DV.int .i64 q.p0.w,DV.int .i64 q.p0.h,DV.int .i64 q.p0.s,DV.sl q.p0.n q.p0.xs,DV.int .i64 q.p1.w,DV.int .i64 q.p1.h,DV.int .i64 q.p1.s,DV.sl q.p1.n q.p1.xs,DV.int .i64 q.p2.w,DV.int .i64 q.p2.h,DV.int .i64 q.p2.s,DV.sl q.p2.n q.p2.xs,DV.int .i64 q.p3.w,DV.int .i64 q.p3.h,DV.int .i64 q.p3.s,DV.sl q.p3.n q.p3.xs,DV.int .i64 q.p4.w,DV.int .i64 q.p4.h,DV.int .i64 q.p4.s,DV.sl q.p4.n q.p4.xs]
abbrev pD (q:Px):List DV:=[DV.int .u16 q.a,DV.int .u16 q.b,DV.int .u16 q.c,DV.int .u16 q.al,DV.int .u16 q.f]
def gZ3:List RV->Option RV:=λ| [.d (.int _ w),.d (.int _ h)]=>some (RV.d (dQ (zZg w h))) | _=>none
def gZ4:List RV->Option RV:=λ| [.agg [.int _ w,.int _ h,.int _ s,.sl n xs]]=>some (RV.d (dQ (zQM w h s n))) | _=>none
def gZ5:List RV->Option RV:=λ| [.agg [.int _ c0,.int _ c1,.int _ c2,.int _ ca,.int _ cf],.d (.int _ most)]=>some (RV.d (dQ (Px.ok ⟨c0,c1,c2,ca,cf⟩ most))) | _=>none
def gZ6:List RV->Option RV:=λ| [.agg [.int _ w,.int _ h,.bool so,.int _ c0,.int _ c1,.int _ c2,.int _ ca,.int _ cf,.int _ w0,.int _ h0,.int _ s0,.sl n0 xs0,.int _ w1,.int _ h1,.int _ s1,.sl n1 xs1,.int _ w2,.int _ h2,.int _ s2,.sl n2 xs2,.int _ w3,.int _ h3,.int _ s3,.sl n3 xs3,.int _ w4,.int _ h4,.int _ s4,.sl n4 xs4]]=>some (RV.d (dQ (Im.formed ⟨w,h,so,⟨c0,c1,c2,ca,cf⟩,⟨w0,h0,s0,n0,xs0⟩,⟨w1,h1,s1,n1,xs1⟩,⟨w2,h2,s2,n2,xs2⟩,⟨w3,h3,s3,n3,xs3⟩,⟨w4,h4,s4,n4,xs4⟩⟩))) | _=>none
def gZ7:List RV->Option RV:=λ| [.agg [.int _ w,.int _ h,.bool so,.int _ c0,.int _ c1,.int _ c2,.int _ ca,.int _ cf,.int _ w0,.int _ h0,.int _ s0,.sl n0 xs0,.int _ w1,.int _ h1,.int _ s1,.sl n1 xs1,.int _ w2,.int _ h2,.int _ s2,.sl n2 xs2,.int _ w3,.int _ h3,.int _ s3,.sl n3 xs3,.int _ w4,.int _ h4,.int _ s4,.sl n4 xs4],.d (.int _ x),.d (.int _ y)]=>some (RV.agg (pD (Im.px ⟨w,h,so,⟨c0,c1,c2,ca,cf⟩,⟨w0,h0,s0,n0,xs0⟩,⟨w1,h1,s1,n1,xs1⟩,⟨w2,h2,s2,n2,xs2⟩,⟨w3,h3,s3,n3,xs3⟩,⟨w4,h4,s4,n4,xs4⟩⟩ x y))) | _=>none
def gZ8:List RV->Option RV:=λ| [.agg [.int _ w,.int _ h,.bool so,.int _ c0,.int _ c1,.int _ c2,.int _ ca,.int _ cf,.int _ w0,.int _ h0,.int _ s0,.sl n0 xs0,.int _ w1,.int _ h1,.int _ s1,.sl n1 xs1,.int _ w2,.int _ h2,.int _ s2,.sl n2 xs2,.int _ w3,.int _ h3,.int _ s3,.sl n3 xs3,.int _ w4,.int _ h4,.int _ s4,.sl n4 xs4],.d (.int _ x),.d (.int _ y)]=>some (RV.agg (pD (Im.at_ ⟨w,h,so,⟨c0,c1,c2,ca,cf⟩,⟨w0,h0,s0,n0,xs0⟩,⟨w1,h1,s1,n1,xs1⟩,⟨w2,h2,s2,n2,xs2⟩,⟨w3,h3,s3,n3,xs3⟩,⟨w4,h4,s4,n4,xs4⟩⟩ x y))) | _=>none
def gZ9:List AV->List Bx->Option Ret:=λ| [AV.one (Cl.d (DV.int _ w)),AV.one (Cl.d (DV.int _ h)),AV.one (Cl.d (DV.sl n xs))],[]=>some ⟨AV.tup [AV.agg [cJ (imOf w h (zQg xs)).w,cJ (imOf w h (zQg xs)).h,Cl.d (dQ (imOf w h (zQg xs)).so),cK (imOf w h (zQg xs)).c.a,cK (imOf w h (zQg xs)).c.b,cK (imOf w h (zQg xs)).c.c,cK (imOf w h (zQg xs)).c.al,cK (imOf w h (zQg xs)).c.f,cJ (imOf w h (zQg xs)).p0.w,cJ (imOf w h (zQg xs)).p0.h,cJ (imOf w h (zQg xs)).p0.s,Cl.ref 0 (imOf w h (zQg xs)).p0.n,cJ (imOf w h (zQg xs)).p1.w,cJ (imOf w h (zQg xs)).p1.h,cJ (imOf w h (zQg xs)).p1.s,Cl.ref 1 (imOf w h (zQg xs)).p1.n,cJ (imOf w h (zQg xs)).p2.w,cJ (imOf w h (zQg xs)).p2.h,cJ (imOf w h (zQg xs)).p2.s,Cl.ref 2 (imOf w h (zQg xs)).p2.n,cJ (imOf w h (zQg xs)).p3.w,cJ (imOf w h (zQg xs)).p3.h,cJ (imOf w h (zQg xs)).p3.s,Cl.ref 3 (imOf w h (zQg xs)).p3.n,cJ (imOf w h (zQg xs)).p4.w,cJ (imOf w h (zQg xs)).p4.h,cJ (imOf w h (zQg xs)).p4.s,Cl.ref 4 (imOf w h (zQg xs)).p4.n],AV.one (Cl.d (dQ (ofOk w h n)))],[Bx.row 34 1 (imOf w h (zQg xs)).p0.xs,Bx.row 34 1 (imOf w h (zQg xs)).p1.xs,Bx.row 34 1 (imOf w h (zQg xs)).p2.xs,Bx.row 34 1 (imOf w h (zQg xs)).p3.xs,Bx.row 34 1 (imOf w h (zQg xs)).p4.xs],true⟩ | _,_=>none
def gamI:Gam:=gamW.add [.p 83 gZ3,
 .p 86 gZ3,
 .p 257 gZ3,
 .p 237 (λ| [.agg [.int _ w,.int _ h,.int _ s,.sl n xs]]=>some (RV.d (dQ (zJJ ⟨w,h,s,n,xs⟩))) | _=>none),
 .p 258 (λ| [.d (.int _ w),.d (.int _ h),.d (.int _ s)]=>some (rJ (lenW w h s)) | _=>none),
 .p 238 gZ4,
 .p 163 gZ4,
 .p 117 gZ5,
 .p 231 gZ5,
 .p 208 gZ6,
 .p 87 (λ| [.agg [.int _ w,.int _ h,.bool so,.int _ c0,.int _ c1,.int _ c2,.int _ ca,.int _ cf,.int _ w0,.int _ h0,.int _ s0,.sl n0 xs0,.int _ w1,.int _ h1,.int _ s1,.sl n1 xs1,.int _ w2,.int _ h2,.int _ s2,.sl n2 xs2,.int _ w3,.int _ h3,.int _ s3,.sl n3 xs3,.int _ w4,.int _ h4,.int _ s4,.sl n4 xs4]]=>some (RV.d (dQ (Im.inner ⟨w,h,so,⟨c0,c1,c2,ca,cf⟩,⟨w0,h0,s0,n0,xs0⟩,⟨w1,h1,s1,n1,xs1⟩,⟨w2,h2,s2,n2,xs2⟩,⟨w3,h3,s3,n3,xs3⟩,⟨w4,h4,s4,n4,xs4⟩⟩))) | _=>none),
 .p 42 gZ6,
 .p 155 gZ7,
 .p 43 gZ7,
 .p 153 (λ| [.agg [.int _ w,.int _ h,.bool so,.int _ c0,.int _ c1,.int _ c2,.int _ ca,.int _ cf,.int _ w0,.int _ h0,.int _ s0,.sl n0 xs0,.int _ w1,.int _ h1,.int _ s1,.sl n1 xs1,.int _ w2,.int _ h2,.int _ s2,.sl n2 xs2,.int _ w3,.int _ h3,.int _ s3,.sl n3 xs3,.int _ w4,.int _ h4,.int _ s4,.sl n4 xs4]]=>some (rJ (Im.shape ⟨w,h,so,⟨c0,c1,c2,ca,cf⟩,⟨w0,h0,s0,n0,xs0⟩,⟨w1,h1,s1,n1,xs1⟩,⟨w2,h2,s2,n2,xs2⟩,⟨w3,h3,s3,n3,xs3⟩,⟨w4,h4,s4,n4,xs4⟩⟩)) | _=>none),
 .p 33 (λ| [.d (.int _ w),.d (.int _ h),.agg [.int _ c0,.int _ c1,.int _ c2,.int _ ca,.int _ cf]]=>some (RV.agg (iD (zQ3 w h ⟨c0,c1,c2,ca,cf⟩))) | _=>none),
 .p 76 (λ| [.agg [.int _ w,.int _ h,.bool so,.int _ c0,.int _ c1,.int _ c2,.int _ ca,.int _ cf,.int _ w0,.int _ h0,.int _ s0,.sl n0 xs0,.int _ w1,.int _ h1,.int _ s1,.sl n1 xs1,.int _ w2,.int _ h2,.int _ s2,.sl n2 xs2,.int _ w3,.int _ h3,.int _ s3,.sl n3 xs3,.int _ w4,.int _ h4,.int _ s4,.sl n4 xs4],.d (.int _ most)]=>some (rJ (Im.valid ⟨w,h,so,⟨c0,c1,c2,ca,cf⟩,⟨w0,h0,s0,n0,xs0⟩,⟨w1,h1,s1,n1,xs1⟩,⟨w2,h2,s2,n2,xs2⟩,⟨w3,h3,s3,n3,xs3⟩,⟨w4,h4,s4,n4,xs4⟩⟩ most)) | _=>none),
 .p 215 gZ8,
 .p 13 gZ8,
 .p 30 (λ| [.d (.int _ n)]=>some (RV.d (dK (gMax n))) | _=>none),
 .p 45 (λ| [.d (.int _ n),.d (.int _ most)]=>some (RV.d (dK (zQQ n most))) | _=>none),
 .p 150 (λ| [.agg [.int _ n0,.int _ n1,.int _ n2,.int _ n3,.int _ n4],.d (.int _ most)]=>let a:=(zYM n0 n1 n2 n3 n4 most); some (RV.agg (pD a)) | _=>none),
 .p 73 (λ| []=>some (RV.tup [RV.tup [rJ 37,rJ 5]]) | [.agg [.int _ mood,.sl L xs],.d (.int _ n),.d (.int _ most)]=>some (RV.d (dS n.toNat (pxs (zQm mood L xs most n.toNat)))) | _=>none),
 .q 154 ([true,true],0,2) (λ| [AV.one (Cl.d (DV.int _ w)),AV.one (Cl.d (DV.int _ h))],[]=>some ⟨AV.one (Cl.clo 209 [Cap.ptr 0 0,Cap.ptr 1 0]),[bC [cJ h],bC [cJ w]],false⟩ | _,_=>none),
 .q 38 ([true,true,true],0,5) gZ9,
 .q 74 ([true,true,true],0,5) gZ9,
 .r 209 (λ| [(true,[DV.int _ h]),(true,[DV.int _ w])]=>some ((w.toNat*h.toNat),λ_k=>[dJ ((_k%w.toNat:Nat):Int),dJ ((_k / w.toNat:Nat):Int)]) | _=>none)]
section
attribute [local irreducible] Ans AnsO AnsG AnsN AnsI
def aE (a:Int):DV:=DV.int IntKind.u16 a
def aP (a:Int):RV:=RV.d (aE a)
def iJ (a b c:Int):Prop:=jE 27 a b [] (modS a c)
def vK (a b c:Int) (d e:Prop):Prop:=True/\iJ a b c/\True/\d/\e
def gJ (a b:Int) (c:Prop):Prop:=(a==b)=true->True/\c
def lZ (a b:Int):Prop:=aP a=aP b
def nA (a b:Int) (c:Prop):Prop:=(a==b)=false->True/\c
theorem zUb (n:Int):Ans prog 30 [rJ (n)] (rD (dK (gMax n))):=
 zQa (Γ:=gamI) aL zQb Tryz.func30 rfl (nL rfl) λhwf=>by
  refine Eq.mpr (by kernel_rfl:_=(True/\vK n 3 3 (gJ (modS n 3) 2 (lZ 65535 (gMax n))) (nA (modS n 3) 2 (lZ 255 (gMax n))))) ?_;delta eS aE aP jE iJ vK gJ lZ nA;simp only [sS,zQh];unfold gMax; grind
def eW (a b:Int) (c:Prop):Prop:=(a==b)=true->True/\True/\c
def tI (a b:Int):Bool:=modS a b==0
def yF (a b:Int) (c:Prop):Prop:=tI a b=true->True/\c
def iK (a b:Prop):Prop:=a/\True/\b
def dC (a b:Int) (c:Prop):Prop:=(a==b)=true->c
def iY (a b c:Prop):Prop:=True/\True/\True/\True/\a/\True/\True/\b/\c
def kU (a:Int):Int:=wrap IntKind.u16 a
def iL (a b:Int):Int:=aI (aI a+b)
def dU (a b:Int) (c:Prop) (d:Int) (e f:Prop):Prop:=cR (a==b) c (cR (a==d) e f)
theorem zX3 (n most:Int):Ans prog 45 [rJ (n),rD (dK most)] (rD (dK (zQQ n most))):=
 zQa (Γ:=gamI) aL zQb Tryz.func45 rfl (nL rfl) λhwf=>by
  refine Eq.mpr (by kernel_rfl:_=(let b:=zQQ n most;let e:=aI (aI most+1);let c:=fT n 8;let d:=(8:Int)≠0;let a:=modS n 8;let f:=nA a 4 (iK d (aK (vO c e []) (lZ (kU (modS c e)) b)));let g:=gJ a 4 (True/\d/\aM (iJ (fT n 8) 4 4) (lZ (kU (Min.min (aI most) (modS c 4))) b));let h:=dC a 3 (True/\True/\d/\iJ (fT n 8) 2 2/\aK ((2:Int)≠0) (lZ (kU (fT (iL most (modS c 2)) 2)) b));True/\iY (iJ n 8 8) (yF n 8 (aP 0=aP b)) (cR (tI n 8) (dC a 1 (eW (modS n 8) 1 (lZ most b)/\dU a 1 h 3 g f)) (cR (a==1) (eW (modS n 8) 2 (lZ most b)) (dU a 2 h 3 g f))))) ?_;delta eS aE aI aP aK jE fT eW iJ tI yF gJ lZ nA aM vO iK cR dC iY kU iL dU;simp only [sS,zQh,zUb];unfold zQQ; grind
def oF (a b:Int) (c:Nat):Prop:=0<=a/\b<(c:Int)
def dR (a b c d e:Int):List DV:=[aE a,aE b,aE c,aE d,aE e]
def lW (a b c d e:Int):RV:=RV.agg (dR a b c d e)
def fL (a:Nat):Prop:=oF 0 0 a
def vC (a:FuncId) (b c:Int) (e:List RV) (f:RV):Prop:=Ans prog a (RV.d (DV.int IntKind.i64 b)::aP c::e) f
def tM (a b:Int):Prop:=vC 45 a b [] (aP (zQQ a b))
def cL (a b c d e f g h i:Prop):Prop:=a/\b/\c/\d/\e/\f/\g/\h/\i
def iX (a:Nat):Prop:=oF 1 1 a
def jT (a:Nat):Prop:=oF 2 2 a
def kR (d:Px):RV:=lW d.a d.b d.c d.al d.f
def aDQ (a b c d:Int):List DV:=[aE a,aE b,aE c,aE d,aE d]
def aAI:Prop:=oF 3 3 5
theorem jQa (n0 n1 n2 n3 n4 most:Int):Ans prog 150 [rA [dJ n0,dJ n1,dJ n2,dJ n3,dJ n4],rD (dK most)] (rA (pD (zYM n0 n1 n2 n3 n4 most))):=
 zQa (Γ:=gamI) aL zQb Tryz.func150 rfl (nL rfl) λhwf=>by
  refine Eq.mpr (by kernel_rfl:_=(let e:=kR (zYM n0 n1 n2 n3 n4 most);let a:=zQQ n4 most;let c:=zQQ n4 most;let d:=fT n3 3;let b:=zQQ d c;let f:=zQQ d a;True/\True/\oF 4 4 5/\True/\True/\tM n4 most/\True/\True/\True/\aAI/\vK n3 3 3 (nE (modS n3 3) 0->cL aAI True ((3:Int)≠0) True (tM d a) True (fL 5) True (cZ (tM n0 b) (iX 5) (cZ (tM n1 b) (jT 5) (aK (tM n2 b) (dA (lW (zQQ n0 f) (zQQ n1 f) (zQQ n2 b) b a=e)))))) (gT (modS n3 3) 0->iK (fL 5) (cZ (tM n0 a) (iX 5) (cZ (tM n1 a) (jT 5) (aK (tM n2 a) (dA (rA (aDQ (zQQ n0 c) (zQQ n1 c) (zQQ n2 c) a)=e)))))))) ?_;delta eS cZ aE aI aP aK oF dR jE lW fT fL iJ vK dA vC tM nE cL gT iX jT iK kR aDQ aAI;simp only [sS,zQh,zUb,zX3,zX3];simp [zYM]; grind
def vM (a:Nat) (b:Int) (c d:Nat) (e:List (Nat × AV)):List (Nat × AV):=aFI a (aE b) c d e
def fO (a:Nat) (b:List DV) (c:List Cl):List Cl:=Cl.d (DV.sl a b)::c
def aAJ (a:Int) (b:List (Nat × AV)):List (Nat × AV):=aCE 1 a b
def vH (a:Int):DV:=DV.int IntKind.i64 a
def bD (a:List DV) (b:Nat) (c:Int):Prop:=a[b]?=some (aE c)
def aAK (a:Int) (b:Nat) (c:List DV) (d:Int) (e f g:Nat):Prop:=bD (pxs (zQm a b c d e)) f (nAt (pxs (zQm a b c d e)) g)
def bZ (a:Int):Prop:=eS (aE a)
def eZ (a:Prop):Prop:=True/\a
def aU (a:List DV) (b:Nat):Int:=nAt a (b+1+1+1+1)
def bQ (a:List DV) (b:Nat):Prop:=fY a (b+1+1)
def gX (a:Int) (b:Prop):Prop:=bG a/\b
def bV (a b:Prop):Prop:=True/\True/\True/\a/\True/\True/\True/\True/\b
def dB (d:Px):List DV:=dR d.a d.b d.c d.al d.f
def jH (a:List DV) (b:Int) (c:Nat):Int:=nAt a (aY b c+1)
def gE (a:List DV) (b:Int) (c:Nat):Int:=nAt a (aY b c+1+1+1)
def kT (a:List DV) (b c:Nat):Int:=aU a (aT b c)
def oG (a:List DV) (b:Int) (c:Nat):Prop:=kS a (aY b c) 1
def oH:List DV:=dR 0 0 0 0 0
def vU (a b:Nat) (c:Int) (d:Nat) (e:List DV) (f:Int) (g:List DV) (h:Prop):Prop:=bV (zZ2 a 10 b 1 (pxs (zQm c d e f b)) g) h
def aDR (a:Nat) (b:Prop):Prop:=gT (a:Int) 0->b
def vT (a:Nat) (b:Int) (c:Nat) (d e:Int) (f:Nat) (g h:List DV):Prop:=jF a b/\nM (yI b a c) (gX b (gW (bZ d) (eS (0:Nat)) (c+1=a) c a)) [DV.int IntKind.i64 e,DV.sl f g] h (pxs (zQm e f g d a))
theorem zU6 (mood:Int) (L:Nat) (xs:List DV) (n most:Int) (hx:Is5 L xs) (hn:n<=16777216):AnsO prog 73 [rA [dJ mood,dS L xs],rJ (n),rD (dK most)] 37 5 n.toNat (pxs (zQm mood L xs most n.toNat)):=
 zVW (t:=6) (Γ:=gamI) (eF (Ann.loop (Inv.mk Nat (λ(c:Nat)=>jF c n) (λ(a:Nat)=>qZ (aAJ n (vM 2 most 3 3 (mE 7 5000 a 8 (yG a) []))) 3 (bO mood::fO L xs []) (jU 5000 37 5 (pxs (zQm mood L xs most a)))) (λ(b:Nat)=>kQ n b)) (λ(d:Nat)=>aL))) zQb Tryz.func73 rfl (nL rfl) rfl λhwf=>by
  refine Eq.mpr (by kernel_rfl:_=(let t:=pxs (zQm mood L xs most (Int.toNat n));let d:=zYM 0 0 0 0 0 most;let u:=dB d;let e:=modS mood 6;let m:=(e==2)=false;let o:=e==1;let x:=aDQ d.a d.b d.c most;let j:=modS mood 6;let p:=tI mood 6;let r:=iJ mood 6 6;let s:=[aP most];let k:=(L:Int);vW (∃ i:Nat,aF (jF i n) (gX n (mG (bZ most) (eS (0:Nat)) (0=i) i)) (eS [vH mood,DV.sl L xs]) (([]:List DV)=pxs (zQm mood L xs most i))) (∀ a:Nat,let b:=pxs (zQm mood L xs most a);let v:=vU 5 a mood L xs most u (∃ M:Nat,vT M n a most mood L xs (b++u));let f:=pxs (zQm mood L xs most a);let w:=dR (nAt f 0) (nAt f 1) (nAt f 2) (nAt f 3) (nAt f 4);let V:=cZ (fL a) (gU (aAK mood L xs most a 0 0) (aAK mood L xs most a 1 1) (aAK mood L xs most a 2 2) (aAK mood L xs most a 3 3) (aAK mood L xs most a 4 4)) (vU 5 a mood L xs most w (∃ O:Nat,vT O n a most mood L xs (b++w)));let W:=nE (a:Int) 0;let q:=eW j 0 (vU 5 a mood L xs most oH (∃ Q:Nat,vT Q n a most mood L xs (b++oH)));let y:=True/\bF 150 (vH 0::vV) s (kR d)/\iY r q (cR p (eW j 1 (True/\True/\True/\True/\vU 5 a mood L xs most x (∃ P:Nat,vT P n a most mood L xs (b++x)))) (cR o (dC e 2 (tP a (W->V) (aDR a v))) (m->v)));let g:=zYM (bT xs a 5) (dT xs a 5) (eH xs a 5) (dE xs a 5) (kT xs a 5) most;let z:=dB g;let A:=vU 5 a mood L xs most z (∃ R:Nat,vT R n a most mood L xs (b++z));let B:=aDQ g.a g.b g.c most;let c:=Int.tmod (a:Int) k;let l:=aY c 5;let C:=aU xs l;let D:=gE xs c 5;let E:=aY c 5;let F:=nAt xs (E+1+1);let G:=jH xs c 5;let H:=nAt xs E;let h:=zYM H G F D C most;let I:=dB h;let J:=vU 5 a mood L xs most I (∃ T:Nat,vT T n a most mood L xs (b++I));let K:=aDQ h.a h.b h.c most;dX (jF a n) (yJ (nG a n true) (fU (L:Int) 0 (bV (k≠0) (True/\True/\True/\pK c k (True/\True/\lS c L 5 xs/\gU (jR xs c 5) (oG xs c 5) (fY xs l) (fY xs (l+1)) (bQ xs l)/\bV (bF 150 (vH H::fM G F D C) s (kR h)) (r/\True/\True/\q/\cR p (eW j 1 (True/\True/\True/\True/\vU 5 a mood L xs most K (∃ U:Nat,vT U n a most mood L xs (b++K)))) (cR o (dC e 2 (tP a (W->V) (aDR a J))) (m->J))))/\fV c k y)) (nJ (L:Int) 0 (dP (eX a L true (True/\True/\eG a L 5 xs/\gU (gM xs a 5) (kS xs (aT a 5) 1) (fY xs (aT a 5)) (tQ xs a 5) (bQ xs (aT a 5))/\bV (bF 150 (vH (bT xs a 5)::fM (dT xs a 5) (eH xs a 5) (dE xs a 5) (kT xs a 5)) s (kR g)) (r/\True/\True/\q/\cR p (eW j 1 (True/\True/\True/\True/\vU 5 a mood L xs most B (∃ S:Nat,vT S n a most mood L xs (b++B)))) (cR o (dC e 2 (tP a (W->V) (aDR a A))) (m->A))))) (eX a L false y))))) (nG a n false->eZ (True/\(eS (37:Nat)/\eS (5:Nat))/\List.length t=aY n 5/\a=Int.toNat n/\b=t))))) ?_;delta eS aY lS cZ jR vH aE aI aF aP oF dR bD jE lW eW fL gU dX iJ aAK tI kD pK iQ bG fM bZ kQ jF nH nG fU aT nJ gW dP mG yI nE gT kR aDQ eZ bF kS aU fY cR bQ bT eG gX bV dB eX dT dE eH dC gM fV iY jH gE tQ kT oG oH nM tP vW vV yJ vU aDR vT;simp only [sS,zQh,zUb,zX3,zX3,jQa,jQa];refine ⟨⟨0,Nat.zero_le _,⟨rfl,rfl⟩,rfl⟩,λk hk=>⟨λhlt=>?_,λhge=>?_⟩⟩
  ·have hkn:k<n.toNat:=by omega
   have hnn:n.toNat<=16777216:=by omega
   have tm:Int.tmod (k:Int) (L:Int)=((k%L:Nat):Int):=rfl;simp only [tm,wQl,Nat.add_assoc,Nat.reduceAdd]
   rcases wZ0 L with hL | hL
   ·subst hL;have P1:zYM 0 0 0 0 0 most=gPx1 0 xs most k:=by simp [gPx1,gNum]
    have P0:gPx1 0 xs most 0=gPx1 0 xs most k:=by simp [gPx1,gNum]
    simp only [P1]
    (repeat' (first | apply And.intro | intro))<;>(first | assumption | omega | exact A _ (by omega) | rfl | (rw [zQs,zXt]; done) | (unfold maxLen; omega) | exact zKH (by omega) _ (by omega) | (apply jYx hkn hnn; simp_all [gPx,Px.ds,Px.zero]; done) | (obtain ⟨v0,v1,v2,v3,v4⟩:=jZ8 (mood:=mood) (L:=L) (xs:=xs) (most:=most) (k:=k) (by omega) (wZA (by assumption)); apply jYx hkn hnn; simp_all [gPx,Px.ds]; done) | (obtain ⟨v0,v1,v2,v3,v4⟩:=jZ8 (mood:=mood) (L:=0) (xs:=xs) (most:=most) (k:=k) (by omega) (wZA (by assumption)); apply jYx hkn hnn; simp_all [gPx,Px.ds]; done) | (have P2:=P0 (by omega); apply jYx hkn hnn; simp_all [gPx,Px.ds]; done))
   ·have hmod:=wZr k hL;have P1:zYM (nAt xs (k%L*5)) (nAt xs (k%L*5+1)) (nAt xs (k%L*5+2)) (nAt xs (k%L*5+3)) (nAt xs (k%L*5+4)) most=gPx1 L xs most k:=by simp [gPx1,gNum,hL]
    simp only [P1];have P0:k=0->gPx1 L xs most 0=gPx1 L xs most k:=λh=>by rw [h]
    have A:=hx.2;have B:=hx.1
    (repeat' (first | apply And.intro | intro))<;>(first | assumption | omega | exact A _ (by omega) | rfl | (rw [zQs,zXt]; done) | (unfold maxLen; omega) | exact zKH (by omega) _ (by omega) | (apply jYx hkn hnn; simp_all [gPx,Px.ds,Px.zero]; done) | (obtain ⟨v0,v1,v2,v3,v4⟩:=jZ8 (mood:=mood) (L:=L) (xs:=xs) (most:=most) (k:=k) (by omega) (wZA (by assumption)); apply jYx hkn hnn; simp_all [gPx,Px.ds]; done) | (obtain ⟨v0,v1,v2,v3,v4⟩:=jZ8 (mood:=mood) (L:=0) (xs:=xs) (most:=most) (k:=k) (by omega) (wZA (by assumption)); apply jYx hkn hnn; simp_all [gPx,Px.ds]; done) | (have P2:=P0 (by omega); apply jYx hkn hnn; simp_all [gPx,Px.ds]; done))
  ·have:k=n.toNat:=by omega
   subst this;rw [zQs,zXt];exact ⟨rfl,rfl,rfl⟩
def zZt (op:Int):ByteArray:=if 1<=op/\op<13 then sAt zZU (op.toNat*4) else ⟨#[]⟩
def zX4 (op:Int) (i:Nat):Int:=if 1<=op/\op<13 then nAt zZU (op.toNat*4+i) else 0
def zZE (op:Int):ByteArray:=if 1<=op/\op<13 then sAt zVA op.toNat else ⟨#[]⟩
theorem zYT {op:Int} (h:1<=op/\op<13):op=1\/op=2\/op=3\/op=4\/op=5\/op=6\/op=7\/op=8\/op=9\/op=10\/op=11\/op=12:=by omega
theorem zK0 (op:Int):((zZt op).toList==(⟨#[]⟩:ByteArray).toList)=!decide (1<=op/\op<13):=by
 by_cases h:1<=op/\op<13
 ·rcases zYT h with rfl | rfl | rfl | rfl | rfl | rfl | rfl | rfl | rfl | rfl | rfl | rfl<;>decide +kernel
 ·simp [zZt,h]
theorem zVS (op:Int):((zZE op).toList==(⟨#[]⟩:ByteArray).toList)=!decide (1<=op/\op<13):=by
 by_cases h:1<=op/\op<13
 ·rcases zYT h with rfl | rfl | rfl | rfl | rfl | rfl | rfl | rfl | rfl | rfl | rfl | rfl<;>decide +kernel
 ·simp [zZE,h]
def gZ10:List RV->Option RV:=λ| [.d (.int _ op)]=>some (RV.d (DV.str (zZt op))) | _=>none
def gZ11:List RV->Option RV:=λ| [.d (.int _ op)]=>some (RV.d (dQ (decide (1<=op/\op<13)))) | _=>none
def gZ12:List RV->Option RV:=λ| [.d (.int _ op)]=>some (RV.d (DV.str (zZE op))) | _=>none
def jZ7:Gam:=gamI.add [.p 216 (λ| [.d (.int _ op)]=>some (RV.tup [RV.agg [DV.str (zZt op),dJ (zX4 op 1),dJ (zX4 op 2),dJ (zX4 op 3)],RV.d (dQ (decide (1<=op/\op<13)))]) | _=>none),
 .p 165 gZ10,
 .p 217 gZ11,
 .p 166 gZ12,
 .p 266 gZ10,
 .p 267 gZ12,
 .p 248 gZ11,
 .p 249 gZ11]
def cI (a:Nat):Nat:=a+1+1
def aAZ (a:List UInt8):ByteArray:=ByteArray.mk (List.toArray a)
def rO (a:Int):Bool:=decide (1<=a/\a<13)
def rP (a:List UInt8):DV:=DV.str (aAZ a)
def nT (a:List DV) (b:RV):RV:=RV.tup [RV.agg a,b]
def dG (a:List DV) (b:Bool):RV:=nT a (aB b)
def mU (a:List DV):RV:=nT a (aB true)
def qJ (a:List DV) (b:RV):Prop:=True/\True/\nT a (aB false)=b
def aEL (a:List DV) (b:Nat):Prop:=a[b]?=some (DV.int IntKind.i64 (nAt a b))
def zO (a b c:Int):List DV:=[DV.int IntKind.i64 a,DV.int IntKind.i64 b,DV.int IntKind.i64 c]
theorem zQe (op:Int):Ans prog 216 [rJ (op)] (rT [rA [DV.str (zZt op),dJ (zX4 op 1),dJ (zX4 op 2),dJ (zX4 op 3)],rD (dQ (decide (1<=op/\op<13)))]):=
 zQa (Γ:=jZ7) aL zQb Tryz.func216 rfl (nL rfl) λhwf=>by
  refine Eq.mpr (by kernel_rfl:_=(let b:=DV.str (zZt op)::DV.int IntKind.i64 (zX4 op 1)::DV.int IntKind.i64 (zX4 op 2)::nI (zX4 op 3);let c:=dG b (rO op);let d:=rP []::zO 0 0 0;let e:=0+aY op 4+1;let f:=e+1;let a:=0+aY op 4;let g:=sAt zZU a;dP (aAE op->jS op 13 (qJ d (dG b (rO op))) (fK op 13 (cG (gO op 13) (aF (zZU[a]?=some (DV.str g)) (aEL zZU (a+1)) (aEL zZU (cI a)) (aEL zZU (cI a+1))) (mU (DV.str g::zO (nAt zZU e) (nAt zZU f) (nAt zZU (f+1)))=c)))) (yS op->True/\True/\True/\True/\nT d (aB false)=c))) ?_;delta eS aY mN fK jS aF aAE cG gO dP nI aB cI aAZ rO rP yS nT dG mU qJ aEL zO;simp only [sS];refine ⟨λh1=>⟨λh2=>?_,λh2=>⟨⟨by omega,by omega⟩,?_⟩⟩,λh1=>?_⟩
  ·have h:¬ (1<=op/\op<13):=by omega
   simp [zZt,zX4,h]
  ·have h:1<=op/\op<13:=by omega
   clear h1 h2
   rcases zYT h with rfl | rfl | rfl | rfl | rfl | rfl | rfl | rfl | rfl | rfl | rfl | rfl<;>exact ⟨⟨rfl,rfl,rfl,rfl⟩,⟨rfl,rfl,rfl,rfl⟩,rfl⟩
  ·have h:¬ (1<=op/\op<13):=by omega
   simp [zZt,zX4,h]
def fC (a:FuncId) (b:Int) (c:RV):Prop:=Ans prog a [RV.d (DV.int IntKind.i64 b)] c
def oM (a:ByteArray):RV:=RV.d (DV.str a)
theorem zQn (op:Int):Ans prog 165 [rJ (op)] (rD (DV.str (zZt op))):=
 zQa (Γ:=jZ7) aL zQb Tryz.func165 rfl (nL rfl) λhwf=>by
  refine Eq.mpr (by kernel_rfl:_=(aH (fC 216 op (dG (DV.str (zZt op)::zO (zX4 op 1) (zX4 op 2) (zX4 op 3)) (rO op))) (aG (eS (oM (zZt op)))))) ?_;delta eS aG aH aB fC oM rO nT dG zO;simp only [sS,zQe]
def gP (a b c:Prop):Prop:=True/\True/\True/\(a->True/\True/\True/\True/\b)/\c
theorem zQA (op:Int):Ans prog 217 [rJ (op)] (rD (dQ (decide (1<=op/\op<13)))):=
 zQa (Γ:=jZ7) aL zQb Tryz.func217 rfl (nL rfl) λhwf=>by
  refine Eq.mpr (by kernel_rfl:_=(True/\gP (fQ op 1) (wM op 12 (rO op)) (yZ op 1 (eM (rO op))))) ?_;delta eS aB gP fQ mP eM wM rO yZ;simp only [sS,zQe,zQn];by_cases h:op>=1<;>simp [h]<;>omega
def qH (a:Bool) (b:Prop):Prop:=(!a)=true->True/\b
theorem zQX (op:Int):Ans prog 166 [rJ (op)] (rD (DV.str (zZE op))):=
 zQa (Γ:=jZ7) aL zQb Tryz.func166 rfl (nL rfl) λhwf=>by
  refine Eq.mpr (by kernel_rfl:_=(let a:=sAt zVA (0+aY op 1);True/\True/\fC 217 op (aB (rO op))/\True/\qH (rO op) (rD (rP [])=oM (zZE op))/\(sO (rO op)->cZ (gO op 13) (aZ (zVA[0+aY op 1]?=some (DV.str a))) (oM a=oM (zZE op))))) ?_;delta eS aY aZ cZ gO aB fC aAZ oM rO rP sO qH;simp only [sS,zQe,zQn,zQA];refine ⟨λh=>by simp [zZE,h],λh=>⟨⟨by omega,by omega⟩,?_⟩⟩
  rcases zYT h with rfl | rfl | rfl | rfl | rfl | rfl | rfl | rfl | rfl | rfl | rfl | rfl<;>exact ⟨rfl,rfl⟩
def aBA (a b:Int) (c:Prop):Prop:=decide (a>=b)=true->True/\c
def aBB (a b c d:List UInt8) (e:List DV):List DV:=rP a::rP b::rP c::rP d::e
theorem zZh (op:Int):Ans prog 266 [rJ (op)] (rD (DV.str (zZt op))):=
 zQa (Γ:=jZ7) aL zQb Tryz.func266 rfl (nL rfl) λhwf=>by
  refine Eq.mpr (by kernel_rfl:_=(let a:=rD (rP [])=oM (zZt op);let b:=[(45:UInt8),(97:UInt8),(116:UInt8),(111:UInt8),(112:UInt8)];let c:=[(45:UInt8),(111:UInt8),(117:UInt8),(116:UInt8)];let d:=[(45:UInt8),(105:UInt8),(110:UInt8)];let e:=[(45:UInt8),(111:UInt8),(118:UInt8),(101:UInt8),(114:UInt8)];let f:=rP []::aBB [99,108,101,97,114] [115,114,99] [100,115,116] (115::114::99::e) (aBB (100::115::116::e) (115::114::99::d) (100::115::116::d) (115::114::99::c) (aBB (100::115::116::c) (115::114::99::b) (100::115::116::b) [120,111,114] []));let g:=sAt f (aY op 1);aV (tH (aAE op) (13<=maxLen/\True/\True/\aBA op ((13:Nat):Int) a/\fK op ((13:Nat):Int) (cZ (gO op 13) (aZ (f[aY op 1]?=some (DV.str g))) (oM g=oM (zZt op)))) (yS op) a))) ?_;delta eS aY bY mN fK aZ cZ tH aAE gO aV aAZ oM rP aBA aBB yS;simp only [sS,zQe,zQn,zQA,zQX];refine ⟨λh1=>⟨by decide,λh2=>?_,λh2=>⟨⟨by omega,by omega⟩,?_⟩⟩,λh1=>?_⟩
  ·have h:¬ (1<=op/\op<13):=by omega
   simp [zZt,h]
  ·have h:1<=op/\op<13:=by omega
   clear h1 h2
   rcases zYT h with rfl | rfl | rfl | rfl | rfl | rfl | rfl | rfl | rfl | rfl | rfl | rfl<;>exact ⟨rfl,rfl⟩
  ·have h:¬ (1<=op/\op<13):=by omega
   simp [zZt,h]
theorem zQ2 (op:Int):Ans prog 267 [rJ (op)] (rD (DV.str (zZE op))):=
 zQa (Γ:=jZ7) aL zQb Tryz.func267 rfl (nL rfl) λhwf=>by
  refine Eq.mpr (by kernel_rfl:_=(let b:=rD (rP [])=oM (zZE op);let c:=[(45:UInt8),(108:UInt8),(105:UInt8),(103:UInt8),(104:UInt8),(116:UInt8)];let a:=[(101:UInt8),(110:UInt8)];let d:=rP []::aBB [110,111,114,109,97,108] [109,117,108,116,105,112,108,121] (115::99::114::101::a) [111,118,101,114,108,97,121] (aBB (100::97::114::107::a) (108::105::103::104::116::a) [99,111,108,111,114,45,100,111,100,103,101] [99,111,108,111,114,45,98,117,114,110] (aBB (104::97::114::100::c) (115::111::102::116::c) [100,105,102,102,101,114,101,110,99,101] [101,120,99,108,117,115,105,111,110] []));let e:=sAt d (aY op 1);aV (tH (aAE op) (13<=maxLen/\True/\True/\aBA op ((13:Nat):Int) b/\fK op ((13:Nat):Int) (cZ (gO op 13) (aZ (d[aY op 1]?=some (DV.str e))) (oM e=oM (zZE op)))) (yS op) b))) ?_;delta eS aY bY mN fK aZ cZ tH aAE gO aV aAZ oM rP aBA aBB yS;simp only [sS,zQe,zQn,zQA,zQX,zZh];refine ⟨λh1=>⟨by decide,λh2=>?_,λh2=>⟨⟨by omega,by omega⟩,?_⟩⟩,λh1=>?_⟩
  ·have h:¬ (1<=op/\op<13):=by omega
   simp [zZE,h]
  ·have h:1<=op/\op<13:=by omega
   clear h1 h2
   rcases zYT h with rfl | rfl | rfl | rfl | rfl | rfl | rfl | rfl | rfl | rfl | rfl | rfl<;>exact ⟨rfl,rfl⟩
  ·have h:¬ (1<=op/\op<13):=by omega
   simp [zZE,h]
def aDT (a b:ByteArray):Bool:=ByteArray.toList a==ByteArray.toList b
theorem zXy (op:Int):Ans prog 248 [rJ (op)] (rD (dQ (decide (1<=op/\op<13)))):=
 zQa (Γ:=jZ7) aL zQb Tryz.func248 rfl (nL rfl) λhwf=>by
  refine Eq.mpr (by kernel_rfl:_=(True/\aK (fC 266 op (oM (zZt op))) (aB (!(aDT (zZt op) (aAZ [])))=aB (rO op)))) ?_;delta eS aK aB fC aAZ oM aDT rO;simp only [sS,zQe,zQn,zQA,zQX,zZh,zQ2];rw [zK0]; simp
theorem zZ9 (op:Int):Ans prog 249 [rJ (op)] (rD (dQ (decide (1<=op/\op<13)))):=
 zQa (Γ:=jZ7) aL zQb Tryz.func249 rfl (nL rfl) λhwf=>by
  refine Eq.mpr (by kernel_rfl:_=(True/\aK (fC 267 op (oM (zZE op))) (aB (!(aDT (zZE op) (aAZ [])))=aB (rO op)))) ?_;delta eS aK aB fC aAZ oM aDT rO;simp only [sS,zQe,zQn,zQA,zQX,zZh,zQ2,zXy];rw [zVS]; simp
def jGv:Gam:=jZ7.add [.p 152 (λ| [.d (.sl n xs)]=>some (RV.d (dQ ((ints xs).all zXr))) | _=>none),
 .p 164 (λ| [.agg [.int _ okind,.int _ oimage,.int _ ox,.int _ oy,.int _ omask,.int _ omx,.int _ omy,.int _ oopac,.int _ ooper,.int _ omode,.bool oiso,.bool okno]]=>some (RV.d (dQ (Oq.fields ⟨okind,oimage,ox,oy,omask,omx,omy,oopac,ooper,omode,oiso,okno⟩))) | _=>none),
 .p 167 (λ| [.d (.sl n xs)]=>some (RV.d (dQ (ctxB (zQl xs)))) | _=>none)]
def yE (a:Oq) (b c d:Int):Oq:=⟨a.kind,a.image,a.x,a.y,a.mask,a.mx,a.my,b,c,d,a.iso,a.kno⟩
def mB (a:Bool) (b:Prop):Prop:=a=(!true)->True/\b
def nN (a b:Int) (c d:Prop):Prop:=True/\True/\True/\dC a b c/\d
def nO (a:Bool) (b:Prop):Prop:=mB a (True/\True/\b)
def pS (a b c:Bool):Bool:=Bool.and a (Bool.and b c)
def mO (a:Bool) (b c:Prop):Prop:=True/\True/\True/\(a=true->True/\b)/\(a=false->True/\c)
def pT (a:Bool) (b c:Prop):Prop:=True/\True/\True/\(a=false->True/\b)/\c
def kZ (a b:Int) (c d:Prop):Prop:=bY ((a==b)=true) c d
def hZ (a:Int):Prop:=(a !=0)=false
def aCH (a:Bool) (b c:Prop):Prop:=True/\True/\True/\(a=true->True/\b)/\mB a c
abbrev oD (q:Oq):List DV:=[DV.int .i64 q.kind,DV.int .i64 q.image,DV.int .i64 q.x,DV.int .i64 q.y,DV.int .i64 q.mask,DV.int .i64 q.mx,DV.int .i64 q.my,DV.int .u16 q.opac,DV.int .i64 q.oper,DV.int .i64 q.mode,DV.bool q.iso,DV.bool q.kno]
theorem zQ7 (o:Oq):Ans prog 164 [rA (oD o)] (rD (dQ (Oq.fields ⟨o.kind,o.image,o.x,o.y,o.mask,o.mx,o.my,o.opac,o.oper,o.mode,o.iso,o.kno⟩))):=
 zQa (Γ:=jGv) aL zQb Tryz.func164 rfl (nL rfl) λhwf=>by
  refine Eq.mpr (by kernel_rfl:_=(let a:=Oq.fields (yE o o.opac o.oper o.mode);let c:=fI o.mask;let d:=jV c (oN a);let e:=kZ o.mx 0 (aBN (o.my==0) a) (nO (o.mx==0) (eM a));let f:=eM a;let b:=o.kind;let g:=aCH (b==2) (bY (hZ o.image) (pT (fI o.x) (True/\True/\mO (fI o.y) f (pT c e d)) (jJ (fI o.x) false a)) (jV (fI o.image) (rM a))) (dP (c=false->True/\e) d);aV (gP ((b==3)=true) (aB (pS (b==3) (o.image==0) (pS (o.x==0) (o.y==0) (pS (o.mask==0) (o.mx==0) (pS (o.my==0) (o.opac==0) (pS (o.oper==0) (o.mode==0) (pS (o.iso==false) (o.kno==false) true))))))=aB a) (nA b 3 (nN b 1 (bY (o.iso=false) (mO o.kno f g) (jJ o.iso false a)) (nO (b==1) g)))))) ?_;delta eS bY nA yE mB dP dC aB aV jV nN nO pS fP mO gP pT kZ eM jJ rM oN fI hZ aBN aCH;simp only [sS,zQe,zQn,zQA,zQX,zZh,zQ2,zXy,zZ9];obtain ⟨okind,oimage,ox,oy,omask,omx,omy,oopac,ooper,omode,oiso,okno⟩:=o;simp only [Oq.fields,popO,Oq.mk.injEq];have hb:∀ a c:Int,(a==c)=decide (a=c):=λ_ _=>rfl;have hn:∀ a c:Int,(a !=c)=!decide (a=c):=λ_ _=>rfl;simp only [hb,hn];cases oiso<;>cases okno<;>by_cases h3:okind=3<;>by_cases h1:okind=1<;>by_cases h2:okind=2<;>by_cases h0:omask=0<;>simp [h3,h1,h2,h0,Bool.or_assoc]<;>first | omega | grind | skip
def zJ (a:Nat) (b:DV) (c:List (Nat × AV)):Snap:=uN (kP a b c)
def aGW (a b:Nat) (c:List Int) (d:Int->Bool):Prop:=cB a b (List.all (List.take a c) d=true)
theorem zJO (n:Nat) (xs:List DV) (hx:xs=is (ints xs)/\n=xs.length):Ans prog 152 [rD (dS n xs)] (rD (dQ ((ints xs).all zXr))):=
 zQa (Γ:=jGv) (pM (Ann.loop (Inv.mk Nat (λ(c:Nat)=>aGW c n (ints xs) zXr) (λ(b:Nat)=>zJ 0 (DV.sl n xs) (kP 5 (DV.sl n xs) (lO 6 n 7 b))) (λ(a:Nat)=>n-a)) (λ(d:Nat)=>aL))) zQb Tryz.func152 rfl (nL rfl) λhwf=>by
  refine Eq.mpr (by kernel_rfl:_=(let f:=List.all (ints xs) zXr;let g:=eM f;let c:=gD n xs;vW (∃ e:Nat,aW (aGW e n (ints xs) zXr) (c/\c/\aW (gA n) (yO e))) (∀ a:Nat,let b:=bT xs a 1;bL (aGW a n (ints xs) zXr) (gY a n->eG a n 1 xs/\iK (aZ (gM xs a 1)) (True/\True/\True/\(decide (b<(-(1048576:Int)))=false->fU b 1048576 g (xX b 1048576 (∃ d:Nat,bK (aGW d n (ints xs) zXr) (bW n d a) (c/\c/\aW (gA n) (rK a d)))))/\(mN b (-1048576) false->True/\True/\g))) (eX a n false (oN f))))) ?_;delta eS aY mN aZ aI aW nH nG fU bK aT bL gD gT iK bT eG eX gM vW aB bW cB gA gY rK yO eM oN xX aGW;simp only [sS,zQe,zQn,zQA,zQX,zZh,zQ2,zXy,zZ9,zQ7];obtain ⟨hx,rfl⟩:=hx;generalize hl:ints xs=l at *;subst hx;simp only [zQz,wQo] at *;simp only [RV.wfs,RV.wf,DV.wf,maxLen,zQz] at hwf;have stop:∀ k,k<l.length->zXr (l[k]?.getD 0)=false->l.all zXr=false:=λk hk h=>by
   rw [List.getElem?_eq_getElem hk] at h;exact List.all_eq_false.2 ⟨l[k],List.getElem_mem hk,by simpa using h⟩
  refine ⟨⟨0,⟨Nat.zero_le _,rfl⟩,rfl⟩,λk hk=>⟨λhlt=>?_,λhge=>?_⟩⟩
  ·have h:k<l.length:=by omega
   have e:=zHh h;have s0:=stop k h;rw [List.getElem?_eq_getElem h] at s0;simp only [wQF] at s0;rw [e];refine ⟨⟨by omega,by omega,h⟩,jJM h,λh1=>⟨λh2=>(s0 (by simp [zXr]; omega)).symm,λh2=>⟨k+1,⟨by omega,?_⟩,by omega,by rw [wQ0]; omega⟩⟩,λh1=>(s0 (by simp [zXr]; omega)).symm⟩;rw [List.take_succ_eq_append_getElem h,wYb,hk.2];simp [zXr]; omega
  ·have:k=l.length:=by omega
   subst this;rw [wXj] at hk;exact hk.2.symm
def bU (a:Nat):Nat:=cI (cI a)
def cP (a:Nat):Nat:=cI (cI a)+1
def cV (a:Nat):Int:=aX (a:Int) 1
def oL (a:Bool) (b c:Prop):Prop:=True/\True/\True/\(a=true->True/\b)/\mP a c
def fX (a:Nat):Nat:=cI (bU (bU a))+1
def gB (a:Nat):Nat:=cI (bU (bU a))
def zC (a:List DV) (b:Nat):Prop:=bD a (cI (bU b)+1) (aU a (cI b+1))
def nS (a:Int) (b:Nat):Nat:=cI (aY a b)
def aGR (a:List DV) (b:Nat):Prop:=a[fX b]?=some (DV.bool (bAt a (fX b)))
def aHM (a b:Prop) (c:List DV) (d:Nat) (e f g h i:Prop):Prop:=cL a b (fY c d) (fY c (d+1)) e f g (zC c d) (aF h i (kG c (gB d)) (aGR c d))
abbrev wZ8:=@List.length_pos_iff
theorem zVE (n:Nat) (xs:List DV) (hO:xs=ops (zQl xs)/\n=(zQl xs).length):Ans prog 167 [rD (dS n xs)] (rD (dQ (ctxB (zQl xs)))):=
 zQa (Γ:=jGv) aL zQb Tryz.func167 rfl (nL rfl) λhwf=>by
  refine Eq.mpr (by kernel_rfl:_=(let c:=ctxB (zQl xs);let b:=aY (cV n) 12;let a:=cV n;True/\True/\True/\True/\(aAG n=true->True/\oN c)/\(mA (n:Int)->True/\True/\True/\True/\cG (lS a n 12 xs) (aHM (jR xs a 12) (oG xs a 12) xs b (bQ xs b) (bQ xs (kE a 12)) (bQ xs (nS a 12)) (bQ xs (bU (aY a 12))) (bQ xs (cP (aY a 12)))) (oL (bAt xs (gB b)) (aBN (!(bAt xs (fX b))) c) (eM c))))) ?_;delta eS aY lS jR aE aI aF bD aX mA cG aAG cL kS aU fY bQ oG aB cI bU cP cV kG mP oL eM oN aBN fX gB kE zC nS aGR aHM;simp only [sS,zQw,zQe,zQn,zQA,zQX,zZh,zQ2,zXy,zZ9,zQ7];obtain ⟨hO,rfl⟩:=hO;generalize zQl xs=l at *;subst hO;simp only [RV.wfs,RV.wf,DV.wf,maxLen] at hwf;refine ⟨λh=>?_,λh=>?_⟩
  ·have:l=[]:=by simpa using h
   subst this; rfl
  ·obtain ⟨N,hN⟩:∃ N,l.length=N+1:=⟨l.length-1,by have:l≠[]:=λe=>(by subst e; simp at h); have:=wZ8.2 this; omega⟩
   have e:wrap .i64 ((l.length:Int)-1)=(N:Int):=by rw [wQ0]; omega
   have hN2:N<l.length:=by omega
   have q1:=zKD hN2;have q2:=zKE hN2;have q3:ctxB l=(l[N].iso && !l[N].kno):=by
    unfold ctxB;rw [wYA,show l.length-1=N by omega,List.getElem?_eq_getElem hN2]
   simp only [e,wQl,q3,q2,zQC];refine ⟨⟨by omega,by omega,by omega⟩,q1,λh=>by rw [h]; rfl,λh=>by rw [h]; rfl⟩
def zQo (b:Int):Int:=if b=8 then 255 else if b=16 then 65535 else 0
def zVf (b:Int):Bool:=decide (b=8\/b=16)
def errO (bits:Int) (mn:Nat) (o:Oq) (l:List Oq):Int:=
 if ¬ (o.kind=1\/o.kind=2\/o.kind=3) then 9
 else if o.fields=false then 10
 else if o.kind=3 then (if l=[] then 18 else 0)
 else if (o.kind=1/\(o.image<0\/o.image>=(mn:Int)))\/o.mask<0\/o.mask>(mn:Int) then 11
 else if ¬ (zXr o.x=true/\zXr o.y=true/\zXr o.mx=true/\zXr o.my=true) then 12
 else if o.opac>zQo bits then 13
 else if ¬ (1<=o.oper/\o.oper<13) then 14
 else if ¬ (1<=o.mode/\o.mode<13) then 15
 else if o.oper≠4/\ctxB l=false then 16
 else if o.kind=2/\64<=l.length then 17
 else 0
def zUx (bits:Int) (mn:Nat) (ps:List Oq) (i:Int) (l:List Oq):Int:=
 if 0<=i then match ps[i.toNat]? with
  | some o=>errO bits mn o l
  | none=>21
 else 21
def gZ13:List RV->Option RV:=λ| [.d (.int _ b)]=>some (RV.tup [RV.d (dK (zQo b)),RV.d (dQ (zVf b))]) | _=>none
def jGu:Gam:=jGv.add [.p 47 gZ13,
 .p 14 gZ13,
 .p 88 (λ| [.agg [.int _ bits,.int _ cx0,.int _ cy0,.int _ cx1,.int _ cy1,.int _ tw,.int _ th,.sl on oxs,.sl mn mxs,.sl pn pxs],.d (.int _ at_),.d (.sl n xs)]=>some (rJ (zUx bits mn (zQl pxs) at_ (zQl xs))) | _=>none)]
def iO (a:Int):RV:=gR (aP a)
def tZ (a:Int):RV:=RV.tup [aP (zQo a),aB (zVf a)]
theorem zZP (b:Int):Ans prog 47 [rJ (b)] (rT [rD (dK (zQo b)),rD (dQ (zVf b))]):=
 zQa (Γ:=jGu) aL zQb Tryz.func47 rfl (nL rfl) λhwf=>by
  refine Eq.mpr (by kernel_rfl:_=(True/\True/\kZ b 8 (iO 255=tZ b) (cR (b==8) (eW b 16 (iO 65535=tZ b)) (gV (b==16) (kY (aP 0) (tZ b)))))) ?_;delta eS bY aE aP eW gV cR aB gR iO kZ kY tZ;simp only [sS,zQe,zQn,zQA,zQX,zZh,zQ2,zXy,zZ9,zQ7];simp [zQo,zVf]; grind
theorem zYq (b:Int):Ans prog 14 [rJ (b)] (rT [rD (dK (zQo b)),rD (dQ (zVf b))]):=
 zQa (Γ:=jGu) aL zQb Tryz.func14 rfl (nL rfl) λhwf=>by
  refine Eq.mpr (by kernel_rfl:_=(True/\True/\kZ b 8 (iO 255=tZ b) (cR (b==8) (eW b 16 (iO 65535=tZ b)) (gV (b==16) (kY (aP 0) (tZ b)))))) ?_;delta eS bY aE aP eW gV cR aB gR iO kZ kY tZ;simp only [sS,zQe,zQn,zQA,zQX,zZh,zQ2,zXy,zZ9,zQ7,zZP];simp [zQo,zVf]; grind
def iS (a b c d e f g:Int) (h:List DV):List DV:=DV.int IntKind.i64 a::DV.int IntKind.i64 b::DV.int IntKind.i64 c::iQ d e f g h
def oT (a b:Int) (c:Bool) (d:List DV):List DV:=DV.int IntKind.i64 a::DV.int IntKind.i64 b::DV.bool c::d
def pL (a b c d e f g h i j:Int) (k l:Bool):List DV:=iS a b c d e f g (aE h::oT i j k [DV.bool l])
def dN (a b:Prop):Prop:=aK a (True/\True/\True/\True/\b)
def aAV (a:Int) (b:RV):Prop:=True/\True/\RV.d (DV.int IntKind.i64 a)=b
def sN (a:Bool) (b c:Prop):Prop:=True/\True/\True/\((!a)=true->True/\b)/\c
def lG (a:Int) (b:Nat):Nat:=cI (aY a b)+1
def uY (a:Prop) (b:Bool) (c d:Prop):Prop:=a/\True/\True/\qH b c/\d
def pA (a:Bool) (b:Prop):Prop:=sO a->True/\True/\b
def qN (a:Bool) (b c:Prop):Prop:=bL (a=true) b c
def pG (a b:Int) (c:Nat) (d:List DV) (e:Int) (f:List DV):Prop:=cA a (zUx b c (zQl d) e (zQl f))
abbrev wXx:=@beq_iff_eq
abbrev wQP:=@bne_iff_ne
abbrev wZv:=@bne_eq_false_iff_eq
abbrev wXy:=@beq_eq_false_iff_ne
theorem zGA (bits cx0 cy0 cx1 cy1 tw th:Int) (on:Nat) (oxs:List DV) (mn:Nat) (mxs:List DV) (pn:Nat) (pxs:List DV) (at_:Int) (n:Nat) (xs:List DV) (hP:pxs=ops (zQl pxs)/\pn=(zQl pxs).length) (hO:xs=ops (zQl xs)/\n=(zQl xs).length):Ans prog 88 [rA [dJ bits,dJ cx0,dJ cy0,dJ cx1,dJ cy1,dJ tw,dJ th,dS on oxs,dS mn mxs,dS pn pxs],rJ (at_),rD (dS n xs)] (rJ ((zUx bits mn (zQl pxs) at_ (zQl xs)))):=
 zQa (Γ:=jGu) aL zQb Tryz.func88 rfl (nL rfl) λhwf=>by
  refine Eq.mpr (by kernel_rfl:_=(let t:=pG 21 bits mn pxs at_ xs;let g:=aY at_ 12;let a:=nAt pxs g;let u:=pG 0 bits mn pxs at_ xs;let v:=kZ a 2 (jS (n:Int) 64 (pG 17 bits mn pxs at_ xs) (fK (n:Int) 64 u)) (mB (a==2) (aAV 0 (rD (DV.int IntKind.i64 (zUx bits mn (zQl pxs) at_ (zQl xs))))));let d:=aU pxs (bU g);let w:=d !=4;let l:=ctxB (zQl xs);let h:=aU pxs (cP g);let x:=zZE h;let y:=aDT x (aAZ []);let z:=zZt d;let A:=aDT z (aAZ []);let i:=aU pxs (lG at_ 12);let m:=aU pxs (nS at_ 12);let o:=aU pxs (kE at_ 12);let p:=gE pxs at_ 12;let q:=nAt pxs (g+1+1);let B:=fM q p o m;let r:=List.all (ints B) zXr;let s:=aG (uY (dL 152 (dO 4 B) (aB r)) r (pG 12 bits mn pxs at_ xs) (pA r (fU i (zQo bits) (pG 13 bits mn pxs at_ xs) (xX i (zQo bits) (fC 165 d (oM z)/\True/\True/\(A=true->True/\pG 14 bits mn pxs at_ xs)/\gV A (fC 166 h (oM x)/\True/\True/\(y=true->True/\pG 15 bits mn pxs at_ xs)/\(y=false->True/\True/\True/\True/\qN w (dL 167 (dO n xs) (aB l)) (sN l (pG 16 bits mn pxs at_ xs) (gI l v))/\nO w v)))))));let j:=(mn:Int);let e:=aY at_ 12;let b:=aU pxs e;let k:=pG 11 bits mn pxs at_ xs;let C:=fU b j k (nJ b j s);let D:=aAD b;let M:=pK b 0 k/\fV b 0 s;let O:=kD b 0;let c:=jH pxs at_ 12;let E:=a==3;let F:=mO E u (aCH (a==1) (aBU (aAD c->aG (True/\(fQ c j->aBA c j k/\fK c (mn:Int) s)/\fK c (mn:Int) (aBU (O->M) D C))) (lU c) k) (True/\True/\True/\True/\True/\(O->M)/\(D->True/\True/\True/\True/\C)));let G:=kZ a 3 (mO (aAG n) (pG 18 bits mn pxs at_ xs) F) (nO E F);let H:=bAt pxs (fX e);let I:=bAt pxs (gB e);let f:=Oq.fields ⟨a,c,q,p,b,o,m,i,d,h,I,H⟩;let J:=pG 10 bits mn pxs at_ xs;let K:=bF 164 (pL a c q p b o m i d h I H) [] (aB f);let L:=uY K f J (gI f G);dP (fV at_ 0 (True/\True/\jS at_ (pn:Int) t (dX (kX at_ (pn:Int)) (lS at_ pn 12 pxs) (aM (aHM (jR pxs at_ 12) (oG pxs at_ 12) pxs e (bQ pxs e) (bQ pxs (kE at_ 12)) (bQ pxs (nS at_ 12)) (bQ pxs (bU g)) (bQ pxs (cP g))) (dN (fC 47 bits (tZ bits)) (kA ((a !=1)=true) ((a !=2)=true) (mO (a !=3) (pG 9 bits mn pxs at_ xs) L) (nO (a !=2) L) (mB (a !=1) (iY K (qH f J) (gI f G))))))))) (lU at_->True/\True/\t))) ?_;delta eS aY bY mN fK lS jS cA jR lU aAD aE aF aP aG aK bD dX kD pK iQ aM iS oT fM pL dN mB gV fU dO nJ bL dP aAG cL gT bF kS aU fY bQ fV iY jH gE oG aB cI bU cP kG fC nO mO aAV fQ kX kZ tZ aAZ oM aDT aBA sO dL gI kA xX sN fX gB kE zC nS lG qH uY aBU aGR pA aCH aHM qN pG;simp only [sS,zQw,zQe,zQn,zQA,zQX,zZh,zQ2,zXy,zZ9,zQ7,zZP,zYq];obtain ⟨hO,rfl⟩:=hO;obtain ⟨hP,rfl⟩:=hP;generalize zQl pxs=ps at *;generalize zQl xs=l at *;subst hO hP;simp only [RV.wfs,RV.wf,DV.wf,maxLen] at hwf;have hctx:=zVE l.length (ops l) ⟨by rw [zQw],by rw [zQw]⟩;rw [zQw] at hctx;have hnear:=λa b c d=>zJO 4 [DV.int .i64 a,DV.int .i64 b,DV.int .i64 c,DV.int .i64 d] ⟨by simp [ints,is],rfl⟩;have e0:at_<0->zUx bits mn ps at_ l=21:=λh=>by unfold zUx; rw [if_neg (by omega)]
  have e1:¬ at_<0->at_>=(ps.length:Int)->zUx bits mn ps at_ l=21:=λh h1=>by unfold zUx; rw [if_pos (by omega),wQO (by omega)]
  have e2:∀ (h:¬ at_<0) (h2:at_.toNat<ps.length),zUx bits mn ps at_ l=errO bits mn ps[at_.toNat] l:=λh h1=>by unfold zUx; rw [if_pos (by omega),List.getElem?_eq_getElem h1]
  refine ⟨λh0=>⟨λh1=>(e1 h0 h1).symm,λh1=>?_⟩,λh0=>(e0 h0).symm⟩;have hk:at_.toNat<ps.length:=by omega
  have q1:=zKD hk;have q2:=zKE hk;have q3:=zQC ps;rw [e2 h0 hk];simp only [q2,q3];refine ⟨⟨by omega,by omega,by omega⟩,q1,?_⟩;have hsp:=@Oq.spare_fields ps[at_.toNat];generalize ps[at_.toNat]=o at *;clear e0 e1 e2 q1 q2 q3 h0 h1 hk;have hl:l.length=0↔l=[]:=by simp
  simp only [ints,wQg,wQk,wZK,List.all_nil,wXq] at hnear |-;have hfl:=zQ7 o;have heta:(⟨o.kind,o.image,o.x,o.y,o.mask,o.mx,o.my,o.opac,o.oper,o.mode,o.iso,o.kno⟩:Oq)=o:=rfl;simp only [heta] at hfl |-;clear heta;have hnm:=zK0 o.oper;have hmd:=zVS o.mode;simp only [hnm,hmd,wXx,wXy,wQP,wZv,wQq,wZe,wQh,wZD]
  (repeat' (first | apply And.intro | intro _))<;>(first | exact hnear _ _ _ _ | exact hctx | exact hfl | exact R18_far_ans _ | exact R18_spare_ans _ | (unfold errO; clear hnear hctx hfl; grind))
def zYc (bits:Int) (c:Rc) (tw th:Int) (l:List Int) (mn pn:Nat):Int:=
 if zVf bits=false then 1
 else if c.empty=true\/c.area>16777216\/zXr c.a=false\/zXr c.b=false then 2
 else if (cntS c tw th).2.2=false then 3
 else if zZQ l (wrap .i64 ((cntS c tw th).1*(cntS c tw th).2.1))=false then 4
 else if (mn:Int)>64\/(pn:Int)>4096 then 5
 else 0
def jHY:Gam:=jGu.add [.p 9 gZ2,
 .p 75 (λ| [.agg [.int _ bits,.int _ cx0,.int _ cy0,.int _ cx1,.int _ cy1,.int _ tw,.int _ th,.sl on oxs,.sl mn mxs,.sl pn pxs]]=>some (rJ (zYc bits ⟨cx0,cy0,cx1,cy1⟩ tw th (ints oxs) mn pn)) | _=>none)]
def iV (a b:Prop):Prop:=True/\True/\True/\True/\True/\True/\True/\a/\b
theorem zW9 (a b c d w h:Int):Ans prog 9 [rA [dJ a,dJ b,dJ c,dJ d],rJ (w),rJ (h)] (rT [rJ (((cntS ⟨a,b,c,d⟩ w h).1)),rJ (((cntS ⟨a,b,c,d⟩ w h).2.1)),rD (dQ ((cntS ⟨a,b,c,d⟩ w h).2.2))]):=
 zQa (Γ:=jHY) aL zQb Tryz.func9 rfl (nL rfl) λhwf=>by
  refine Eq.mpr (by kernel_rfl:_=(let e:=eJ (cntS ⟨a,b,c,d⟩ w h).fst (aDY a b c d w h) [aAP ⟨a,b,c,d⟩ w h];let f:=eJ 0 0 [aB false];let i:=f=e;let j:=aG i;let g:=nP a b c d;True/\True/\True/\True/\True/\dL 39 (lB a b c d) (aB g)/\True/\(g=false->True/\True/\True/\True/\fV w 1 (tH (aAE h) (iV (nJ w (aX c a) (True/\True/\True/\True/\fU h (aX d b) (True/\True/\i) (xX h (aX d b) (True/\True/\True/\True/\dN (w≠0) (aH (h≠0) (dA (eJ (aI (fT (aX (aX c a) 1) w+1)) (aI (fT (aX (aX d b) 1) h+1)) [aB true]=e))))))) (fP (decide (w>aX c a)) false (f=e))) (yS h) (bX f e))/\(yS w->j))/\jV g j)) ?_;delta eS bY mN tH aI aG aH aK aX fT aAE dN dA bX iV fU nJ gT fV zP eJ aB sM lB jV aAP fP yS dL nP xX aDY;simp only [sS,zQN,zQZ,zYR,zZP,zYq];unfold cntS;cases he:Rc.empty ⟨a,b,c,d⟩
  ·obtain ⟨e1,e2,e3,e4,e5,e6⟩:=(Rc.empty_iff _).1 he;simp only at e1 e2 e3 e4 e5 e6;have w1:wrap .i64 (c-a)=c-a:=by rw [wQ0]; omega
   have w2:wrap .i64 (d-b)=d-b:=by rw [wQ0]; omega
   simp only [w1,w2];have hq:∀ W v:Int,1<=v->v<=W->W<=2147483648->wrap .i64 (wrap .i64 (Int.tdiv (wrap .i64 (W-1)) v)+1)=wrap .i64 (Int.tdiv (wrap .i64 (wrap .i64 (W+v)-1)) v):=λW v h1 h2 h3=>by
    have a1:wrap .i64 (W-1)=W-1:=by rw [wQ0]; omega
    have a2:wrap .i64 (W+v)=W+v:=by rw [wQ0]; omega
    have a3:wrap .i64 (W+v-1)=W+v-1:=by rw [wQ0]; omega
    rw [a1,a2,a3,wQS (by omega),wQS (by omega)];have b1:(W+v-1) / v=(W-1) / v+1:=by rw [show W+v-1=(W-1)+1*v by omega,wYi _ _ (by omega)]
    rw [b1];have b2:0<=(W-1) / v:=wQs (by omega) (by omega);have b3:(W-1) / v<=W-1:=wZw _ (by omega);rw [wQ0 ((W-1) / v)];congr 1;omega
   by_cases h1:w<1<;>by_cases h3:h<1<;>by_cases h2:c-a<w<;>by_cases h4:d-b<h<;>simp [h1,h2,h3,h4]<;>first | omega | exact ⟨by omega,by omega,hq _ _ (by omega) (by omega) (by omega),hq _ _ (by omega) (by omega) (by omega)⟩
  ·simp
def aCI (a:FuncId) (b:RV) (c:Int):Prop:=dL a b (RV.d (DV.int IntKind.i64 c))
theorem zJl (bits cx0 cy0 cx1 cy1 tw th:Int) (on:Nat) (oxs:List DV) (mn:Nat) (mxs:List DV) (pn:Nat) (pxs:List DV) (hO:oxs=is (ints oxs)/\on=oxs.length):Ans prog 75 [rA [dJ bits,dJ cx0,dJ cy0,dJ cx1,dJ cy1,dJ tw,dJ th,dS on oxs,dS mn mxs,dS pn pxs]] (rJ ((zYc bits ⟨cx0,cy0,cx1,cy1⟩ tw th (ints oxs) mn pn))):=
 zQa (Γ:=jHY) aL zQb Tryz.func75 rfl (nL rfl) λhwf=>by
  refine Eq.mpr (by kernel_rfl:_=(let b:=(⟨cx0,cy0,cx1,cy1⟩:Rc);let a:=zYc bits b tw th (ints oxs) mn pn;let c:=cA 2 a;let d:=Rc.area b;let h:=cA 5 a;let i:=aDY cx0 cy0 cx1 cy1 tw th;let j:=(cntS ⟨cx0,cy0,cx1,cy1⟩ tw th).fst;let e:=aI (j*i);let f:=zZQ (ints oxs) e;let k:=zXZ (ints oxs) e;let l:=(cntS b tw th).snd.snd;let g:=List.all (ints (sM cx0 cy0)) zXr;aV (dN (fC 47 bits (tZ bits)) (True/\qH (zVf bits) (cA 1 a)/\pA (zVf bits) (True/\True/\True/\aEV cx0 cy0 cx1 cy1/\True/\bL (nP cx0 cy0 cx1 cy1=false) (aCI 151 (lB cx0 cy0 cx1 cy1) d) (bY (gT d 16777216) (True/\True/\True/\dL 152 (dO 2 (sM cx0 cy0)) (aB g)/\fZ (qH g c) (aBK g (dN (Ans prog 78 (lB cx0 cy0 cx1 cy1::iN tw th []) (eJ j i [aAP b tw th])) (sN l (cA 3 a) (pA l (bV (AnsG prog 79 0 (pJ (qV on oxs) (bO e) []) [] (lV (pJ (Cl.ref 0 (List.length k)) (yD f) []) [bR 3 1 (is k)] true)) (sN f (cA 4 a) (pA f (bY (gT (mn:Int) 64) (fU (pn:Int) 4096 h (nJ (pn:Int) 4096 (cA 0 a))) (jV (decide ((mn:Int)>64)) h)))))))))) (jV (decide (d>16777216)) c))/\fP (nP cx0 cy0 cx1 cy1) false c))))) ?_;delta eS bY cA aE aI bO aP aK pJ lV qV yD dN fU dO nJ bL gT bV zP eJ aB aV sM lB iN fZ fC jV aAP fP tZ sO dL nP aBK aDY sN qH pA aCI aEV;simp only [sS,zQN,zQZ,zYR,zZP,zYq,zW9];obtain ⟨hO,rfl⟩:=hO;generalize ints oxs=l at *;subst hO;have hord:=λM=>zVM (is l).length (is l) M ⟨by rw [zZF],rfl⟩;have hnear:=λa b=>zJO 2 [DV.int .i64 a,DV.int .i64 b] ⟨by simp [ints,is],rfl⟩;have hcnt:=zJw cx0 cy0 cx1 cy1 tw th;simp only [zZF] at hord;simp only [ints,wQg,wQk,wZK,List.all_nil,wXq] at hnear |-;have he:1=1:=rfl
  (repeat' (first | apply And.intro | intro _))<;>(first | exact hnear _ _ | exact hcnt | exact hord _ | exact R18_far_ans _ | rfl | (unfold zYc; clear hnear hcnt hord; simp only; grind))
theorem jZJ:∀ (l:List Oq) (k:Nat),(ops l).take (k*12)=ops (l.take k)
 | [],k=>by simp [ops]
 | o::l,0=>by simp [ops]
 | o::l,k+1=>by
  have e:ops (o::l)=o.cells++ops l:=by simp [ops]
  have e2:ops ((o::l).take (k+1))=o.cells++ops (l.take k):=by simp [ops]
  rw [e,e2,wXO,wQY (by simp [Oq.cells]; omega),<- jZJ l k];congr 2;simp [Oq.cells]; omega
def zXA (o:Oq) (st:List Oq):List Oq:=if o.kind=2 then st++[o] else if o.kind=3 then st.dropLast else st
def runO (bits:Int) (mn:Nat):List Oq->Int->List Oq->Int × Int
 | [],i,st=>if st=[] then (0,0) else (18,i)
 | o::r,i,st=>if errO bits mn o st=0 then runO bits mn r (i+1) (zXA o st) else (errO bits mn o st,i)
def opsE (bits:Int) (c:Rc) (tw th:Int) (l:List Int) (mn:Nat) (ps:List Oq):Int × Int:=
 if zYc bits c tw th l mn ps.length=0 then runO bits mn ps 0 [] else (zYc bits c tw th l mn ps.length,0)
def yQL:Gam:=jHY.add [.p 46 (λ| [.agg [.int _ bits,.int _ cx0,.int _ cy0,.int _ cx1,.int _ cy1,.int _ tw,.int _ th,.sl on oxs,.sl mn mxs,.sl pn pxs]]=>some (RV.tup [rJ (opsE bits ⟨cx0,cy0,cx1,cy1⟩ tw th (ints oxs) mn (zQl pxs)).1,rJ (opsE bits ⟨cx0,cy0,cx1,cy1⟩ tw th (ints oxs) mn (zQl pxs)).2]) | _=>none)]
def gK (a b c d e f g:Int) (h:List Cl):List Cl:=bO a::cS b c (dY d e f g h)
def vL (a b:Nat) (c:List (Nat × AV)):List (Nat × AV):=xW a (Cl.ptr b 0) c
def aJK (a:Nat) (b:List (Nat × AV)):List (Nat × AV):=vL 1 a b
def yL (a:List (Nat × AV)):List (Nat × AV):=aJK 1 a
def oU (a:Ann):Ann:=cT (eF a)
def aDM (a:Nat × List Oq) (b c:Nat) (d:Prop):Prop:=a.fst<=b/\List.length a.snd<=c/\d
def aDL (a:Int) (b:Nat) (c:Nat × List Oq) (d:List DV):Int × Int:=runO a b (List.drop c.fst (zQl d)) (c.fst:Int) c.snd
def yB (a:Int):RV:=RV.d (DV.int IntKind.i64 a)
def bN (a:Prop):Prop:=eS (0:Nat)/\a
def vX (a:Int × Int):RV:=eJ a.fst a.snd []
def mJ (a:Nat) (b:List Oq):Prop:=a=List.length b
def mK (a b:Nat):Nat:=cI (aT a b)+1
def tU (a:Nat) (b:List DV) (c:Nat) (d:List DV):List DV:=[DV.sl a b,DV.sl c d]
def aAT (a b:List Oq):Prop:=mJ (List.length a) b
def aAS (a:Nat):Prop:=0<=cV a/\cV a<=(a:Int)
def yN (a:FuncId) (b c:Int) (d:List DV) (e:List RV) (f:RV):Prop:=Ans prog a (RV.agg (DV.int IntKind.i64 b::DV.int IntKind.i64 c::d)::e) f
def zG (a:List DV) (b c:Nat) (d e f g h:Prop):Prop:=cL (gM a b c) (kS a (aT b c) 1) (fY a (aT b c)) (tQ a b c) d e f (bD a (cI (bU (aT b c))+1) (aU a (mK b c))) (aF g h (kG a (gB (aT b c))) (aGR a (aT b c)))
def aFX (a:List DV) (b c:Nat) (d e f g h i:Int):List DV:=pL (bT a b c) (dT a b c) (eH a b c) (dE a b c) d e f g h i (bAt a (gB (aT b 12))) (bAt a (fX (aT b 12)))
def sV (a:Bool) (b c d:Prop):Prop:=True/\True/\True/\(a=true->True/\b)/\(c->True/\True/\d)
abbrev wYj:=@List.drop_length
abbrev wZT:=@List.dropLast_eq_take
theorem zKA (bits cx0 cy0 cx1 cy1 tw th:Int) (on:Nat) (oxs:List DV) (mn:Nat) (mxs:List DV) (pn:Nat) (pxs:List DV) (hP:pxs=ops (zQl pxs)/\pn=(zQl pxs).length) (hO:oxs=is (ints oxs)/\on=oxs.length):Ans prog 46 [rA [dJ bits,dJ cx0,dJ cy0,dJ cx1,dJ cy1,dJ tw,dJ th,dS on oxs,dS mn mxs,dS pn pxs]] (rT [rJ (((opsE bits ⟨cx0,cy0,cx1,cy1⟩ tw th (ints oxs) mn (zQl pxs)).1)),rJ (((opsE bits ⟨cx0,cy0,cx1,cy1⟩ tw th (ints oxs) mn (zQl pxs)).2))]):=
 zQa (Γ:=yQL) (oU (Ann.loop (Inv.mk (Nat × List Oq) (λ(b:Nat × List Oq)=>aDM b pn 64 (aDL bits mn b pxs=runO bits mn (zQl pxs) 0 [])) (λ(a:Nat × List Oq)=>qZ (yL (mE 5 1005 (List.length a.snd) 15 (qV pn pxs) (lO 16 pn 17 a.fst))) 1 (gK bits cx0 cy0 cx1 cy1 tw th (fO on oxs (fO mn mxs (fO pn pxs [])))) (jU 1005 61 12 (ops a.snd))) (λ(c:Nat × List Oq)=>pn-c.fst)) (λ(d:Nat × List Oq)=>aL))) zQb Tryz.func46 rfl (nL rfl) λhwf=>by
  refine Eq.mpr (by kernel_rfl:_=(let j:=vX (opsE bits ⟨cx0,cy0,cx1,cy1⟩ tw th (ints oxs) mn (zQl pxs));let s:=vH cy0::iQ cx1 cy1 tw th (DV.sl on oxs::tU mn mxs pn pxs);let t:=DV.int IntKind.i64 cx0::s;let u:=DV.int IntKind.i64 bits;let k:=u::t;let i:=runO bits mn (zQl pxs) 0 [];let n:=zYc bits ⟨cx0,cy0,cx1,cy1⟩ tw th (ints oxs) mn pn;vW (aCI 75 (rA (u::t)) n) (sV (fI n) (True/\True/\eJ n 0 []=j) (hZ n) (True/\True/\True/\(∃ g:Nat × List Oq,aF (aDM g pn 64 (aDL bits mn g pxs=i)) (bN (sP (mJ 0 g.snd) pn pxs g.fst)) (eS k) (([]:List DV)=ops g.snd))/\(∀ b:Nat × List Oq,let h:=List.length b.snd;let q:=(h:Int);let r:=List.length b.snd<=maxLen;let a:=b.fst;let c:=ops b.snd;let l:=bT pxs a 12;let o:=aT a 12;let v:=cP o;let w:=bU o;let x:=cI o;let y:=aFX pxs a 12 (kT pxs a 12) (aU pxs (gF a 12)) (aU pxs x) (aU pxs (mK a 12)) (aU pxs w) (aU pxs v);let z:=List.length b.snd;let p:=(b.fst:Int);let m:=zUx bits mn (zQl pxs) p (zQl c);bL (aDM b pn 64 (aDL bits mn b pxs=i)) (bL (gY a pn) (eG a pn 12 pxs) (aM (zG pxs a 12 (bQ pxs (aT a 12)) (bQ pxs (gF a 12)) (bQ pxs x) (bQ pxs w) (bQ pxs v)) (True/\True/\True/\yN 88 bits cx0 s [yB p,dO h c] (rD (DV.int IntKind.i64 m))/\gP (fI m=true) (eJ m p []=j) (fI m=false->True/\True/\True/\True/\((l==2)=true->True/\True/\True/\aM (zZ2 12 88 z 1 c y) (∃ f:Nat × List Oq,aDM f pn 64 (aDL bits mn f pxs=i)/\nM (bW pn f.fst a) (bN (iG (mJ (z+1) f.snd) pn pxs a f.fst)) k (c++y) (ops f.snd)))/\cR (l==2) (dC l 3 (aH r (aM (aAS h) (∃ e:Nat × List Oq,aDM e pn 64 (aDL bits mn e pxs=i)/\nM (bW pn e.fst a) (bN (iG (mJ (Int.toNat (cV h)) e.snd) pn pxs a e.fst)) k (pN (cV h) 12 c) (ops e.snd))))) (gV (l==3) (∃ d:Nat × List Oq,aDM d pn 64 (aDL bits mn d pxs=i)/\nM (bW pn d.fst a) (bN (iG (aAT b.snd d.snd) pn pxs a d.fst)) k c (ops d.snd))))))) (pV a pn->True/\r/\True/\(nE q 0->True/\True/\dA (eJ 18 (pn:Int) []=j))/\xX q 0 (eJ 0 0 []=j))))))) ?_;delta eS aY vH aE aI yB aF aH bD aX iQ aM iS oT bN pL dA gV nH nG dO aT gW bL gD gF mG pN nE cL gT kS aU fY cR bQ bT eG dT dE eH dC gM tQ kT nM vW zP eJ vX cI bU cP mJ bW mK tU gA cV kG gY aAT aAS yN gP dL pV xX fI hZ fX gB aGR zG aFX aCI iG sP sV aDM aDL;simp only [sS,zQw];obtain ⟨hP,rfl⟩:=hP;have hfr:=zJl bits cx0 cy0 cx1 cy1 tw th on oxs mn mxs (zQl pxs).length pxs hO;have hop:=λi st=>zGA bits cx0 cy0 cx1 cy1 tw th on oxs mn mxs (zQl pxs).length pxs i (List.length st) (ops st) ⟨hP,rfl⟩ ⟨by rw [zQw],by rw [zQw]⟩;simp only [zQw] at hop;generalize zQl pxs=ps at *;subst hP;simp only [RV.wfs,RV.wf,DV.wf,DV.wfs,maxLen] at hwf;have hpl:ps.length<=9223372036854775807:=by omega
  have hE:∀ E:Int,zYc bits ⟨cx0,cy0,cx1,cy1⟩ tw th (ints oxs) mn ps.length=E->opsE bits ⟨cx0,cy0,cx1,cy1⟩ tw th (ints oxs) mn ps=if E=0 then runO bits mn ps 0 [] else (E,0):=λE h=>by unfold opsE; rw [h]
  generalize zYc bits ⟨cx0,cy0,cx1,cy1⟩ tw th (ints oxs) mn ps.length=FE at *;rw [hE FE rfl];clear hE;refine ⟨hfr,λhne=>?_,λhe=>⟨?_,λz hz=>⟨λhlt=>?_,λhge=>?_⟩⟩⟩
  ·have:FE≠0:=by simpa using hne
   simp [this]
  ·exact ⟨(0,[]),⟨Nat.zero_le _,Nat.zero_le _,rfl⟩,⟨rfl,rfl⟩,rfl⟩
  ·obtain ⟨k,st⟩:=z;obtain ⟨z1,z2,z3⟩:=hz;simp only at *;have hk:k<ps.length:=by omega
   have q1:=zKD hk;have q2:=zKE hk;have q3:=zQC ps;have q4:=zQC st;have hoe:zUx bits mn ps (k:Int) st=errO bits mn ps[k] st:=by unfold zUx; rw [if_pos (by omega),wQl,List.getElem?_eq_getElem hk]
   have hop1:=hop (k:Int) st;have hd:ps.drop k=ps[k]::ps.drop (k+1):=wZS hk;rw [hd] at z3;simp only [runO] at z3;simp only [hoe] at hop1 |-;have hF:FE=0:=by simpa using he
   have hpush:errO bits mn ps[k] st=0->ps[k].kind=2->st.length<64:=λh1 h2=>by
    unfold errO at h1;grind
   have hpop:errO bits mn ps[k] st=0->ps[k].kind=3->st≠[]:=λh1 h2=>by
    unfold errO at h1;grind
   have w1:wrap .i64 ((k:Int)+1)=((k+1:Nat):Int):=by rw [wQ0]; omega
   simp only [q2,hF,if_true];refine ⟨⟨by omega,by omega,by omega⟩,q1,hop1,λhne=>?_,λh0=>?_⟩
   ·have h0:errO bits mn ps[k] st≠0:=by simpa using hne
    rw [if_neg h0] at z3;rw [<- z3]; exact ⟨rfl,rfl⟩
   ·have h0:errO bits mn ps[k] st=0:=by simpa using h0
    rw [if_pos h0] at z3;have s2:ps[k].kind=2->runO bits mn (ps.drop (k+1)) ((k+1:Nat):Int) (st++[ps[k]])=runO bits mn ps 0 []:=λh=>by
     rw [<- z3]; simp [zXA,h]
    have s3:ps[k].kind=3->runO bits mn (ps.drop (k+1)) ((k+1:Nat):Int) st.dropLast=runO bits mn ps 0 []:=λh=>by
     rw [<- z3]; simp [zXA,h]
    have s1:ps[k].kind≠2->ps[k].kind≠3->runO bits mn (ps.drop (k+1)) ((k+1:Nat):Int) st=runO bits mn ps 0 []:=λh h'=>by
     rw [<- z3]; simp [zXA,h,h']
    have hd2:st≠[]->wrap .i64 ((st.length:Int)-1)=((st.length-1:Nat):Int):=λh=>by
     have:=wZ8.2 h;rw [wQ0]; omega
    have hd3:(ops st).take ((st.length-1)*12)=ops st.dropLast:=by rw [jZJ,wZT]
    have cells:ops [ps[k]]=ps[k].cells:=by simp [ops]
    refine ⟨λh2=>?_,λh2=>⟨λh3=>?_,λh3=>?_⟩⟩
    ·have h2:ps[k].kind=2:=by simpa using h2
     have hl:=hpush h0 h2;refine ⟨⟨by rw [q4],rfl,by simp only [maxLen]; omega,by omega⟩,(k+1,st++[ps[k]]),⟨by omega,by simp; omega,s2 h2⟩,by omega,⟨by simp,w1⟩,by rw [zY0,cells]; rfl⟩
    ·have h3:ps[k].kind=3:=by simpa using h3
     have hne:=hpop h0 h3;rw [hd2 hne];simp only [wQl];refine ⟨by simp only [maxLen]; omega,⟨by omega,by omega⟩,(k+1,st.dropLast),⟨by omega,by simp; omega,s3 h3⟩,by omega,⟨by simp,w1⟩,hd3⟩
    ·have h2:ps[k].kind≠2:=by simpa using h2
     have h3:ps[k].kind≠3:=by simpa using h3
     exact ⟨(k+1,st),⟨by omega,z2,s1 h2 h3⟩,by omega,⟨rfl,w1⟩,rfl⟩
  ·obtain ⟨k,st⟩:=z;obtain ⟨z1,z2,z3⟩:=hz;simp only at *;have hk:k=ps.length:=by omega
   subst hk;rw [wYj] at z3;simp only [runO] at z3;have hF:FE=0:=by simpa using he
   simp only [hF,if_true];rw [<- z3];refine ⟨by simp only [maxLen]; omega,λh=>?_,λh=>?_⟩
   ·have:st≠[]:=λe=>by subst e; simp at h
    simp [this]
   ·have:st=[]:=List.length_eq_zero_iff.1 (by omega);simp [this]
def jHZ:Gam:=yQL.add [.p 44 (λ| [.d (.int _ n),.d (.int _ corner)]=>some (rJ (gOff n corner)) | _=>none),
 .p 15 (λ| [.agg [.int _ vk,.int _ vim,.int _ vx,.int _ vy,.int _ vma,.int _ vmx,.int _ vmy,.int _ vop,.int _ vope,.int _ vmo,.int _ vfl],.d (.bool push),.d (.int _ imgs),.agg [.int _ ca,.int _ cb,.int _ cc,.int _ cd],.d (.bool free),.d (.int _ most)]=>some (RV.agg (oD (gOp ⟨vk,vim,vx,vy,vma,vmx,vmy,vop,vope,vmo,vfl⟩ push imgs ⟨ca,cb,cc,cd⟩ free most))) | _=>none)]
theorem zU5 (n corner:Int) (hc : -100<=corner/\corner<=100):Ans prog 44 [rJ (n),rJ (corner)] (rJ ((gOff n corner))):=
 zQa (Γ:=jHZ) aL zQb Tryz.func44 rfl (nL rfl) λhwf=>by
  refine Eq.mpr (by kernel_rfl:_=(True/\vK n 3 3 (eW (modS n 3) 0 (cA corner (gOff n corner))) (cR (tI n 3) ((3:Int)≠0) (aM (iJ (fT n 3) 9 9) (cA (aX (aI (corner+modS (fT n 3) 9)) 4) (gOff n corner)))))) ?_;delta eS cA aI aX jE fT eW iJ tI vK aM cR;simp only [sS,zQh,zX3];have b:=@zZa (wrap .i64 (Int.tdiv n 3)) 9 (by omega) (by omega);unfold gOff;have w1:wrap .i64 (corner+modS (wrap .i64 (Int.tdiv n 3)) 9)=corner+modS (wrap .i64 (Int.tdiv n 3)) 9:=wQb _ ⟨by omega,by omega⟩;have w2:wrap .i64 (corner+modS (wrap .i64 (Int.tdiv n 3)) 9-4)=corner+modS (wrap .i64 (Int.tdiv n 3)) 9-4:=wQb _ ⟨by omega,by omega⟩;simp only [w1,w2];refine ⟨λh=>?_,λh=>⟨by decide,?_⟩⟩
  ·rw [if_pos (by simpa using h)]
  ·rw [if_neg (by simpa using h)]
def mY (a:Int) (b:List Cl):List Cl:=Cl.d (aE a)::b
def aLJ (a b c d e f:Nat) (g:List (Nat × AV)):List (Nat × AV):=aHY a b c d (Cl.ptr e f) g
def aLK (a b c d e:Nat) (f:List (Nat × AV)):List (Nat × AV):=aLJ a b 0 c d e f
def gC (a b c d:Nat) (e:List (Nat × AV)):List (Nat × AV):=aLK a b c d 0 e
def aGG (a:List (Nat × AV)) (b:Nat) (c:List Cl) (d:Nat) (e:List Cl) (f:Nat) (g:List Cl) (h:List (Nat × Bx)):Snap:=yM a b c d e (oZ f g h)
def nZ (a b c:Int) (e f:Bool) (g:List Cl):List Cl:=mY a (cS b c (Cl.d (DV.bool e)::Cl.d (DV.bool f)::g))
def vN (a:List (Nat × AV)) (b:Nat) (c:List Cl) (d:Nat) (e:List Cl) (f:Nat) (g:List Cl) (h:Nat) (i:List Cl) (j:List (Nat × Bx)):Snap:=aGG a b c d e f g (oZ h i j)
def aMG (a b:Int) (c:List Cl):List Cl:=bO 0::cS a b c
def aMI (a:Int) (b:List Cl):List Cl:=aMG 0 a b
def aHZ (a:List Cl):List Cl:=aMI 0 a
def tK (a:Oq) (b:List Cl):List Cl:=gK a.kind a.image a.x a.y a.mask a.mx a.my (nZ a.opac a.oper a.mode a.iso a.kno b)
def tL (a:List (Nat × AV)) (b:Nat) (c:List Cl) (d:Nat) (e:List Cl) (f:Nat) (g:List Cl):Snap:=aGG a b c d e f g []
def tJ (a b:Int):Int:=aI (1+modS a b)
def nC (a:Int) (b c d e:Prop):Prop:=bG a/\b/\c/\d/\e
def oK (a:Prop) (b c:List DV) (d:Prop):Prop:=aF a (eS b) (eS c) d
def bP (a:Prop):Prop:=eS (0:Nat)/\eS (0:Nat)/\a
def fN (a:Int) (b:Prop):Prop:=eC (aE a) (eS (0:Nat)) b
def iT (a b c:Prop) (d e:List DV) (f:Prop):Prop:=a/\b/\oK c d e f
def aDP (a:Oq) (b c d e f g:Int):List DV:=pL a.kind a.image b c d e f g a.oper a.mode a.iso a.kno
def nD (a:Oq):List DV:=aDP a a.x a.y a.mask a.mx a.my a.opac
def aAF (a:Prop) (b:Rw) (c:List DV) (d:Prop):Prop:=oK a (iS b.k b.im b.x b.y b.ma b.mx b.my (fM b.op b.ope b.mo b.fl)) c d
theorem jVa (r:Rw) (push:Bool) (imgs:Int) (c:Rc) (free:Bool) (most:Int) (hc:(-100<=c.a/\c.a<=100) /\ -100<=c.b/\c.b<=100) (hi:1<=imgs/\imgs<=100):Ans prog 15 [rA [dJ r.k,dJ r.im,dJ r.x,dJ r.y,dJ r.ma,dJ r.mx,dJ r.my,dJ r.op,dJ r.ope,dJ r.mo,dJ r.fl],rD (dQ push),rJ (imgs),rA [dJ c.a,dJ c.b,dJ c.c,dJ c.d],rD (dQ free),rD (dK most)] (rA (oD (gOp r push imgs c free most))):=
 zQa (Γ:=jHZ) (let b:=nB (aHZ (nZ 0 0 0 false false []));let d:=gK r.k r.im r.x r.y r.ma r.mx r.my (dY r.op r.ope r.mo r.fl []);let e:=gC 12 12 13 13 [];let a:=gOp r push imgs c free most;let f:=a.opac;dZ (Ann.cut (Inv.mk Oq (λ(m:Oq)=>m=(⟨a.kind,a.image,a.x,a.y,0,0,0,most,4,1,a.iso,a.kno⟩:Oq)) (λ(l:Oq)=>vN (aDO 2 imgs 4 (DV.bool free) (vM 5 most 6 6 (gC 9 9 12 12 (vL 13 13 [])))) 6 d 9 (dY c.a c.b c.c c.d []) 12 b 13 (tK l []) []) (λ(p:Oq)=>(0:Nat))) aL (λ(t:Oq)=>Ann.cut (Inv.mk Oq (λ(k:Oq)=>k=yE a most 4 1) (λ(j:Oq)=>tL (kP 4 (DV.bool free) (vM 5 most 6 6 e)) 6 d 12 b 13 (tK j [])) (λ(p:Oq)=>(0:Nat))) aL (λ(s:Oq)=>Ann.cut (Inv.mk Oq (λ(i:Oq)=>i=yE a f 4 1) (λ(g:Oq)=>let n:=tL (aFI 4 (DV.bool free) 6 6 e) 6 d 12 b 13 (tK g []);n) (λ(p:Oq)=>(0:Nat))) aL (λ(q:Oq)=>Ann.cut (Inv.mk Oq (λ(h:Oq)=>h=yE a f 4 a.mode) (λ(g:Oq)=>let n:=tL (aFI 4 (DV.bool free) 6 6 e) 6 d 12 b 13 (tK g []);n) (λ(p:Oq)=>(0:Nat))) aL (λ(o:Oq)=>aL)))))) zQb Tryz.func15 rfl (nL rfl) λhwf=>by
  refine Eq.mpr (by kernel_rfl:_=(let d:=gOp r push imgs c free most;let n:=rA (nD d);let h:=r.ope;let l:=(2:Int)≠0;let B:=d.opac;let o:=yE d B 4 d.mode;let f:=pL 0 0 0 0 0 0 0 0 0 0 false false;let m:=eC (DV.bool free) (eS (0:Nat)) (bP True);let i:=r.mo;let p:=yE d B 4 1;let j:=r.op;let q:=yE d most 4 1;let C:=eS (DV.bool free)/\fN most (bP True);let k:=r.ma;let s:=(⟨d.kind,d.image,d.x,d.y,0,0,0,most,4,1,d.iso,d.kno⟩:Oq);let D:=eS (iS r.k r.im r.x r.y k r.mx r.my (fM j h i r.fl));let E:=nC imgs (eS (DV.bool free)) (bZ most) (eS (0:Nat)) (bN (bP True));iV (True/\(push=true->True/\True/\True/\True/\aM (iJ r.fl 2 2) (cG l (iJ (fT r.fl 2) 3 3) (dA (∃ A:Oq,iT (A=s) E D (oB c) f (pL 2 0 0 0 0 0 0 most 4 1 (tI r.fl 2) (tI (fT r.fl 2) 3)=nD A)))))/\(push=false->True/\eV (vO r.im imgs []) (aK (jE 44 r.x c.a [] (gOff r.x c.a)) (aH (jE 44 r.y c.b [] (gOff r.y c.b)) (dA (∃ z:Oq,iT (z=s) E D (oB c) f (pL 1 (modS r.im imgs) (gOff r.x c.a) (gOff r.y c.b) 0 0 0 most 4 1 false false=nD z))))))) (∀ g:Oq,g=s->(True/\vK k 4 4 (yF k 4 (True/\(4:Int)≠0/\dN (vO (fT k 4) imgs []) (aK (jE 44 r.mx c.a [] (gOff r.mx c.a)) (aH (jE 44 r.my c.b [] (gOff r.my c.b)) (dA (∃ y:Oq,y=q/\aAF C r f (aDP g g.x g.y (tJ (fT k 4) imgs) (gOff r.mx c.a) (gOff r.my c.b) g.opac=nD y))))))) (mA (modS k 4)->(∃ x:Oq,x=q/\aAF C r f (nD g=nD x))))/\(∀ e:Oq,e=q->(True/\vK j 2 2 (yF j 2 (True/\l/\aK (tM (fT j 2) most) (∃ w:Oq,w=p/\aAF m r f (aDP e e.x e.y e.mask e.mx e.my (zQQ (fT j 2) most)=nD w)))) (mA (modS j 2)->(∃ v:Oq,v=p/\aAF m r f (nD e=nD v))))/\(∀ b:Oq,b=p->(True/\vK i 2 2 (yF i 2 (True/\l/\aM (iJ (fT i 2) 12 12) (∃ u:Oq,u=o/\aAF m r f (pL b.kind b.image b.x b.y b.mask b.mx b.my b.opac b.oper (tJ (fT i 2) 12) b.iso b.kno=nD u)))) (mA (modS i 2)->(∃ t:Oq,t=o/\aAF m r f (nD b=nD t))))/\(∀ a:Oq,qX (a=o) (qW free (iJ h 2 2/\True/\True/\yF h 2 (cZ l (iJ (fT h 2) 12 12) (bX (rA (pL a.kind a.image a.x a.y a.mask a.mx a.my a.opac (tJ (fT h 2) 12) a.mode a.iso a.kno)) n))/\gV (tI h 2) (rA (nD a)=n))) (mB free (True/\True/\rA (nD a)=n)))))))) ?_;delta eS cZ aE aI aF aP aH aK jE eV fT iJ mA tI tJ vK yF yE iQ eC aM bG nC iS oK oT fM bP bN cG bZ pL dN fN iT dA mB aDP bX gV iV nD vC qX qW vO oB tM aAF;simp only [sS,zQh,zX3];have oa:=λn=>zU5 n c.a hc.1;have ob:=λn=>zU5 n c.b hc.2;have b4:=@zZa (wrap .i64 (Int.tdiv r.ma 4)) imgs (by omega) (by omega);have b12:=λv=>@zZa v 12 (by omega) (by omega);have w4:wrap .i64 (1+modS (wrap .i64 (Int.tdiv r.ma 4)) imgs)=1+modS (wrap .i64 (Int.tdiv r.ma 4)) imgs:=wQb _ ⟨by omega,by omega⟩;have w12:∀ v,wrap .i64 (1+modS v 12)=1+modS v 12:=λv=>by have:=b12 v; exact wQb _ ⟨by omega,by omega⟩
  simp only [oa,ob,w4,w12,true_and];simp only [exists_eq_left,forall_eq,gOp,wXx,wXy]
  (repeat' (first | apply And.intro | intro _))<;>(first | decide | (simp_all; done) | (simp_all; rfl))
theorem zQj (w h:Int):Ans prog 83 [rJ (w),rJ (h)] (rD (dQ (zZg w h))):=
 zQa (Γ:=gamI) aL zQb Tryz.func83 rfl (nL rfl) λhwf=>by
  refine Eq.mpr (by kernel_rfl:_=(True/\jS w 1 (bY (fQ h 1) (aM (h≠0) (wM w (fT 16777216 h) (zZg w h))) (yZ h 1 (eM (zZg w h)))) (jJ (decide (w>=1)) true (zZg w h)))) ?_;delta eS bY jS aI fT aM aB fP fQ mP eM wM jJ yZ;simp only [sS,zQh];have:=@zGI w h;grind [zZg]
theorem zQW (w h:Int):Ans prog 257 [rJ (w),rJ (h)] (rD (dQ (zZg w h))):=
 zQa (Γ:=gamI) aL zQb Tryz.func257 rfl (nL rfl) λhwf=>by
  refine Eq.mpr (by kernel_rfl:_=(True/\jS w 1 (bY (fQ h 1) (aM (h≠0) (wM w (fT 16777216 h) (zZg w h))) (yZ h 1 (eM (zZg w h)))) (jJ (decide (w>=1)) true (zZg w h)))) ?_;delta eS bY jS aI fT aM aB fP fQ mP eM wM jJ yZ;simp only [sS,zQh,zQj];have:=@zGI w h;grind [zZg]
theorem zQv (w h:Int):Ans prog 86 [rJ (w),rJ (h)] (rD (dQ (zZg w h))):=
 zQa (Γ:=gamI) aL zQb Tryz.func86 rfl (nL rfl) λhwf=>by
  refine Eq.mpr (by kernel_rfl:_=(let a:=zZg w h;True/\jS w 1 (jS h 1 (bY (jZ w 16777216) (aM (w≠0) (wM h (fT 16777216 w) a)) (aBL w 16777216 (eM a))) (jJ (decide (h>=1)) true a)) (yZ w 1 (rM a)))) ?_;delta eS bY jS aI fT aM aB fP jZ mP eM wM jJ aBL rM yZ;simp only [sS,zQh,zQj,zQW];have h1:1<=w->1<=h->(h<=wrap .i64 (Int.tdiv 16777216 w)↔w*h<=16777216):=λa b=>by rw [zGI b a,wQy]
  have h2:=@zXI w h;grind [zZg]
theorem zQ1 (w h s:Int):Ans prog 258 [rJ (w),rJ (h),rJ (s)] (rJ ((lenW w h s))):=
 zQa (Γ:=gamI) aL zQb Tryz.func258 rfl (nL rfl) λhwf=>by
  refine Eq.mpr (by kernel_rfl:_=(aG (cA (iL (aX h 1*s) w) (lenW w h s)))) ?_;delta eS cA aI aG aX iL;simp only [sS,zQh,zQj,zQW,zQv];simp [lenW]
def aFZ (a:FuncId) (b c:Int) (e:RV):Prop:=Ans prog a [RV.d (DV.int IntKind.i64 b),RV.d (DV.int IntKind.i64 c)] e
def yT (a:FuncId) (b c:Int):Prop:=aFZ a b c (aB (zZg b c))
theorem zZD (w h s:Int) (n:Nat) (xs:List DV):Ans prog 238 [rA [dJ w,dJ h,dJ s,dS n xs]] (rD (dQ (zQM w h s n))):=
 zQa (Γ:=gamI) aL zQb Tryz.func238 rfl (nL rfl) λhwf=>by
  refine Eq.mpr (by kernel_rfl:_=(let a:=eM (zQM w h s n);uD (True/\yT 257 w h/\True/\(zZg w h=true->True/\True/\True/\True/\kA (fQ s w) (jZ s 16777216) (iV (jE 258 w h (qY s) (lenW w h s)) (dA (aBC (n:Int) (lenW w h s) (zQM w h s n)))) (mB (decide (s<=16777216)) (True/\eS true/\a)) (mB (decide (s>=w)) (dA a)))/\mB (zZg w h) (dP (eS true) a)))) ?_;delta eS bY jE dA mB iV dP qY aB fQ jZ eM aBC aFZ uD yT kA;simp only [sS,zQh,zQj,zQW,zQv,zQ1];grind [zQM]
theorem zZp (w h s:Int) (n:Nat) (xs:List DV):Ans prog 163 [rA [dJ w,dJ h,dJ s,dS n xs]] (rD (dQ (zQM w h s n))):=
 zQa (Γ:=gamI) aL zQb Tryz.func163 rfl (nL rfl) λhwf=>by
  refine Eq.mpr (by kernel_rfl:_=(let a:=zQM w h s n;uD (True/\yT 86 w h/\True/\(zZg w h=true->True/\True/\True/\True/\bY (fQ s w) (oL (decide (s<=16777216)) (bS (aG (aBC (n:Int) (iL (aX h 1*s) w) a))) (eM a)) (jJ (decide (s>=w)) true a))/\mP (zZg w h) (rM a)))) ?_;delta eS bY aI aG aX iL aB bS fP fQ mP oL eM jJ rM aBC aFZ uD yT;simp only [sS,zQh,zQj,zQW,zQv,zQ1,zZD];grind [zQM,lenW]
theorem zXR (w h s:Int) (n:Nat) (xs:List DV):Ans prog 237 [rA [dJ w,dJ h,dJ s,dS n xs]] (rD (dQ (zJJ ⟨w,h,s,n,xs⟩))):=
 zQa (Γ:=gamI) aL zQb Tryz.func237 rfl (nL rfl) λhwf=>by
  refine Eq.mpr (by kernel_rfl:_=(let a:=zJJ ⟨w,h,s,n,xs⟩;aV (kZ w 0 (kA ((h==0)=true) ((s==0)=true) (aBN (aAG n) a) (mP (s==0) (eM a)) (jJ (h==0) true a)) (mP (w==0) (rM a))))) ?_;delta eS bY aAG aB aV fP kZ mP eM jJ rM kA aBN;simp only [sS,zQh,zQj,zQW,zQv,zQ1,zZD,zZp];simp [zJJ]; grind
def aHE (a:Ann):Ann:=cT (pE a)
def zV (a b:Int) (c:List Cl):List Cl:=mY a (mY b c)
def xE (a:Bool):Ann:=Ann.sure a Ann.leaf
def aGH (a b c d:Int) (e:List Cl):List Cl:=zV a b (zV c d e)
def aBO (a b c d e:Int) (f:List Cl):List Cl:=mY a (aGH b c d e f)
def zR (a b c d e:Int):List Cl:=aBO a b c d e []
def uK (a:Int) (b:Nat) (c:List (Nat × AV)):List (Nat × AV):=vM 1 a b b c
def uQ (a:List (Nat × AV)) (b:Nat) (c:List Cl):Snap:=qZ a b c []
def aLO (a:Nat) (b:AV) (c:List (Nat × AV)):List (Nat × AV):=(a,b)::c
def aLP (a:Nat) (b:List Cl) (c:List (Nat × AV)):List (Nat × AV):=aLO a (AV.agg b) c
def aDE (a:Nat) (b:List Cl) (c:Nat) (d:Int):List (Nat × AV):=aLP a b (aEF c d)
def aIN (a:Bool):Ann:=aHE (xE a)
def vA:Ann:=aIN false
def xS:Ann:=aIN true
def bE (a b:Int):Prop:=DV.int IntKind.i64 a=DV.int IntKind.i64 b
def gN:Prop:=bG 0
def jW (a:Prop):Prop:=True->True/\a
def lM (a b:Int):Prop:=bE (aI (a+1)) b
def wR:Prop:=kD 0 3
def wX:Prop:=kD 2 3
def wT:Prop:=kD 1 3
def wY:Prop:=decide ((3:Int)<3)=false
def aCM (a b c:Int):List DV:=[aE a,aE b,aE c]
def iH (a b:Int) (c:Nat) (d:Int):Prop:=0<=a/\aW (b<(c:Int)) (eS (some (aE d)))
def xV (a b c d:Prop):Prop:=a->True/\cG b c d
theorem zQp (c0 c1 c2 ca cf most:Int):Ans prog 117 [rA [dK c0,dK c1,dK c2,dK ca,dK cf],rD (dK most)] (rD (dQ (Px.ok ⟨c0,c1,c2,ca,cf⟩ most))):=
 zQa (Γ:=gamI) (let a:=zR c0 c1 c2 ca cf;let b:=mY c0 (zV c1 c2 []);pM (Ann.link (Inv.mk Unit (λ(m:Unit)=>True) (λ(l:Unit)=>uQ (uK most 2 (aDE 8 b 9 0)) 2 a) (λ(d:Unit)=>(0:Nat))) (λ(g:Unit)=>xS) (Ann.link (Inv.mk Unit (λ(k:Unit)=>aZ (c0<=ca)) (λ(j:Unit)=>uQ (uK most 2 (aDE 8 b 9 1)) 2 a) (λ(d:Unit)=>(0:Nat))) (λ(g:Unit)=>xS) (Ann.link (Inv.mk Unit (λ(i:Unit)=>aW (c0<=ca) (c1<=ca)) (λ(h:Unit)=>uQ (uK most 2 (aDE 8 b 9 2)) 2 a) (λ(d:Unit)=>(0:Nat))) (λ(g:Unit)=>xS) (Ann.link (Inv.mk Unit (λ(f:Unit)=>bK (c0<=ca) (c1<=ca) (c2<=ca)) (λ(e:Unit)=>uQ (uK most 2 (aDE 8 b 9 3)) 2 a) (λ(d:Unit)=>(0:Nat))) (λ(c:Unit)=>vA) aL))))) zQb Tryz.func117 rfl (nL rfl) λhwf=>by
  refine Eq.mpr (by kernel_rfl:_=(let a:=Px.ok ⟨c0,c1,c2,ca,cf⟩ most;let b:=c0<=ca;let e:=bK b (c1<=ca) (c2<=ca);let d:=eS (dR c0 c1 c2 ca cf);let c:=eS (aCM c0 c1 c2);let f:=aW b (c1<=ca);True/\True/\True/\True/\True/\(∃ n:Unit,True/\aW (aF (bZ most) (eS (0:Nat)) c gN) (eS (dR c0 c1 c2 ca cf)))/\aF (∀ m:Unit,jW (cG wR (iH 0 0 3 c0) (zW c0 ca a (∃ l:Unit,bK (aZ b) (aF (bZ most) (eS (0:Nat)) c (lM 0 1)) d)))) (∀ k:Unit,xV (aZ b) wT (iH 1 1 3 c1) (zW c1 ca a (∃ j:Unit,bK f (aF (bZ most) (eS (0:Nat)) c (lM 1 2)) d))) (∀ i:Unit,xV f wX (iH 2 2 3 c2) (zW c2 ca a (∃ h:Unit,bK e (aF (bZ most) (eS (0:Nat)) c (lM 2 3)) d))) (∀ g:Unit,e->eZ (aM wY (bY (jZ ca cf) (True/\True/\True/\True/\wM cf most a) (aBL ca cf (eM a))))))) ?_;delta eS bY aZ aE aI aF dR kD aM bG cG bZ aW fU bK gT eZ aB bE gN jW jZ mP eM wM aBL lM wR wX wT wY xX aCM iH xV zW;simp only [sS,zQh,zQj,zQW,zQv,zQ1,zZD,zZp,zXR];simp [Px.ok,w1_]; grind
def aAY (a b:Int) (c d:Prop):Prop:=True/\True/\True/\(decide (a<=b)=true->True/\c)/\d
def rN (a b:Int) (c:Prop):Prop:=aM (oF a b 3) c
theorem zQB (c0 c1 c2 ca cf most:Int):Ans prog 231 [rA [dK c0,dK c1,dK c2,dK ca,dK cf],rD (dK most)] (rD (dQ (Px.ok ⟨c0,c1,c2,ca,cf⟩ most))):=
 zQa (Γ:=gamI) aL zQb Tryz.func231 rfl (nL rfl) λhwf=>by
  refine Eq.mpr (by kernel_rfl:_=(let a:=Px.ok ⟨c0,c1,c2,ca,cf⟩ most;let b:=eM a;True/\True/\aK (fL 3) (aAY c0 ca (rN 1 1 (oL (decide (c1<=ca)) (rN 2 2 (gP (jZ c2 ca) (bY (jZ ca cf) (True/\True/\True/\True/\wM cf most a) (aBL ca cf b)) (jJ (decide (c2<=ca)) true a))) (rM a))) (uC (decide (c0<=ca))->aG b)))) ?_;delta eS bY aG aK oF fL aM aB fP gP jZ mP oL eM wM jJ aAY aBL rM rN uC;simp only [sS,zQh,zQj,zQW,zQv,zQ1,zZD,zZp,zXR,zQp];simp [Px.ok]; grind
def cQ (a b c d e f:Prop):Prop:=a/\b/\aF c d e f
def pW (a b c:Int) (d:Nat) (e:List DV) (f:List Cl):List Cl:=bO a::cS b c (fO d e f)
def gZ (a:Bool) (b c d e f:Int) (g:Nat) (h:List DV):Prop:=okPl a b c ⟨d,e,f,g,h⟩=true
def rY (a b c:Int) (d:Nat) (e:List DV) (f g h:Int) (i:Nat) (j:List DV) (k:List Cl):List Cl:=pW a b c d e (pW f g h i j k)
def aMH (a:List (Nat × AV)) (b:Nat) (c e:Int) (f:Bool) (g:List Cl) (h:List (Nat × Bx)):Snap:=qZ a b (cS c e (Cl.d (DV.bool f)::g)) h
def aHU (a:List (Nat × AV)) (b:Nat) (c d:Int) (e:Bool) (f g h i j:Int) (k:List Cl) (l:List (Nat × Bx)):Snap:=aMH a b c d e (aBO f g h i j k) l
def aJP (a:List (Nat × AV)) (b c:Int) (d:Bool) (e f g h i:Int) (j:List Cl) (k:List (Nat × Bx)):Snap:=aHU a 1 b c d e f g h i j k
def zZ (a:List (Nat × AV)) (b c:Int) (d:Bool) (e f g h i:Int) (j:List Cl):Snap:=aJP a b c d e f g h i j []
def aJW (a:Nat) (b c d:Int) (e:Nat) (f:List DV) (g h i:Int) (j:Nat) (k:List DV) (l:List Cl) (m:Nat) (n:Int):List (Nat × AV):=aDE a (rY b c d e f g h i j k l) m n
def aCR (a:Nat) (b c d:Int) (e:Nat) (f:List DV) (g h i:Int) (j:Nat) (k:List DV) (l:List Cl) (m:Nat) (n:Int):List (Nat × AV):=yL (aJW a b c d e f g h i j k l m n)
def oS (a b c:Int) (d:Nat) (e f:List DV):List DV:=DV.int IntKind.i64 a::DV.int IntKind.i64 b::DV.int IntKind.i64 c::DV.sl d e::f
def cO (a b c:Int) (d:Nat) (e:List DV) (f g h:Int) (i:Nat) (j k:List DV):List DV:=oS a b c d e (oS f g h i j k)
def jB (a b:Int) (c:Bool) (d e f g h:Int) (i j k l m:Pl):Im:=⟨a,b,c,⟨d,e,f,g,h⟩,i,j,k,l,m⟩
def kC (a b c d e f g h:Int) (i:Nat) (j k:List DV):List DV:=aE a::aE b::aE c::aE d::aE e::oS f g h i j k
def fJ (a:Int):Prop:=kD a 5
def wS (a:Prop) (b c:Int):Prop:=bK (eS (0:Nat)) a (lM b c)
def yY:Prop:=decide ((5:Int)<5)=false
def aBJ (a b c d e f g:Prop):Prop:=True/\a/\b/\c/\aF d e f g
def tB (a:Bool) (b:Prop) (c:Bool) (d:Prop):Prop:=sN a b (fP (!a) c d)
def pX (a b:Prop) (c d:Int) (e:Bool) (f:List DV):Prop:=bK a b (eS (oT c d e f))
def zQ (a b c:Bool):Bool:=Bool.and a (pS b c true)
def rZ (a:FuncId) (b c d:Int) (e:Nat) (f:List DV) (g:List RV) (h i:Prop):Prop:=bF a (oS b c d e f []) g (aB (zQM b c d e))/\True/\True/\aBK (zQM b c d e) h/\i
def zB (a:Bool) (b c:Int):Bool:=zQ a (b==0) (c==0)
def pY (a b:Int) (c d:Prop):Prop:=gP ((a !=b)=false) c d
def vB (a:Bool) (b c:Prop):Prop:=True/\True/\True/\gI a b/\c
def aHX (a:Int):Prop:=eS (some (DV.int IntKind.i64 a))
def tA (a b c:Int) (d:Nat) (e f:List DV) (g h:Int):Prop:=wS (eS (oS a b c d e f)) g h
def sZ (a b c d:Int) (e:Nat) (f:List DV):Prop:=0<=a/\a<((5:Nat):Int)/\aF (aHX b) (aHX c) (aHX d) (eS (some (DV.sl e f)))
def aET (a b c:Int) (d:Nat) (e f:List DV) (g:List RV):Prop:=bF 237 (oS a b c d e f) g (aB (zJJ ⟨a,b,c,d,e⟩))
theorem zQx (w h:Int) (so:Bool) (c0 c1 c2 ca cf w0 h0 s0:Int) (n0:Nat) (xs0:List DV) (w1 h1 s1:Int) (n1:Nat) (xs1:List DV) (w2 h2 s2:Int) (n2:Nat) (xs2:List DV) (w3 h3 s3:Int) (n3:Nat) (xs3:List DV) (w4 h4 s4:Int) (n4:Nat) (xs4:List DV):Ans prog 208 [rA [dJ w,dJ h,dQ so,dK c0,dK c1,dK c2,dK ca,dK cf,dJ w0,dJ h0,dJ s0,dS n0 xs0,dJ w1,dJ h1,dJ s1,dS n1 xs1,dJ w2,dJ h2,dJ s2,dS n2 xs2,dJ w3,dJ h3,dJ s3,dS n3 xs3,dJ w4,dJ h4,dJ s4,dS n4 xs4]] (rD (dQ (Im.formed ⟨w,h,so,⟨c0,c1,c2,ca,cf⟩,⟨w0,h0,s0,n0,xs0⟩,⟨w1,h1,s1,n1,xs1⟩,⟨w2,h2,s2,n2,xs2⟩,⟨w3,h3,s3,n3,xs3⟩,⟨w4,h4,s4,n4,xs4⟩⟩))):=
 zQa (Γ:=gamI) (let a:=pW w2 h2 s2 n2 xs2 (rY w3 h3 s3 n3 xs3 w4 h4 s4 n4 xs4 []);let b:=rY w0 h0 s0 n0 xs0 w1 h1 s1 n1 xs1 a;let i:=gZ so w h w3 h3 s3 n3 xs3;let g:=gZ so w h w2 h2 s2 n2 xs2;let f:=gZ so w h w1 h1 s1 n1 xs1;let e:=gZ so w h w0 h0 s0 n0 xs0;let c:=so=true\/(⟨c0,c1,c2,ca,cf⟩:Px)=Px.zero;let d:=zZg w h=true;eF (Ann.link (Inv.mk Unit (λ(y:Unit)=>aW d c) (λ(x:Unit)=>zZ (aCR 23 w0 h0 s0 n0 xs0 w1 h1 s1 n1 xs1 a 24 0) w h so c0 c1 c2 ca cf b) (λ(k:Unit)=>(0:Nat))) (λ(n:Unit)=>xS) (Ann.link (Inv.mk Unit (λ(v:Unit)=>bK d c e) (λ(u:Unit)=>zZ (aCR 23 w0 h0 s0 n0 xs0 w1 h1 s1 n1 xs1 a 24 1) w h so c0 c1 c2 ca cf b) (λ(k:Unit)=>(0:Nat))) (λ(n:Unit)=>xS) (Ann.link (Inv.mk Unit (λ(t:Unit)=>aF d c e f) (λ(s:Unit)=>zZ (aCR 23 w0 h0 s0 n0 xs0 w1 h1 s1 n1 xs1 a 24 2) w h so c0 c1 c2 ca cf b) (λ(k:Unit)=>(0:Nat))) (λ(n:Unit)=>xS) (Ann.link (Inv.mk Unit (λ(r:Unit)=>gU d c e f g) (λ(q:Unit)=>zZ (aCR 23 w0 h0 s0 n0 xs0 w1 h1 s1 n1 xs1 a 24 3) w h so c0 c1 c2 ca cf b) (λ(k:Unit)=>(0:Nat))) (λ(n:Unit)=>xS) (Ann.link (Inv.mk Unit (λ(p:Unit)=>cQ d c e f g i) (λ(o:Unit)=>zZ (aCR 23 w0 h0 s0 n0 xs0 w1 h1 s1 n1 xs1 a 24 4) w h so c0 c1 c2 ca cf b) (λ(k:Unit)=>(0:Nat))) (λ(n:Unit)=>xS) (Ann.link (Inv.mk Unit (λ(m:Unit)=>d/\cQ c e f g i (gZ so w h w4 h4 s4 n4 xs4)) (λ(l:Unit)=>zZ (aCR 23 w0 h0 s0 n0 xs0 w1 h1 s1 n1 xs1 a 24 5) w h so c0 c1 c2 ca cf b) (λ(k:Unit)=>(0:Nat))) (λ(j:Unit)=>vA) aL))))))) zQb Tryz.func208 rfl (nL rfl) λhwf=>by
  refine Eq.mpr (by kernel_rfl:_=(let b:=Im.formed (jB w h so c0 c1 c2 ca cf ⟨w0,h0,s0,n0,xs0⟩ ⟨w1,h1,s1,n1,xs1⟩ ⟨w2,h2,s2,n2,xs2⟩ ⟨w3,h3,s3,n3,xs3⟩ ⟨w4,h4,s4,n4,xs4⟩);let a:=eM b;let l:=gZ so w h w3 h3 s3 n3 xs3;let k:=gZ so w h w2 h2 s2 n2 xs2;let j:=gZ so w h w1 h1 s1 n1 xs1;let g:=gZ so w h w0 h0 s0 n0 xs0;let d:=so=true\/(⟨c0,c1,c2,ca,cf⟩:Px)=Px.zero;let e:=zZg w h=true;let m:=e/\cQ d g j k l (gZ so w h w4 h4 s4 n4 xs4);let c:=cO w1 h1 s1 n1 xs1 w2 h2 s2 n2 xs2 (cO w3 h3 s3 n3 xs3 w4 h4 s4 n4 xs4 []);let f:=kC c0 c1 c2 ca cf w0 h0 s0 n0 xs0 c;let n:=(∃ L:Unit,pX m (tA w0 h0 s0 n0 xs0 c 4 5) w h so f);let i:=rM b;let o:=tB so (rZ 238 w4 h4 s4 n4 xs4 [] (pT (w4 !=w) (True/\True/\True/\True/\sV (h4 !=h) a ((h4 !=h)=false) n) (jJ (w4 !=w) false b)) (jN (zQM w4 h4 s4 n4) i)) true n;let p:=zJJ ⟨w4,h4,s4,n4,xs4⟩;let q:=cQ e d g j k l;let r:=(∃ O:Unit,pX q (tA w0 h0 s0 n0 xs0 c 3 4) w h so f);let s:=tB so (rZ 238 w3 h3 s3 n3 xs3 [] (pT (w3 !=w) (True/\True/\True/\True/\sV (h3 !=h) a ((h3 !=h)=false) r) (jJ (w3 !=w) false b)) (jN (zQM w3 h3 s3 n3) i)) true r;let t:=zJJ ⟨w3,h3,s3,n3,xs3⟩;let u:=gU e d g j k;let v:=(∃ Q:Unit,pX u (tA w0 h0 s0 n0 xs0 c 2 3) w h so f);let x:=sN so (rZ 238 w2 h2 s2 n2 xs2 [] (pY w2 w (True/\sV (h2 !=h) a ((h2 !=h)=false) v) (jJ (w2 !=w) false b)) (jN (zQM w2 h2 s2 n2) i)) (nO (!so) (True/\v));let y:=zJJ ⟨w2,h2,s2,n2,xs2⟩;let z:=aF e d g j;let A:=(∃ S:Unit,pX z (tA w0 h0 s0 n0 xs0 c 1 2) w h so f);let B:=tB so (bF 238 (oS w1 h1 s1 n1 xs1 []) [] (aB (zQM w1 h1 s1 n1))/\True/\True/\gI (zQM w1 h1 s1 n1) (bS (((w1 !=w)=false->True/\True/\True/\True/\True/\sV (h1 !=h) a ((h1 !=h)=false) A)/\jJ (w1 !=w) false b))/\jN (zQM w1 h1 s1 n1) i) true A;let C:=zJJ ⟨w1,h1,s1,n1,xs1⟩;let D:=bK e d g;let E:=(∃ U:Unit,pX D (tA w0 h0 s0 n0 xs0 c 0 1) w h so f);let F:=tB so (rZ 238 w0 h0 s0 n0 xs0 [] (pT (w0 !=w) (True/\True/\True/\True/\sV (h0 !=h) a ((h0 !=h)=false) E) (jJ (w0 !=w) false b)) (jN (zQM w0 h0 s0 n0) i)) true E;let G:=zJJ ⟨w0,h0,s0,n0,xs0⟩;let H:=aW e d;let I:=aBJ (∃ W:Unit,pX H (bK (eS (0:Nat)) (eS (oS w0 h0 s0 n0 xs0 c)) gN) w h so f) (∀ V:Unit,xV H (fJ 0) (sZ 0 w0 h0 s0 n0 xs0) (True/\True/\True/\qN so (aET w0 h0 s0 n0 xs0 [] []) (vB G F (jN G a))/\nO so F)) (∀ T:Unit,bL D (fJ 1) (sZ 1 w1 h1 s1 n1 xs1/\dP (qN so (aET w1 h1 s1 n1 xs1 [] []) (vB C B (jN C a))) (nO so B))) (∀ R:Unit,xV z (fJ 2) (sZ 2 w2 h2 s2 n2 xs2) (True/\True/\True/\qN so (aET w2 h2 s2 n2 xs2 [] []) (vB y x (jN y a))/\mP so (True/\x))) (∀ P:Unit,xV u (fJ 3) (sZ 3 w3 h3 s3 n3 xs3) (True/\True/\True/\qN so (aET w3 h3 s3 n3 xs3 [] []) (vB t s (jN t a))/\nO so s)) (∀ M:Unit,xV q (fJ 4) (sZ 4 w4 h4 s4 n4 xs4) (True/\True/\True/\qN so (aET w4 h4 s4 n4 xs4 [] []) (vB p o (jN p a))/\nO so o)) (∀ K:Unit,m->eZ (iK yY (oN b)));let J:=zB (zB (c0==0) c1 c2) ca cf;aV (yV (yT 83 w h) (gI (zZg w h) (bY (uR so) (True/\sN J a (pA J I)) (nO (!so) (True/\I)))) (jN (zZg w h) a)))) ?_;delta eS bY aE aI aF gU kD bG oT cG mB aW bK bL dP iK eZ bF aB bE aV bS gN nO cQ pS fP gP pT mP eM jJ rM sO aBK oN oS cO jB kC aFZ yT gI yV lM fJ wS yY aBJ gZ sN tB pX zQ rZ zB pY pA jN uR sV qN vB xV aHX tA sZ aET;simp only [sS,zQh,zQj,zQW,zQv,zQ1,zZD,zZp,zXR,zQp,zQB];cases so<;>simp [w1_,Im.formed,Im.inner,okPl,Px.zero]<;>(repeat' (first | apply And.intro | intro))<;>(first | assumption | (simp_all; done) | grind)
def aLN (a b c d:Nat) (e:Int) (f:List (Nat × AV)):List (Nat × AV):=aHY a b c d (bO e) f
def aBZ (a b c:Nat) (d:Int) (e:List (Nat × AV)):List (Nat × AV):=aLN a b 0 c d e
def aCF (a b c:Nat) (d:Int):List (Nat × AV):=aBZ a b c d []
def mQ (a:Bool):Ann:=rF (xE a)
def aBM (a b:Nat) (c d e:Int) (f:Bool) (g h i j k:Int) (l:List Cl):Snap:=zZ (aCF a a b c) d e f g h i j k l
def pQ (a:Prop):Prop:=aW (eS (0:Nat)) a
def pU (a:Bool) (b:Prop):Prop:=jG (!a) b
def fE (a b:Int):Prop:=aW (eS (0:Nat)) (lM a b)
def jL (a:Int) (b:Prop):Prop:=aM (oF a a 5) b
def pZ (a:Int) (b:Prop):Prop:=jG (fI a) b
def zA (a:Bool) (b:Prop):Prop:=jG a (True/\True/\b)
def aDZ (a:Bool) (b:Im) (c:Prop):Prop:=mO a (eM (Im.inner b)) c
def aEA (a:Int) (b:Nat) (c:Prop) (d:Int) (e:Bool) (f g:Int) (h:List DV) (i:List RV) (j k:Prop) (l:Bool) (m:Prop):Prop:=pT (fI a) (True/\True/\fU (b:Int) 0 c (nJ (b:Int) d (tB e (rZ 163 f g a b h i j k) l m))) (pZ a (True/\True/\c))
theorem zQO (w h:Int) (so:Bool) (c0 c1 c2 ca cf w0 h0 s0:Int) (n0:Nat) (xs0:List DV) (w1 h1 s1:Int) (n1:Nat) (xs1:List DV) (w2 h2 s2:Int) (n2:Nat) (xs2:List DV) (w3 h3 s3:Int) (n3:Nat) (xs3:List DV) (w4 h4 s4:Int) (n4:Nat) (xs4:List DV):Ans prog 87 [rA [dJ w,dJ h,dQ so,dK c0,dK c1,dK c2,dK ca,dK cf,dJ w0,dJ h0,dJ s0,dS n0 xs0,dJ w1,dJ h1,dJ s1,dS n1 xs1,dJ w2,dJ h2,dJ s2,dS n2 xs2,dJ w3,dJ h3,dJ s3,dS n3 xs3,dJ w4,dJ h4,dJ s4,dS n4 xs4]] (rD (dQ (Im.inner ⟨w,h,so,⟨c0,c1,c2,ca,cf⟩,⟨w0,h0,s0,n0,xs0⟩,⟨w1,h1,s1,n1,xs1⟩,⟨w2,h2,s2,n2,xs2⟩,⟨w3,h3,s3,n3,xs3⟩,⟨w4,h4,s4,n4,xs4⟩⟩))):=
 zQa (Γ:=gamI) (let a:=rY w0 h0 s0 n0 xs0 w1 h1 s1 n1 xs1 (pW w2 h2 s2 n2 xs2 (rY w3 h3 s3 n3 xs3 w4 h4 s4 n4 xs4 []));let e:=gZ so w h w3 h3 s3 n3 xs3;let d:=gZ so w h w2 h2 s2 n2 xs2;let c:=gZ so w h w1 h1 s1 n1 xs1;let b:=gZ so w h w0 h0 s0 n0 xs0;let f:=mQ true;pM (Ann.link (Inv.mk Unit (λ(v:Unit)=>True) (λ(u:Unit)=>aBM 1 3 0 w h so c0 c1 c2 ca cf a) (λ(i:Unit)=>(0:Nat))) (λ(l:Unit)=>f) (Ann.link (Inv.mk Unit (λ(t:Unit)=>aZ b) (λ(s:Unit)=>aBM 1 3 1 w h so c0 c1 c2 ca cf a) (λ(i:Unit)=>(0:Nat))) (λ(l:Unit)=>f) (Ann.link (Inv.mk Unit (λ(r:Unit)=>aW b c) (λ(q:Unit)=>aBM 1 3 2 w h so c0 c1 c2 ca cf a) (λ(i:Unit)=>(0:Nat))) (λ(l:Unit)=>f) (Ann.link (Inv.mk Unit (λ(p:Unit)=>bK b c d) (λ(o:Unit)=>aBM 1 3 3 w h so c0 c1 c2 ca cf a) (λ(i:Unit)=>(0:Nat))) (λ(l:Unit)=>f) (Ann.link (Inv.mk Unit (λ(n:Unit)=>aF b c d e) (λ(m:Unit)=>aBM 1 3 4 w h so c0 c1 c2 ca cf a) (λ(i:Unit)=>(0:Nat))) (λ(l:Unit)=>f) (Ann.link (Inv.mk Unit (λ(k:Unit)=>gU b c d e (gZ so w h w4 h4 s4 n4 xs4)) (λ(j:Unit)=>aBM 1 3 5 w h so c0 c1 c2 ca cf a) (λ(i:Unit)=>(0:Nat))) (λ(g:Unit)=>mQ false) aL))))))) zQb Tryz.func87 rfl (nL rfl) λhwf=>by
  refine Eq.mpr (by kernel_rfl:_=(let c:=jB w h so c0 c1 c2 ca cf ⟨w0,h0,s0,n0,xs0⟩ ⟨w1,h1,s1,n1,xs1⟩ ⟨w2,h2,s2,n2,xs2⟩ ⟨w3,h3,s3,n3,xs3⟩ ⟨w4,h4,s4,n4,xs4⟩;let g:=Im.inner c;let p:=gZ so w h w3 h3 s3 n3 xs3;let j:=gZ so w h w2 h2 s2 n2 xs2;let i:=gZ so w h w1 h1 s1 n1 xs1;let e:=gZ so w h w0 h0 s0 n0 xs0;let q:=gU e i j p (gZ so w h w4 h4 s4 n4 xs4);let d:=kC c0 c1 c2 ca cf w0 h0 s0 n0 xs0 (cO w1 h1 s1 n1 xs1 w2 h2 s2 n2 xs2 (cO w3 h3 s3 n3 xs3 w4 h4 s4 n4 xs4 []));let k:=(∃ M:Unit,pX q (fE 4 5) w h so d);let b:=rM g;let r:=pU (zQM w4 h4 s4 n4) b;let a:=eM g;let s:=zA (w4 !=w) a;let t:=aDZ (h4 !=h) c (True/\True/\k);let f:=bS a;let u:=aF e i j p;let l:=(∃ P:Unit,pX u (fE 3 4) w h so d);let v:=pU (zQM w3 h3 s3 n3) b;let x:=zA (w3 !=w) a;let y:=aDZ (h3 !=h) c (True/\True/\l);let z:=bK e i j;let m:=(∃ R:Unit,pX z (fE 2 3) w h so d);let A:=pU (zQM w2 h2 s2 n2) b;let B:=zA (w2 !=w) a;let C:=aDZ (h2 !=h) c (True/\True/\m);let D:=aW e i;let n:=(∃ T:Unit,pX D (fE 1 2) w h so d);let E:=pU (zQM w1 h1 s1 n1) b;let F:=zA (w1 !=w) a;let G:=aDZ (h1 !=h) c (True/\True/\n);let H:=aZ e;let o:=(∃ V:Unit,pX H (fE 0 1) w h so d);let I:=pU (zQM w0 h0 s0 n0) b;let J:=zA (w0 !=w) a;let K:=aDZ (h0 !=h) c (True/\True/\o);True/\True/\aBJ (∃ X:Unit,True/\aW (pQ gN) (eS (oT w h so d))) (∀ W:Unit,jW (aK (fJ 0) (jL 0 (oL so (kA (hZ w0) (hZ h0) (aEA s0 n0 a 0 so w0 h0 xs0 [] (pY w0 w K J) I true o) (pZ h0 b) (pZ w0 f)) (tB so (rZ 163 w0 h0 s0 n0 xs0 [] (pY w0 w K J) I) true o))))) (∀ U:Unit,H->eZ (aK (fJ 1) (jL 1 (oL so (kA (hZ w1) (hZ h1) (aEA s1 n1 a 0 so w1 h1 xs1 [] (pY w1 w G F) E true n) (pZ h1 b) (pZ w1 f)) (tB so (rZ 163 w1 h1 s1 n1 xs1 [] (pY w1 w G F) E) true n))))) (∀ S:Unit,D->eZ (aK (fJ 2) (jL 2 (oL so (kA (hZ w2) (hZ h2) (aEA s2 n2 a 0 so w2 h2 xs2 [] (pY w2 w C B) A true m) (pZ h2 b) (pZ w2 f)) (tB so (rZ 163 w2 h2 s2 n2 xs2 [] (pY w2 w C B) A) true m))))) (∀ Q:Unit,z->eZ (aK (fJ 3) (jL 3 (oL so (kA (hZ w3) (hZ h3) (aEA s3 n3 a 0 so w3 h3 xs3 [] (pY w3 w y x) v true l) (pZ h3 b) (pZ w3 f)) (tB so (rZ 163 w3 h3 s3 n3 xs3 [] (pY w3 w y x) v) true l))))) (∀ O:Unit,u->eZ (aK (fJ 4) (jL 4 (oL so (kA (hZ w4) (hZ h4) (aEA s4 n4 a 0 so w4 h4 xs4 [] (pY w4 w t s) r true k) (pZ h4 b) (pZ w4 f)) (tB so (rZ 163 w4 h4 s4 n4 xs4 [] (pY w4 w t s) r) true k))))) (∀ L:Unit,qX q yY (bY (so=false) (aBN (zB (zB (c0==0) c1 c2) ca cf) g) (jV so (oN g)))))) ?_;delta eS bY aZ aE aI aF aK oF gU kD aM bG oT qX aW fU bK nJ jG eZ bF aB bE bS gN jW jV pQ pS fP mO gP pT mP oL eM rM sO aBK oN oS cO jB kC pU kA lM fJ fE jL yY aBJ gZ fI sN hZ pZ tB pX zQ rZ zA aDZ zB aBN pY aEA;simp only [sS,zQh,zQj,zQW,zQv,zQ1,zZD,zZp,zXR,zQp,zQB,zQx];cases so<;>simp [w1_,Im.inner,okPl,zJJ,Px.zero]<;>(repeat' (first | apply And.intro | intro))<;>(first | assumption | (simp_all; done) | grind)
def oO (a b:Int) (c:Bool) (d:List DV):RV:=RV.agg (DV.int IntKind.i64 a::DV.int IntKind.i64 b::DV.bool c::d)
theorem zQY (w h:Int) (so:Bool) (c0 c1 c2 ca cf w0 h0 s0:Int) (n0:Nat) (xs0:List DV) (w1 h1 s1:Int) (n1:Nat) (xs1:List DV) (w2 h2 s2:Int) (n2:Nat) (xs2:List DV) (w3 h3 s3:Int) (n3:Nat) (xs3:List DV) (w4 h4 s4:Int) (n4:Nat) (xs4:List DV):Ans prog 42 [rA [dJ w,dJ h,dQ so,dK c0,dK c1,dK c2,dK ca,dK cf,dJ w0,dJ h0,dJ s0,dS n0 xs0,dJ w1,dJ h1,dJ s1,dS n1 xs1,dJ w2,dJ h2,dJ s2,dS n2 xs2,dJ w3,dJ h3,dJ s3,dS n3 xs3,dJ w4,dJ h4,dJ s4,dS n4 xs4]] (rD (dQ (Im.formed ⟨w,h,so,⟨c0,c1,c2,ca,cf⟩,⟨w0,h0,s0,n0,xs0⟩,⟨w1,h1,s1,n1,xs1⟩,⟨w2,h2,s2,n2,xs2⟩,⟨w3,h3,s3,n3,xs3⟩,⟨w4,h4,s4,n4,xs4⟩⟩))):=
 zQa (Γ:=gamI) aL zQb Tryz.func42 rfl (nL rfl) λhwf=>by
  refine Eq.mpr (by kernel_rfl:_=(let a:=(⟨w4,h4,s4,n4,xs4⟩:Pl);let b:=(⟨w3,h3,s3,n3,xs3⟩:Pl);let c:=(⟨w2,h2,s2,n2,xs2⟩:Pl);let d:=(⟨w1,h1,s1,n1,xs1⟩:Pl);let e:=(⟨w0,h0,s0,n0,xs0⟩:Pl);let f:=Im.formed (jB w h so c0 c1 c2 ca cf e d c b a);let g:=aB (Im.inner (jB w h so c0 c1 c2 ca cf e d c b a));uD (True/\yT 86 w h/\True/\(zZg w h=true->aK (dL 87 (oO w h so (kC c0 c1 c2 ca cf w0 h0 s0 n0 xs0 (cO w1 h1 s1 n1 xs1 w2 h2 s2 n2 xs2 (cO w3 h3 s3 n3 xs3 w4 h4 s4 n4 xs4 [])))) g) (g=aB f))/\mP (zZg w h) (eM f)))) ?_;delta eS aE aK aB mP eM dL oS cO jB kC oO aFZ uD yT;simp only [sS,zQh,zQj,zQW,zQv,zQ1,zZD,zZp,zXR,zQp,zQB,zQx,zQO];simp [Im.formed]; grind
def rC (a b c:Int) (d:List Cl):List Cl:=cS a b (bO c::d)
def aHN (a b c d:Int) (e:List Cl):List Cl:=aBO a b 0 c d e
def aGE (a b c:Int) (d:List Cl):List Cl:=aHN a 0 b c d
def aIB (a b:Int) (c:List Cl):List Cl:=aGE 0 a b c
def aMC (a:Int) (b:List Cl):List Cl:=aIB 0 a b
def wO (a:List Cl):List Cl:=aMC 0 a
def aJC (a:Int) (b:Nat) (c:Int) (d:List (Nat × AV)):List (Nat × AV):=oJ 1 a b c d
def uI (a b:Int) (c:List (Nat × AV)):List (Nat × AV):=aJC a 2 b c
def lF (a:List DV) (b c d:Int):Int:=nAt a (aY (iL (b*c) d) 1)
def oY (a:Nat) (b:List Cl):List (Nat × Bx):=oZ a b []
def yA (a b c:Nat) (d:List Cl) (e:Nat) (f:Int):List (Nat × AV):=gC a a b b (aDE c d e f)
def aCS (a b c:Nat) (d e f:Int) (g:Nat) (h:List DV) (i:List Cl) (j:Nat) (k:Int):List (Nat × AV):=yA a b c (pW d e f g h i) j k
def aAR (a b c:Prop):Prop:=True/\a/\b/\c
def uF (a b c d:Prop):Prop:=a/\True/\b/\c/\d
def fH (a b c:Prop):Prop:=uF a b True c
def lI (a b:Int) (c:Prop):Prop:=gX a (pF b (eS (0:Nat)) c)
def sF (a b:Int) (c:Nat) (d:List DV):Prop:=lS (iL a b) c 1 d
def sG (a:List DV) (b c:Int):Prop:=bD a (aY (iL b c) 1) (nAt a (aY (iL b c) 1))
def aBS (a:Bool) (b:Prop):Prop:=a=false->True/\True/\True/\True/\b
def gS (a b:Prop) (c d:List DV):Prop:=aF a b (eS c) (eS d)
theorem zK7 (w h:Int) (so:Bool) (c0 c1 c2 ca cf w0 h0 s0:Int) (n0:Nat) (xs0:List DV) (w1 h1 s1:Int) (n1:Nat) (xs1:List DV) (w2 h2 s2:Int) (n2:Nat) (xs2:List DV) (w3 h3 s3:Int) (n3:Nat) (xs3:List DV) (w4 h4 s4:Int) (n4:Nat) (xs4:List DV) (x y:Int) (hu:Im.isU ⟨w,h,so,⟨c0,c1,c2,ca,cf⟩,⟨w0,h0,s0,n0,xs0⟩,⟨w1,h1,s1,n1,xs1⟩,⟨w2,h2,s2,n2,xs2⟩,⟨w3,h3,s3,n3,xs3⟩,⟨w4,h4,s4,n4,xs4⟩⟩) (hf:Im.inner ⟨w,h,so,⟨c0,c1,c2,ca,cf⟩,⟨w0,h0,s0,n0,xs0⟩,⟨w1,h1,s1,n1,xs1⟩,⟨w2,h2,s2,n2,xs2⟩,⟨w3,h3,s3,n3,xs3⟩,⟨w4,h4,s4,n4,xs4⟩⟩=true) (hx:0<=x/\x<w) (hy:0<=y/\y<h):Ans prog 155 [rA [dJ w,dJ h,dQ so,dK c0,dK c1,dK c2,dK ca,dK cf,dJ w0,dJ h0,dJ s0,dS n0 xs0,dJ w1,dJ h1,dJ s1,dS n1 xs1,dJ w2,dJ h2,dJ s2,dS n2 xs2,dJ w3,dJ h3,dJ s3,dS n3 xs3,dJ w4,dJ h4,dJ s4,dS n4 xs4],rJ (x),rJ (y)] (rA (pD (Im.px ⟨w,h,so,⟨c0,c1,c2,ca,cf⟩,⟨w0,h0,s0,n0,xs0⟩,⟨w1,h1,s1,n1,xs1⟩,⟨w2,h2,s2,n2,xs2⟩,⟨w3,h3,s3,n3,xs3⟩,⟨w4,h4,s4,n4,xs4⟩⟩ x y))):=
 zQa (Γ:=gamI) (let e:=lF xs2 y s2 x;let d:=lF xs1 y s1 x;let c:=lF xs0 y s0 x;let a:=wO [];let b:=rC w1 h1 s1 (fO n1 xs1 (pW w2 h2 s2 n2 xs2 (rY w3 h3 s3 n3 xs3 w4 h4 s4 n4 xs4 [])));oU (Ann.link (Inv.mk Unit (λ(j:Unit)=>True) (λ(p:Unit)=>qZ (uI x y (aCS 6 7 15 w0 h0 s0 n0 xs0 b 16 0)) 6 a (oY 7 a)) (λ(g:Unit)=>(0:Nat))) (λ(k:Unit)=>xS) (Ann.link (Inv.mk Unit (λ(j:Unit)=>True) (λ(o:Unit)=>qQ (uI x y (aCS 6 7 15 w0 h0 s0 n0 xs0 b 16 1)) 6 a 7 (aGE c 0 0 [])) (λ(g:Unit)=>(0:Nat))) (λ(k:Unit)=>xS) (Ann.link (Inv.mk Unit (λ(j:Unit)=>True) (λ(n:Unit)=>qQ (uI x y (aCS 6 7 15 w0 h0 s0 n0 xs0 b 16 2)) 6 a 7 (aHN c d 0 0 [])) (λ(g:Unit)=>(0:Nat))) (λ(k:Unit)=>xS) (Ann.link (Inv.mk Unit (λ(j:Unit)=>True) (λ(m:Unit)=>qQ (uI x y (aCS 6 7 15 w0 h0 s0 n0 xs0 b 16 3)) 6 a 7 (zR c d e 0 0)) (λ(g:Unit)=>(0:Nat))) (λ(k:Unit)=>xS) (Ann.link (Inv.mk Unit (λ(j:Unit)=>True) (λ(l:Unit)=>qQ (uI x y (aCS 6 7 15 w0 h0 s0 n0 xs0 b 16 4)) 6 a 7 (zR c d e (lF xs3 y s3 x) 0)) (λ(g:Unit)=>(0:Nat))) (λ(k:Unit)=>xS) (Ann.link (Inv.mk Unit (λ(j:Unit)=>True) (λ(i:Unit)=>qQ (uI x y (aCS 6 7 15 w0 h0 s0 n0 xs0 b 16 5)) 6 a 7 (zR c d e (lF xs3 y s3 x) (lF xs4 y s4 x))) (λ(g:Unit)=>(0:Nat))) (λ(f:Unit)=>vA) aL))))))) zQb Tryz.func155 rfl (nL rfl) λhwf=>by
  refine Eq.mpr (by kernel_rfl:_=(let f:=kR (Im.px (jB w h so c0 c1 c2 ca cf ⟨w0,h0,s0,n0,xs0⟩ ⟨w1,h1,s1,n1,xs1⟩ ⟨w2,h2,s2,n2,xs2⟩ ⟨w3,h3,s3,n3,xs3⟩ ⟨w4,h4,s4,n4,xs4⟩) x y);let e:=lF xs3 y s3 x;let d:=lF xs2 y s2 x;let c:=lF xs1 y s1 x;let a:=lF xs0 y s0 x;let b:=cO w1 h1 s1 n1 xs1 w2 h2 s2 n2 xs2 (cO w3 h3 s3 n3 xs3 w4 h4 s4 n4 xs4 []);True/\True/\True/\True/\(so=true->True/\True/\True/\lW c0 c1 c2 ca cf=f)/\aBS so ((∃ s:Unit,aAR (lI x y (bK (eS (0:Nat)) (eS (oS w0 h0 s0 n0 xs0 b)) gN)) (eS oH) (aZ (eS oH)))/\cQ (∀ r:Unit,bL True (fJ 0) (aK (sZ 0 w0 h0 s0 n0 xs0) (aG (sU (sF (y*s0) x n0 xs0) (sG xs0 (y*s0) x) (jL 0 (∃ q:Unit,gS True (lI x y (tA w0 h0 s0 n0 xs0 b 0 1)) oH (dR a 0 0 0 0))))))) (∀ p:Unit,bL True (fJ 1) (aK (sZ 1 w1 h1 s1 n1 xs1) (aG (sU (sF (y*s1) x n1 xs1) (sG xs1 (y*s1) x) (jL 1 (∃ o:Unit,gS True (lI x y (tA w0 h0 s0 n0 xs0 b 1 2)) oH (dR a c 0 0 0))))))) (∀ n:Unit,bL True (fJ 2) (aK (sZ 2 w2 h2 s2 n2 xs2) (aG (sU (sF (y*s2) x n2 xs2) (sG xs2 (y*s2) x) (jL 2 (∃ m:Unit,gS True (lI x y (tA w0 h0 s0 n0 xs0 b 2 3)) oH (dR a c d 0 0))))))) (∀ l:Unit,bL True (fJ 3) (aK (sZ 3 w3 h3 s3 n3 xs3) (aG (sU (sF (y*s3) x n3 xs3) (sG xs3 (y*s3) x) (jL 3 (∃ k:Unit,gS True (lI x y (tA w0 h0 s0 n0 xs0 b 3 4)) oH (dR a c d e 0))))))) (∀ j:Unit,jW (fH (fJ 4) (sZ 4 w4 h4 s4 n4 xs4) (True/\True/\True/\True/\uD (sU (sF (y*s4) x n4 xs4) (sG xs4 (y*s4) x) (jL 4 (∃ i:Unit,gS True (lI x y (tA w0 h0 s0 n0 xs0 b 4 5)) oH (dR a c d e (lF xs4 y s4 x)))))))) (∀ g:Unit,jW (yY/\fL 5/\True/\iX 5/\True/\jT 5/\aH aAI (jL 4 (lW a c d e (lF xs4 y s4 x)=f))))))) ?_;delta eS aY aZ lS aE aI aF aG aH aK oF dR bD lW fL kD eC aM bG aW bK bL iX jT kR aAI gX oH iL bE pF gN jW aAR cQ oS cO jB uD lM fJ wS jL yY uF fH lI lF sF sG aBS gS sU aHX tA sZ;simp only [sS,zQh,zQj,zQv,zQx,zQO,zQY]
  cases so with
  | true=>simp [Im.px]
  | false=>
   obtain ⟨u0,u1,u2,u3,u4⟩:=hu;obtain ⟨hc,⟨v0,e0,e0'⟩,⟨v1,e1,e1'⟩,⟨v2,e2,e2'⟩,⟨v3,e3,e3'⟩,⟨v4,e4,e4'⟩⟩:=Im.inner_planes hf rfl;simp only at v0 e0 e0' v1 e1 e1' v2 e2 e2' v3 e3 e3' v4 e4 e4';obtain ⟨a0,b0,d0⟩:=zYt u0 v0 (x:=x) (y:=y) ⟨hx.1,by omega⟩ ⟨hy.1,by omega⟩;obtain ⟨a1,b1,d1⟩:=zYt u1 v1 (x:=x) (y:=y) ⟨hx.1,by omega⟩ ⟨hy.1,by omega⟩;obtain ⟨a2,b2,d2⟩:=zYt u2 v2 (x:=x) (y:=y) ⟨hx.1,by omega⟩ ⟨hy.1,by omega⟩;obtain ⟨a3,b3,d3⟩:=zYt u3 v3 (x:=x) (y:=y) ⟨hx.1,by omega⟩ ⟨hy.1,by omega⟩;obtain ⟨a4,b4,d4⟩:=zYt u4 v4 (x:=x) (y:=y) ⟨hx.1,by omega⟩ ⟨hy.1,by omega⟩;simp only at a0 b0 d0 a1 b1 d1 a2 b2 d2 a3 b3 d3 a4 b4 d4;simp only [wQo] at b0 b1 b2 b3 b4 d0 d1 d2 d3 d4;have f0:=(wQD.1 d0).2;have f1:=(wQD.1 d1).2;have f2:=(wQD.1 d2).2;have f3:=(wQD.1 d3).2;have f4:=(wQD.1 d4).2;simp [w1_,f0,f1,f2,f3,f4,a0,a1,a2,a3,a4,b0,b1,b2,b3,b4,d0,d1,d2,d3,d4,Im.px,Pl.at_]
def sA (a b c d:Nat) (e:Int):List (Nat × AV):=gC a a b b (aCF c c d e)
def aJZ (a b:Int) (c:List (Nat × AV)) (d:Nat) (e:List Cl) (f:Nat) (g:List Cl) (h:Nat) (i:List Cl):Snap:=tL (uI a b c) d e f g h i
def aKF (a b:Int) (c:List (Nat × AV)) (e:Nat) (f g:Int) (h:Bool) (i:List Cl) (j:Nat) (k:List Cl) (l:Nat) (m:List Cl):Snap:=aJZ a b c e (cS f g (Cl.d (DV.bool h)::i)) j k l m
def aBP (a b:Int) (c:List (Nat × AV)) (d:Nat) (e f:Int) (g:Bool) (h:List Cl) (i:Nat) (j:List Cl) (k:Nat) (l:List Cl):Snap:=aKF a b c d e f g h i (wO j) k l
def kV (a b:Prop):Prop:=a/\True/\True/\eS true/\b
def oQ (a:Prop):Prop:=True->True/\True/\a
def rU (a:Int) (b:Prop):Prop:=oQ (aM (fJ a) b)
def aFU (a b c d:Prop):Prop:=fH a b (True/\b/\True/\c/\d)
def aBQ (a b:Int) (c:Prop) (d e:Int) (f:Bool) (g h:List DV) (i:Int) (j:List DV):Prop:=True/\oK (lI a b c) (oT d e f g) h (eS (DV.int IntKind.i64 i::j))
theorem jXv (w h:Int) (so:Bool) (c0 c1 c2 ca cf w0 h0 s0:Int) (n0:Nat) (xs0:List DV) (w1 h1 s1:Int) (n1:Nat) (xs1:List DV) (w2 h2 s2:Int) (n2:Nat) (xs2:List DV) (w3 h3 s3:Int) (n3:Nat) (xs3:List DV) (w4 h4 s4:Int) (n4:Nat) (xs4:List DV) (x y:Int) (hu:Im.isU ⟨w,h,so,⟨c0,c1,c2,ca,cf⟩,⟨w0,h0,s0,n0,xs0⟩,⟨w1,h1,s1,n1,xs1⟩,⟨w2,h2,s2,n2,xs2⟩,⟨w3,h3,s3,n3,xs3⟩,⟨w4,h4,s4,n4,xs4⟩⟩) (hf:Im.inner ⟨w,h,so,⟨c0,c1,c2,ca,cf⟩,⟨w0,h0,s0,n0,xs0⟩,⟨w1,h1,s1,n1,xs1⟩,⟨w2,h2,s2,n2,xs2⟩,⟨w3,h3,s3,n3,xs3⟩,⟨w4,h4,s4,n4,xs4⟩⟩=true) (hx:0<=x/\x<w) (hy:0<=y/\y<h):Ans prog 43 [rA [dJ w,dJ h,dQ so,dK c0,dK c1,dK c2,dK ca,dK cf,dJ w0,dJ h0,dJ s0,dS n0 xs0,dJ w1,dJ h1,dJ s1,dS n1 xs1,dJ w2,dJ h2,dJ s2,dS n2 xs2,dJ w3,dJ h3,dJ s3,dS n3 xs3,dJ w4,dJ h4,dJ s4,dS n4 xs4],rJ (x),rJ (y)] (rA (pD (Im.px ⟨w,h,so,⟨c0,c1,c2,ca,cf⟩,⟨w0,h0,s0,n0,xs0⟩,⟨w1,h1,s1,n1,xs1⟩,⟨w2,h2,s2,n2,xs2⟩,⟨w3,h3,s3,n3,xs3⟩,⟨w4,h4,s4,n4,xs4⟩⟩ x y))):=
 zQa (Γ:=gamI) (let d:=iL (y*s2) x;let b:=iL (y*s1) x;let c:=bO (iL (y*s0) x);let a:=aBO c0 c1 c2 ca cf (pW w0 h0 s0 n0 xs0 (rC w1 h1 s1 (fO n1 xs1 (pW w2 h2 s2 n2 xs2 (rY w3 h3 s3 n3 xs3 w4 h4 s4 n4 xs4 [])))));let e:=mQ true;oU (Ann.link (Inv.mk Unit (λ(j:Unit)=>True) (λ(p:Unit)=>aBP x y (sA 3 6 7 8 0) 3 w h so a 6 [] 7 (bO 0::nB [])) (λ(g:Unit)=>(0:Nat))) (λ(k:Unit)=>e) (Ann.link (Inv.mk Unit (λ(j:Unit)=>True) (λ(o:Unit)=>aBP x y (sA 3 6 7 8 1) 3 w h so a 6 [] 7 (c::nB [])) (λ(g:Unit)=>(0:Nat))) (λ(k:Unit)=>e) (Ann.link (Inv.mk Unit (λ(j:Unit)=>True) (λ(n:Unit)=>aBP x y (sA 3 6 7 8 2) 3 w h so a 6 [] 7 (c::aHI b [])) (λ(g:Unit)=>(0:Nat))) (λ(k:Unit)=>e) (Ann.link (Inv.mk Unit (λ(j:Unit)=>True) (λ(m:Unit)=>aBP x y (sA 3 6 7 8 3) 3 w h so a 6 [] 7 (c::aEB b d [])) (λ(g:Unit)=>(0:Nat))) (λ(k:Unit)=>e) (Ann.link (Inv.mk Unit (λ(j:Unit)=>True) (λ(l:Unit)=>aBP x y (sA 3 6 7 8 4) 3 w h so a 6 [] 7 (dY (iL (y*s0) x) b d (iL (y*s3) x) [bO 0])) (λ(g:Unit)=>(0:Nat))) (λ(k:Unit)=>e) (Ann.link (Inv.mk Unit (λ(j:Unit)=>True) (λ(i:Unit)=>aBP x y (sA 3 6 7 8 5) 3 w h so a 6 [] 7 (c::dY b d (iL (y*s3) x) (iL (y*s4) x) [])) (λ(g:Unit)=>(0:Nat))) (λ(f:Unit)=>mQ false) aL))))))) zQb Tryz.func43 rfl (nL rfl) λhwf=>by
  refine Eq.mpr (by kernel_rfl:_=(let f:=kR (Im.px (jB w h so c0 c1 c2 ca cf ⟨w0,h0,s0,n0,xs0⟩ ⟨w1,h1,s1,n1,xs1⟩ ⟨w2,h2,s2,n2,xs2⟩ ⟨w3,h3,s3,n3,xs3⟩ ⟨w4,h4,s4,n4,xs4⟩) x y);let d:=oF 4 4 5;let e:=iL (y*s2) x;let c:=iL (y*s1) x;let b:=iL (y*s0) x;let a:=kC c0 c1 c2 ca cf w0 h0 s0 n0 xs0 (cO w1 h1 s1 n1 xs1 w2 h2 s2 n2 xs2 (cO w3 h3 s3 n3 xs3 w4 h4 s4 n4 xs4 []));True/\mO so (True/\True/\lW c0 c1 c2 ca cf=f) (True/\True/\aBJ (∃ s:Unit,aBQ x y (bN (pQ gN)) w h so a oH 0 vV) (∀ r:Unit,rU 0 (aK (fL 5) (bV (fL 5) (∃ q:Unit,aBQ x y (bN (fE 0 1)) w h so a oH b vV)))) (∀ p:Unit,rU 1 (aK (iX 5) (bV (iX 5) (∃ o:Unit,aBQ x y (bN (fE 1 2)) w h so a oH b (fM c 0 0 0))))) (∀ n:Unit,rU 2 (aK (jT 5) (bV (jT 5) (∃ m:Unit,aBQ x y (bN (fE 2 3)) w h so a oH b (fM c e 0 0))))) (∀ l:Unit,rU 3 (aK aAI (bV aAI (∃ k:Unit,aBQ x y (bN (fE 3 4)) w h so a oH b (fM c e (iL (y*s3) x) 0))))) (∀ j:Unit,rU 4 (aK d (bV d (∃ i:Unit,aBQ x y (bN (fE 4 5)) w h so a oH b (fM c e (iL (y*s3) x) (iL (y*s4) x)))))) (∀ g:Unit,jW (True/\yY/\True/\fL 5/\aH (fL 5) (sF (y*s0) x n0 xs0/\aZ (sG xs0 (y*s0) x)/\True/\iX 5/\aH (iX 5) (sF (y*s1) x n1 xs1/\aZ (sG xs1 (y*s1) x)/\aK (jT 5) (uF (jT 5) (sF (y*s2) x n2 xs2) (aZ (sG xs2 (y*s2) x)) (aH aAI (True/\aAI/\True/\sF (y*s3) x n3 xs3/\aFU (aZ (sG xs3 (y*s3) x)) d (sF (y*s4) x n4 xs4) (kV (aZ (sG xs4 (y*s4) x)) (lW (lF xs0 y s0 x) (lF xs1 y s1 x) (lF xs2 y s2 x) (lF xs3 y s3 x) (lF xs4 y s4 x)=f)))))))))))) ?_;delta eS aY aZ lS aE aI aF aH aK oF dR bD lW fL kD iQ eC aM bG oK oT fM bN aW iX jT kR aAI gX bV oH vV iL bE pF gN jW kV pQ mO oS cO jB kC lM fJ oQ fE rU yY aBJ uF fH lI lF aFU sF sG aBQ;simp only [sS,zQh,zQj,zQv,zQx,zQO,zQY]
  cases so with
  | true=>simp [Im.px]
  | false=>
   obtain ⟨u0,u1,u2,u3,u4⟩:=hu;obtain ⟨hc,⟨v0,e0,e0'⟩,⟨v1,e1,e1'⟩,⟨v2,e2,e2'⟩,⟨v3,e3,e3'⟩,⟨v4,e4,e4'⟩⟩:=Im.inner_planes hf rfl;simp only at v0 e0 e0' v1 e1 e1' v2 e2 e2' v3 e3 e3' v4 e4 e4';obtain ⟨a0,b0,d0⟩:=zYt u0 v0 (x:=x) (y:=y) ⟨hx.1,by omega⟩ ⟨hy.1,by omega⟩;obtain ⟨a1,b1,d1⟩:=zYt u1 v1 (x:=x) (y:=y) ⟨hx.1,by omega⟩ ⟨hy.1,by omega⟩;obtain ⟨a2,b2,d2⟩:=zYt u2 v2 (x:=x) (y:=y) ⟨hx.1,by omega⟩ ⟨hy.1,by omega⟩;obtain ⟨a3,b3,d3⟩:=zYt u3 v3 (x:=x) (y:=y) ⟨hx.1,by omega⟩ ⟨hy.1,by omega⟩;obtain ⟨a4,b4,d4⟩:=zYt u4 v4 (x:=x) (y:=y) ⟨hx.1,by omega⟩ ⟨hy.1,by omega⟩;simp only at a0 b0 d0 a1 b1 d1 a2 b2 d2 a3 b3 d3 a4 b4 d4;simp only [wQo] at b0 b1 b2 b3 b4 d0 d1 d2 d3 d4;have f0:=(wQD.1 d0).2;have f1:=(wQD.1 d1).2;have f2:=(wQD.1 d2).2;have f3:=(wQD.1 d3).2;have f4:=(wQD.1 d4).2;simp [w1_,f0,f1,f2,f3,f4,a0,a1,a2,a3,a4,b0,b1,b2,b3,b4,d0,d1,d2,d3,d4,Im.px,Pl.at_]
theorem zZG (w h:Int) (so:Bool) (c0 c1 c2 ca cf w0 h0 s0:Int) (n0:Nat) (xs0:List DV) (w1 h1 s1:Int) (n1:Nat) (xs1:List DV) (w2 h2 s2:Int) (n2:Nat) (xs2:List DV) (w3 h3 s3:Int) (n3:Nat) (xs3:List DV) (w4 h4 s4:Int) (n4:Nat) (xs4:List DV):Ans prog 153 [rA [dJ w,dJ h,dQ so,dK c0,dK c1,dK c2,dK ca,dK cf,dJ w0,dJ h0,dJ s0,dS n0 xs0,dJ w1,dJ h1,dJ s1,dS n1 xs1,dJ w2,dJ h2,dJ s2,dS n2 xs2,dJ w3,dJ h3,dJ s3,dS n3 xs3,dJ w4,dJ h4,dJ s4,dS n4 xs4]] (rJ ((Im.shape ⟨w,h,so,⟨c0,c1,c2,ca,cf⟩,⟨w0,h0,s0,n0,xs0⟩,⟨w1,h1,s1,n1,xs1⟩,⟨w2,h2,s2,n2,xs2⟩,⟨w3,h3,s3,n3,xs3⟩,⟨w4,h4,s4,n4,xs4⟩⟩))):=
 zQa (Γ:=gamI) aL zQb Tryz.func153 rfl (nL rfl) λhwf=>by
  refine Eq.mpr (by kernel_rfl:_=(let c:=(⟨w4,h4,s4,n4,xs4⟩:Pl);let d:=(⟨w3,h3,s3,n3,xs3⟩:Pl);let e:=(⟨w2,h2,s2,n2,xs2⟩:Pl);let f:=(⟨w1,h1,s1,n1,xs1⟩:Pl);let g:=(⟨w0,h0,s0,n0,xs0⟩:Pl);let a:=Im.shape (jB w h so c0 c1 c2 ca cf g f e d c);let b:=Im.formed (jB w h so c0 c1 c2 ca cf g f e d c);bS (uY (yT 83 w h) (zZg w h) (cA 6 a) (gI (zZg w h) (uY (dL 208 (oO w h so (kC c0 c1 c2 ca cf w0 h0 s0 n0 xs0 (cO w1 h1 s1 n1 xs1 w2 h2 s2 n2 xs2 (cO w3 h3 s3 n3 xs3 w4 h4 s4 n4 xs4 [])))) (aB b)) b (cA 7 a) (gI b (cA 0 a))))))) ?_;delta eS cA aE aB bS dL oS cO jB kC oO aFZ yT gI qH uY;simp only [sS,zQh,zQj,zQv,zQx,zQO,zQY];simp [Im.shape,Im.formed]; (repeat' (first | apply And.intro | intro))<;>(first | assumption | (simp_all; done) | grind)
def aGY (a b:Int) (c:List DV):List DV:=aE a::aE b::c
theorem jXw (w h c0 c1 c2 ca cf:Int):Ans prog 33 [rJ (w),rJ (h),rA [dK c0,dK c1,dK c2,dK ca,dK cf]] (rA (iD (zQ3 w h ⟨c0,c1,c2,ca,cf⟩))):=
 zQa (Γ:=gamI) aL zQb Tryz.func33 rfl (nL rfl) λhwf=>by
  refine Eq.mpr (by kernel_rfl:_=(let a:=zQ3 w h ⟨c0,c1,c2,ca,cf⟩;let b:=a.p4;let c:=a.p3;let d:=a.p2;let e:=a.p1;let f:=a.p0;let g:=a.c;aV (bX (oO w h true (kC c0 c1 c2 ca cf 0 0 0 0 [] (cO 0 0 0 0 [] 0 0 0 0 [] (cO 0 0 0 0 [] 0 0 0 0 [] [])))) (oO a.w a.h a.so (aE g.a::aE g.b::aGY g.c g.al (aE g.f::oS f.w f.h f.s f.n f.xs (cO e.w e.h e.s e.n e.xs d.w d.h d.s d.n d.xs (cO c.w c.h c.s c.n c.xs b.w b.h b.s b.n b.xs [])))))))) ?_;delta eS aE bX aV oS cO kC oO aGY;simp only [sS,zQh,zQj,zQv,zQx,zQO,zQY,zZG];simp [zQ3,Pl.none,Px.zero]
end
section
attribute [local go_sem] Oper.semAt_some
theorem jKh {w:World} {a b:Bool × List DV} {l:Array Value} (h:jY5 w [a,b] l.toList):∃ x y,l=#[x,y]/\jK9 w a x/\jK9 w b y:=by
 obtain ⟨l⟩:=l
 match l,h with
 | [x,y],h=>exact ⟨x,y,rfl,h.1,h.2.1⟩
theorem jXi {w:World} {n:Int} {v:Value} (h:jK9 w (true,[.int .i64 n]) v):∃ g,v=.pointer (some ⟨g,0,none⟩)/\w.cell? ⟨g,0,none⟩=some (.int .i64 n):=by
 obtain ⟨g,e,h⟩:=h;obtain ⟨u,hu,hc⟩:=h 0 _ rfl;simp [DV.plain] at hu;subst hu;exact ⟨g,e,hc⟩
theorem RoundIn.any {n:Nat} {P:Program} {l:Nat} {f:FuncId} {tmps:Array Value} {assign body:Code} {w:World} {R:Ending->World->Prop} (h:RoundIn Fence.wide n P l f tmps assign body w R) (m:Nat):RoundIn Fence.wide m P l f tmps assign body w R:=
 ⟨h.1,λc cs _=>h.2 c cs (room_wide _)⟩
abbrev wXz:=@Nat.one_mul
abbrev wXS:=@Nat.add_comm
set_option maxRecDepth 100000 in
set_option maxHeartbeats 2000000 in
theorem jJC (h w:Int) (hh:h<=16777216) (hw:w<=16777216):AnsI prog 209 [(true,[DV.int .i64 h]),(true,[DV.int .i64 w])] (w.toNat*h.toNat) (λk=>[DV.int .i64 ((k%w.toNat:Nat):Int),DV.int .i64 ((k / w.toNat:Nat):Int)]):=by
 intro lb l m J Jx hcap hd hdx hround W hJ;obtain ⟨a,b,rfl,ha,hb⟩:=jKh (hcap 0 W hJ);obtain ⟨gh,rfl,hch⟩:=jXi ha;obtain ⟨gw,rfl,hcw⟩:=jXi hb;have hc:∀ k W,J k W->W.cell? ⟨gh,0,none⟩=some (.int .i64 h)/\W.cell? ⟨gw,0,none⟩=some (.int .i64 w):=λk W hk=>by
  obtain ⟨a,b,e,ha,hb⟩:=jKh (hcap k W hk);obtain ⟨g1,rfl,h1⟩:=jXi ha;obtain ⟨g2,rfl,h2⟩:=jXi hb;simp at e;obtain ⟨rfl,rfl⟩:=e;exact ⟨h1,h2⟩
 refine callsIn_of_wp Tryz.func209 rfl trivial ?_ rfl;simp only [Tryz.ntmps209,wZs,wQJ,wZq,Nat.reduceAdd,Nat.reduceSub,Array.replicate_succ,Array.replicate_zero,List.push_toArray,List.append_toArray,List.nil_append,List.cons_append]
 gi_wp2
 gi_loopg [7] (h.toNat) (λg t7 wr=>∃ y:Nat,y<=h.toNat/\g=h.toNat-y/\t7=.int .i64 (y:Int)/\J (y*w.toNat) wr)
 case atStart=>exact ⟨0,by omega,by omega,rfl,by simpa using hJ⟩
 obtain ⟨y,hy,rfl,rfl,hJy⟩:=hrel;have hc1:=(hc _ _ hJy).1;have hc2:=(hc _ _ hJy).2;by_cases hlt:(y:Int)<h
 ·gi_wp2
  gi_loopg [11] (w.toNat) (λg t11 wr=>∃ x:Nat,x<=w.toNat/\g=w.toNat-x/\t11=.int .i64 (x:Int)/\J (y*w.toNat+x) wr)
  case atStart=>exact ⟨0,by omega,by omega,rfl,hJy⟩
  obtain ⟨x,hx,rfl,rfl,hJx⟩:=hrel;by_cases hlx:(x:Int)<w
  ·have hW:0<w.toNat:=by omega
   have hk:y*w.toNat+x<w.toNat*h.toNat:=by
    have h1:(y+1)*w.toNat<=h.toNat*w.toNat:=wQR _ (by omega);rw [wQI w.toNat,wQn] at *;omega
   have e1:(y*w.toNat+x)%w.toNat=x:=by rw [wXS,Nat.add_mul_mod_self_right,wQX (by omega)]
   have e2:(y*w.toNat+x) / w.toNat=y:=by rw [wXS,Nat.add_mul_div_right _ _ hW,wXG (by omega),Nat.zero_add]
   have hY:=hround _ _ hk hJx;simp only [e1,e2,zHI,wQg,wQk,DV.plain,wQF] at hY;obtain ⟨f1,t1,a1,b1,hy1,hR1⟩:=hY
   gi_wp2
   refine ⟨λh=>by (cases h),(RoundIn.any hR1 _).mono ?_⟩;rintro e W1 (⟨rfl,hJ1⟩ | ⟨rfl,hx1⟩)
   ·have w1:wrap .i64 ((x:Int)+1)=((x+1:Nat):Int):=by rw [wQb _ ⟨by omega,by omega⟩]; omega
    gi_wp2
    gi_roundg (w.toNat-(x+1))
    ·exact ⟨x+1,by omega,rfl,by simp,hJ1⟩
    ·omega
   ·gi_wp2
    refine bodyPost_ret (results_none rfl _ _ _) rfl ?_;exact ⟨⟨_,rfl⟩,.inr hx1⟩
  ·gi_wp2
   gi_roundg (h.toNat-(y+1))
   ·have hx':x=w.toNat:=by omega
    exact ⟨y+1,by omega,rfl,by simp,by rw [wQn,wXz]; rw [hx'] at hJx; exact hJx⟩
   ·omega
 ·have hy':y=h.toNat:=by omega
  gi_wp2
  go_end0
  exact ⟨⟨_,rfl⟩,.inl (by rw [wQI,<- hy']; exact hJy)⟩
end
section
attribute [local irreducible] Ans AnsO AnsG AnsN AnsI
def nW (a:Cl) (b:List Bx):Ret:=⟨AV.one a,b,false⟩
theorem zYJ (w h:Int):AnsG prog 154 0 [aJ ((w)),aJ ((h))] [] ⟨aO (Cl.clo 209 [Cap.ptr 0 0,Cap.ptr 1 0]),[bC [cJ (h)],bC [cJ (w)]],false⟩:=
 zZc (Γ:=gamI) aL zQb Tryz.func154 rfl (nL rfl) rfl λhwf hbx=>by
  refine Eq.mpr (by kernel_rfl:_=(aV (fZ (bK (aZ (bP True)) (eS (nI h)) (eS (nI w))) (zZu (nW (Cl.clo 209 [Cap.ptr 0 0,Cap.ptr 1 0]) [Bx.cells [bO h],Bx.cells [bO w]]))))) ?_;delta eS aZ bO bP aW bK nI aV fZ nW;simp only [sS,zQh,zQj,zQv,zQp,zQB,zQx,zQO,zQY,zZG];simp [zZu]
def rH (a b c d e:Prop) (f g:List DV) (h:Prop):Prop:=a/\b/\c/\d/\oK e f g h
def pP (a b c d:Prop) (e f g h:List DV):Prop:=rH a b c d (eS e) f g (eS h)
def fR (a:FuncId) (b:RV) (c:List RV) (d:List DV):Prop:=Ans prog a (b::c) (RV.agg d)
def yU (a:FuncId) (b:RV) (c d:Int) (e:Px):Prop:=fR a b (iN c d []) (dB e)
def aEP (a:List DV) (b:Int) (c:Px):Prop:=bF 117 a [aP b] (aB (Px.ok c b))
def zY (a b:Int) (c:List AV):List AV:=pJ (bO a) (bO b) c
theorem zHs (w h:Int) (so:Bool) (c0 c1 c2 ca cf w0 h0 s0:Int) (n0:Nat) (xs0:List DV) (w1 h1 s1:Int) (n1:Nat) (xs1:List DV) (w2 h2 s2:Int) (n2:Nat) (xs2:List DV) (w3 h3 s3:Int) (n3:Nat) (xs3:List DV) (w4 h4 s4:Int) (n4:Nat) (xs4:List DV) (most:Int) (hu:Im.isU ⟨w,h,so,⟨c0,c1,c2,ca,cf⟩,⟨w0,h0,s0,n0,xs0⟩,⟨w1,h1,s1,n1,xs1⟩,⟨w2,h2,s2,n2,xs2⟩,⟨w3,h3,s3,n3,xs3⟩,⟨w4,h4,s4,n4,xs4⟩⟩):Ans prog 76 [rA [dJ w,dJ h,dQ so,dK c0,dK c1,dK c2,dK ca,dK cf,dJ w0,dJ h0,dJ s0,dS n0 xs0,dJ w1,dJ h1,dJ s1,dS n1 xs1,dJ w2,dJ h2,dJ s2,dS n2 xs2,dJ w3,dJ h3,dJ s3,dS n3 xs3,dJ w4,dJ h4,dJ s4,dS n4 xs4],rD (dK most)] (rJ ((Im.valid ⟨w,h,so,⟨c0,c1,c2,ca,cf⟩,⟨w0,h0,s0,n0,xs0⟩,⟨w1,h1,s1,n1,xs1⟩,⟨w2,h2,s2,n2,xs2⟩,⟨w3,h3,s3,n3,xs3⟩,⟨w4,h4,s4,n4,xs4⟩⟩ most))):=
 zQa (Γ:=gamI) (oU (Ann.range (Inv.mk Nat (λ(a:Nat)=>cB a (aY w (Int.toNat h)) (Im.okTo (jB w h so c0 c1 c2 ca cf ⟨w0,h0,s0,n0,xs0⟩ ⟨w1,h1,s1,n1,xs1⟩ ⟨w2,h2,s2,n2,xs2⟩ ⟨w3,h3,s3,n3,xs3⟩ ⟨w4,h4,s4,n4,xs4⟩) most a=true)) (λ(d:Nat)=>vN (vL 2 2 (gC 3 3 4 4 (xW 24 (Cl.clo 209 [Cap.ptr 1024 0,Cap.ptr 2024 0]) []))) 2 (cS w h (cD (DV.bool so)::aBO c0 c1 c2 ca cf (pW w0 h0 s0 n0 xs0 (rY w1 h1 s1 n1 xs1 w2 h2 s2 n2 xs2 (rY w3 h3 s3 n3 xs3 w4 h4 s4 n4 xs4 []))))) 3 (mY most []) 4 [bO 0] 1024 [bO h] (oY 2024 [bO w])) (λ(b:Nat)=>b)) [2,3,4,24] (λ(c:Nat)=>aL) (λ(c:Nat)=>aL))) zQb Tryz.func76 rfl (nL rfl) λhwf=>by
  refine Eq.mpr (by kernel_rfl:_=(let b:=jB w h so c0 c1 c2 ca cf ⟨w0,h0,s0,n0,xs0⟩ ⟨w1,h1,s1,n1,xs1⟩ ⟨w2,h2,s2,n2,xs2⟩ ⟨w3,h3,s3,n3,xs3⟩ ⟨w4,h4,s4,n4,xs4⟩;let j:=Im.valid b most;let o:=cA 0 j;let c:=aY w (Int.toNat h);let p:=cO w1 h1 s1 n1 xs1 w2 h2 s2 n2 xs2 (cO w3 h3 s3 n3 xs3 w4 h4 s4 n4 xs4 []);let q:=eS (oT w h so (kC c0 c1 c2 ca cf w0 h0 s0 n0 xs0 p));let d:=Int.toNat w;let s:=cA 8 j;let t:=oO w h so (kC c0 c1 c2 ca cf w0 h0 s0 n0 xs0 p);let u:=[(true,nI h),(true,nI w)];let x:=(⟨c0,c1,c2,ca,cf⟩:Px);let y:=Px.ok x most;let e:=Im.shape b;vW (aCI 153 t e) (bY (fI e=true) (cA e j) (cR (fI e) (qW so (True/\aEP (dR c0 c1 c2 ca cf) most x/\True/\qH y s/\gI y o)) (aBS so (AnsG prog 154 0 (zY w h []) [] (nW (Cl.clo 209 [Cap.ptr 0 0,Cap.ptr 1 0]) [Bx.cells [bO h],Bx.cells [bO w]])/\AnsI prog 209 u c (λ(n:Nat)=>sM ((n%d:Nat):Int) ((n/d:Nat):Int))/\(∀ i:Nat,let v:=sM ((i%d:Nat):Int) ((i/d:Nat):Int);i<c->List.length v=2/\zWH v)/\(∃ g:Nat,pP (cB g c (Im.okTo b most g=true)) (g=0) (bP (pQ (bP True))) q [aE most] (nI 0) (nI h) (nI w))/\(∀ a:Nat,let k:=((a/d:Nat):Int);let l:=((a%d:Nat):Int);let m:=Im.px b l k;let r:=Px.ok m most;cB a c (Im.okTo b most a=true)->eS (some u)/\yJ (a<c) (aH (yU 155 t l k (Im.px b l k)) (uF (aEP (dB m) most m) (eS true) (qH r s) (sO r->(∃ f:Nat,pP (cB f c (Im.okTo b most f=true)) (f=a+1) (bP (pQ (bP True))) q [aE most] (nI 0) (nI h) (nI w)))))/\(a=c->eZ o)))))))) ?_;delta eS aY bY cA aE bO aF aP aH dR pJ oK oT bP qW aW nI eZ bF cR dB vW yJ aB sM cB iN rH pP pQ sO dL oS cO jB kC oO gI fR yU fI uF aBS qH aCI aEP nW zY;simp only [sS,zQh,zQj,zQv,zQp,zQB,zQx,zQO,zQY,zZG,zYJ];obtain ⟨m,hm⟩:∃ m:Im,m=⟨w,h,so,⟨c0,c1,c2,ca,cf⟩,⟨w0,h0,s0,n0,xs0⟩,⟨w1,h1,s1,n1,xs1⟩,⟨w2,h2,s2,n2,xs2⟩,⟨w3,h3,s3,n3,xs3⟩,⟨w4,h4,s4,n4,xs4⟩⟩:=⟨_,rfl⟩
  have pix:=λ(x y:Int) (hf:Im.inner ⟨w,h,so,⟨c0,c1,c2,ca,cf⟩,⟨w0,h0,s0,n0,xs0⟩,⟨w1,h1,s1,n1,xs1⟩,⟨w2,h2,s2,n2,xs2⟩,⟨w3,h3,s3,n3,xs3⟩,⟨w4,h4,s4,n4,xs4⟩⟩=true) hx hy=>zK7 w h so c0 c1 c2 ca cf w0 h0 s0 n0 xs0 w1 h1 s1 n1 xs1 w2 h2 s2 n2 xs2 w3 h3 s3 n3 xs3 w4 h4 s4 n4 xs4 x y hu hf hx hy;have ew:w=m.w:=by rw [hm]
  have eh:h=m.h:=by rw [hm]
  have es:so=m.so:=by rw [hm]
  have ec:(⟨c0,c1,c2,ca,cf⟩:Px)=m.c:=by rw [hm]
  rw [<- hm] at pix hu;simp only [<- hm];refine ⟨λq1=>(Im.valid_shape _ (by simpa using q1)).symm,λq1=>?_⟩;have q1:m.shape=0:=by simpa using q1
  obtain ⟨qf,qi⟩:=Im.shape_zero q1;obtain ⟨f1,f2,f3,f4,f5⟩:=zXI qf;refine ⟨λhs=>?_,λhs=>?_⟩
  ·rw [Im.valid_solid q1 (es ▸ hs),ec];cases m.c.ok most<;>simp
  ·rw [Im.valid_planes q1 (es ▸ hs),ew,eh];refine ⟨jJC m.h m.w f4 f3,jGl qf,⟨0,⟨Nat.zero_le _,rfl⟩,rfl⟩,λk hk=>⟨λhlt=>?_,λhe=>?_⟩⟩
   ·have hin:=Im.nth_in qf hlt;have hs1:=Im.okTo_succ m most k;have hle:=λhn=>Im.okTo_le (m:=m) (most:=most) (k:=k+1) (n:=m.w.toNat*m.h.toNat) (by omega) hn;rw [ew,eh] at pix;refine ⟨pix _ _ qi hin.1 hin.2,zQp _ _ _ _ _ _,λhb=>?_,λhb=>⟨k+1,⟨by omega,?_⟩,rfl⟩⟩
    ·have hb:(m.nth k).ok most=false:=hb;have:¬ m.okTo most (m.w.toNat*m.h.toNat)=true:=λhn=>by
      have:=hle hn;rw [hs1,hb] at this;simp at this
     rw [if_neg this]
    ·have hb:(m.nth k).ok most=true:=hb;rw [hs1,hk.2,hb]; rfl
   ·rw [<- he,if_pos hk.2]
theorem jYo (w h:Int) (so:Bool) (c0 c1 c2 ca cf w0 h0 s0:Int) (n0:Nat) (xs0:List DV) (w1 h1 s1:Int) (n1:Nat) (xs1:List DV) (w2 h2 s2:Int) (n2:Nat) (xs2:List DV) (w3 h3 s3:Int) (n3:Nat) (xs3:List DV) (w4 h4 s4:Int) (n4:Nat) (xs4:List DV) (x y:Int) (hu:Im.isU ⟨w,h,so,⟨c0,c1,c2,ca,cf⟩,⟨w0,h0,s0,n0,xs0⟩,⟨w1,h1,s1,n1,xs1⟩,⟨w2,h2,s2,n2,xs2⟩,⟨w3,h3,s3,n3,xs3⟩,⟨w4,h4,s4,n4,xs4⟩⟩):Ans prog 215 [rA [dJ w,dJ h,dQ so,dK c0,dK c1,dK c2,dK ca,dK cf,dJ w0,dJ h0,dJ s0,dS n0 xs0,dJ w1,dJ h1,dJ s1,dS n1 xs1,dJ w2,dJ h2,dJ s2,dS n2 xs2,dJ w3,dJ h3,dJ s3,dS n3 xs3,dJ w4,dJ h4,dJ s4,dS n4 xs4],rJ (x),rJ (y)] (rA (pD (Im.at_ ⟨w,h,so,⟨c0,c1,c2,ca,cf⟩,⟨w0,h0,s0,n0,xs0⟩,⟨w1,h1,s1,n1,xs1⟩,⟨w2,h2,s2,n2,xs2⟩,⟨w3,h3,s3,n3,xs3⟩,⟨w4,h4,s4,n4,xs4⟩⟩ x y))):=
 zQa (Γ:=gamI) aL zQb Tryz.func215 rfl (nL rfl) λhwf=>by
  refine Eq.mpr (by kernel_rfl:_=(let e:=(⟨w4,h4,s4,n4,xs4⟩:Pl);let f:=(⟨w3,h3,s3,n3,xs3⟩:Pl);let g:=(⟨w2,h2,s2,n2,xs2⟩:Pl);let i:=(⟨w1,h1,s1,n1,xs1⟩:Pl);let j:=(⟨w0,h0,s0,n0,xs0⟩:Pl);let b:=jB w h so c0 c1 c2 ca cf j i g f e;let a:=kR (Im.at_ b x y);let c:=lW 0 0 0 0 0;let k:=c=a;let d:=Im.formed (jB w h so c0 c1 c2 ca cf j i g f e);let l:=c=a;let m:=oO w h so (aE c0::aE c1::aGY c2 ca (aE cf::oS w0 h0 s0 n0 xs0 (cO w1 h1 s1 n1 xs1 w2 h2 s2 n2 xs2 (cO w3 h3 s3 n3 xs3 w4 h4 s4 n4 xs4 []))));yV (dL 208 m (aB d)) (gI d (True/\True/\True/\fV x 0 (dP (fK x w (kA (aAD y) (fQ y h) l (fK y h (aH (yU 155 m x y (Im.px b x y)) (kR (Im.px b x y)=a))) (lU y->eZ (True/\True/\k)))) (jG (decide (x>=w)) (bX c a)))/\(lU x->eZ (bS l)))) (pU d (aG k)))) ?_;delta eS bY mN fK lU aAD aE aG aH dR lW bX jG dP kR eZ dB fV aB aV bS iN fQ dL oS cO jB oO gI fR pU kA yV yU aGY;simp only [sS,zQh,zQj,zQv,zQp,zQB,zQx,zQO,zQY,zZG,zYJ];obtain ⟨m,hm⟩:∃ m:Im,m=⟨w,h,so,⟨c0,c1,c2,ca,cf⟩,⟨w0,h0,s0,n0,xs0⟩,⟨w1,h1,s1,n1,xs1⟩,⟨w2,h2,s2,n2,xs2⟩,⟨w3,h3,s3,n3,xs3⟩,⟨w4,h4,s4,n4,xs4⟩⟩:=⟨_,rfl⟩
  have pix:=λ(x y:Int) (hf:Im.inner ⟨w,h,so,⟨c0,c1,c2,ca,cf⟩,⟨w0,h0,s0,n0,xs0⟩,⟨w1,h1,s1,n1,xs1⟩,⟨w2,h2,s2,n2,xs2⟩,⟨w3,h3,s3,n3,xs3⟩,⟨w4,h4,s4,n4,xs4⟩⟩=true) hx hy=>zK7 w h so c0 c1 c2 ca cf w0 h0 s0 n0 xs0 w1 h1 s1 n1 xs1 w2 h2 s2 n2 xs2 w3 h3 s3 n3 xs3 w4 h4 s4 n4 xs4 x y hu hf hx hy;have ew:w=m.w:=by rw [hm]
  have eh:h=m.h:=by rw [hm]
  have es:so=m.so:=by rw [hm]
  have ec:(⟨c0,c1,c2,ca,cf⟩:Px)=m.c:=by rw [hm]
  rw [<- hm] at pix hu;simp only [<- hm];rw [ew,eh] at pix;rw [ew,eh];have out:(m.formed=false\/x<0\/m.w<=x\/y<0\/m.h<=y)->0=(m.at_ x y).a/\0=(m.at_ x y).b/\0=(m.at_ x y).c/\0=(m.at_ x y).al/\0=(m.at_ x y).f:=λh=>by rw [Im.at_out h]; exact ⟨rfl,rfl,rfl,rfl,rfl⟩
  refine ⟨λq1=>⟨λq2=>⟨λq3=>⟨λq4=>⟨λq5=>out (by omega),λq5=>?_⟩,λq4=>out (by omega)⟩,λq3=>out (by omega)⟩,λq2=>out (by omega)⟩,λq1=>out (.inl q1)⟩;rw [Im.at_in q1 ⟨by omega,by omega⟩ ⟨by omega,by omega⟩];exact ⟨pix _ _ (Im.formed_of q1).2 ⟨by omega,by omega⟩ ⟨by omega,by omega⟩,rfl,rfl,rfl,rfl,rfl⟩
def pI (a b c d e:Int):List DV:=[aE a,aE b,aE c,aE d,aE e]
theorem zH7 (w h:Int) (so:Bool) (c0 c1 c2 ca cf w0 h0 s0:Int) (n0:Nat) (xs0:List DV) (w1 h1 s1:Int) (n1:Nat) (xs1:List DV) (w2 h2 s2:Int) (n2:Nat) (xs2:List DV) (w3 h3 s3:Int) (n3:Nat) (xs3:List DV) (w4 h4 s4:Int) (n4:Nat) (xs4:List DV) (x y:Int) (hu:Im.isU ⟨w,h,so,⟨c0,c1,c2,ca,cf⟩,⟨w0,h0,s0,n0,xs0⟩,⟨w1,h1,s1,n1,xs1⟩,⟨w2,h2,s2,n2,xs2⟩,⟨w3,h3,s3,n3,xs3⟩,⟨w4,h4,s4,n4,xs4⟩⟩):Ans prog 13 [rA [dJ w,dJ h,dQ so,dK c0,dK c1,dK c2,dK ca,dK cf,dJ w0,dJ h0,dJ s0,dS n0 xs0,dJ w1,dJ h1,dJ s1,dS n1 xs1,dJ w2,dJ h2,dJ s2,dS n2 xs2,dJ w3,dJ h3,dJ s3,dS n3 xs3,dJ w4,dJ h4,dJ s4,dS n4 xs4],rJ (x),rJ (y)] (rA (pD (Im.at_ ⟨w,h,so,⟨c0,c1,c2,ca,cf⟩,⟨w0,h0,s0,n0,xs0⟩,⟨w1,h1,s1,n1,xs1⟩,⟨w2,h2,s2,n2,xs2⟩,⟨w3,h3,s3,n3,xs3⟩,⟨w4,h4,s4,n4,xs4⟩⟩ x y))):=
 zQa (Γ:=gamI) aL zQb Tryz.func13 rfl (nL rfl) λhwf=>by
  refine Eq.mpr (by kernel_rfl:_=(let f:=(⟨w4,h4,s4,n4,xs4⟩:Pl);let g:=(⟨w3,h3,s3,n3,xs3⟩:Pl);let i:=(⟨w2,h2,s2,n2,xs2⟩:Pl);let j:=(⟨w1,h1,s1,n1,xs1⟩:Pl);let k:=(⟨w0,h0,s0,n0,xs0⟩:Pl);let c:=jB w h so c0 c1 c2 ca cf k j i g f;let a:=Im.at_ c x y;let b:=rA (pI a.a a.b a.c a.al a.f);let d:=lW 0 0 0 0 0;let l:=d=b;let e:=Im.formed (jB w h so c0 c1 c2 ca cf k j i g f);let m:=d=b;let n:=oO w h so (kC c0 c1 c2 ca cf w0 h0 s0 n0 xs0 (cO w1 h1 s1 n1 xs1 w2 h2 s2 n2 xs2 (cO w3 h3 s3 n3 xs3 w4 h4 s4 n4 xs4 [])));yV (dL 42 n (aB e)) (gI e (True/\True/\True/\fV x 0 (dP (fK x w (kA (aAD y) (fQ y h) m (fK y h (aH (yU 43 n x y (Im.px c x y)) (kR (Im.px c x y)=b))) (lU y->eZ (True/\True/\l)))) (jG (decide (x>=w)) (bX d b)))/\(lU x->eZ (bS m)))) (pU e (aG l)))) ?_;delta eS bY mN fK lU aAD aE aG aH dR lW pI bX jG dP kR eZ dB fV aB aV bS iN fQ dL oS cO jB kC oO gI fR pU kA yV yU;simp only [sS,zQh,zQj,zQv,zQp,zQB,zQx,zQO,zQY,zZG,zYJ];obtain ⟨m,hm⟩:∃ m:Im,m=⟨w,h,so,⟨c0,c1,c2,ca,cf⟩,⟨w0,h0,s0,n0,xs0⟩,⟨w1,h1,s1,n1,xs1⟩,⟨w2,h2,s2,n2,xs2⟩,⟨w3,h3,s3,n3,xs3⟩,⟨w4,h4,s4,n4,xs4⟩⟩:=⟨_,rfl⟩
  have pix:=λ(x y:Int) (hf:Im.inner ⟨w,h,so,⟨c0,c1,c2,ca,cf⟩,⟨w0,h0,s0,n0,xs0⟩,⟨w1,h1,s1,n1,xs1⟩,⟨w2,h2,s2,n2,xs2⟩,⟨w3,h3,s3,n3,xs3⟩,⟨w4,h4,s4,n4,xs4⟩⟩=true) hx hy=>jXv w h so c0 c1 c2 ca cf w0 h0 s0 n0 xs0 w1 h1 s1 n1 xs1 w2 h2 s2 n2 xs2 w3 h3 s3 n3 xs3 w4 h4 s4 n4 xs4 x y hu hf hx hy;have ew:w=m.w:=by rw [hm]
  have eh:h=m.h:=by rw [hm]
  have es:so=m.so:=by rw [hm]
  have ec:(⟨c0,c1,c2,ca,cf⟩:Px)=m.c:=by rw [hm]
  rw [<- hm] at pix hu;simp only [<- hm];rw [ew,eh] at pix;rw [ew,eh];have out:(m.formed=false\/x<0\/m.w<=x\/y<0\/m.h<=y)->0=(m.at_ x y).a/\0=(m.at_ x y).b/\0=(m.at_ x y).c/\0=(m.at_ x y).al/\0=(m.at_ x y).f:=λh=>by rw [Im.at_out h]; exact ⟨rfl,rfl,rfl,rfl,rfl⟩
  refine ⟨λq1=>⟨λq2=>⟨λq3=>⟨λq4=>⟨λq5=>out (by omega),λq5=>?_⟩,λq4=>out (by omega)⟩,λq3=>out (by omega)⟩,λq2=>out (by omega)⟩,λq1=>out (.inl q1)⟩;rw [Im.at_in q1 ⟨by omega,by omega⟩ ⟨by omega,by omega⟩];exact ⟨pix _ _ (Im.formed_of q1).2 ⟨by omega,by omega⟩ ⟨by omega,by omega⟩,rfl,rfl,rfl,rfl,rfl⟩
def tS (a b c:Nat) (d:List DV) (e f g:Nat) (h:List DV) (i:List (Nat × Bx)):List (Nat × Bx):=zF a b c d (zF e f g h i)
def oI (a:List Cl):List Cl:=Cl.nil::a
def tT (a b c:Nat) (d:List DV) (e f g:Nat) (h:List DV) (i j k:Nat) (l:List DV) (m:List (Nat × Bx)):List (Nat × Bx):=zF a b c d (tS e f g h i j k l m)
def rB (a b c:Nat) (d:List DV) (e f g:Nat) (h:List DV):List (Nat × Bx):=tS a b c d e f g h []
def bM (a:List DV) (b:Px->Int) (c:Nat):List DV:=zXl (zQg a) b c
def aLL (a b:Int) (c:List Cl):List Cl:=bO a::cS b a c
def aER (a b:Int) (c:Nat) (d:Int) (e:List Cl):List Cl:=aLL a b (Cl.ref c (Int.toNat d)::e)
def aBD (a b:Int) (c:Nat) (d:Int) (e:Nat) (f:List Cl):List Cl:=aER a b c d (aER a b e d f)
def aLR (a:List (Nat × AV)) (b:Nat) (c e:Int) (f:Bool) (g:List Cl) (h:Nat) (i:List Cl) (j:List (Nat × Bx)):Snap:=yM a b (cS c e (Cl.d (DV.bool f)::g)) h i j
def aLS (a:List (Nat × AV)) (b:Nat) (c:Int) (d:Bool) (e:List Cl) (f:Nat) (g:List Cl) (h:List (Nat × Bx)):Snap:=aLR a b 0 c d e f g h
def aLT (a:List (Nat × AV)) (b:Nat) (c:Bool) (d:List Cl) (e:Nat) (f:List Cl) (g:List (Nat × Bx)):Snap:=aLS a b 0 c d e f g
def aLU (a:List (Nat × AV)) (b:Nat) (c:Bool) (d e f g h:Int) (i:List Cl) (j:Nat) (k:List Cl) (l:List (Nat × Bx)):Snap:=aLT a b c (aBO d e f g h i) j k l
def aLV (a:List (Nat × AV)) (b:Nat) (c:Bool) (d e f g:Int) (h:List Cl) (i:Nat) (j:List Cl) (k:List (Nat × Bx)):Snap:=aLU a b c 0 d e f g h i j k
def aLW (a:List (Nat × AV)) (b:Nat) (c:Bool) (d e f:Int) (g:List Cl) (h:Nat) (i:List Cl) (j:List (Nat × Bx)):Snap:=aLV a b c 0 d e f g h i j
def aLX (a:List (Nat × AV)) (b:Nat) (c:Bool) (d e:Int) (f:List Cl) (g:Nat) (h:List Cl) (i:List (Nat × Bx)):Snap:=aLW a b c 0 d e f g h i
def aLY (a:List (Nat × AV)) (b:Nat) (c:Bool) (d:Int) (e:List Cl) (f:Nat) (g:List Cl) (h:List (Nat × Bx)):Snap:=aLX a b c 0 d e f g h
def aHT (a:List (Nat × AV)) (b:Nat) (c:Bool) (d:List Cl) (e:Nat) (f:List Cl) (g:List (Nat × Bx)):Snap:=aLY a b c 0 d e f g
def aHP (a:List (Nat × AV)) (b:Nat) (c:Bool) (e:List Cl) (f:Nat) (g h:Int) (i:Bool) (j:List Cl) (k:List (Nat × Bx)):Snap:=aHT a b c e f (cS g h (Cl.d (DV.bool i)::j)) k
def aJA (a:Nat) (b:Int) (c:Nat) (d:Int) (e:List (Nat × AV)) (f:Nat) (g:Bool) (h:List Cl) (i:Nat) (j:Bool) (k:List Cl) (l:List (Nat × Bx)):Snap:=aHP (oJ a b c d e) f g h i b d j k l
def aJD (a b:Nat) (c:List DV) (d e f g h:Nat) (i:Int):List (Nat × AV):=aIF a b c d e (aCF f g h i)
def wN (a:List Cl):List Cl:=aHZ (oI a)
def aFO (a b:Int) (c:Nat) (d:Int) (e f g:Nat) (h:List Cl):List Cl:=aBD a b c d e (aBD a b f d g h)
def aJB (a:Nat) (b:Int) (c:Nat) (d:Int) (e:List (Nat × AV)) (f:Nat) (g:List Cl) (h:Nat) (i:Bool) (j:List Cl) (k:List (Nat × Bx)):Snap:=aJA a b c d e f false g h i j k
def aHF (a:Nat) (b:Int) (c:Nat) (d:Int) (e:List (Nat × AV)) (f:Nat) (g:List Cl) (h:Nat) (i:List Cl) (j:List (Nat × Bx)):Snap:=aJB a b c d e f g h false i j
def aBF (a:Nat) (b:Int) (c:Nat) (d:Int) (e:List (Nat × AV)) (f:Nat) (g:List Cl) (h:Nat) (i:List Cl) (j:List (Nat × Bx)):Snap:=aHF a b c d e f g h (wO i) j
def aHQ (a:Nat) (b:Int) (c:Nat) (d:Int) (e:List (Nat × AV)) (f:Nat) (g:List Cl) (h i:Nat) (j:Int) (k:List Cl) (l:List (Nat × Bx)):Snap:=aBF a b c d e f g h (aER b d i j k) l
def aHS (a:List (Nat × AV)) (b:Nat) (c:Bool) (d:List Cl) (e:Nat) (f g:Int) (h:List Cl) (i:List (Nat × Bx)):Snap:=aHP a b c d e f g c (wO h) i
def aHR (a:List (Nat × AV)) (b:Nat) (c:Bool) (d:List Cl) (e:Nat) (f g:Int) (h:Nat) (i:Int) (j:List Cl) (k:List (Nat × Bx)):Snap:=aHS a b c d e f g (aER f g h i j) k
def aDU (a:List Cl):List Cl:=wN (wN a)
def aJE (a:Nat) (b:List DV) (c d e f g:Nat) (h:Int):List (Nat × AV):=aJD 2 a b c d e f g h
def aJF (a:Nat) (b:List DV) (c d e f:Nat) (g:Int):List (Nat × AV):=aJE a b 6 c d e f g
def aJG (a:Nat) (b:List DV) (c d e:Nat) (f:Int):List (Nat × AV):=aJF a b 6 c d e f
def aJH (a:Nat) (b:List DV) (c d:Nat) (e:Int):List (Nat × AV):=aJG a b 8 c d e
def nQ (a:Nat) (b:List DV) (c:Nat) (d:Int):List (Nat × AV):=aJH a b 8 c d
def aID (a b c:Nat) (d:List DV) (e:Px->Int) (f g:Nat) (h:List DV):List (Nat × Bx):=rB a b c (bM d e f) g b c h
def aBG (a b c:Nat) (d:List DV) (e:Px->Int) (f g:Nat) (h:Px->Int):List (Nat × Bx):=aID a b c d e f g (bM d h f)
def aJX (a b:Nat) (c:List (Nat × AV)):List (Nat × AV):=gC a a 8 b c
def uL (a:Nat) (b:List (Nat × AV)):List (Nat × AV):=aJX a 8 b
def xP (a:Nat) (b:Int) (c d:Nat) (e:List DV) (f g h:Nat):List (Nat × AV):=zX a b c d e (lO f d g h)
def aCL (a b:Nat):Cl:=aEX a (b:Int)
def vE (a:Int) (b:List (Nat × AV)):List (Nat × AV):=aCE 0 a b
def aEQ (a:Bool) (b:Ann):Ann:=Ann.seq (xE a) b
def lX (a b:Prop):Prop:=True/\True/\True/\True/\aK a b
def oP (a b:Int) (c:Prop) (d:Int) (e:Prop):Prop:=nC a (bG b) c (bG d) e
def iM (a b:Int) (c:Prop):Prop:=pF a (bG b) c
def rG (a:Prop):Prop:=bG 0/\bG 0/\a
def pR (a b c:Prop):Prop:=aH a (True/\True/\True/\b/\c)
def tV (a b c d:Prop):Prop:=True/\aF a b c d
def nR (a:List DV) (b:Px->Int) (c d:Nat) (e:Int):List DV:=List.set (bM a b c) (aT c d) (aE e)
def cF (a:Int):Prop:=bE 0 a
def uW (a:Int) (b c:Prop):Prop:=eS (Int.toNat a)/\b/\c
def oR (a:Int) (b:Nat):Prop:=Int.toNat a=b
def yX (a:Prop):Prop:=bZ 0/\bZ 0/\a
def jK (a b:Int) (c:Nat) (d:List DV) (e:Prop):Prop:=nC a (bG b) (eS (DV.sl c d)) (eS (0:Nat)) e
def kB (a:Prop):Prop:=rG (True/\gN/\a)
def aFP (a:Prop):Prop:=bZ 0/\yX a
def rW (a:Int) (b:List DV) (c:Px->Int) (d:Nat):Prop:=aAH a (aE 0) (bM b c d)
def aFR (a b c:Int) (d e:Prop) (f:Int) (g:Prop):Prop:=iM a b (uW c d (iM a b (uW c d (oP a b e f g))))
def aFQ (a b:Int) (c:Prop):Prop:=nC a (bG b) (eS (DV.bool false)) (bZ 0) c
def wQ (a b:Int) (c:DV) (d:Prop):Prop:=aFQ a b (aFP (eC c (bG a) d))
def rR (a:Pl):Prop:=([]:List DV)=a.xs
def rX (a:Nat) (b:List DV) (c:Px->Int):Prop:=gL (gF a 1) (bM b c a)
def rQ (a:Int):Prop:=aE 0=aE a
def mR (a:List DV) (b:Nat):Prop:=bD a (bU b) (aU a b)
def zM (a b:Nat):Prop:=vR (a:Int) (b:Int)
def sY (a:Int) (b:Nat) (c:Prop):Prop:=pF a (eS (Int.toNat (b:Int))) c
def aCQ (a:List DV) (b c:Nat):Prop:=gU (bD a (aT b c) (bT a b c)) (bD a (gF b c) (dT a b c)) (bD a (cI (aT b c)) (eH a b c)) (bD a (mK b c) (dE a b c)) (mR a (aT b c))
def aES (a b:Int) (c:Nat) (d:List DV) (e:Int) (f:Prop) (g:Nat):Prop:=jK a b c d (bN (sY e c (sP f c d g)))
def aGJ (a b c:Nat) (d:List DV) (e f g:Prop):Prop:=bL (a<=b) (gY a b->cZ (eG a b c d) e f) (eX a b false g)
theorem jYn (w h:Int) (n:Nat) (xs:List DV) (hx:jY4 n xs):AnsG prog 38 0 [aJ ((w)),aJ ((h)),aO (cD (dS n xs))] [] ⟨AV.tup [AV.agg [cJ (((imOf w h (zQg xs)).w)),cJ (((imOf w h (zQg xs)).h)),cD (dQ ((imOf w h (zQg xs)).so)),cK (((imOf w h (zQg xs)).c.a)),cK (((imOf w h (zQg xs)).c.b)),cK (((imOf w h (zQg xs)).c.c)),cK (((imOf w h (zQg xs)).c.al)),cK (((imOf w h (zQg xs)).c.f)),cJ (((imOf w h (zQg xs)).p0.w)),cJ (((imOf w h (zQg xs)).p0.h)),cJ (((imOf w h (zQg xs)).p0.s)),Cl.ref 0 ((imOf w h (zQg xs)).p0.n),cJ (((imOf w h (zQg xs)).p1.w)),cJ (((imOf w h (zQg xs)).p1.h)),cJ (((imOf w h (zQg xs)).p1.s)),Cl.ref 1 ((imOf w h (zQg xs)).p1.n),cJ (((imOf w h (zQg xs)).p2.w)),cJ (((imOf w h (zQg xs)).p2.h)),cJ (((imOf w h (zQg xs)).p2.s)),Cl.ref 2 ((imOf w h (zQg xs)).p2.n),cJ (((imOf w h (zQg xs)).p3.w)),cJ (((imOf w h (zQg xs)).p3.h)),cJ (((imOf w h (zQg xs)).p3.s)),Cl.ref 3 ((imOf w h (zQg xs)).p3.n),cJ (((imOf w h (zQg xs)).p4.w)),cJ (((imOf w h (zQg xs)).p4.h)),cJ (((imOf w h (zQg xs)).p4.s)),Cl.ref 4 ((imOf w h (zQg xs)).p4.n)],aO (cD (dQ (ofOk w h n)))],[bR 34 1 ((imOf w h (zQg xs)).p0.xs),bR 34 1 ((imOf w h (zQg xs)).p1.xs),bR 34 1 ((imOf w h (zQg xs)).p2.xs),bR 34 1 ((imOf w h (zQg xs)).p3.xs),bR 34 1 ((imOf w h (zQg xs)).p4.xs)],true⟩:=
 zZc (Γ:=gamI) (let d:=bM xs Px.b n;let c:=bM xs Px.a n;let b:=(n:Int);let l:=rC 0 0 0 (oI (aDU []));let e:=wN l;let a:=rC 0 0 0 (oI e);let m:=aBG 7002 34 1 xs Px.c n 7003 Px.al;let o:=aFO w h 7000 b 7001 7002 7003 (wN []);let p:=aBD w h 7001 b 7002 (aDU []);let q:=aBD w h 7000 b 7001 l;let r:=wO a;oU (Ann.link (Inv.mk Unit (λ(A:Unit)=>True) (λ(L:Unit)=>aHF 0 w 1 h (nQ n xs 29 0) 6 a 8 r []) (λ(y:Unit)=>(0:Nat))) (λ(K:Unit)=>cT (aEQ true (pE (eF (Ann.loop (Inv.mk Nat (λ(t:Nat)=>let v:=t<=n;v) (λ(k:Nat)=>aHP (vE w (zX 1 h 2 n xs (uL 6 (sX 9 0 10 (aCL 7000 n) (xP 29 0 35 n xs 36 37 k))))) 6 false a 8 w h false r (jU 7000 34 1 (bM xs Px.a k))) (λ(s:Nat)=>let u:=n-s;u)) (λ(B:Nat)=>aL)))))) (Ann.link (Inv.mk Unit (λ(A:Unit)=>True) (λ(J:Unit)=>aHQ 0 w 1 h (nQ n xs 29 1) 6 a 8 7000 b e (jU 7000 34 1 c)) (λ(y:Unit)=>(0:Nat))) (λ(I:Unit)=>cT (aEQ true (pE (eF (Ann.loop (Inv.mk Nat (λ(t:Nat)=>let v:=t<=n;v) (λ(j:Nat)=>aHR (vE w (zX 1 h 2 n xs (uL 6 (sX 9 1 10 (aCL 7001 n) (xP 29 1 35 n xs 36 37 j))))) 6 false a 8 w h 7000 b e (aID 7001 34 1 xs Px.b j 7000 c)) (λ(s:Nat)=>let u:=n-s;u)) (λ(B:Nat)=>aL)))))) (Ann.link (Inv.mk Unit (λ(A:Unit)=>True) (λ(H:Unit)=>aBF 0 w 1 h (nQ n xs 29 2) 6 a 8 q (aBG 7000 34 1 xs Px.a n 7001 Px.b)) (λ(y:Unit)=>(0:Nat))) (λ(G:Unit)=>cT (aEQ true (pE (eF (Ann.loop (Inv.mk Nat (λ(t:Nat)=>let v:=t<=n;v) (λ(i:Nat)=>aHS (vE w (zX 1 h 2 n xs (uL 6 (sX 9 2 10 (aCL 7002 n) (xP 29 2 35 n xs 36 37 i))))) 6 false a 8 w h q (tT 7002 34 1 (bM xs Px.c i) 7000 34 1 c 7001 34 1 d [])) (λ(s:Nat)=>let u:=n-s;u)) (λ(B:Nat)=>aL)))))) (Ann.link (Inv.mk Unit (λ(A:Unit)=>True) (λ(F:Unit)=>aHQ 0 w 1 h (nQ n xs 29 3) 6 a 8 7000 b p (tT 7000 34 1 c 7001 34 1 d 7002 34 1 (bM xs Px.c n) [])) (λ(y:Unit)=>(0:Nat))) (λ(E:Unit)=>cT (aEQ true (pE (eF (Ann.loop (Inv.mk Nat (λ(t:Nat)=>let v:=t<=n;v) (λ(g:Nat)=>aHR (vE w (zX 1 h 2 n xs (uL 6 (sX 9 3 10 (aCL 7003 n) (xP 29 3 35 n xs 36 37 g))))) 6 false a 8 w h 7000 b p (tS 7003 34 1 (bM xs Px.al g) 7000 34 1 c (aBG 7001 34 1 xs Px.b n 7002 Px.c))) (λ(s:Nat)=>let u:=n-s;u)) (λ(B:Nat)=>aL)))))) (Ann.link (Inv.mk Unit (λ(A:Unit)=>True) (λ(D:Unit)=>aBF 0 w 1 h (nQ n xs 29 4) 6 a 8 o (tS 7000 34 1 c 7001 34 1 d m)) (λ(y:Unit)=>(0:Nat))) (λ(C:Unit)=>cT (aEQ true (pE (eF (Ann.loop (Inv.mk Nat (λ(t:Nat)=>let v:=t<=n;v) (λ(f:Nat)=>aHS (vE w (zX 1 h 2 n xs (uL 6 (sX 9 4 10 (aCL 7004 n) (xP 29 4 35 n xs 36 37 f))))) 6 false a 8 w h o (tT 7004 34 1 (bM xs Px.f f) 7000 34 1 c 7001 34 1 d m)) (λ(s:Nat)=>let u:=n-s;u)) (λ(B:Nat)=>aL)))))) (Ann.link (Inv.mk Unit (λ(A:Unit)=>True) (λ(z:Unit)=>aBF 0 w 1 h (nQ n xs 29 5) 6 a 8 (aFO w h 7000 b 7001 7002 7003 (aER w h 7004 b [])) (tT 7000 34 1 c 7001 34 1 d 7002 34 1 (bM xs Px.c n) (aBG 7003 34 1 xs Px.al n 7004 Px.f))) (λ(y:Unit)=>(0:Nat))) (λ(x:Unit)=>vA) aL))))))) zQb Tryz.func38 rfl (nL rfl) rfl λhwf hbx=>by
  refine Eq.mpr (by kernel_rfl:_=(let c:=imOf w h (zQg xs);let O:=ofOk w h n;let X:=lV [imV 0 c,aO (yD O)] (imB 34 c) true;let Y:=zZu X;let m:=c.p4;let o:=c.p3;let p:=c.p2;let q:=c.p1;let r:=c.p0;let Z:=m.n;let z0:=m.s;let z1:=m.h;let z2:=m.w;let z3:=o.n;let z4:=o.s;let z5:=o.h;let z6:=o.w;let z7:=p.n;let z8:=p.s;let z9:=p.h;let y0:=p.w;let y1:=q.n;let y2:=q.s;let y3:=q.h;let y4:=q.w;let y5:=r.n;let y6:=r.s;let y7:=r.h;let y8:=r.w;let s:=c.c;let y9:=rQ s.f;let x0:=rQ s.al;let x1:=rQ s.c;let x2:=rQ s.b;let x3:=rQ s.a;let x4:=wD false c.so;let x5:=c.h;let x6:=c.w;let x7:=cQ (aBI (cL (cF x6) (cF x5) x4 x3 x2 x1 x0 y9 (cL (cF y8) (cF y7) (cF y6) (0=y5) (cF y4) (cF y3) (cF y2) (0=y1) (cL (cF y0) (cF z9) (cF z8) (0=z7) (cF z6) (cF z5) (cF z4) (0=z3) (aF (cF z2) (cF z1) (cF z0) (0=Z))))) false O) (rR r) (rR q) (rR p) (rR o) (rR m);let d:=(n:Int);let P:=bM xs Px.al n;let t:=bM xs Px.c n;let e:=bM xs Px.b n;let k:=bM xs Px.a n;let G:=eS k;let l:=(n:Int);let u:=yH l;let v:=bG w;let Q:=gX 0 (aW gN True);let R:=kB (kB Q);let x8:=yX (yX (eC (aE 0) gN (kB (kB R))));let a:=gX 0 (pF 0 (eS yW) x8);let H:=aE 0;let S:=wQ w h H (iM h w (uW l v (aFR h w l v u 0 Q)));let x:=jT 3;let y:=iX 3;let z:=fL 3;let A:=mF d 2;let T:=wQ w h H (aFR h w l v u 0 (kB Q));let U:=wQ w h H (iM h w (uW l v (oP h w u 0 R)));let V:=wQ w h H (oP h w u 0 (kB R));let W:=gX w (pF h (eS yW) x8);iY (yT 83 w h) (aBK (zZg w h) (True/\True/\True/\dX ((l !=aI (w*h))=true) x7 (zZu X)/\((l !=aI (w*h))=false->True/\True/\True/\True/\True/\aBJ (∃ v0:Unit,aF True (jK w h n xs (pQ gN)) a W) (∀ w9:Unit,True->aK (fJ 0) (pR A (∃ M:Nat,cB M n (aF (aES w h n xs 0 gN M) a W (rW d xs Px.a M))) (∀ j:Nat,aGJ j n 5 xs (aCQ xs j 5) (lX z (y/\True/\True/\x/\iV (iH 0 0 5 (bT xs j 5)) (cG (zM j n) (rX j xs Px.a) (∃ F:Nat,cQ (F<=n) (bW n F j) (jK w h n xs (bN (sY 0 n (iG gN n xs j F)))) a W (nR xs Px.a j 1 (bT xs j 5)=bM xs Px.a F))))) (bS (jL 0 (∃ w8:Unit,tV (jK w h n xs (fE 0 1)) a V (bM xs Px.a j=bM xs Px.a n))))))) (∀ w7:Unit,True->aK (fJ 1) (pR A (∃ L:Nat,cQ (L<=n) (aES w h n xs 1 (bG 1) L) a V (rW d xs Px.b L) G) (∀ i:Nat,aGJ i n 5 xs (aCQ xs i 5) (lX z (y/\True/\True/\x/\iV (iH 1 1 5 (dT xs i 5)) (cG (zM i n) (rX i xs Px.b) (∃ E:Nat,cB E n (cQ (bW n E i) (jK w h n xs (bN (sY 1 n (iG (bG 1) n xs i E)))) a V (nR xs Px.b i 1 (dT xs i 5)=bM xs Px.b E) G))))) (bS (jL 1 (∃ w6:Unit,True/\jK w h n xs (fE 1 2)/\nM a U k (bM xs Px.b i) e)))))) (∀ w5:Unit,bL True (fJ 2) (True/\True/\True/\True/\A/\True/\True/\True/\True/\(∃ K:Nat,cB K n (aES w h n xs 2 (bG 2) K/\a/\gS U (rW d xs Px.c K) k e))/\(∀ g:Nat,aGJ g n 5 xs (aCQ xs g 5) (lX z (y/\True/\True/\x/\iV (iH 2 2 5 (eH xs g 5)) (cG (zM g n) (rX g xs Px.c) (∃ D:Nat,D<=n/\bW n D g/\jK w h n xs (bN (sY 2 n (iG (bG 2) n xs g D)))/\a/\gS U (nR xs Px.c g 1 (eH xs g 5)=bM xs Px.c D) k e)))) (bS (jL 2 (∃ w4:Unit,True/\iT (jK w h n xs (fE 2 3)) a T k e (bM xs Px.c g=bM xs Px.c n))))))) (∀ w3:Unit,True->aK (fJ 3) (pR A (∃ J:Nat,rH (J<=n) (aES w h n xs 3 (bG 3) J) a T (rW d xs Px.al J) k e (eS t)) (∀ b:Nat,bL (b<=n) (bL (gY b n) (eG b n 5 xs) (aM (aCQ xs b 5) (aV (z/\aH y (dN x (True/\iH 3 3 5 (dE xs b 5)/\cG (zM b n) (rX b xs Px.al) (∃ C:Nat,C<=n/\bW n C b/\jK w h n xs (bN (sY 3 n (iG (bG 3) n xs b C)))/\iT a T (nR xs Px.al b 1 (dE xs b 5)=bM xs Px.al C) k e (eS t)))))))) (eX b n false (bS (jL 3 (∃ w2:Unit,True/\jK w h n xs (fE 3 4)/\a/\S/\oK G e t (bM xs Px.al b=bM xs Px.al n)))))))) (∀ w1:Unit,True->aK (fJ 4) (pR A (∃ I:Nat,cB I n (pP (aES w h n xs 4 (bG 4) I) a S (rW d xs Px.f I) k e t P)) (∀ f:Nat,aGJ f n 5 xs (aCQ xs f 5) (aV (aH z (True/\y/\True/\True/\x/\iV (iH 4 4 5 (kT xs f 5)) (cG (zM f n) (rX f xs Px.f) (∃ B:Nat,B<=n/\bW n B f/\gX w (pF h (gD n xs) (bP (sY 4 n (iG (bG 4) n xs f B))))/\a/\iT S (nR xs Px.f f 1 (kT xs f 5)=bM xs Px.f B) (eS k) e t (eS P)))))) (bS (jL 4 (∃ w0:Unit,True/\rH (jK w h n xs (fE 4 5)) a (aFQ w h (yX (yX (iM w h (sY w n (iM w h (sY w n (iM w h (sY w n (iM w h (sY w n (iM w h (aW v u))))))))))))) G (eS e) t P (bM xs Px.f f=bM xs Px.f n))))))) (∀ x9:Unit,bL True yY (True/\True/\True/\cQ (aBI (cL (bE w x6) (bE h x5) x4 x3 x2 x1 x0 y9 (cL (bE w y8) (bE h y7) (bE w y6) (oR d y5) (bE w y4) (bE h y3) (bE w y2) (oR d y1) (cL (bE w y0) (bE h z9) (bE w z8) (oR d z7) (bE w z6) (bE h z5) (bE w z4) (oR d z3) (aF (bE w z2) (bE h z1) (bE w z0) (oR d Z))))) true O) (bM xs Px.a n=r.xs) (bM xs Px.b n=q.xs) (bM xs Px.c n=p.xs) (bM xs Px.al n=o.xs) (bM xs Px.f n=m.xs)/\Y))))) (pU (zZg w h) (True/\True/\True/\x7/\Y)))) ?_;delta eS aY aZ cZ aE aI aF aH aK oF bD lV fL gU dX lX yD kD eC aM bG nC oK bP bN cG bZ dN iT iV aW nH nG aT gO gL gW bL jG gD gF aAH vR mG yH mF cL iX jT aU bT eG gX eX dT dE eH iY kT nM aB bE pF aV cI bU bS oP iM bW cB mK gA rG rH gN gY wD pR pP tV pQ cQ sO aBK aFZ yT pU bM nR lM cF fJ uW oR fE yX jK jL yW kB aFP rW aFR aFQ wQ rR yY rX rQ aBJ aBI mR gS iG sP zM iH sY aCQ aES aGJ;simp only [sS,zQh,zQj,zQv,zQp,zQB,zQx,zQO,zQY,zZG];obtain ⟨l,rfl,rfl⟩:=hx.of;simp only [zZC,imV,imB,zZu,AV.flatV,AV.flatVL,Cl.flatV,jQ8,Bx.flatVL,Bx.flatV,jQ2,true_and,and_true];simp only [DV.flat,true_and,and_true];have no:∀ {P:Prop},(imOf w h l=Im.zero->ofOk w h l.length=false->P)->(ofOk w h l.length=false)->P:=λf h=>f (zHt h) h;have le:=@zXI w h;refine ⟨λq1=>⟨λq2=>?_,λq2=>?_⟩,λq1=>?_⟩
  ·obtain ⟨f1,f2,f3,f4,f5⟩:=le q1;have wm:wrap .i64 (w*h)=w*h:=wQb _ ⟨by have:=Int.mul_nonneg (a:=w) (b:=h) (by omega) (by omega); omega,by omega⟩;refine no (λe1 e2=>?_) (by rw [wm] at q2; simp [ofOk,q1]; simpa using q2);rw [e1,e2]; simp [Im.zero,Px.zero,Pl.none]
  ·obtain ⟨f1,f2,f3,f4,f5⟩:=le q1;have wm:wrap .i64 (w*h)=w*h:=wQb _ ⟨by have:=Int.mul_nonneg (a:=w) (b:=h) (by omega) (by omega); omega,by omega⟩;have hl:(l.length:Int)=w*h:=by rw [wm] at q2; simpa using q2
   have hk:ofOk w h l.length=true:=by simp [ofOk,q1,hl]
   have hb:l.length<=16777216:=by omega
   rw [hk,zV9 hk];simp only [ofIm,Px.zero,maxLen]
   (repeat' (first | apply And.intro | intro))<;>(first | assumption | rfl | omega | (exact ⟨0,by omega,rfl,(zXX _ _).symm⟩) | exact jKy (by omega) | exact zJC (j:=1) (by omega) (by omega) | exact zJC (j:=2) (by omega) (by omega) | exact zJC (j:=3) (by omega) (by omega) | exact zJC (j:=4) (by omega) (by omega) | (rw [zQs]; omega) | (rw [zVB (by assumption)]; omega) | exact zVR (by assumption) (by assumption) (λh=>(zQJ h).1) | exact zVR (by assumption) (by assumption) (λh=>(zQJ h).2.1) | exact zVR (by assumption) (by assumption) (λh=>(zQJ h).2.2.1) | exact zVR (by assumption) (by assumption) (λh=>(zQJ h).2.2.2.1) | exact zVR (by assumption) (by assumption) (λh=>(zQJ h).2.2.2.2) | exact ⟨(),by decide,jGg (by assumption) (by assumption)⟩ | exact ⟨(),trivial⟩ | exact ⟨(),by decide⟩ | exact zVC _ _ | (rw [jGg (by assumption) (by assumption)]; exact zVC _ _) | exact jWQ (by assumption) (by assumption) (λh=>(zQJ h).1) (λh=>(zQJ h).2.1) (λh=>(zQJ h).2.2.1) (λh=>(zQJ h).2.2.2.1) (λh=>(zQJ h).2.2.2.2) | (rw [zVB (by omega)]; omega) | decide)
  ·refine no (λe1 e2=>?_) (by simp [ofOk,q1]);rw [e1,e2]; simp [Im.zero,Px.zero,Pl.none]
def aLM (a b c d:Nat) (e:DV) (f:List (Nat × Bx)):List (Nat × Bx):=zF a b c (List.replicate d e) f
def aDV (a b c:Nat) (d:Int) (e:DV) (f:List (Nat × Bx)):List (Nat × Bx):=aLM a b c (Int.toNat d) e f
def aJU (a b c:Nat) (d:Int) (e:DV) (f:Nat) (g:List (Nat × Bx)):List (Nat × Bx):=aDV a b c d e (aDV f b c d e g)
def aFY (a:Nat) (b:DV) (c d e f:Nat) (g:List (Nat × AV)):List (Nat × AV):=kP a b (gC c d e f g)
def aJQ (a:List (Nat × AV)) (b:Nat) (c:Bool) (d:List Cl) (e:Nat) (f g:Int) (h:Nat) (i:List Cl) (j:List (Nat × Bx)):Snap:=aHR a b c d e f g h (aI (f*g)) i j
def aGF (a:DV) (b c d e:Nat) (f:List (Nat × AV)):List (Nat × AV):=aFY 2 a b c d e f
def aJR (a b:Nat) (c:List DV) (d:Nat) (e:List DV) (f:Nat) (g:List DV) (h:List (Nat × Bx)):List (Nat × Bx):=tT 200039 a b c d a b e f a b g h
def aDX (a:List (Nat × AV)) (b:Nat) (c:Bool) (d:List Cl) (e:Nat) (f g:Int) (h:List Cl) (i:List (Nat × Bx)):Snap:=aJQ a b c d e f g 200039 h i
def aJS (a b:Nat) (c d:List DV) (e:Nat) (f:List DV) (g:List (Nat × Bx)):List (Nat × Bx):=aJR a b c 300039 d e f g
def aDW (a b:Nat) (c d e:List DV) (f:List (Nat × Bx)):List (Nat × Bx):=aJS a b c d 400039 e f
def aHG (a:Nat) (b:Int) (c:Nat) (d:Int) (e:List (Nat × AV)) (f:Nat) (g:List Cl) (h i:Nat) (j:List Cl) (k:List (Nat × Bx)):Snap:=aHQ a b c d e f g h i (aI (b*d)) j k
def aJY (a b c:Nat) (d e:Int) (f:DV) (g:Nat) (h:List (Nat × Bx)):List (Nat × Bx):=aJU a b c (aI (d*e)) f g h
def aKD (a:DV) (b c d:Nat) (e:List (Nat × AV)):List (Nat × AV):=aGF a 6 b c d e
def aKE (a b c:Nat) (d e f:Int) (g:Nat) (h:List (Nat × Bx)):List (Nat × Bx):=aJY a b c d e (aE f) g h
def aKH (a:DV) (b c:Nat) (d:List (Nat × AV)):List (Nat × AV):=aKD a 6 b c d
def aBE (a b c:Nat) (d e:Int) (f:Nat) (g:List (Nat × Bx)):List (Nat × Bx):=aKE a b c d e 0 f g
def aKJ (a:DV) (b:Nat) (c:List (Nat × AV)):List (Nat × AV):=aKH a 8 b c
def uE (a:DV) (b:List (Nat × AV)):List (Nat × AV):=aKJ a 8 b
def yC (a b:Int):Nat:=Int.toNat (aI (a*b))
def rI (a b c d e f g h:Prop):Prop:=a/\b/\c/\d/\aF e f g h
def wG (a b c:Prop):Prop:=True/\a/\True/\b/\True/\True/\True/\True/\c
def tW (a b c:Prop) (d:List DV) (e:Prop):Prop:=a/\b/\c/\eS d/\e
def jC (a b:Prop):Prop:=True/\True/\True/\True/\aH a b
def aFS (a b:Int) (c:Prop):Prop:=iM a b (pF a (eS (Int.toNat (aI (a*b)))) c)
theorem zH6 (w h:Int) (n:Nat) (xs:List DV) (hx:jY4 n xs):AnsG prog 74 0 [aJ ((w)),aJ ((h)),aO (cD (dS n xs))] [] ⟨AV.tup [AV.agg [cJ (((imOf w h (zQg xs)).w)),cJ (((imOf w h (zQg xs)).h)),cD (dQ ((imOf w h (zQg xs)).so)),cK (((imOf w h (zQg xs)).c.a)),cK (((imOf w h (zQg xs)).c.b)),cK (((imOf w h (zQg xs)).c.c)),cK (((imOf w h (zQg xs)).c.al)),cK (((imOf w h (zQg xs)).c.f)),cJ (((imOf w h (zQg xs)).p0.w)),cJ (((imOf w h (zQg xs)).p0.h)),cJ (((imOf w h (zQg xs)).p0.s)),Cl.ref 0 ((imOf w h (zQg xs)).p0.n),cJ (((imOf w h (zQg xs)).p1.w)),cJ (((imOf w h (zQg xs)).p1.h)),cJ (((imOf w h (zQg xs)).p1.s)),Cl.ref 1 ((imOf w h (zQg xs)).p1.n),cJ (((imOf w h (zQg xs)).p2.w)),cJ (((imOf w h (zQg xs)).p2.h)),cJ (((imOf w h (zQg xs)).p2.s)),Cl.ref 2 ((imOf w h (zQg xs)).p2.n),cJ (((imOf w h (zQg xs)).p3.w)),cJ (((imOf w h (zQg xs)).p3.h)),cJ (((imOf w h (zQg xs)).p3.s)),Cl.ref 3 ((imOf w h (zQg xs)).p3.n),cJ (((imOf w h (zQg xs)).p4.w)),cJ (((imOf w h (zQg xs)).p4.h)),cJ (((imOf w h (zQg xs)).p4.s)),Cl.ref 4 ((imOf w h (zQg xs)).p4.n)],aO (cD (dQ (ofOk w h n)))],[bR 34 1 ((imOf w h (zQg xs)).p0.xs),bR 34 1 ((imOf w h (zQg xs)).p1.xs),bR 34 1 ((imOf w h (zQg xs)).p2.xs),bR 34 1 ((imOf w h (zQg xs)).p3.xs),bR 34 1 ((imOf w h (zQg xs)).p4.xs)],true⟩:=
 zZc (Γ:=gamI) (let c:=aI (w*h);let d:=aFO w h 300039 c 400039 500039 600039 [];let b:=wN (aDU (aDU []));let g:=DV.sl n xs;let o:=mQ true;vQ (vP (Ann.link (Inv.mk Unit (λ(s:Unit)=>True) (λ(D:Unit)=>aHF 0 w 1 h (nQ n xs 9 0) 6 b 8 (wO b) []) (λ(q:Unit)=>(0:Nat))) (λ(t:Unit)=>o) (Ann.link (Inv.mk Unit (λ(s:Unit)=>True) (λ(C:Unit)=>aHG 0 w 1 h (nQ n xs 9 1) 6 b 8 200039 (aDU (aDU [])) (aDV 200039 34 1 c (aE 0) [])) (λ(q:Unit)=>(0:Nat))) (λ(t:Unit)=>o) (Ann.link (Inv.mk Unit (λ(s:Unit)=>True) (λ(B:Unit)=>aBF 0 w 1 h (nQ n xs 9 2) 6 b 8 (aBD w h 200039 c 300039 (wN (aDU []))) (aBE 200039 34 1 w h 300039 [])) (λ(q:Unit)=>(0:Nat))) (λ(t:Unit)=>o) (Ann.link (Inv.mk Unit (λ(s:Unit)=>True) (λ(A:Unit)=>aHG 0 w 1 h (nQ n xs 9 3) 6 b 8 200039 (aBD w h 300039 c 400039 (aDU [])) (aDV 200039 34 1 c (aE 0) (aBE 300039 34 1 w h 400039 []))) (λ(q:Unit)=>(0:Nat))) (λ(t:Unit)=>o) (Ann.link (Inv.mk Unit (λ(s:Unit)=>True) (λ(z:Unit)=>aBF 0 w 1 h (nQ n xs 9 4) 6 b 8 (aFO w h 200039 c 300039 400039 500039 (wN [])) (aBE 200039 34 1 w h 300039 (aBE 400039 34 1 w h 500039 []))) (λ(q:Unit)=>(0:Nat))) (λ(t:Unit)=>o) (Ann.link (Inv.mk Unit (λ(s:Unit)=>True) (λ(y:Unit)=>aHG 0 w 1 h (nQ n xs 9 5) 6 b 8 200039 d (aDV 200039 34 1 c (aE 0) (aBE 300039 34 1 w h 400039 (aBE 500039 34 1 w h 600039 [])))) (λ(q:Unit)=>(0:Nat))) (λ(p:Unit)=>mQ false) aL)))))) (rF (Ann.loop (Inv.mk Nat (λ(m:Nat)=>m<=n) (λ(e:Nat)=>aDX (nQ n xs 10 (e:Int)) 6 false b 8 w h d (aDW 34 1 (bM xs Px.a e) (bM xs Px.b e) (bM xs Px.c e) (aBG 500039 34 1 xs Px.al e 600039 Px.f))) (λ(l:Nat)=>n-l)) (λ(a:Nat)=>let f:=aBG 500039 34 1 xs Px.al a 600039 Px.f;let k:=nR xs Px.b a 1 (nAt xs (aT a 5+0+1));let i:=nR xs Px.a a 1 (nAt xs (aT a 5+0+0));let j:=bM xs Px.c a;aHE (rF (Ann.link (Inv.mk Unit (λ(s:Unit)=>True) (λ(x:Unit)=>aDX (uE g (aBH 10 a 11 0 [])) 6 false b 8 w h d (aDW 34 1 (bM xs Px.a a) (bM xs Px.b a) j f)) (λ(q:Unit)=>(0:Nat))) (λ(t:Unit)=>o) (Ann.link (Inv.mk Unit (λ(s:Unit)=>True) (λ(v:Unit)=>aDX (uE g (aBH 10 a 11 1 [])) 6 false b 8 w h d (aDW 34 1 i (bM xs Px.b a) j f)) (λ(q:Unit)=>(0:Nat))) (λ(t:Unit)=>o) (Ann.link (Inv.mk Unit (λ(s:Unit)=>True) (λ(u:Unit)=>aDX (uE g (aBH 10 a 11 2 [])) 6 false b 8 w h d (aDW 34 1 i k j f)) (λ(q:Unit)=>(0:Nat))) (λ(t:Unit)=>o) (Ann.link (Inv.mk Unit (λ(s:Unit)=>True) (λ(r:Unit)=>aDX (uE g (aBH 10 a 11 3 [])) 6 false b 8 w h d (aDW 34 1 i k (nR xs Px.c a 1 (nAt xs (aT a 5+0+2))) f)) (λ(q:Unit)=>(0:Nat))) (λ(p:Unit)=>mQ false) aL)))))))))) zQb Tryz.func74 rfl (nL rfl) rfl λhwf hbx=>by
  refine Eq.mpr (by kernel_rfl:_=(let d:=imOf w h (zQg xs);let C:=ofOk w h n;let J:=lV [imV 0 d,aO (yD C)] (imB 34 d) true;let i:=d.p4;let j:=d.p3;let k:=d.p2;let l:=d.p1;let m:=d.p0;let K:=i.n;let L:=i.s;let M:=i.h;let O:=i.w;let P:=j.n;let Q:=j.s;let R:=j.h;let S:=j.w;let T:=k.n;let U:=k.s;let V:=k.h;let W:=k.w;let X:=l.n;let Y:=l.s;let Z:=l.h;let z0:=l.w;let z1:=m.n;let z2:=m.s;let z3:=m.h;let z4:=m.w;let r:=d.c;let z5:=rQ r.f;let z6:=rQ r.al;let z7:=rQ r.c;let z8:=rQ r.b;let z9:=rQ r.a;let y0:=wD false d.so;let y1:=d.h;let y2:=d.w;let y3:=cQ (aBI (cL (cF y2) (cF y1) y0 z9 z8 z7 z6 z5 (cL (cF z4) (cF z3) (cF z2) (0=z1) (cF z0) (cF Z) (cF Y) (0=X) (cL (cF W) (cF V) (cF U) (0=T) (cF S) (cF R) (cF Q) (0=P) (aF (cF O) (cF M) (cF L) (0=K))))) false C) (rR m) (rR l) (rR k) (rR j) (rR i);let y4:=zZu J;let b:=aI (w*h);let t:=yH b;let u:=bG w;let g:=aFQ w h (yX (yX (aFS w h (aFS w h (aFS w h (aFS w h (iM w h (aW u t))))))));let E:=gX 0 (aW gN True);let F:=kB (kB E);let x2:=eC (aE 0) gN (kB (kB F));let c:=rG (eC yW (bZ 0) (aFP x2));let p:=aE 0;let x3:=List.replicate (yC w h) p;let q:=eS x3;let I:=q/\q/\True;let B:=List.replicate (yC w h) p;let y:=mF b 2;iY (yT 86 w h) (aBK (zZg w h) (True/\True/\True/\dX (((n:Int) !=b)=true) y3 y4/\(((n:Int) !=b)=false->True/\True/\True/\True/\True/\aBJ (∃ v3:Unit,aF True (jK w h n xs (pQ gN)) c (aFQ w h (aFP x2))) (∀ v2:Unit,rU 0 (iY y (fL 5) (True/\True/\True/\True/\(∃ v1:Unit,True/\aF (jK w h n xs (fE 0 1)) c (wQ w h p (oP h w t 0 (kB F))) (eS x3))))) (∀ v0:Unit,rU 1 (iY y (iX 5) (True/\True/\True/\True/\(∃ w9:Unit,True/\tW (jK w h n xs (fE 1 2)) c (wQ w h p (iM h w (uW b u (oP h w t 0 F)))) B (aZ q))))) (∀ w8:Unit,rU 2 (iY y (jT 5) (True/\True/\True/\True/\(∃ w7:Unit,True/\tW (jK w h n xs (fE 2 3)) c (wQ w h p (aFR h w b u t 0 (kB E))) B I)))) (∀ w6:Unit,rU 3 (iY y aAI (True/\True/\True/\True/\(∃ w5:Unit,True/\tW (jK w h n xs (fE 3 4)) c (wQ w h p (iM h w (uW b u (aFR h w b u t 0 E)))) B (q/\I))))) (∀ w4:Unit,rU 4 (iY y (oF 4 4 5) (True/\True/\True/\True/\(∃ w3:Unit,True/\tW (jK w h n xs (fE 4 5)) c g B (q/\q/\I))))) (∀ w2:Unit,jW (True/\yY/\True/\(∃ f:Nat,cB f n (rI (rV n xs (pQ (yO f))) c g (rW b xs Px.a f) (rW b xs Px.b f) (rW b xs Px.c f) (rW b xs Px.al f) (rW b xs Px.f f)))/\(∀ a:Nat,let o:=aT a 5;let y5:=nAt xs (o+4);let y6:=nAt xs (o+3);let s:=o+0;let y7:=nAt xs (s+2);let y8:=nR xs Px.c a 1 y7;let y9:=nAt xs (o+0+1);let D:=nR xs Px.b a 1 y9;let x0:=nAt xs (s+0);let x1:=nR xs Px.a a 1 x0;let v:=vR (a:Int) b;let x:=eG a n 5 xs;let z:=bM xs Px.f a;let A:=bM xs Px.al a;let G:=eS x1;let H:=bM xs Px.c a;a<=n->eZ (True/\True/\True/\bL (gY a n) (∃ w1:Unit,True/\pP (rV n xs (bK (eS (0:Nat)) (gA a) gN)) c g (eS (bM xs Px.a a)) (bM xs Px.b a) H A z) (aF (∀ w0:Unit,oQ (wR/\True/\True/\fL 5/\jC x (fL 3/\aZ (bD xs (s+0) x0)/\v/\rX a xs Px.a/\iW (∃ x9:Unit,True/\pP (rV n xs (wS (gA a) 0 1)) c g G (bM xs Px.b a) H A z)))) (∀ x8:Unit,oQ (wT/\True/\True/\iX 5/\jC x (iX 3/\aZ (bD xs (s+1) y9)/\v/\rX a xs Px.b/\iW (∃ x7:Unit,True/\pP (rV n xs (wS (gA a) 1 2)) c g G D H A z)))) (∀ x6:Unit,oQ (wX/\True/\True/\jT 5/\jC x (jT 3/\aZ (bD xs (s+2) y7)/\v/\rX a xs Px.c/\iW (∃ x5:Unit,True/\pP (rV n xs (wS (gA a) 2 3)) c g G D y8 A z)))) (∀ x4:Unit,jW (wG wY aAI (jL 4 (aH x (yP (bD xs (o+3) y6) x (True/\aZ (bD xs (o+4) y5)/\v/\rX a xs Px.al/\v/\rX a xs Px.f/\iW (∃ e:Nat,e<=n/\bW n e a/\rI (rV n xs (pQ (rK a e))) c g (x1=bM xs Px.a e) (D=bM xs Px.b e) (y8=bM xs Px.c e) (nR xs Px.al a 1 y6=bM xs Px.al e) (nR xs Px.f a 1 y5=bM xs Px.f e)))))))))/\dX (pV a n) (cQ (aBI (cL (bE w y2) (bE h y1) y0 z9 z8 z7 z6 z5 (cL (bE w z4) (bE h z3) (bE w z2) (oR b z1) (bE w z0) (bE h Z) (bE w Y) (oR b X) (cL (bE w W) (bE h V) (bE w U) (oR b T) (bE w S) (bE h R) (bE w Q) (oR b P) (aF (bE w O) (bE h M) (bE w L) (oR b K))))) true C) (bM xs Px.a a=m.xs) (bM xs Px.b a=l.xs) (bM xs Px.c a=k.xs) (bM xs Px.al a=j.xs) (bM xs Px.f a=i.xs)) y4))))))) (pU (zZg w h) (True/\True/\True/\y3/\zZu J)))) ?_;delta eS aY aZ aE aI aF aH oF bD lV fL dX yD yC kD eC aM bG nC oK bZ aW nH nG bK aT gO gL bL jG gF aAH vR iW yH mF cL iX jT aAI eZ eG gX iY aB bE pF oP iM bW cB gA rG rH gN gY wD jW rI rK pP wG tW pQ yO cQ yP sO aBK aFZ yT pU bM nR lM cF fJ uW oR jC oQ fE yX wS jK rV jL yW rU kB aFP rW aFR pV aFQ wQ rR wR wX wT wY yY aFS rX rQ aBJ aBI;simp only [sS,zQh,zQj,zQv,zQp,zQB,zQx,zQO,zQY,zZG];obtain ⟨l,rfl,rfl⟩:=hx.of;simp only [zZC,imV,imB,zZu,AV.flatV,AV.flatVL,Cl.flatV,jQ8,Bx.flatVL,Bx.flatV,jQ2,true_and,and_true];simp only [DV.flat,true_and,and_true];have no:∀ {P:Prop},(imOf w h l=Im.zero->ofOk w h l.length=false->P)->(ofOk w h l.length=false)->P:=λf h=>f (zHt h) h;have le:=@zXI w h;refine ⟨λq1=>⟨λq2=>?_,λq2=>?_⟩,λq1=>?_⟩
  ·obtain ⟨f1,f2,f3,f4,f5⟩:=le q1;have wm:wrap .i64 (w*h)=w*h:=wQb _ ⟨by have:=Int.mul_nonneg (a:=w) (b:=h) (by omega) (by omega); omega,by omega⟩;refine no (λe1 e2=>?_) (by rw [wm] at q2; simp [ofOk,q1]; simpa using q2);rw [e1,e2]; simp [Im.zero,Px.zero,Pl.none]
  ·obtain ⟨f1,f2,f3,f4,f5⟩:=le q1;have wm:wrap .i64 (w*h)=w*h:=wQb _ ⟨by have:=Int.mul_nonneg (a:=w) (b:=h) (by omega) (by omega); omega,by omega⟩;have hl:(l.length:Int)=w*h:=by rw [wm] at q2; simpa using q2
   have hk:ofOk w h l.length=true:=by simp [ofOk,q1,hl]
   have hb:l.length<=16777216:=by omega
   rw [hk,zV9 hk];simp only [ofIm,Px.zero,maxLen,wm];simp only [<- hl,wQl,Nat.add_zero]
   (repeat' (first | apply And.intro | intro))<;>(first | (exact ⟨0,by omega,rfl,(zXX _ _).symm,(zXX _ _).symm,(zXX _ _).symm,(zXX _ _).symm,(zXX _ _).symm⟩) | (first | assumption | rfl | omega | (exact ⟨0,by omega,rfl,(zXX _ _).symm⟩) | exact jKy (by omega) | exact zJC (j:=1) (by omega) (by omega) | exact zJC (j:=2) (by omega) (by omega) | exact zJC (j:=3) (by omega) (by omega) | exact zJC (j:=4) (by omega) (by omega) | (rw [zQs]; omega) | (rw [zVB (by assumption)]; omega) | exact zVR (by assumption) (by assumption) (λh=>(zQJ h).1) | exact zVR (by assumption) (by assumption) (λh=>(zQJ h).2.1) | exact zVR (by assumption) (by assumption) (λh=>(zQJ h).2.2.1) | exact zVR (by assumption) (by assumption) (λh=>(zQJ h).2.2.2.1) | exact zVR (by assumption) (by assumption) (λh=>(zQJ h).2.2.2.2) | exact ⟨(),by decide,jGg (by assumption) (by assumption)⟩ | exact ⟨(),trivial⟩ | exact ⟨(),by decide⟩ | exact zVC _ _ | (rw [jGg (by assumption) (by assumption)]; exact zVC _ _) | exact jWQ (by assumption) (by assumption) (λh=>(zQJ h).1) (λh=>(zQJ h).2.1) (λh=>(zQJ h).2.2.1) (λh=>(zQJ h).2.2.2.1) (λh=>(zQJ h).2.2.2.2) | (rw [zVB (by omega)]; omega) | decide))
  ·refine no (λe1 e2=>?_) (by simp [ofOk,q1]);rw [e1,e2]; simp [Im.zero,Px.zero,Pl.none]
def pxR (p:Px):RV:=RV.agg [DV.int .u16 p.a,DV.int .u16 p.b,DV.int .u16 p.c,DV.int .u16 p.al,DV.int .u16 p.f]
theorem jJQ (m:Im) (x y:Int) (hu:m.isU):Ans prog 215 [imR m,RV.d (DV.int .i64 x),RV.d (DV.int .i64 y)] (pxR (m.at_ x y)):=jYo ((m).w) ((m).h) ((m).so) (((m).c).a) (((m).c).b) (((m).c).c) (((m).c).al) (((m).c).f) (((m).p0).w) (((m).p0).h) (((m).p0).s) (((m).p0).n) (((m).p0).xs) (((m).p1).w) (((m).p1).h) (((m).p1).s) (((m).p1).n) (((m).p1).xs) (((m).p2).w) (((m).p2).h) (((m).p2).s) (((m).p2).n) (((m).p2).xs) (((m).p3).w) (((m).p3).h) (((m).p3).s) (((m).p3).n) (((m).p3).xs) (((m).p4).w) (((m).p4).h) (((m).p4).s) (((m).p4).n) (((m).p4).xs) x y hu
theorem zYx (m:Im) (x y:Int) (hu:m.isU):Ans prog 13 [imR m,RV.d (DV.int .i64 x),RV.d (DV.int .i64 y)] (pxR (m.at_ x y)):=zH7 ((m).w) ((m).h) ((m).so) (((m).c).a) (((m).c).b) (((m).c).c) (((m).c).al) (((m).c).f) (((m).p0).w) (((m).p0).h) (((m).p0).s) (((m).p0).n) (((m).p0).xs) (((m).p1).w) (((m).p1).h) (((m).p1).s) (((m).p1).n) (((m).p1).xs) (((m).p2).w) (((m).p2).h) (((m).p2).s) (((m).p2).n) (((m).p2).xs) (((m).p3).w) (((m).p3).h) (((m).p3).s) (((m).p3).n) (((m).p3).xs) (((m).p4).w) (((m).p4).h) (((m).p4).s) (((m).p4).n) (((m).p4).xs) x y hu
theorem jQk (m:Im) (most:Int) (hu:m.isU):Ans prog 76 [imR m,RV.d (DV.int .u16 most)] (RV.d (DV.int .i64 (m.valid most))):=zHs ((m).w) ((m).h) ((m).so) (((m).c).a) (((m).c).b) (((m).c).c) (((m).c).al) (((m).c).f) (((m).p0).w) (((m).p0).h) (((m).p0).s) (((m).p0).n) (((m).p0).xs) (((m).p1).w) (((m).p1).h) (((m).p1).s) (((m).p1).n) (((m).p1).xs) (((m).p2).w) (((m).p2).h) (((m).p2).s) (((m).p2).n) (((m).p2).xs) (((m).p3).w) (((m).p3).h) (((m).p3).s) (((m).p3).n) (((m).p3).xs) (((m).p4).w) (((m).p4).h) (((m).p4).s) (((m).p4).n) (((m).p4).xs) most hu
theorem jJP (w h:Int) (n:Nat) (xs:List DV) (hx:jY4 n xs):AnsG prog 38 0 [AV.one (Cl.d (DV.int .i64 w)),AV.one (Cl.d (DV.int .i64 h)),AV.one (Cl.d (DV.sl n xs))] [] ⟨AV.tup [imV 0 (imOf w h (zQg xs)),AV.one (Cl.d (DV.bool (ofOk w h n)))],imB 34 (imOf w h (zQg xs)),true⟩:=jYn w h n xs hx
theorem zVY (w h:Int) (n:Nat) (xs:List DV) (hx:jY4 n xs):AnsG prog 74 0 [AV.one (Cl.d (DV.int .i64 w)),AV.one (Cl.d (DV.int .i64 h)),AV.one (Cl.d (DV.sl n xs))] [] ⟨AV.tup [imV 0 (imOf w h (zQg xs)),AV.one (Cl.d (DV.bool (ofOk w h n)))],imB 34 (imOf w h (zQg xs)),true⟩:=zH6 w h n xs hx
theorem zVi (w h:Int) (c:Px):Ans prog 33 [RV.d (DV.int .i64 w),RV.d (DV.int .i64 h),pxR c] (imR (zQ3 w h c)):=jXw w h c.a c.b c.c c.al c.f
def yQN:Gam:=jHZ.add []
def lY (a:Prop):Prop:=aK (eS true) a
def qT (a:Int) (b:Nat) (c:List DV) (d e f:Int) (g:Nat):Int:=nAt (pxs (zQm a b c d (Int.toNat (aI (e*f))))) g
def qU (a:Int) (b:Nat) (c:List DV) (d e f:Int) (g:Nat):Prop:=aAK a b c d (Int.toNat (aI (e*f))) g g
theorem jY8 (pw ph so mood:Int) (L:Nat) (xs:List DV) (x0 y0 x1 y1 most:Int) (hx:Is5 L xs) (hc:1<=x1-x0/\x1-x0<=100/\1<=y1-y0/\y1-y0<=100):Ans prog 32 [rA [dJ pw,dJ ph,dJ so,dJ mood,dS L xs],rA [dJ x0,dJ y0,dJ x1,dJ y1],rD (dK most)] (rA (iD (zJb pw ph so mood L xs x0 y0 x1 y1 most))):=
 zQa (Γ:=yQN) aL zQb Tryz.func32 rfl (nL rfl) λhwf=>by
  refine Eq.mpr (by kernel_rfl:_=(let e:=imR (zJb pw ph so mood L xs x0 y0 x1 y1 most);let a:=tJ ph 4;let b:=tJ pw 5;let f:=yC b a;let h:=pxs (zQm mood L xs most f);let i:=imOf b a (zQg h);let l:=qT mood L xs most b a 4;let m:=qT mood L xs most b a 3;let n:=qT mood L xs most b a 2;let o:=qT mood L xs most b a 1;let p:=qT mood L xs most b a 0;let q:=imR (zQ3 b a ⟨p,o,n,m,l⟩);let r:=rA [vH mood,DV.sl L xs];let c:=aX y1 y0;let d:=aX x1 x0;let g:=yC d c;let j:=pxs (zQm mood L xs most g);let k:=imOf d c (zQg j);let s:=qT mood L xs most d c 4;let t:=qT mood L xs most d c 3;let u:=qT mood L xs most d c 2;let v:=qT mood L xs most d c 1;let w:=qT mood L xs most d c 0;let x:=imR (zQ3 d c ⟨w,v,u,t,s⟩);lX (iJ pw 5 5) (aK (iJ ph 4 4) (lY ((5:Int)≠0/\iJ (fT pw 5) 3 3/\True/\eW (modS (fT pw 5) 3) 0 (aG (eV (eS true) (aK (AnsO prog 73 [r,yB (aI (d*c)),aP most] 37 5 g j) (vK so 2 2 (yF so 2 (True/\True/\fL g/\gU (qU mood L xs most d c 0) (qU mood L xs most d c 1) (qU mood L xs most d c 2) (qU mood L xs most d c 3) (qU mood L xs most d c 4)/\Ans prog 33 [rD (DV.int IntKind.i64 d),rD (DV.int IntKind.i64 c),rA (pI w v u t s)] x/\True/\x=e)) (dX (mA (modS so 2)) (AnsG prog 74 0 (aO (bO d)::pJ (bO c) (qV g j) []) [] (lV [imV 0 k,aO (yD (ofOk d c (yC d c)))] (imB 34 k) true)) (aG (imR k=e)))))))/\(tI (fT pw 5) 3=false->True/\lX (AnsO prog 73 [r,yB (aI (b*a)),aP most] 37 5 f h) (vK so 2 2 (yF so 2 (True/\True/\fL f/\gU (qU mood L xs most b a 0) (qU mood L xs most b a 1) (qU mood L xs most b a 2) (qU mood L xs most b a 3) (qU mood L xs most b a 4)/\Ans prog 33 [rD (DV.int IntKind.i64 b),rD (DV.int IntKind.i64 a),lW p o n m l] q/\True/\q=e)) (dX (mA (modS so 2)) (AnsG prog 74 0 (aO (bO b)::pJ (bO a) (qV f h) []) [] (lV [imV 0 i,aO (yD (ofOk b a (yC b a)))] (imB 34 i) true)) (aG (imR i=e)))))))))) ?_;delta eS vH aE aI bO yB aF aP aG aH aK oF dR bD aX jE lW eV fT eW pJ lV fL gU dX iJ qV aAK lX mA yD tI lY pI qT qU tJ yC vK yF;simp only [sS,zQh];have go:∀ W H:Int,(1<=W/\W<=100)->(1<=H/\H<=100)->0<(wrap .i64 (W*H)).toNat/\wrap .i64 (W*H)<=16777216:=λW H a b=>by have:=jXy a b; omega
  have b5:=@zZa pw 5 (by omega) (by omega);have b4:=@zZa ph 4 (by omega) (by omega);refine ⟨by omega,λq1=>?_,λq1=>?_⟩
  ·have hW:zYV pw 5 x0 x1 pw=wrap .i64 (x1-x0):=by unfold zYV; rw [if_pos (by simpa using q1)]
   have hH:zYV ph 4 y0 y1 pw=wrap .i64 (y1-y0):=by unfold zYV; rw [if_pos (by simpa using q1)]
   have gi:=zWW pw ph so mood L xs x0 y0 x1 y1 most _ _ hW hH;have cW:1<=wrap .i64 (x1-x0)/\wrap .i64 (x1-x0)<=100:=by rw [wQb _ ⟨by omega,by omega⟩]; omega
   have cH:1<=wrap .i64 (y1-y0)/\wrap .i64 (y1-y0)<=100:=by rw [wQb _ ⟨by omega,by omega⟩]; omega
   generalize wrap .i64 (x1-x0)=W at *;generalize wrap .i64 (y1-y0)=H at *;obtain ⟨g1,g2⟩:=go W H cW cH;have pn:=zU6 mood L xs (wrap .i64 (W*H)) most hx g2;refine ⟨pn,λq2=>?_,λq2=>?_⟩
   ·have hs:modS so 2=0:=by simpa using q2
    rw [if_pos hs] at gi;obtain ⟨v0,v1,v2,v3,v4⟩:=zUV (mood:=mood) (L:=L) (xs:=xs) (most:=most) g1;have f0:=zKH (mood:=mood) (L:=L) (xs:=xs) (most:=most) g1 0 (by omega);have f1:=zKH (mood:=mood) (L:=L) (xs:=xs) (most:=most) g1 1 (by omega);have f2:=zKH (mood:=mood) (L:=L) (xs:=xs) (most:=most) g1 2 (by omega);have f3:=zKH (mood:=mood) (L:=L) (xs:=xs) (most:=most) g1 3 (by omega);have f4:=zKH (mood:=mood) (L:=L) (xs:=xs) (most:=most) g1 4 (by omega);have g3:0<wrap .i64 (W*H):=by omega
    rw [gi];simp only [v0,v1,v2,v3,v4] at f0 f1 f2 f3 f4 |-;exact ⟨⟨by omega,by omega⟩,⟨f0,f1,f2,f3,f4⟩,zVi W H ⟨_,_,_,_,_⟩,trivial⟩
   ·have hs:¬ modS so 2=0:=by simpa using q2
    rw [if_neg hs] at gi;rw [gi];have po:=zVY W H _ (pxs (zQm mood L xs most (wrap .i64 (W*H)).toNat)) (jQ5 _ _ _ _ rfl);simp only [zZC] at po |-;exact ⟨po,trivial⟩
  ·have hW:zYV pw 5 x0 x1 pw=wrap .i64 (1+modS pw 5):=by unfold zYV; rw [if_neg (by simpa using q1)]
   have hH:zYV ph 4 y0 y1 pw=wrap .i64 (1+modS ph 4):=by unfold zYV; rw [if_neg (by simpa using q1)]
   have gi:=zWW pw ph so mood L xs x0 y0 x1 y1 most _ _ hW hH;have cW:1<=wrap .i64 (1+modS pw 5)/\wrap .i64 (1+modS pw 5)<=100:=by rw [wQb _ ⟨by omega,by omega⟩]; omega
   have cH:1<=wrap .i64 (1+modS ph 4)/\wrap .i64 (1+modS ph 4)<=100:=by rw [wQb _ ⟨by omega,by omega⟩]; omega
   generalize wrap .i64 (1+modS pw 5)=W at *;generalize wrap .i64 (1+modS ph 4)=H at *;obtain ⟨g1,g2⟩:=go W H cW cH;have pn:=zU6 mood L xs (wrap .i64 (W*H)) most hx g2;refine ⟨pn,λq2=>?_,λq2=>?_⟩
   ·have hs:modS so 2=0:=by simpa using q2
    rw [if_pos hs] at gi;obtain ⟨v0,v1,v2,v3,v4⟩:=zUV (mood:=mood) (L:=L) (xs:=xs) (most:=most) g1;have f0:=zKH (mood:=mood) (L:=L) (xs:=xs) (most:=most) g1 0 (by omega);have f1:=zKH (mood:=mood) (L:=L) (xs:=xs) (most:=most) g1 1 (by omega);have f2:=zKH (mood:=mood) (L:=L) (xs:=xs) (most:=most) g1 2 (by omega);have f3:=zKH (mood:=mood) (L:=L) (xs:=xs) (most:=most) g1 3 (by omega);have f4:=zKH (mood:=mood) (L:=L) (xs:=xs) (most:=most) g1 4 (by omega);have g3:0<wrap .i64 (W*H):=by omega
    rw [gi];simp only [v0,v1,v2,v3,v4] at f0 f1 f2 f3 f4 |-;exact ⟨⟨by omega,by omega⟩,⟨f0,f1,f2,f3,f4⟩,zVi W H ⟨_,_,_,_,_⟩,trivial⟩
   ·have hs:¬ modS so 2=0:=by simpa using q2
    rw [if_neg hs] at gi;rw [gi];have po:=zVY W H _ (pxs (zQm mood L xs most (wrap .i64 (W*H)).toNat)) (jQ5 _ _ _ _ rfl);simp only [zZC] at po |-;exact ⟨po,trivial⟩
def yQM:Gam:=yQN.add [.p 32 (λ| [.agg [.int _ pw,.int _ ph,.int _ so,.int _ mood,.sl L xs],.agg [.int _ x0,.int _ y0,.int _ x1,.int _ y1],.d (.int _ most)]=>let a:=(zJb pw ph so mood L xs x0 y0 x1 y1 most); some (RV.agg (iD a)) | _=>none)]
def aEH (a:List (Nat × AV)) (b:Nat) (c:List Cl) (d:Nat) (e f:Int) (g:List Cl) (h:Nat) (i:List Cl) (j:List (Nat × Bx)):Snap:=aGG a b c d (cS e f g) h i j
def vZ (a:Nat) (b:List Oq):Prop:=a<=List.length b
def iZ (a:Scn) (b:Nat):List Oq:=(Scn.run a b).snd
def jA (a:Scn) (b:Nat):List Oq:=(Scn.run a b).fst
def aMD (a:List (Nat × AV)) (b:Nat) (c:List Cl) (d:Nat) (e:Int) (f:List Cl) (g:Nat) (h:List Cl) (i:List (Nat × Bx)):Snap:=aEH a b c d 0 e f g h i
def aME (a:List (Nat × AV)) (b:Nat) (c:List Cl) (d:Nat) (e:List Cl) (f:Nat) (g:List Cl) (h:List (Nat × Bx)):Snap:=aMD a b c d 0 e f g h
def aMF (a:List (Nat × AV)) (b:Nat) (c:List Cl) (d:Nat) (e:Int) (f:List Cl) (g:Nat) (h:List Cl) (i:List (Nat × Bx)):Snap:=aME a b c d (aHI e f) g h i
def aEG (a:List (Nat × AV)) (b:Nat) (c:List Cl) (d:Nat) (e:List Cl) (f:Nat) (g:List Cl) (h:List (Nat × Bx)):Snap:=aMF a b c d 0 e f g h
def aHB (a:Scn) (b c d e:Int) (f:Nat) (g:List Cl):List Cl:=gK (Scn.bits a) b c d e (Scn.gtw a) (Scn.gth a) (Cl.ref f (List.length (Scn.ord a))::g)
def vY (a b c:Nat):Prop:=a<=Min.min b c
def aDS (a:Scn) (b:Nat):Nat:=List.length (iZ a b)
def aAL (a:Scn) (b:Nat):List DV:=ims (Scn.pics a b)
def aKC (a:Nat) (b:Scn) (c d:Nat) (e:List (Nat × AV)):List (Nat × AV):=vM a (Scn.most b) c d e
def aIR (a:List (Nat × AV)) (b:Nat) (c:List Cl) (d:Nat) (e:Int) (f:List Cl) (g:Nat) (h:List Cl) (i:List (Nat × Bx)):Snap:=aEG a b c d (bO e::f) g h i
def aIS (a:List (Nat × AV)) (b:Nat) (c:List Cl) (d:Nat) (e:List Cl) (f:Nat) (g:List Cl) (h:List (Nat × Bx)):Snap:=aIR a b c d 0 e f g h
def aIT (a:List (Nat × AV)) (b:Nat) (c:List Cl) (d:Nat) (e:List Cl) (f:Nat) (g:List Cl) (h:List (Nat × Bx)):Snap:=aIS a b c d (oI e) f g h
def aIU (a:List (Nat × AV)) (b:Nat) (c:List Cl) (d:Nat) (e:List Cl) (f:Nat) (g:List Cl) (h:List (Nat × Bx)):Snap:=aIT a b c d (oI e) f g h
def aHC (a:List (Nat × AV)) (b:Nat) (c:List Cl) (d:Nat) (e:List Cl) (f:Nat) (g:List Cl) (h:List (Nat × Bx)):Snap:=aIU a b c d (oI e) f g h
def aFJ (a:List Im):Int:=(List.length a:Int)
def aFK (a:Nat):List Oq:=List.replicate a popO
def aJV (a b c d:Nat) (e:List (Nat × AV)) (f:Nat) (g:List Cl) (h:Nat) (i:List Cl) (j:Nat) (k:List Cl) (l:List (Nat × Bx)):Snap:=aHC (gC a b c d e) f g h i j k l
def aJT (a b:Nat) (c:DV) (e:List (Nat × AV)):List (Nat × AV):=pO a a b (Cl.d c) e
def aHD (a:Nat) (b:Int) (c:Nat) (d:List (Nat × AV)):List (Nat × AV):=sX a b c (Cl.ptr c 0) d
def yK (a b:Nat) (c:Int) (d:List (Nat × AV)):List (Nat × AV):=aJT a b (aE c) d
def aAO (a b c:Nat) (d:List DV) (e:Nat) (f:List Cl) (g:List (Nat × Bx)):List (Nat × Bx):=zF a b c d (oZ e f g)
def aAM (a b:Nat) (c:Int) (d:Nat) (e:Int) (f:Nat) (g:Int) (h:List (Nat × AV)):List (Nat × AV):=aBZ a a b c (oJ d e f g h)
def aAN (a:Scn) (b c d e:Int) (f g h:Nat) (i:List Oq) (j:List Cl):List Cl:=aHB a b c d e f (Cl.ref g (List.length (Scn.ims a))::Cl.ref h (List.length i)::j)
def aKA (a b c:Nat) (d:List (Nat × AV)) (e:Nat) (f:List Cl) (g:Nat) (h:List Cl) (i:Nat) (j:List Cl) (k:List (Nat × Bx)):Snap:=aJV 1 a b c d e f g h i j k
def aKB (a b:Nat) (c:List (Nat × AV)) (d:Nat) (e:List Cl) (f:Nat) (g:List Cl) (h:Nat) (i:List Cl) (j:List (Nat × Bx)):Snap:=aKA 1 a b c d e f g h i j
def aKG (a b c:Nat) (d:Scn) (e f:Nat) (g:List (Nat × AV)) (h:Nat) (i:List Cl) (j:Nat) (k:List Cl) (l:Nat) (m:List Cl) (n:List (Nat × Bx)):Snap:=aKB a b (aKC c d e f g) h i j k l m n
def aKI (a b:Nat) (c:Scn) (d e:Nat) (f:List (Nat × AV)) (g:Nat) (h:List Cl) (i:Nat) (j:List Cl) (k:Nat) (l:List Cl) (m:List (Nat × Bx)):Snap:=aKG 2 a b c d e f g h i j k l m
def aKK (a:Nat) (b:Scn) (c d:Nat) (e:List (Nat × AV)) (f:Nat) (g:List Cl) (h:Nat) (i:List Cl) (j:Nat) (k:List Cl) (l:List (Nat × Bx)):Snap:=aKI 2 a b c d e f g h i j k l
def aKL (a:Scn) (b c:Nat) (d:List (Nat × AV)) (e:Nat) (f:List Cl) (g:Nat) (h:List Cl) (i:Nat) (j:List Cl) (k:List (Nat × Bx)):Snap:=aKK 3 a b c d e f g h i j k
def aKM (a:Scn) (b:Nat) (c:List (Nat × AV)) (d:Nat) (e:List Cl) (f:Nat) (g:List Cl) (h:Nat) (i:List Cl) (j:List (Nat × Bx)):Snap:=aKL a 4 b c d e f g h i j
def aKN (a:Scn) (b:List (Nat × AV)) (c:Nat) (d:List Cl) (e:Nat) (f:List Cl) (g:Nat) (h:List Cl) (i:List (Nat × Bx)):Snap:=aKM a 4 b c d e f g h i
def aKO (a:Scn) (b:List (Nat × AV)) (c:List Cl) (d:Nat) (e:List Cl) (f:Nat) (g:List Cl) (h:List (Nat × Bx)):Snap:=aKN a b 1 c d e f g h
def aKP (a:Scn) (b:List (Nat × AV)) (c d:List Cl) (e:Nat) (f:List Cl) (g:List (Nat × Bx)):Snap:=aKO a b c 2 d e f g
def aKQ (a:Scn) (b:List (Nat × AV)) (c d e f g h i:Int) (j k:List Cl) (l:Nat) (m:List Cl) (n:List (Nat × Bx)):Snap:=aKP a b (gK c d e f g h i j) k l m n
def aKR (a:Scn) (b:List (Nat × AV)) (c d e f g h:Int) (i j:List Cl) (k:Nat) (l:List Cl) (m:List (Nat × Bx)):Snap:=aKQ a b c d e f g a.tw h i j k l m
def aKS (a:Scn) (b:List (Nat × AV)) (c d e f g:Int) (h i:List Cl) (j:Nat) (k:List Cl) (l:List (Nat × Bx)):Snap:=aKR a b c d e f g a.th h i j k l
def aKT (a:Scn) (c:List (Nat × AV)) (d e f g:Int) (h i:List Cl) (j:Nat) (k:List Cl) (l:List (Nat × Bx)):Snap:=aKS a c a.b d e f g h i j k l
def aKU (a:Scn) (b:List (Nat × AV)) (c d e:Int) (f g:List Cl) (h:Nat) (i:List Cl) (j:List (Nat × Bx)):Snap:=aKT a b a.x c d e f g h i j
def aKV (a:Scn) (b:List (Nat × AV)) (c d:Int) (e f:List Cl) (g:Nat) (h:List Cl) (i:List (Nat × Bx)):Snap:=aKU a b a.y c d e f g h i
def aKW (a:Scn) (b:List (Nat × AV)) (c:Int) (d e:List Cl) (f:Nat) (g:List Cl) (h:List (Nat × Bx)):Snap:=aKV a b a.w c d e f g h
def aKX (a:Scn) (b:List (Nat × AV)) (c d:List Cl) (e:Nat) (f:List Cl) (g:List (Nat × Bx)):Snap:=aKW a b a.h c d e f g
def aKY (a:Scn) (b:List (Nat × AV)) (c:Nat) (d:List DV) (e f:List Cl) (g:Nat) (h:List Cl) (i:List (Nat × Bx)):Snap:=aKX a b (fO c d e) f g h i
def aKZ (a:Scn) (b:List (Nat × AV)) (c:Nat) (d e:List Cl) (f:Nat) (g:List Cl) (h:List (Nat × Bx)):Snap:=aKY a b c a.oxs d e f g h
def aLA (a:Scn) (b:List (Nat × AV)) (c d:List Cl) (e:Nat) (f:List Cl) (g:List (Nat × Bx)):Snap:=aKZ a b a.on c d e f g
def aLB (a:Scn) (b:List (Nat × AV)) (c:Nat) (d:List DV) (e:Nat) (f:List DV) (g h:List Cl) (i:Nat) (j:List Cl) (k:List (Nat × Bx)):Snap:=aLA a b (fO c d (fO e f g)) h i j k
def aLC (a:Scn) (b:List (Nat × AV)) (c d:Nat) (e:List DV) (f g:List Cl) (h:Nat) (i:List Cl) (j:List (Nat × Bx)):Snap:=aLB a b c a.pxs d e f g h i j
def aLD (a:Scn) (b:List (Nat × AV)) (c d:Nat) (e f:List Cl) (g:Nat) (h:List Cl) (i:List (Nat × Bx)):Snap:=aLC a b c d a.rxs e f g h i
def aLE (a:Scn) (b:List (Nat × AV)) (c:Nat) (d e:List Cl) (f:Nat) (g:List Cl) (h:List (Nat × Bx)):Snap:=aLD a b a.pn c d e f g h
def aLF (a:Scn) (b:List (Nat × AV)) (c d:List Cl) (e:Nat) (f:List Cl) (g:List (Nat × Bx)):Snap:=aLE a b a.rn c d e f g
def aLG (a:Scn) (b:List (Nat × AV)) (c:List Cl) (d:Nat) (e:List Cl) (f:List (Nat × Bx)):Snap:=aLF a b [] c d e f
def aLH (a:Scn) (b:List (Nat × AV)) (c:Nat) (d:List Cl) (e:List (Nat × Bx)):Snap:=aLG a b [] c d e
def tR (a:Scn) (b:List (Nat × AV)) (c:List Cl) (d:List (Nat × Bx)):Snap:=aLH a b 4 c d
def nK (a:List DV) (b:Nat):Option DV:=some (DV.sl (lAt a b) (cAt a b))
def tY (a:Int) (b:List Oq):Prop:=gO a (List.length b)
def mI (a b:Prop):Prop:=eS (0:Nat)/\a/\b
def aAQ (e:Scn) (f g:Prop):Prop:=iM (Scn.bits e) (Scn.c e).a (oP (Scn.c e).b (Scn.c e).c (bG (Scn.c e).d) (Scn.gtw e) (aF (bG (Scn.gth e)) (eS (List.length (Scn.ord e))) f g))
def tX (a:Scn) (b:Prop):Prop:=aAQ a (eS (List.length (Scn.ims a))) b
theorem jY7 (s:Scn) (hs:s.ok):AnsG prog 7 0 [AV.agg [cJ (s.b),cJ (s.x),cJ (s.y),cJ (s.w),cJ (s.h),cJ (s.tw),cJ (s.th),cD (dS s.on s.oxs),cD (dS s.pn s.pxs),cD (dS s.rn s.rxs)]] [] ⟨AV.agg [cJ (((s).bits)),cJ (((s).c.a)),cJ (((s).c.b)),cJ (((s).c.c)),cJ (((s).c.d)),cJ (((s).gtw)),cJ (((s).gth)),Cl.ref 0 ((s).ord.length),Cl.ref 1 ((s).ims.length),Cl.ref 2 ((s).ops.length)],[bR 3 1 (is (s).ord),bR 43 28 (ims (s).ims),bR 61 12 (ops (s).ops)],false⟩:=
 zZc (Γ:=yQM) (let g:=Min.min s.rn (9:Nat);let o:=aDS s g;let u:=jA s g;let h:=ims (Scn.ims s);let d:=is (Scn.ord s);let w:=ops (iZ s g);let j:=Scn.c s;let e:=j.d;let f:=j.c;let b:=j.b;let c:=j.a;let x:=oI (oI []);let y:=nB (bO 0::oI x);let z:=cS 0 0 y;let A:=gK s.b s.x s.y s.w s.h s.tw s.th (fO s.on s.oxs (fO s.pn s.pxs (fO s.rn s.rxs [])));let q:=Scn.most s;let F:=Cl.ref 7000 (List.length (Scn.ord s));let l:=Scn.bits s;let r:=Min.min s.pn (4:Nat);let m:=oJ 7 (Scn.gw s) 8 (Scn.gh s) [];let G:=cS l 0 y;vQ (Ann.cut (Inv.mk Unit (λ(z3:Unit)=>True) (λ(y5:Unit)=>tR s [] G []) (λ(Z:Unit)=>(0:Nat))) aL (λ(y4:Unit)=>cT (Ann.cut (Inv.mk Unit (λ(z3:Unit)=>True) (λ(y3:Unit)=>tR s (oJ 5 c 6 b m) G []) (λ(Z:Unit)=>(0:Nat))) aL (λ(y2:Unit)=>cT (Ann.cut (Inv.mk Unit (λ(z3:Unit)=>True) (λ(y1:Unit)=>tR s m (dY l c b f (bO e::cS (Scn.gtw s) (Scn.gth s) (oI x))) []) (λ(Z:Unit)=>(0:Nat))) aL (λ(y0:Unit)=>cT (Ann.cut (Inv.mk Unit (λ(z3:Unit)=>True) (λ(z9:Unit)=>tR s m (cS l c (dY b f e (Scn.gtw s) (bO (Scn.gth s)::F::x))) (jU 7000 3 1 d)) (λ(Z:Unit)=>(0:Nat))) aL (λ(z8:Unit)=>Ann.cut (Inv.mk Unit (λ(z3:Unit)=>True) (λ(z7:Unit)=>tR s m (aHB s c b f e 7000 (Cl.ref 5000 (List.length (Scn.pics s r))::oI [])) (rB 7000 3 1 d 5000 43 28 (aAL s r))) (λ(Z:Unit)=>(0:Nat))) (cT (Ann.loop (Inv.mk Nat (λ(R:Nat)=>vY R s.pn 4) (λ(n:Nat)=>aHC (yL (yK 2 3 q (aAM 4 7 (Scn.gw s) 8 (Scn.gh s) 12 (n:Int) []))) 1 A 2 [] 4 (aHB s c b f e 7000 (Cl.ref 5000 n::oI [])) (rB 7000 3 1 d 5000 43 28 (aAL s n))) (λ(Q:Nat)=>r-Q)) (λ(S:Nat)=>aL))) (λ(z6:Unit)=>Ann.cut (Inv.mk Unit (λ(z3:Unit)=>True) (λ(z5:Unit)=>tR s [] (rC l c b (dY f e (Scn.gtw s) (Scn.gth s) (F::Cl.ref 5000 (List.length (Scn.ims s))::oI []))) (rB 7000 3 1 d 5000 43 28 h)) (λ(Z:Unit)=>(0:Nat))) aL (λ(z4:Unit)=>cT (Ann.cut (Inv.mk Unit (λ(z3:Unit)=>True) (λ(z2:Unit)=>yM (vL 2 2 (pO 4 4 13 (Cl.ref 5002 o) [])) 2 z 4 (aAN s c b f e 7000 5000 5001 u []) (tS 5002 61 12 w 7000 3 1 d (rB 5000 43 28 h 5001 61 12 (ops (jA s g))))) (λ(Z:Unit)=>(0:Nat))) (cT (Ann.loop (Inv.mk Nat (λ(P:Nat)=>vY P s.rn 9) (λ(i:Nat)=>tR s (tN 13 5002 (aDS s i) 14 i []) (aAN s c b f e 7000 5000 5001 (jA s i) []) (tS 5002 61 12 (ops (iZ s i)) 7000 3 1 d (rB 5000 43 28 h 5001 61 12 (ops (jA s i))))) (λ(O:Nat)=>g-O)) (λ(a:Nat)=>let p:=aAN s c b f e 7000 5000 5001 (jA s a) [];let k:=aDS s a;let B:=rwAt s.rxs (a*11);let C:=B.k;let D:=tS 5002 61 12 (ops (iZ s a)) 7000 3 1 d (rB 5000 43 28 h 5001 61 12 (ops (jA s a)));let E:=modS (nAt s.rxs (aT a 11+0)) 8;aHE (dZ (Ann.cut (Inv.mk Unit (λ(z1:Unit)=>¬(modS C 8=0/\0<k)) (λ(z0:Unit)=>tR s (tN 13 5002 k 14 a (oJ 15 E 16 (k:Int) [])) p D) (λ(Z:Unit)=>(0:Nat))) aL (λ(Y:Unit)=>Ann.cut (Inv.mk Bool (λ(M:Bool)=>M=ctxB (iZ s a)) (λ(L:Bool)=>tR s (tN 13 5002 k 14 a (aDO 15 E 17 (DV.bool L) [])) p D) (λ(X:Bool)=>(0:Nat))) aL (λ(W:Bool)=>Ann.cut (Inv.mk Oq (λ(K:Oq)=>K=gOp B (decide (modS C 8<3)) (aFJ (Scn.ims s)) j (ctxB (iZ s a)) q) (λ(J:Oq)=>aHC (yL (yK 2 3 q (pO 4 4 13 (Cl.ref 5002 k) (aHD 14 (a:Int) 18 [])))) 1 A 2 [] 4 p (aAO 5002 61 12 (ops (iZ s a)) 18 (tK J []) (tT 7000 3 1 d 5000 43 28 h 5001 61 12 (ops (jA s a)) []))) (λ(V:Oq)=>(0:Nat))) aL (λ(U:Oq)=>aL)))))))) (λ(T:Unit)=>rF (Ann.loop (Inv.mk Nat (λ(I:Nat)=>vZ I (iZ s g)) (λ(t:Nat)=>let v:=u++aFK t;yM (gC 2 2 4 4 (tN 13 5002 o 19 t [])) 2 z 4 (aAN s c b f e 7000 5000 5001 v []) (tS 5002 61 12 w 7000 3 1 d (rB 5000 43 28 h 5001 61 12 (ops v)))) (λ(H:Nat)=>o-H)) (λ(S:Nat)=>aL))))))))))))))) zQb Tryz.func7 rfl (nL rfl) rfl λhwf hbx=>by
  refine Eq.mpr (by kernel_rfl:_=(let z9:=Scn.ops s;let f:=ims (Scn.ims s);let c:=is (Scn.ord s);let p:=Scn.c s;let T:=p.d;let U:=p.c;let A:=p.b;let B:=p.a;let m:=s.rn;let C:=Min.min m (9:Nat);let F:=jA s C;let G:=aDS s C;let V:=pL 3 0 0 0 0 0 0 0 0 0 false false;let x9:=ops (iZ s C);let w0:=eS x9;let y2:=rG (rG (aM gN True));let b:=rG y2;let w2:=eS G;let W:=iZ s C;let w4:=ops (jA s C);let g:=s.rxs;let j:=s.pxs;let q:=s.pn;let w7:=iS s.b s.x s.y s.w s.h s.tw s.th (DV.sl s.on s.oxs::tU q j m g);let e:=eS w7;let o:=eS (0:Nat);let r:=Scn.most s;let y5:=bZ r;let y6:=Min.min m (9:Nat);let y7:=aFJ (Scn.ims s);let k:=s.rxs;let D:=bZ r;let u0:=[aP r];let y8:=cU p;let y9:=List.length (Scn.ims s);let O:=Scn.most s;let x0:=Min.min q (4:Nat);let z1:=aAL s x0;let u9:=Scn.pics s x0;let P:=List.length u9;let t0:=bP (aW D o);let t1:=aFJ u9;let x:=Scn.gh s;let t:=Scn.gw s;let t2:=zQ3 t x ⟨r,0,0,r,r⟩;let t3:=Im.ds t2;let z2:=aE r;let x1:=bG x;let x2:=bP (aF D o (bG t) x1);let Q:=Scn.gth s;let z4:=Scn.gtw s;let t9:=cntS p z4 Q;let s0:=t9.snd.fst;let s1:=t9.fst;let s2:=aI (s1*s0);let s3:=zJX (ints s.oxs) s2;let s4:=is s3;let s5:=List.length s3;let x3:=Scn.bits s;let s6:=gN/\y2;let z5:=gMax s.b;let s7:=bP (aW (aE z5=z2) o);True/\True/\pR (fC 30 s.b (aP z5)) (fZ (nE z5 255->True/\True/\(∃ q7:Unit,tV s7 e b (bE 16 (Scn.bits s)/\s6))) (gT z5 255->(∃ q6:Unit,tV s7 e b (bE 8 (Scn.bits s)/\s6)))) (∀ q5:Unit,True->aH (iJ s.x 13 13) (aH (iJ s.y 13 13) (True/\True/\eS true/\fZ (iJ s.w 5 5) (True/\True/\True/\iJ s.h 4 4/\dA (∃ q4:Unit,tV (bP (fN O (aF (bE (aX (modS s.x 13) 6) B) (bE (aX (modS s.y 13) 6) A) (bE (tJ s.w 5) t) (bE (tJ s.h 4) x)))) e b (iM x3 0 y2)))/\(∀ q3:Unit,True->aG (True/\True/\True/\aV (aM (vO s.tw t []) (aK (vO s.th x []) (dA (∃ q2:Unit,tV x2 e b (iM x3 B (nC A (bE (aI (B+t)) U) (bE (aI (A+x)) T) (bE (tJ s.tw t) z4) (aM (bE (tJ s.th x) Q) True)))))))/\(∀ q1:Unit,jW (True/\True/\bV (Ans prog 9 (y8::iN z4 Q []) (eJ s1 s0 [aAP p z4 Q])) (True/\True/\True/\lX (AnsO prog 31 (dO s.on s.oxs::qY s2) 3 1 s5 s4) (∃ q0:Unit,True/\x2/\aF e b (iM x3 B (oP A U (bG T) (Scn.gtw s) (cG (bG Q) (mH s5 (Scn.ord s)) True))) (s4=c))/\(∀ r9:Unit,True->(True/\(∃ S:Nat,cB S x0 (bN (mI D (mG o (bG t) x1 S))/\e/\aF b (aAQ s (0=S) True) (eS c) (([]:List DV)=aAL s S)))/\(∀ d:Nat,let t4:=(∃ r8:Unit,aAR x2 e (nM b (aAQ s (d=P) True) c (aAL s d) z1));let z3:=bU (aT d 5);let t5:=cAt j z3;let t6:=lAt j z3;let t7:=zJb (bT j d 5) (dT j d 5) (eH j d 5) (dE j d 5) t6 t5 B A U T r;let t8:=Im.ds t7;vY d q 4->eZ (dP (dX (gY d q) (yJ (nG d 4 true) (True/\True/\eG d q 5 j/\gU (gM j d 5) (kS j (aT d 5) 1) (fY j (aT d 5)) (tQ j d 5) (j[z3]?=nK j z3)/\True/\True/\True/\yN 32 (bT j d 5) (dT j d 5) [DV.int IntKind.i64 (eH j d 5),DV.int IntKind.i64 (dE j d 5),DV.sl t6 t5] (y8::u0) (imR t7)/\aK (zZ2 28 272 d 1 (aAL s d) t8) (iW (∃ E:Nat,tW (vY E q 4) (bW (Min.min q (4:Nat)) E d) (bN (mI D (gW o (bG t) x1 d E))) w7 (nM b (aAQ s (d+1=E) True) c (aAL s d++t8) (aAL s E)))))) (nG d 4 false->t4)) (eX d q (!true) t4))))/\(∀ r6:Unit,True->(True/\tP P ((t1==0)=true->True/\bS (aH (Ans prog 33 [rD (DV.int IntKind.i64 t),rD (DV.int IntKind.i64 x),rA [z2,aE 0,aE 0,z2,z2]] (imR t2)) (kV (zZ2 28 272 P 1 z1 t3) (∃ r5:Unit,aAR t0 e (nM b (aAQ s (P+1=y9) True) c (z1++t3) f))))) (mA t1->(∃ r4:Unit,aAR t0 e (nM b (aAQ s (P=y9) True) c z1 f))))/\(∀ r2:Unit,bL True (True/\(∃ z:Nat,cB z C (rH (bP (mG D o (mJ 0 (iZ s z)) z)) e b (tX s (mJ 0 (jA s z))) (([]:List DV)=ops (iZ s z)) c f (([]:List DV)=ops (jA s z))))/\(∀ a:Nat,let n:=ops (jA s a);let h:=ops (iZ s a);let H:=iZ s a;let w5:=(∃ s9:Unit,True/\bN (pQ (aAT H W))/\b/\tX s (aAT (jA s a) F)/\oK (h=x9) c f (n=w4));let y3:=List.length (jA s a);let y4:=y3+1;let l:=aDS s a;let I:=ctxB H;let w8:=rwAt g (a*11);let w9:=w8.k;let v0:=gOp w8 (decide (modS w9 8<3)) y7 p I r;let Y:=aT a 11;let Z:=nAt g (Y+0);let v1:=decide (modS Z 8<3);let v2:=cI (bU Y);let v3:=aU k v2;let J:=aT a 11;let v4:=aU k (cP J);let v5:=aU k (bU J);let v6:=aU k (mK a 11);let v7:=aU k (cI J);let v8:=aU k (gF a 11);let K:=tX s (eS (List.length (jA s a)));let L:=gA a;let M:=eS l;let u1:=modS Z 8;let z0:=bG u1;let u2:=aY (cV l) 12;let u3:=u2+10;let u4:=bAt h u3;let u5:=u2+11;let u6:=tY (cV l) H;let u7:=¬(modS w9 8=0/\0<l);let u8:=(∃ r1:Unit,u7/\pP (bP (fN O (aF M L z0 (gA l)))) e b K h c f n);vY a m 9->eZ (dP (dX (gY a m) (dX (nG a 9 true) (eG a m 11 g) (cZ (aZ (kS g Y 0)) (iJ Z 8 8) (True/\List.length H<=maxLen/\True/\nN u1 0 (fU (l:Int) 0 (True/\True/\aK (zZ2 12 88 y3 1 n V) (bV (aAS l) (∃ w:Nat,vY w m 9/\bW y6 w a/\rH (bP (gW y5 o (mJ (Int.toNat (cV l)) (iZ s w)) a w)) e b (tX s (mJ y4 (jA s w))) (pN (cV l) 12 h=ops (iZ s w)) c f (n++V=ops (jA s w))))) (aDR l u8)) (mB (tI Z 8) u8)/\(∀ r0:Unit,u7->(True/\True/\True/\dX (mA (l:Int)) u6 (True/\aZ (kG h u3)/\True/\qW u4 (wG u6 (aZ (kG h u5)) (∃ x7:Bool,x7=I/\pP (bP (fN O (aF M L z0 (wD (!(bAt h u5)) x7)))) e b K h c f n))/\nO u4 (∃ x6:Bool,x6=I/\pP (bP (fN O (aF M L z0 (wD false x6)))) e b K h c f n))/\jV (aAG l) (∃ x5:Bool,x5=I/\pP (bP (fN O (aF M L z0 (wD true x5)))) e b K h c f n))/\(∀ z8:Bool,let v9:=Oq.cells (gOp ⟨bT g a 11,dT g a 11,eH g a 11,dE g a 11,kT g a 11,v8,v7,v6,v5,v4,v3⟩ v1 y7 p z8 r);z8=I->(True/\True/\cZ (eG a m 11 g) (gM g a 11/\kS g J 1/\fY g J/\rI (tQ g a 11) (bQ k Y) (bQ k (gF a 11)) (bQ k (cI J)) (bQ k (mK a 11)) (bQ k (bU J)) (bQ k (cP J)) (bQ k v2)) (bV (y9<=maxLen) (kV (bF 15 (iS (bT g a 11) (dT g a 11) (eH g a 11) (dE g a 11) (kT g a 11) v8 v7 (fM v6 v5 v4 v3)) (aB v1::yB y7::y8::aB z8::u0) (rA v9)) (∃ x4:Oq,x4=v0/\bN (mI D (mI M (aW L o)))/\rH e b K (eS h) (v9=Oq.cells x4) c f (eS n)))))/\(∀ z7:Oq,let X:=Oq.cells z7;let w6:=n++X;yJ (z7=v0) (aK (zZ2 12 88 y3 1 n X) (nN z7.kind 2 (bV (zZ2 12 88 l 1 h X) (∃ v:Nat,vY v m 9/\bW y6 v a/\rH (bP (gW y5 o (mJ (l+1) (iZ s v)) a v)) e b (tX s (mJ y4 (jA s v))) (h++X=ops (iZ s v)) c f (w6=ops (jA s v)))) (nA z7.kind 2 (True/\True/\(∃ u:Nat,vY u m 9/\bW y6 u a/\rH (bP (gW y5 o (aAT H (iZ s u)) a u)) e b (tX s (mJ y4 (jA s u))) (h=ops (iZ s u)) c f (w6=ops (jA s u))))))))))))) (nG a 9 false->w5)) (eX a m (!true) w5)))) (∀ s8:Unit,bL True (∃ z6:Nat,let w3:=F++aFK z6;rH (vZ z6 W) (bP (aW w2 (yO z6))) b (tX s (aAT F w3)) w0 c f (w4=ops w3)) (∀ y:Nat,let y0:=F++aFK y;let y1:=ops y0;let w1:=List.length y0;vZ y W->eZ (True/\List.length W<=maxLen/\True/\(gY y G->True/\True/\eV (zZ2 12 88 w1 1 y1 V) (∃ R:Nat,let x8:=F++aFK R;cB R G (rH (bW G R y) (bP (aW w2 (rK y R))) b (tX s (mJ (w1+1) x8)) w0 c f (y1++V=ops x8))))/\eX y G false (True/\oK (aZ (tX s (aAT y0 z9))) c f (y1=ops z9)/\zZu ⟨AV.agg (aAN s B A U T 0 1 2 z9 []),[bR 3 1 c,bR 43 28 f,bR 61 12 (ops z9)],false⟩))))))))))))))))) ?_;delta eS aY aZ cZ aE aI bO yB aF aP aG aH aK aX jE eV gU dX iJ lX mA tI tJ nA cS dY gK iQ eC aM bG nC iS oK oT fM bP bN cG bZ pL fN dA mB qW vO aW nH nG fU dO aT gO gW bL dP gF mG mH pN iW nE aAG qY gT eZ bF kS aU fY bQ bT eG bV eX dT dE eH dC gM tQ kT nM tP yJ aDR zP eJ vZ iZ jA aHB vY aDS aAL aFJ aFK aAN aB bE pF aV cI bU sM lB cP bS mJ oP iM bW nK cB iN fZ mK tU gA cU cV tY rG rH gN kG gY fC wD pR aAT jW jV nN nO kV rI rK aAS mI aAQ pP tV wG tW tX pQ yN yO aAP aAR;simp only [sS,zQh,zUb];obtain ⟨⟨ho1,ho2⟩,⟨hp1,hp2⟩,⟨hr1,hr2⟩⟩:=hs;obtain ⟨f1,f2,f3,f4,f5,f6⟩:=s.facts;have CF:=s.c_facts;have w1:wrap .i64 (modS s.x 13-6)=s.c.a:=wQb _ ⟨by omega,by omega⟩;have w2:wrap .i64 (modS s.y 13-6)=s.c.b:=wQb _ ⟨by omega,by omega⟩;have g1:s.gw=1+modS s.w 5:=rfl;have g2:s.gh=1+modS s.h 4:=rfl;have g3:s.gtw=1+modS s.tw s.gw:=rfl;have g4:s.gth=1+modS s.th s.gh:=rfl;have w3:wrap .i64 (1+modS s.w 5)=s.gw:=wQb _ ⟨by omega,by omega⟩;have w4:wrap .i64 (1+modS s.h 4)=s.gh:=wQb _ ⟨by omega,by omega⟩;have w5:wrap .i64 (s.c.a+s.gw)=s.c.c:=by rw [wQb _ ⟨by omega,by omega⟩]; omega
  have w6:wrap .i64 (s.c.b+s.gh)=s.c.d:=by rw [wQb _ ⟨by omega,by omega⟩]; omega
  have w7:wrap .i64 (1+modS s.tw s.gw)=s.gtw:=wQb _ ⟨by omega,by omega⟩;have w8:wrap .i64 (1+modS s.th s.gh)=s.gth:=wQb _ ⟨by omega,by omega⟩;have hm:=s.tiles_in;have hM:∀ n:Nat,n<=100->n<=maxLen:=λn h=>by unfold maxLen; omega
  have li:=s.ims_len;have lk:=λk=>s.run_len k;have pq:1<=s.c.c-s.c.a/\s.c.c-s.c.a<=100/\1<=s.c.d-s.c.b/\s.c.d-s.c.b<=100:=by omega
  have BI:=s.bits_of;refine ⟨⟨λh=>⟨(),rfl,BI.1 h⟩,λh=>⟨(),rfl,BI.2 h⟩⟩,⟨(),w1,w2,w3,w4⟩,⟨(),w5,w6,w7,w8⟩,zW9 _ _ _ _ _ _,⟨zUM _ _ _ ⟨ho1,ho2⟩ hm.1,(),rfl,rfl⟩,⟨⟨0,Nat.zero_le _,rfl,rfl,rfl⟩,λp hp=>⟨λh1=>⟨λh2=>?_,λh2=>?_⟩,λh1=>?_⟩⟩,?_⟩
  ·obtain ⟨q0,q1,q2,q3,q4,q5⟩:=hp2 p (by omega);refine ⟨⟨by omega,by omega,by omega⟩,⟨q0,q1,q2,q3,q4⟩,jY8 _ _ _ _ _ _ _ _ _ _ _ q5 pq,⟨by rw [zY2,s.pics_len],by rw [Im.ds_len],hM _ (by omega),by omega⟩,p+1,by omega,by omega,zZ3 (by omega),rfl,?_⟩;rw [s.pics_succ,jVG,jHS]; rfl
  ·have:p=min s.pn 4:=by omega
   subst this;exact ⟨(),(s.pics_len _).symm,rfl⟩
  ·have:p=min s.pn 4:=by omega
   subst this;exact ⟨(),(s.pics_len _).symm,rfl⟩
  have lp:=s.pics_len (min s.pn 4);refine ⟨⟨hM _ (by omega),λh=>?_,λh=>?_⟩,⟨⟨0,Nat.zero_le _,⟨rfl,rfl⟩,rfl,rfl,rfl⟩,λk hk=>⟨λh1=>⟨λh2=>?_,λh2=>?_⟩,λh1=>?_⟩⟩,?_⟩
  ·have h0:min s.pn 4=0:=by rw [lp] at h; simpa using h
   have e1:s.ims=[s.solo]:=by unfold Scn.ims; rw [if_pos h0]
   have e2:s.pics (min s.pn 4)=[]:=by rw [h0]; rfl
   rw [e1,e2];exact ⟨zVi s.gw s.gh ⟨_,_,_,_,_⟩,⟨by simp [ims],by simp [Im.ds],hM _ (by simp),by simp⟩,(),rfl,by simp [ims]; rfl⟩
  ·have h0:¬ min s.pn 4=0:=by rw [lp] at h; simpa using h
   have e1:s.ims=s.pics (min s.pn 4):=by unfold Scn.ims; rw [if_neg h0]
   rw [e1];exact ⟨(),rfl,rfl⟩
  ·have lk1:=(lk k).1;have lk2:=(lk k).2;have ro:=λi (h:i<11)=>hr2 (k*11+i) (by omega);have wl:0<(s.run k).2.length->wrap .i64 (((s.run k).2.length:Int)-1)=(((s.run k).2.length-1:Nat):Int):=λh=>by rw [wQb _ ⟨by omega,by omega⟩]; omega
   have ws:wrap .i64 ((k:Int)+1)=((k+1:Nat):Int):=zZ3 (by omega);refine ⟨⟨by omega,by omega,by omega⟩,ro 0 (by omega),hM _ (by omega),⟨λa1=>⟨λa2=>?_,λa2=>⟨(),λh=>a2 (by omega)⟩⟩,λa1=>⟨(),λh=>?_⟩⟩,λhn=>⟨⟨λa1=>?_,λa1=>?_⟩,λfr hfr=>⟨?_,λo ho=>?_⟩⟩⟩
   ·have a3:0<(s.run k).2.length:=by omega
    have a4:modS (nAt s.rxs (k*11)) 8=0:=by simpa using a1
    have rp:=Scn.run_pop (s:=s) (k:=k) ⟨a4,a3⟩;rw [wl a3];refine ⟨⟨by rw [zQC,lk1],rfl,hM _ (by omega),by omega⟩,⟨by omega,by omega⟩,k+1,by omega,by omega,⟨?_,ws⟩,?_,?_,?_⟩
    ·rw [rp]; simp
    ·rw [rp]; simp
    ·rw [rp,wQl,jZJ,wZT]
    ·rw [rp,zY0,zHa]; rfl
   ·have a4:¬ modS (nAt s.rxs (k*11)) 8=0:=by simpa using a1
    exact a4 h.1
   ·have a3:0<(s.run k).2.length:=by
     have:¬ (s.run k).2.length=0:=by simpa using a1
     omega
    have hl:(s.run k).2.length-1<(s.run k).2.length:=by omega
    have g10:(ops (s.run k).2)[((s.run k).2.length-1)*12+10]?=some (.bool (s.run k).2[(s.run k).2.length-1].iso):=zHb hl 10 (by omega);have g11:(ops (s.run k).2)[((s.run k).2.length-1)*12+11]?=some (.bool (s.run k).2[(s.run k).2.length-1].kno):=zHb hl 11 (by omega);have b10:bAt (ops (s.run k).2) (((s.run k).2.length-1)*12+10)=(s.run k).2[(s.run k).2.length-1].iso:=by simp only [bAt,g10]
    have b11:bAt (ops (s.run k).2) (((s.run k).2.length-1)*12+11)=(s.run k).2[(s.run k).2.length-1].kno:=by simp only [bAt,g11]
    rw [wl a3,wQl,b10,b11,jUw a3];refine ⟨⟨by omega,by omega⟩,g10,λh=>⟨⟨by omega,by omega⟩,g11,_,rfl,?_⟩,λh=>⟨_,rfl,?_⟩⟩<;>simp [h]
   ·have a3:(s.run k).2.length=0:=by simpa using a1
    rw [List.length_eq_zero_iff.1 a3];exact ⟨_,rfl,rfl⟩
   ·subst hfr;refine ⟨⟨by omega,by omega,by omega⟩,⟨ro 0 (by omega),ro 1 (by omega),ro 2 (by omega),ro 3 (by omega),ro 4 (by omega),ro 5 (by omega),ro 6 (by omega),ro 7 (by omega),ro 8 (by omega),ro 9 (by omega),ro 10 (by omega)⟩,hM _ (by omega),jVa (rwAt s.rxs (k*11)) _ _ _ _ _ ⟨⟨by omega,by omega⟩,by omega,by omega⟩ ⟨by omega,by omega⟩,_,rfl,rfl⟩
   ·obtain ⟨r1,r2⟩:=Scn.run_op (s:=s) (k:=k) hn ho;clear ho;refine ⟨⟨by rw [zQC,lk1],rfl,hM _ (by omega),by omega⟩,λa1=>⟨⟨by rw [zQC],rfl,hM _ (by omega),by omega⟩,k+1,by omega,by omega,⟨?_,ws⟩,?_,?_,?_⟩,λa1=>⟨k+1,by omega,by omega,⟨?_,ws⟩,?_,?_,?_⟩⟩
    ·rw [r1 (by simpa using a1)]; simp
    ·rw [r1 (by simpa using a1)]; simp
    ·rw [r1 (by simpa using a1),zY0,zHa]
    ·rw [r1 (by simpa using a1),zY0,zHa]
    ·rw [r2 (by simpa using a1)]
    ·rw [r2 (by simpa using a1)]; simp
    ·rw [r2 (by simpa using a1)]
    ·rw [r2 (by simpa using a1),zY0,zHa]
  ·have:k=min s.rn 9:=by omega
   subst this;exact ⟨(),rfl,rfl,rfl,rfl⟩
  ·have:k=min s.rn 9:=by omega
   subst this;exact ⟨(),rfl,rfl,rfl,rfl⟩
  ·have e:s.ops=(s.run (min s.rn 9)).1++List.replicate (s.run (min s.rn 9)).2.length popO:=rfl;have lr:=lk (min s.rn 9);rw [e];generalize s.run (min s.rn 9)=z at *;refine ⟨⟨0,Nat.zero_le _,rfl,by simp,by simp⟩,λj hj=>⟨hM _ (by omega),λh=>?_,λh=>?_⟩⟩
   ·have e2:z.1++List.replicate (j+1) popO=(z.1++List.replicate j popO)++[popO]:=by rw [List.append_assoc,List.replicate_succ']
    refine ⟨⟨by rw [zQC],rfl,hM _ (by simp; omega),by simp; omega⟩,j+1,by omega,by omega,zZ3 (by omega),?_,?_⟩
    ·rw [e2]; simp; omega
    ·rw [e2,zY0 _ [popO],zHa]; rfl
   ·have:j=z.2.length:=by omega
    subst this;exact ⟨⟨rfl,rfl⟩,trivial⟩
structure Scr where
  bits:Int
  c:Rc
  tw:Int
  th:Int
  ord:List Int
  ims:List Im
  ops:List Oq
def imsE (most:Int):List Im->Int->Int × Int
 | [],_=>(0,0)
 | m::r,i=>if m.valid most=0 then imsE most r (i+1) else (m.valid most,i)
def Scr.frame (s:Scr):Int:=zYc s.bits s.c s.tw s.th s.ord s.ims.length s.ops.length
def Scr.run (s:Scr):Int × Int:=opsE s.bits s.c s.tw s.th s.ord s.ims.length s.ops
def zJv (s:Scr):Int × Int:=
 if s.frame=0 then (if (imsE (zQo s.bits) s.ims 0).1=0 then s.run else imsE (zQo s.bits) s.ims 0) else (s.frame,0)
def yQK:Gam:=yQM.add []
def sT (a:Nat) (b:DV) (c:Nat) (e:DV) (f:List (Nat × AV)):List (Nat × AV):=zL a b c (Cl.d e) f
def aGU (a:Nat) (b:Int) (c:Nat) (d:DV) (e:List (Nat × AV)):List (Nat × AV):=sT a (aE b) c d e
def eU (a:Nat):Nat:=bU (bU a)
def kJ (a:Nat):Nat:=bU (eU a)
def aGV (a:List DV) (b c d:Nat):Pl:=⟨aU a b,aU a (cP c),aU a d,lAt a (fX c),cAt a (fX c)⟩
theorem zWp (bits cx0 cy0 cx1 cy1 tw th:Int) (on:Nat) (oxs:List DV) (mn:Nat) (mxs:List DV) (pn:Nat) (pxs:List DV) (hP:pxs=ops (zQl pxs)/\pn=(zQl pxs).length) (hO:oxs=is (ints oxs)/\on=oxs.length) (hM:jG0 mn mxs):Ans prog 34 [rA [dJ bits,dJ cx0,dJ cy0,dJ cx1,dJ cy1,dJ tw,dJ th,dS on oxs,dS mn mxs,dS pn pxs]] (rT [rJ (((zJv ⟨bits,⟨cx0,cy0,cx1,cy1⟩,tw,th,ints oxs,zQI mxs,zQl pxs⟩).1)),rJ (((zJv ⟨bits,⟨cx0,cy0,cx1,cy1⟩,tw,th,ints oxs,zQI mxs,zQl pxs⟩).2))]):=
 zQa (Γ:=yQK) (oU (Ann.loop (Inv.mk Nat (λ(a:Nat)=>cB a mn (imsE (zQo bits) (List.drop a (zQI mxs)) (a:Int)=imsE (zQo bits) (zQI mxs) 0)) (λ(c:Nat)=>uQ (yL (aGU 5 (zQo bits) 22 (DV.sl mn mxs) (lO 23 mn 24 c))) 1 (gK bits cx0 cy0 cx1 cy1 tw th (fO on oxs (fO mn mxs (fO pn pxs []))))) (λ(b:Nat)=>mn-b)) (λ(d:Nat)=>aL))) zQb Tryz.func34 rfl (nL rfl) λhwf=>by
  refine Eq.mpr (by kernel_rfl:_=(let t:=(⟨cx0,cy0,cx1,cy1⟩:Rc);let u:=vX (zJv ⟨bits,t,tw,th,ints oxs,zQI mxs,zQl pxs⟩);let D:=vX (opsE bits t tw th (ints oxs) mn (zQl pxs));let v:=iS bits cx0 cy0 cx1 cy1 tw th (DV.sl on oxs::tU mn mxs pn pxs);let E:=eS v;let w:=imsE (zQo bits) (zQI mxs) 0;let C:=zYc bits t tw th (ints oxs) mn pn;vW (bF 75 v [] (rD (DV.int IntKind.i64 C))) (mO (fI C) (True/\True/\eJ C 0 []=u) (dN (fC 47 bits (tZ bits)) (True/\True/\True/\(∃ j:Nat,bK (cB j mn (imsE (zQo bits) (List.drop j (zQI mxs)) (j:Int)=w)) (bN (sP (bZ (zQo bits)) mn mxs j)) E)/\(∀ a:Nat,let h:=aT a 28;let b:=bU h;let c:=eU b;let x:=gB c;let e:=kJ b;let y:=eU c;let k:=aT a 28;let d:=eU k;let z:=gB d;let A:=gB b;let B:=gB k;let f:=fX k;let l:=cI (bU k);let m:=cP h;let n:=cI h;let F:=aU mxs n;let G:=bAt mxs n;let o:=Im.valid (jB (bT mxs a 28) (dT mxs a 28) G (dE mxs a 28) (kT mxs a 28) (aU mxs (gF a 28)) F (aU mxs (mK a 28)) ⟨aU mxs b,aU mxs m,aU mxs l,lAt mxs f,cAt mxs f⟩ (aGV mxs d b B) (aGV mxs c d A) (aGV mxs e c z) (aGV mxs y e x)) (zQo bits);let p:=fX e;let H:=cP e;let q:=fX c;let I:=cP c;let r:=fX d;let J:=cP d;let s:=fX b;let K:=cP b;bL (cB a mn (imsE (zQo bits) (List.drop a (zQI mxs)) (a:Int)=w)) (eX a mn true (cG (eG a mn 28 mxs) (cL (gM mxs a 28) (kS mxs h 1) (kG mxs n) (bD mxs (mK a 28) (dE mxs a 28)) (mR mxs h) (bD mxs m (aU mxs (gF a 28))) (bD mxs l (aU mxs n)) (bD mxs (cI (bU k)+1) (aU mxs (mK a 28))) (cL (bQ mxs b) (bQ mxs m) (bQ mxs l) (mxs[f]?=nK mxs f) (bQ mxs d) (bQ mxs K) (bQ mxs B) (mxs[s]?=nK mxs s) (cL (bQ mxs c) (bQ mxs J) (bQ mxs A) (mxs[r]?=nK mxs r) (bQ mxs e) (bQ mxs I) (bQ mxs z) (mxs[q]?=nK mxs q) (aF (bQ mxs y) (bQ mxs H) (bQ mxs x) (mxs[p]?=nK mxs p))))) (True/\True/\True/\Ans prog 76 [oO (bT mxs a 28) (dT mxs a 28) G (kC (dE mxs a 28) (kT mxs a 28) (aU mxs (gF a 28)) F (aU mxs (mK a 28)) (aU mxs b) (aU mxs m) (aU mxs l) (lAt mxs f) (cAt mxs f) (cO (aU mxs d) (aU mxs K) (aU mxs B) (lAt mxs s) (cAt mxs s) (aU mxs c) (aU mxs J) (aU mxs A) (lAt mxs r) (cAt mxs r) (cO (aU mxs e) (aU mxs I) (aU mxs z) (lAt mxs q) (cAt mxs q) (aU mxs y) (aU mxs H) (aU mxs x) (lAt mxs p) (cAt mxs p) []))),aP (zQo bits)] (rD (DV.int IntKind.i64 o))/\gP (fI o=true) (eJ o (a:Int) []=u) (hZ o->True/\True/\(∃ g:Nat,aF (cB g mn (imsE (zQo bits) (List.drop g (zQI mxs)) (g:Int)=w)) (bW mn g a) (bN (iG (bZ (zQo bits)) mn mxs a g)) E))))) (bL (pV a mn) (bF 46 v [] D) (bX D u)))))))) ?_;delta eS aY aE aI aF aP aK bD iQ iS bN cG bZ dN bX aW nH nG bK aT gW bL gD gF mG cL bF kS aU fY bQ bT eG eX dT dE gM kT vW zP eJ vX aB cI bU cP bW nK cB mK tU gA kG fC mO gP tZ oS cO jB kC oO pV fI hZ fX mR gB eU kJ iG sP aGV;simp only [sS,zZP,zYq];obtain ⟨ml,hMu,rfl,rfl⟩:=hM.of;have hfr:=zJl bits cx0 cy0 cx1 cy1 tw th on oxs ml.length (ims ml) pn pxs hO;have hop:=zKA bits cx0 cy0 cx1 cy1 tw th on oxs ml.length (ims ml) pn pxs hP hO;obtain ⟨hP,rfl⟩:=hP;simp only [zQ5];generalize zQl pxs=ps at *;subst hP;simp only [RV.wfs,RV.wf,DV.wf,DV.wfs,maxLen] at hwf;have hml:ml.length<=9223372036854775807:=by omega
  have hC:zJv ⟨bits,⟨cx0,cy0,cx1,cy1⟩,tw,th,ints oxs,ml,ps⟩=if zYc bits ⟨cx0,cy0,cx1,cy1⟩ tw th (ints oxs) ml.length ps.length=0 then (if (imsE (zQo bits) ml 0).1=0 then opsE bits ⟨cx0,cy0,cx1,cy1⟩ tw th (ints oxs) ml.length ps else imsE (zQo bits) ml 0) else (zYc bits ⟨cx0,cy0,cx1,cy1⟩ tw th (ints oxs) ml.length ps.length,0):=rfl
  rw [hC];clear hC hwf;generalize zYc bits ⟨cx0,cy0,cx1,cy1⟩ tw th (ints oxs) ml.length ps.length=FE at *;generalize opsE bits ⟨cx0,cy0,cx1,cy1⟩ tw th (ints oxs) ml.length ps=OE at *;generalize zQo bits=most at *;refine ⟨hfr,λhne=>?_,λhe=>⟨⟨0,⟨Nat.zero_le _,by simp⟩,rfl⟩,λk hk=>⟨λhlt=>?_,λhge=>?_⟩⟩⟩
  ·have:FE≠0:=by simpa using hne
   simp [this]
  ·obtain ⟨k1,k2⟩:=hk;have hk:k<ml.length:=by omega
   have q1:=zHq hk;have q2:=zHr hk;have hd:ml.drop k=ml[k]::ml.drop (k+1):=wZS hk;have hF:FE=0:=by simpa using he
   have vI:=jQk ml[k] most (hMu _ (List.getElem_mem hk));rw [hd] at k2;simp only [imsE] at k2;have w1:wrap .i64 ((k:Int)+1)=((k+1:Nat):Int):=by rw [wQ0]; omega
   simp only [q2,hF,if_true];refine ⟨⟨by omega,by omega,by rw [zY2]; omega⟩,q1,vI,λhne=>?_,λh0=>?_⟩
   ·have h0:ml[k].valid most≠0:=by simpa using hne
    rw [if_neg h0] at k2;rw [<- k2,if_neg h0];exact ⟨rfl,rfl⟩
   ·have h0:ml[k].valid most=0:=by simpa using h0
    rw [if_pos h0] at k2;exact ⟨k+1,⟨by omega,by rw [<- k2]; rfl⟩,by omega,w1⟩
  ·obtain ⟨k1,k2⟩:=hk;have hk:k=ml.length:=by omega
   subst hk;rw [wYj] at k2;simp only [imsE] at k2;have hF:FE=0:=by simpa using he
   simp only [hF,if_true,<- k2];exact ⟨hop,trivial,trivial⟩
def scrR (s:Scr):RV:=RV.agg [DV.int .i64 s.bits,DV.int .i64 s.c.a,DV.int .i64 s.c.b,DV.int .i64 s.c.c,DV.int .i64 s.c.d,DV.int .i64 s.tw,DV.int .i64 s.th,DV.sl s.ord.length (is s.ord),DV.sl s.ims.length (ims s.ims),DV.sl s.ops.length (ops s.ops)]
def eR (p:Int × Int):RV:=RV.tup [RV.d (DV.int .i64 p.1),RV.d (DV.int .i64 p.2)]
theorem zJy (s:Scr):(⟨s.bits,⟨s.c.a,s.c.b,s.c.c,s.c.d⟩,s.tw,s.th,ints (is s.ord),zQI (ims s.ims),zQl (ops s.ops)⟩:Scr)=s:=by
 rw [zZF,zQ5,zQw]
theorem jHd {n:Nat} {l:List Int} (h:n=l.length):is l=is (ints (is l))/\n=(is l).length:=⟨by rw [zZF],by rw [zQz]; exact h⟩
theorem jUV (s:Scr):opsE s.bits ⟨s.c.a,s.c.b,s.c.c,s.c.d⟩ s.tw s.th (ints (is s.ord)) s.ims.length (zQl (ops s.ops))=s.run:=by
 rw [zZF,zQw]; rfl
theorem zWo (s:Scr) (h:∀ m∈s.ims,m.isU):Ans prog 34 [scrR s] (eR (zJv s)):=by
 have:=zWp s.bits s.c.a s.c.b s.c.c s.c.d s.tw s.th s.ord.length (is s.ord) s.ims.length (ims s.ims) s.ops.length (ops s.ops) (jYk rfl) (jHd rfl) (jW5 rfl h);rw [zJy] at this;exact this
theorem zKz (s:Scr):Ans prog 46 [scrR s] (eR s.run):=by
 have:=zKA s.bits s.c.a s.c.b s.c.c s.c.d s.tw s.th s.ord.length (is s.ord) s.ims.length (ims s.ims) s.ops.length (ops s.ops) (jYk rfl) (jHd rfl);rw [jUV] at this;exact this
end
theorem jUk {bits:Int} {c:Rc} {tw th:Int} {l:List Int} {mn pn:Nat} (hb:zVf bits=true) (he:c.empty=false) (ha:c.area<=16777216) (h1:zXr c.a=true) (h2:zXr c.b=true)
  (h3:(cntS c tw th).2.2=true) (h4:zZQ l (wrap .i64 ((cntS c tw th).1*(cntS c tw th).2.1))=true) (h5:mn<=64) (h6:pn<=4096):zYc bits c tw th l mn pn=0:=by
 unfold zYc;rw [if_neg (by rw [hb]; simp),if_neg (by rw [he,h1,h2]; simp; omega),if_neg (by rw [h3]; simp),if_neg (by rw [h4]; simp),if_neg (by omega)]
theorem zWO (v:Int):zXr v=true ↔ -1048576<=v/\v<=1048576:=by simp [zXr]
theorem Im.list_so {m:Im} (hs:m.so=true) (n:Nat):m.list n=List.replicate n m.c:=by
 unfold Im.list;refine wQ1 (by simp) λi h1 h2=>?_;simp [Im.nth,Im.px,hs]
theorem Im.count_pos {m:Im} (hf:m.formed=true):0<m.w.toNat*m.h.toNat:=by
 obtain ⟨f1,f2,f3,f4,f5⟩:=zXI (Im.formed_of hf).1;exact Nat.mul_pos (by omega) (by omega)
theorem Im.pixels_so {m:Im} (hf:m.formed=true) (hs:m.so=true):m.pixels=List.replicate (m.w.toNat*m.h.toNat) m.c:=by
 rw [Im.pixels_of hf,Im.list_so hs]
abbrev wYk:=@List.mem_replicate
theorem Im.valid_iff {m:Im} (hf:m.formed=true) (most:Int):m.valid most=0↔∀ p∈m.pixels,p.ok most=true:=by
 obtain ⟨h1,h2⟩:=Im.formed_of hf;unfold Im.valid;rw [if_neg (by simp [h1]),if_neg (by simp [h2])]
 cases hs:m.so with
 | true=>
  rw [if_pos rfl,Im.pixels_so hf hs];have:=Im.count_pos hf;constructor
  ·intro h p hp;obtain ⟨_,rfl⟩:=wYk.1 hp;split at h
   ·assumption
   ·cases h
  ·intro h;rw [if_pos (h m.c (wYk.2 ⟨by omega,rfl⟩))]
 | false=>
  rw [if_neg (by simp),Im.pixels_of hf];unfold Im.okTo Im.count Im.list;constructor
  ·intro h p hp;split at h
   ·rename_i ha;obtain ⟨k,hk,rfl⟩:=wQv.1 hp;exact List.all_eq_true.1 ha k hk
   ·cases h
  ·intro h;rw [if_pos (List.all_eq_true.2 λk hk=>h _ (wQv.2 ⟨k,hk,rfl⟩))]
abbrev wQ8:=@IntWalk.u16_in
theorem zYn (n:Int) {most:Int} (h0:0<=most) (h1:most<=65535):0<=zQQ n most/\zQQ n most<=most:=by
 unfold zQQ;rw [wQb most ⟨by omega,by omega⟩];have a2:=@zZa (wrap .i64 (Int.tdiv n 8)) 2 (by omega) (by omega);have a4:=@zZa (wrap .i64 (Int.tdiv n 8)) 4 (by omega) (by omega);split
 ·omega
 ·split
  ·omega
  ·split
   ·rw [wQb (most+_) ⟨by omega,by omega⟩];have e:Int.tdiv (most+modS (wrap .i64 (Int.tdiv n 8)) 2) 2=(most+modS (wrap .i64 (Int.tdiv n 8)) 2) / 2:=wQS (by omega);rw [e,wQb _ ⟨by omega,by omega⟩,wQ8 _ ⟨by omega,by omega⟩];omega
   ·split
    ·rw [wQ8 _ ⟨by omega,by omega⟩];omega
    ·rw [wQb (most+1) ⟨by omega,by omega⟩];have a:=@zZa (wrap .i64 (Int.tdiv n 8)) (most+1) (by omega) (by omega);rw [wQ8 _ ⟨by omega,by omega⟩];omega
theorem jUj (n0 n1 n2 n3 n4:Int) {most:Int} (h0:0<=most) (h1:most<=65535):(zYM n0 n1 n2 n3 n4 most).ok most=true/\0<=(zYM n0 n1 n2 n3 n4 most).a/\0<=(zYM n0 n1 n2 n3 n4 most).b/\0<=(zYM n0 n1 n2 n3 n4 most).c/\0<=(zYM n0 n1 n2 n3 n4 most).al:=by
 have hf:=zYn n4 h0 h1;have key:∀ a f:Int,0<=a->a<=f->f<=most->Px.ok ⟨zQQ n0 a,zQQ n1 a,zQQ n2 a,a,f⟩ most=true/\0<=zQQ n0 a/\0<=zQQ n1 a/\0<=zQQ n2 a/\0<=a:=λa f k0 k1 k2=>by
  have q0:=zYn n0 k0 (by omega);have q1:=zYn n1 k0 (by omega);have q2:=zYn n2 k0 (by omega);simp [Px.ok];omega
 unfold zYM;simp only;split
 ·have ha:=zYn (wrap .i64 (Int.tdiv n3 3)) hf.1 (by omega);exact key _ _ ha.1 ha.2 hf.2
 ·exact key _ _ hf.1 (Int.le_refl _) hf.2
def Px.fine (p:Px) (most:Int):Prop:=p.ok most=true/\0<=p.a/\0<=p.b/\0<=p.c/\0<=p.al
theorem jKW (mood:Int) (L:Nat) (xs:List DV) {most:Int} (h0:0<=most) (h1:most<=65535) (k:Nat):(gPx mood L xs most k).fine most:=by
 have hz:Px.zero.fine most:=⟨by simp [Px.ok,Px.zero,h0],by decide,by decide,by decide,by decide⟩
 have hp:∀ k,(gPx1 L xs most k).fine most:=λk=>jUj _ _ _ _ _ h0 h1;unfold gPx;split
 ·exact hz
 ·split
  ·obtain ⟨a,b⟩:=hp k;refine ⟨?_,b.1,b.2.1,b.2.2.1,h0⟩;simp [Px.ok] at a |-;omega
  ·split
   ·exact hp 0
   ·exact hp k
theorem zHC (pw ph so mood:Int) (L:Nat) (xs:List DV) (x0 y0 x1 y1:Int) {most:Int} (h0:0<=most) (h1:most<=65535) (hc:1<=x1-x0/\x1-x0<=100/\1<=y1-y0/\y1-y0<=100):∀ p∈(zJb pw ph so mood L xs x0 y0 x1 y1 most).pixels,p.fine most:=by
 have hf:=(zUW pw ph so mood L xs x0 y0 x1 y1 most hc).1;intro p hp;rw [zWW pw ph so mood L xs x0 y0 x1 y1 most _ _ rfl rfl] at hf hp;split at hf
 ·rename_i hs;rw [if_pos hs,Im.pixels_so hf rfl] at hp;obtain ⟨_,rfl⟩:=wYk.1 hp;exact jKW _ _ _ h0 h1 _
 ·rename_i hs;rw [if_neg hs] at hp
  cases hk:ofOk (zYV pw 5 x0 x1 pw) (zYV ph 4 y0 y1 pw) (zQm mood L xs most (wrap .i64 (zYV pw 5 x0 x1 pw*zYV ph 4 y0 y1 pw)).toNat).length with
  | true=>
   rw [(jJR hk).2] at hp;unfold zQm at hp;obtain ⟨k,_,rfl⟩:=wQv.1 hp;exact jKW _ _ _ h0 h1 _
  | false=>
   rw [zHt hk] at hf;exact absurd hf (by decide)
end Go.Proofs.YtbnmadpcdlnleaaGreatDoor
