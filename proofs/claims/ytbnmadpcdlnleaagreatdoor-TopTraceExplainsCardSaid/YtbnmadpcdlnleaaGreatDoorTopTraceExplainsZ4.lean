/-
  Part 4 of what TopTraceExplains rests on.
-/
import Derived.Test.YtbnmadpcdlnleaaGreatDoorTopTraceExplainsZ3
import Derived.Lib.Mul64
import Derived.Shelf.Spec.BitsCarry
namespace Go.Proofs.YtbnmadpcdlnleaaGreatDoor
open Go.IntKind (wrap)
open Go.RowKit
set_option linter.unusedVariables false
set_option linter.unusedSimpArgs false
set_option maxRecDepth 20000
inductive Fo where
  | nil
  | draw (o:Oq) (r:Fo)
  | grp (o:Oq) (k r:Fo)
def Fo.flat:Fo->List Oq
 | .nil=>[]
 | .draw o r=>o::r.flat
 | .grp o k r=>o::(k.flat++popO::r.flat)
def Fo.ok:Fo->Prop
 | .nil=>True
 | .draw o r=>o.kind=1/\r.ok
 | .grp o k r=>o.kind=2/\k.ok/\r.ok
def Fo.size:Fo->Nat
 | .nil=>0
 | .draw _ r=>r.size+1
 | .grp _ k r=>k.size+r.size+2
theorem Fo.flat_len:∀ f:Fo,f.flat.length=f.size
 | .nil=>rfl
 | .draw o r=>by simp [Fo.flat,Fo.size,r.flat_len]
 | .grp o k r=>by simp [Fo.flat,Fo.size,k.flat_len,r.flat_len]; omega
def unfl:Fo->List Fo->List Oq
 | f,[]=>f.flat
 | f,g::fs=>f.flat++popO::unfl g fs
theorem jWR (o:Oq) (f:Fo) (fs:List Fo):unfl (.draw o f) fs=o::unfl f fs:=by
 cases fs<;>simp [unfl,Fo.flat]
theorem jGx (o:Oq) (f g:Fo) (fs:List Fo):unfl (.grp o f g) fs=o::(f.flat++popO::unfl g fs):=by
 cases fs<;>simp [unfl,Fo.flat]
variable {mn:Nat} {o:Oq} {st:List Oq}
theorem zYe {bits:Int} (h:errO bits mn o st=0):o.kind=1\/o.kind=2\/(o=popO/\st≠[]):=by
 unfold errO at h;split at h
 ·cases h
 ·rename_i h1;have h1:=wXc.1 h1;split at h
  ·cases h
  ·rename_i h2;split at h
   ·rename_i h3;split at h
    ·cases h
    ·rename_i h4;refine .inr (.inr ⟨?_,h4⟩);have h2:o.fields=true:=by simpa using h2
     unfold Oq.fields at h2;rw [if_pos h3] at h2;simpa using h2
   ·rcases h1 with h1 | h1 | h1
    ·exact .inl h1
    ·exact .inr (.inl h1)
    ·exact absurd h1 (by assumption)
abbrev wZV:=@List.length_dropLast
theorem yZE {bits:Int} {mn:Nat}:∀ (l st:List Oq),okO bits mn l st=some []->∃ f fs,fs.length=st.length/\l=unfl f fs/\f.ok/\∀ g∈fs,g.ok
 | [],st,h=>by
  simp only [okO,wQa] at h;subst h;exact ⟨.nil,[],rfl,rfl,trivial,by simp⟩
 | o::l,st,h=>by
  simp only [okO] at h;split at h
  ·rename_i he;obtain ⟨f,fs,h1,h2,h3,h4⟩:=yZE l _ h
   rcases zYe he with hk | hk | ⟨rfl,hne⟩
   ·have e:zXR o st=st:=by unfold zXR; rw [if_neg (by omega),if_neg (by omega)]
    rw [e] at h1;exact ⟨.draw o f,fs,h1,by rw [h2,jWR],⟨hk,h3⟩,h4⟩
   ·have e:zXR o st=st++[o]:=by unfold zXR; rw [if_pos hk]
    rw [e] at h1
    cases fs with
    | nil=>simp at h1
    | cons g fs=>
     refine ⟨.grp o f g,fs,by simpa using h1,by rw [h2,jGx]; rfl,⟨hk,h3,h4 g List.mem_cons_self⟩,λq hq=>h4 q (List.mem_cons_of_mem _ hq)⟩
   ·have e:zXR popO st=st.dropLast:=by unfold zXR; rw [if_neg (by decide),if_pos (by decide)]
    rw [e,wZV] at h1;have:=wZJ.2 hne;refine ⟨.nil,f::fs,by simp; omega,by rw [h2]; rfl,trivial,λq hq=>?_⟩
    rcases wQB.1 hq with rfl | hq
    ·exact h3
    ·exact h4 q hq
  ·cases h
theorem jVQ {bits:Int} {l:List Oq} (h:okO bits mn l []=some []):∃ f:Fo,f.ok/\l=f.flat:=by
 obtain ⟨f,fs,h1,h2,h3,h4⟩:=yZE l [] h
 cases fs with
 | nil=>exact ⟨f,h3,h2⟩
 | cons g fs=>simp at h1
theorem jZY {bits:Int} {mn:Nat}:∀ (l:List Oq) (i:Int) (st:List Oq),(runO bits mn l i st).1=0->okO bits mn l st=some []
 | [],i,st,h=>by
  simp only [runO] at h;split at h
  ·rename_i e; subst e; rfl
  ·cases h
 | o::l,i,st,h=>by
  simp only [runO] at h;simp only [okO];split at h
  ·rename_i he;rw [if_pos he];exact jZY l _ _ h
  ·rename_i he; exact absurd h he
theorem zY2 (s:Scr):(⟨s.bits,s.c,s.tw,s.th,ints (is s.ord),zQF (ims s.ims),zQo (ops s.ops)⟩:Scr)=s:=zKb s
def zZz (op:Int):Bool:=decide (op=3\/op=4\/op=5\/op=9\/op=10\/op=12)
def farB (v:Int):Bool:=decide (v < -1099511627776\/v>1099511627776)
def zXh (s:Scr) (i x y:Int):Rc:=
 if 0<=i then match s.ims[i.toNat]? with
  | some m=>if farB x || farB y || farB m.w || farB m.h then Rc.zero else Rc.inter ⟨x,y,x+m.w,y+m.h⟩ s.c
  | none=>Rc.zero
 else Rc.zero
def imgR (s:Scr) (o:Oq):Rc:=if o.kind=1 then zXh s o.image o.x o.y else Rc.zero
def zHo (s:Scr) (o:Oq):Rc:=if o.mask=0 then s.c.inter s.c else if o.mask<0 then Rc.zero else zXh s (o.mask-1) o.mx o.my
def boxF (s:Scr) (o:Oq) (src:Rc):Rc:=if zZz o.oper=false then s.c else if o.opac=0 then Rc.zero else src.inter (zHo s o)
variable {s:Scr} {i:Int}
theorem jQh (x y:Int) (h:i<0\/(s.ims.length:Int)<=i):zXh s i x y=Rc.zero:=by
 unfold zXh;split
 ·rw [wQM (by omega)]
 ·rfl
theorem jZU (x y:Int) (h:0<=i) (h2:i.toNat<s.ims.length):zXh s i x y=if farB x || farB y || farB s.ims[i.toNat].w || farB s.ims[i.toNat].h then Rc.zero else Rc.inter ⟨x,y,x+s.ims[i.toNat].w,y+s.ims[i.toNat].h⟩ s.c:=by
 unfold zXh;rw [if_pos h,List.getElem?_eq_getElem h2]
abbrev Bst:=List Rc × List Int × List Rc
def topB (hs:List Rc) (b:Rc):List Rc:=hs.set (hs.length-1) (zZ3 [(hs[hs.length-1]?).getD Rc.zero,b])
def zHd (s:Scr) (i:Nat) (o:Oq) (z:Bst):Bst:=
 if o.kind=1 then (z.1.set i (boxF s o (imgR s o)),z.2.1,z.2.2)
 else
  let p:=(z.2.1[z.2.1.length-1]?).getD 0
  let b:=boxF s ((s.ops[p.toNat]?).getD popO) ((z.2.2[z.2.2.length-1]?).getD Rc.zero)
  ((z.1.set i b).set p.toNat b,z.2.1.dropLast,z.2.2.dropLast)
def zHc (s:Scr) (i:Nat) (o:Oq) (z:Bst):Bst:=
 if o.kind=2 then (z.1,z.2.1++[(i:Int)],z.2.2++[Rc.zero])
 else
  let y:=zHd s i o z
  (y.1,y.2.1,topB y.2.2 ((y.1[i]?).getD Rc.zero))
def runB (s:Scr):Nat->Bst
 | 0=>(List.replicate s.ops.length Rc.zero,[],[Rc.zero])
 | k+1=>zHc s k ((s.ops[k]?).getD popO) (runB s k)
def zXA (s:Scr):List Rc × Int:=if s.run.1=0 then ((runB s s.ops.length).1,0) else ([],s.run.1)
theorem zYx (h:s.run.1=0):s.frame=0/\okO s.bits s.ims.length s.ops []=some []:=by
 unfold Scr.run opsE at h;split at h
 ·rename_i h1; exact ⟨h1,jZY _ _ _ h⟩
 ·rename_i h1; exact absurd h h1
theorem jJB (h:s.frame=0):s.ims.length<=64/\s.ops.length<=4096:=by
 unfold Scr.frame zYD at h;split at h
 ·cases h
 ·split at h
  ·cases h
  ·split at h
   ·cases h
   ·split at h
    ·cases h
    ·split at h
     ·cases h
     ·omega
theorem zHz {bits:Int} {l:List Oq} (h:okO bits mn l []=some []) (k:Nat):∃ st,okO bits mn (l.take k) []=some st/\okO bits mn (l.drop k) st=some []:=by
 have e:=wZC k l;rw [<- e,zKh] at h
 cases hk:okO bits mn (l.take k) [] with
 | none=>rw [hk] at h; cases h
 | some st=>rw [hk] at h; exact ⟨st,rfl,h⟩
theorem zUE {bits:Int} {l:List Oq} {k:Nat} (h1:okO bits mn (l.take k) []=some st) (h2:okO bits mn (l.drop k) st=some []) (hk:k<l.length):errO bits mn l[k] st=0/\okO bits mn (l.take (k+1)) []=some (zXR l[k] st):=by
 rw [wXC hk,okO] at h2;split at h2
 ·rename_i he;refine ⟨he,?_⟩;rw [wZl,List.getElem?_eq_getElem hk,zKh,h1]
  show okO _ _ [l[k]] st=_
  rw [jXV he]
 ·cases h2
theorem jZG {s:Scr} (h:s.run.1=0):∀ k,k<=s.ops.length->∃ st:List Oq,okO s.bits s.ims.length (s.ops.take k) []=some st/\okO s.bits s.ims.length (s.ops.drop k) st=some [] /\
  (runB s k).1.length=s.ops.length/\(runB s k).2.1.length=st.length/\(runB s k).2.2.length=st.length+1/\st.length<=k/\∀ p∈(runB s k).2.1,0<=p/\p<k
 | 0,_=>⟨[],rfl,by simpa using (zYx h).2,by simp [runB],rfl,rfl,Nat.le_refl _,by simp [runB]⟩
 | k+1,hk=>by
  obtain ⟨st,h1,h2,h3,h4,h5,h6,h7⟩:=jZG h k (by omega);have hlt:k<s.ops.length:=by omega
  obtain ⟨he,h8⟩:=zUE h1 h2 hlt;obtain ⟨st',h1',h2'⟩:=zHz (zYx h).2 (k+1);rw [h8] at h1';injection h1' with h1'
  subst h1';have hr:runB s (k+1)=zHc s k s.ops[k] (runB s k):=by
   rw [runB,List.getElem?_eq_getElem hlt]; rfl
  rw [hr];refine ⟨_,h8,h2',?_⟩
  rcases zYe he with hk1 | hk1 | ⟨hk1,hne⟩
  ·have e:zXR s.ops[k] st=st:=by unfold zXR; rw [if_neg (by omega),if_neg (by omega)]
   rw [e];unfold zHc zHd;rw [if_neg (by omega),if_pos hk1];refine ⟨by simp [h3],h4,by simp [topB,h5],by omega,λp hp=>?_⟩;have:=h7 p hp;omega
  ·have e:zXR s.ops[k] st=st++[s.ops[k]]:=by unfold zXR; rw [if_pos hk1]
   rw [e];unfold zHc;rw [if_pos hk1];refine ⟨h3,by simp [h4],by simp [h5],by simp; omega,λp hp=>?_⟩
   rcases List.mem_append.1 hp with hp | hp
   ·have:=h7 p hp; omega
   ·rw [wQk] at hp; omega
  ·have hk2:s.ops[k].kind=3:=by rw [hk1]; rfl
   have e:zXR s.ops[k] st=st.dropLast:=by unfold zXR; rw [if_neg (by omega),if_pos hk2]
   have:=wZJ.2 hne;rw [e];unfold zHc zHd;rw [if_neg (by omega),if_neg (by omega)];refine ⟨by simp [h3],by simp [h4],by simp [topB,h5]; omega,by simp; omega,λp hp=>?_⟩;have:=h7 p (List.dropLast_subset _ hp);omega
structure Ac where
  a:Int
  b:Int
  c:Int
  al:Int
  own:Int
  f:Int
deriving DecidableEq
def Ac.zero:Ac:=⟨0,0,0,0,0,0⟩
def Px.nn (p:Px):Prop:=0<=p.a/\0<=p.b/\0<=p.c
def Ac.nn (p:Ac):Prop:=0<=p.a/\0<=p.b/\0<=p.c/\0<=p.own
def zQH (m:Int):Bool:=decide (m=255\/m=65535)
def Ac.ok (x:Ac) (k:Px) (m:Int):Bool:=decide (x.a<=x.al/\x.b<=x.al/\x.c<=x.al)&&(zQH m&&(decide (x.own<=x.al/\x.own<=x.f/\x.al<=m/\x.f<=m)&&(k.ok m&&decide (k.f=k.al))))
def isNm (n:Int):Bool:=decide (1<=n/\n<13)
def zZn (kno:Bool) (op mode m:Int) (p:Px) (x:Ac) (k:Px):Bool:=isNm op&&(isNm mode&&(x.ok k m&&(p.ok m && !(kno&&decide (op≠4)))))
def accS (kno:Bool) (op mode m:Int) (p:Px) (x:Ac) (k:Px):Ac:=
 if kno then ⟨knoC mode m p.a p.al p.f x.a k.a k.al,knoC mode m p.b p.al p.f x.b k.b k.al,knoC mode m p.c p.al p.f x.c k.c k.al,knoA m p.al p.f x.al k.al,knoA m p.al p.f x.own 0,zXc op p.f x.f m⟩
 else ⟨colS op mode m p.a p.al x.a x.al,colS op mode m p.b p.al x.b x.al,colS op mode m p.c p.al x.c x.al,zXa op p.al x.al m,zXa op p.al x.own m,zXc op p.f x.f m⟩
def remS (m c own b:Int):Int:=if m*c>(m-own)*b then min (zQP (m*c-(m-own)*b) m) own else 0
def zZb (x:Ac) (k:Px) (m:Int):Px:=⟨remS m x.a x.own k.a,remS m x.b x.own k.b,remS m x.c x.own k.c,x.own,x.f⟩
def zZZ (p:Px) (k m:Int):Px:=⟨zQP (p.a*k) m,zQP (p.b*k) m,zQP (p.c*k) m,zQP (p.al*k) m,zQP (p.f*k) m⟩
def zQM (iso kno:Bool) (x:Ac) (k:Px):Ac × Px:=
 let b:Px:=if iso then .zero else if kno then k else ⟨x.a,x.b,x.c,x.al,x.al⟩
 (⟨b.a,b.b,b.c,b.al,0,0⟩,b)
abbrev wQE:=@of_decide_eq_true
variable {m:Int}
theorem zQO (h:zQH m=true):0<m/\m<=65535:=by
 have:=wQE h;omega
variable {p:Px}
theorem Px.ok_iff:p.ok m=true↔p.a<=p.al/\p.b<=p.al/\p.c<=p.al/\p.al<=p.f/\p.f<=m:=by
 simp [Px.ok]
variable {k:Px} {x:Ac}
theorem Ac.ok_iff:x.ok k m=true↔(x.a<=x.al/\x.b<=x.al/\x.c<=x.al)/\zQH m=true/\(x.own<=x.al/\x.own<=x.f/\x.al<=m/\x.f<=m)/\k.ok m=true/\k.f=k.al:=by
 simp [Ac.ok]
variable {mode d b:Int}
theorem jXe (h2:0<=d) (h3:d<=b):(zQd mode 0 0 d b).p=0/\(zQd mode 0 0 d b).q=0:=by
 have hh:zJN d b 0 0=0:=by unfold zJN; split<;>simp
 have hh2:zJN 0 0 d b=0:=by unfold zJN; simp
 have hs:(zYw 0 0 d b).p=0/\(zYw 0 0 d b).q=0:=by
  unfold zYw;split
  ·exact ⟨rfl,rfl⟩
  ·simp
 unfold zQd;rw [hh,hh2];by_cases c10:mode=10
 ·subst c10; simpa using hs
 have key:∀ (c:Prop) [Decidable c] (x y:Ex),(x.p=0/\x.q=0)->(¬ c->y.p=0/\y.q=0)->(if c then x else y).p=0/\(if c then x else y).q=0:=λc _ x y hx hy=>by
  split
  ·exact hx
  ·exact hy (by assumption)
 repeat' (first | (refine key _ _ _ ?_ λhc=>?_) | (simp [zZe]; done))
theorem zUG {op:Int} (h:zZz op=true):op=3\/op=4\/op=5\/op=9\/op=10\/op=12:=wQE h
theorem zG1 {op:Int} (h:zZz op=true):facB op 0 b m=m:=by
 rcases zUG h with rfl | rfl | rfl | rfl | rfl | rfl<;>simp [facB]
abbrev wZA:=@Int.mul_zero
theorem jYe {op:Int} (hm:0<m) (h:zZz op=true) (h2:0<=d) (h3:d<=b):colS op mode m 0 0 d b=d:=by
 have ⟨e1,e2⟩:=jXe (mode:=mode) h2 h3;have hd:=(zZy (mode:=mode) (s:=0) (a:=0) (Int.le_refl 0) (Int.le_refl 0) h2 h3).ok.d;unfold colS;refine Ex.half_whole ?_ ?_ ?_
 ·exact wZz (wZz hm hm) hd
 ·simp only [valS,e2,wZA]
 ·simp only [valS,e1,zG1 h];grind
theorem jXg {op:Int} (hm:0<m) (h:zZz op=true):zXa op 0 b m=b:=by
 unfold zXa;rw [zG1 h,wZA,Int.zero_add,zXI hm]
theorem shape_zero {op g:Int} (hm:0<m) (h:zZz op=true):zXc op 0 g m=g:=by
 have e:m*0+(m-0)*g=m*g:=by grind
 unfold zXc
 rcases zUG h with rfl | rfl | rfl | rfl | rfl | rfl<;>simp [zXI hm]
theorem jQw {c:Int} (hm:0<m) (h2:0<=d) (h3:d<=b):knoC mode m 0 0 0 c d b=c:=by
 have ⟨e1,e2⟩:=jXe (mode:=mode) h2 h3;have hd:=(zZy (mode:=mode) (s:=0) (a:=0) (Int.le_refl 0) (Int.le_refl 0) h2 h3).ok.d;unfold knoC;refine Ex.half_whole ?_ ?_ ?_
 ·exact wZz hm hd
 ·exact e2
 ·simp only [knoX,e1];grind
theorem jJg {acc:Int} (hm:0<m):knoA m 0 0 acc b=acc:=by
 unfold knoA;have e:(m-0)*acc+(0-0)*b+m*0=m*acc:=by grind
 rw [e,zXI hm]
variable {kno:Bool}
theorem jGt {op:Int} (h:zZz op=true) (hx:x.nn) (hk:k.nn) (ho:zZn kno op mode m .zero x k=true):accS kno op mode m .zero x k=x:=by
 simp only [zZn,wQe] at ho;obtain ⟨_,_,h1,_,_⟩:=ho;obtain ⟨⟨q1,q2,q3⟩,hf,⟨q4,q5,q6,q7⟩,hk2,hk3⟩:=Ac.ok_iff.1 h1;obtain ⟨r1,r2,r3,r4,r5⟩:=Px.ok_iff.1 hk2;have hm:=(zQO hf).1;obtain ⟨n1,n2,n3,n4⟩:=hx;obtain ⟨k1,k2,k3⟩:=hk;obtain ⟨a,b,c,al,own,f⟩:=x;simp only at *;unfold accS;split
 ·simp only [Px.zero];rw [jQw hm k1 r1,jQw hm k2 r2,jQw hm k3 r3,jJg hm,jJg hm,shape_zero hm h]
 ·simp only [Px.zero];rw [jYe hm h n1 q1,jYe hm h n2 q2,jYe hm h n3 q3,jXg hm h,jXg hm h,shape_zero hm h]
structure LvOk (m:Int) (iso kno:Bool) (x:Ac) (k:Px):Prop where
  ok:x.ok k m=true
  nn:x.nn
  kn:k.nn
  own:iso=true->kno=false->x.own=x.al
variable {iso:Bool}
theorem jH5 {op:Int} (h:LvOk m iso kno x k) (hp:p.ok m=true) (hn:p.nn) (h1:isNm op=true) (h2:isNm mode=true) (hop:op=4\/(iso=true/\kno=false)):
  zZn kno op mode m p x k=true/\LvOk m iso kno (accS kno op mode m p x k) k:=by
 obtain ⟨ok,⟨n1,n2,n3,n4⟩,kn,own⟩:=h;obtain ⟨⟨q1,q2,q3⟩,hf,⟨q4,q5,q6,q7⟩,hk2,hk3⟩:=Ac.ok_iff.1 ok;obtain ⟨r1,r2,r3,r4,r5⟩:=Px.ok_iff.1 hk2;obtain ⟨p1,p2,p3,p4,p5⟩:=Px.ok_iff.1 hp;obtain ⟨pn1,pn2,pn3⟩:=hn;have kn':=kn;obtain ⟨k1,k2,k3⟩:=kn';have hm:=(zQO hf).1;refine ⟨?_,?_⟩
 ·have:(!(kno&&decide (op≠4)))=true:=by
   rcases hop with rfl | ⟨_,rfl⟩<;>simp
  unfold zZn;rw [h1,h2,ok,hp,this]; rfl
 obtain ⟨xa,xb,xc,al,oo,f⟩:=x;obtain ⟨pa,pb,pc,pl,pf⟩:=p;simp only at *
 cases kno with
 | true=>
  have hop:op=4:=hop.elim id λh=>absurd h.2 (by decide);subst hop;have c1:=zGw (mode:=mode) hm pn1 p1 p4 p5 k1 r1 (show k.al<=m by omega) n1 q1;have c2:=zGw (mode:=mode) hm pn2 p2 p4 p5 k2 r2 (show k.al<=m by omega) n2 q2;have c3:=zGw (mode:=mode) hm pn3 p3 p4 p5 k3 r3 (show k.al<=m by omega) n3 q3;have a1:=zGx (acc:=al) (b:=k.al) hm (show 0<=pl by omega) p4 p5 (by omega) q6 (by omega) (by omega);have a2:=zGx (acc:=oo) (b:=0) hm (show 0<=pl by omega) p4 p5 n4 (by omega) (by omega) (by omega);have sh:=zZ4 (op:=4) (a:=pl) (f:=pf) (b:=oo) (g:=f) hm (by omega) p4 p5 n4 q5 q7;have o1:knoA m pl pf oo 0<=knoA m pl pf al k.al:=by
   unfold knoA;apply zXp hm;have:=zQc (x:=m-pf) (y:=oo) (A:=m-pf) (B:=al) (by omega) (Int.le_refl _) n4 q4;have:=Int.mul_nonneg (show 0<=pf-pl by omega) (show 0<=k.al by omega);omega
  have o2:knoA m pl pf oo 0<=zXa 4 pl oo m:=by
   unfold knoA zXa;apply zXp hm;simp [facA,facB];have:=Int.mul_le_mul_of_nonneg_right (show m-pf<=m-pl by omega) n4;omega
  simp only [accS,if_true];exact ⟨Ac.ok_iff.2 ⟨⟨by simp only; omega,by simp only; omega,by simp only; omega⟩,hf,⟨by simp only; omega,by simp only; omega,by simp only; omega,by simp only; omega⟩,hk2,hk3⟩,⟨by simp only; omega,by simp only; omega,by simp only; omega,by simp only; omega⟩,kn,λ_ h=>by cases h⟩
 | false=>
  have c1:=jQX (op:=op) (mode:=mode) hm pn1 p1 (show pl<=m by omega) n1 q1 q6;have c2:=jQX (op:=op) (mode:=mode) hm pn2 p2 (show pl<=m by omega) n2 q2 q6;have c3:=jQX (op:=op) (mode:=mode) hm pn3 p3 (show pl<=m by omega) n3 q3 q6;have top:=zZ4 (op:=op) (a:=pl) (f:=pf) (b:=al) (g:=m) hm (by omega) p4 p5 (by omega) q6 (Int.le_refl _);have sh:=zZ4 (op:=op) (a:=pl) (f:=pf) (b:=oo) (g:=f) hm (by omega) p4 p5 n4 q5 q7;have z:=zV3 (op:=op) (a:=pl) (b:=oo) hm (by omega) (by omega) n4 (by omega);have o1:zXa op pl oo m<=zXa op pl al m:=by
   rcases hop with rfl | ⟨hi,_⟩
   ·unfold zXa;apply zXp hm;simp [facA,facB];exact Int.mul_le_mul_of_nonneg_left q4 (by omega)
   ·rw [own hi rfl]; exact Int.le_refl _
  simp only [accS];exact ⟨Ac.ok_iff.2 ⟨⟨by simp; omega,by simp; omega,by simp; omega⟩,hf,⟨by simp; omega,by simp; omega,by simp; omega,by simp; omega⟩,hk2,hk3⟩,⟨by simp; omega,by simp; omega,by simp; omega,by simp; omega⟩,kn,λhi hk=>by simp [own hi hk]⟩
theorem jXF {c own:Int} (hm:0<m) (h:0<=own):0<=remS m c own b/\remS m c own b<=own:=by
 unfold remS;split
 ·have:=zJj (n:=m*c-(m-own)*b) hm (by omega);omega
 ·omega
theorem zKs (h:LvOk m iso kno x k):(zZb x k m).ok m=true/\(zZb x k m).nn:=by
 obtain ⟨ok,⟨n1,n2,n3,n4⟩,kn,own⟩:=h;obtain ⟨⟨q1,q2,q3⟩,hf,⟨q4,q5,q6,q7⟩,hk2,hk3⟩:=Ac.ok_iff.1 ok;have hm:=(zQO hf).1;have a:=jXF (c:=x.a) (b:=k.a) hm n4;have b:=jXF (c:=x.b) (b:=k.b) hm n4;have c:=jXF (c:=x.c) (b:=k.c) hm n4;exact ⟨Px.ok_iff.2 ⟨a.2,b.2,c.2,q5,q7⟩,a.1,b.1,c.1⟩
variable {k:Int}
theorem zUq (hm:0<m) (h:p.ok m=true) (hn:p.nn) (h0:0<=k) (h1:k<=m):(zZZ p k m).ok m=true/\(zZZ p k m).nn:=by
 obtain ⟨p1,p2,p3,p4,p5⟩:=Px.ok_iff.1 h;obtain ⟨n1,n2,n3⟩:=hn;have mo:∀ {u v:Int},u<=v->zQP (u*k) m<=zQP (v*k) m:=λh=>zXp hm (Int.mul_le_mul_of_nonneg_right h h0);have nn:∀ {u:Int},0<=u->0<=zQP (u*k) m:=λh=>zJj hm (Int.mul_nonneg h h0);have le:zQP (p.f*k) m<=m:=by
  refine wZH (zXy hm (k:=k) ?_) h1;exact Int.mul_le_mul_of_nonneg_right p5 h0
 exact ⟨Px.ok_iff.2 ⟨mo p1,mo p2,mo p3,mo p4,le⟩,nn n1,nn n2,nn n3⟩
theorem jJq (hm:0<m):zQP 0 m=0:=by
 have:=zXI (c:=0) hm;rwa [wZA] at this
theorem jZA (hm:0<m):zZZ .zero k m=.zero:=by
 simp [zZZ,Px.zero,jJq hm]
theorem zUr (hm:0<m):zZZ p 0 m=.zero:=by
 simp [zZZ,Px.zero,jJq hm]
theorem zWT (hm:0<=m):Px.ok .zero m=true/\Px.zero.nn:=⟨Px.ok_iff.2 ⟨by decide,by decide,by decide,by decide,hm⟩,by decide,by decide,by decide⟩
variable {k:Px}
theorem jHx {iso' kno':Bool} (h:LvOk m iso kno x k):LvOk m iso' kno' (zQM iso' kno x k).1 (zQM iso' kno x k).2:=by
 obtain ⟨ok,⟨n1,n2,n3,n4⟩,kn,own⟩:=h;obtain ⟨⟨q1,q2,q3⟩,hf,⟨q4,q5,q6,q7⟩,hk2,hk3⟩:=Ac.ok_iff.1 ok;obtain ⟨r1,r2,r3,r4,r5⟩:=Px.ok_iff.1 hk2;obtain ⟨k1,k2,k3⟩:=kn;have hm:=(zQO hf).1;unfold zQM
 cases iso' with
 | true=>
  simp only [if_true];exact ⟨Ac.ok_iff.2 ⟨⟨by decide,by decide,by decide⟩,hf,⟨by decide,by decide,by simp [Px.zero]; omega,by simp only; omega⟩,(zWT (by omega)).1,rfl⟩,⟨by decide,by decide,by decide,by decide⟩,(zWT (m:=m) (by omega)).2,λ_ _=>rfl⟩
 | false=>
  cases kno with
  | true=>
   simp only [if_true];exact ⟨Ac.ok_iff.2 ⟨⟨by simp; omega,by simp; omega,by simp; omega⟩,hf,⟨by simp; omega,by simp,by simp; omega,by simp; omega⟩,by simpa using hk2,by simpa using hk3⟩,⟨by simpa using k1,by simpa using k2,by simpa using k3,Int.le_refl 0⟩,by simpa using ⟨k1,k2,k3⟩,λh=>by cases h⟩
  | false=>
   simp only;exact ⟨Ac.ok_iff.2 ⟨⟨by simp; omega,by simp; omega,by simp; omega⟩,hf,⟨by simp; omega,by simp,by simp; omega,by simp; omega⟩,Px.ok_iff.2 ⟨by simp; omega,by simp; omega,by simp; omega,by simp,by simp; omega⟩,by simp⟩,⟨by simpa using n1,by simpa using n2,by simpa using n3,Int.le_refl 0⟩,by simpa using ⟨n1,n2,n3⟩,λh=>by cases h⟩
theorem jYO:zZb (zQM iso kno x k).1 (zQM iso kno x k).2 m=.zero:=by
 have e:∀ c,remS m c 0 c=0:=λc=>by unfold remS; rw [if_neg (by simp)]
 unfold zQM zZb;simp only [e];rfl
def hiW (n:Int):Int:=n / 18446744073709551616
def loW (n:Int):Int:=n%18446744073709551616
def wV (h l:Int):Int:=h*18446744073709551616+l
theorem zZV (n:Int):wV (hiW n) (loW n)=n:=by unfold wV hiW loW; omega
theorem zVy (n:Int):wV 0 n=n:=by unfold wV; omega
variable {h:Int}
theorem yZO {l:Int} (h0:0<=l) (h1:l<18446744073709551616):hiW (wV h l)=h:=by unfold wV hiW; omega
theorem yZN {l:Int} (h0:0<=l) (h1:l<18446744073709551616):loW (wV h l)=l:=by unfold wV loW; omega
variable {n:Int}
theorem zYf (h0:0<=n) (h1:n<18446744073709551616):hiW n=0:=by unfold hiW; omega
theorem zXW (h0:0<=n) (h1:n<18446744073709551616):loW n=n:=by unfold loW; omega
def cmpI (a b:Int):Int:=if a=b then 0 else if a<b then -1 else 1
def addW (a b:Int):Int:=if a+b<340282366920938463463374607431768211456 then a+b else 0
def addK (a b:Int):Bool:=decide (a+b<340282366920938463463374607431768211456)
def subW (a b:Int):Int:=if a<b then 0 else a-b
def subK (a b:Int):Bool:=decide (b<=a)
def zKQ (q r n:Int):Int:=if 18446744073709551616<=n then -1 else cmpI (q*q*r) (n*n)
def tmS (p q r d t n:Int):Int:=if n*d<t*p then 1 else zKQ (t*q) r (n*d-t*p)
theorem jGd {a:Int}:0<=cmpI a b↔b<=a:=by unfold cmpI; grind
theorem jHL {p q r t:Int} (hp:0<=p) (hq:0<=q) (hr:0<=r) (hd:0<=d) (ht:0<=t) (hn:0<=n) (hs:(t*q)*(t*q)*r<340282366920938463463374607431768211456):
  0<=tmS p q r d t n↔n*d<=(⟨p,q,r,d⟩:Ex).up t:=by
 have hN:0<=(t*q)*(t*q)*r:=Int.mul_nonneg (zZa _) hr;unfold tmS Ex.up;split
 ·rename_i h;have:=(zYN hN).1;simp only;omega
 ·rename_i h;have hk:0<=n*d-t*p:=by omega
  have:=jQu hN hk;simp only;have e:n*d<=t*p+zX2 (t*q*(t*q)*r)↔n*d-t*p<=zX2 (t*q*(t*q)*r):=by omega
  rw [e,this];unfold zKQ;split
  ·rename_i h2;have:(18446744073709551616:Int)*18446744073709551616<=(n*d-t*p)*(n*d-t*p):=wQv h2 h2 (by decide) hk;omega
  ·exact jGd
abbrev wX0:=@BitVec.toNat_and
abbrev wQZ:=@BitVec.toNat_ofNat
theorem yQ0 (h0:0<=n) (h1:n<18446744073709551616):((BitVec.ofInt 64 n &&& BitVec.ofInt 64 1).toNat:Int)=n%2:=by
 obtain ⟨k,rfl⟩:=wQU h0;have hk:k<18446744073709551616:=by omega
 have e1:BitVec.ofInt 64 (k:Int)=BitVec.ofNat 64 k:=by simp
 have e2:BitVec.ofInt 64 1=BitVec.ofNat 64 1:=by decide
 rw [e1,e2,wX0,wQZ,wQZ,wQR hk];have:k &&& 1=k%2:=Nat.and_one_is_mod k;rw [show 1%2 ^ 64=1 from rfl,this];omega
abbrev wYq:=@Nat.and_two_pow_sub_one_eq_mod
theorem zU0 (h0:0<=n) (h1:n<18446744073709551616):((BitVec.ofInt 64 n &&& BitVec.ofInt 64 4294967295).toNat:Int)=n%4294967296:=by
 obtain ⟨k,rfl⟩:=wQU h0;have hk:k<18446744073709551616:=by omega
 have e1:BitVec.ofInt 64 (k:Int)=BitVec.ofNat 64 k:=by simp
 have e2:BitVec.ofInt 64 4294967295=BitVec.ofNat 64 4294967295:=by decide
 rw [e1,e2,wX0,wQZ,wQZ,wQR hk];have:k &&& 4294967295=k%4294967296:=wYq k 32;rw [show 4294967295%2 ^ 64=4294967295 from rfl,this];omega
abbrev wYr:=@BitVec.toNat_or
abbrev wYs:=@Nat.two_pow_add_eq_or_of_lt
abbrev wZK:=@Nat.two_pow_pos
abbrev wXd:=@Nat.pow_lt_pow_right
variable {i:Nat}
theorem yZj {m:Nat} (hi:i<63) (h:(m+1)*2 ^ (i+1)<=2 ^ 64):(BitVec.ofInt 64 ((m*2 ^ (i+1):Nat):Int) ||| BitVec.ofInt 64 ((2 ^ i:Nat):Int)).toNat=m*2 ^ (i+1)+2 ^ i:=by
 have p0:2 ^ i<2 ^ 64:=wXd (by decide) (by omega);have p1:m*2 ^ (i+1)<2 ^ 64:=by
  have:=wZK (i+1);rw [wQn] at h;omega
 have e1:∀ k:Nat,BitVec.ofInt 64 (k:Int)=BitVec.ofNat 64 k:=λk=>by simp
 rw [e1,e1,wYr,wQZ,wQZ,wQR p0,wQR p1];have:=wYs (i:=i+1) (b:=2 ^ i) (wXd (by decide) (by omega)) m;rw [wQD];exact this.symm
abbrev wYH:=@Nat.mod_two_eq_zero_or_one
variable {k:Nat}
theorem jGk {f:Nat} (hf:f<2 ^ 63) (hk:k<63):
  (BitVec.ofInt 64 ((f / 2 ^ (k+1)*2 ^ (k+1):Nat):Int) ||| BitVec.ofInt 64 ((2 ^ k:Nat):Int)).toNat=f / 2 ^ (k+1)*2 ^ (k+1)+2 ^ k/\f / 2 ^ (k+1)*2 ^ (k+1)+2 ^ k<2 ^ 64 /\
  (f / 2 ^ (k+1)*2 ^ (k+1)+2 ^ k<=f->f / 2 ^ k*2 ^ k=f / 2 ^ (k+1)*2 ^ (k+1)+2 ^ k)/\(f<f / 2 ^ (k+1)*2 ^ (k+1)+2 ^ k->f / 2 ^ k*2 ^ k=f / 2 ^ (k+1)*2 ^ (k+1)):=by
 have p:=wZK k;have e2:2 ^ (k+1)=2 ^ k*2:=Nat.pow_succ 2 k;have pk:2 ^ k<=2 ^ 62:=Nat.pow_le_pow_right (by decide) (by omega);have hN:f / 2 ^ (k+1)*2 ^ (k+1)<=f:=Nat.div_mul_le_self _ _;have h64:(f / 2 ^ (k+1)+1)*2 ^ (k+1)<=2 ^ 64:=by
  rw [wQn,wXb];omega
 refine ⟨yZj hk h64,by omega,?_⟩;rw [e2,<- Nat.div_div_eq_div_mul];have h1:=wZy f (2 ^ k);have h2:=wQ8 f p;have h3:=wZy (f / 2 ^ k) 2;have h4:=wQ8 (f / 2 ^ k) (show 0<2 by decide);generalize f / 2 ^ k=g at *;generalize f%2 ^ k=r at *;generalize 2 ^ k=P at *;have e5:g / 2*(P*2)=P*(g / 2)*2:=by grind
 rcases wYH g with h | h
 ·have hg:g=2*(g / 2):=by omega
  have e6:g*P=P*(g / 2)*2:=by rw [hg]; grind
  have e7:P*g=g*P:=wQD _ _;rw [e5,e6];constructor<;>intro q<;>omega
 ·have hg:g=2*(g / 2)+1:=by omega
  have e6:g*P=P*(g / 2)*2+P:=by
   generalize g / 2=c at *;subst hg; grind
  have e7:P*g=g*P:=wQD _ _;rw [e5,e6];constructor<;>intro q<;>omega
def runE:List Oq->Nat->List Int->List Int->List Int × Int
 | [],_,out,op=>if op=[] then (out,0) else ([],18)
 | o::l,i,out,op=>
  if o.kind=1 then runE l (i+1) (out.set i i) op
  else if o.kind=2 then runE l (i+1) (out.set i i) (op++[(i:Int)])
  else if o.kind=3 then (if op=[] then ([],18) else runE l (i+1) ((out.set i i).set ((op[op.length-1]?).getD 0).toNat i) op.dropLast)
  else ([],9)
def zZx (l:List Oq):List Int × Int:=runE l 0 (List.replicate l.length 0) []
def endN:Nat->Fo->Nat->Nat
 | _,.nil,p=>p
 | n,.draw _ r,p=>if p=n then n else endN (n+1) r p
 | n,.grp _ k r,p=>if p=n\/p=n+k.size+1 then n+k.size+1 else if p<=n+k.size then endN (n+1) k p else endN (n+k.size+2) r p
def endF (n:Nat) (f:Fo):List Int:=(List.range f.size).map λj=>((endN n f (n+j):Nat):Int)
theorem zJ5 (n:Nat) (f:Fo):(endF n f).length=f.size:=by simp [endF]
theorem jU6 (n:Nat) (o:Oq) (r:Fo):endF n (.draw o r)=(n:Int)::endF (n+1) r:=by
 unfold endF;rw [Fo.size,List.range_succ_eq_map,wQg,wQ9];refine congr (congrArg List.cons (by simp [endN])) (List.map_congr_left λj _=>?_)
 show ((endN n (.draw o r) (n+(j+1)):Nat):Int)=_
 rw [endN,if_neg (by omega),show n+(j+1)=n+1+j by omega]
abbrev wYt:=@List.getElem_append_left
abbrev wYI:=@List.getElem_append_right
theorem jHp (n:Nat) (o:Oq) (k r:Fo):endF n (.grp o k r)=((n+k.size+1:Nat):Int)::(endF (n+1) k++((n+k.size+1:Nat):Int)::endF (n+k.size+2) r):=by
 refine wQT (by simp [zJ5,Fo.size]; omega) λj h1 h2=>?_;have hj:j<k.size+r.size+2:=by simpa [endF,Fo.size] using h1
 have e:(endF n (.grp o k r))[j]=((endN n (.grp o k r) (n+j):Nat):Int):=by simp [endF]
 rw [e,endN]
 cases j with
 | zero=>simp
 | succ j=>
  rw [wQ3];by_cases c1:j<k.size
  ·rw [wYt (by rw [zJ5]; exact c1),if_neg (by omega),if_pos (by omega)];simp only [endF,List.getElem_map,wQ4];rw [show n+(j+1)=n+1+j by omega]
  ·rw [wYI (by rw [zJ5]; omega)];by_cases c2:j=k.size
   ·subst c2;rw [if_pos (by omega)];simp [zJ5]
   ·rw [if_neg (by omega),if_neg (by omega)];obtain ⟨m,rfl⟩:∃ m,j=k.size+1+m:=⟨j-k.size-1,by omega⟩
    simp only [zJ5,show k.size+1+m-k.size=m+1 by omega,wQ3];simp only [endF,List.getElem_map,wQ4];rw [show n+(k.size+1+m+1)=n+k.size+2+m by omega]
theorem zK6:∀ (f:Fo) (n p:Nat),n<=p->p<n+f.size->p<=endN n f p/\endN n f p<n+f.size
 | .nil,n,p,_,h=>by simp [Fo.size] at h; omega
 | .draw o r,n,p,h1,h2=>by
  have ih:=zK6 r (n+1) p;simp only [Fo.size] at h2 |-;rw [endN];split<;>omega
 | .grp o k r,n,p,h1,h2=>by
  have ik:=zK6 k (n+1) p;have ir:=zK6 r (n+k.size+2) p;simp only [Fo.size] at h2 |-;rw [endN];split
  ·omega
  ·split<;>omega
theorem zUU:∀ (f:Fo) (n p q:Nat),n<=p->p<n+f.size->p<q->q<=endN n f p->endN n f q<=endN n f p
 | .nil,n,p,q,_,h,_,_=>by simp [Fo.size] at h; omega
 | .draw o r,n,p,q,h1,h2,h3,h4=>by
  have ih:=zUU r (n+1) p q;have e:=zK6 r (n+1) p;simp only [Fo.size] at h2;rw [endN] at h4;rw [endN,endN];split at h4
  ·omega
  ·rw [if_neg (by omega),if_neg (by assumption)];exact ih (by omega) (by omega) h3 h4
 | .grp o k r,n,p,q,h1,h2,h3,h4=>by
  have ik:=zUU k (n+1) p q;have ir:=zUU r (n+k.size+2) p q;have ek:=zK6 k (n+1) p;have eq:=zK6 k (n+1) q;simp only [Fo.size] at h2;simp only [endN] at h4 |-;by_cases c:p=n\/p=n+k.size+1
  ·simp only [c,if_true] at h4 |-;split
   ·omega
   ·split<;>omega
  ·simp only [c,if_false] at h4 |-;by_cases c2:p<=n+k.size
   ·simp only [c2,if_true] at h4 |-;rw [if_neg (by omega),if_pos (by omega)];exact ik (by omega) (by omega) h3 h4
   ·simp only [c2,if_false] at h4 |-;rw [if_neg (by omega),if_neg (by omega)];exact ir (by omega) (by omega) h3 h4
theorem zK5:∀ (f:Fo) (n p q:Nat),n<=p->p<n+f.size->p<q->q<endN n f p->endN n f q<endN n f p
 | .nil,n,p,q,_,h,_,_=>by simp [Fo.size] at h; omega
 | .draw o r,n,p,q,h1,h2,h3,h4=>by
  have ih:=zK5 r (n+1) p q;simp only [Fo.size] at h2;rw [endN] at h4;rw [endN,endN];split at h4
  ·omega
  ·rw [if_neg (by omega),if_neg (by assumption)];exact ih (by omega) (by omega) h3 h4
 | .grp o k r,n,p,q,h1,h2,h3,h4=>by
  have ik:=zK5 k (n+1) p q;have ir:=zK5 r (n+k.size+2) p q;have ek:=zK6 k (n+1) p;have eq:=zK6 k (n+1) q;simp only [Fo.size] at h2;simp only [endN] at h4 |-;by_cases c:p=n\/p=n+k.size+1
  ·simp only [c,if_true] at h4 |-;split
   ·omega
   ·split<;>omega
  ·simp only [c,if_false] at h4 |-;by_cases c2:p<=n+k.size
   ·simp only [c2,if_true] at h4 |-;rw [if_neg (by omega),if_pos (by omega)];exact ik (by omega) (by omega) h3 h4
   ·simp only [c2,if_false] at h4 |-;rw [if_neg (by omega),if_neg (by omega)];exact ir (by omega) (by omega) h3 h4
variable {α:Type}
theorem yQb (A:List α) (x:α) (B:List α) (v:α):(A++x::B).set A.length v=A++v::B:=by
 rw [List.set_append_right _ _ (Nat.le_refl _),wZs]; rfl
variable {n:Nat}
theorem set_mid' {A:List α} {x:α} {B:List α} (v:α) (h:n=A.length):(A++x::B).set n v=A++v::B:=by
 subst h; exact yQb A x B v
theorem zKG {X:List α} (h:X.length=n+1):∃ x Y,X=x::Y/\Y.length=n:=by
 cases X with
 | nil=>simp at h
 | cons x Y=>exact ⟨x,Y,rfl,by simpa using h⟩
theorem jUH {X:List α} {a b:Nat} (h:X.length=a+b):∃ U V,X=U++V/\U.length=a/\V.length=b:=
 ⟨X.take a,X.drop a,(wZC a X).symm,by rw [wQq]; omega,by rw [wZG]; omega⟩
theorem jQf:popO.kind=3:=rfl
abbrev wQN:=@List.dropLast_concat
theorem jXt:∀ (f:Fo) (A X B op:List Int) (tail:List Oq) (n:Nat),f.ok->n=A.length->X.length=f.size ->
  runE (f.flat++tail) n (A++(X++B)) op=runE tail (n+f.size) (A++(endF n f++B)) op
 | .nil,A,X,B,op,tail,n,_,_,hX=>by
  have:X=[]:=List.length_eq_zero_iff.1 hX;subst this;rfl
 | .draw o r,A,X,B,op,tail,n,ho,hn,hX=>by
  obtain ⟨x,X,rfl,hX1⟩:=zKG (n:=r.size) hX;rw [jU6,Fo.flat,List.cons_append,runE,if_pos ho.1,List.cons_append,set_mid' _ hn];have ih:=jXt r (A++[(n:Int)]) X B op tail (n+1) ho.2 (by simp [hn]) hX1;simp only [List.append_assoc,List.cons_append,List.nil_append] at ih;rw [ih,Fo.size,List.cons_append];congr 1; omega
 | .grp o k r,A,X,B,op,tail,n,ho,hn,hX=>by
  obtain ⟨x,X,rfl,hX1⟩:=zKG (n:=k.size+r.size+1) hX;obtain ⟨U,V,rfl,hU,hV⟩:=jUH (a:=k.size) (b:=r.size+1) (by omega:X.length=_);obtain ⟨y,V,rfl,hV1⟩:=zKG (n:=r.size) hV;rw [jHp,Fo.flat,List.cons_append,runE,if_neg (by rw [ho.1]; decide),if_pos ho.1,List.cons_append,set_mid' _ hn];have ik:=jXt k (A++[(n:Int)]) U (y::V++B) (op++[(n:Int)]) (popO::(r.flat++tail)) (n+1) ho.2.1 (by simp [hn]) hU;simp only [List.append_assoc,List.cons_append,List.nil_append] at ik |-;rw [ik,runE,if_neg (by decide),if_neg (by decide),if_pos jQf,if_neg (by simp)];have e1:(A++(n:Int)::(endF (n+1) k++y::(V++B))).set (n+1+k.size) ((n+1+k.size:Nat):Int)=A++(n:Int)::(endF (n+1) k++((n+1+k.size:Nat):Int)::(V++B)):=by
   have:=set_mid' (A:=A++(n:Int)::endF (n+1) k) (x:=y) (B:=V++B) ((n+1+k.size:Nat):Int) (n:=n+1+k.size) (by simp [zJ5]; omega);simpa only [List.append_assoc,List.cons_append] using this
  rw [e1];have e2:(((op++[(n:Int)])[(op++[(n:Int)]).length-1]?).getD 0).toNat=n:=by simp
  rw [e2,set_mid' _ hn,wQN];have ir:=jXt r (A++((n+1+k.size:Nat):Int)::(endF (n+1) k++[((n+1+k.size:Nat):Int)])) V B op tail (n+1+k.size+1) ho.2.2 (by simp [zJ5]; omega) hV1;simp only [List.append_assoc,List.cons_append,List.nil_append] at ir;rw [ir,Fo.size];have a1:n+1+k.size+1+r.size=n+(k.size+r.size+2):=by omega
  have a2:n+1+k.size+1=n+k.size+2:=by omega
  have a3:n+1+k.size=n+k.size+1:=by omega
  rw [a1,a2,a3]
theorem jHo {f:Fo} (h:f.ok):zZx f.flat=(endF 0 f,0):=by
 have:=jXt f [] (List.replicate f.size 0) [] [] [] 0 h rfl (by simp);simp only [wQ1,List.nil_append] at this;unfold zZx;rw [Fo.flat_len,this,runE,if_pos rfl]
variable {a:Rc}
theorem jZp (h:a=Rc.zero\/a.empty=false):Rc.hull Rc.zero a=a:=by
 unfold Rc.hull
 rcases h with rfl | h
 ·rw [if_pos (by decide)]
 ·rw [h,if_neg (by decide),if_pos (by decide)]
variable {b:Rc}
theorem jJn (h:a=Rc.zero\/a.empty=false):Rc.hull a b=Rc.zero\/(Rc.hull a b).empty=false:=by
 unfold Rc.hull;split
 ·exact h
 ·rename_i hb;have hb:b.empty=false:=by simpa using hb
  split
  ·exact .inr hb
  ·rename_i ha;have ha:a.empty=false:=by simpa using ha
   refine .inr ?_;rw [Rc.empty_iff] at *;simp only;omega
theorem jJo (h:a=Rc.zero\/a.empty=false):zZ3 [a,b]=Rc.hull a b:=by
 show Rc.hull (Rc.hull Rc.zero a) b=_
 rw [jZp h]
def zQQ (s:Scr):Fo->List Rc
 | .nil=>[]
 | .draw o r=>boxF s o (imgR s o)::zQQ s r
 | .grp o k r=>boxF s o (zZ3 (zQQ s k))::zQQ s r
def boxN (s:Scr):Nat->Fo->Nat->Rc
 | _,.nil,_=>Rc.zero
 | n,.draw o r,p=>if p=n then boxF s o (imgR s o) else boxN s (n+1) r p
 | n,.grp o k r,p=>if p=n\/p=n+k.size+1 then boxF s o (zZ3 (zQQ s k)) else if p<=n+k.size then boxN s (n+1) k p else boxN s (n+k.size+2) r p
def boxL (s:Scr) (n:Nat) (f:Fo):List Rc:=(List.range f.size).map λj=>boxN s n f (n+j)
theorem zYi (s:Scr) (n:Nat) (f:Fo):(boxL s n f).length=f.size:=by simp [boxL]
theorem zUY (s:Scr) (n:Nat) (o:Oq) (r:Fo):boxL s n (.draw o r)=boxF s o (imgR s o)::boxL s (n+1) r:=by
 unfold boxL;rw [Fo.size,List.range_succ_eq_map,wQg,wQ9];refine congr (congrArg List.cons (by simp [boxN])) (List.map_congr_left λj _=>?_)
 show boxN s n (.draw o r) (n+(j+1))=_
 rw [boxN,if_neg (by omega),show n+(j+1)=n+1+j by omega]
theorem zHD (s:Scr) (n:Nat) (o:Oq) (k r:Fo):boxL s n (.grp o k r)=boxF s o (zZ3 (zQQ s k))::(boxL s (n+1) k++boxF s o (zZ3 (zQQ s k))::boxL s (n+k.size+2) r):=by
 refine wQT (by simp [zYi,Fo.size]; omega) λj h1 h2=>?_;have hj:j<k.size+r.size+2:=by simpa [boxL,Fo.size] using h1
 have e:(boxL s n (.grp o k r))[j]=boxN s n (.grp o k r) (n+j):=by simp [boxL]
 rw [e,boxN]
 cases j with
 | zero=>simp
 | succ j=>
  rw [wQ3];by_cases c1:j<k.size
  ·rw [wYt (by rw [zYi]; exact c1),if_neg (by omega),if_pos (by omega)];simp only [boxL,List.getElem_map,wQ4];rw [show n+(j+1)=n+1+j by omega]
  ·rw [wYI (by rw [zYi]; omega)];by_cases c2:j=k.size
   ·subst c2;rw [if_pos (by omega)];simp [zYi]
   ·rw [if_neg (by omega),if_neg (by omega)];obtain ⟨m,rfl⟩:∃ m,j=k.size+1+m:=⟨j-k.size-1,by omega⟩
    simp only [zYi,show k.size+1+m-k.size=m+1 by omega,wQ3];simp only [boxL,List.getElem_map,wQ4];rw [show n+(k.size+1+m+1)=n+k.size+2+m by omega]
structure Occ (s:Scr) (w:Fo) (n:Nat) (f:Fo):Prop where
  ok:f.ok
  fits:n+f.size<=w.size
  op:∀ j,j<f.size->w.flat[n+j]?=f.flat[j]?
  en:∀ p,n<=p->p<n+f.size->endN 0 w p=endN n f p
  bx:∀ p,n<=p->p<n+f.size->boxN s 0 w p=boxN s n f p
variable {w:Fo}
theorem Occ.whole (s:Scr) (h:w.ok):Occ s w 0 w:=⟨h,by omega,λj _=>by rw [Nat.zero_add],λ_ _ _=>rfl,λ_ _ _=>rfl⟩
theorem Occ.draw {s:Scr} {w:Fo} {n:Nat} {o:Oq} {r:Fo} (h:Occ s w n (.draw o r)):o.kind=1/\n<w.size/\w.flat[n]?=some o/\endN 0 w n=n/\boxN s 0 w n=boxF s o (imgR s o)/\Occ s w (n+1) r:=by
 obtain ⟨h1,h2,h3,h4,h5⟩:=h;simp only [Fo.size] at *;refine ⟨h1.1,by omega,by simpa [Fo.flat] using h3 0 (by omega),by rw [h4 n (Nat.le_refl _) (by omega),endN,if_pos rfl],by rw [h5 n (Nat.le_refl _) (by omega),boxN,if_pos rfl],h1.2,by omega,λj hj=>?_,λp p1 p2=>?_,λp p1 p2=>?_⟩
 ·have:=h3 (j+1) (by omega);rw [show n+1+j=n+(j+1) by omega,this];simp [Fo.flat]
 ·rw [h4 p (by omega) (by omega),endN,if_neg (by omega)]
 ·rw [h5 p (by omega) (by omega),boxN,if_neg (by omega)]
theorem Occ.grp {s:Scr} {w:Fo} {n:Nat} {o:Oq} {k r:Fo} (h:Occ s w n (.grp o k r)):o.kind=2/\n+k.size+1<w.size/\w.flat[n]?=some o/\w.flat[n+k.size+1]?=some popO/\endN 0 w n=n+k.size+1/\endN 0 w (n+k.size+1)=n+k.size+1 /\
  boxN s 0 w n=boxF s o (zZ3 (zQQ s k))/\boxN s 0 w (n+k.size+1)=boxF s o (zZ3 (zQQ s k))/\Occ s w (n+1) k/\Occ s w (n+k.size+2) r:=by
 obtain ⟨h1,h2,h3,h4,h5⟩:=h;simp only [Fo.size] at *
 refine ⟨h1.1,by omega,by simpa [Fo.flat] using h3 0 (by omega),?_,by rw [h4 n (Nat.le_refl _) (by omega),endN,if_pos (.inl rfl)],by rw [h4 _ (by omega) (by omega),endN,if_pos (.inr rfl)],by rw [h5 n (Nat.le_refl _) (by omega),boxN,if_pos (.inl rfl)],by rw [h5 _ (by omega) (by omega),boxN,if_pos (.inr rfl)],
  ⟨h1.2.1,by omega,λj hj=>?_,λp p1 p2=>?_,λp p1 p2=>?_⟩,⟨h1.2.2,by omega,λj hj=>?_,λp p1 p2=>?_,λp p1 p2=>?_⟩⟩
 ·have:=h3 (k.size+1) (by omega);rw [<- Nat.add_assoc] at this;rw [this,Fo.flat,wXq,wQo (by rw [k.flat_len]; omega),k.flat_len];simp
 ·have:=h3 (j+1) (by omega);rw [show n+1+j=n+(j+1) by omega,this,Fo.flat,wXq,wQF (by rw [k.flat_len]; omega)]
 ·rw [h4 p (by omega) (by omega),endN,if_neg (by omega),if_pos (by omega)]
 ·rw [h5 p (by omega) (by omega),boxN,if_neg (by omega),if_pos (by omega)]
 ·have:=h3 (k.size+2+j) (by omega);rw [show n+k.size+2+j=n+(k.size+2+j) by omega,this,Fo.flat,show k.size+2+j=(k.size+(j+1))+1 by omega,wXq,wQo (by rw [k.flat_len]; omega),k.flat_len,show k.size+(j+1)-k.size=j+1 by omega,wXq]
 ·rw [h4 p (by omega) (by omega),endN,if_neg (by omega),if_neg (by omega)]
 ·rw [h5 p (by omega) (by omega),boxN,if_neg (by omega),if_neg (by omega)]
theorem Occ.find {s:Scr} {w:Fo}:∀ (f:Fo) (n:Nat),Occ s w n f->∀ p,n<=p->p<n+f.size ->
  (∃ o r,Occ s w p (.draw o r))\/(∃ o k r,Occ s w p (.grp o k r))\/(∃ q o k r,Occ s w q (.grp o k r)/\p=q+k.size+1)
 | .nil,n,h,p,h1,h2=>by simp [Fo.size] at h2; omega
 | .draw o r,n,h,p,h1,h2=>by
  simp only [Fo.size] at h2;by_cases e:p=n
  ·subst e; exact .inl ⟨o,r,h⟩
  ·exact Occ.find r (n+1) h.draw.2.2.2.2.2 p (by omega) (by omega)
 | .grp o k r,n,h,p,h1,h2=>by
  simp only [Fo.size] at h2;obtain ⟨_,_,_,_,_,_,_,_,hk,hr⟩:=h.grp;by_cases e:p=n
  ·subst e; exact .inr (.inl ⟨o,k,r,h⟩)
  ·by_cases e2:p<=n+k.size
   ·exact Occ.find k (n+1) hk p (by omega) (by omega)
   ·by_cases e3:p=n+k.size+1
    ·exact .inr (.inr ⟨n,o,k,r,h,e3⟩)
    ·exact Occ.find r (n+k.size+2) hr p (by omega) (by omega)
variable {p:Nat}
theorem Occ.at (hw:w.ok) (h:p<w.size):
  (∃ o r,Occ s w p (.draw o r))\/(∃ o k r,Occ s w p (.grp o k r))\/(∃ q o k r,Occ s w q (.grp o k r)/\p=q+k.size+1):=
 Occ.find w 0 (Occ.whole s hw) p (by omega) (by omega)
theorem jX3 {l:List Oq} (h:l[n]?=some o):(l[n]?).getD popO=o:=by rw [h]; rfl
theorem zHX (s:Scr) (n:Nat):runB s (n+1)=zHc s n ((s.ops[n]?).getD popO) (runB s n):=rfl
abbrev wZL:=@Nat.add_sub_cancel
theorem jXu {s:Scr} {w:Fo} (hs:s.ops=w.flat):∀ (f:Fo) (n:Nat),Occ s w n f->∀ (A X B:List Rc) (op:List Int) (hs:List Rc) (h:Rc),n=A.length->X.length=f.size->(h=Rc.zero\/h.empty=false) ->
  runB s n=(A++(X++B),op,hs++[h])->runB s (n+f.size)=(A++(boxL s n f++B),op,hs++[(zQQ s f).foldl Rc.hull h])
 | .nil,n,ho,A,X,B,op,hs,h,hn,hX,hh,hr=>by
  have:X=[]:=List.length_eq_zero_iff.1 hX;subst this;exact hr
 | .draw o r,n,ho,A,X,B,op,hs',h,hn,hX,hh,hr=>by
  obtain ⟨x,X,rfl,hX1⟩:=zKG (n:=r.size) hX;obtain ⟨k1,_,k2,k3,k4,k5⟩:=ho.draw;have e1:runB s (n+1)=((A++[boxF s o (imgR s o)])++(X++B),op,hs'++[Rc.hull h (boxF s o (imgR s o))]):=by
   rw [zHX,hr,hs,jX3 k2];unfold zHc zHd;rw [if_neg (by rw [k1]; decide),if_pos k1];simp only [List.cons_append,List.append_assoc,List.nil_append];rw [set_mid' _ hn];have g:(A++boxF s o (imgR s o)::(X++B))[n]?=some (boxF s o (imgR s o)):=by subst hn; simp
   rw [g];simp only [wQG,topB,wQh,wQu,wQQ,wZL];rw [wQo (Nat.le_refl _),wZs,wXz,wQG,jJo hh,set_mid' (A:=hs') _ (by simp)]
  have ih:=jXu hs r (n+1) k5 _ X B op hs' _ (by simp [hn]) hX1 (jJn hh) e1;rw [zUY,Fo.size,show n+(r.size+1)=n+1+r.size by omega,ih];simp [zQQ]
 | .grp o k r,n,ho,A,X,B,op,hs',h,hn,hX,hh,hr=>by
  obtain ⟨x,X,rfl,hX1⟩:=zKG (n:=k.size+r.size+1) hX;obtain ⟨U,V,rfl,hU,hV⟩:=jUH (a:=k.size) (b:=r.size+1) (by omega:X.length=_);obtain ⟨y,V,rfl,hV1⟩:=zKG (n:=r.size) hV;obtain ⟨k1,_,k2,k3,k4,k5,k6,k7,k8,k9⟩:=ho.grp;have e1:runB s (n+1)=((A++[x])++(U++(y::(V++B))),op++[(n:Int)],(hs'++[h])++[Rc.zero]):=by
   rw [zHX,hr,hs,jX3 k2];unfold zHc;rw [if_pos k1];simp
  have ik:=jXu hs k (n+1) k8 _ U _ _ _ _ (by simp [hn]) hU (.inl rfl) e1;have e2:runB s (n+1+k.size+1)=((A++boxF s o (zZ3 (zQQ s k))::(boxL s (n+1) k++[boxF s o (zZ3 (zQQ s k))]))++(V++B),op,hs'++[Rc.hull h (boxF s o (zZ3 (zQQ s k)))]):=by
   rw [zHX,ik,hs,show n+1+k.size=n+k.size+1 by omega,jX3 k3];have ep:(((op++[(n:Int)])[(op++[(n:Int)]).length-1]?).getD 0).toNat=n:=by simp
   have eh:(((hs'++[h]++[(zQQ s k).foldl Rc.hull Rc.zero])[(hs'++[h]++[(zQQ s k).foldl Rc.hull Rc.zero]).length-1]?).getD Rc.zero)=zZ3 (zQQ s k):=by
    simp only [wQh,wQu,wQQ,wZL];rw [wQo (by simp)];simp [zZ3]
   unfold zHc zHd;rw [if_neg (by rw [jQf]; decide),if_neg (by rw [jQf]; decide)];simp only [ep,eh,hs,jX3 k2,wQN];have s1:(A++[x]++(boxL s (n+1) k++y::(V++B))).set (n+k.size+1) (boxF s o (zZ3 (zQQ s k)))=A++x::(boxL s (n+1) k++boxF s o (zZ3 (zQQ s k))::(V++B)):=by
    have:=set_mid' (A:=A++[x]++boxL s (n+1) k) (x:=y) (B:=V++B) (boxF s o (zZ3 (zQQ s k))) (n:=n+k.size+1) (by simp [zYi]; omega);simpa only [List.append_assoc,List.cons_append,List.nil_append] using this
   rw [s1,set_mid' _ hn];have g:(A++boxF s o (zZ3 (zQQ s k))::(boxL s (n+1) k++boxF s o (zZ3 (zQQ s k))::(V++B)))[n+k.size+1]?=some (boxF s o (zZ3 (zQQ s k))):=by
    have:(A++boxF s o (zZ3 (zQQ s k))::boxL s (n+1) k++boxF s o (zZ3 (zQQ s k))::(V++B))[n+k.size+1]?=some (boxF s o (zZ3 (zQQ s k))):=by
     rw [wQo (by simp [zYi]; omega)];have:n+k.size+1-(A++boxF s o (zZ3 (zQQ s k))::boxL s (n+1) k).length=0:=by simp [zYi]; omega
     rw [this]; rfl
    simpa only [List.append_assoc,List.cons_append] using this
   rw [g];simp only [wQG,topB,wQh,wQu,wQQ,wZL];rw [wQo (Nat.le_refl _),wZs,wXz,wQG,jJo hh,set_mid' (A:=hs') _ (by simp)];simp
  have ir:=jXu hs r (n+k.size+2) k9 (A++boxF s o (zZ3 (zQQ s k))::(boxL s (n+1) k++[boxF s o (zZ3 (zQQ s k))])) V B op hs' _ (by simp [zYi]; omega) hV1 (jJn hh) (by rw [show n+k.size+2=n+1+k.size+1 by omega]; exact e2);rw [zHD,Fo.size,show n+(k.size+r.size+2)=n+k.size+2+r.size by omega,ir];simp [zQQ]
theorem jVW (hw:w.ok) (hs:s.ops=w.flat):(runB s s.ops.length).1=boxL s 0 w:=by
 have h:=jXu hs w 0 (Occ.whole s hw) [] (List.replicate s.ops.length Rc.zero) [] [] [] Rc.zero rfl (by rw [wXx,hs,w.flat_len]) (.inl rfl) (by simp [runB]);rw [hs,w.flat_len];rw [Nat.zero_add] at h;rw [h];simp
theorem yZg (h:s.run.1=0):∃ w:Fo,w.ok/\s.ops=w.flat:=jVQ (zYx h).2
open Classical in
noncomputable def foOf (s:Scr):Fo:=if h:∃ w:Fo,w.ok/\s.ops=w.flat then Classical.choose h else .nil
theorem zXm (h:s.run.1=0):(foOf s).ok/\s.ops=(foOf s).flat:=by
 have h:=yZg h;unfold foOf;rw [dif_pos h];exact Classical.choose_spec h
theorem zZS (h:s.run.1=0):s.ops.length=(foOf s).size:=by
 have e:=congrArg List.length (zXm h).2;rw [Fo.flat_len] at e;exact e
theorem jU5 (h:s.run.1=0):zZx s.ops=(endF 0 (foOf s),0):=by
 rw [(zXm h).2];have:=jHo (zXm h).1;generalize foOf s=w at *;exact this
def enAt (s:Scr) (p:Nat):Nat:=(((zZx s.ops).1[p]?).getD 0).toNat
def bxAt (s:Scr) (p:Nat):Rc:=((zXA s).1[p]?).getD Rc.zero
def opAt (s:Scr) (p:Nat):Oq:=(s.ops[p]?).getD popO
theorem jHn (h:s.run.1=0):(zZx s.ops).1.length=s.ops.length/\(zZx s.ops).2=0:=by
 rw [jU5 h,zJ5,<- zZS h];exact ⟨rfl,rfl⟩
theorem zXL (h:s.run.1=0) (hp:p<s.ops.length):(zZx s.ops).1[p]?=some ((endN 0 (foOf s) p:Nat):Int)/\enAt s p=endN 0 (foOf s) p:=by
 have e:(zZx s.ops).1[p]?=some ((endN 0 (foOf s) p:Nat):Int):=by
  rw [jU5 h];simp only [endF,Nat.zero_add];rw [wQS,wZS (by rw [<- zZS h]; exact hp)];rfl
 exact ⟨e,by unfold enAt; rw [e]; simp⟩
theorem jKW (h:s.run.1=0) (hp:p<s.ops.length):(zZx s.ops).1[p]?=some ((enAt s p:Nat):Int):=by
 rw [(zXL h hp).2];exact (zXL h hp).1
theorem jVV (h:s.run.1=0):(zXA s).1=boxL s 0 (foOf s)/\(zXA s).2=0/\(zXA s).1.length=s.ops.length:=by
 have e:=jVW (zXm h).1 (zXm h).2;unfold zXA;rw [if_pos h,e];exact ⟨rfl,rfl,by rw [zYi,<- zZS h]⟩
theorem zK9 (h:s.run.1=0) (hp:p<s.ops.length):bxAt s p=boxN s 0 (foOf s) p:=by
 unfold bxAt;rw [(jVV h).1];simp only [boxL,Nat.zero_add];rw [wQS,wZS (by rw [<- zZS h]; exact hp)];rfl
theorem jGh (h:s.run.1≠0):zXA s=([],s.run.1):=by
 unfold zXA; rw [if_neg h]
theorem yQY (h:s.run.1=0) (hp:p<s.ops.length):
  (∃ o r,Occ s (foOf s) p (.draw o r)/\opAt s p=o/\o.kind=1/\enAt s p=p/\bxAt s p=boxF s o (imgR s o)) \/
  (∃ o k r,Occ s (foOf s) p (.grp o k r)/\opAt s p=o/\o.kind=2/\enAt s p=p+k.size+1/\bxAt s p=boxF s o (zZ3 (zQQ s k))/\p+k.size+1<s.ops.length) \/
  (∃ q o k r,Occ s (foOf s) q (.grp o k r)/\p=q+k.size+1/\opAt s p=popO/\enAt s p=p/\opAt s q=o/\o.kind=2/\enAt s q=p/\bxAt s p=bxAt s q):=by
 obtain ⟨hw,hs⟩:=zXm h;have hz:=zZS h;have g:∀ {q:Nat} {o:Oq},(foOf s).flat[q]?=some o->opAt s q=o:=λ{q o} hq=>by
  unfold opAt;have:s.ops[q]?=some o:=by rw [<- hq]; exact congrArg (λl:List Oq=>l[q]?) hs
  rw [this]; rfl
 rcases Occ.at (s:=s) hw (p:=p) (by omega) with ⟨o,r,ho⟩ | ⟨o,k,r,ho⟩ | ⟨q,o,k,r,ho,e⟩
 ·obtain ⟨k1,k0,k2,k3,k4,k5⟩:=ho.draw;exact .inl ⟨o,r,ho,g k2,k1,by rw [(zXL h hp).2]; exact k3,by rw [zK9 h hp]; exact k4⟩
 ·obtain ⟨k1,k0,k2,k3,k4,k5,k6,k7,k8,k9⟩:=ho.grp;exact .inr (.inl ⟨o,k,r,ho,g k2,k1,by rw [(zXL h hp).2]; exact k4,by rw [zK9 h hp]; exact k6,by omega⟩)
 ·obtain ⟨k1,k0,k2,k3,k4,k5,k6,k7,k8,k9⟩:=ho.grp;subst e;exact .inr (.inr ⟨q,o,k,r,ho,rfl,g k3,by rw [(zXL h hp).2]; exact k5,g k2,k1,by rw [(zXL h (by omega)).2]; exact k4,by rw [zK9 h hp,zK9 h (by omega),k7,k6]⟩)
theorem zGI (h:s.run.1=0) (hp:p<s.ops.length):p<=enAt s p/\enAt s p<s.ops.length:=by
 have:=zK6 (foOf s) 0 p (by omega) (by rw [<- zZS h]; omega);rw [<- zZS h] at this;rw [(zXL h hp).2];omega
theorem zUV (h:s.run.1=0) {q:Nat} (hp:p<s.ops.length) (h1:p<q) (h2:q<=enAt s p):enAt s q<=enAt s p:=by
 have he:=zGI h hp;have:=zUU (foOf s) 0 p q (by omega) (by rw [<- zZS h]; omega) h1 (by rw [<- (zXL h hp).2]; exact h2);rw [(zXL h hp).2,(zXL h (p:=q) (by omega)).2];exact this
theorem jY7 (h:s.run.1=0) (hp:p<s.ops.length):(opAt s p).kind=1\/(opAt s p).kind=2\/((opAt s p).kind=3/\∃ q,q<p/\(opAt s q).kind=2/\enAt s q=p/\bxAt s p=bxAt s q):=by
 rcases yQY h hp with ⟨o,r,_,e1,e2,_⟩ | ⟨o,k,r,_,e1,e2,_⟩ | ⟨q,o,k,r,_,e0,e1,_,e2,e3,e4,e5⟩
 ·exact .inl (by rw [e1]; exact e2)
 ·exact .inr (.inl (by rw [e1]; exact e2))
 ·exact .inr (.inr ⟨by rw [e1]; rfl,q,by omega,by rw [e2]; exact e3,e4,e5⟩)
theorem jU7 (h:s.run.1=0) (hp:p<s.ops.length) (hk:(opAt s p).kind≠2):enAt s p=p:=by
 rcases yQY h hp with ⟨o,r,_,e1,e2,e3,_⟩ | ⟨o,k,r,_,e1,e2,_⟩ | ⟨q,o,k,r,_,e0,e1,e2,_⟩
 ·exact e3
 ·exact absurd (by rw [e1]; exact e2) hk
 ·exact e2
theorem jYW (h:s.run.1=0) (hp:p<s.ops.length) (hk:(opAt s p).kind=2):p<enAt s p/\(opAt s (enAt s p)).kind=3/\bxAt s (enAt s p)=bxAt s p/\enAt s (enAt s p)=enAt s p:=by
 rcases yQY h hp with ⟨o,r,_,e1,e2,e3,_⟩ | ⟨o,k,r,ho,e1,e2,e3,e4,e5⟩ | ⟨q,o,k,r,_,e0,e1,e2,_⟩
 ·rw [e1] at hk; omega
 ·obtain ⟨k1,k0,k2,k3,k4,k5,k6,k7,k8,k9⟩:=ho.grp;rw [e3];refine ⟨by omega,?_,?_,by rw [(zXL h (by omega)).2]; exact k5⟩
  ·have:opAt s (p+k.size+1)=popO:=by
    unfold opAt;have:s.ops[p+k.size+1]?=some popO:=by rw [<- k3]; exact congrArg (λl:List Oq=>l[p+k.size+1]?) (zXm h).2
    rw [this]; rfl
   rw [this]; rfl
  ·rw [zK9 h (by omega),zK9 h hp,k7,k6]
 ·rw [e1] at hk; exact absurd hk (by decide)
def bs (l:List Bool):List DV:=l.map .bool
theorem jQ0 (l:List Bool):(bs l).length=l.length:=by simp [bs]
variable {v:Bool}
theorem jGf {l:List Bool} (h:l[k]?=some v):(bs l)[k]?=some (.bool v):=by simp [bs,h]
theorem jGg {l:List Bool} (h:l[k]?=some v):bAt (bs l) k=v:=by simp [bAt,jGf h]
theorem yZH (l:List Bool) (k:Nat) (v:Bool):(bs l).set k (.bool v)=bs (l.set k v):=by simp [bs]
theorem yQV (n:Nat):bs (List.replicate n false)=List.replicate n (.bool false):=by simp [bs]
variable {v:Int}
theorem jVL {l:List Int} (h:l[k]?=some v):(is l)[k]?=some (.int .i64 v):=by simp [is,h]
theorem jUJ {l:List Int} (h:l[k]?=some v):nAt (is l) k=v:=by simp [nAt,jVL h]
def hitB (s:Scr) (r:Rc) (p:Nat):Bool:=!(Rc.inter (bxAt s p) r).empty
def jGs (s:Scr) (r:Rc) (i k:Nat):Bool:=hitB s r i&&(List.range k).all λj=>!(decide ((opAt s j).kind=2)&&decide (i<enAt s j)) || hitB s r j
def zXZ (s:Scr) (r:Rc) (i:Nat):Bool:=jGs s r i i
def zXN (s:Scr) (r:Rc):List Bool × Int:=if s.run.1=0 then ((List.range s.ops.length).map (zXZ s r),0) else ([],s.run.1)
def zJy (s:Scr) (r:Rc) (k:Nat):List Bool:=(List.range s.ops.length).map λp=>decide (p<k)&&zXZ s r p
def Live (s:Scr) (r:Rc) (k:Nat):Prop:=∀ j,j<k->(opAt s j).kind=2->k<enAt s j->hitB s r j=true
theorem jWI (s:Scr) (r:Rc):zJy s r 0=List.replicate s.ops.length false:=by
 refine wQT (by simp [zJy]) λp h1 h2=>?_;simp [zJy]
theorem jGr (s:Scr) (r:Rc):zJy s r s.ops.length=(List.range s.ops.length).map (zXZ s r):=by
 refine List.map_congr_left λp hp=>?_;rw [wQx] at hp;simp [hp]
theorem jGq (s:Scr) (r:Rc) (k:Nat):(zJy s r k).length=s.ops.length:=by simp [zJy]
theorem jXi (s:Scr) (r:Rc) (k:Nat):(zJy s r k).set k (zXZ s r k)=zJy s r (k+1):=by
 refine wQT (by simp [zJy]) λp h1 h2=>?_;rw [List.getElem_set];simp only [zJy,List.getElem_map,wQ4];split
 ·rename_i e; subst e; simp
 ·rename_i e;have:(p<k)↔(p<k+1):=by omega
  simp [this]
theorem zUI {r:Rc} (h:Live s r k):zXZ s r k=hitB s r k:=by
 unfold zXZ jGs;have:((List.range k).all λj=>!(decide ((opAt s j).kind=2)&&decide (k<enAt s j)) || hitB s r j)=true:=by
  rw [List.all_eq_true];intro j hj;rw [wQx] at hj;have:=h j hj;by_cases c1:(opAt s j).kind=2<;>by_cases c2:k<enAt s j<;>simp [c1,c2];exact this c1 c2
 rw [this,wXE]
theorem jUE (s:Scr) (r:Rc):Live s r 0:=λj hj=>by omega
theorem jJb {r:Rc} (h:Live s r k) (hk:¬ ((opAt s k).kind=2/\hitB s r k=false)):Live s r (k+1):=by
 intro j hj h2 h3;by_cases e:j=k
 ·subst e
  cases hb:hitB s r j with
  | true=>rfl
  | false=>exact absurd ⟨h2,hb⟩ hk
 ·exact h j (by omega) h2 (by omega)
abbrev wYu:=@Nat.lt_trichotomy
abbrev wX1:=@Bool.false_and
abbrev wXF:=@Bool.and_false
theorem jUF {r:Rc} (hv:s.run.1=0) (hk:k<s.ops.length) (h:Live s r k) (h2:(opAt s k).kind=2) (hb:hitB s r k=false):
  Live s r (enAt s k+1)/\zJy s r (enAt s k+1)=zJy s r k:=by
 have he:=zGI hv hk;obtain ⟨p1,p2,p3,p4⟩:=jYW hv hk h2;refine ⟨λj hj j2 j3=>?_,?_⟩
 ·rcases wYu j k with c | c | c
  ·exact h j c j2 (by omega)
  ·subst c; omega
  ·by_cases e:j=enAt s k
   ·rw [e] at j2; omega
   ·have:=zUV hv hk c (by omega);omega
 ·refine wQT (by simp [zJy]) λp h1 h1'=>?_;simp only [zJy,List.getElem_map,wQ4];by_cases c1:p<k
  ·have:p<enAt s k+1:=by omega
   simp [c1,this]
  ·by_cases c2:p<enAt s k+1
   ·have:zXZ s r p=false:=by
     by_cases e1:p=k
     ·rw [e1,zUI h,hb]
     ·by_cases e2:p=enAt s k
      ·have:hitB s r p=false:=by rw [<- hb,e2]; unfold hitB; rw [p3]
       unfold zXZ jGs;rw [this,wX1]
      ·unfold zXZ jGs;have:((List.range p).all λj=>!(decide ((opAt s j).kind=2)&&decide (p<enAt s j)) || hitB s r j)=false:=by
        rw [List.all_eq_false];refine ⟨k,wQx.2 (by omega),?_⟩;have:p<enAt s k:=by omega
        simp [h2,hb,this]
       rw [this,wXF]
    simp [this]
   ·simp [c1,c2]
structure Lv where
  op:Oq
  acc:Ac
  back:Px
def zQI:Lv:=⟨⟨2,0,0,0,0,0,0,0,0,0,true,false⟩,.zero,.zero⟩
def topL (L:List Lv):Lv:=(L[L.length-1]?).getD zQI
def zXd (p:Px) (k m:Int):Bool:=zQH m&&(p.ok m&&decide (k<=m))
def zQm (p:Px) (k m:Int):Px × Bool:=if zXd p k m then (zZZ p k m,true) else (.zero,false)
def zXM (p:Px) (a b m:Int):Px × Bool:=if zXd p a m then zQm (zZZ p a m) b m else (.zero,false)
def zQh (m:Int) (o:Oq) (p:Px) (mask:Int):Px × Bool:=zXM p (if o.mask=0 then m else mask) o.opac m
def zZc (m:Int) (L:List Lv) (o:Oq) (p:Px):Bool:=zZn (topL L).op.kno o.oper o.mode m p (topL L).acc (topL L).back
def zQB (m:Int) (L:List Lv) (o:Oq) (p:Px):List Lv:=if zZc m L o p then L.set (L.length-1) ⟨(topL L).op,accS (topL L).op.kno o.oper o.mode m p (topL L).acc (topL L).back,(topL L).back⟩ else L
def zYV (m:Int) (L:List Lv) (o:Oq) (p:Px) (mask:Int):List Lv:=if o.kind=1/\(zQh m o p mask).2=true then zQB m L o (zQh m o p mask).1 else L
def zZ2 (L:List Lv) (o:Oq):List Lv:=if o.kind=2/\L.length<65 then L++[⟨o,(zQM o.iso (topL L).op.kno (topL L).acc (topL L).back).1,(zQM o.iso (topL L).op.kno (topL L).acc (topL L).back).2⟩] else L
def resB (m:Int) (t:Lv):Bool:=t.acc.ok t.back m
def resL (m:Int) (t:Lv):Px:=if resB m t then zZb t.acc t.back m else .zero
def popL (m:Int) (L:List Lv) (mask:Int):List Lv:=
 if L.length<=1 then L
 else if (zQh m (topL L).op (resL m (topL L)) mask).2=false then L
 else if resB m (topL L)&&zZc m L.dropLast (topL L).op (zQh m (topL L).op (resL m (topL L)) mask).1 then zQB m L.dropLast (topL L).op (zQh m (topL L).op (resL m (topL L)) mask).1
 else L
def zJL (m:Im) (x y dx dy:Int):Px:=if x<dx\/y<dy\/x-dx>=1099511627776\/y-dy>=1099511627776 then .zero else m.at_ (x-dx) (y-dy)
def zXg (ms:List Im) (i x y dx dy:Int):Px:=if 0<=i then match ms[i.toNat]? with
 | some m=>zJL m x y dx dy
 | none=>.zero
 else .zero
def srcS (ms:List Im) (o:Oq) (x y:Int):Px:=if o.kind=1 then zXg ms o.image x y o.x o.y else .zero
def zQJ (ms:List Im) (o:Oq) (x y:Int):Int:=if 1<=o.mask then (zXg ms (o.mask-1) x y o.mx o.my).al else 0
def zXb (m:Int) (ms:List Im) (x y:Int) (L:List Lv) (o:Oq):List Lv:=
 if o.kind=1 then zYV m L o (srcS ms o x y) (zQJ ms o x y)
 else if o.kind=2 then zZ2 L o
 else if o.kind=3 then popL m L (zQJ ms (topL L).op x y)
 else L
def runM (m:Int) (ms:List Im) (x y:Int) (l:List Oq) (L:List Lv):List Lv:=l.foldl (zXb m ms x y) L
theorem zY3 (m:Int) (ms:List Im) (x y:Int) (l k:List Oq) (L:List Lv):runM m ms x y (l++k) L=runM m ms x y k (runM m ms x y l L):=List.foldl_append
theorem zZ1 (m:Int) (ms:List Im) (x y:Int) (o:Oq) (k:List Oq) (L:List Lv):runM m ms x y (o::k) L=runM m ms x y k (zXb m ms x y L o):=rfl
def zYo (m:Int) (ms:List Im) (x y:Int) (l:List Oq):Px:=
 let L:=runM m ms x y l [zQI]
 if 1<L.length then .zero else resL m ((L[0]?).getD zQI)
def Fo.vf (bits:Int) (mn:Nat):List Oq->Fo->Prop
 | st,.nil=>True
 | st,.draw o r=>o.kind=1/\errO bits mn o st=0/\r.vf bits mn st
 | st,.grp o k r=>o.kind=2/\errO bits mn o st=0/\k.vf bits mn (st++[o])/\r.vf bits mn st
theorem zUo (h:o.kind=1):zXR o st=st:=by
 unfold zXR; rw [if_neg (by omega),if_neg (by omega)]
theorem zUn (h:o.kind=2):zXR o st=st++[o]:=by
 unfold zXR; rw [if_pos h]
theorem jVd:zXR popO st=st.dropLast:=by
 have h1:popO.kind=3:=rfl;unfold zXR; rw [if_neg (by rw [h1]; decide),if_pos h1]
theorem jQn {bits:Int} {mn:Nat}:∀ (f:Fo) (st st':List Oq),f.ok->okO bits mn f.flat st=some st'->f.vf bits mn st/\st'=st
 | .nil,st,st',_,h=>⟨trivial,by simpa [Fo.flat,okO] using h.symm⟩
 | .draw o r,st,st',hf,h=>by
  simp only [Fo.flat,okO] at h;split at h
  ·rename_i he;rw [zUo hf.1] at h;have ⟨h1,h2⟩:=jQn r st st' hf.2 h;exact ⟨⟨hf.1,he,h1⟩,h2⟩
  ·cases h
 | .grp o k r,st,st',hf,h=>by
  simp only [Fo.flat,okO] at h;split at h
  ·rename_i he;rw [zUn hf.1,zKh] at h
   cases hk:okO bits mn k.flat (st++[o]) with
   | none=>rw [hk] at h; cases h
   | some s1=>
    rw [hk] at h;have ⟨k1,k2⟩:=jQn k (st++[o]) s1 hf.2.1 hk;subst k2;simp only [wYa,okO] at h;split at h
    ·rw [jVd,wQN] at h;have ⟨h1,h2⟩:=jQn r st st' hf.2.2 h;exact ⟨⟨hf.1,he,k1,h1⟩,h2⟩
    ·cases h
  ·cases h
theorem jZy {bits:Int} {mn:Nat}:∀ (f:Fo) (st:List Oq),f.vf bits mn st->f.ok/\okO bits mn f.flat st=some st
 | .nil,st,_=>⟨trivial,rfl⟩
 | .draw o r,st,h=>by
  obtain ⟨h1,h2,h3⟩:=h;have ⟨i1,i2⟩:=jZy r st h3;refine ⟨⟨h1,i1⟩,?_⟩;simp only [Fo.flat,okO];rw [if_pos h2,zUo h1]; exact i2
 | .grp o k r,st,h=>by
  obtain ⟨h1,h2,h3,h4⟩:=h;have ⟨k1,k2⟩:=jZy k (st++[o]) h3;have ⟨i1,i2⟩:=jZy r st h4;refine ⟨⟨h1,k1,i1⟩,?_⟩;simp only [Fo.flat,okO];rw [if_pos h2,zUn h1,zKh,k2];simp only [wYa,okO];rw [if_pos (jYd (by simp)),jVd,wQN]; exact i2
theorem zQL {bits:Int} (hk:o.kind=1\/o.kind=2) (h:errO bits mn o st=0):
  (o.kind=1->0<=o.image/\o.image<mn)/\(0<=o.mask/\o.mask<=mn)/\(zZX o.x=true/\zZX o.y=true/\zZX o.mx=true/\zZX o.my=true)/\o.opac<=zQi bits/\isNm o.oper=true/\isNm o.mode=true/\(o.oper=4\/ctxB st=true)/\(o.kind=2->st.length<64):=by
 unfold errO at h;split at h
 ·cases h
 split at h
 ·cases h
 split at h
 ·omega
 split at h
 ·cases h
 rename_i hm;split at h
 ·cases h
 rename_i hn;split at h
 ·cases h
 split at h
 ·cases h
 rename_i h1;split at h
 ·cases h
 rename_i h2;split at h
 ·cases h
 rename_i h3;split at h
 ·cases h
 rename_i h4;refine ⟨λq=>?_,?_,wXc.1 hn,by omega,decide_eq_true (wXc.1 h1),decide_eq_true (wXc.1 h2),?_,λq=>?_⟩
 ·omega
 ·omega
 ·by_cases q:o.oper=4
  ·exact .inl q
  ·refine .inr ?_
   cases hc:ctxB st with
   | true=>rfl
   | false=>exact absurd ⟨q,hc⟩ h3
 ·omega
structure zJo (m:Int) (ms:List Im):Prop where
  full:zQH m=true
  px:∀ i∈ms,∀ x y,(i.at_ x y).ok m=true/\(i.at_ x y).nn
structure StOk (m:Int) (st:List Oq) (L:List Lv):Prop where
  ops:L.map Lv.op=zQI.op::st
  lv:∀ t∈L,LvOk m t.op.iso t.op.kno t.acc t.back
  opac:∀ o∈st,0<=o.opac/\o.opac<=m
variable {m:Int} {L:List Lv}
theorem StOk.len (h:StOk m st L):L.length=st.length+1:=by
 have:=congrArg List.length h.ops;simpa using this
theorem zQT (P:List Lv) (t:Lv):topL (P++[t])=t:=by simp [topL]
theorem StOk.split (h:StOk m st L):∃ P t,L=P++[t]:=by
 have:=h.len;have hne:L≠[]:=by intro e; rw [e] at this; simp at this
 exact ⟨L.dropLast,L.getLast hne,(wYE hne).symm⟩
variable {t:Lv} {P:List Lv}
theorem yQS (h:StOk m st (P++[t])) (hc:ctxB st=true):t.op.iso=true/\t.op.kno=false:=by
 have e:=h.ops;rw [wZj,wQg,wQm] at e
 cases st with
 | nil=>
  have:P.map Lv.op=[]/\t.op=zQI.op:=by
   cases hp:P.map Lv.op with
   | nil=>rw [hp] at e; simpa using e
   | cons a r=>rw [hp] at e; simp at e
  rw [this.2]; exact ⟨rfl,rfl⟩
 | cons a r=>
  have e2:(zQI.op::a::r).getLast?=some t.op:=by rw [<- e]; simp
  rw [List.getLast?_cons_cons] at e2;unfold ctxB at hc;rw [e2] at hc;simpa using hc
abbrev wZW:=@List.length_singleton
theorem zWa (P:List Lv) (t u:Lv):(P++[t]).set ((P++[t]).length-1) u=P++[u]:=by
 rw [wQh,wZW,wZL,List.set_append_right _ _ (Nat.le_refl _),wZs]; rfl
variable {ms:List Im}
theorem jUA (h:zJo m ms) (i x y dx dy:Int):(zXg ms i x y dx dy).ok m=true/\(zXg ms i x y dx dy).nn:=by
 have z:=zWT (m:=m) (by have:=(zQO h.full).1; omega);unfold zXg;split
 ·split
  ·rename_i im hi;unfold zJL;split
   ·exact z
   ·exact h.px _ (wZ5 hi) _ _
  ·exact z
 ·exact z
theorem zHM (h:zJo m ms) (o:Oq) (x y:Int):(srcS ms o x y).ok m=true/\(srcS ms o x y).nn:=by
 unfold srcS;split
 ·exact jUA h _ _ _ _ _
 ·exact zWT (by have:=(zQO h.full).1; omega)
theorem zJM (h:zJo m ms) (o:Oq) (x y:Int):0<=zQJ ms o x y/\zQJ ms o x y<=m:=by
 have hm:=(zQO h.full).1;unfold zQJ;split
 ·obtain ⟨a,b,c,d⟩:=jUA h (o.mask-1) x y o.mx o.my;obtain ⟨q1,q2,q3,q4,q5⟩:=Px.ok_iff.1 a;omega
 ·omega
variable {p:Px}
theorem zJa {mask:Int} (hf:zQH m=true) (hp:p.ok m=true) (hn:p.nn) (h0:0<=mask) (h1:mask<=m) (o0:0<=o.opac) (o1:o.opac<=m):
  zQh m o p mask=(zZZ (zZZ p (if o.mask=0 then m else mask) m) o.opac m,true)/\(zQh m o p mask).1.ok m=true/\(zQh m o p mask).1.nn:=by
 have hm:=(zQO hf).1;have hk:0<=(if o.mask=0 then m else mask)/\(if o.mask=0 then m else mask)<=m:=by split<;>omega
 have ⟨a1,a2⟩:=zUq hm hp hn hk.1 hk.2;have ⟨b1,b2⟩:=zUq hm a1 a2 o0 o1;have e:zQh m o p mask=(zZZ (zZZ p (if o.mask=0 then m else mask) m) o.opac m,true):=by
  unfold zQh zXM zQm zXd;rw [hf,hp,a1,decide_eq_true hk.2,decide_eq_true o1];rfl
 rw [e];exact ⟨rfl,b1,b2⟩
theorem zJB (h:StOk m st (P++[t])) (hp:p.ok m=true) (hn:p.nn) (h1:isNm o.oper=true) (h2:isNm o.mode=true) (hop:o.oper=4\/ctxB st=true):
  zZc m (P++[t]) o p=true/\∃ x,zQB m (P++[t]) o p=P++[⟨t.op,x,t.back⟩]/\StOk m st (P++[⟨t.op,x,t.back⟩]):=by
 have ht:=h.lv t (by simp);have hc:o.oper=4\/(t.op.iso=true/\t.op.kno=false):=hop.imp id (yQS h);have ⟨k1,k2⟩:=jH5 ht hp hn h1 h2 hc;have e:zZc m (P++[t]) o p=true:=by unfold zZc; rw [zQT]; exact k1
 refine ⟨e,accS t.op.kno o.oper o.mode m p t.acc t.back,?_,?_⟩
 ·unfold zQB;rw [if_pos e,zQT,zWa]
 ·refine ⟨by have:=h.ops; simpa using this,λu hu=>?_,h.opac⟩
  rcases List.mem_append.1 hu with hu | hu
  ·exact h.lv u (by simp [hu])
  ·rw [wQk.1 hu]; exact k2
theorem jZW (h:StOk m st (P++[t])) (hn:zZz o.oper=true):zQB m (P++[t]) o .zero=P++[t]:=by
 unfold zQB;split
 ·rename_i hb;unfold zZc at hb;rw [zQT] at hb;have ht:=h.lv t (by simp);rw [zQT,jGt hn ht.nn ht.kn hb,zWa]
 ·rfl
theorem zUW {bits:Int} (hi:zJo m ms) (hb:zQi bits=m) (h:StOk m st (P++[t])) (hk:o.kind=1) (h0:0<=o.opac) (he:errO bits ms.length o st=0) (x y:Int):
  ∃ a,zXb m ms x y (P++[t]) o=P++[⟨t.op,a,t.back⟩]/\StOk m st (P++[⟨t.op,a,t.back⟩]):=by
 obtain ⟨_,_,_,f1,f2,f3,f4,_⟩:=zQL (.inl hk) he;have ⟨s1,s2⟩:=zHM hi o x y;have ⟨m1,m2⟩:=zJM hi o x y;obtain ⟨e,s3,s4⟩:=zJa (o:=o) hi.full s1 s2 m1 m2 h0 (by omega);obtain ⟨_,a,ha,hs⟩:=zJB h s3 s4 f2 f3 f4;refine ⟨a,?_,hs⟩;unfold zXb zYV;rw [if_pos hk,if_pos ⟨hk,by rw [e]⟩];exact ha
theorem zVH {bits:Int} (hb:zQi bits=m) (h:StOk m st (P++[t])) (hk:o.kind=2) (h0:0<=o.opac) (he:errO bits ms.length o st=0) (x y:Int):
  zXb m ms x y (P++[t]) o=(P++[t])++[⟨o,(zQM o.iso t.op.kno t.acc t.back).1,(zQM o.iso t.op.kno t.acc t.back).2⟩]/\StOk m (st++[o]) ((P++[t])++[⟨o,(zQM o.iso t.op.kno t.acc t.back).1,(zQM o.iso t.op.kno t.acc t.back).2⟩]):=by
 obtain ⟨_,_,_,f1,f2,f3,f4,f5⟩:=zQL (.inr hk) he;have hl:=h.len;have f5:=f5 hk;constructor
 ·unfold zXb zZ2;rw [if_neg (by omega),if_pos hk,if_pos ⟨hk,by omega⟩,zQT]
 ·refine ⟨?_,λu hu=>?_,λq hq=>?_⟩
  ·rw [wZj,h.ops]; rfl
  ·rcases List.mem_append.1 hu with hu | hu
   ·exact h.lv u hu
   ·rw [wQk.1 hu]; exact jHx (h.lv t (by simp))
  ·rcases List.mem_append.1 hq with hq | hq
   ·exact h.opac q hq
   ·rw [wQk.1 hq]; omega
abbrev wYv:=@List.append_inj'
variable {u:Lv}
theorem StOk.pre (h:StOk m (st++[o]) (L++[u])):u.op=o/\StOk m st L:=by
 have e:=h.ops;rw [wZj,wQg,wQm,show zQI.op::(st++[o])=(zQI.op::st)++[o] from rfl] at e;have ⟨e1,e2⟩:=wYv e rfl;refine ⟨by simpa using e2,e1,λt ht=>h.lv t (by simp [ht]),λq hq=>h.opac q (by simp [hq])⟩
theorem jZS (hi:zJo m ms) (h:StOk m (st++[o]) ((P++[t])++[u])) (h1:isNm o.oper=true) (h2:isNm o.mode=true) (hop:o.oper=4\/ctxB st=true) (x y:Int):
  zXb m ms x y ((P++[t])++[u]) popO=zQB m (P++[t]) o (zQh m o (zZb u.acc u.back m) (zQJ ms o x y)).1/\∃ a,zQB m (P++[t]) o (zQh m o (zZb u.acc u.back m) (zQJ ms o x y)).1=P++[⟨t.op,a,t.back⟩]/\StOk m st (P++[⟨t.op,a,t.back⟩]):=by
 obtain ⟨eo,hs⟩:=h.pre;have hu:=h.lv u (by simp);have ⟨r1,r2⟩:=zKs hu;have ⟨m1,m2⟩:=zJM hi o x y;have ⟨o1,o2⟩:=h.opac o (by simp);obtain ⟨e,s3,s4⟩:=zJa (o:=o) hi.full r1 r2 m1 m2 o1 o2;obtain ⟨pb,a,ha,hs2⟩:=zJB hs s3 s4 h1 h2 hop;have rb:resB m u=true:=hu.ok;have rl:resL m u=zZb u.acc u.back m:=by unfold resL; rw [if_pos rb]
 refine ⟨?_,a,ha,hs2⟩;have k3:popO.kind=3:=rfl;unfold zXb popL;rw [if_neg (by rw [k3]; decide),if_neg (by rw [k3]; decide),if_pos k3,if_neg (by simp),zQT,eo,rl,if_neg (by rw [e]; simp),wQN,rb,pb];rfl
theorem zKO {m:Int} {bits:Int} {ms:List Im} (hi:zJo m ms) (hb:zQi bits=m) (x y:Int):∀ (f:Fo) (st:List Oq) (P:List Lv) (t:Lv),f.vf bits ms.length st->(∀ o∈f.flat,0<=o.opac)->StOk m st (P++[t]) ->
  ∃ a,runM m ms x y f.flat (P++[t])=P++[⟨t.op,a,t.back⟩]/\StOk m st (P++[⟨t.op,a,t.back⟩])
 | .nil,st,P,t,_,_,h=>⟨t.acc,rfl,h⟩
 | .draw o r,st,P,t,hv,ho,h=>by
  obtain ⟨a,e,h1⟩:=zUW hi hb h hv.1 (ho o (by simp [Fo.flat])) hv.2.1 x y;obtain ⟨b,e2,h2⟩:=zKO hi hb x y r st P _ hv.2.2 (λq hq=>ho q (by simp [Fo.flat,hq])) h1;exact ⟨b,by rw [Fo.flat,zZ1,e,e2],h2⟩
 | .grp o k r,st,P,t,hv,ho,h=>by
  obtain ⟨h1,h2,h3,h4⟩:=hv;obtain ⟨e1,s1⟩:=zVH hb h h1 (ho o (by simp [Fo.flat])) h2 x y (ms:=ms);obtain ⟨b,e2,s2⟩:=zKO hi hb x y k (st++[o]) (P++[t]) _ h3 (λq hq=>ho q (by simp [Fo.flat,hq])) s1;obtain ⟨_,_,_,_,f2,f3,f4,_⟩:=zQL (.inr h1) h2;obtain ⟨e3,a,e4,s3⟩:=jZS hi s2 f2 f3 f4 x y;obtain ⟨c,e5,s4⟩:=zKO hi hb x y r st P _ h4 (λq hq=>ho q (by simp [Fo.flat,hq])) s3;refine ⟨c,?_,s4⟩;rw [Fo.flat,zZ1,e1,zY3,e2,zZ1,e3,e4,e5]
theorem zV1 (hf:zQH m=true):StOk m [] ([]++[zQI]):=by
 have hm:=(zQO hf).1;refine ⟨rfl,λt ht=>?_,λo ho=>by simp at ho⟩;rw [List.nil_append] at ht;rw [wQk.1 ht];exact ⟨Ac.ok_iff.2 ⟨⟨by decide,by decide,by decide⟩,hf,⟨by decide,by decide,by show 0<=m; omega,by show 0<=m; omega⟩,(zWT (by omega)).1,rfl⟩,⟨by decide,by decide,by decide,by decide⟩,(zWT (m:=m) (by omega)).2,λ_ _=>rfl⟩
def exOk (ph q r d:Int):Bool:=decide (ph<4294967296)&&(decide (q<70368744177664)&&(decide (r<8589934592)&&decide (1<=d)))
def Ex.zero:Ex:=⟨0,0,0,0⟩
def blK (mode s a d b:Int):Bool:=isNm mode&&(decide (s<=a)&&decide (d<=b))
def blE (mode s a d b:Int):Ex:=if blK mode s a d b then zQd mode s a d b else .zero
def fcK (op a b m:Int):Bool:=isNm op&&(decide (a<=m)&&decide (b<=m))
def fcA (op a b m:Int):Int:=if fcK op a b m then facA op a b m else 0
def fcB (op a b m:Int):Int:=if fcK op a b m then facB op a b m else 0
def vlK (op mode m s a d b:Int):Bool:=blK mode s a d b&&(fcK op a b m&&zQH m)
def vlE (op mode m s a d b:Int):Ex:=if vlK op mode m s a d b then valS op mode m s a d b else .zero
def zY9 (kno:Bool) (op mode m:Int) (p:Px) (x:Ac) (k:Px):Ac:=if zZn kno op mode m p x k then accS kno op mode m p x k else .zero
def resE (x:Ac) (k:Px) (m:Int):Px:=if x.ok k m then zZb x k m else .zero
def Ac.ds (x:Ac):List DV:=[.int .u16 x.a,.int .u16 x.b,.int .u16 x.c,.int .u16 x.al,.int .u16 x.own,.int .u16 x.f]
def Lv.cells (t:Lv):List DV:=t.op.cells++(t.acc.ds++t.back.ds)
def lvs (l:List Lv):List DV:=l.flatMap Lv.cells
theorem zXo (l:List Lv):(lvs l).length=l.length*23:=by
 induction l with
 | nil=>rfl
 | cons t l ih=>
  show (t.cells++lvs l).length=_
  rw [wQh,ih];simp only [Lv.cells,Oq.cells,Ac.ds,Px.ds,wQh,wQu,wQQ];omega
theorem zWm (l k:List Lv):lvs l++lvs k=lvs (l++k):=by simp [lvs]
theorem zGG (h:zQH m=true):m=255\/m=65535:=wQE h
variable {b a:Int}
theorem zYX {s:Int} (h0:0<=s) (h1:s<=a) (h2:0<=d) (h3:d<=b) (ha:a<=65535) (hb:b<=65535):
  let t:=zQd mode s a d b
  t.ok/\t.d<=4294836225/\t.p<=4294836225*4294836225/\t.q<=65535/\t.r<=4294836225:=by
 have hu:=zZy (mode:=mode) h0 h1 h2 h3;have small:∀ n:Int,(zZe n).d<=4294836225/\(zZe n).q<=65535/\(zZe n).r<=4294836225:=λn=>⟨by simp [zZe],by simp [zZe],by simp [zZe]⟩
 have mk:∀ p q r e:Int,e<=65535->q<=65535->r<=4294836225->(⟨p,q,r,e⟩:Ex).d<=4294836225/\(⟨p,q,r,e⟩:Ex).q<=65535/\(⟨p,q,r,e⟩:Ex).r<=4294836225:=λp q r e x y z=>⟨by simp only; omega,y,z⟩
 have db:=zQc h2 (show d<=65535 by omega) (show 0<=b by omega) hb;have bb:=zQc (show 0<=b by omega) hb (show 0<=b by omega) hb;have soft:(zYw s a d b).d<=4294836225/\(zYw s a d b).q<=65535/\(zYw s a d b).r<=4294836225:=by
  unfold zYw;split
  ·exact mk _ _ _ _ (by omega) (by omega) (by omega)
  split
  ·exact mk _ _ _ _ (by omega) (by omega) (by omega)
  split
  ·exact ⟨by simp only; omega,by simp only; omega,by simp only; omega⟩
  ·exact mk _ _ _ _ (by omega) (by omega) (by omega)
 have key:∀ (c:Prop) [Decidable c] (x y:Ex),(x.d<=4294836225/\x.q<=65535/\x.r<=4294836225)->(y.d<=4294836225/\y.q<=65535/\y.r<=4294836225)->((if c then x else y).d<=4294836225/\(if c then x else y).q<=65535/\(if c then x else y).r<=4294836225):=λc _ x y hx hy=>by split<;>assumption
 have all:(zQd mode s a d b).d<=4294836225/\(zQd mode s a d b).q<=65535/\(zQd mode s a d b).r<=4294836225:=by
  unfold zQd
  repeat' (first | exact small _ | exact soft | exact mk _ _ _ _ (by omega) (by omega) (by omega) | refine key _ _ _ ?_ ?_)
 have ab:=zQc (show 0<=a by omega) ha (show 0<=b by omega) hb;have pp:=zQc (x:=a*b) (y:=(zQd mode s a d b).d) (A:=4294836225) (B:=4294836225) ab.1 (by omega) (by have:=hu.ok.d; omega) all.1;have:=hu.p;exact ⟨hu.ok,all.1,by omega,all.2.1,all.2.2⟩
variable {n:Int}
theorem yQZ (h0:0<=n) (h1:n<4294967296):((BitVec.ofInt 32 n &&& BitVec.ofInt 32 255).toNat:Int)=n%256:=by
 obtain ⟨k,rfl⟩:=wQU h0;have hk:k<4294967296:=by omega
 have e1:BitVec.ofInt 32 (k:Int)=BitVec.ofNat 32 k:=by simp
 have e2:BitVec.ofInt 32 255=BitVec.ofNat 32 255:=by decide
 rw [e1,e2,wX0,wQZ,wQZ,wQR hk];have:k &&& 255=k%256:=wYq k 8;rw [show 255%2 ^ 32=255 from rfl,this];omega
theorem jHB (h0:0<=n) (h1:n<18446744073709551616):((BitVec.ofInt 64 n &&& BitVec.ofInt 64 65535).toNat:Int)=n%65536:=by
 obtain ⟨k,rfl⟩:=wQU h0;have hk:k<18446744073709551616:=by omega
 have e1:BitVec.ofInt 64 (k:Int)=BitVec.ofNat 64 k:=by simp
 have e2:BitVec.ofInt 64 65535=BitVec.ofNat 64 65535:=by decide
 rw [e1,e2,wX0,wQZ,wQZ,wQR hk];have:k &&& 65535=k%65536:=wYq k 16;rw [show 65535%2 ^ 64=65535 from rfl,this];omega
variable {q:Int}
theorem jUS {r:Int} (h0:0<=r) (h1:r<=255):zQP (q*255+r) 255=if 128<=r then q+1 else q:=by
 rw [zJ4 (by decide)];split<;>omega
theorem jJr {r:Int} (h0:0<=r) (h1:r<=65535):zQP (q*65535+r) 65535=if 32768<=r then q+1 else q:=by
 rw [zJ4 (by decide)];split<;>omega
theorem jGR {m:Nat} (hi:i<64) (h:(m+1)*2 ^ (i+1)<=2 ^ 64):(BitVec.ofInt 64 ((m*2 ^ (i+1):Nat):Int) ||| BitVec.ofInt 64 ((2 ^ i:Nat):Int)).toNat=m*2 ^ (i+1)+2 ^ i:=by
 have p0:2 ^ i<2 ^ 64:=wXd (by decide) (by omega);have p1:m*2 ^ (i+1)<2 ^ 64:=by
  have:=wZK (i+1);rw [wQn] at h;omega
 have e1:∀ k:Nat,BitVec.ofInt 64 (k:Int)=BitVec.ofNat 64 k:=λk=>by simp
 rw [e1,e1,wYr,wQZ,wQZ,wQR p0,wQR p1];have:=wYs (i:=i+1) (b:=2 ^ i) (wXd (by decide) (by omega)) m;rw [wQD];exact this.symm
abbrev wXe:=@Nat.pow_add
theorem jKY {f:Nat} (hf:f<2 ^ 64) (hk:k<64):
  (BitVec.ofInt 64 ((f / 2 ^ (k+1)*2 ^ (k+1):Nat):Int) ||| BitVec.ofInt 64 ((2 ^ k:Nat):Int)).toNat=f / 2 ^ (k+1)*2 ^ (k+1)+2 ^ k/\f / 2 ^ (k+1)*2 ^ (k+1)+2 ^ k<2 ^ 64 /\
  (f / 2 ^ (k+1)*2 ^ (k+1)+2 ^ k<=f->f / 2 ^ k*2 ^ k=f / 2 ^ (k+1)*2 ^ (k+1)+2 ^ k)/\(f<f / 2 ^ (k+1)*2 ^ (k+1)+2 ^ k->f / 2 ^ k*2 ^ k=f / 2 ^ (k+1)*2 ^ (k+1)):=by
 have p:=wZK k;have e2:2 ^ (k+1)=2 ^ k*2:=Nat.pow_succ 2 k;have h64:(f / 2 ^ (k+1)+1)*2 ^ (k+1)<=2 ^ 64:=by
  have e:2 ^ 64=2 ^ (63-k)*2 ^ (k+1):=by rw [<- wXe]; congr 1; omega
  rw [e] at hf |-;exact wQV _ ((wYl (wZK _)).2 hf)
 have hlt:f / 2 ^ (k+1)*2 ^ (k+1)+2 ^ k<2 ^ 64:=by
  rw [wQn,wXb] at h64;omega
 refine ⟨jGR hk h64,hlt,?_⟩;clear hlt h64;rw [e2,<- Nat.div_div_eq_div_mul];have h1:=wZy f (2 ^ k);have h2:=wQ8 f p;have h3:=wZy (f / 2 ^ k) 2;have h4:=wQ8 (f / 2 ^ k) (show 0<2 by decide);generalize f / 2 ^ k=g at *;generalize f%2 ^ k=r at *;generalize 2 ^ k=P at *;have e5:g / 2*(P*2)=P*(g / 2)*2:=by grind
 rcases wYH g with h | h
 ·have hg:g=2*(g / 2):=by omega
  have e6:g*P=P*(g / 2)*2:=by rw [hg]; grind
  have e7:P*g=g*P:=wQD _ _;rw [e5,e6];constructor<;>intro q<;>omega
 ·have hg:g=2*(g / 2)+1:=by omega
  have e6:g*P=P*(g / 2)*2+P:=by
   generalize g / 2=c at *;subst hg; grind
  have e7:P*g=g*P:=wQD _ _;rw [e5,e6];constructor<;>intro q<;>omega
structure DgOk (v1 v0 u w q r:Int):Prop where
  hr:r=u-q*v1
  lo:(u*4294967296+w) / (v1*4294967296+v0)<=q
  hi:q<=4294967297
  r0:0<=r
  r1:r<4294967296
structure DvOk (v1 v0 u w:Int):Prop where
  a0:2147483648<=v1
  a1:v1<4294967296
  b0:0<=v0
  b1:v0<4294967296
  u0:0<=u
  u1:u<v1*4294967296+v0
  w0:0<=w
  w1:w<4294967296
abbrev wXf:=@Int.ediv_lt_of_lt_mul
variable {w u v1 v0:Int}
theorem DvOk.dig (h:DvOk v1 v0 u w):0<=(u*4294967296+w) / (v1*4294967296+v0)/\(u*4294967296+w) / (v1*4294967296+v0)<4294967296:=by
 obtain ⟨a0,a1,b0,b1,u0,u1,w0,w1⟩:=h;refine ⟨wQI (by omega) (by omega),wXf (by omega) (by omega)⟩
theorem DvOk.start (h:DvOk v1 v0 u w):DgOk v1 v0 u w (u / v1) (u-u / v1*v1):=by
 obtain ⟨a0,a1,b0,b1,u0,u1,w0,w1⟩:=h;have e1:=wZI u v1;have e2:=wZb u (b:=v1) (by omega);have e3:=wZc u (show 0<v1 by omega);have e4:u / v1*v1=v1*(u / v1):=wQy _ _;refine ⟨rfl,?_,?_,by omega,by omega⟩
 ·apply Int.le_of_lt_add_one;apply wXf (by omega);generalize u / v1=q at *;generalize u%v1=r at *;have hq:0<=q:=by
   apply Int.not_lt.1;intro hlt;have:v1*q<=v1*(-1):=Int.mul_le_mul_of_nonneg_left (by omega) (by omega);omega
  have:0<=q*v0:=Int.mul_nonneg hq b0;have e5:(q+1)*(v1*4294967296+v0)=v1*q*4294967296+v1*4294967296+q*v0+v0:=by grind
  rw [e5];omega
 ·apply Int.le_of_lt_add_one;apply wXf (by omega);omega
theorem DgOk.over {r:Int} (hv:DvOk v1 v0 u w) (h:DgOk v1 v0 u w q r):(q*v0>4294967296*r+w↔(u*4294967296+w) / (v1*4294967296+v0)<q):=by
 obtain ⟨a0,a1,b0,b1,u0,u1,w0,w1⟩:=hv;have e:=h.hr;rw [Int.ediv_lt_iff_lt_mul (by omega)];have:q*(v1*4294967296+v0)=q*v1*4294967296+q*v0:=by grind
 rw [this];generalize q*v1=A at *;generalize q*v0=B at *;omega
theorem DgOk.pos {r:Int} (hv:DvOk v1 v0 u w) (h:DgOk v1 v0 u w q r):0<=q:=by
 have:=hv.dig.1;have:=h.lo;omega
theorem DgOk.sizes {r:Int} (hv:DvOk v1 v0 u w) (h:DgOk v1 v0 u w q r):0<=q*v0/\q*v0<18446744073709551616/\0<=4294967296*r+w/\4294967296*r+w<18446744073709551616:=by
 have hq:=h.pos hv;have h1:=h.hi;have h2:=h.r0;have h3:=h.r1;have:=zQc hq h1 hv.b0 (show v0<=4294967295 by have:=hv.b1; omega);have:=hv.w0;have:=hv.w1;omega
theorem DgOk.next {r:Int} (hv:DvOk v1 v0 u w) (h:DgOk v1 v0 u w q r) (hc:q>=4294967296\/q*v0>4294967296*r+w) (hr:r+v1<4294967296):DgOk v1 v0 u w (q-1) (r+v1):=by
 have hd:=hv.dig;have ho:=h.over hv;have hl:=h.lo;have hh:=h.hi;have hr0:=h.r0;have a0:=hv.a0;refine ⟨by have:=h.hr; grind,?_,by omega,by omega,hr⟩
 rcases hc with hc | hc
 ·omega
 ·have:=ho.1 hc;omega
theorem DgOk.done {r:Int} (hv:DvOk v1 v0 u w) (h:DgOk v1 v0 u w q r) (hc:¬ (q>=4294967296\/q*v0>4294967296*r+w)):q=(u*4294967296+w) / (v1*4294967296+v0):=by
 have ho:=h.over hv;have hl:=h.lo;have:=λh=>hc (.inr (ho.2 h));omega
theorem DgOk.last {r:Int} (hv:DvOk v1 v0 u w) (h:DgOk v1 v0 u w q r) (hc:q>=4294967296\/q*v0>4294967296*r+w) (hr:r+v1>=4294967296):q-1=(u*4294967296+w) / (v1*4294967296+v0):=by
 have hd:=hv.dig;have ho:=h.over hv;have hl:=h.lo;have hh:=h.hi;have hq:=h.pos hv;have h1:(u*4294967296+w) / (v1*4294967296+v0)<=q-1:=by
  rcases hc with hc | hc
  ·omega
  ·have:=ho.1 hc;omega
 have h2:q-1<=(u*4294967296+w) / (v1*4294967296+v0):=by
  rw [wXn (by have:=hv.a0; have:=hv.b0; omega)];have e:=h.hr;have e1:(q-1)*(v1*4294967296+v0)=(q*v1-v1)*4294967296+(q-1)*v0:=by grind
  rw [e1];have:=zQc (x:=q-1) (A:=4294967296) (y:=v0) (B:=4294967295) (by omega) (by omega) hv.b0 (by have:=hv.b1; omega);have:=hv.w0;generalize q*v1=A at *;generalize (q-1)*v0=B at *;omega
 omega
theorem jV3 (hv:0<v):
  (u*4294967296+a) / v*4294967296+(((u*4294967296+a)-(u*4294967296+a) / v*v)*4294967296+b) / v=(u*18446744073709551616+a*4294967296+b) / v /\
  ((u*4294967296+a)-(u*4294967296+a) / v*v)*4294967296+b-(((u*4294967296+a)-(u*4294967296+a) / v*v)*4294967296+b) / v*v=(u*18446744073709551616+a*4294967296+b)%v:=by
 have e:u*18446744073709551616+a*4294967296+b=((u*4294967296+a)-(u*4294967296+a) / v*v)*4294967296+b+v*((u*4294967296+a) / v*4294967296):=by grind
 have e2:∀ x:Int,x-x / v*v=x%v:=λx=>by rw [Int.emod_def,wQy]
 rw [e,Int.add_mul_ediv_left _ _ (by omega),wYe];refine ⟨by omega,e2 _⟩
variable {k y:Int}
theorem jV7 (hk:0<k):(a*k) / (y*k)=a / y/\(a*k)%(y*k) / k=a%y:=by
 refine ⟨Int.mul_ediv_mul_of_pos_left _ _ hk,?_⟩;rw [Int.emod_def,Int.mul_ediv_mul_of_pos_left _ _ hk,Int.emod_def,show a*k-y*k*(a / y)=(a-y*(a / y))*k by grind,Int.mul_ediv_cancel _ (by omega)]
def lenS (x:Int):Int:=if x<=0 then 0 else (Nat.log2 x.toNat:Int)+1
theorem jJd (h0:1<=y) (h1:y<18446744073709551616):∃ s:Nat,64-lenS y=s/\s<=63/\9223372036854775808<=y*2 ^ s/\y*2 ^ s<18446744073709551616:=by
 obtain ⟨n,rfl⟩:=wQU (show 0<=y by omega);have hn:n≠0:=by omega
 have a1:=Nat.log2_self_le hn;have a2:=@Nat.lt_log2_self n;have a3:n.log2<64:=(Nat.log2_lt hn).2 (by omega);refine ⟨63-n.log2,?_,by omega,?_,?_⟩
 ·unfold lenS;rw [if_neg (by omega),wQl];omega
 ·have e:2 ^ n.log2*2 ^ (63-n.log2)=2 ^ 63:=by rw [<- wXe]; congr 1; omega
  have:2 ^ n.log2*2 ^ (63-n.log2)<=n*2 ^ (63-n.log2):=wQV _ a1;rw [e] at this;have h:((2 ^ 63:Nat):Int)<=((n*2 ^ (63-n.log2):Nat):Int):=by exact_mod_cast this
  simpa using h
 ·have e:2 ^ (n.log2+1)*2 ^ (63-n.log2)=2 ^ 64:=by rw [<- wXe]; congr 1; omega
  have:n*2 ^ (63-n.log2)<2 ^ (n.log2+1)*2 ^ (63-n.log2):=Nat.mul_lt_mul_of_pos_right a2 (wZK _);rw [e] at this;have h:((n*2 ^ (63-n.log2):Nat):Int)<((2 ^ 64:Nat):Int):=by exact_mod_cast this
  simpa using h
abbrev wYw:=@Nat.pos_of_ne_zero
abbrev wZX:=@Int.pow_pos
theorem zGv {x:Int} (k:Nat) (h:2 ^ k<=x):lenS x=k+lenS (x / 2 ^ k):=by
 have hp:(0:Int)<2 ^ k:=wZX (by decide);obtain ⟨n,rfl⟩:=wQU (show 0<=x by omega);have h':2 ^ k<=n:=by exact_mod_cast h
 have hp':=wZK k;have hn:n≠0:=by omega
 have hq:n / 2 ^ k≠0:=by
  have:=Nat.div_pos h' hp';omega
 have e:((n:Int) / 2 ^ k)=((n / 2 ^ k:Nat):Int):=by simp
 rw [e];have hq2:¬ ((n / 2 ^ k:Nat):Int)<=0:=Int.not_le.2 (Int.natCast_pos.2 (wYw hq));unfold lenS;rw [if_neg (by omega),if_neg hq2,wQl,wQl];have a1:=Nat.log2_self_le hq;have a2:=@Nat.lt_log2_self (n / 2 ^ k);have:n.log2=(n / 2 ^ k).log2+k:=by
  rw [Nat.log2_eq_iff hn];refine ⟨?_,?_⟩
  ·rw [wXe];exact wQH (wQV _ a1) (Nat.div_mul_le_self _ _)
  ·rw [show (n / 2 ^ k).log2+k+1=((n / 2 ^ k).log2+1)+k by omega,wXe];exact (wYl hp').1 a2
 omega
def orI:List DV->Int
 | .int _ a::l=>if a=0 then orI l else a
 | _=>0
theorem yZG {c:Int} (h0:0<=b) (h1:b<18446744073709551616) (h2:0<=d) (h3:d<18446744073709551616) (k k':IntKind):orI [.int k (cmpI a c),.int k' (cmpI b d)]=cmpI (wV a b) (wV c d):=by
 unfold orI orI orI cmpI wV;grind
structure Dv where
  v1:Int
  v0:Int
  u:Int
  w1:Int
  w0:Int
  s:Nat
structure Dv.is (D:Dv) (hi lo y:Int):Prop where
  v:y*2 ^ D.s=D.v1*4294967296+D.v0
  n:wV hi lo*2 ^ D.s=D.u*18446744073709551616+D.w1*4294967296+D.w0
  ok:DvOk D.v1 D.v0 D.u D.w1
  a:0<=D.w0
  b:D.w0<4294967296
  s63:D.s<=63
variable {s:Nat}
theorem yZk (hs:s<=64) (ha:0<=a) (h:a*2 ^ s<18446744073709551616) (hb:0<=b) (h1:b<2 ^ s):((BitVec.ofInt 64 (a*2 ^ s) ||| BitVec.ofInt 64 b).toNat:Int)=a*2 ^ s+b/\a*2 ^ s+b<18446744073709551616:=by
 obtain ⟨m,rfl⟩:=wQU ha;obtain ⟨n,rfl⟩:=wQU hb;have e:(m:Int)*2 ^ s=((m*2 ^ s:Nat):Int):=by simp
 rw [e] at h |-;have h1:n<2 ^ s:=by exact_mod_cast h1
 have h2:m*2 ^ s<2 ^ 64:=by
  have:((m*2 ^ s:Nat):Int)<((2 ^ 64:Nat):Int):=by simpa using h
  exact_mod_cast this
 have h4:m*2 ^ s+n<2 ^ 64:=by
  have e2:2 ^ 64=2 ^ (64-s)*2 ^ s:=by rw [<- wXe]; congr 1; omega
  rw [e2] at h2 |-;have h3:m<2 ^ (64-s):=Nat.lt_of_mul_lt_mul_right h2;have:(m+1)*2 ^ s<=2 ^ (64-s)*2 ^ s:=wQV _ h3;rw [wQn] at this;omega
 have e1:∀ k:Nat,BitVec.ofInt 64 (k:Int)=BitVec.ofNat 64 k:=λk=>by simp
 rw [e1,e1,wYr,wQZ,wQZ,wQR h2,wQR (show n<2 ^ 64 by omega)];have:=wYs (i:=s) (b:=n) h1 m;rw [wQD m,<- this,wQD];have h4:((m*2 ^ s+n:Nat):Int)<((2 ^ 64:Nat):Int):=by exact_mod_cast h4
 refine ⟨by simp,by simpa using h4⟩
theorem jHq {hi lo:Int} (h0:0<=hi) (h1:hi<y) (l0:0<=lo) (l1:lo<18446744073709551616) (hs:s<=63) (y1:9223372036854775808<=y*2 ^ s) (y2:y*2 ^ s<18446744073709551616):
  0<=lo / 2 ^ (64-s)/\lo / 2 ^ (64-s)<2 ^ s/\hi*2 ^ s<18446744073709551616/\0<=lo*2 ^ s /\
  Dv.is ⟨y*2 ^ s / 4294967296,y*2 ^ s%4294967296,hi*2 ^ s+lo / 2 ^ (64-s),lo*2 ^ s%18446744073709551616 / 4294967296,lo*2 ^ s%18446744073709551616%4294967296,s⟩ hi lo y:=by
 have hp:(0:Int)<2 ^ s:=wZX (by decide);have hq:(0:Int)<2 ^ (64-s):=wZX (by decide);have e:(2:Int) ^ (64-s)*2 ^ s=18446744073709551616:=by
  rw [<- Int.pow_add,show 64-s+s=64 by omega]; rfl
 have b1:lo / 2 ^ (64-s)<2 ^ s:=wXf hq (by rw [wQy,e]; exact l1);have b0:0<=lo / 2 ^ (64-s):=wQI l0 (by omega);have c1:lo*2 ^ s / 18446744073709551616=lo / 2 ^ (64-s):=by rw [<- e]; exact Int.mul_ediv_mul_of_pos_left _ _ hp
 have c2:=wZI (lo*2 ^ s) 18446744073709551616;rw [c1] at c2;have l2:0<=lo*2 ^ s:=Int.mul_nonneg l0 (by omega);have m1:hi*2 ^ s+2 ^ s<=y*2 ^ s:=by
  have:(hi+1)*2 ^ s<=y*2 ^ s:=Int.mul_le_mul_of_nonneg_right (by omega) (by omega);rw [wZ8,wZu] at this;exact this
 have m0:0<=hi*2 ^ s:=Int.mul_nonneg h0 (by omega);have nn:wV hi lo*2 ^ s=hi*2 ^ s*18446744073709551616+lo*2 ^ s:=by unfold wV; grind
 refine ⟨b0,b1,by omega,l2,⟨by simp only; omega,?_,⟨by simp only; omega,by simp only; omega,by simp only; omega,by simp only; omega,by simp only; omega,by simp only; omega,by simp only; omega,by simp only; omega⟩,by simp only; omega,by simp only; omega,hs⟩⟩;simp only;rw [nn];generalize lo / 2 ^ (64-s)=L at *;generalize lo*2 ^ s=X at *;generalize hi*2 ^ s=H at *;omega
def upB (x:Ex) (f:Int):Bool:=decide ((2*f+1)*x.d<=x.up 2)
variable {x:Ex}
theorem jWP (h:x.ok) (hk:0<=k):k+2*x.p<=x.up 2↔k*k<=4*(x.q*x.q*x.r):=by
 have hn:0<=x.q*x.q*x.r:=Int.mul_nonneg (zZa _) h.r;have e2:(2*x.q)*(2*x.q)*x.r=4*(x.q*x.q*x.r):=by grind
 unfold Ex.up;rw [e2,<- jQu (by omega) hk];omega
theorem yQ9 (h:x.ok) (hk:n<2*x.p):n<=x.up 2:=by
 have hn:0<=x.q*x.q*x.r:=Int.mul_nonneg (zZa _) h.r;have e2:(2*x.q)*(2*x.q)*x.r=4*(x.q*x.q*x.r):=by grind
 unfold Ex.up;rw [e2];have:=(zYN (n:=4*(x.q*x.q*x.r)) (by omega)).1;omega
variable {m:Int}
theorem jWQ (h:x.ok) (hm:0<=m):2*m+2*x.p<=x.up 2↔m*m<=x.q*x.q*x.r:=by
 rw [jWP h (by omega)];have:2*m*(2*m)=4*(m*m):=by grind
 omega
theorem yQ8 (h:x.ok) (hm:0<=m):2*m+1+2*x.p<=x.up 2↔m*m+m<x.q*x.q*x.r:=by
 rw [jWP h (by omega)];have:(2*m+1)*(2*m+1)=4*(m*m)+4*m+1:=by grind
 omega
theorem yZa (h:x.ok) (hm:18446744073709551616<=m) (hs:x.q*x.q*x.r<340282366920938463463374607431768211456):¬ 2*m+2*x.p<=x.up 2:=by
 rw [jWQ h (by omega)];have:(18446744073709551616:Int)*18446744073709551616<=m*m:=wQv hm hm (by decide) (by omega);omega
def zVX (s a d b:Int):Ex:=if d=0 then zZe 0 else if d*a>=b*(a-s) then zZe (a*b) else ⟨a*a*d,0,0,a-s⟩
def zGJ (s a d b:Int):Ex:=if d=b then zZe (a*b) else if (b-d)*a>=s*b then zZe 0 else ⟨a*b*s-(b-d)*a*a,0,0,s⟩
def jQI (s a d b:Int) (tw:Bool):Int:=if tw then 2*s*d else a*b-2*(b-d)*(a-s)
theorem jKK (s a d b:Int):jQI s a d b (decide (2*s<=a))=zJN s a d b:=by
 unfold jQI zJN;by_cases h:2*s<=a
 ·rw [if_pos h,if_pos (decide_eq_true h)]
 ·rw [if_neg h,if_neg (by simpa using h)]
theorem jKL (s a d b:Int):jQI s a d b (decide (2*d<=b))=zJN d b s a:=by
 unfold jQI zJN;by_cases h:2*d<=b
 ·rw [if_pos h,if_pos (decide_eq_true h)]; grind
 ·rw [if_neg h,if_neg (by simpa using h)]; grind
def facF (f a m:Int):Int:=if f=1 then m else if f=2 then a else if f=3 then m-a else 0
theorem yZF {op:Int} (h:1<=op/\op<13) (a b m:Int):facF (zYt op 1) b m=facA op a b m/\facF (zYt op 2) a m=facB op a b m:=by
 rcases zYz h with rfl | rfl | rfl | rfl | rfl | rfl | rfl | rfl | rfl | rfl | rfl | rfl<;>exact ⟨rfl,rfl⟩
def shpF (r f g m:Int):Int:=if r=1 then f else if r=2 then g else if r=3 then zQP (m*f+(m-f)*g) m else if r=4 then zQP (f*g) m else 0
theorem yZd {op:Int} (h:1<=op/\op<13) (f g m:Int):shpF (zYt op 3) f g m=zXc op f g m:=by
 rcases zYz h with rfl | rfl | rfl | rfl | rfl | rfl | rfl | rfl | rfl | rfl | rfl | rfl<;>rfl
open Go.Proofs.Tryz (prog)
section
attribute [local irreducible] Ans AnsO AnsG AnsN AnsI
def gamB:Gam:=yZv.add [.p 211 (λv=>let a:=(zZ3 (zHI (cAt (uq v) 0)));some (RV.agg [dJ a.a,dJ a.b,dJ a.c,dJ a.d]))]
def aHU (a:Nat) (b:List DV):Rc:=zZ3 (List.take a (zHI b))
theorem jXG (n:Nat) (xs:List DV) (hx:jHG n xs):Ans prog 211 [rD (dS n xs)] (rA (qD (zZ3 (zHI xs)))):=
 wc gamB (jL (um (λd=>d<=n) (λb=>let a:=aHU b xs;aNS (rZ 0 n xs (dU 2 2 3 3 (gH 6 (DV.sl n xs) 7 (cI n) (pL 8 b [])))) 2 (pJ []) 3 (jK a.a a.b a.c a.d []) []) (λc=>n-c) (λe=>aL))) Tryz.func211 (kX (∃ k:Nat,let j:=aHU k xs;aF (k<=n) (wD n xs (rV (eS (0:Nat)) n xs (dF k))) (eS tI) (tI=aB j.a::aMG j.b j.c [aB j.d])) (∀ a:Nat,let b:=aHU a xs;let f:=fY xs a 4;let l:=b.d;let g:=gU xs a 4;let m:=b.c;let h:=fX xs a 4;let o:=b.b;let i:=cY xs a 4;let p:=b.a;let q:=rC p o m l;let r:=rC i h g f;bP (a<=n) (dP a n->cR (cX a n 4 xs) (aF (fW xs a 4) (mH xs a 4) (pT xs a 4) (bN xs (aV a 4))) (True/\aHV i h g f/\True/\uW r (∃ e:Nat,dR e n (nH (dM n e a) (wD n xs (rV (eS (0:Nat)) n xs (bS a e))) tI (cG b) (cG (aHU e xs))))/\(r=false->aCX (pY 40 (cG b) (rC p o m l)) q (∃ d:Nat,dR d n (nH (dM n d a) (wD n xs (rV (eS (0:Nat)) n xs (bS a d))) tI (eC i h g f) (cG (aHU d xs)))) (q=false->aH (kJ (∃ c:Nat,dR c n (nH (dM n c a) (wD n xs (rV (eS (0:Nat)) n xs (bS a c))) tI (eC (Min.min p i) (Min.min o h) (Max.max m g) (Max.max l f)) (cG (aHU c xs))))))))) (iQ a n->eU (aBB b (zZ3 (zHI xs)))))) λhwf=>by
  delta eS aB aR aT aF aH dE eC nD cR cG uW cI aV bS bP dF zN bN cX cY dP iQ fX fY fW gU kX mH pT nH tI eU dR dM pY kJ aCX rC wD aMG aBB rV aHU aHV;simp only [sS,zQX,zZf,zQt,zQl];obtain ⟨l,rfl,rfl⟩:=hx.of;simp only [RV.wfs,RV.wf,DV.wf,maxLen] at hwf;simp only [zVA,zXU];refine ⟨⟨0,by omega,rfl,rfl,rfl,rfl,rfl⟩,λk hk=>⟨λhlt=>?_,λhge=>?_⟩⟩
  ·have h:k<l.length:=by omega
   obtain ⟨e1,e2,e3,e4⟩:=zWZ h;obtain ⟨q1,q2,q3,q4⟩:=zWI l k h;have hs:=jWt h;have hw:wrap .i64 ((k:Int)+1)=((k+1:Nat):Int):=by rw [wQb _ ⟨by omega,by omega⟩]; omega
   simp only [e1,e2,e3,e4];generalize zZ3 (l.take k)=H at *;refine ⟨by omega,⟨q1,q2,q3,q4⟩,λhe=>⟨k+1,by omega,by omega,hw,?_⟩,λhe=>⟨λh2=>⟨k+1,by omega,by omega,hw,?_⟩,λh2=>⟨k+1,by omega,by omega,hw,?_⟩⟩⟩
   ·have he:l[k].empty=true:=he;rw [hs]; simp [Rc.hull,he]
   ·have he:l[k].empty=false:=he;have h2:H.empty=true:=h2;rw [hs]; simp [Rc.hull,he,h2]
   ·have he:l[k].empty=false:=he;have h2:H.empty=false:=h2;rw [hs]; simp [Rc.hull,he,h2,Int.min_comm,Int.max_comm]
  ·have:k=l.length:=by omega
   subst this;simp
theorem jVo {w:World} {S:Nat->Prop} {x c:Int} {vs:Array Value} (h:RepRs w S [RV.d (DV.int .u64 x),RV.d (DV.int .u64 y),RV.d (DV.int .u64 c)] vs.toList):vs=#[.int .u64 x,.int .u64 y,.int .u64 c]:=by
 obtain ⟨l⟩:=vs
 match l,h with
 | [a,b,d],h=>
  simp only [RepRs,RepR,RepD] at h;obtain ⟨h1,h2,h3,_⟩:=h;rw [h1.1,h2.1,h3.1]
theorem zU2 (x y c:Int) (hx:0<=x/\x<18446744073709551616) (hy:0<=y/\y<18446744073709551616) (hc:0<=c/\c<=1):AnsE prog 286 [RV.d (DV.int .u64 x),RV.d (DV.int .u64 y),RV.d (DV.int .u64 c)] (RV.tup [RV.d (DV.int .u64 ((x+y+c)%18446744073709551616)),RV.d (DV.int .u64 ((x+y+c) / 18446744073709551616))]):=by
 intro w S vs h;rw [jVo h,run_callFunc_extern Tryz.func286 (by kernel_rfl) (by kernel_rfl) (by kernel_rfl) (e:=add64Entry) (by kernel_rfl),run_add64 x y c hx.1 hy.1 hc.1 hc.2];refine ⟨_,rfl,?_⟩;simp only [RepR,RepRs,RepD];have mi:IntKind.min .u64=0:=rfl;have ma:IntKind.max .u64=18446744073709551615:=rfl;exact ⟨_,rfl,⟨rfl,by rw [zX3,mi,ma]; omega⟩,⟨rfl,by rw [zX3,mi,ma]; omega⟩,trivial⟩
theorem zHJ (x y c:Int) (hx:0<=x/\x<18446744073709551616) (hy:0<=y/\y<18446744073709551616) (hc:0<=c/\c<=1):AnsE prog 300 [RV.d (DV.int .u64 x),RV.d (DV.int .u64 y),RV.d (DV.int .u64 c)] (RV.tup [RV.d (DV.int .u64 ((x-y-c)%18446744073709551616)),RV.d (DV.int .u64 (if x<y+c then 1 else 0))]):=by
 intro w S vs h;obtain ⟨X,rfl⟩:=wQU hx.1;obtain ⟨Y,rfl⟩:=wQU hy.1;obtain ⟨Z,rfl⟩:=wQU hc.1;rw [jVo h,run_callFunc_extern Tryz.func300 (by kernel_rfl) (by kernel_rfl) (by kernel_rfl) (e:=sub64Entry) (by kernel_rfl),run_sub64 X Y Z (by omega)];refine ⟨_,rfl,?_⟩;simp only [RepR,RepRs,RepD];have e1:(((X+18446744073709551616-Y-Z)%18446744073709551616:Nat):Int)=((X:Int)-Y-Z)%18446744073709551616:=by omega
 have e2:((if X<Y+Z then 1 else 0:Nat):Int)=if (X:Int)<Y+Z then 1 else 0:=by split<;>split<;>omega
 have mi:IntKind.min .u64=0:=rfl;have ma:IntKind.max .u64=18446744073709551615:=rfl;exact ⟨_,rfl,⟨by rw [e1],by rw [zX3,mi,ma]; omega⟩,⟨by rw [e2],by rw [zX3,mi,ma]; split<;>omega⟩,trivial⟩
def gZ14:List RV->Option RV:=λv=>some (RV.d (DV.int .u64 (zQP (nAt (uq v) 0) (nAt (uq v) 1))))
def gZ15:List RV->Option RV:=λv=>let c:=(nAt (uq v) 0)*(nAt (uq v) 1);some (RV.agg [DV.int .u64 (hiW c),DV.int .u64 (loW c)])
def gZ16:List RV->Option RV:=λv=>some (rJ (cmpI (wV (nAt (ur v 0) 0) (nAt (ur v 0) 1)) (wV (nAt (ur v 1) 0) (nAt (ur v 1) 1))))
def gZ17:List RV->Option RV:=λv=>let e:=wV (nAt (ur v 1) 0) (nAt (ur v 1) 1);let f:=wV (nAt (ur v 0) 0) (nAt (ur v 0) 1);let c:=addW f e;some (RV.tup [RV.agg [DV.int .u64 (hiW c),DV.int .u64 (loW c)],RV.d (dQ (addK f e))])
def gZ18:List RV->Option RV:=λv=>let e:=wV (nAt (ur v 1) 0) (nAt (ur v 1) 1);let f:=wV (nAt (ur v 0) 0) (nAt (ur v 0) 1);let c:=subW f e;some (RV.tup [RV.agg [DV.int .u64 (hiW c),DV.int .u64 (loW c)],RV.d (dQ (subK f e))])
def gZ19:List RV->Option RV:=λv=>let c:=wV (nAt (ur v 0) 0) (nAt (ur v 0) 1)*(nAt (uq v) 1);some (RV.tup [RV.agg [DV.int .u64 (hiW c),DV.int .u64 (loW c)],RV.d (dQ true)])
def jJv:Gam:=gamB.add [.p 103 (λv=>let c:=(nAt (uq v) 0)*(nAt (uq v) 1);some (RV.tup [RV.d (DV.int .u64 (hiW c)),RV.d (DV.int .u64 (loW c))])),
 .p 286 (λv=>let e:=(nAt (uq v) 0)+(nAt (uq v) 1)+(nAt (uq v) 2);some (RV.tup [RV.d (DV.int .u64 (e%18446744073709551616)),RV.d (DV.int .u64 (e / 18446744073709551616))])),
 .p 300 (λ| [.d (.int _ x),.d (.int _ y),.d (.int _ c)]=>some (RV.tup [RV.d (DV.int .u64 ((x-y-c)%18446744073709551616)),RV.d (DV.int .u64 (if x<y+c then 1 else 0))]) | _=>none),
 .p 194 gZ14,
 .p 59 gZ15,
 .p 60 gZ16,
 .p 269 gZ17,
 .p 284 gZ18,
 .p 289 gZ19]
def aK (a:Int):DV:=DV.int IntKind.u64 a
def aG (a:Int):Int:=wrap IntKind.u64 a
def bX (a:Int):DV:=aK (aG a)
def fJ (a b:Int):Int:=aG (a-b)
def iS (a:Int):RV:=RV.d (aK a)
def vF (a:Int):RV:=RV.d (bX a)
def aAA (a b:Int) (c:Prop):Prop:=uI a b->True/\True/\c
abbrev wQd:=@IntWalk.u64_in
abbrev wYJ:=@Int.ediv_lt_self_of_pos_of_ne_one
theorem zZj (n d:Int):Ans prog 194 [rD (DV.int .u64 n),rD (DV.int .u64 d)] (rD (DV.int .u64 (zQP n d))):=
 wc jJv aL Tryz.func194 (let a:=iS (zQP n d);let b:=Int.tmod n d;let c:=fJ d b;True/\True/\True/\(bK d=true->True/\iS 0=a)/\cS (bK d) (d≠0) (aM (d≠0) (aY (eS true) (pI b c (cZ (vF (aG (Int.tdiv n d)+1)) a) (aAA b c (vF (Int.tdiv n d)=a)))))) λhwf=>by
  delta eS pI aM aY bK cS aK cZ aG bX fJ iS uI vF aAA;simp only [sS];simp only [RV.wfs,RV.wf,DV.wf] at hwf;have m1:IntKind.min .u64=0:=rfl;have m2:IntKind.max .u64=18446744073709551615:=rfl;rw [m1,m2] at hwf;have t1:Int.tdiv n d=n / d:=wQY (by omega);have t2:Int.tmod n d=n%d:=wZR (by omega);refine ⟨λq=>by (have q:d=0:=(by simpa using q)); simp [zQP,q],λq=>?_⟩;have q:d≠0:=by simpa using q
  have b1:0<=n%d:=wZb _ q;have b2:n%d<d:=wZc _ (by omega);have b3:0<=n / d:=wQI (by omega) (by omega);have b4:n / d<=n:=wZN _ (by omega);simp only [t1,t2];rw [wQd (n / d) ⟨b3,by omega⟩,wQd (d-n%d) ⟨by omega,by omega⟩];refine ⟨q,q,λq2=>?_,λq2=>?_⟩
  ·have b5:d>=2\/d=1:=by omega
   have b6:n / d+1<=18446744073709551615:=by
    rcases b5 with b5 | b5
    ·have:n / d<n\/n=0:=by
      by_cases hn:n=0
      ·exact .inr hn
      ·exact .inl (wYJ (by omega) (by omega))
     rcases this with h | h
     ·omega
     ·subst h; simp
    ·subst b5; omega
   rw [wQd _ ⟨by omega,b6⟩];simp [zQP,q]; omega
  ·simp [zQP,q]; omega
def zU (a b:Int):RV:=gJ (aK a) (aK b)
def tM (a:Nat):Int:=HPow.hPow (2:Int) a
def aU (a b:Int):Int:=aG (a*b)
def zR (a:Int):BitVec 64:=BitVec.ofInt 64 a
def oQ (a b:Int):Int:=Int.fdiv a (tM (Min.min (Int.toNat b) (64:Nat)))
def aML (a b:Int):Int:=(BitVec.toNat (HAnd.hAnd (zR a) (zR b)):Int)
def dG (a b:Int):Int:=aU (aG a) (aG b)
def aJH (a:Int):Int:=aML a 4294967295
abbrev wX2:=@IntKind.wrap_u64
theorem zZ9 (x y:Int):Ans prog 103 [rD (DV.int .u64 x),rD (DV.int .u64 y)] (rT [rD (DV.int .u64 (hiW (x*y))),rD (DV.int .u64 (loW (x*y)))]):=
 wc jJv aL Tryz.func103 (let b:=aG (aU (oQ x 32) (aG (aJH y))+oQ (dG (aJH x) (aJH y)) 32);let a:=(0:Int)<=32;bL (aN a (aM a (aH (aN a (bH a (aH (dL a (gJ (bX (aG (aU (oQ x 32) (oQ y 32)+oQ b 32)+oQ (aG (aG (aJH b)+aU (aG (aJH x)) (oQ y 32))) 32)) (bX (x*y))=zU (hiW (x*y)) (loW (x*y))))))))))) λhwf=>by
  delta eS aH aM aY aN dL bH gJ bL aK zU tM aG bX aU zR oQ aML dG aJH;simp only [sS,zZj];simp only [RV.wfs,RV.wf,DV.wf,DV.wfs,uc] at hwf;obtain ⟨hx,hy,_⟩:=hwf;have wr:∀ a:Int,0<=a->a<18446744073709551616->wrap .u64 a=a:=λa h1 h2=>wQd a ⟨h1,by omega⟩;have f32:∀ a:Int,0<=a->Int.fdiv a (2 ^ min (Int.toNat 32) 64)=a / 4294967296:=λa ha=>by
   rw [show ((2:Int) ^ min (Int.toNat 32) 64)=4294967296 from by decide];exact wQ6 _ (by omega)
  have ex:x=x / 4294967296*4294967296+x%4294967296:=by omega
  have ey:y=y / 4294967296*4294967296+y%4294967296:=by omega
  have bx:0<=x / 4294967296/\x / 4294967296<=4294967295/\0<=x%4294967296/\x%4294967296<=4294967295:=by omega
  have by_:0<=y / 4294967296/\y / 4294967296<=4294967295/\0<=y%4294967296/\y%4294967296<=4294967295:=by omega
  simp only [zU0 hx.1 (by omega),zU0 hy.1 (by omega),f32 x hx.1,f32 y hy.1];have exy:x*y=(x / 4294967296)*(y / 4294967296)*18446744073709551616+((x / 4294967296)*(y%4294967296)+(x%4294967296)*(y / 4294967296))*4294967296+(x%4294967296)*(y%4294967296):=by
   generalize x / 4294967296=x1 at *;generalize x%4294967296=x0 at *;generalize y / 4294967296=y1 at *;generalize y%4294967296=y0 at *;subst ex ey;grind
  rw [exy];clear exy ex ey;generalize x / 4294967296=x1 at *;generalize x%4294967296=x0 at *;generalize y / 4294967296=y1 at *;generalize y%4294967296=y0 at *;obtain ⟨p1,p2,p3,p4⟩:=bx;obtain ⟨q1,q2,q3,q4⟩:=by_;have m11:=zQc p1 p2 q1 q2;have m10:=zQc p1 p2 q3 q4;have m01:=zQc p3 p4 q1 q2;have m00:=zQc p3 p4 q3 q4;rw [wr x0 (by omega) (by omega),wr y0 (by omega) (by omega)];generalize x1*y1=A at *;generalize x1*y0=B at *;generalize x0*y1=C at *;generalize x0*y0=D at *;rw [wr D (by omega) (by omega),f32 D (by omega),wr B (by omega) (by omega),wr (B+D / 4294967296) (by omega) (by omega),zU0 (n:=B+D / 4294967296) (by omega) (by omega),wr ((B+D / 4294967296)%4294967296) (by omega) (by omega),wr C (by omega) (by omega),wr ((B+D / 4294967296)%4294967296+C) (by omega) (by omega),f32 (B+D / 4294967296) (by omega),f32 ((B+D / 4294967296)%4294967296+C) (by omega),wr A (by omega) (by omega),wr (A+(B+D / 4294967296) / 4294967296) (by omega) (by omega),wr (A+(B+D / 4294967296) / 4294967296+_) (by omega) (by omega)];unfold hiW loW;rw [wX2];constructor<;>omega
def kG (a b:Int):List DV:=[aK a,aK b]
def cA (a:Int):List DV:=kG (hiW a) (loW a)
def vJ (a:FuncId) (b c:Int) (e:RV):Prop:=Ans prog a [RV.d (aK b),RV.d (aK c)] e
def sI (a b:Int):RV:=RV.agg (cA (a*b))
theorem zXi (a b:Int):Ans prog 59 [rD (DV.int .u64 a),rD (DV.int .u64 b)] (rA [DV.int .u64 (hiW (a*b)),DV.int .u64 (loW (a*b))]):=
 wc jJv aL Tryz.func59 (True/\aM (vJ 103 a b (zU (hiW (a*b)) (loW (a*b)))) (aH (eS (sI a b)))) λhwf=>by
  delta eS aH aM gJ aK kG cA zU vJ sI;simp only [sS,zZj,zZ9]
theorem zYJ (ah al bh bl:Int):Ans prog 60 [rA [DV.int .u64 ah,DV.int .u64 al],rA [DV.int .u64 bh,DV.int .u64 bl]] (rJ ((cmpI (wV ah al) (wV bh bl)))):=
 wc jJv aL Tryz.func60 (let a:=cmpI (wV ah al) (wV bh bl);let b:=dB (-1) a;let c:=dB 1 a;True/\True/\True/\True/\gV (sF (ah==bh) (al==bl) true) (dB 0 a) (kX (eG (decide (ah<bh)=false) (True/\True/\True/\((ah==bh)=true->True/\nE (decide (al<bl)=true->cV b) (decide (al<bl)=false->cV c))/\lB (ah==bh) true c)) (eG (iG ah bh) b))) λhwf=>by
  delta eS aB gE dB iG nE cV eG kX gV sF lB;simp only [sS,zZj,zZ9,zXi];simp only [RV.wfs,RV.wf,DV.wf,DV.wfs,uc] at hwf;unfold cmpI wV;grind
def xO (a:Int):Int:=a%18446744073709551616
def kH (a:Int) (b:List RV):List RV:=RV.d (aK a)::b
def vW (a:DV) (b:Int):List RV:=[RV.d a,RV.d (aK b)]
def aIN (a:Int):Int:=a/18446744073709551616
def aCJ:List DV:=kG 0 0
def aKO (a:FuncId) (b c d e:Int):Prop:=AnsE prog a (kH b (vW (aK c) d)) (zU (xO e) (aIN e))
abbrev wXg:=@decide_eq_false
theorem zYm (ah al bh bl:Int):Ans prog 269 [rA [DV.int .u64 ah,DV.int .u64 al],rA [DV.int .u64 bh,DV.int .u64 bl]] (rT [rA [DV.int .u64 (hiW (addW (wV ah al) (wV bh bl))),DV.int .u64 (loW (addW (wV ah al) (wV bh bl)))],rD (dQ (addK (wV ah al) (wV bh bl)))]):=
 wc jJv aL Tryz.func269 (let c:=addK (wV ah al) (wV bh bl);let d:=cA (addW (wV ah al) (wV bh bl));let a:=al+bl+0;let e:=aIN a;let b:=ah+bh+e;aH (aN (aKO 286 al bl 0 a) (zJ (aKO 286 ah bh e b) (gV (dX (aIN b)) (mK aCJ false d c) (cZ (zQ (kG (xO b) (xO a))) (rT [rA d,rD (DV.bool c)])))))) λhwf=>by
  delta eS aH aN bH zJ gJ aK kG cA dX gV xO kH fR cZ mK vW aIN zQ zU aCJ aKO;simp only [sS,zZj,zZ9,zXi,zYJ];simp only [RV.wfs,RV.wf,DV.wf,DV.wfs,uc] at hwf;obtain ⟨⟨h1,h2,_⟩,⟨h3,h4,_⟩,_⟩:=hwf;refine ⟨zU2 _ _ _ (by omega) (by omega) (by omega),zU2 _ _ _ (by omega) (by omega) (by omega),λh=>?_,λh=>?_⟩
  ·have h:=wQP.1 h;have e:¬ wV ah al+wV bh bl<340282366920938463463374607431768211456:=by unfold wV; omega
   unfold addW addK;rw [if_neg e,wXg e];exact ⟨⟨rfl,rfl⟩,rfl⟩
  ·have h:=wZm.1 h;have e:wV ah al+wV bh bl<340282366920938463463374607431768211456:=by unfold wV; omega
   unfold addW addK;rw [if_pos e,decide_eq_true e];unfold wV hiW loW;exact ⟨⟨by omega,by omega⟩,rfl⟩
def aMM (a:FuncId) (b c d e f g h:Int):Prop:=AnsE prog a (kH b (vW (aK c) d)) (zU (xO e) (if b<f then g else h))
theorem zJQ (ah al bh bl:Int):Ans prog 284 [rA [DV.int .u64 ah,DV.int .u64 al],rA [DV.int .u64 bh,DV.int .u64 bl]] (rT [rA [DV.int .u64 (hiW (subW (wV ah al) (wV bh bl))),DV.int .u64 (loW (subW (wV ah al) (wV bh bl)))],rD (dQ (subK (wV ah al) (wV bh bl)))]):=
 wc jJv aL Tryz.func284 (let b:=subK (wV ah al) (wV bh bl);let c:=cA (subW (wV ah al) (wV bh bl));let a:=cmpI (wV ah al) (wV bh bl);fZ (True/\lE 60 (kG ah al) [rA (kG bh bl)] a/\True/\eG (decide (a<0)=true) (tO aCJ false c b)/\(kR a->cV (True/\True/\True/\aMM 300 al bl 0 (al-bl-0) (bl+0) 1 0/\kJ (tP (kG (fJ (fJ ah bh) (if al<bl+0 then 1 else 0)) (xO (al-bl-0))) c b))))) λhwf=>by
  delta eS aB gE kR aH cV eG gJ fZ aK kG cA xO kH vW zQ zU aCJ aG fJ lE kJ tO tP aMM;simp only [sS,zZj,zZ9,zXi,zYJ,zYm];simp only [RV.wfs,RV.wf,DV.wf,DV.wfs,uc] at hwf;obtain ⟨⟨h1,h2,_⟩,⟨h3,h4,_⟩,_⟩:=hwf;have hc:cmpI (wV ah al) (wV bh bl)<0↔wV ah al<wV bh bl:=by unfold cmpI; grind
  simp only [hc,Int.add_zero,Int.sub_zero];refine ⟨λh=>?_,λh=>⟨?_,?_⟩⟩
  ·unfold subW subK;rw [if_pos h,wXg (by omega)];exact ⟨⟨rfl,rfl⟩,rfl⟩
  ·have:=zHJ al bl 0 (by omega) (by omega) (by omega);simpa only [Int.add_zero,Int.sub_zero] using this
  ·unfold subW subK;rw [if_neg h,decide_eq_true (by omega)];unfold wV at h;unfold wV hiW loW;by_cases q:al<bl
   ·rw [if_pos q,wQd (ah-bh) ⟨by omega,by omega⟩,wQd _ ⟨by omega,by omega⟩];exact ⟨⟨by omega,by omega⟩,rfl⟩
   ·rw [if_neg q,wQd (ah-bh) ⟨by omega,by omega⟩,wQd _ ⟨by omega,by omega⟩];exact ⟨⟨by omega,by omega⟩,rfl⟩
def aKP (a:Int) (b:wi):wi:=Cl.d (aK a)::b
def aOD (a:Int):Prop:=a<340282366920938463463374607431768211456
def sH (a:Int × Int):Nat:=Int.toNat a.snd
def oP (a:Int × Int × Int):Int:=a.snd.fst
def aCM (a:Nat) (b:Int) (c:we):we:=mV a (aK b) c
def aCN (a:wi):wi:=aKP 0 a
def aCL (a:Prop) (b:Int × Int × Int):Prop:=a/\0<=b.fst/\0<=b.snd.fst/\0<=b.snd.snd/\b.snd.snd<18446744073709551616/\aOD b.fst/\aOD (oP b)
def kI (a b:Int):Prop:=aK a=aK b
def gY (a:Int):Int:=wV (hiW a) (loW a)
def oR (a:FuncId) (b:List DV) (c:List RV) (e:Int) (f:Bool):Prop:=Ans prog a (RV.agg b::c) (RV.tup [RV.agg (cA e),RV.d (DV.bool f)])
def qW (a:Int):List RV:=[RV.agg (cA a)]
def aCO (a:Bool) (b c:Prop):Prop:=vH a b (gC a->c)
def zT (a:FuncId) (b c d e:Int):Prop:=oR a (cA b) (qW c) (addW d e) (addK d e)
def aFM (a b:Int):Prop:=kI (oQ a 1) b
abbrev wXh:=@Int.mul_one
theorem zJn (ah al k:Int) (h:wV ah al*k<340282366920938463463374607431768211456):Ans prog 289 [rA [DV.int .u64 ah,DV.int .u64 al],rD (DV.int .u64 k)] (rT [rA [DV.int .u64 (hiW (wV ah al*k)),DV.int .u64 (loW (wV ah al*k))],rD (dQ true)]):=
 wc jJv (xH (tN (Ann.loop (Inv.mk (Int × Int × Int) (λ(a:Int × Int × Int)=>aCL (a.fst+oP a*a.snd.snd=wV ah al*k) a) (λ(b:Int × Int × Int)=>lY (aCM 1 b.snd.snd (fG 2 2 (dU 4 4 6 6 (aIJ 7 true [])))) 2 (aX (aK (hiW (oP b))) (aK (loW (oP b))) []) 4 (aCN (aCN [])) (vG 6 (aX (aK (hiW b.fst)) (aK (loW b.fst)) []) [])) (λ(c:Int × Int × Int)=>sH c.snd)) (λ(d:Int × Int × Int)=>aL)))) Tryz.func289 (let b:=wV ah al*k;let s:=cA b;let t:=eS (0:Nat)/\bM (kE (eS (DV.bool true)));let p:=mK aCJ false s true;kX (∃ h:Int × Int × Int,aCL (h.fst+oP h*h.snd.snd=b) h/\aF (kI k h.snd.snd/\t) (kG ah al=cA (oP h)) (eS aCJ) (aCJ=cA h.fst)) (∀ g:Int × Int × Int,let o:=cA g.fst;let a:=g.snd.snd;let l:=sH g.snd;let m:=oQ a 1;let i:=oP g;let j:=gY i;let u:=cA (addW j j);let n:=addK j j;let v:=eS (0:Nat)/\bM (kE (kC n true));let w:=oR 269 (cA i) (qW i) (addW j j) n;let x:=aG (aML a 1)==1;let q:=gY g.fst;let y:=cA (addW q j);let r:=addK q j;iN (aCL (g.fst+i*a=b) g) (jY a 0->True/\True/\True/\(x=true->True/\True/\zT 269 g.fst i q j/\True/\True/\True/\True/\vH r p (bP (gC r) ((0:Int)<=1) (iH m 0 (True/\w/\True/\True/\True/\True/\aCO n p (∃ f:Int × Int × Int,aCL (f.fst+oP f*f.snd.snd=b) f/\sH f.snd<l/\nH (aFM a f.snd.snd/\v) (u=cA (oP f)) aCJ y (cA f.fst))) (xI m (∃ e:Int × Int × Int,aCL (e.fst+oP e*e.snd.snd=b) e/\sH e.snd<l/\nH (aFM a e.snd.snd/\eS (0:Nat)/\bM (kE (kC r true))) (cA (oP g)=cA (oP e)) aCJ y (cA e.fst))))))/\bP (x=false) ((0:Int)<=1) (iH m 0 (True/\w/\True/\True/\True/\True/\aCO n p (∃ d:Int × Int × Int,aCL (d.fst+oP d*d.snd.snd=b) d/\sH d.snd<l/\nH (aFM a d.snd.snd/\v) (u=cA (oP d)) aCJ o (cA d.fst))) (xI m (∃ c:Int × Int × Int,aCL (c.fst+oP c*c.snd.snd=b) c/\sH c.snd<l/\nH (aFM a c.snd.snd/\t) (cA (oP g)=cA (oP c)) aCJ o (cA c.fst))))) (iO a 0 (mK o true s true)))) λhwf=>by
  delta eS aF bM iN iH iO bP jY fL xI kX nH kE kC aK kG cA fR mK aCJ tM aG zR kI aOD sH oP aCL gC vH gY oR qW oQ aCO zT aML aFM;simp only [sS,zZj,zZ9,zXi,zYJ,zYm,zJQ];simp only [RV.wfs,RV.wf,DV.wf,DV.wfs,uc] at hwf;obtain ⟨⟨h1,h2,_⟩,h3,_⟩:=hwf;have hA:0<=wV ah al:=by unfold wV; omega
  have hk1:wV ah al<340282366920938463463374607431768211456:=by unfold wV; omega
  have f1:∀ a:Int,0<=a->Int.fdiv a (2 ^ min (Int.toNat 1) 64)=a / 2:=λa ha=>by
   rw [show ((2:Int) ^ min (Int.toNat 1) 64)=2 from by decide];exact wQ6 _ (by omega)
  refine ⟨⟨(0,wV ah al,k),⟨by simp,Int.le_refl 0,hA,h3.1,by simp only; omega,by simp only; omega,hk1⟩,rfl,⟨(yZO h2.1 (by omega)).symm,(yZN h2.1 (by omega)).symm⟩,rfl,rfl⟩,λz hz=>?_⟩;obtain ⟨o,a,j⟩:=z;obtain ⟨e,z1,z2,z3,z4,z5,z6⟩:=hz;simp only at e z1 z2 z3 z4 z5 z6 |-;have eb:wrap .u64 ((BitVec.ofInt 64 j &&& BitVec.ofInt 64 1).toNat:Int)=j%2:=by
   rw [yQ0 z3 z4,wQd _ ⟨by omega,by omega⟩]
  simp only [eb,f1 j z3,zZV];have ej:a*j=a*(j / 2)*2+a*(j%2):=by
   have:j=j / 2*2+j%2:=by omega
   generalize j / 2=x at *;generalize j%2=y at *;subst this; grind
  have n1:0<=a*(j / 2):=Int.mul_nonneg z2 (by omega);have ad:∀ x y:Int,x+y<340282366920938463463374607431768211456->addW x y=x+y/\addK x y=true:=λx y hxy=>⟨by unfold addW; rw [if_pos hxy],decide_eq_true hxy⟩
  have dbl:0<j / 2->a+a<340282366920938463463374607431768211456:=λhj=>by
   have:=Int.mul_le_mul_of_nonneg_left (show 1<=j / 2 by omega) z2;have n2:0<=a*(j%2):=Int.mul_nonneg z2 (by omega);omega
  have aa:a*(j / 2)*2=(a+a)*(j / 2):=by grind
  refine ⟨λhj=>⟨λb1=>?_,λb0=>?_⟩,λhj=>?_⟩
  ·have b1:j%2=1:=by simpa using b1
   rw [b1,wXh] at ej;have oa:=ad o a (by omega);refine ⟨λq=>(by rw [oa.2] at q; cases q),λq=>⟨by decide,λhj2=>?_,λhj2=>?_⟩⟩
   ·have da:=ad a a (dbl (by omega));rw [oa.1,da.1];exact ⟨λq=>(by rw [da.2] at q; cases q),λq=>⟨(o+a,a+a,j / 2),⟨by simp only; omega,by simp only; omega,by simp only; omega,by simp only; omega,by simp only; omega,by simp only; omega,by simp only; have:=dbl (by omega); omega⟩,by simp only; omega,⟨rfl,q⟩,⟨rfl,rfl⟩,rfl,rfl⟩⟩
   ·have j0:j / 2=0:=by omega
    rw [oa.1];refine ⟨(o+a,a,j / 2),⟨?_,by simp only; omega,z2,by simp only; omega,by simp only; omega,by simp only; omega,z6⟩,by simp only; omega,⟨rfl,q⟩,⟨rfl,rfl⟩,rfl,rfl⟩;rw [j0] at ej |-;simp only [wZA,Int.zero_mul] at ej |-;omega
  ·have b0:j%2=0:=(Int.emod_two_eq j).resolve_right (by simpa using b0);rw [b0,wZA] at ej;refine ⟨by decide,λhj2=>?_,λhj2=>?_⟩
   ·have da:=ad a a (dbl (by omega));rw [da.1];exact ⟨λq=>(by rw [da.2] at q; cases q),λq=>⟨(o,a+a,j / 2),⟨by simp only; omega,z1,by simp only; omega,by simp only; omega,by simp only; omega,z5,by simp only; have:=dbl (by omega); omega⟩,by simp only; omega,⟨rfl,q⟩,⟨rfl,rfl⟩,rfl,rfl⟩⟩
   ·omega
  ·have:j=0:=by omega
   rw [this,wZA,Int.add_zero] at e;rw [e];exact ⟨rfl,rfl⟩
def jWv:Gam:=jJv.add [.p 313 (λv=>some (rJ (lenS (nAt (uq v) 0)))),
 .p 311 (λv=>some (rJ (64-lenS (nAt (uq v) 0)))),
 .p 308 (λ| [.d (.int _ hi),.d (.int _ lo),.d (.int _ y)]=>some (RV.tup [RV.d (DV.int .u64 (wV hi lo / y)),RV.d (DV.int .u64 (wV hi lo%y))]) | _=>none)]
def aHN (a:Ann):Ann:=jA (tN a)
def lX (a:Int):DV:=DV.int IntKind.u32 a
def aBL (a:Int × Int) (b:Prop):Prop:=0<=a.fst/\0<=a.snd/\b
def aIU (a b:Int) (c:Prop):Prop:=decide (a>b)=true->True/\c
def aAY (a b c:Prop):Prop:=a/\(b/\c/\True)/\True
def jV (a:Int):Int:=wrap IntKind.u32 a
def aHX (a:Int):RV:=RV.d (lX (zQP a 255))
abbrev wXG:=@IntWalk.u32_in
theorem zXF (n:Int):Ans prog 118 [rD (DV.int .u32 n)] (rD (DV.int .u32 (zQP n 255))):=
 wc jWv (aHN (Ann.loop (Inv.mk (Int × Int) (λ(a:Int × Int)=>aBL a (a.fst*255+a.snd=n)) (λ(b:Int × Int)=>nT (gH 0 (lX b.snd) 3 (lX b.fst) [])) (λ(c:Int × Int)=>sH c)) (λ(d:Int × Int)=>aL))) Tryz.func118 (gK (∃ d:Int × Int,aAY (aBL d (d.fst*255+d.snd=n)) (lX n=lX d.snd) (lX 0=lX d.fst)) (∀ c:Int × Int,let a:=c.snd;let e:=Int.fdiv a (tM (Min.min (Int.toNat 8) (32:Nat)));iN (aBL c (c.fst*255+a=n)) (aIU a 255 (True/\(0:Int)<=8/\bH ((0:Int)<=8) (∃ b:Int × Int,aW (aBL b (b.fst*255+b.snd=n)) (sH b<sH c) (lX (jV (e+jV (BitVec.toNat (HAnd.hAnd (BitVec.ofInt 32 a) (BitVec.ofInt 32 255)):Int)))=lX b.snd/\lX (jV (c.fst+e))=lX b.fst/\True)))) (cS (decide (a>255)) (aFT a 128 (cZ (rD (lX (jV (c.fst+1)))) (aHX n))) (aAA a 128 (rD (lX c.fst)=aHX n))))) λhwf=>by
  delta eS iN aW cS bH gK cZ tM uI aAA sH aFT aIU aAY lX aBL jV aHX;simp only [sS];simp only [RV.wfs,RV.wf,DV.wf,DV.wfs] at hwf;have mi:IntKind.min .u64=0:=rfl;have ma:IntKind.max .u64=18446744073709551615:=rfl;have mj:IntKind.min .u32=0:=rfl;have mb:IntKind.max .u32=4294967295:=rfl;simp only [mi,ma,mj,mb] at hwf;have f8:∀ a:Int,0<=a->Int.fdiv a (2 ^ min (Int.toNat 8) 32)=a / 256:=λa ha=>by
   rw [show ((2:Int) ^ min (Int.toNat 8) 32)=256 from by decide];exact wQ6 _ (by omega)
  refine ⟨⟨(0,n),⟨by omega,by omega,by omega⟩,rfl,rfl⟩,λz ⟨h0,h1,h2⟩=>⟨λhc=>?_,λhc=>⟨λhd=>?_,λhd=>?_⟩⟩⟩
  ·obtain ⟨a,b⟩:=z;simp only at h0 h1 h2 hc |-;rw [f8 b h1,yQZ h1 (by omega)];rw [wXG (b%256) ⟨by omega,by omega⟩,wXG (a+b / 256) ⟨by omega,by omega⟩,wXG (b / 256+b%256) ⟨by omega,by omega⟩];exact ⟨by decide,by decide,(a+b / 256,b / 256+b%256),⟨by simp only; omega,by simp only; omega,by simp only; omega⟩,by simp only; omega,rfl,rfl⟩
  ·obtain ⟨a,b⟩:=z;simp only at h0 h1 h2 hc hd |-;rw [<- h2,jUS h1 (by omega),if_pos (by omega),wXG _ ⟨by omega,by omega⟩]
  ·obtain ⟨a,b⟩:=z;simp only at h0 h1 h2 hc hd |-;rw [<- h2,jUS h1 (by omega),if_neg (by omega)]
def aMK (a:Nat) (b:Int) (c:Nat) (d:DV) (e:we):we:=gH a (aK b) c d e
def aAW (a:Nat) (b:Int) (c:Nat) (d:Int) (e:we):we:=aMK a b c (aK d) e
def jN (a b:Int):Prop:=bX a=aK b
def aHY (a:Int):RV:=iS (zQP a 65535)
theorem zXS (n:Int):Ans prog 119 [rD (DV.int .u64 n)] (rD (DV.int .u64 (zQP n 65535))):=
 wc jWv (aHN (Ann.loop (Inv.mk (Int × Int) (λ(a:Int × Int)=>aBL a (a.fst*65535+a.snd=n)) (λ(b:Int × Int)=>nT (aAW 0 b.snd 3 b.fst [])) (λ(c:Int × Int)=>sH c)) (λ(d:Int × Int)=>aL))) Tryz.func119 (gK (∃ d:Int × Int,aAY (aBL d (d.fst*65535+d.snd=n)) (kI n d.snd) (kI 0 d.fst)) (∀ c:Int × Int,let a:=c.snd;iN (aBL c (c.fst*65535+a=n)) (aIU a 65535 (True/\(0:Int)<=16/\bH ((0:Int)<=16) (∃ b:Int × Int,aW (aBL b (b.fst*65535+b.snd=n)) (sH b<sH c) (jN (oQ a 16+aG (aML a 65535)) b.snd/\jN (c.fst+oQ a 16) b.fst/\True)))) (cS (decide (a>65535)) (aFT a 32768 (cZ (vF (c.fst+1)) (aHY n))) (aAA a 32768 (iS c.fst=aHY n))))) λhwf=>by
  delta eS iN aW cS bH gK aK cZ tM aG bX zR kI jN iS uI vF aAA sH oQ aML aFT aIU aAY aBL aHY;simp only [sS,zXF];simp only [RV.wfs,RV.wf,DV.wf,DV.wfs] at hwf;have mi:IntKind.min .u64=0:=rfl;have ma:IntKind.max .u64=18446744073709551615:=rfl;have mj:IntKind.min .u32=0:=rfl;have mb:IntKind.max .u32=4294967295:=rfl;simp only [mi,ma,mj,mb] at hwf;have f8:∀ a:Int,0<=a->Int.fdiv a (2 ^ min (Int.toNat 16) 64)=a / 65536:=λa ha=>by
   rw [show ((2:Int) ^ min (Int.toNat 16) 64)=65536 from by decide];exact wQ6 _ (by omega)
  refine ⟨⟨(0,n),⟨by omega,by omega,by omega⟩,rfl,rfl⟩,λz ⟨h0,h1,h2⟩=>⟨λhc=>?_,λhc=>⟨λhd=>?_,λhd=>?_⟩⟩⟩
  ·obtain ⟨a,b⟩:=z;simp only at h0 h1 h2 hc |-;rw [f8 b h1,jHB h1 (by omega)];rw [wQd (b%65536) ⟨by omega,by omega⟩,wQd (a+b / 65536) ⟨by omega,by omega⟩,wQd (b / 65536+b%65536) ⟨by omega,by omega⟩];exact ⟨by decide,by decide,(a+b / 65536,b / 65536+b%65536),⟨by simp only; omega,by simp only; omega,by simp only; omega⟩,by simp only; omega,rfl,rfl⟩
  ·obtain ⟨a,b⟩:=z;simp only at h0 h1 h2 hc hd |-;rw [<- h2,jJr h1 (by omega),if_pos (by omega),wQd _ ⟨by omega,by omega⟩]
  ·obtain ⟨a,b⟩:=z;simp only at h0 h1 h2 hc hd |-;rw [<- h2,jJr h1 (by omega),if_neg (by omega)]
def yO (a:Int × Int) (b c:Int) (d:Prop):Prop:=0<=a.fst/\a.fst<b/\0<=a.snd/\a.snd<=c/\d
def zB (a:Int × Int) (b:Int):Prop:=a.snd+lenS a.fst=lenS b
def aLL (a:Int × Int) (b c:Int):Prop:=yO a 4294967296 b (zB a c)
def aJI (a:Int):Prop:=uI a 4294967296
def nU (a:List UInt8):List UInt8:=8::8::a
def nV (a:List UInt8):List UInt8:=7::7::7::7::a
def aDV (a:List UInt8):List UInt8:=nU (nU (nU (nU (nU (nU (nU (nU a)))))))
def aDW (a:List UInt8):List UInt8:=6::6::6::6::a
theorem zWN (x:Int):Ans prog 313 [rD (DV.int .u64 x)] (rJ ((lenS x))):=
 wc jWv (cU (ul (Int × Int) (λd=>aLL d 32 x) (λa=>let e:=nT (aMK 0 a.fst 2 (aB a.snd) []);e) (λi=>ul (Int × Int) (λc=>yO c 65536 48 (zB c x)) (λa=>let e:=nT (aMK 0 a.fst 2 (aB a.snd) []);e) (λh=>ul (Int × Int) (λb=>yO b 256 56 (zB b x)) (λa=>let e:=nT (aMK 0 a.fst 2 (aB a.snd) []);e) (λf=>aL))))) Tryz.func313 (let l:=ByteArray.mk (List.toArray ((0:UInt8)::(1:UInt8)::(2:UInt8)::(2:UInt8)::(3:UInt8)::(3:UInt8)::(3:UInt8)::(3:UInt8)::(4:UInt8)::(4:UInt8)::(4:UInt8)::(4:UInt8)::(4:UInt8)::(4:UInt8)::(4:UInt8)::(4:UInt8)::(5:UInt8)::(5:UInt8)::(5:UInt8)::(5:UInt8)::(5:UInt8)::(5:UInt8)::(5:UInt8)::(5:UInt8)::(5:UInt8)::(5:UInt8)::(5:UInt8)::(5:UInt8)::(5:UInt8)::(5:UInt8)::(5:UInt8)::(5:UInt8)::(6:UInt8)::aDW (aDW (aDW (aDW (aDW (aDW (6::6::6::aDW (nV (nV (nV (nV (nV (nV (nV (nV (nV (nV (nV (nV (nV (nV (nV (nV (nU (aDV (aDV (nU (nU (nU (nU (aDV (nU (nU (nU (aDV (aDV (aDV (aDV [])))))))))))))))))))))))))))))))))))))));True/\gK (fI x 4294967296->aY ((0:Int)<=32) (∃ j:Int × Int,aAY (aLL j 32 x) (kI (oQ x 32) j.fst) (aZ 32 j.snd))) (aJI x->(∃ h:Int × Int,aAY (aLL h 32 x) (kI x h.fst) (cO h.snd)))/\(∀ g:Int × Int,aLL g 32 x->gK (bP (fI g.fst 65536) ((0:Int)<=16) (True/\True/\True/\True/\(∃ f:Int × Int,aAY (yO f 65536 48 (zB f x)) (kI (oQ g.fst 16) f.fst) (pU (g.snd+16) f.snd)))) (uI g.fst 65536->(∃ e:Int × Int,aAY (yO e 65536 48 (zB e x)) (kI g.fst e.fst) (aZ g.snd e.snd)))/\(∀ a:Int × Int,yO a 65536 48 (zB a x)->gK (bP (fI a.fst 256) ((0:Int)<=8) (True/\True/\True/\True/\(∃ d:Int × Int,aAY (yO d 256 56 (zB d x)) (kI (oQ a.fst 8) d.fst) (pU (a.snd+8) d.snd)))) (uI a.fst 256->(∃ c:Int × Int,aAY (yO c 256 56 (zB c x)) (kI a.fst c.fst) (aZ a.snd c.snd)))/\(∀ b:Int × Int,let k:=wrap IntKind.u8 b.fst;eG (yO b 256 56 (zB b x)) (aN (mO k (ByteArray.size l)) (rD (aB (aT (b.snd+aT (UInt8.toNat (Option.getD l.data.toList[Int.toNat k]? (0:UInt8)):Int))))=gE (lenS x))))))) λhwf=>by
  delta eS aB gE aT aY aN mO bP eG aZ pU gK aK tM fI kI uI oQ cO aJI yO zB aLL nU nV aDV aDW aAY;simp only [sS,zXF,zXS];simp only [RV.wfs,RV.wf,DV.wf,DV.wfs,uc] at hwf;have f1:∀ a:Int,0<=a->Int.fdiv a (2 ^ min (Int.toNat 32) 64)=a / 4294967296:=λa ha=>by
   rw [show ((2:Int) ^ min (Int.toNat 32) 64)=4294967296 from by decide];exact wQ6 _ (by omega)
  have f2:∀ a:Int,0<=a->Int.fdiv a (2 ^ min (Int.toNat 16) 64)=a / 65536:=λa ha=>by
   rw [show ((2:Int) ^ min (Int.toNat 16) 64)=65536 from by decide];exact wQ6 _ (by omega)
  have f3:∀ a:Int,0<=a->Int.fdiv a (2 ^ min (Int.toNat 8) 64)=a / 256:=λa ha=>by
   rw [show ((2:Int) ^ min (Int.toNat 8) 64)=256 from by decide];exact wQ6 _ (by omega)
  have q1:((2:Int) ^ 32)=4294967296:=rfl;have q2:((2:Int) ^ 16)=65536:=rfl;have q3:((2:Int) ^ 8)=256:=rfl;have g1:=λy (h:2 ^ 32<=y)=>zGv (x:=y) 32 h;have g2:=λy (h:2 ^ 16<=y)=>zGv (x:=y) 16 h;have g3:=λy (h:2 ^ 8<=y)=>zGv (x:=y) 8 h;simp only [q1,q2,q3] at g1 g2 g3;refine ⟨⟨λh=>⟨by decide,(x / 4294967296,32),⟨by simp only; omega,by simp only; omega,by simp only; omega,by simp only; omega,by simp only; have:=g1 x (by omega); omega⟩,f1 x hwf.1.1,rfl⟩,λh=>⟨(x,0),⟨hwf.1.1,by simp only; omega,by simp only; omega,by simp only; omega,by simp only; omega⟩,rfl,rfl⟩⟩,?_⟩;intro p ⟨a1,a2,a3,a4,a5⟩;refine ⟨⟨λh=>⟨by decide,(p.1 / 65536,p.2+16),⟨by simp only; omega,by simp only; omega,by simp only; omega,by simp only; omega,by simp only; have:=g2 p.1 (by omega); omega⟩,f2 p.1 a1,by rw [wQb _ ⟨by omega,by omega⟩]⟩,λh=>⟨p,⟨a1,by omega,a3,by omega,a5⟩,rfl,rfl⟩⟩,?_⟩;intro q ⟨b1,b2,b3,b4,b5⟩;refine ⟨⟨λh=>⟨by decide,(q.1 / 256,q.2+8),⟨by simp only; omega,by simp only; omega,by simp only; omega,by simp only; omega,by simp only; have:=g3 q.1 (by omega); omega⟩,f3 q.1 b1,by rw [wQb _ ⟨by omega,by omega⟩]⟩,λh=>⟨q,⟨b1,by omega,b3,by omega,b5⟩,rfl,rfl⟩⟩,?_⟩;intro r ⟨c1,c2,c3,c4,c5⟩;rw [IntWalk.u8_in r.1 ⟨c1,by omega⟩];have sz:∀ (l:Array UInt8),((⟨l⟩:ByteArray).size:Int)=(l.size:Int):=λ_=>rfl;obtain ⟨m,hm⟩:=wQU c1;rw [hm] at c2 c5 |-;rw [wQl];have tb:∀ m:Nat,m<256->(((([0,1,2,2,3,3,3,3,4,4,4,4,4,4,4,4,5,5,5,5,5,5,5,5,5,5,5,5,5,5,5,5,6,6,6,6,6,6,6,6,6,6,6,6,6,6,6,6,6,6,6,6,6,6,6,6,6,6,6,6,6,6,6,6,7,7,7,7,7,7,7,7,7,7,7,7,7,7,7,7,7,7,7,7,7,7,7,7,7,7,7,7,7,7,7,7,7,7,7,7,7,7,7,7,7,7,7,7,7,7,7,7,7,7,7,7,7,7,7,7,7,7,7,7,7,7,7,7,8,8,8,8,8,8,8,8,8,8,8,8,8,8,8,8,8,8,8,8,8,8,8,8,8,8,8,8,8,8,8,8,8,8,8,8,8,8,8,8,8,8,8,8,8,8,8,8,8,8,8,8,8,8,8,8,8,8,8,8,8,8,8,8,8,8,8,8,8,8,8,8,8,8,8,8,8,8,8,8,8,8,8,8,8,8,8,8,8,8,8,8,8,8,8,8,8,8,8,8,8,8,8,8,8,8,8,8,8,8,8,8,8,8,8,8,8,8,8,8,8,8,8,8,8,8,8,8]:List UInt8)[m]?.getD 0).toNat:Nat):Int)=lenS m:=wQE (by decide +kernel);have tt:=tb m (by omega);refine ⟨⟨by omega,by rw [sz]; simp only [wZr,wQu,wQQ]; omega⟩,?_⟩;rw [<- c5,<- tt];clear tb tt sz;generalize Option.getD _ _=w;have:=UInt8.toNat_lt w;have h1:wrap .i64 (w.toNat:Int)=(w.toNat:Int):=wQb _ ⟨by omega,by omega⟩;rw [h1,wQb _ ⟨by omega,by omega⟩]
theorem zVa (x:Int) (h0:1<=x):Ans prog 311 [rD (DV.int .u64 x)] (rJ ((64-lenS x))):=
 wc jWv aL Tryz.func311 (True/\aY (Ans prog 313 [rD (aK x)] (gE (lenS x))) (rD (dZ 64 (lenS x))=gE (64-lenS x))) λhwf=>by
  delta eS aB gE aT aY dZ aK;simp only [sS,zXF,zXS,zWN];have hx:x<18446744073709551616:=by
   simp only [RV.wfs,RV.wf,DV.wf] at hwf;have ma:IntKind.max .u64=18446744073709551615:=rfl;rw [ma] at hwf; omega
  obtain ⟨s,e,hs,_⟩:=jJd h0 hx;rw [e];exact wQb _ ⟨by omega,by omega⟩
def aAV (a:Int):Int:=a*4294967296
def aAX (a:Nat) (b:Int) (c:Nat) (d:Int) (e:Nat) (f:Int) (g:Nat) (h:Int) (i:we):we:=aAW a b c d (aAW e f g h i)
def aJG (a:Int × Int):Nat:=Int.toNat a.fst
def sK (a b:Int):Int:=fJ (aG a) b
def aGY (a b c:DV) (d e f:Prop):Prop:=eS a/\pV b (eS c) d e f
theorem ud:∀ x:Int,0<=x->x<18446744073709551616->wrap .u64 x=x:=λx x0 x1=>wQd x ⟨x0,by omega⟩
theorem jZw (hi lo y:Int) (h0:hi<y):Ans prog 308 [rD (DV.int .u64 hi),rD (DV.int .u64 lo),rD (DV.int .u64 y)] (rT [rD (DV.int .u64 (wV hi lo / y)),rD (DV.int .u64 (wV hi lo%y))]):=
 wc jWv (xH (jA (jA (jA (jA (ul Dv (λt=>Dv.is t hi lo y) (λc=>nT (aCM 2 (aAV c.v1+c.v0) (aAX 8 (c.s:Int) 9 c.v1 10 c.v0 11 c.u (aAW 13 c.w1 14 c.w0 [])))) (λa=>let d:=a.w0;let e:=(a.s:Int);let b:=aAV a.v1+a.v0;let l:=aAV a.u+a.w1;jA (Ann.cut (Inv.mk Int (λ(s:Int)=>s=l/b) (λ(r:Int)=>nT (aCM 2 b (aAX 8 e 9 a.v1 10 a.v0 11 a.u (aCM 13 a.w1 (aAW 14 d 15 r []))))) (λ(w:Int)=>(0:Nat))) (Ann.loop (Inv.mk (Int × Int) (λ(k:Int × Int)=>DgOk a.v1 a.v0 a.u a.w1 k.fst k.snd) (λ(j:Int × Int)=>nT (aCM 2 b (aAX 8 e 9 a.v1 10 a.v0 11 a.u (aAX 13 a.w1 14 d 15 j.fst 16 j.snd [])))) (λ(m:Int × Int)=>aJG m)) (λ(v:Int × Int)=>aL)) (λ(g:Int)=>ul Int (λq=>q=l-g*b) (λp=>nT (aCM 2 b (aAW 8 e 9 a.v1 (aAX 10 a.v0 14 d 15 g 17 p [])))) (λf=>jA (Ann.cut (Inv.mk Int (λ(o:Int)=>o=(aAV f+d)/b) (λ(n:Int)=>nT (aAX 2 b 8 e 14 d 15 g (aAW 17 f 18 n []))) (λ(w:Int)=>(0:Nat))) (Ann.loop (Inv.mk (Int × Int) (λ(i:Int × Int)=>DgOk a.v1 a.v0 f a.w0 i.fst i.snd) (λ(h:Int × Int)=>nT (aCM 2 b (aAX 8 e 9 a.v1 10 a.v0 14 d (aAX 15 g 16 h.snd 17 f 18 h.fst [])))) (λ(m:Int × Int)=>aJG m)) (λ(v:Int × Int)=>aL)) (λ(u:Int)=>aL)))))))))))) Tryz.func308 (let M:=zU (wV hi lo/y) (wV hi lo%y);let F:=fJ 64 (lenS y);let w:=tM (Min.min (Int.toNat F) (64:Nat));let z1:=aU lo w;let z2:=fJ 64 F;let z3:=aU y w;let G:=0<=F;True/\qT y 0 False (bK y=false->fQ (lH y hi) False (cS (decide (y<=hi)) (bK hi=true->True/\aY (y≠0) (y≠0/\True/\True/\eS true/\gJ (bX (Int.tdiv lo y)) (aK (Int.tmod lo y))=M)) (bK hi=false->True/\gI (Ans prog 311 [rD (aK y)] (gE (64-lenS y))) (True/\True/\True/\G/\cQ ((0:Int)<=32) (aY G (qK (0<=z2) G (True/\(0:Int)<=32/\True/\bF (∃ e:Dv,Dv.is e hi lo y/\(jN (y*w) (aAV e.v1+e.v0)/\cF (jN (64-lenS y) (e.s:Int)) (kI (oQ z3 32) e.v1) (jN (aJH z3) e.v0) (jN (BitVec.toNat (HOr.hOr (zR (aU hi w)) (zR (oQ lo z2))):Int) e.u) (kI (oQ z1 32) e.w1) (jN (aJH z1) e.w0))/\True)/\(∀ a:Dv,let z:=(a.s:Int);let c:=a.v1;let h:=aAV c+a.v0;let f:=aK a.w0;let i:=eS (aK a.v0);let r:=aK c;let g:=aK z;let d:=aK h;let j:=a.v0;let k:=a.v1;let P:=eS g;let T:=aAV a.u+a.w1;let C:=eS r;let D:=T/h;let v:=aK a.w1;let E:=aK a.u;let W:=eS g;let z0:=Int.tdiv a.u c;iN (Dv.is a hi lo y) (c≠0) (nE ((∃ u:Int × Int,DgOk k j a.u a.w1 u.fst u.snd/\aGY d g r i (eS E) (fV v f (jN z0 u.fst) (jN (a.u-aU (aG z0) c) u.snd))/\True)/\(∀ p:Int × Int,let s:=p.fst;let V:=aG (p.snd+c);let X:=fQ (fI V 4294967296) (∃ K:Int,K=D/\pV d W C i (fV E v (eS f) (jN (s-1) K))/\True) (aJI V->(∃ o:Int × Int,aW (DgOk k j a.u a.w1 o.fst o.snd) (aJG o<aJG p) (aGY d g r i (eS E) (fV v f (jN (s-1) o.fst) (jN (p.snd+c) o.snd)))));let Y:=aG (aU 4294967296 p.snd+a.w1);let Z:=aU s a.v0;DgOk k j a.u a.w1 p.fst p.snd->bI (aJI s) (True/\True/\True/\True/\bI (jY Z Y) (True/\True/\True/\True/\X) (fL Z Y->(∃ L:Int,L=D/\pV d W C i (fV E v (eS f) (kI s L))/\True))) (mE (decide (s>=4294967296)) (bL X)))) (∀ n:Int,let B:=eS (aK n);let U:=T-n*h;zE (n=D) (aH (∃ J:Int,J=U/\(eS d/\dE g C (fV (aK a.v0) f B (jN (aG (aU a.u 4294967296+a.w1)-aU n h) J)))/\True)) (∀ b:Int,let A:=(aAV b+a.w0)/h;iN (b=U) (c≠0) (nE ((∃ t:Int × Int,DgOk k j b a.w0 t.fst t.snd/\aGY d g r i (eS f) (aF B (jN (b-aU (aG (Int.tdiv b c)) c) t.snd) (eS (aK b)) (jN (Int.tdiv b c) t.fst))/\True)/\(∀ m:Int × Int,let q:=m.fst;let O:=aG (m.snd+c);let Q:=fQ (fI O 4294967296) (∃ H:Int,H=A/\dE d P (fV f (aK n) (eS (aK b)) (jN (q-1) H))/\True) (aJI O->(∃ l:Int × Int,aW (DgOk k j b a.w0 l.fst l.snd) (aJG l<aJG m) (aGY d g r i (eS f) (aF B (jN (m.snd+c) l.snd) (eS (aK b)) (jN (q-1) l.fst)))));let R:=aG (aU 4294967296 m.snd+a.w0);let S:=aU q a.v0;DgOk k j b a.w0 m.fst m.snd->bI (aJI q) (True/\True/\True/\True/\bI (jY S R) (True/\True/\True/\True/\Q) (fL S R->(∃ I:Int,I=A/\dE d P (fV f (aK n) (eS (aK b)) (kI q I))/\True))) (mE (decide (q>=4294967296)) (bL Q)))) (∀ x:Int,x=A->True/\True/\True/\True/\aH (aY (0<=z) (gJ (bX (aU n 4294967296+x)) (aK (oQ (sK (aU b 4294967296+a.w0) (aU x h)) z))=M)))))))))))))))) λhwf=>by
  delta eS aB gE bI aF aH aM aY cQ bK dE pV iN nE qK zE aW mE fV fQ jY fL gI cS gJ bF bL qT aK zU tM aG bX aU zR fJ fI kI jN uI oQ aML lH sK cF aAV aJG aJI aJH aGY;simp only [sS,zXF,zXS,zWN];simp only [RV.wfs,RV.wf,DV.wf,DV.wfs,uc] at hwf;have f32:∀ a:Int,0<=a->Int.fdiv a (2 ^ min (Int.toNat 32) 64)=a / 4294967296:=λa ha=>by
   rw [show ((2:Int) ^ min (Int.toNat 32) 64)=4294967296 from by decide];exact wQ6 _ (by omega)
  obtain ⟨⟨a0,a1⟩,⟨l0,l1⟩,⟨y0,y1⟩,_⟩:=hwf;have hy:1<=y:=by omega
  have hy0:(y==0)=true->y=0:=λh=>by simpa using h
  refine ⟨λh=>absurd (hy0 h) (by omega),λ_=>⟨λh=>absurd h (by omega),λ_=>⟨λhz=>?_,λhz=>?_⟩⟩⟩
  ·have hz:hi=0:=by simpa using hz
   subst hz;rw [zVy,wQY l0,wZR l0];have:=wZN y l0;have:=wQI l0 y0;rw [wQd _ ⟨by omega,by omega⟩];exact ⟨by omega,by omega,rfl,rfl⟩
  obtain ⟨s,es,s63,ys1,ys2⟩:=jJd hy (by omega);have LZ:=zVa y hy;obtain ⟨p1,p2,p3,p4,hD⟩:=jHq a0 h0 l0 (by omega) s63 ys1 ys2;have ws:wrap .u64 (s:Int)=s:=wQd _ ⟨by omega,by omega⟩;have ws2:wrap .u64 (64-(s:Int))=((64-s:Nat):Int):=by rw [wQd _ ⟨by omega,by omega⟩]; omega
  have ms:min s 64=s:=by omega
  have mt:min (64-s) 64=64-s:=by omega
  have wy:wrap .u64 (y*2 ^ s)=y*2 ^ s:=wQd _ ⟨by omega,by omega⟩;have hp:(0:Int)<2 ^ s:=wZX (by decide);have h0':0<=hi*2 ^ s:=Int.mul_nonneg a0 (by omega);have wh:wrap .u64 (hi*2 ^ s)=hi*2 ^ s:=wQd _ ⟨by omega,by omega⟩;have fl:Int.fdiv lo (2 ^ (64-s))=lo / 2 ^ (64-s):=wQ6 _ (Int.le_of_lt (wZX (by decide)));obtain ⟨or1,or2⟩:=yZk (s:=s) (by omega) a0 p3 p1 p2;have wl:wrap .u64 (lo*2 ^ s)=lo*2 ^ s%18446744073709551616:=wX2 _;rw [es] at LZ |-;simp only [ws,ws2,wQl,ms,mt,wy,wh,fl,wl,or1];have m0:0<=lo*2 ^ s%18446744073709551616:=by omega
  have m1:lo*2 ^ s%18446744073709551616<18446744073709551616:=by omega
  rw [zU0 (show 0<=y*2 ^ s by omega) ys2,zU0 m0 m1,f32 _ (show 0<=y*2 ^ s by omega),f32 _ m0,wQd (hi*2 ^ s+lo / 2 ^ (64-s)) ⟨by omega,by omega⟩,wQd (y*2 ^ s%4294967296) ⟨by omega,by omega⟩,wQd (lo*2 ^ s%18446744073709551616%4294967296) ⟨by omega,by omega⟩];refine ⟨LZ,by omega,by omega,by omega,by omega,by omega,by omega,⟨_,hD,by simp only; omega,rfl,rfl,rfl,rfl,rfl,rfl⟩,?_⟩;clear hD or1 or2 wl fl wh wy LZ es p1 p2 p3 p4 m0 m1 ys1 ys2 h0' hp s63 ws ws2 ms mt;intro D hD;obtain ⟨k1,k2,ok,w0a,w0b,s63⟩:=hD;have ok2:=ok;obtain ⟨va,vb,v0a,v0b,ua,ub,wa,wb⟩:=ok2;have W:=ud;have M:∀ x:Int,wrap .u64 x=x%18446744073709551616:=λx=>wX2 x;have st:∀ u w:Int,DvOk D.v1 D.v0 u w->wrap .u64 (Int.tdiv u D.v1)=u / D.v1/\wrap .u64 (u-wrap .u64 (u / D.v1*D.v1))=u-u / D.v1*D.v1:=λu w o=>by
   have g:=o.start;have gp:=g.pos o;have gh:=g.hi;have g0:=g.r0;have g1:=g.r1;have u0:=o.u0;have u1:=o.u1;rw [wQY u0,W (u / D.v1) gp (by omega)];have e4:0<=u / D.v1*D.v1:=Int.mul_nonneg gp (by omega);refine ⟨rfl,?_⟩;rw [W (u / D.v1*D.v1) e4 (by omega),W _ g0 (by omega)]
  have rd:∀ u w:Int,DvOk D.v1 D.v0 u w->∀ z:Int × Int,DgOk D.v1 D.v0 u w z.1 z.2->wrap .u64 (z.1*D.v0)=z.1*D.v0/\wrap .u64 (wrap .u64 (4294967296*z.2)+w)=4294967296*z.2+w/\wrap .u64 (z.2+D.v1)=z.2+D.v1/\(z.1>=4294967296\/z.1*D.v0>4294967296*z.2+w->wrap .u64 (z.1-1)=z.1-1/\(z.1-1).toNat<z.1.toNat):=λu w o z g=>by
   obtain ⟨s1,s2,s3,s4⟩:=g.sizes o;have gp:=g.pos o;have gh:=g.hi;have g0:=g.r0;have g1:=g.r1;have w0:=o.w0;rw [W _ s1 s2,W (4294967296*z.2) (by omega) (by omega),W _ s3 s4,W _ (show 0<=z.2+D.v1 by omega) (by omega)];refine ⟨rfl,rfl,rfl,λhc=>?_⟩;have:1<=z.1:=by
    rcases hc with hc | hc
    ·omega
    ·have:=(g.over o).1 hc;have:=o.dig.1;omega
   exact ⟨W _ (by omega) (by omega),by omega⟩
  have lp:∀ u w:Int,DvOk D.v1 D.v0 u w->∀ z:Int × Int,DgOk D.v1 D.v0 u w z.1 z.2->(z.1>=4294967296\/z.1*D.v0>4294967296*z.2+w)->(z.2+D.v1>=4294967296->∃ a,a=(u*4294967296+w) / (D.v1*4294967296+D.v0)/\z.1-1=a)/\(¬ z.2+D.v1>=4294967296->∃ z':Int × Int,DgOk D.v1 D.v0 u w z'.1 z'.2/\z'.1.toNat<z.1.toNat/\z.1-1=z'.1/\z.2+D.v1=z'.2):=λu w o z g hc=>
   ⟨λh=>⟨_,rfl,g.last o hc h⟩,λh=>⟨(z.1-1,z.2+D.v1),g.next o hc (by omega),((rd u w o z g).2.2.2 hc).2,rfl,rfl⟩⟩
  obtain ⟨t1,t2⟩:=st _ _ ok;rw [t1,t2];refine ⟨by omega,⟨⟨(D.u / D.v1,D.u-D.u / D.v1*D.v1),ok.start,rfl,rfl⟩,?_⟩,?_⟩
  ·intro p g;obtain ⟨r1,r2,r3,r4⟩:=rd _ _ ok p g;rw [r1,r2,r3];refine ⟨λh1=>⟨λh2=>?_,λh2=>?_⟩,λh1=>?_⟩
   ·rw [(r4 (.inr h2)).1];exact lp _ _ ok p g (.inr h2)
   ·exact ⟨_,rfl,g.done ok (λh=>h.elim h1 h2)⟩
   ·rw [(r4 (.inl h1)).1];exact lp _ _ ok p g (.inl h1)
  intro a ha;have dg:=ok.dig;rw [<- ha] at dg;have e1:=wZI (D.u*4294967296+D.w1) (D.v1*4294967296+D.v0);have e2:=wZb (D.u*4294967296+D.w1) (b:=D.v1*4294967296+D.v0) (by omega);have e3:=wZc (D.u*4294967296+D.w1) (show 0<D.v1*4294967296+D.v0 by omega);rw [<- ha,wQy _ a] at e1;have eb:wrap .u64 (wrap .u64 (wrap .u64 (D.u*4294967296)+D.w1)-wrap .u64 (a*(D.v1*4294967296+D.v0)))=D.u*4294967296+D.w1-a*(D.v1*4294967296+D.v0):=by
   simp only [M];generalize a*(D.v1*4294967296+D.v0)=Y at *;omega
  refine ⟨⟨_,rfl,eb⟩,?_⟩;intro b hb;have okb:DvOk D.v1 D.v0 b D.w0:=⟨va,vb,v0a,v0b,by omega,by omega,w0a,w0b⟩
  obtain ⟨t1,t2⟩:=st _ _ okb;rw [t1,t2];refine ⟨by omega,⟨⟨(b / D.v1,b-b / D.v1*D.v1),okb.start,rfl,rfl⟩,?_⟩,?_⟩
  ·intro p g;obtain ⟨r1,r2,r3,r4⟩:=rd _ _ okb p g;rw [r1,r2,r3];have sw:∀ X:Prop × Prop,True:=λ_=>trivial;refine ⟨λh1=>⟨λh2=>?_,λh2=>?_⟩,λh1=>?_⟩
   ·rw [(r4 (.inr h2)).1];obtain ⟨x1,x2⟩:=lp _ _ okb p g (.inr h2);exact ⟨x1,λh=>by obtain ⟨z,y1,y2,y3,y4⟩:=x2 h; exact ⟨z,y1,y2,y4,y3⟩⟩
   ·exact ⟨_,rfl,g.done okb (λh=>h.elim h1 h2)⟩
   ·rw [(r4 (.inl h1)).1];obtain ⟨x1,x2⟩:=lp _ _ okb p g (.inl h1);exact ⟨x1,λh=>by obtain ⟨z,y1,y2,y3,y4⟩:=x2 h; exact ⟨z,y1,y2,y4,y3⟩⟩
  intro c hc;have dgb:=okb.dig;rw [<- hc] at dgb;obtain ⟨d1,d2⟩:=jV3 (v:=D.v1*4294967296+D.v0) (u:=D.u) (a:=D.w1) (b:=D.w0) (by omega);rw [<- ha,<- hb,<- hc] at d1 d2;obtain ⟨q1,q2⟩:=jV7 (a:=wV hi lo) (y:=y) (k:=2 ^ D.s) (wZX (by decide));rw [k1,k2] at q1 q2;rw [<- d1] at q1;rw [<- d2] at q2;have e4:0<=b*4294967296+D.w0-c*(D.v1*4294967296+D.v0)/\b*4294967296+D.w0-c*(D.v1*4294967296+D.v0)<D.v1*4294967296+D.v0:=by
   rw [d2];exact ⟨wZb _ (by omega),wZc _ (by omega)⟩
  have er:wrap .u64 (wrap .u64 (wrap .u64 (b*4294967296)+D.w0)-wrap .u64 (c*(D.v1*4294967296+D.v0)))=b*4294967296+D.w0-c*(D.v1*4294967296+D.v0):=by
   simp only [M];generalize c*(D.v1*4294967296+D.v0)=Y at *;omega
  rw [er,W (a*4294967296) (by omega) (by omega),W _ (show 0<=a*4294967296+c by omega) (by omega),wQJ (by omega),wQ6 _ (Int.le_of_lt (wZX (by decide)))];exact ⟨by omega,q1,q2⟩
def zGF:Gam:=jWv.add [.p 228 gZ14,
 .p 312 (λv=>some (RV.d (dQ false))),
 .p 310 (λv=>some (rJ (cmpI (nAt (uq v) 0) (nAt (uq v) 1)))),
 .p 309 (λv=>some (rJ (orI (cAt (uq v) 0)))),
 .p 292 (λv=>some (RV.agg [DV.int .u64 0,DV.int .u64 (nAt (uq v) 0)])),
 .p 276 gZ15,
 .p 275 gZ17,
 .p 299 gZ16]
theorem zQD (n d:Int):Ans prog 228 [rD (DV.int .u64 n),rD (DV.int .u64 d)] (rD (DV.int .u64 (zQP n d))):=
 wc zGF aL Tryz.func228 (let a:=iS (zQP n d);let b:=Int.tmod n d;let c:=fJ d b;True/\True/\True/\(bK d=true->True/\iS 0=a)/\cS (bK d) (d≠0) (aM (d≠0) (aY (eS true) (pI b c (cZ (vF (aG (Int.tdiv n d)+1)) a) (aAA b c (vF (Int.tdiv n d)=a)))))) λhwf=>by
  delta eS pI aM aY bK cS aK cZ aG bX fJ iS uI vF aAA;simp only [sS];simp only [RV.wfs,RV.wf,DV.wf] at hwf;have m1:IntKind.min .u64=0:=rfl;have m2:IntKind.max .u64=18446744073709551615:=rfl;rw [m1,m2] at hwf;have t1:Int.tdiv n d=n / d:=wQY (by omega);have t2:Int.tmod n d=n%d:=wZR (by omega);refine ⟨λq=>by (have q:d=0:=(by simpa using q)); simp [zQP,q],λq=>?_⟩;have q:d≠0:=by simpa using q
  have b1:0<=n%d:=wZb _ q;have b2:n%d<d:=wZc _ (by omega);have b3:0<=n / d:=wQI (by omega) (by omega);have b4:n / d<=n:=wZN _ (by omega);simp only [t1,t2];rw [wQd (n / d) ⟨b3,by omega⟩,wQd (d-n%d) ⟨by omega,by omega⟩];refine ⟨q,q,λq2=>?_,λq2=>?_⟩
  ·have b5:d>=2\/d=1:=by omega
   have b6:n / d+1<=18446744073709551615:=by
    rcases b5 with b5 | b5
    ·have:n / d<n\/n=0:=by
      by_cases hn:n=0
      ·exact .inr hn
      ·exact .inl (wYJ (by omega) (by omega))
     rcases this with h | h
     ·omega
     ·subst h; simp
    ·subst b5; omega
   rw [wQd _ ⟨by omega,b6⟩];simp [zQP,q]; omega
  ·simp [zQP,q]; omega
theorem zQx (x:Int):Ans prog 312 [rD (DV.int .u64 x)] (rD (dQ false)):=
 wc zGF aL Tryz.func312 (fZ (bE (x !=x) false)) λhwf=>by
  delta eS fZ bE;simp only [sS,zQD];simp
theorem zQv (x y:Int):Ans prog 310 [rD (DV.int .u64 x),rD (DV.int .u64 y)] (rJ ((cmpI x y))):=
 wc zGF aL Tryz.func310 (let a:=dB 0 (cmpI x y);let b:=dB 1 (cmpI x y);let c:=dB (-1) (cmpI x y);True/\aY (aBC 312 (aK x) false) (aBC 312 (aK y) false/\True/\True/\xB false (false=true->True/\a) (eS false->cV c)/\bP (eS false) (false=true->True/\b) (eS false->aBS x y c (decide (x<y)=false->iH x y b (iO x y a))))) λhwf=>by
  delta eS aB gE dB aY aIY aBS iH iO bP cV aK aBC xB;simp only [sS,zQD,zQx];unfold cmpI;grind
theorem jZq (n:Nat) (xs:List DV) (hx:n=2/\∃ a b,xs=[.int .i64 a,.int .i64 b]):Ans prog 309 [rD (dS n xs)] (rJ ((orI xs))):=
 wc zGF (jL (um (λa=>dR a 2 (orI xs=orI (List.drop a xs))) (λc=>nT (aMT 3 0 6 n xs 7 8 c)) (λb=>2-b) (λd=>aL))) Tryz.func309 (let b:=orI xs;kX (∃ d:Nat,dR d 2 (b=orI (List.drop d xs))/\aEB (aB 0) n xs (dF d)/\True) (∀ a:Nat,let e:=cY xs a 1;bP (dR a 2 (b=orI (List.drop a xs))) (dP a n->fP (cX a n 1 xs) (fW xs a 1/\True) True (bI (sZ e) (dB e b) (dO (dX e) (∃ c:Nat,aW (dR c 2 (b=orI (List.drop c xs))) (2-c<2-a) (aEB (aB 0) n xs (bS a c)))))) (iQ a n->eU (dB 0 b)))) λhwf=>by
  delta eS aB aR gE bI dB aT aF dO cI aW aV bS bP fV dF cX cY dP iQ fW kX eU fP dR dX sZ aEB;simp only [sS,zQD,zQx,zQv];obtain ⟨rfl,a,b,rfl⟩:=hx;refine ⟨⟨0,⟨by omega,rfl⟩,rfl⟩,λj ⟨hj,he⟩=>⟨λh=>?_,λh=>?_⟩⟩
  ·have:j=0\/j=1:=by omega
   rcases this with rfl | rfl
   ·have hw:wrap .i64 (((0:Nat):Int)+1)=((1:Nat):Int):=by decide
    refine ⟨⟨by omega,by omega,by simp⟩,rfl,λq=>?_,λq=>⟨1,⟨by omega,?_⟩,by omega,hw⟩⟩
    ·have q:a≠0:=wQP.1 q;change a=if a=0 then _ else a
     rw [if_neg q]
    ·have q:a=0:=wZm.1 q;subst q; rfl
   ·have hw:wrap .i64 (((1:Nat):Int)+1)=((2:Nat):Int):=by decide
    refine ⟨⟨by omega,by omega,by simp⟩,rfl,λq=>?_,λq=>⟨2,⟨by omega,?_⟩,by omega,hw⟩⟩
    ·have q:b≠0:=wQP.1 q;rw [he];change b=if b=0 then _ else b
     rw [if_neg q]
    ·have q:b=0:=wZm.1 q;rw [he];subst q; rfl
  ·have:j=2:=by omega
   subst this;rw [he]; rfl
theorem zXC (n:Int):Ans prog 292 [rD (DV.int .u64 n)] (rA [DV.int .u64 0,DV.int .u64 n]):=
 wc zGF aL Tryz.func292 (True/\True/\True/\True/\eS (rA (kG 0 n))) λhwf=>by
  delta eS aK kG;simp only [sS,zQD,zQx,zQv]
theorem zQW (a b:Int):Ans prog 276 [rD (DV.int .u64 a),rD (DV.int .u64 b)] (rA [DV.int .u64 (hiW (a*b)),DV.int .u64 (loW (a*b))]):=
 wc zGF aL Tryz.func276 (True/\aM (vJ 103 a b (zU (hiW (a*b)) (loW (a*b)))) (aH (eS (sI a b)))) λhwf=>by
  delta eS aH aM gJ aK kG cA zU vJ sI;simp only [sS,zZ9,zQD,zQx,zQv,zXC]
theorem zZg (ah al bh bl:Int):Ans prog 299 [rA [DV.int .u64 ah,DV.int .u64 al],rA [DV.int .u64 bh,DV.int .u64 bl]] (rJ ((cmpI (wV ah al) (wV bh bl)))):=
 wc zGF aL Tryz.func299 (let a:=[aB (cmpI ah bh),aB (cmpI al bl)];let b:=orI a;fZ (aFL (vJ 310 ah bh (gE (cmpI ah bh))) (vJ 310 al bl (gE (cmpI al bl))) (True/\Ans prog 309 [rD (DV.sl 2 a)] (gE b)/\True/\eS true/\dB b (cmpI (wV ah al) (wV bh bl))))) λhwf=>by
  delta eS aB gE dB aM fZ aFL aK vJ;simp only [sS,zQD,zQx,zQv,zXC,zQW];simp only [RV.wfs,RV.wf,DV.wf,DV.wfs,uc] at hwf;obtain ⟨⟨h1,h2,_⟩,⟨h3,h4,_⟩,_⟩:=hwf;exact ⟨jZq _ _ ⟨rfl,_,_,rfl⟩,yZG h2.1 (by omega) h4.1 (by omega) _ _⟩
theorem zXf (ah al bh bl:Int):Ans prog 275 [rA [DV.int .u64 ah,DV.int .u64 al],rA [DV.int .u64 bh,DV.int .u64 bl]] (rT [rA [DV.int .u64 (hiW (addW (wV ah al) (wV bh bl))),DV.int .u64 (loW (addW (wV ah al) (wV bh bl)))],rD (dQ (addK (wV ah al) (wV bh bl)))]):=
 wc zGF aL Tryz.func275 (let c:=addK (wV ah al) (wV bh bl);let d:=cA (addW (wV ah al) (wV bh bl));let a:=al+bl+0;let e:=aIN a;let b:=ah+bh+e;oU (qZ (aKO 286 al bl 0 a) (aN (aKO 286 ah bh e b) (True/\gV (dX (aIN b)) (mK aCJ false d c) (cZ (zQ (kG (xO b) (xO a))) (rT [rA d,rD (DV.bool c)])))))) λhwf=>by
  delta eS aH aY aN gJ bF aK kG cA dX gV xO kH fR cZ mK vW aIN zQ zU aCJ aKO oU qZ;simp only [sS,zQD,zQx,zQv,zXC,zQW,zZg];simp only [RV.wfs,RV.wf,DV.wf,DV.wfs,uc] at hwf;obtain ⟨⟨h1,h2,_⟩,⟨h3,h4,_⟩,_⟩:=hwf;refine ⟨zU2 _ _ _ (by omega) (by omega) (by omega),zU2 _ _ _ (by omega) (by omega) (by omega),λh=>?_,λh=>?_⟩
  ·have h:=wQP.1 h;have e:¬ wV ah al+wV bh bl<340282366920938463463374607431768211456:=by unfold wV; omega
   unfold addW addK;rw [if_neg e,wXg e];exact ⟨⟨rfl,rfl⟩,rfl⟩
  ·have h:=wZm.1 h;have e:wV ah al+wV bh bl<340282366920938463463374607431768211456:=by unfold wV; omega
   unfold addW addK;rw [if_pos e,decide_eq_true e];unfold wV hiW loW;exact ⟨⟨by omega,by omega⟩,rfl⟩
theorem zJT (ah al bh bl:Int):Ans prog 297 [rA [DV.int .u64 ah,DV.int .u64 al],rA [DV.int .u64 bh,DV.int .u64 bl]] (rT [rA [DV.int .u64 (hiW (subW (wV ah al) (wV bh bl))),DV.int .u64 (loW (subW (wV ah al) (wV bh bl)))],rD (dQ (subK (wV ah al) (wV bh bl)))]):=
 wc zGF aL Tryz.func297 (let b:=subK (wV ah al) (wV bh bl);let c:=cA (subW (wV ah al) (wV bh bl));let a:=if al<bl+0 then (1:Int) else (0:Int);let d:=ah-bh-a;let e:=bh+a;oU (True/\gI (aMM 300 al bl 0 (al-bl-0) (bl+0) 1 0) (True/\True/\True/\True/\True/\True/\bH (aMM 300 ah bh a d e 1 0) (gV (dX (if ah<e then 1 else 0)) (mK aCJ false c b) (cZ (zQ (kG (xO d) (xO (al-bl-0)))) (rT [rA c,rD (DV.bool b)])))))) λhwf=>by
  delta eS gI bH gJ bF aK kG cA dX gV xO kH fR cZ mK vW zQ zU aCJ aMM oU;simp only [sS,zQD,zQx,zQv,zXC,zQW,zZg,zXf];simp only [RV.wfs,RV.wf,DV.wf,DV.wfs,uc] at hwf;obtain ⟨⟨h1,h2,_⟩,⟨h3,h4,_⟩,_⟩:=hwf;refine ⟨zHJ _ _ _ (by omega) (by omega) (by omega),zHJ _ _ _ (by omega) (by omega) (by split<;>omega),λh=>?_,λh=>?_⟩
  ·have h:=wQP.1 h;have e:wV ah al<wV bh bl:=by unfold wV; split at h<;>split at h<;>omega
   unfold subW subK;rw [if_pos e,wXg (by omega)];exact ⟨⟨rfl,rfl⟩,rfl⟩
  ·have h:=wZm.1 h;have e:¬ wV ah al<wV bh bl:=by unfold wV; split at h<;>split at h<;>omega
   unfold subW subK;rw [if_neg e,decide_eq_true (by omega)];unfold wV at e;unfold wV hiW loW;split at h<;>split at h<;>exact ⟨⟨by omega,by omega⟩,rfl⟩
def fM (a b:Int):Int:=gY (a*b)
theorem zKl (ah al k:Int) (h:wV ah al*k<340282366920938463463374607431768211456):Ans prog 296 [rA [DV.int .u64 ah,DV.int .u64 al],rD (DV.int .u64 k)] (rT [rA [DV.int .u64 (hiW (wV ah al*k)),DV.int .u64 (loW (wV ah al*k))],rD (dQ true)]):=
 wc zGF aL Tryz.func296 (let b:=cA (wV ah al*k);let a:=loW (ah*k);let c:=wV a 0;let d:=addK c (fM al k);let e:=addW c (fM al k);bF (bH (vJ 103 ah k (zU (hiW (ah*k)) a)) (gV (dX (hiW (ah*k))) (mK aCJ false b true) (True/\True/\True/\True/\vJ 276 al k (sI al k)/\oR 275 (kG a 0) (qW (al*k)) e d/\cZ (rT [rA (cA e),rD (DV.bool d)]) (zQ b))))) λhwf=>by
  delta eS bH gJ bF aK kG cA dX gV fR cZ mK zQ zU aCJ gY oR qW vJ sI fM;simp only [sS,zQD,zQx,zQv,zXC,zQW,zZg,zXf,zJT];simp only [RV.wfs,RV.wf,DV.wf,DV.wfs,uc] at hwf;obtain ⟨⟨h1,h2,_⟩,h3,_⟩:=hwf;have e:wV ah al*k=ah*k*18446744073709551616+al*k:=by unfold wV; grind
  rw [e] at h |-;have n1:0<=ah*k:=Int.mul_nonneg h1.1 h3.1;have n2:0<=al*k:=Int.mul_nonneg h2.1 h3.1;have ez:hiW (ah*k)=0:=by unfold hiW; omega
  have el:loW (ah*k)=ah*k:=by unfold loW; omega
  rw [ez,el];have m64:=zZ9 ah k;rw [ez,el] at m64;refine ⟨m64,λq=>absurd q (by decide),λ_=>?_⟩;rw [zZV];have ea:wV (ah*k) 0=ah*k*18446744073709551616:=by unfold wV; omega
  unfold addW addK;rw [ea,if_pos h,decide_eq_true h];exact ⟨⟨rfl,rfl⟩,rfl⟩
theorem zVx (ah al d:Int) (h:1<=d):Ans prog 295 [rA [DV.int .u64 ah,DV.int .u64 al],rD (DV.int .u64 d)] (rT [rA [DV.int .u64 (hiW ((wV ah al) / d)),DV.int .u64 (loW ((wV ah al) / d))],rD (DV.int .u64 ((wV ah al)%d)),rD (dQ true)]):=
 wc zGF aL Tryz.func295 (let a:=rT (rA (cA (wV ah al/d))::kH (wV ah al%d) (nK true));let b:=wV (Int.tmod ah d) al;let c:=b%d;let e:=b/d;bF (eH ((d==0)=true) (rT (rA aCJ::kH 0 (nK false))=a) (dO (bK d) (aY (d≠0) (aY (Ans prog 308 (rD (aK (Int.tmod ah d))::vW (aK al) d) (zU e c)) (cT (bH (d≠0) (fR (rT (rA (kG (aG (Int.tdiv ah d)) e)::kH c (nK true))) a)))))))) λhwf=>by
  delta eS aY bK dO cT bH gJ bF nK aK kG cA kH fR vW zU aCJ aG eH;simp only [sS,zQD,zQx,zQv,zXC,zQW,zZg,zXf,zJT];simp only [RV.wfs,RV.wf,DV.wf,DV.wfs,uc] at hwf;obtain ⟨⟨h1,h2,_⟩,h3,_⟩:=hwf;have t1:Int.tmod ah d=ah%d:=wZR h1.1;have t2:Int.tdiv ah d=ah / d:=wQY h1.1;have b1:0<=ah%d:=wZb _ (by omega);have b2:ah%d<d:=wZc _ (by omega);have b3:0<=ah / d:=wQI h1.1 (by omega);have b4:ah / d<=ah:=wZN _ h1.1;have D:=jZw (ah%d) al d b2;simp only [t1,t2];rw [wQd (ah / d) ⟨b3,by omega⟩];have e0:=wZI ah d;have e:wV ah al=wV (ah%d) al+d*(ah / d*18446744073709551616):=by unfold wV; grind
  have c1:0<=wV (ah%d) al:=by unfold wV; omega
  have c2:wV (ah%d) al<d*18446744073709551616:=by unfold wV; omega
  have c3:0<=wV (ah%d) al / d:=wQI c1 (by omega);have c4:wV (ah%d) al / d<18446744073709551616:=wXf (by omega) (by rw [wQy]; exact c2);have d1:wV ah al / d=ah / d*18446744073709551616+wV (ah%d) al / d:=by rw [e,Int.add_mul_ediv_left _ _ (by omega)]; omega
  have d2:wV ah al%d=wV (ah%d) al%d:=by rw [e,wYe]
  have hd0:(d==0)=true->d=0:=λq=>by simpa using q
  refine ⟨λq=>absurd (hd0 q) (by omega),λ_=>⟨by omega,D,by omega,?_⟩⟩;rw [d1,d2];unfold hiW loW;exact ⟨⟨by omega,by omega⟩,rfl⟩
def vD (a:Int) (b:Nat):Int:=a/tM b*tM b
def aCQ (a:FuncId) (b:DV) (c:List RV) (e:Int):Prop:=Ans prog a (RV.d b::c) (RV.agg (cA e))
theorem jXl (ah al:Int):Ans prog 293 [rA [DV.int .u64 ah,DV.int .u64 al]] (rD (DV.int .u64 (zX2 (wV ah al)))):=
 wc zGF (jL (um (λc=>c<=64) (λa=>aIP (aAW 3 (vD (zX2 (wV ah al)) a) 4 (tM a/2) []) (aX (aK ah) (aK al) [])) (λb=>b) (λd=>aL))) Tryz.func293 (let b:=zX2 (wV ah al);let h:=kG ah al;True/\True/\True/\True/\(∃ f:Nat,aW (f<=64) (jE (kI 0 (vD b f)) (kI 9223372036854775808 (tM f/2))) (eS h))/\(∀ a:Nat,let g:=vD b a;let c:=tM a/2;let i:=(BitVec.toNat (HOr.hOr (zR g) (zR c)):Int);let j:=aG i*aG i;let k:=cmpI (gY j) (wV ah al);let l:=decide (k<=0);let m:=bX i;iN (a<=64) (jY c 0->True/\True/\True/\True/\aM (aCQ 276 m [rD m] j) (lE 299 (cA j) [rA h] k/\True/\eS true/\(l=true->True/\True/\True/\aM ((0:Int)<=1) (∃ e:Nat,fP (e<=64) (e<a) (jE (jN i (vD b e)) (aFM c (tM e/2))) (eS h/\True)))/\(l=false->True/\(0:Int)<=1/\True/\(∃ d:Nat,aF (d<=64) (d<a) (jE (kI g (vD b d)) (aFM c (tM d/2))) (eS h))))) (xW c 0 (iS g=iS b)))) λhwf=>by
  delta eS aB gE aF aM iN aW jY fL fP aK kG cA tM vD aG bX zR jE kI jN lE iS gY oQ aFM aCQ xW;simp only [sS,zQD,zQx,zQv,zXC,zQW,zZg,zXf,zJT];simp only [RV.wfs,RV.wf,DV.wf,DV.wfs,uc] at hwf;obtain ⟨⟨h1,h2,_⟩,_⟩:=hwf;have hA:0<=wV ah al/\wV ah al<340282366920938463463374607431768211456:=by unfold wV; omega
  obtain ⟨r0,r1,r2⟩:=zYN hA.1;have r3:zX2 (wV ah al)<18446744073709551616:=(jXx hA.1 (by decide)).2 (by omega);obtain ⟨f,hf⟩:=wQU r0;have le:=λk hk=>jQu (n:=wV ah al) (k:=k) hA.1 hk;rw [hf] at le r3 |-;have hf64:f<2 ^ 64:=by omega
  have M:=λx=>zQW x x;have CC:=λx y=>zZg x y ah al;refine ⟨⟨64,Nat.le_refl _,?_,by decide⟩,λi hi=>⟨λh=>?_,λh=>?_⟩⟩
  ·have:(f:Int) / 2 ^ 64=0:=wXX (by omega) (by omega);rw [this]; rfl
  ·obtain ⟨k,rfl⟩:∃ k,i=k+1:=⟨i-1,by
    rcases wZ2 i with h0 | h0
    ·subst h0; exact absurd h (by decide)
    ·omega⟩
   have hk:k<64:=by omega
   obtain ⟨b1,b2,b3,b4⟩:=jKY hf64 hk;have p0:(2 ^ k:Nat)<2 ^ 64:=wXd (by decide) (by omega);have c2:((2:Int) ^ (k+1) / 2)=((2 ^ k:Nat):Int):=by
    rw [Int.pow_succ,Int.mul_ediv_cancel _ (by decide)]; simp
   have c3:∀ j,(f:Int) / 2 ^ j*2 ^ j=((f / 2 ^ j*2 ^ j:Nat):Int):=λj=>by simp
   have c4:wrap .u64 ((f / 2 ^ (k+1)*2 ^ (k+1)+2 ^ k:Nat):Int)=((f / 2 ^ (k+1)*2 ^ (k+1)+2 ^ k:Nat):Int):=wQd _ ⟨by omega,by omega⟩;have c5:Int.fdiv ((2 ^ k:Nat):Int) (2 ^ min (Int.toNat 1) 64)=(2:Int) ^ k / 2:=by
    rw [show ((2:Int) ^ min (Int.toNat 1) 64)=2 from by decide,wQ6 _ (by omega)]; simp
   simp only [c2,c3,b1,c4,c5];rw [zZV];have hs:cmpI (((f / 2 ^ (k+1)*2 ^ (k+1)+2 ^ k:Nat):Int)*((f / 2 ^ (k+1)*2 ^ (k+1)+2 ^ k:Nat):Int)) (wV ah al)<=0↔f / 2 ^ (k+1)*2 ^ (k+1)+2 ^ k<=f:=by
    have l1:=le ((f / 2 ^ (k+1)*2 ^ (k+1)+2 ^ k:Nat):Int) (by omega);have:∀ a b:Int,cmpI a b<=0↔a<=b:=λa b=>by unfold cmpI; grind
    rw [this,<- l1];omega
   rw [hs];refine ⟨λhq=>⟨by decide,k,by omega,by omega,?_,rfl⟩,λhq=>⟨by decide,k,by omega,by omega,?_,rfl⟩⟩
   ·rw [b3 hq]
   ·rw [b4 (by omega)]
  ·have:i=0:=by
    rcases wZ2 i with h0 | h0
    ·exact h0
    ·obtain ⟨k,rfl⟩:∃ k,i=k+1:=⟨i-1,by omega⟩
     exfalso;have c2:((2:Int) ^ (k+1) / 2)=((2 ^ k:Nat):Int):=by
      rw [Int.pow_succ,Int.mul_ediv_cancel _ (by decide)]; simp
     rw [c2] at h;have:=wZK k;omega
   subst this;simp
def gZ20:List RV->Option RV:=λv=>let c:=ur v 0;some (RV.d (dQ (exOk (nAt c 0) (nAt c 2) (nAt c 3) (nAt c 4))))
def gZ21:List RV->Option RV:=λv=>some (rJ (zKQ (nAt (ur v 0) 2) (nAt (ur v 0) 3) (wV (nAt (ur v 1) 0) (nAt (ur v 1) 1))))
def vr (l:List DV):Ex:=⟨wV (nAt l 0) (nAt l 1),nAt l 2,nAt l 3,nAt l 4⟩
def gZ22:List RV->Option RV:=λv=>some (RV.tup [RV.d (DV.int .u64 (vr (ur v 0)).floor),RV.d (dQ true)])
def jKO:Gam:=zGF.add [.p 297 gZ18,
 .p 296 gZ19,
 .p 295 (λv=>let c:=wV (nAt (ur v 0) 0) (nAt (ur v 0) 1);let e:=nAt (uq v) 1;some (RV.tup [RV.agg [DV.int .u64 (hiW (c / e)),DV.int .u64 (loW (c / e))],RV.d (DV.int .u64 (c%e)),RV.d (dQ true)])),
 .p 293 (λv=>some (RV.d (DV.int .u64 (zX2 (wV (nAt (ur v 0) 0) (nAt (ur v 0) 1)))))),
 .p 291 gZ20,
 .p 294 (λv=>let e:=nAt (ur v 0) 2;let c:=e*e*(nAt (ur v 0) 3);some (RV.agg [DV.int .u64 (hiW c),DV.int .u64 (loW c)])),
 .p 298 gZ21,
 .p 278 gZ22,
 .p 279 (λv=>some (RV.d (dQ (upB (vr (ur v 0)) (nAt (uq v) 1)))))]
theorem zX7 (ph pl q r d:Int):Ans prog 291 [rA [DV.int .u64 ph,DV.int .u64 pl,DV.int .u64 q,DV.int .u64 r,DV.int .u64 d]] (rD (dQ (exOk ph q r d))):=
 wc jKO aL Tryz.func291 (let a:=exOk ph q r d;let b:=bE false a;True/\True/\True/\True/\jF (decide (ph<4294967296)=true) (decide (q<70368744177664)=true) (aBS r 8589934592 (gZ (vK d) a) (vB r 8589934592->eU b)) (vB q 70368744177664->True/\True/\True/\True/\b) (vB ph 4294967296->eU (gZ false a))) λhwf=>by
  delta eS bI aIY aBS eU vB bE jF gZ vK;simp only [sS];unfold exOk;grind
theorem zJH (ph pl q r d:Int) (hp:ph<4294967296) (hq:q<70368744177664) (hr:r<8589934592):Ans prog 294 [rA [DV.int .u64 ph,DV.int .u64 pl,DV.int .u64 q,DV.int .u64 r,DV.int .u64 d]] (rA [DV.int .u64 (hiW (q*q*r)),DV.int .u64 (loW (q*q*r))]):=
 wc jKO aL Tryz.func294 (bF (True/\True/\True/\aCQ 276 (aK q) (kH q []) (q*q)/\cQ (oR 296 (cA (q*q)) (kH r []) (gY (q*q)*r) true) (aY (eS true) (sI (gY (q*q)) r=sI (q*q) r)))) λhwf=>by
  delta eS aM aY cQ bF aK kG cA kH gY oR sI aCQ;simp only [sS,zX7];simp only [RV.wfs,RV.wf,DV.wf,DV.wfs,uc] at hwf;obtain ⟨⟨w1,w2,w3,w4,w5,_⟩,_⟩:=hwf;have hP:0<=wV ph pl/\wV ph pl<79228162514264337593543950336:=by unfold wV; omega
  have x1:=zQc w3.1 (show q<=70368744177664 by omega) w3.1 (show q<=70368744177664 by omega);have x2:=zQc x1.1 x1.2 w4.1 (show r<=8589934592 by omega);exact ⟨zQW _ _,zKl _ _ _ (by rw [zZV]; omega),by rw [zZV]; exact ⟨rfl,rfl⟩⟩
def gB (a b c d e:Int):List DV:=aK a::aK b::aK c::kG d e
theorem jXn (ph pl q r d nh nl:Int) (hp:ph<4294967296) (hq:q<70368744177664) (hr:r<8589934592):Ans prog 298 [rA [DV.int .u64 ph,DV.int .u64 pl,DV.int .u64 q,DV.int .u64 r,DV.int .u64 d],rA [DV.int .u64 nh,DV.int .u64 nl]] (rJ ((zKQ q r (wV nh nl)))):=
 wc jKO aL Tryz.func298 (let a:=zKQ q r (wV nh nl);let b:=cmpI (fM (q*q) r) (gY (nl*nl));bF (iH nh 0 (dB (-1) a) (bP (fL nh 0) (kD 294 (gB ph pl q r d) [] (cA (q*q*r))) (True/\True/\True/\True/\aCQ 276 (aK nl) (kH nl []) (nl*nl)/\lE 299 (cA (q*q*r)) (qW (nl*nl)) b/\True/\eS true/\dB b a)))) λhwf=>by
  delta eS aB gE dB iH bP fL kD bF aK kG cA kH gB lE gY qW aCQ fM;simp only [sS,zX7];simp only [RV.wfs,RV.wf,DV.wf,DV.wfs,uc] at hwf;obtain ⟨⟨w1,w2,w3,w4,w5,_⟩,⟨w6,w7,_⟩,_⟩:=hwf;have hP:0<=wV ph pl/\wV ph pl<79228162514264337593543950336:=by unfold wV; omega
  have x1:=zQc w3.1 (show q<=70368744177664 by omega) w3.1 (show q<=70368744177664 by omega);have x2:=zQc x1.1 x1.2 w4.1 (show r<=8589934592 by omega);have S:=zJH ph pl q r d hp hq hr;have M:=zQW nl nl;have Cc:=zZg (hiW (q*q*r)) (loW (q*q*r)) (hiW (nl*nl)) (loW (nl*nl));refine ⟨λh=>?_,λh=>?_⟩
  ·unfold zKQ;rw [if_pos (by unfold wV; omega)]
  ·have e:nh=0:=by omega
   subst e;refine ⟨S,M,Cc,?_⟩;rw [zVy,zZV,zZV];unfold zKQ;rw [if_neg (by omega)]
def oO (a:Int):RV:=lG (aK a)
def aCK (a:Prop) (b:DV) (c:RV):Prop:=a->True/\True/\oN b=c
def gX (a:Bool):Prop:=(!a)=true
def aIQ (a:Int):Prop:=fI a 9223372036854775808
def vE (a:Prop) (b:DV) (c:RV) (d:Prop):Prop:=bI a (oN b=c) d
theorem jZh (ph pl q r d:Int) (hp:ph<4294967296) (hq:q<70368744177664) (hr:r<8589934592) (hd:1<=d) (hf:(⟨wV ph pl,q,r,d⟩:Ex).floor<4611686018427387904):Ans prog 278 [rA [DV.int .u64 ph,DV.int .u64 pl,DV.int .u64 q,DV.int .u64 r,DV.int .u64 d]] (rT [rD (DV.int .u64 ((⟨wV ph pl,q,r,d⟩:Ex).floor)),rD (dQ true)]):=
 wc jKO aL Tryz.func278 (let a:=oO (Ex.floor ⟨wV ph pl,q,r,d⟩);let b:=zX2 (fM (q*q) r);let h:=wV 0 b;let c:=addW (wV ph pl) h;let i:=gY c;let e:=i/d;let j:=hiW e;let f:=loW e;let k:=kG 0 b;let g:=exOk ph q r d;bF (True/\pY 291 (gB ph pl q r d) g/\True/\aCK (gX g) (aK 0) a/\zS g (kD 294 (gB ph pl q r d) [] (cA (q*q*r))/\oT 293 (cA (q*q*r)) (iS b)/\Ans prog 292 [rD (aK b)] (rA k)/\oR 275 (kG ph pl) [rA k] c (addK (wV ph pl) h)/\jO (eS true) (aM (Ans prog 295 (rA (cA c)::kH d []) (rT (rA (cA e)::kH (i%d) (nK true)))) (aH (sM j 0 (vE (aIQ f) (aK 0) a (uI f 9223372036854775808->True/\True/\True/\True/\oO f=a)) (aGB j 0 (True/\oN (aK 0)=a)))))))) λhwf=>by
  delta eS bI aH aM iO kD bF nK qU aK kG cA kH gW gB lG fI pY oN oO aCK gX aIQ zS oT vE iS uI gY oR fM sM aGB jO;simp only [sS,zX7];simp only [RV.wfs,RV.wf,DV.wf,DV.wfs,uc] at hwf;obtain ⟨⟨w1,w2,w3,w4,w5,_⟩,_⟩:=hwf;have hP:0<=wV ph pl/\wV ph pl<79228162514264337593543950336:=by unfold wV; omega
  have x1:=zQc w3.1 (show q<=70368744177664 by omega) w3.1 (show q<=70368744177664 by omega);have x2:=zQc x1.1 x1.2 w4.1 (show r<=8589934592 by omega);have eok:(⟨wV ph pl,q,r,d⟩:Ex).ok:=⟨hP.1,w3.1,w4.1,by simp only; omega⟩
  have hok:exOk ph q r d=true:=by simp [exOk]; omega
  have S:=zJH ph pl q r d hp hq hr;have up0:=Ex.up_nonneg eok (t:=1) (by omega);have e1:(⟨wV ph pl,q,r,d⟩:Ex).up 1=wV ph pl+zX2 (q*q*r):=by unfold Ex.up; simp only [wZu]
  have fl:(⟨wV ph pl,q,r,d⟩:Ex).floor=(wV ph pl+zX2 (q*q*r)) / d:=by unfold Ex.floor; rw [e1]
  have F0:0<=(⟨wV ph pl,q,r,d⟩:Ex).floor:=wQI up0 w5.1;obtain ⟨r0,_,_⟩:=zYN (n:=q*q*r) (by omega);have r3:zX2 (q*q*r)<18446744073709551616:=(jXx (by omega) (by decide)).2 (by omega);have Q:=jXl (hiW (q*q*r)) (loW (q*q*r));rw [zZV] at Q;have A:=zXf ph pl 0 (zX2 (q*q*r));rw [zVy] at A;have ad:addW (wV ph pl) (zX2 (q*q*r))=wV ph pl+zX2 (q*q*r):=by unfold addW; rw [if_pos (by omega)]
  rw [ad] at A;have D:=zVx (hiW (wV ph pl+zX2 (q*q*r))) (loW (wV ph pl+zX2 (q*q*r))) d hd;rw [zZV,<- fl] at D;have h1:hiW (⟨wV ph pl,q,r,d⟩:Ex).floor=0:=zYf F0 (by omega);have h2:loW (⟨wV ph pl,q,r,d⟩:Ex).floor=(⟨wV ph pl,q,r,d⟩:Ex).floor:=zXW F0 (by omega);rw [h1,h2] at D;simp only [hok,zZV,zVy,ad,<- fl,h1,h2];exact ⟨λh=>(by cases h),λ_=>⟨S,Q,zXC _,A,D,λ_=>⟨λh=>(by omega),λ_=>trivial⟩,λh=>absurd h (by decide)⟩⟩
def xP (a:Int):Bool:=decide (a>=0)
def pZ (a:Int):Int:=aU 2 a
def vN (a:FuncId) (b:Int) (c:DV) (e:RV):Prop:=Ans prog a [RV.d (bX b),RV.d c] e
abbrev wXH:=@of_decide_eq_false
theorem jJ3 (ph pl q r d f:Int) (hp:ph<4294967296) (hq:q<70368744177664) (hr:r<8589934592) (hd:1<=d) (hf:f<4611686018427387904):Ans prog 279 [rA [DV.int .u64 ph,DV.int .u64 pl,DV.int .u64 q,DV.int .u64 r,DV.int .u64 d],rD (DV.int .u64 f)] (rD (dQ (upB (⟨wV ph pl,q,r,d⟩:Ex) f))):=
 wc jKO aL Tryz.func279 (let e:=wV ph pl;let c:=upB ⟨e,q,r,d⟩ f;let m:=bE false c;let g:=aG (pZ f+1);let n:=fM g d;let h:=subW n (fM e 2);let o:=gY h;let a:=o/2;let b:=gY a;let i:=loW a;let j:=i*i;let k:=gY j;let p:=addK k b;let s:=addW k b;let t:=cmpI (fM (q*q) r) (gY s);let u:=o%2;let v:=hiW a;let l:=subK n (fM e 2);oG (oR 296 (kG ph pl) (kH 2 []) (e*2) true) (aFK (vN 276 (pZ f+1) (aK d) (sI g d)) (dL (oR 297 (cA (g*d)) (qW (e*2)) h l) (yD (eS true) l (bE true c) (gW l (gI (Ans prog 295 (rA (cA h)::kH 2 []) (rT (rA (cA a)::kH u (nK true)))) (aH (iH v 0 m (xI v (yP (bK u) (aY (lE 298 (gB ph pl q r d) (qW a) (zKQ q r b)) (bE (xP (zKQ q r b)) c)) (aM (aCQ 276 (aK i) (kH i []) j) (aN (zT 275 j a k b) (bF (aBW (eS true) p (gI (kD 294 (gB ph pl q r d) [] (cA (q*q*r))) (lE 299 (cA (q*q*r)) (qW s) t/\cT (bE (decide (t>0)) c))) (xM p (True/\eS true/\m)))))))))))))))) λhwf=>by
  delta eS aB gE aH aM aY bK aN dL dO cT xM aBW iH fL gI xI kD oG bF nK aFK aK kG cA kH aG bX gW gB aU xP lE bE pZ gY oR qW zT sI aCQ fM vN yX yD yP;simp only [sS,zX7];simp only [RV.wfs,RV.wf,DV.wf,DV.wfs,uc] at hwf;obtain ⟨⟨w1,w2,w3,w4,w5,_⟩,w6,_⟩:=hwf;have hP:0<=wV ph pl/\wV ph pl<79228162514264337593543950336:=by unfold wV; omega
  have x1:=zQc w3.1 (show q<=70368744177664 by omega) w3.1 (show q<=70368744177664 by omega);have x2:=zQc x1.1 x1.2 w4.1 (show r<=8589934592 by omega);have eok:(⟨wV ph pl,q,r,d⟩:Ex).ok:=⟨hP.1,w3.1,w4.1,by simp only; omega⟩
  have wf1:wrap .u64 (2*f)=2*f:=wQd _ ⟨by omega,by omega⟩;have wf2:wrap .u64 (2*f+1)=2*f+1:=wQd _ ⟨by omega,by omega⟩;simp only [wf1,wf2,zZV];have n0:=zQc (x:=2*f+1) (A:=9223372036854775807) (by omega) (by omega) w5.1 w5.2;have ub:upB (⟨wV ph pl,q,r,d⟩:Ex) f=decide ((2*f+1)*d<=(⟨wV ph pl,q,r,d⟩:Ex).up 2):=rfl;have MS:=zKl ph pl 2 (by omega);have MU:=zQW (2*f+1) d;have SB:=zJT (hiW ((2*f+1)*d)) (loW ((2*f+1)*d)) (hiW (wV ph pl*2)) (loW (wV ph pl*2));rw [zZV,zZV] at SB;rw [ub];clear ub;have un:=λn h=>yQ9 eok (n:=n) h;have ue:=λm h=>jWQ eok (m:=m) h;have uo:=λm h=>yQ8 eok (m:=m) h;have ubg:=λm h=>yZa eok (m:=m) h (by simp only; omega);have SQ:=zJH ph pl q r d hp hq hr;simp only at un ue uo ubg;generalize hN:(2*f+1)*d=N at *;generalize (⟨wV ph pl,q,r,d⟩:Ex).up 2=V at *;refine ⟨MS,MU,SB,λh=>?_,λh=>?_⟩
  ·have h:¬ wV ph pl*2<=N:=wXH h;exact (decide_eq_true (un N (by omega))).symm
  have h:wV ph pl*2<=N:=wQE h;have sw:subW N (wV ph pl*2)=N-wV ph pl*2:=by unfold subW; rw [if_neg (by omega)]
  simp only [sw,zZV];obtain ⟨K,hK⟩:∃ K,K=N-wV ph pl*2:=⟨_,rfl⟩
  rw [<- hK];have DM:=zVx (hiW K) (loW K) 2 (by decide);rw [zZV] at DM;have hN2:N=K+2*wV ph pl:=by omega
  rw [hN2];clear hN hN2 sw SB MS MU;have e2:=wZI K 2;have m0:0<=K / 2:=by omega
  refine ⟨DM,λh1=>?_,λh1=>?_⟩
  ·have h1:¬ K / 2<18446744073709551616:=by unfold hiW at h1; omega
   have:=ubg (K / 2) (by omega);exact (wXg (by omega)).symm
  have h1:K / 2<18446744073709551616:=by unfold hiW at h1; omega
  have z1:hiW (K / 2)=0:=zYf m0 h1;have z2:loW (K / 2)=K / 2:=zXW m0 h1;simp only [z1,z2,zVy,zZV];have R:=jXn ph pl q r d 0 (K / 2) hp hq hr;rw [zVy] at R;have ME:=zQW (K / 2) (K / 2);have AE:=zXf (hiW (K / 2*(K / 2))) (loW (K / 2*(K / 2))) 0 (K / 2);rw [zVy,zZV] at AE;have mm:=zQc m0 (show K / 2<=18446744073709551615 by omega) m0 (show K / 2<=18446744073709551615 by omega);have ea:addW (K / 2*(K / 2)) (K / 2)=K / 2*(K / 2)+K / 2:=by unfold addW; rw [if_pos (by omega)]
  have ek:addK (K / 2*(K / 2)) (K / 2)=true:=decide_eq_true (by omega);have CE:=zZg (hiW (q*q*r)) (loW (q*q*r)) (hiW (K / 2*(K / 2)+K / 2)) (loW (K / 2*(K / 2)+K / 2));rw [zZV,zZV] at CE;rw [ea] at AE |-;have ge:∀ a b:Int,0<=cmpI a b↔b<=a:=λa b=>jGd;have gt:∀ a b:Int,cmpI a b>0↔b<a:=λa b=>by unfold cmpI; grind
  refine ⟨λh2=>⟨R,?_⟩,λh2=>⟨ME,AE,λ_=>⟨SQ,CE,?_⟩,λh=>(by rw [ek] at h; cases h)⟩⟩
  ·have h2:K%2=0:=by simpa using h2
   have ev:=ue (K / 2) m0;rw [decide_eq_decide,show K+2*wV ph pl=2*(K / 2)+2*wV ph pl by omega,ev];unfold zKQ;rw [if_neg (by omega)];exact ge _ _
  ·have h2:¬ K%2=0:=by simpa using h2
   have ev:=uo (K / 2) m0;rw [decide_eq_decide,show K+2*wV ph pl=2*(K / 2)+1+2*wV ph pl by omega,ev];exact gt _ _
def aKR (a:Int) (b:Prop):Prop:=mY a 9223372036854775808 b
def sG (a b c d:Int):Int:=Ex.half ⟨a,b,c,d⟩
theorem zUm (ph pl q r d:Int) (hp:ph<4294967296) (hq:q<70368744177664) (hr:r<8589934592) (hd:1<=d) (hf:(⟨wV ph pl,q,r,d⟩:Ex).floor<4611686018427387904):Ans prog 263 [rA [DV.int .u64 ph,DV.int .u64 pl,DV.int .u64 q,DV.int .u64 r,DV.int .u64 d]] (rT [rD (DV.int .u64 ((⟨wV ph pl,q,r,d⟩:Ex).half)),rD (dQ true)]):=
 wc jKO aL Tryz.func263 (let b:=wV ph pl;let f:=oO (sG b q r d);let a:=Ex.floor ⟨b,q,r,d⟩;let g:=oO a;let c:=oO (sG b q r d);let e:=upB ⟨b,q,r,d⟩ a;let h:=a+1;let i:=aG h;True/\bH (oT 278 (gB ph pl q r d) g) (vE (gX true) (aK 0) c (gC true->True/\True/\Ans prog 279 (rA (gB ph pl q r d)::kH a []) (rD (DV.bool e))/\uW e (vE (aIQ i) (aK 0) c (aKR i (fR (lG (bX h)) f)))/\cS e (aCK (aIQ a) (aK 0) c) (aKR a (fR g f))))) λhwf=>by
  delta eS bI mY uW cS bH aK kG kH fR aG bX gB lG fI oN oO aCK gX aIQ aKR sG oT vE gC;simp only [sS,zX7];simp only [RV.wfs,RV.wf,DV.wf,DV.wfs,uc] at hwf;obtain ⟨⟨w1,w2,w3,w4,w5,_⟩,_⟩:=hwf;have hP:0<=wV ph pl/\wV ph pl<79228162514264337593543950336:=by unfold wV; omega
  have x1:=zQc w3.1 (show q<=70368744177664 by omega) w3.1 (show q<=70368744177664 by omega);have x2:=zQc x1.1 x1.2 w4.1 (show r<=8589934592 by omega);have eok:(⟨wV ph pl,q,r,d⟩:Ex).ok:=⟨hP.1,w3.1,w4.1,by simp only; omega⟩
  have F:=jZh ph pl q r d hp hq hr hd hf;have up0:=Ex.up_nonneg eok (t:=1) (by omega);have F0:0<=(⟨wV ph pl,q,r,d⟩:Ex).floor:=wQI up0 w5.1;have U:=jJ3 ph pl q r d (⟨wV ph pl,q,r,d⟩:Ex).floor hp hq hr hd hf;have hh:=Ex.half_floor eok;have ub:upB (⟨wV ph pl,q,r,d⟩:Ex) (⟨wV ph pl,q,r,d⟩:Ex).floor=decide ((2*(⟨wV ph pl,q,r,d⟩:Ex).floor+1)*d<=(⟨wV ph pl,q,r,d⟩:Ex).up 2):=rfl;rw [wQd ((⟨wV ph pl,q,r,d⟩:Ex).floor+1) ⟨by omega,by omega⟩];generalize (⟨wV ph pl,q,r,d⟩:Ex).floor=fl at *;refine ⟨F,λh=>(by cases h),U,λh=>?_,λh=>?_⟩
  ·rw [ub] at h;rw [hh,if_pos (wQE h)];exact ⟨λh=>(by omega),λ_=>rfl⟩
  ·rw [ub] at h;rw [hh,if_neg (wXH h)];exact ⟨λh=>(by omega),λ_=>rfl⟩
def gZ23:List RV->Option RV:=λv=>let c:=(zYw (nAt (uq v) 0) (nAt (uq v) 1) (nAt (uq v) 2) (nAt (uq v) 3));some (RV.agg [DV.int .u64 (hiW c.p),DV.int .u64 (loW c.p),DV.int .u64 c.q,DV.int .u64 c.r,DV.int .u64 c.d])
def jJu:Gam:=jKO.add [.p 303 (λv=>some (RV.agg [DV.int .u64 0,DV.int .u64 (nAt (uq v) 0),DV.int .u64 0,DV.int .u64 0,DV.int .u64 (nAt (uq v) 1)])),
 .p 304 (λv=>some (RV.d (DV.int .u64 (jQI (nAt (uq v) 0) (nAt (uq v) 1) (nAt (uq v) 2) (nAt (uq v) 3) (bAt (uq v) 4))))),
 .p 307 gZ23,
 .p 305 (λv=>let c:=(zVX (nAt (uq v) 0) (nAt (uq v) 1) (nAt (uq v) 2) (nAt (uq v) 3));some (RV.agg [DV.int .u64 (hiW c.p),DV.int .u64 (loW c.p),DV.int .u64 c.q,DV.int .u64 c.r,DV.int .u64 c.d])),
 .p 306 (λv=>let c:=(zGJ (nAt (uq v) 0) (nAt (uq v) 1) (nAt (uq v) 2) (nAt (uq v) 3));some (RV.agg [DV.int .u64 (hiW c.p),DV.int .u64 (loW c.p),DV.int .u64 c.q,DV.int .u64 c.r,DV.int .u64 c.d])),
 .p 290 (λv=>let c:=(zQd (nAt (uq v) 0) (nAt (uq v) 1) (nAt (uq v) 2) (nAt (uq v) 3) (nAt (uq v) 4));some (RV.agg [DV.int .u64 (hiW c.p),DV.int .u64 (loW c.p),DV.int .u64 c.q,DV.int .u64 c.r,DV.int .u64 c.d]))]
def aGZ (a b:Int):RV:=RV.agg (gB 0 a 0 0 b)
theorem zZC (p den:Int):Ans prog 303 [rD (DV.int .u64 p),rD (DV.int .u64 den)] (rA [DV.int .u64 0,DV.int .u64 p,DV.int .u64 0,DV.int .u64 0,DV.int .u64 den]):=
 wc jJu aL Tryz.func303 (bL (eS (aGZ p den))) λhwf=>by
  delta eS bL aK kG gB aGZ;simp only [sS]
theorem jZu (s a d b:Int) (tw:Bool) (h0:0<=s) (h1:s<=a) (h2:0<=d) (h3:d<=b) (ha:a<=65535) (hb:b<=65535) (h5:0<=jQI s a d b tw):Ans prog 304 [rD (DV.int .u64 s),rD (DV.int .u64 a),rD (DV.int .u64 d),rD (DV.int .u64 b),rD (dQ tw)] (rD (DV.int .u64 (jQI s a d b tw))):=
 wc jJu aL Tryz.func304 (let c:=iS (jQI s a d b tw);gK (tw=true->True/\cZ (vF (pZ s*d)) c) (tw=false->True/\sL (vF (aU a b-aU (pZ (fJ b d)) (fJ a s))=c))) λhwf=>by
  delta eS aH gK aK cZ aG bX aU fJ pZ iS vF sL;simp only [sS,zZC];have W:=ud;have p1:=zQc (x:=2*s) (y:=d) (A:=131070) (B:=65535) (by omega) (by omega) h2 (by omega);have p2:=zQc (x:=a) (y:=b) (A:=65535) (B:=65535) (by omega) ha (by omega) hb;have p3:=zQc (x:=2*(b-d)) (y:=a-s) (A:=131070) (B:=65535) (by omega) (by omega) (by omega) (by omega);simp only [W (2*s) (by omega) (by omega),W (b-d) (by omega) (by omega),W (2*(b-d)) (by omega) (by omega),W (a-s) (by omega) (by omega),W (a*b) (by omega) (by omega),W (2*s*d) (by omega) (by omega),W (2*(b-d)*(a-s)) (by omega) (by omega)];unfold jQI at h5 |-;refine ⟨λh=>by rw [h]; rfl,λh=>?_⟩;rw [h] at h5 |-;rw [if_neg (by decide)] at h5 |-;exact W _ h5 (by omega)
def kQ (a:Int):RV:=aGZ a 1
def aCY (a b c:Int):Bool:=decide (aU a b<=c)
def jG (a:RV) (b:Ex):Prop:=a=RV.agg (gB (hiW b.p) (loW b.p) b.q b.r b.d)
def aHA (a b:Int) (c:RV):Prop:=vN 303 a (aK b) c
def aDX (a:Int) (b:RV):Prop:=vJ 303 a 1 b
theorem jZt (s a d b:Int) (h0:0<=s) (h1:s<=a) (h2:0<=d) (h3:d<=b) (ha:a<=65535) (hb:b<=65535):Ans prog 307 [rD (DV.int .u64 s),rD (DV.int .u64 a),rD (DV.int .u64 d),rD (DV.int .u64 b)] (rA [DV.int .u64 (hiW (zYw s a d b).p),DV.int .u64 (loW (zYw s a d b).p),DV.int .u64 ((zYw s a d b).q),DV.int .u64 ((zYw s a d b).r),DV.int .u64 ((zYw s a d b).d)]):=
 wc jJu aL Tryz.func307 (let c:=zYw s a d b;let e:=aU (pZ d) (fJ a s);let f:=aU (aU (aG (pZ s-a)) d) (sK (aU (aU 16 d) d+aU (aU 3 b) b) (aU (aU 12 d) b));let g:=aU (aU (aU d a) b) b;let h:=aGZ (aG (g+f)) (aG (b*b));let i:=aU (aU (aG (a-pZ s)) d) (fJ b d);let j:=aGZ (fJ (aU (aU d a) b) i) b;True/\qT b 0 (gI (aDX 0 (kQ 0)) (jG (kQ 0) (zYw s a d b))) (dO (bK b) (tQ (pZ s) a (bL (aH (aM (aHA (aU (aU d a) b-i) b j) (jG j c)))) (dO (aCY 2 s a) (bI (lH (aU 4 d) b) (sL (kJ (aM (vN 303 (g+f) (bX (b*b)) h) (jG h c)))) (dO (aCY 4 d b) (True/\True/\True/\True/\aN (aHA (pZ d*fJ a s) 1 (kQ e)) (sL (jG (rA (gB 0 e (fJ (pZ s) a) (aU d b) 1)) c))))))))) λhwf=>by
  delta eS bI aH aM bK aN dO fQ gI bL qT aK kG aG bX gB aU fJ pZ vJ kJ lH tQ vN aGZ kQ sL sK aCY jG aHA aDX;simp only [sS,zZC];have W:=ud;have p1:=zQc (x:=d) (y:=a) (A:=65535) (B:=65535) h2 (by omega) (by omega) ha;have p2:=zQc (x:=b) (y:=b) (A:=65535) (B:=65535) (by omega) hb (by omega) hb;have p5:=zQc (x:=d) (y:=b) (A:=65535) (B:=65535) h2 (by omega) (by omega) hb;have p6:=zQc (x:=d*a) (y:=b) (A:=4294836225) (B:=65535) p1.1 (by omega) (by omega) hb;have su:=zWV h0 h1 h2 h3;simp only [W (2*s) (by omega) (by omega),W (d*a) p1.1 (by omega),W (b-d) (by omega) (by omega),W (a-s) (by omega) (by omega),W (b*b) p2.1 (by omega),W (4*d) (by omega) (by omega),W (d*b) p5.1 (by omega),W (16*d) (by omega) (by omega),W (3*b) (by omega) (by omega),W (12*d) (by omega) (by omega),W (2*d) (by omega) (by omega),W (d*a*b) p6.1 (by omega)];unfold zYw at su |-;have fx:∀ x:Ex,0<=x.p->x.p<18446744073709551616->0=hiW x.p/\x.p=loW x.p:=λx a b=>⟨(zYf a b).symm,(zXW a b).symm⟩
  refine ⟨λh=>?_,λh=>⟨λc1=>?_,λc1=>⟨λc2=>?_,λc2=>?_⟩⟩⟩
  ·have h:b=0:=by simpa using h
   rw [if_pos h]
   (repeat' (first | exact trivial | rfl | apply And.intro))
  ·have h:¬ b=0:=by simpa using h
   rw [if_neg h,if_pos c1] at su |-;have q1:=zQc (x:=a-2*s) (y:=d) (A:=65535) (B:=65535) (by omega) (by omega) h2 (by omega);have q2:=zQc (x:=(a-2*s)*d) (y:=b-d) (A:=4294836225) (B:=65535) q1.1 (by omega) (by omega) (by omega);have q3:=su.ok.p;simp only at q3;simp only [W (a-2*s) (by omega) (by omega),W ((a-2*s)*d) q1.1 (by omega),W ((a-2*s)*d*(b-d)) q2.1 (by omega),W (d*a*b-(a-2*s)*d*(b-d)) q3 (by omega)];obtain ⟨e1,e2⟩:=fx _ su.ok.p (by simp only; omega)
   (repeat' (first | exact e1 | exact e2 | exact trivial | rfl | apply And.intro))
  ·have h:¬ b=0:=by simpa using h
   rw [if_neg h,if_neg c1,if_pos c2] at su |-;have ⟨k1,k2⟩:=jXq h2 c2;have e16:16*d*d=16*(d*d):=by grind
   have e12:12*d*b=12*(d*b):=by grind
   have e3:3*b*b=3*(b*b):=by grind
   have p7:=zQc (x:=d) (y:=d) (A:=65535) (B:=65535) h2 (by omega) h2 (by omega);have q1:=zQc (x:=2*s-a) (y:=d) (A:=65535) (B:=65535) (by omega) (by omega) h2 (by omega);have q4:=zQc (x:=d*a) (y:=b*b) (A:=4294836225) (B:=4294836225) p1.1 (by omega) p2.1 (by omega);have kk:16*d*d+3*b*b-12*d*b<=81601888275:=by omega
   have q5:=zQc (x:=(2*s-a)*d) (y:=16*d*d+3*b*b-12*d*b) (A:=4294836225) (B:=81601888275) q1.1 (by omega) k1 kk;have ab:=zQc (x:=a) (y:=b) (A:=65535) (B:=65535) (by omega) ha (by omega) hb;have abb:=zQc (x:=a*b) (y:=b*b) (A:=4294836225) (B:=4294836225) ab.1 (by omega) p2.1 (by omega);have up:=su.p;simp only at up;have e4:d*a*b*b=d*a*(b*b):=by rw [Int.mul_assoc (d*a)]
   have tot:d*a*(b*b)+(2*s-a)*d*(16*d*d+3*b*b-12*d*b)<18446744073709551616:=by omega
   simp only [W (16*d*d) (by omega) (by omega),W (3*b*b) (by omega) (by omega),W (16*d*d+3*b*b) (by omega) (by omega),W (12*d*b) (by omega) (by omega),W (16*d*d+3*b*b-12*d*b) k1 (by omega),W (2*s-a) (by omega) (by omega),W ((2*s-a)*d) q1.1 (by omega),e4,W (d*a*(b*b)) q4.1 (by omega),W ((2*s-a)*d*(16*d*d+3*b*b-12*d*b)) q5.1 (by omega),W (d*a*(b*b)+(2*s-a)*d*(16*d*d+3*b*b-12*d*b)) (by omega) tot];obtain ⟨e1,e2⟩:=fx _ su.ok.p (by simp only; omega)
   (repeat' (first | exact e1 | exact e2 | exact trivial | rfl | apply And.intro))
  ·have h:¬ b=0:=by simpa using h
   rw [if_neg h,if_neg c1,if_neg c2];have q1:=zQc (x:=2*d) (y:=a-s) (A:=131070) (B:=65535) (by omega) (by omega) (by omega) (by omega);simp only [W (2*d*(a-s)) q1.1 (by omega),W (2*s-a) (by omega) (by omega)];have e1:=(zYf q1.1 (show 2*d*(a-s)<18446744073709551616 by omega)).symm;have e2:=(zXW q1.1 (show 2*d*(a-s)<18446744073709551616 by omega)).symm
   (repeat' (first | exact e1 | exact e2 | exact trivial | rfl | apply And.intro))
theorem jQ1 (s a d b:Int) (h0:0<=s) (h1:s<=a) (h2:0<=d) (h3:d<=b) (ha:a<=65535) (hb:b<=65535):Ans prog 305 [rD (DV.int .u64 s),rD (DV.int .u64 a),rD (DV.int .u64 d),rD (DV.int .u64 b)] (rA [DV.int .u64 (hiW (zVX s a d b).p),DV.int .u64 (loW (zVX s a d b).p),DV.int .u64 ((zVX s a d b).q),DV.int .u64 ((zVX s a d b).r),DV.int .u64 ((zVX s a d b).d)]):=
 wc jJu aL Tryz.func305 (let c:=zVX s a d b;let e:=aGZ (aU (aG (a*a)) d) (fJ a s);True/\qT d 0 (gI (aDX 0 (kQ 0)) (jG (kQ 0) c)) (bK d=false->True/\bL (pI (aU d a) (aU b (fJ a s)) (aM (aHA (a*b) 1 (kQ (aU a b))) (jG (kQ (aU a b)) c)) (aAA (aU d a) (aU b (fJ a s)) (jO (vN 303 (aG (a*a)*d) (bX (a-s)) e) (jG e c)))))) λhwf=>by
  delta eS pI aM bK fQ gI bL qT aK kG aG bX gB aU fJ uI aAA vJ vN aGZ kQ jO jG aHA aDX;simp only [sS,zZC];have W:=ud;have fin:∀ (x:Ex) (n X:Int),x=zZe n->0<=n->n<18446744073709551616->X=n->(0=hiW x.p/\X=loW x.p/\0=x.q/\0=x.r/\1=x.d):=λx n X e n0 n1 hX=>by
   rw [e,hX];exact ⟨(zYf n0 n1).symm,(zXW n0 n1).symm,rfl,rfl,rfl⟩
  have fin2:∀ (x:Ex) (n e X D:Int),x=⟨n,0,0,e⟩->0<=n->n<18446744073709551616->X=n->D=e->(0=hiW x.p/\X=loW x.p/\0=x.q/\0=x.r/\D=x.d):=λx n e X D q n0 n1 hX hD=>by
   rw [q,hX,hD];exact ⟨(zYf n0 n1).symm,(zXW n0 n1).symm,rfl,rfl,rfl⟩
  have a0:0<=a:=by omega
  have b0:0<=b:=by omega
  have sb:=zQc (x:=s) (y:=b) (A:=65535) (B:=65535) h0 (by omega) b0 hb;have da:=zQc (x:=d) (y:=a) (A:=65535) (B:=65535) h2 (by omega) a0 ha;have sd:=zQc (x:=s) (y:=d) (A:=65535) (B:=65535) h0 (by omega) h2 (by omega);have ab:=zQc (x:=a) (y:=b) (A:=65535) (B:=65535) a0 ha b0 hb;have aa:=zQc (x:=a) (y:=a) (A:=65535) (B:=65535) a0 ha a0 ha;have aad:=zQc (x:=a*a) (y:=d) (A:=4294836225) (B:=65535) aa.1 (by omega) h2 (by omega);have ba:=zQc (x:=b) (y:=a-s) (A:=65535) (B:=65535) b0 hb (by omega) (by omega);have bd:=zQc (x:=b-d) (y:=a) (A:=65535) (B:=65535) (by omega) (by omega) a0 ha;have bda:=zQc (x:=(b-d)*a) (y:=a) (A:=4294836225) (B:=65535) bd.1 (by omega) a0 ha;have abs:=zQc (x:=a*b) (y:=s) (A:=4294836225) (B:=65535) ab.1 (by omega) h0 (by omega);have s2:=zQc (x:=2*s) (y:=d) (A:=131070) (B:=65535) (by omega) (by omega) h2 (by omega);simp only [W (d*a) da.1 (by omega),W (a-s) (by omega) (by omega),W (b*(a-s)) ba.1 (by omega),W (a*b) ab.1 (by omega),W (a*a) aa.1 (by omega),W (a*a*d) aad.1 (by omega)];refine ⟨λk=>?_,λk=>⟨λk2=>?_,λk2=>?_⟩⟩
  ·have k:d=0:=by simpa using k
   exact fin _ 0 0 (by unfold zVX; rw [if_pos k]) (by omega) (by omega) rfl
  ·have k:¬ d=0:=by simpa using k
   exact fin _ (a*b) _ (by unfold zVX; rw [if_neg k,if_pos k2]) ab.1 (by omega) rfl
  ·have k:¬ d=0:=by simpa using k
   exact fin2 _ (a*a*d) (a-s) _ _ (by unfold zVX; rw [if_neg k,if_neg k2]) aad.1 (by omega) rfl rfl
theorem jZv (s a d b:Int) (h0:0<=s) (h1:s<=a) (h2:0<=d) (h3:d<=b) (ha:a<=65535) (hb:b<=65535):Ans prog 306 [rD (DV.int .u64 s),rD (DV.int .u64 a),rD (DV.int .u64 d),rD (DV.int .u64 b)] (rA [DV.int .u64 (hiW (zGJ s a d b).p),DV.int .u64 (loW (zGJ s a d b).p),DV.int .u64 ((zGJ s a d b).q),DV.int .u64 ((zGJ s a d b).r),DV.int .u64 ((zGJ s a d b).d)]):=
 wc jJu aL Tryz.func306 (let c:=zGJ s a d b;let e:=aU (aG (b-d)) a;let f:=aU e a;let g:=aU a b;let h:=aGZ (fJ (aU g s) f) s;True/\True/\gV (d==b) (aM (aHA (a*b) 1 (kQ g)) (jG (kQ g) c)) (bL (fQ (fI e (aU s b)) (gI (aDX 0 (kQ 0)) (jG (kQ 0) c)) (uI e (aU s b)->True/\True/\True/\True/\aH (aM (aHA (aU g s-f) s h) (jG h c)))))) λhwf=>by
  delta eS aH aM fQ gI bL aK kG gV aG bX gB aU fJ fI uI vJ vN aGZ kQ jG aHA aDX;simp only [sS,zZC];have W:=ud;have fin:∀ (x:Ex) (n X:Int),x=zZe n->0<=n->n<18446744073709551616->X=n->(0=hiW x.p/\X=loW x.p/\0=x.q/\0=x.r/\1=x.d):=λx n X e n0 n1 hX=>by
   rw [e,hX];exact ⟨(zYf n0 n1).symm,(zXW n0 n1).symm,rfl,rfl,rfl⟩
  have fin2:∀ (x:Ex) (n e X D:Int),x=⟨n,0,0,e⟩->0<=n->n<18446744073709551616->X=n->D=e->(0=hiW x.p/\X=loW x.p/\0=x.q/\0=x.r/\D=x.d):=λx n e X D q n0 n1 hX hD=>by
   rw [q,hX,hD];exact ⟨(zYf n0 n1).symm,(zXW n0 n1).symm,rfl,rfl,rfl⟩
  have a0:0<=a:=by omega
  have b0:0<=b:=by omega
  have sb:=zQc (x:=s) (y:=b) (A:=65535) (B:=65535) h0 (by omega) b0 hb;have da:=zQc (x:=d) (y:=a) (A:=65535) (B:=65535) h2 (by omega) a0 ha;have sd:=zQc (x:=s) (y:=d) (A:=65535) (B:=65535) h0 (by omega) h2 (by omega);have ab:=zQc (x:=a) (y:=b) (A:=65535) (B:=65535) a0 ha b0 hb;have aa:=zQc (x:=a) (y:=a) (A:=65535) (B:=65535) a0 ha a0 ha;have aad:=zQc (x:=a*a) (y:=d) (A:=4294836225) (B:=65535) aa.1 (by omega) h2 (by omega);have ba:=zQc (x:=b) (y:=a-s) (A:=65535) (B:=65535) b0 hb (by omega) (by omega);have bd:=zQc (x:=b-d) (y:=a) (A:=65535) (B:=65535) (by omega) (by omega) a0 ha;have bda:=zQc (x:=(b-d)*a) (y:=a) (A:=4294836225) (B:=65535) bd.1 (by omega) a0 ha;have abs:=zQc (x:=a*b) (y:=s) (A:=4294836225) (B:=65535) ab.1 (by omega) h0 (by omega);have s2:=zQc (x:=2*s) (y:=d) (A:=131070) (B:=65535) (by omega) (by omega) h2 (by omega);have hu:=zZy (mode:=8) h0 h1 h2 h3;have eb:zQd 8 s a d b=zGJ s a d b:=rfl;rw [eb] at hu;simp only [W (s*b) sb.1 (by omega),W (b-d) (by omega) (by omega),W ((b-d)*a) bd.1 (by omega),W (a*b) ab.1 (by omega),W (a*b*s) abs.1 (by omega),W ((b-d)*a*a) bda.1 (by omega)];refine ⟨λk=>?_,λk=>⟨λk2=>?_,λk2=>?_⟩⟩
  ·have k:d=b:=by simpa using k
   exact fin _ (a*b) _ (by unfold zGJ; rw [if_pos k]) ab.1 (by omega) rfl
  ·have k:¬ d=b:=by simpa using k
   exact fin _ 0 0 (by unfold zGJ; rw [if_neg k,if_pos k2]) (by omega) (by omega) rfl
  ·have k:¬ d=b:=by simpa using k
   have e:zGJ s a d b=⟨a*b*s-(b-d)*a*a,0,0,s⟩:=by unfold zGJ; rw [if_neg k,if_neg k2]
   have q0:=hu.ok.p;rw [e] at q0;simp only at q0;exact fin2 _ _ s _ _ e q0 (by omega) (W _ q0 (by omega)) rfl
def xT (a b:Int) (c:Prop) (d:Int) (e:Prop) (f:Int) (g:Prop) (h:Int) (i j:Prop):Prop:=mG (a==b) c a d e (mG (a==f) g a h i j)
def aFQ (a:Ex):RV:=RV.agg (gB (hiW a.p) (loW a.p) a.q a.r a.d)
def aJJ (a b c d e f g:Int):Prop:=aM (aHA a 1 (kQ b)) (jG (kQ b) (zQd c d e f g))
theorem jZs (mode s a d b:Int) (h0:0<=s) (h1:s<=a) (h2:0<=d) (h3:d<=b) (ha:a<=65535) (hb:b<=65535):Ans prog 290 [rJ (mode),rD (DV.int .u64 s),rD (DV.int .u64 a),rD (DV.int .u64 d),rD (DV.int .u64 b)] (rA [DV.int .u64 (hiW (zQd mode s a d b).p),DV.int .u64 (loW (zQd mode s a d b).p),DV.int .u64 ((zQd mode s a d b).q),DV.int .u64 ((zQd mode s a d b).r),DV.int .u64 ((zQd mode s a d b).d)]):=
 wc jJu aL Tryz.func290 (let h:=aU s b;let k:=h+aU d a;let o:=aG k;let c:=Min.min h (aU d a);let e:=Max.max h (aU d a);let i:=zQd mode s a d b;let p:=aFQ (zYw s a d b);let l:=vW (aK d) b;let f:=aK a;let g:=aK s;let m:=zQd mode s a d b;let j:=jQI s a d b (aCY 2 s a);let q:=aFQ (zGJ s a d b);let r:=aFQ (zVX s a d b);let n:=jQI s a d b (aCY 2 d b);let t:=aK 0::aK n::aK 0::kG 0 1;True/\True/\True/\True/\((mode==1)=true->True/\aJJ (s*b) h mode s a d b)/\mG (mode==1) (dN mode 2 (aJJ (s*d) (aU s d) mode s a d b)) mode 2 (dN mode 3 (aH (aJJ (o-aU s d) (sK k (aU s d)) mode s a d b))) (xT mode 3 (dN mode 4 (bL (dY (nY 304 g f (rD (aK d)::rD (aK b)::nK (aCY 2 d b)) (iS n)) (aDX n (rA t)) (rA t=aFQ i)))) 4 (dN mode 5 (jO (aDX c (kQ c)) (jG (kQ c) m))) 5 (dN mode 6 (jO (aDX e (kQ e)) (jG (kQ e) m))) 6 (dC mode 7 (aM (nY 305 g f l r) (jG r i))) (xT mode 7 (dC mode 8 (aM (nY 306 g f l q) (jG q i))) 8 (dN mode 9 (bL (dY (nY 304 g f (rD (aK d)::rD (aK b)::nK (aCY 2 s a)) (iS j)) (aDX j (kQ j)) (jG (kQ j) m)))) 9 (dC mode 10 (aM (nY 307 g f l p) (jG p i))) 10 (dN mode 11 (sL (aJJ (e-c) (fJ e c) mode s a d b))) (dO (mode==11) (aH (aJJ (o-aU (pZ s) d) (sK k (aU (pZ s) d)) mode s a d b)))))) λhwf=>by
  delta eS dY aH aM dC nY dN dO cS mG bL nK aK kG vW aG bX gB aU fJ pZ iS vJ vN aGZ kQ xT sL sK aFQ jO aCY jG aHA aDX aJJ;simp only [sS,zZC];have W:=ud;have fin:∀ (x:Ex) (n X:Int),x=zZe n->0<=n->n<18446744073709551616->X=n->(0=hiW x.p/\X=loW x.p/\0=x.q/\0=x.r/\1=x.d):=λx n X e n0 n1 hX=>by
   rw [e,hX];exact ⟨(zYf n0 n1).symm,(zXW n0 n1).symm,rfl,rfl,rfl⟩
  have fin2:∀ (x:Ex) (n e X D:Int),x=⟨n,0,0,e⟩->0<=n->n<18446744073709551616->X=n->D=e->(0=hiW x.p/\X=loW x.p/\0=x.q/\0=x.r/\D=x.d):=λx n e X D q n0 n1 hX hD=>by
   rw [q,hX,hD];exact ⟨(zYf n0 n1).symm,(zXW n0 n1).symm,rfl,rfl,rfl⟩
  have a0:0<=a:=by omega
  have b0:0<=b:=by omega
  have sb:=zQc (x:=s) (y:=b) (A:=65535) (B:=65535) h0 (by omega) b0 hb;have da:=zQc (x:=d) (y:=a) (A:=65535) (B:=65535) h2 (by omega) a0 ha;have sd:=zQc (x:=s) (y:=d) (A:=65535) (B:=65535) h0 (by omega) h2 (by omega);have ab:=zQc (x:=a) (y:=b) (A:=65535) (B:=65535) a0 ha b0 hb;have aa:=zQc (x:=a) (y:=a) (A:=65535) (B:=65535) a0 ha a0 ha;have aad:=zQc (x:=a*a) (y:=d) (A:=4294836225) (B:=65535) aa.1 (by omega) h2 (by omega);have ba:=zQc (x:=b) (y:=a-s) (A:=65535) (B:=65535) b0 hb (by omega) (by omega);have bd:=zQc (x:=b-d) (y:=a) (A:=65535) (B:=65535) (by omega) (by omega) a0 ha;have bda:=zQc (x:=(b-d)*a) (y:=a) (A:=4294836225) (B:=65535) bd.1 (by omega) a0 ha;have abs:=zQc (x:=a*b) (y:=s) (A:=4294836225) (B:=65535) ab.1 (by omega) h0 (by omega);have s2:=zQc (x:=2*s) (y:=d) (A:=131070) (B:=65535) (by omega) (by omega) h2 (by omega);have hu:=zZy (mode:=mode) h0 h1 h2 h3;simp only [W (s*b) sb.1 (by omega),W (d*a) da.1 (by omega),W (s*d) sd.1 (by omega),W (2*s) (by omega) (by omega),W (2*d) (by omega) (by omega),W (2*s*d) s2.1 (by omega),W (s*b+d*a) (by omega) (by omega),jKK,jKL];have fn:∀ n X:Int,zQd mode s a d b=zZe n->(0<=n->n<=a*b->X=n)->(0=hiW (zQd mode s a d b).p/\X=loW (zQd mode s a d b).p/\0=(zQd mode s a d b).q/\0=(zQd mode s a d b).r/\1=(zQd mode s a d b).d):=λn X e hX=>by
   have u:=hu;rw [e] at u;have n0:0<=n:=u.ok.p;have n1:n<=a*b*1:=u.p;exact fin _ n X e n0 (by omega) (hX n0 (by omega))
  have fex:∀ x y:Ex,y=x->(hiW x.p=hiW y.p/\loW x.p=loW y.p/\x.q=y.q/\x.r=y.r/\x.d=y.d):=λx y h=>by rw [h]; exact ⟨rfl,rfl,rfl,rfl,rfl⟩
  have H1:=zUM h0 h1 h2 h3;have H2:=zUM h2 h3 h0 h1;have hT:=λtw h=>jZu s a d b tw h0 h1 h2 h3 ha hb h;refine ⟨λc=>?_,λc1=>?_⟩
  ·have c:mode=1:=by simpa using c
   exact fn (s*b) _ (by rw [c]; rfl) λ_ _=>rfl
  refine ⟨λc=>?_,λc2=>?_⟩
  ·have c:mode=2:=by simpa using c
   exact fn (s*d) _ (by rw [c]; rfl) λ_ _=>rfl
  refine ⟨λc=>?_,λc3=>?_⟩
  ·have c:mode=3:=by simpa using c
   exact fn (s*b+d*a-s*d) _ (by rw [c]; rfl) λq0 q1=>W _ q0 (by omega)
  refine ⟨λc=>?_,λc4=>?_⟩
  ·have c:mode=4:=by simpa using c
   have:=hT (decide (2*d<=b)) (by rw [jKL]; exact H2.1);rw [jKL] at this;exact ⟨this,fn (zJN d b s a) _ (by rw [c]; rfl) λ_ _=>rfl⟩
  refine ⟨λc=>?_,λc5=>?_⟩
  ·have c:mode=5:=by simpa using c
   exact fn (min (s*b) (d*a)) _ (by rw [c]; rfl) λ_ _=>rfl
  refine ⟨λc=>?_,λc6=>?_⟩
  ·have c:mode=6:=by simpa using c
   exact fn (max (s*b) (d*a)) _ (by rw [c]; rfl) λ_ _=>rfl
  refine ⟨λc=>?_,λc7=>?_⟩
  ·have c:mode=7:=by simpa using c
   exact ⟨jQ1 s a d b h0 h1 h2 h3 ha hb,fex _ _ (by rw [c]; rfl)⟩
  refine ⟨λc=>?_,λc8=>?_⟩
  ·have c:mode=8:=by simpa using c
   exact ⟨jZv s a d b h0 h1 h2 h3 ha hb,fex _ _ (by rw [c]; rfl)⟩
  refine ⟨λc=>?_,λc9=>?_⟩
  ·have c:mode=9:=by simpa using c
   have:=hT (decide (2*s<=a)) (by rw [jKK]; exact H1.1);rw [jKK] at this;exact ⟨this,fn (zJN s a d b) _ (by rw [c]; rfl) λ_ _=>rfl⟩
  refine ⟨λc=>?_,λc10=>?_⟩
  ·have c:mode=10:=by simpa using c
   exact ⟨jZt s a d b h0 h1 h2 h3 ha hb,fex _ _ (by rw [c]; rfl)⟩
  refine ⟨λc=>?_,λc11=>?_⟩
  ·have c:mode=11:=by simpa using c
   exact fn (max (s*b) (d*a)-min (s*b) (d*a)) _ (by rw [c]; rfl) λq0 q1=>W _ q0 (by omega)
  ·have n:∀ k:Int,(mode==k)=false->¬ mode=k:=λk h=>by simpa using h
   exact fn (s*b+d*a-2*s*d) _ (by unfold zQd; rw [if_neg (n _ c1),if_neg (n _ c2),if_neg (n _ c3),if_neg (n _ c4),if_neg (n _ c5),if_neg (n _ c6),if_neg (n _ c7),if_neg (n _ c8),if_neg (n _ c9),if_neg (n _ c10),if_neg (n _ c11)]) λq0 q1=>W _ q0 (by omega)
def aFP (a b c e f:Int) (g:Bool):RV:=RV.tup [RV.agg (gB a b c e f),RV.d (DV.bool g)]
def zX (a b:Int) (c:Bool):RV:=aFP 0 a 0 0 b c
def vM (a:Ex) (b:Bool):RV:=aFP (hiW a.p) (loW a.p) a.q a.r a.d b
def xS (a:RV) (b c d e f:Int):Prop:=a=vM (blE b c d e f) (blK b c d e f)
def aFN (a b c d e:Int):RV:=vM (blE a b c d e) (blK a b c d e)
theorem zVZ (mode s a d b:Int):Ans prog 273 [rJ (mode),rD (dK s),rD (dK a),rD (dK d),rD (dK b)] (rT [rA [DV.int .u64 (hiW (blE mode s a d b).p),DV.int .u64 (loW (blE mode s a d b).p),DV.int .u64 ((blE mode s a d b).q),DV.int .u64 ((blE mode s a d b).r),DV.int .u64 ((blE mode s a d b).d)],rD (dQ (blK mode s a d b))]):=
 wc jJu aL Tryz.func273 (let c:=zX 0 0 false;let e:=zQd mode (aG s) (aG a) (aG d) (aG b);bF (aFR (zW 217 mode) (mN mode) (sM s a (iH d b (fR c (aFN mode s a d b)) (fL d b->aH (aY (tU 290 mode [rD (bX s),rD (bX a),rD (bX d),rD (bX b)] (aFQ e)) (xS (vM e true) mode s a d b)))) (lB (decide (s>a)) false (xS c mode s a d b))) (hZ (mN mode) (cZ c (aFN mode s a d b))))) λhwf=>by
  delta eS aB aH aY iH iO fL bF kB aK kG fR cZ lB aG bX gB gC aFP oV hZ mN zX zW sM vM xS aFR aFQ aFN tU;simp only [sS,zZC];simp only [RV.wfs,RV.wf,DV.wf,DV.wfs,uc] at hwf;have W:=ud;obtain ⟨_,⟨s0,s1⟩,⟨a0,a1⟩,⟨d0,d1⟩,⟨b0,b1⟩,_⟩:=hwf;simp only [W s s0 (by omega),W a a0 (by omega),W d d0 (by omega),W b b0 (by omega)];have bad:¬ (isNm mode=true/\s<=a/\d<=b)->(0=hiW (blE mode s a d b).p/\0=loW (blE mode s a d b).p/\0=(blE mode s a d b).q/\0=(blE mode s a d b).r/\0=(blE mode s a d b).d)/\false=blK mode s a d b:=λhn=>by
   have:blK mode s a d b=false:=by
    cases e:blK mode s a d b with
    | false=>rfl
    | true=>
     simp only [blK,wQe,wQj] at e;exact absurd ⟨e.1,e.2.1,e.2.2⟩ hn
   have e2:blE mode s a d b=.zero:=by unfold blE; rw [this]; rfl
   rw [this,e2]; exact ⟨⟨rfl,rfl,rfl,rfl,rfl⟩,rfl⟩
  refine ⟨zQG _,λhm=>⟨λhsa=>⟨λhdb=>?_,λhdb=>?_⟩,λhsa=>?_⟩,λhm=>?_⟩
  case refine_1=>exact bad λh=>by omega
  case refine_3=>exact bad λh=>by omega
  case refine_4=>exact bad λh=>hm (wQE h.1)
  have h1:s<=a:=by omega
  have h2:d<=b:=by omega
  have k:blK mode s a d b=true:=by unfold blK; rw [show isNm mode=true from decide_eq_true hm,decide_eq_true h1,decide_eq_true h2]; rfl
  have e:blE mode s a d b=zQd mode s a d b:=by unfold blE; rw [if_pos k]
  rw [k,e];exact ⟨jZs mode s a d b s0 h1 d0 h2 a1 b1,⟨rfl,rfl,rfl,rfl,rfl⟩,rfl⟩
def gZ24:List RV->Option RV:=λv=>some (RV.tup [RV.d (DV.int .u64 (vr (ur v 0)).half),RV.d (dQ true)])
def gZ25:List RV->Option RV:=λ| [.d (.int _ mode),.d (.int _ s),.d (.int _ a),.d (.int _ d),.d (.int _ b)]=>let c:=(blE mode s a d b); some (RV.tup [RV.agg [DV.int .u64 (hiW c.p),DV.int .u64 (loW c.p),DV.int .u64 c.q,DV.int .u64 c.r,DV.int .u64 c.d],RV.d (dQ (blK mode s a d b))]) | _=>none
def gZ26:List RV->Option RV:=λ| [.d (.int _ op),.d (.int _ a),.d (.int _ b),.d (.int _ m)]=>some (RV.tup [RV.d (dK (fcA op a b m)),RV.d (dK (fcB op a b m)),RV.d (dQ (fcK op a b m))]) | _=>none
def gZ27:List RV->Option RV:=λv=>some (RV.d (dK (zXa (nAt (uq v) 0) (nAt (uq v) 1) (nAt (uq v) 2) (nAt (uq v) 3))))
def gZ28:List RV->Option RV:=λv=>some (RV.d (dK (zXc (nAt (uq v) 0) (nAt (uq v) 1) (nAt (uq v) 2) (nAt (uq v) 3))))
def gZ29:List RV->Option RV:=λ| [.d (.int _ op),.d (.int _ mode),.d (.int _ m),.d (.int _ s),.d (.int _ a),.d (.int _ d),.d (.int _ b)]=>let c:=(vlE op mode m s a d b); some (RV.tup [RV.agg [DV.int .u64 (hiW c.p),DV.int .u64 (loW c.p),DV.int .u64 c.q,DV.int .u64 c.r,DV.int .u64 c.d],RV.d (dQ (vlK op mode m s a d b))]) | _=>none
def gZ30:List RV->Option RV:=λv=>some (RV.tup [RV.d (dK (colS (nAt (uq v) 0) (nAt (uq v) 1) (nAt (uq v) 2) (nAt (uq v) 3) (nAt (uq v) 4) (nAt (uq v) 5) (nAt (uq v) 6))),RV.d (dQ true)])
def gZ31:List RV->Option RV:=λv=>some (RV.d (dQ (zQH (nAt (uq v) 0))))
def gZ32:List RV->Option RV:=λv=>some (RV.tup [RV.d (dK (knoC (nAt (uq v) 0) (nAt (uq v) 1) (nAt (uq v) 2) (nAt (uq v) 3) (nAt (uq v) 4) (nAt (uq v) 5) (nAt (uq v) 6) (nAt (uq v) 7))),RV.d (dQ true)])
def gZ33:List RV->Option RV:=λv=>some (RV.tup [RV.d (dK (knoA (nAt (uq v) 0) (nAt (uq v) 1) (nAt (uq v) 2) (nAt (uq v) 3) (nAt (uq v) 4))),RV.d (dQ true)])
def gZ34:List RV->Option RV:=λv=>some (RV.tup [RV.d (dK (knoA (nAt (uq v) 0) (nAt (uq v) 1) (nAt (uq v) 2) (nAt (uq v) 3) 0)),RV.d (dQ true)])
def zGE:Gam:=jJu.add [.p 263 gZ24,
 .p 273 gZ25,
 .p 280 (λv=>some (RV.d (dK (facF (nAt (uq v) 0) (nAt (uq v) 1) (nAt (uq v) 2))))),
 .p 264 gZ26,
 .p 265 (λv=>some (RV.d (dK (wrap .u16 (zQP ((nAt (uq v) 0)*(nAt (uq v) 1)+(nAt (uq v) 2)*(nAt (uq v) 3)) (nAt (uq v) 4)))))),
 .p 246 gZ27,
 .p 247 gZ28,
 .p 262 gZ29,
 .p 245 gZ30,
 .p 274 gZ31,
 .p 277 (λv=>some (RV.d (DV.int .u64 ((nAt (uq v) 0)*(nAt (uq v) 1)+(nAt (uq v) 2)*(nAt (uq v) 3)+(nAt (uq v) 4)*(nAt (uq v) 5))))),
 .p 259 gZ32,
 .p 260 gZ33,
 .p 261 gZ34]
def aFO (a b:Int) (c:Prop):Prop:=(a==b)=true->True/\True/\True/\True/\c
theorem zJK (f a m:Int) (h:a<=m):Ans prog 280 [rJ (f),rD (dK a),rD (dK m)] (rD (dK (facF f a m))):=
 wc zGE aL Tryz.func280 (let b:=facF f a m;True/\mL f 1 (fU m b) (mG (f==1) (dC f 2 (fU a b)) f 2 (aFO f 3 (fU (fH (m-a)) b)) (uS f 3 (fU 0 b)))) λhwf=>by
  delta eS bI aE dC nC fU uS cS mG fH mL aFO;simp only [sS];unfold facF;refine ⟨λh=>?_,λh1=>⟨λh=>?_,λh2=>⟨λh=>?_,λh3=>?_⟩⟩⟩
  ·rw [if_pos (by simpa using h)]
  ·rw [if_neg (by simpa using h1),if_pos (by simpa using h)]
  ·rw [if_neg (by simpa using h1),if_neg (by simpa using h2),if_pos (by simpa using h)];simp only [RV.wfs,RV.wf,DV.wf] at hwf;have mj:IntKind.min .u16=0:=rfl;have mb:IntKind.max .u16=65535:=rfl;simp only [mj,mb] at hwf;exact wQz _ ⟨by omega,by omega⟩
  ·rw [if_neg (by simpa using h1),if_neg (by simpa using h2),if_neg (by simpa using h3)]
def vV (a b:Int) (c:List RV):List RV:=RV.d (aE a)::RV.d (aE b)::c
def aMN (a b c d:Int):RV:=RV.tup (vV (fcA a b c d) (fcB a b c d) (nK (fcK a b c d)))
def sN (a b:Int):RV:=RV.tup (vV a b (nK true))
def qX (a:RV) (b c d e:Int):Prop:=a=RV.tup (vV (fcA b c d e) (fcB b c d e) (nK (fcK b c d e)))
theorem zJp (op a b m:Int):Ans prog 264 [rJ (op),rD (dK a),rD (dK b),rD (dK m)] (rT [rD (dK (fcA op a b m)),rD (dK (fcB op a b m)),rD (dQ (fcK op a b m))]):=
 wc zGE aL Tryz.func264 (let c:=rT (rD gF::jM 0 (nK false));let d:=facF (zYt op 2) a m;let e:=facF (zYt op 1) b m;bF (dL (kB 216 op (rT [rA (DV.str (zZW op)::aBA (zYt op 1) (zYt op 2) (zYt op 3)),rD (DV.bool (mN op))])) (bI (gC (mN op)) (sM a m (iH b m (fR c (aMN op a b m)) (xW b m (aFL (tU 280 (zYt op 1) [rD (aE b),rD (aE m)] (nC e)) (tU 280 (zYt op 2) [rD (aE a),rD (aE m)] (nC d)) (cT (qX (sN e d) op a b m))))) (lB (decide (a>m)) false (qX c op a b m))) (hZ (mN op) (cZ c (aMN op a b m)))))) λhwf=>by
  delta eS aB bI aE aM aY nC gF dL cT iH iO fL jM bF kB nK aFL fR cZ lB gC vV aMN hZ mN sM tU sN qX xW aBA;simp only [sS];simp only [RV.wfs,RV.wf,DV.wf,DV.wfs,uc] at hwf;have fbad:¬ (isNm op=true/\a<=m/\b<=m)->fcK op a b m=false/\fcA op a b m=0/\fcB op a b m=0:=λhn=>by
   have:fcK op a b m=false:=by
    cases e:fcK op a b m with
    | false=>rfl
    | true=>
     simp only [fcK,wQe,wQj] at e;exact absurd ⟨e.1,e.2.1,e.2.2⟩ hn
   exact ⟨this,by unfold fcA; rw [this]; rfl,by unfold fcB; rw [this]; rfl⟩
  have fgood:isNm op=true->a<=m->b<=m->fcK op a b m=true/\fcA op a b m=facA op a b m/\fcB op a b m=facB op a b m:=λh1 h2 h3=>by
   have:fcK op a b m=true:=by unfold fcK; rw [h1,decide_eq_true h2,decide_eq_true h3]; rfl
   exact ⟨this,by unfold fcA; rw [if_pos this],by unfold fcB; rw [if_pos this]⟩
  obtain ⟨_,⟨a0,a1⟩,⟨b0,b1⟩,⟨m0,m1⟩,_⟩:=hwf;have OF:=zQg op;refine ⟨OF,λho=>⟨λhx=>⟨λhy=>?_,λhy=>?_⟩,λhx=>?_⟩,λho=>?_⟩
  case refine_1=>obtain ⟨e1,e2,e3⟩:=fbad (λh=>by omega); rw [e1,e2,e3]; exact ⟨rfl,rfl,rfl⟩
  case refine_3=>obtain ⟨e1,e2,e3⟩:=fbad (λh=>by omega); rw [e1,e2,e3]; exact ⟨rfl,rfl,rfl⟩
  case refine_4=>obtain ⟨e1,e2,e3⟩:=fbad (λh=>ho (wQE h.1)); rw [e1,e2,e3]; exact ⟨rfl,rfl,rfl⟩
  obtain ⟨e1,e2,e3⟩:=fgood (decide_eq_true ho) (by omega) (by omega);obtain ⟨k1,k2⟩:=yZF ho a b m;rw [e1,e2,e3];exact ⟨zJK _ _ _ (by omega),zJK _ _ _ (by omega),k1,k2,rfl⟩
def oS (a b:Int):Int:=fH (zQP a (aG b))
theorem zJl (x p y q m:Int):Ans prog 265 [rD (dK x),rD (dK p),rD (dK y),rD (dK q),rD (dK m)] (rD (dK (wrap .u16 (zQP (x*p+y*q) m)))):=
 wc zGE aL Tryz.func265 (let a:=aG (dG x p+dG y q);bF (bF (oU (aY (vN 228 (dG x p+dG y q) (bX m) (iS (zQP a (aG m)))) (fU (oS a m) (fH (zQP (x*p+y*q) m))))))) λhwf=>by
  delta eS aE aY nC fU fH bF aK aG bX aU iS dG vN oS oU;simp only [sS];simp only [RV.wfs,RV.wf,DV.wf,DV.wfs,uc] at hwf;have W:=ud;obtain ⟨⟨x0,x1⟩,⟨p0,p1⟩,⟨y0,y1⟩,⟨q0,q1⟩,⟨m0,m1⟩,_⟩:=hwf;have e1:=zQc x0 x1 p0 p1;have e2:=zQc y0 y1 q0 q1;rw [W x x0 (by omega),W p p0 (by omega),W y y0 (by omega),W q q0 (by omega),W m m0 (by omega),W (x*p) e1.1 (by omega),W (y*q) e2.1 (by omega),W (x*p+y*q) (by omega) (by omega)];exact ⟨zQD _ _,rfl⟩
def tT (a b:Int) (c:List RV):List RV:=RV.d (aB a)::RV.d (aE b)::c
def aKS (a:FuncId) (b c e f:Int):Prop:=Ans prog a (tT b c [RV.d (aE e),RV.d (aE f)]) (aMN b c e f)
def iT (a b c e:Int):List RV:=vV a b [RV.d (aE c),RV.d (aE e)]
def aCS (a:FuncId) (b:Int) (c:List RV) (e:RV):Prop:=Ans prog a (RV.d (aE b)::c) e
theorem uf:∀ x:Int,0<=x->x<=65535->wrap .u16 x=x:=λx x0 x1=>wQz x ⟨x0,by omega⟩
theorem zJZ (op a b m:Int) (hf:zQH m=true) (ho:isNm op=true) (h1:a<=m) (h3:b<=m):Ans prog 246 [rJ (op),rD (dK a),rD (dK b),rD (dK m)] (rD (dK (zXa op a b m))):=
 wc zGE aL Tryz.func246 (let c:=fH (zQP (fcA op a b m*a+fcB op a b m*b) m);True/\True/\True/\True/\qZ (aKS 264 op a b m) (aM (aCS 265 (fcA op a b m) (iT a (fcB op a b m) b m) (nC c)) (fU c (zXa op a b m)))) λhwf=>by
  delta eS aB aE aH aM aY nC fU fH nK vV tT aMN aKS iT aCS qZ;simp only [sS];simp only [RV.wfs,RV.wf,DV.wf,DV.wfs,uc] at hwf;have W:=ud;have U:=uf;have fbad:¬ (isNm op=true/\a<=m/\b<=m)->fcK op a b m=false/\fcA op a b m=0/\fcB op a b m=0:=λhn=>by
   have:fcK op a b m=false:=by
    cases e:fcK op a b m with
    | false=>rfl
    | true=>
     simp only [fcK,wQe,wQj] at e;exact absurd ⟨e.1,e.2.1,e.2.2⟩ hn
   exact ⟨this,by unfold fcA; rw [this]; rfl,by unfold fcB; rw [this]; rfl⟩
  have fgood:isNm op=true->a<=m->b<=m->fcK op a b m=true/\fcA op a b m=facA op a b m/\fcB op a b m=facB op a b m:=λh1 h2 h3=>by
   have:fcK op a b m=true:=by unfold fcK; rw [h1,decide_eq_true h2,decide_eq_true h3]; rfl
   exact ⟨this,by unfold fcA; rw [if_pos this],by unfold fcB; rw [if_pos this]⟩
  obtain ⟨_,⟨a0,a1⟩,⟨b0,b1⟩,⟨m0,m1⟩,_⟩:=hwf;have hm:=(zQO hf).1;obtain ⟨e1,e2,e3⟩:=fgood ho h1 h3;have fa:=zJp op a b m;rw [e1,e2,e3] at fa;rw [e1,e2,e3];have al:=zV3 (op:=op) hm a0 h1 b0 h3;have aS:=zZ4 (op:=op) (a:=a) (f:=m) (b:=b) (g:=m) hm a0 h1 (Int.le_refl _) b0 h3 (Int.le_refl _);have uu:=U (zXa op a b m) al (by omega);exact ⟨fa,zJl _ _ _ _ _,uu⟩
theorem zJY (op f g m:Int) (hf:zQH m=true) (ho:isNm op=true) (h1:f<=m) (h3:g<=m):Ans prog 247 [rJ (op),rD (dK f),rD (dK g),rD (dK m)] (rD (dK (zXc op f g m))):=
 wc zGE aL Tryz.func247 (let b:=zXc op f g m;let c:=fU 0 b;let d:=fH (zQP (f*g+(0:Int)*0) m);let e:=fH (zQP (m*f+fH (m-f)*g) m);let a:=zYt op 3;gK (kB 216 op (rT [rA (DV.str (zZW op)::aBA (zYt op 1) (zYt op 2) a),rD (DV.bool (mN op))])) (oU (bI (fL f m) (fQ (fL g m) (gV (bK m) c (mL a 1 (fU f b) (cS (a==1) (dC a 2 (fU g b)) (aEW a 2 (dN a 3 (jO (aCS 265 m (iT f (fH (m-f)) g m) (nC e)) (fU e b))) 3 4 (aM (aCS 265 f (iT g 0 0 m) (nC d)) (fU d b)) c)))) (aGB g m c)) (lB (decide (f>m)) false c)))) λhwf=>by
  delta eS aB bI aE aM bK dC nC dN fU uS fQ fL cS mG fH aEW bF kB gK qU gV lB mL vV mN iT oU aCS aGB jO aBA;simp only [sS];simp only [RV.wfs,RV.wf,DV.wf,DV.wfs,uc] at hwf;have W:=ud;have U:=uf;obtain ⟨_,⟨f0,f1⟩,⟨g0,g1⟩,⟨m0,m1⟩,_⟩:=hwf;have hm:=(zQO hf).1;have ho':=wQE ho;have sh:=zZ4 (op:=op) (a:=0) (f:=f) (b:=0) (g:=g) hm (Int.le_refl _) f0 h1 (Int.le_refl _) g0 h3;have s0:=zV3 (op:=op) (a:=0) (b:=0) hm (Int.le_refl _) (by omega) (Int.le_refl _) (by omega);have s1:0<=zXc op f g m/\zXc op f g m<=65535:=by omega
  have e:=yZd ho' f g m;rw [U (m-f) (by omega) (by omega),wZA,Int.add_zero,<- e];rw [<- e] at s1;unfold shpF at s1 |-;have uu:=λx (h:0<=x/\x<=65535)=>U x h.1 h.2;have os:=zJl m f (m-f) g m;have ot:=zJl f g 0 0 m;rw [wZA,Int.add_zero] at ot;refine ⟨zQg op,λ_=>⟨λ_=>⟨λh=>absurd (show m=0 by simpa using h) (by omega),λ_=>⟨λc=>?_,λc1=>⟨λc=>?_,λc2=>⟨λc=>?_,λc3=>⟨λc=>?_,λc4=>?_⟩⟩⟩⟩⟩,λh=>absurd h3 (by omega)⟩,λh=>absurd h1 (by omega)⟩
  ·rw [if_pos (by simpa using c)]
  ·rw [if_neg (by simpa using c1),if_pos (by simpa using c)]
  ·rw [if_neg (by simpa using c1),if_neg (by simpa using c2),if_pos (by simpa using c)] at s1 |-;exact ⟨os,uu _ s1⟩
  ·rw [if_neg (by simpa using c1),if_neg (by simpa using c2),if_neg (by simpa using c3),if_pos (by simpa using c)] at s1 |-;exact ⟨ot,uu _ s1⟩
  ·rw [if_neg (by simpa using c1),if_neg (by simpa using c2),if_neg (by simpa using c3),if_neg (by simpa using c4)]
theorem zZA (m:Int):Ans prog 274 [rD (dK m)] (rD (dQ (zQH m))):=
 wc zGE aL Tryz.func274 (True/\eH ((m==255)=false) (bE (m==65535) (zQH m)) (qU (m==255) (bE true (zQH m)))) λhwf=>by
  delta eS qU bE eH;simp only [sS];unfold zQH;grind
theorem zVm (a b c d e f:Int):Ans prog 277 [rD (dK a),rD (dK b),rD (dK c),rD (dK d),rD (dK e),rD (dK f)] (rD (DV.int .u64 (a*b+c*d+e*f))):=
 wc zGE aL Tryz.func277 (bF (kJ (vF (aG (dG a b+dG c d)+dG e f)=iS (a*b+c*d+e*f)))) λhwf=>by
  delta eS aH bF aK aG bX aU iS vF kJ dG;simp only [sS,zZA];simp only [RV.wfs,RV.wf,DV.wf,DV.wfs,uc] at hwf;have W:=ud;obtain ⟨⟨a0,a1⟩,⟨b0,b1⟩,⟨c0,c1⟩,⟨d0,d1⟩,⟨e0,e1⟩,⟨f0,f1⟩,_⟩:=hwf;have q1:=zQc a0 a1 b0 b1;have q2:=zQc c0 c1 d0 d1;have q3:=zQc e0 e1 f0 f1;rw [W a a0 (by omega),W b b0 (by omega),W c c0 (by omega),W d d0 (by omega),W e e0 (by omega),W f f0 (by omega),W (a*b) q1.1 (by omega),W (c*d) q2.1 (by omega),W (e*f) q3.1 (by omega),W (a*b+c*d) (by omega) (by omega),W (a*b+c*d+e*f) (by omega) (by omega)]
def qY (a:Nat) (b:Int) (c:Nat) (d:Int) (e:we):we:=aBH a b c (aE d) e
theorem jXW (op mode m s a d b:Int):Ans prog 262 [rJ (op),rJ (mode),rD (dK m),rD (dK s),rD (dK a),rD (dK d),rD (dK b)] (rT [rA [DV.int .u64 (hiW (vlE op mode m s a d b).p),DV.int .u64 (loW (vlE op mode m s a d b).p),DV.int .u64 ((vlE op mode m s a d b).q),DV.int .u64 ((vlE op mode m s a d b).r),DV.int .u64 ((vlE op mode m s a d b).d)],rD (dQ (vlK op mode m s a d b))]):=
 wc zGE (let c:=blE mode s a d b;let e:=c.p;xH (uj (vlK op mode m s a d b=true) (lY (qY 2 m 3 s (qY 5 d 6 b (fG 14 14 (qY 16 (fcA op a b m) 17 (fcB op a b m) (fG 19 19 []))))) 14 (aCN (aCN (aCN (aCN (aCN []))))) 19 (aKP (hiW e) (aX (aK (loW e)) (aK c.q) (aX (aK c.r) (aK c.d) []))) []) aL)) Tryz.func262 (let h:=vlK op mode m s a d b;let l:=vlE op mode m s a d b;let n:=vM l h;let e:=blE mode s a d b;let c:=e.d;let o:=e.r;let p:=e.q;let f:=fcA op a b m;let q:=aG f;let g:=fcB op a b m;let r:=aG g;let i:=aU (dG d m) c;let t:=e.p;let j:=loW t;let u:=aU (dG (fH (m-b)) s) c;let v:=fM (aG (u+j)) (aG f);let w:=addW v (fM i r);let x:=i*aG g;let y:=u+j;let z:=aG y*q;let A:=h=true;let B:=vM l h;let k:=zX 0 0 false;let C:=(∃ E:Unit,fP A (dE (aE m) (eS (aE s)) (pV (aE d) (eS (aE b)) (eS (0:Nat)) (eS (aE f)) (iR (aE g) (eS (0:Nat))))) (eS (gB 0 0 0 0 0)) (eS (gB (hiW t) j p o c)/\True));True/\True/\True/\True/\gK (aKS 264 op a b m) (sL (aN (tU 273 mode (iT s a d b) (aFN mode s a d b)) (True/\True/\True/\yA (fcK op a b m) (fQ (gC (blK mode s a d b)) (bI (rG m 255) (gK ((m !=65535)=true->True/\fR k B) ((m !=65535)=false->C)) (iW (m !=255) C)) (xZ (blK mode s a d b) (k=n))) (hZ (fcK op a b m) (cZ k B))/\(∀ D:Unit,A->True/\True/\True/\True/\True/\kJ (fZ (True/\True/\True/\vN 276 y (bX f) (rA (cA z))/\True/\True/\True/\vN 276 (dG d m*c) (bX g) (rA (cA x))/\aN (zT 275 z x v (fM i r)) (True/\True/\True/\True/\kJ (aFP (hiW w) (loW w) (aU q p) o (aU (aG (aG m*aG m)) c) true=n))))))))) λhwf=>by
  delta eS aB bI aE aH dE pV aN fQ fH fZ iR fP gK nK aK kG cA fR cZ lB aG bX gW gB aU gC gY oR qW zT kJ iW fM vV dG vN tT aMN aKS aFP hZ zX sL vM aFN iT tU yA xZ rG;simp only [sS,zZA];simp only [RV.wfs,RV.wf,DV.wf,DV.wfs,uc] at hwf;have W:=ud;have U:=uf;have fbad:¬ (isNm op=true/\a<=m/\b<=m)->fcK op a b m=false/\fcA op a b m=0/\fcB op a b m=0:=λhn=>by
   have:fcK op a b m=false:=by
    cases e:fcK op a b m with
    | false=>rfl
    | true=>
     simp only [fcK,wQe,wQj] at e;exact absurd ⟨e.1,e.2.1,e.2.2⟩ hn
   exact ⟨this,by unfold fcA; rw [this]; rfl,by unfold fcB; rw [this]; rfl⟩
  have fgood:isNm op=true->a<=m->b<=m->fcK op a b m=true/\fcA op a b m=facA op a b m/\fcB op a b m=facB op a b m:=λh1 h2 h3=>by
   have:fcK op a b m=true:=by unfold fcK; rw [h1,decide_eq_true h2,decide_eq_true h3]; rfl
   exact ⟨this,by unfold fcA; rw [if_pos this],by unfold fcB; rw [if_pos this]⟩
  obtain ⟨_,_,⟨m0,m1⟩,⟨s0,s1⟩,⟨a0,a1⟩,⟨d0,d1⟩,⟨b0,b1⟩,_⟩:=hwf;have FA:=zJp op a b m;have BE:=zVZ mode s a d b;have k0:vlK op mode m s a d b=(blK mode s a d b&&(fcK op a b m&&zQH m)):=rfl;have no:vlK op mode m s a d b=false->(0=hiW (vlE op mode m s a d b).p/\0=loW (vlE op mode m s a d b).p/\0=(vlE op mode m s a d b).q/\0=(vlE op mode m s a d b).r/\0=(vlE op mode m s a d b).d)/\false=vlK op mode m s a d b:=λh=>by
   have:vlE op mode m s a d b=.zero:=by unfold vlE; rw [h]; rfl
   rw [this,h];exact ⟨⟨rfl,rfl,rfl,rfl,rfl⟩,rfl⟩
  refine ⟨FA,BE,⟨λkf=>⟨λkb=>⟨λq1=>⟨λq2=>?_,λq2=>⟨(),?_⟩⟩,λq1=>⟨(),?_⟩⟩,λkb=>?_⟩,λkf=>?_⟩,λk=>?_⟩
  ·refine no ?_
   have km:zQH m=false:=wXg (by
    have q1:=wQP.1 q1;have q2:=wQP.1 q2
    omega)
   rw [k0,km,wXF,wXF]
  ·have q2:=wZm.1 q2;rw [k0,kb,kf,show zQH m=true from decide_eq_true (.inr q2)]; rfl
  ·have q1:=wZm.1 q1;rw [k0,kb,kf,show zQH m=true from decide_eq_true (.inl q1)]; rfl
  ·exact no (by rw [k0,kb]; rfl)
  ·exact no (by rw [k0,kf,wX1,wXF])
  have k':=k;rw [k0] at k';simp only [wQe] at k';obtain ⟨kb,kf,km⟩:=k';have ve:vlE op mode m s a d b=valS op mode m s a d b:=by unfold vlE; rw [if_pos k]
  have be:blE mode s a d b=zQd mode s a d b:=by unfold blE; rw [if_pos kb]
  simp only [blK,wQe,wQj] at kb;simp only [fcK,wQe,wQj] at kf;obtain ⟨kb1,kb2,kb3⟩:=kb;obtain ⟨kf1,kf2,kf3⟩:=kf;obtain ⟨e1,e2,e3⟩:=fgood kf1 kf2 kf3;obtain ⟨ok,t1,t2,t3,t4⟩:=zYX (mode:=mode) s0 kb2 d0 kb3 a1 b1;have tu:=(zZy (mode:=mode) s0 kb2 d0 kb3).p;have ⟨⟨f0,f1⟩,f2,f3⟩:=jQS (op:=op) a0 kf2 b0 kf3;have tp:=ok.p;have tq:=ok.q;have td:=ok.d;rw [k,ve,be,e2,e3];have vS:valS op mode m s a d b=⟨(zQd mode s a d b).p*facA op a b m+(m-b)*s*facA op a b m*(zQd mode s a d b).d+facB op a b m*d*m*(zQd mode s a d b).d,facA op a b m*(zQd mode s a d b).q,(zQd mode s a d b).r,m*m*(zQd mode s a d b).d⟩:=rfl;rw [vS];clear vS ve be e1 e2 e3 fbad fgood k0 no FA BE k kb1 kf1 km;generalize facA op a b m=A at *;generalize facB op a b m=F at *;generalize (zQd mode s a d b).p=p at *;generalize (zQd mode s a d b).q=q at *;generalize (zQd mode s a d b).r=r at *;generalize (zQd mode s a d b).d=e at *;simp only at *;have q1:=zQc (x:=m-b) (y:=s) (A:=65535) (B:=65535) (by omega) (by omega) s0 s1;have qz:(m-b)*s+a*b<=4294836225:=by
   have z1:=Int.mul_le_mul_of_nonneg_left kb2 (show 0<=m-b by omega);have z2:=zQc a0 a1 m0 m1;have z3:(m-b)*a+a*b=a*m:=by grind
   omega
  have qe:((m-b)*s+a*b)*e<=4294836225*4294836225:=by
   have z1:=zQc a0 a1 b0 b1;exact (zQc (x:=(m-b)*s+a*b) (y:=e) (A:=4294836225) (B:=4294836225) (by omega) qz (by omega) t1).2
  have qd:((m-b)*s+a*b)*e=(m-b)*s*e+a*b*e:=by grind
  have q2:=zQc (x:=(m-b)*s) (y:=e) (A:=4294836225) (B:=4294836225) q1.1 (by omega) (by omega) t1;have q3:=zQc d0 d1 m0 m1;have q4:=zQc (x:=d*m) (y:=e) (A:=4294836225) (B:=4294836225) q3.1 (by omega) (by omega) t1;have q5:=zQc (x:=(m-b)*s*e+p) (y:=A) (A:=18446744073709551615) (B:=65535) (by omega) (by omega) f0 (by omega);have q6:=zQc (x:=d*m*e) (y:=F) (A:=18446744073709551615) (B:=65535) q4.1 (by omega) f2 (by omega);have q8:=zQc (x:=A) (y:=q) (A:=65535) (B:=65535) f0 (by omega) tq t3;have q9:=zQc (x:=m) (y:=m) (A:=65535) (B:=65535) m0 m1 m0 m1;have q10:=zQc (x:=m*m) (y:=e) (A:=4294836225) (B:=4294836225) q9.1 (by omega) (by omega) t1;have lp:loW p=p:=zXW tp (by omega);have ad:∀ x y:Int,x+y<340282366920938463463374607431768211456->addW x y=x+y:=λx y h=>by unfold addW; rw [if_pos h]
  simp only [lp,U (m-b) (by omega) (by omega),W (m-b) (by omega) (by omega),W s s0 (by omega),W A f0 (by omega),W F f2 (by omega),W d d0 (by omega),W m m0 (by omega),W ((m-b)*s) q1.1 (by omega),W ((m-b)*s*e) q2.1 (by omega),W ((m-b)*s*e+p) (by omega) (by omega),W (d*m) q3.1 (by omega),W (d*m*e) q4.1 (by omega),W (A*q) q8.1 (by omega),W (m*m) q9.1 (by omega),W (m*m*e) q10.1 (by omega)];have AD:=zXf (hiW (((m-b)*s*e+p)*A)) (loW (((m-b)*s*e+p)*A)) (hiW (d*m*e*F)) (loW (d*m*e*F));refine ⟨zQW _ _,zQW _ _,AD,?_⟩;simp only [zZV];rw [ad _ _ (by omega),show ((m-b)*s*e+p)*A+d*m*e*F=p*A+(m-b)*s*A*e+F*d*m*e by grind]
  (repeat' (first | exact trivial | rfl | apply And.intro))
theorem zK1 (op mode m s a d b:Int) (hf:zQH m=true) (ho:isNm op=true) (hm:isNm mode=true) (h1:s<=a) (h2:a<=m) (h3:d<=b) (h4:b<=m):Ans prog 245 [rJ (op),rJ (mode),rD (dK m),rD (dK s),rD (dK a),rD (dK d),rD (dK b)] (rT [rD (dK (colS op mode m s a d b)),rD (dQ true)]):=
 wc zGE aL Tryz.func245 (let i:=fK (colS op mode m s a d b);let c:=vlE op mode m s a d b;let e:=c.d;let f:=c.r;let g:=c.q;let j:=gY c.p;let k:=c.p;let h:=vlK op mode m s a d b;oU (cQ (tU 262 op (tT mode m (iT s a d b)) (vM c h)) (vE (gX h) gF i (gC h->qZ (oT 263 (gB (hiW k) (loW k) g f e) (oO (sG j g f e))) (fK (fH (sG j g f e))=i))))) λhwf=>by
  delta eS aB bI aE aH aM aY cQ gF fH bF aK kG gB lG oN oO gX sG oT vE fK gC gY vV tT aFP vM iT oU tU qZ;simp only [sS,zZA];simp only [RV.wfs,RV.wf,DV.wf,DV.wfs,uc] at hwf;have W:=ud;have U:=uf;obtain ⟨_,_,⟨m0,m1⟩,⟨s0,s1⟩,⟨a0,a1⟩,⟨d0,d1⟩,⟨b0,b1⟩,_⟩:=hwf;have hM:=(zQO hf).1;have kb:blK mode s a d b=true:=by unfold blK; rw [hm,decide_eq_true h1,decide_eq_true h3]; rfl
  have kf:fcK op a b m=true:=by unfold fcK; rw [ho,decide_eq_true h2,decide_eq_true h4]; rfl
  have k:vlK op mode m s a d b=true:=by unfold vlK; rw [kb,kf,hf]; rfl
  have ve:vlE op mode m s a d b=valS op mode m s a d b:=by unfold vlE; rw [if_pos k]
  have va:=jXW op mode m s a d b;rw [k,ve] at va;rw [k,ve];obtain ⟨ok,l1,l2⟩:=zHF (op:=op) (mode:=mode) hM s0 h1 h2 d0 h3 h4;obtain ⟨bk,t1,t2,t3,t4⟩:=zYX (mode:=mode) s0 h1 d0 h3 a1 b1;have ⟨⟨f0,f1⟩,f2,f3⟩:=jQS (op:=op) a0 h2 b0 h4;have ⟨c0,c1⟩:=jQX (op:=op) (mode:=mode) hM s0 h1 h2 d0 h3 h4;have aS:=zZ4 (op:=op) (a:=a) (f:=m) (b:=b) (g:=m) hM a0 h2 (Int.le_refl _) b0 h4 (Int.le_refl _);have hq:(valS op mode m s a d b).q=facA op a b m*(zQd mode s a d b).q:=rfl;have hr:(valS op mode m s a d b).r=(zQd mode s a d b).r:=rfl;have hh:(valS op mode m s a d b).half=colS op mode m s a d b:=rfl;have hfl:=Ex.half_floor ok;have n1:=zQc f0 (show facA op a b m<=65535 by omega) bk.q t3;have g1:=zQc f0 (show facA op a b m<=65535 by omega) a0 a1;have g2:=zQc f2 (show facB op a b m<=65535 by omega) b0 b1;have g3:=zQc (x:=(zQd mode s a d b).d) (y:=m) (A:=4294836225) (B:=65535) (by have:=bk.d; omega) t1 m0 m1;have g4:=zQc (x:=(zQd mode s a d b).d*m) (y:=facA op a b m*a+facB op a b m*b) (A:=281462092005375) (B:=8589672450) g3.1 (by omega) (by omega) (by omega);have eta:(⟨wV (hiW (valS op mode m s a d b).p) (loW (valS op mode m s a d b).p),(valS op mode m s a d b).q,(valS op mode m s a d b).r,(valS op mode m s a d b).d⟩:Ex)=valS op mode m s a d b:=by rw [zZV]
  have ha:=zUm (hiW (valS op mode m s a d b).p) (loW (valS op mode m s a d b).p) (valS op mode m s a d b).q (valS op mode m s a d b).r (valS op mode m s a d b).d (by unfold hiW; omega) (by rw [hq]; omega) (by rw [hr]; omega) (by have:=ok.d; omega) (by rw [eta]; rw [hh] at hfl; split at hfl<;>omega);refine ⟨va,λh=>(by cases h),λ_=>⟨ha,?_⟩⟩;rw [eta,hh];exact U _ c0 (by omega)
def qB (a b:Int) (c:Prop):Prop:=mE (decide (a>b)) c
theorem zYB (mode m s a f c d b:Int) (hf:zQH m=true) (hm:isNm mode=true) (h1:s<=a) (h2:a<=f) (h3:f<=m) (h4:d<=b) (h5:b<=m) (h6:c<=m):Ans prog 259 [rJ (mode),rD (dK m),rD (dK s),rD (dK a),rD (dK f),rD (dK c),rD (dK d),rD (dK b)] (rT [rD (dK (knoC mode m s a f c d b)),rD (dQ true)]):=
 wc zGE (let e:=blE mode s a d b;let g:=e.p;jA (uj True (qP (wY 1 m (qY 2 s 3 a (qY 4 f 5 c (qY 6 d 7 b (fG 18 18 []))))) 18 (aKP (hiW g) (aX (aK (loW g)) (aK e.q) (aX (aK e.r) (aK e.d) []))) []) aL)) Tryz.func259 (let i:=fK (knoC mode m s a f c d b);let g:=blE mode s a d b;let e:=g.d;let n:=aU (aG m) e;let j:=g.r;let k:=g.q;let p:=g.p;let q:=gY p;let h:=fH (m-f)*c+fH (f-a)*d+fH (m-b)*s;let r:=fM h e;let o:=addW r q;let t:=gY o;let l:=oN gF=i;let u:=g.p;oU (aN (tU 273 mode (iT s a d b) (aFN mode s a d b)) (True/\True/\True/\(True/\True/\True/\bP (gC (blK mode s a d b)) (aBC 274 (aE m) (zQH m)) (bI (gC (zQH m)) (jF (fL a f) (fL f m) (sM b m (bI (jY c m) l (fL c m->(∃ w:Unit,True/\pV (aE m) (eS (aE s)) (eS (aE a)) (eS (aE f)) (fV (aE c) (aE d) (eS (aE b)) (eS (0:Nat)))/\eS (gB (hiW u) (loW u) k j e)/\True))) (qB b m (fR (oN gF) i))) (qB f m (cZ (oN gF) i)) (qB a f (bL l))) (lF (zQH m) (aH l)))/\lF (blK mode s a d b) (aCB l))/\(∀ v:Unit,True->True/\True/\True/\True/\aH (Ans prog 277 (vV (fH (m-f)) c (iT (fH (f-a)) d (fH (m-b)) s)) (iS h)/\True/\True/\vJ 276 h e (sI h e)/\cQ (zT 275 (h*e) p r q) (qZ (eS true) (qZ (oT 263 (gB (hiW o) (loW o) k j n) (oO (sG t k j n))) (fK (fH (sG t k j n))=i)))))))) λhwf=>by
  delta eS aB bI aE aF aH aM aY cQ gF pV aN iO mE bP fV jY fL aCB fH bF bL aK kG cA fR cZ aG gB aU lG lF oN oO sG oT iS fK gC gY oR qW zT vJ sI jF fM vV aFP sM vM aFN iT oU tU qB aBC qZ;simp only [sS,zZA];simp only [RV.wfs,RV.wf,DV.wf,DV.wfs,uc] at hwf;have W:=ud;have U:=uf;obtain ⟨_,⟨m0,m1⟩,⟨s0,s1⟩,⟨a0,a1⟩,⟨f0,f1⟩,⟨c0,c1⟩,⟨d0,d1⟩,⟨b0,b1⟩,_⟩:=hwf;have hM:=(zQO hf).1;have kb:blK mode s a d b=true:=by unfold blK; rw [hm,decide_eq_true h1,decide_eq_true h4]; rfl
  have be:blE mode s a d b=zQd mode s a d b:=by unfold blE; rw [if_pos kb]
  have bl:=zVZ mode s a d b;rw [kb,be] at bl;rw [kb,be];obtain ⟨ok,l1,l2⟩:=jQv (mode:=mode) hM s0 h1 h2 h3 d0 h4 h5 c0 h6;obtain ⟨bk,t1,t2,t3,t4⟩:=zYX (mode:=mode) s0 h1 d0 h4 a1 b1;have ⟨k0,k1⟩:=zGw (mode:=mode) (A:=m) hM s0 h1 h2 h3 d0 h4 h5 c0 h6;have ka:=zGx (acc:=m) (b:=b) hM a0 h2 h3 m0 (Int.le_refl _) b0 h5;have hh:(knoX mode m s a f c d b).half=knoC mode m s a f c d b:=rfl;have hfl:=Ex.half_floor ok;rw [hh] at hfl;have td:=bk.d;have tp:=bk.p;have q1:=zQc (x:=m-f) (y:=c) (A:=65535) (B:=65535) (by omega) (by omega) c0 c1;have q2:=zQc (x:=f-a) (y:=d) (A:=65535) (B:=65535) (by omega) (by omega) d0 d1;have q3:=zQc (x:=m-b) (y:=s) (A:=65535) (B:=65535) (by omega) (by omega) s0 s1;have q4:=zQc (x:=(m-f)*c+(f-a)*d+(m-b)*s) (y:=(zQd mode s a d b).d) (A:=12884508675) (B:=4294836225) (by omega) (by omega) (by omega) t1;have q5:=zQc (x:=m) (y:=(zQd mode s a d b).d) (A:=65535) (B:=4294836225) m0 m1 (by omega) t1;simp only [W m m0 (by omega),U (m-f) (by omega) (by omega),U (f-a) (by omega) (by omega),U (m-b) (by omega) (by omega),W (m*(zQd mode s a d b).d) q5.1 (by omega),zZV];have kx:knoX mode m s a f c d b=⟨(zQd mode s a d b).p+((m-f)*c+(f-a)*d+(m-b)*s)*(zQd mode s a d b).d,(zQd mode s a d b).q,(zQd mode s a d b).r,m*(zQd mode s a d b).d⟩:=rfl;have ae:addW (((m-f)*c+(f-a)*d+(m-b)*s)*(zQd mode s a d b).d) (zQd mode s a d b).p=(zQd mode s a d b).p+((m-f)*c+(f-a)*d+(m-b)*s)*(zQd mode s a d b).d:=by unfold addW; rw [if_pos (by omega),wXA]
  have mu:=zQW ((m-f)*c+(f-a)*d+(m-b)*s) (zQd mode s a d b).d;have ad:=zXf (hiW (((m-f)*c+(f-a)*d+(m-b)*s)*(zQd mode s a d b).d)) (loW (((m-f)*c+(f-a)*d+(m-b)*s)*(zQd mode s a d b).d)) (hiW (zQd mode s a d b).p) (loW (zQd mode s a d b).p);have ha:=zUm (hiW (knoX mode m s a f c d b).p) (loW (knoX mode m s a f c d b).p) (knoX mode m s a f c d b).q (knoX mode m s a f c d b).r (knoX mode m s a f c d b).d (by rw [kx]; unfold hiW; simp only; omega) (by rw [kx]; simp only; omega) (by rw [kx]; simp only; omega) (by have:=ok.d; omega) (by rw [zZV]; change (knoX mode m s a f c d b).floor<_; split at hfl<;>omega);rw [zZV] at ha;change Ans _ _ _ (RV.tup [RV.d (DV.int .u64 (knoX mode m s a f c d b).half),_]) at ha;rw [hh,kx] at ha;simp only [zZV,ae] at ad |-;have hh2:(⟨(zQd mode s a d b).p+((m-f)*c+(f-a)*d+(m-b)*s)*(zQd mode s a d b).d,(zQd mode s a d b).q,(zQd mode s a d b).r,m*(zQd mode s a d b).d⟩:Ex).half=knoC mode m s a f c d b:=hh;simp only [hh2];have uk:wrap .u16 (knoC mode m s a f c d b)=knoC mode m s a f c d b:=U _ k0 (by omega);have SU:=zVm (m-f) c (f-a) d (m-b) s;refine ⟨bl,⟨λ_=>⟨λ_=>⟨λ_=>⟨λ_=>⟨λ_=>⟨λh=>absurd h6 (by omega),λ_=>⟨(),trivial⟩⟩,λh=>absurd h5 (by omega)⟩,λh=>absurd h3 (by omega)⟩,λh=>absurd h2 (by omega)⟩,λh=>(by rw [hf] at h; cases h)⟩,λh=>(by cases h)⟩,SU,mu,ad,ha,uk⟩
theorem zJ1 (m a f acc b:Int) (hf:zQH m=true) (h1:a<=f) (h2:f<=m) (h4:acc<=m) (h5:b<=m):Ans prog 260 [rD (dK m),rD (dK a),rD (dK f),rD (dK acc),rD (dK b)] (rT [rD (dK (knoA m a f acc b)),rD (dQ true)]):=
 wc zGE aL Tryz.func260 (let c:=fK (knoA m a f acc b);let e:=oN gF=c;let d:=fH (m-f)*acc+fH (f-a)*b+m*a;bF (aFR (aBC 274 (aE m) (zQH m)) (zQH m) (jF (fL a f) (fL f m) (sM acc m (bI (jY b m) e (iO b m (aH (aY (Ans prog 277 (vV (fH (m-f)) acc (iT (fH (f-a)) b m a)) (iS d)) (aN (Ans prog 228 [rD (aK d),rD (bX m)] (iS (zQP d (aG m)))) (fK (oS d m)=c)))))) (qB acc m (fR (oN gF) c))) (qB f m (cZ (oN gF) c)) (qB a f (bL e))) (lF (zQH m) (aH e)))) λhwf=>by
  delta eS bI aE aH aY gF aN iO mE jY fL fH bF bL aK fR cZ aG bX lG lF oN iS fK gC jF vV oS oV sM aFR iT qB aBC;simp only [sS,zZA];simp only [RV.wfs,RV.wf,DV.wf,DV.wfs,uc] at hwf;have W:=ud;have U:=uf;obtain ⟨⟨m0,m1⟩,⟨a0,a1⟩,⟨f0,f1⟩,⟨c0,c1⟩,⟨b0,b1⟩,_⟩:=hwf;have hM:=(zQO hf).1;have ka:=zGx (acc:=acc) (b:=b) hM a0 h1 h2 c0 h4 b0 h5;have q1:=zQc (x:=m-f) (y:=acc) (A:=65535) (B:=65535) (by omega) (by omega) c0 c1;have q2:=zQc (x:=f-a) (y:=b) (A:=65535) (B:=65535) (by omega) (by omega) b0 b1;have q3:=zQc (x:=m) (y:=a) (A:=65535) (B:=65535) m0 m1 a0 a1;have SU:=zVm (m-f) acc (f-a) b m a;have HA:=zQD ((m-f)*acc+(f-a)*b+m*a) m;have uk:wrap .u16 (zQP ((m-f)*acc+(f-a)*b+m*a) m)=knoA m a f acc b:=U _ ka.1 (by unfold knoA at ka; omega);simp only [W m m0 (by omega),U (m-f) (by omega) (by omega),U (f-a) (by omega) (by omega)];refine ⟨λ_=>⟨λ_=>⟨λ_=>⟨λ_=>⟨λh=>absurd h5 (by omega),λ_=>⟨SU,HA,uk⟩⟩,λh=>absurd h4 (by omega)⟩,λh=>absurd h2 (by omega)⟩,λh=>absurd h1 (by omega)⟩,λh=>(by rw [hf] at h; cases h)⟩
theorem zHp (m a f own:Int) (hf:zQH m=true) (h1:a<=f) (h2:f<=m) (h4:own<=m):Ans prog 261 [rD (dK m),rD (dK a),rD (dK f),rD (dK own)] (rT [rD (dK (knoA m a f own 0)),rD (dQ true)]):=
 wc zGE aL Tryz.func261 (let b:=knoA m a f own 0;bF (bH (aCS 260 m (iT a f own 0) (fK b)) (eS (fK b)))) λhwf=>by
  delta eS aE bH bF lG fK vV iT aCS;simp only [sS,zZA];simp only [RV.wfs,RV.wf,DV.wf,DV.wfs,uc] at hwf;exact zJ1 _ _ _ _ _ hf h1 h2 h4 (by omega)
end
end Go.Proofs.YtbnmadpcdlnleaaGreatDoor
