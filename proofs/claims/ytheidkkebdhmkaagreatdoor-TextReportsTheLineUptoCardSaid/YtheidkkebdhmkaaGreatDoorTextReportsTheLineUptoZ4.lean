/-
  Part 4 of what TextReportsTheLineUpto rests on.
-/
import Derived.Test.YtheidkkebdhmkaaGreatDoorTextReportsTheLineUptoZ3
import Derived.Test.YtheidkkebdhmkaaGreatDoorTextReportsTheLineUptoZ2
import Derived.Tactics
import Derived.Tactics2
import Derived.Defers
import Derived.Recover
import Derived.WalkSmall
import Derived.Laws.Pointers
import Derived.Shelf.Strings.Builder1
import Derived.Shelf.Strconv.Atoi
import Derived.Shelf.Strconv.Itoa0
import Derived.Shelf.Strconv.Itoa1
import Derived.Shelf.LaysM
import Derived.Shelf.Strconv.Itoa2
import Derived.Shelf.Strconv.Itoa3
import Derived.Shelf.Strconv.AtoiErrFast
import Derived.Shelf.Strconv.ParseIntEmpty
import Derived.Shelf.Strconv.AtoiFail
import Derived.Shelf.Strconv.Clone
import Derived.Shelf.Strconv.SyntaxError
import Derived.Shelf.LaysC
import Derived.Shelf.Strconv.ToError
import Derived.Shelf.Strconv.Lower
import Derived.Shelf.Strconv.ParseUint10
import Derived.Shelf.Strconv.ParseUint10Empty
import Derived.Shelf.Strconv.ParseUint10Any
import Derived.Shelf.Strconv.ParseInt10
import Derived.Shelf.Strconv.AtoiLong
import Derived.Shelf.Strconv.AtoiInnerAll
import Derived.Shelf.Strconv.RangeError
import Derived.Shelf.Strconv.ToErrorRange
import Derived.Shelf.Strconv.AtoiAll
import Derived.Shelf.Strconv.ErrVarAll
import Derived.Shelf.Strings.Search1
import Derived.Shelf.Strings.Search2
import Derived.Shelf.Strings.Search3
import Derived.Shelf.Strings.Cut
import Derived.Shelf.Strings.Count
import Derived.Shelf.Strings.Shaped
import Derived.Shelf.Strings.Prefix
import Derived.Shelf.Strings.Split
import Derived.Shelf.Strings.SplitShaped
import Derived.Shelf.Unicode.DecodeSlow
import Derived.Test.YtheidkkebdhmkaaGreatDoorProg
import Derived.Lib.ItoaMem
import Derived.Lib.Walk
import Derived.BigCall
import Derived.BigGuard
namespace Go.Proofs.YtheidkkebdhmkaaGreatDoor
open Go.RowKit
set_option linter.unusedVariables false
set_option linter.unusedSimpArgs false
set_option maxRecDepth 20000
open Go.Proofs.Tryz (prog)
section
attribute [local irreducible] Ans AnsO AnsG AnsN AnsI
def zXq (s:Scr) (l:List Im):Int:=34+4*min (s.ord.length:Int) 67108864+24*(s.ops.length:Int)+zQ0 l
def lenR (s:Scr):Int:=if zXq s s.ims≤67108864 then zXq s s.ims else -1
theorem jZw {m:Im} (h:m.formed=true):1≤m.w∧m.w≤16777216:=by
 have h1:zQY m.w m.h=true:=by unfold Im.formed at h; exact (Bool.and_eq_true_iff.1 h).1
 simp only [zQY,Bool.and_eq_true,decide_eq_true_eq] at h1
 have:m.w*1≤m.w*m.h:=Int.mul_le_mul_of_nonneg_left (by omega) (by omega)
 omega
theorem zG4 {l:List Im} {k:Nat} (h:l.all Im.formed=true):zQ0 (l.take k)≤zQ0 l:=by
 have h1:=zKh (l.take k) (l.drop k)
 rw [List.take_append_drop] at h1
 have h2:(l.drop k).all Im.formed=true:=by
  rw [List.all_eq_true] at h ⊢
  exact fun m hm=>h m (List.mem_of_mem_drop hm)
 have:=zXE h2
 omega
def jVq:Gam where
 pure:=fun f xs=>
  if f=66 then gZ9 xs else
  if f=87 then gZ20 xs else
  if f=88 then (match xs with | [.d (.int _ size),.d (.bool sg),.d (.sl n xs)]=>some (RV.d (dQ ((ints xs).all (fitR size sg)))) | _=>none) else
  if f=89 then (match xs with | [.agg [.int _ bits,.int _ cx0,.int _ cy0,.int _ cx1,.int _ cy1,.int _ tw,.int _ th,.sl on oxs,.sl mn mxs,.sl pn pxs]]=>some (rJ (lenR (⟨bits,⟨cx0,cy0,cx1,cy1⟩,tw,th,ints oxs,zYu mxs,zZ8 pxs⟩:Scr))) | _=>none) else
  none
 modes:=fun f=>
  none
 proc:=fun f xs bs=>
  none
 iter:=fun f cs=>
  none
theorem zUi (s:Scr) (hF:s.ims.all Im.formed=true) (ho:s.ops.length≤4096) (hil0:s.ims.length≤9223372036854775807):Ans prog 89 [RV.agg [dJ s.bits,dJ s.c.a,dJ s.c.b,dJ s.c.c,dJ s.c.d,dJ s.tw,dJ s.th,dS s.ord.length (is s.ord),dS s.ims.length (ims s.ims),dS s.ops.length (ops s.ops)]] (rJ ((lenR s))):=
 zQj (Γ:=jVq) (Ann.seq Ann.leaf (Ann.seq Ann.leaf (Ann.seq (Ann.seq Ann.leaf (Ann.loop ⟨Nat,fun k=>k≤s.ims.length∧zQ0 (s.ims.take k)≤67108864,fun k=>⟨[(1,AV.one (Cl.ptr 1 0)),(3,aJ (zXq s (s.ims.take k))),(4,aJ (k:Int))],[(1,bC [cJ s.bits,cJ s.c.a,cJ s.c.b,cJ s.c.c,cJ s.c.d,cJ s.tw,cJ s.th,Cl.d (dS s.ord.length (is s.ord)),Cl.d (dS s.ims.length (ims s.ims)),Cl.d (dS s.ops.length (ops s.ops))])]⟩,fun k=>s.ims.length - k⟩ fun k=>Ann.leaf)) Ann.leaf))) zQy Tryz.func89 rfl (Nat.le_of_ble_eq_true rfl) fun hwf=>by
  refine Eq.mpr (by kernel_rfl:_=(let c:=(s.ims.length:Int); let d:=fun (k:Nat)=>(k≤s.ims.length∧zQ0 (s.ims.take k)≤67108864); let e:=[dJ s.bits,dJ s.c.a,dJ s.c.b,dJ s.c.c,dJ s.c.d,dJ s.tw,dJ s.th,dS s.ord.length (is s.ord),dS s.ims.length (ims s.ims),dS s.ops.length (ops s.ops)]; let a:=((e=e)∧True); let b:=fun (k:Nat)=>(wK ((zXq s (s.ims.take k))+19)); let f:=fun (k':Nat)=>(k'≤s.ims.length∧zQ0 (s.ims.take k')≤67108864); let g:=fun (k:Nat)=>fun (k':Nat)=>(s.ims.length - k' < s.ims.length - k); let h:=fun (k:Nat)=>fun (k':Nat)=>(dJ (wK ((k:Int)+1))=dJ (k':Int)); tU7 (tU8 ((∃ k:Nat,(d k)∧(((0=0)∧(dJ (wK ((wK ((34:Int)+(wK ((4:Int)*(min (s.ord.length:Int) (67108864:Int))))))+(wK ((24:Int)*(s.ops.length:Int)))))=dJ (zXq s (s.ims.take k)))∧(dJ 0=dJ (k:Int))∧True)∧a))∧∀ k:Nat,let i:=(decide ((b k) > 67108864)); let j:=(decide ((k:Int) < c)); let l:=(!(bAt (ims s.ims) ((k:Int).toNat*28+1+1))); let m:=(zXq s (s.ims.take k)); let n:=(decide (m > 67108864)); let o:=(wK ((b k)+(wK ((wK ((wK ((10:Int)*(nAt (ims s.ims) ((k:Int).toNat*28))))*(nAt (ims s.ims) ((k:Int).toNat*28+1)))) - 10)))); let p:=(decide (o > 67108864)); (d k)→tU5 ((j=true→tU3 ((0≤(k:Int)∧(k:Int) < c∧(k:Int).toNat*28 < (ims s.ims).length)∧(imQr (ims s.ims) ((k:Int).toNat*28))∧tU8 ((l=true→tU4 (tU8 ((p=true→True∧rJ (-1:Int)=rJ (lenR s))∧(p=false→tU3 (∃ k':Nat,(f k')∧(g k k')∧(((0=0)∧(dJ o=dJ (zXq s (s.ims.take k')))∧(h k k')∧True)∧a))))))∧(l=false→tU2 ((i=true→True∧rJ (-1:Int)=rJ (lenR s))∧(i=false→tU3 (∃ k':Nat,(f k')∧(g k k')∧(((0=0)∧(dJ (b k)=dJ (zXq s (s.ims.take k')))∧(h k k')∧True)∧a))))))))∧(j=false→tU2 ((n=true→True∧rJ (-1:Int)=rJ (lenR s))∧(n=false→tU2 (rJ m=rJ (lenR s)))))))))) ?_
  delta tU2 tU3 tU4 tU5 tU7 tU8 dJ wK dS rJ
  simp only [sS,imQr]
  clear hwf
  have w0:∀ n:Int,-1000000000000000≤n→n≤1000000000000000→IntKind.wrap .i64 n=n:=fun n a b=>IntWalk.i64_in _ ⟨by omega,by omega⟩
  have hmn:0≤min (s.ord.length:Int) 67108864∧min (s.ord.length:Int) 67108864≤67108864:=by omega
  have hzl:=zXE hF
  have hdr:=fun k=>@zG4 s.ims k hF
  have hs0:IntKind.wrap .i64 (IntKind.wrap .i64 (34+IntKind.wrap .i64 (4*min (s.ord.length:Int) 67108864))+IntKind.wrap .i64 (24*(s.ops.length:Int)))=zXq s []:=by
   unfold zXq
   generalize min (s.ord.length:Int) 67108864=M at *
   rw [w0 (4*M) (by omega) (by omega),w0 (34+4*M) (by omega) (by omega),w0 (24*(s.ops.length:Int)) (by omega) (by omega),w0 _ (by omega) (by omega)]
   simp [zQ0]
  have hbad:∀ k,67108864 < zXq s (s.ims.take k) → -1=lenR s:=fun k h=>by
   have:=hdr k
   unfold lenR
   rw [if_neg (by unfold zXq at h ⊢; omega)]
  refine ⟨⟨0,⟨Nat.zero_le _,by simp [zQ0]⟩,by rw [hs0]; rfl,rfl⟩,fun k hk=>⟨fun hlt=>?_,fun hge=>?_⟩⟩
  ·obtain ⟨hk1,hk2⟩:=hk
   have hk:k < s.ims.length:=by omega
   have q1:=zUO hk
   have q2:=zUP hk
   have hil:(k:Int) < 9223372036854775807:=by omega
   have w1:IntKind.wrap .i64 ((k:Int)+1)=((k+1:Nat):Int):=by rw [IntWalk.i64_in _ ⟨by omega,by omega⟩]; omega
   simp only [q2,w1]
   have hm:s.ims[k].formed=true:=by rw [List.all_eq_true] at hF; exact hF _ (List.getElem_mem hk)
   have hz:=zV9 hm
   have hw:=jZw hm
   have hz2:zXq s (s.ims.take (k+1))=zXq s (s.ims.take k)+zXm s.ims[k]:=by simp only [zXq,zVs hk]; omega
   have hz3:0≤zXq s (s.ims.take k)∧zXq s (s.ims.take k)≤400000000000:=by
    have h1:(s.ims.take k).all Im.formed=true:=by
     rw [List.all_eq_true] at hF ⊢
     exact fun m hm=>hF m (List.mem_of_mem_take hm)
    have:=zXE h1
    simp only [zXq]; omega
   have e1:IntKind.wrap .i64 (zXq s (s.ims.take k)+19)=zXq s (s.ims.take k)+19:=w0 _ (by omega) (by omega)
   have e2:IntKind.wrap .i64 (IntKind.wrap .i64 (zXq s (s.ims.take k)+19)+IntKind.wrap .i64 (IntKind.wrap .i64 (IntKind.wrap .i64 (10*s.ims[k].w)*s.ims[k].h) - 10))=zXq s (s.ims.take k)+9+10*(s.ims[k].w*s.ims[k].h):=by
    rw [e1,w0 (10*s.ims[k].w) (by omega) (by omega),Int.mul_assoc]
    generalize s.ims[k].w*s.ims[k].h=a at *
    rw [w0 (10*a) (by omega) (by omega),w0 (10*a - 10) (by omega) (by omega),w0 _ (by omega) (by omega)]
    omega
   refine ⟨⟨by omega,by omega,by rw [zZ2]; omega⟩,q1,fun h8=>?_,fun h8=>?_⟩
   ·have hsz:zXm s.ims[k]=9+10*(s.ims[k].w*s.ims[k].h):=by unfold zXm; rw [if_neg (by rw [h8]; simp)]
    have e3:zXq s (s.ims.take k)+9+10*(s.ims[k].w*s.ims[k].h)=zXq s (s.ims.take (k+1)):=by rw [hz2,hsz]; omega
    rw [e2,e3]
    exact ⟨fun h9=>hbad _ (by omega),fun h9=>⟨k+1,⟨by omega,by unfold zXq at h9 hz3; omega⟩,by omega,rfl,rfl⟩⟩
   ·have hsz:zXm s.ims[k]=19:=by unfold zXm; rw [if_pos h8]
    have e3:zXq s (s.ims.take k)+19=zXq s (s.ims.take (k+1)):=by rw [hz2,hsz]
    rw [e1,e3]
    exact ⟨fun h9=>hbad _ (by omega),fun h9=>⟨k+1,⟨by omega,by unfold zXq at h9 hz3; omega⟩,by omega,rfl,rfl⟩⟩
  ·have:k=s.ims.length:=by omega
   subst this
   rw [List.take_length]
   refine ⟨fun h=>hbad s.ims.length (by rw [List.take_length]; exact h),fun h=>?_⟩
   unfold lenR
   rw [if_pos (by omega)]
theorem zGT (m:Im):Ans prog 66 [imR m] (RV.d (DV.bool m.formed)):=zQW (m.w) (m.h) (m.so) (m.c.a) (m.c.b) (m.c.c) (m.c.al) (m.c.f) (m.p0.w) (m.p0.h) (m.p0.s) (m.p0.n) (m.p0.xs) (m.p1.w) (m.p1.h) (m.p1.s) (m.p1.n) (m.p1.xs) (m.p2.w) (m.p2.h) (m.p2.s) (m.p2.n) (m.p2.xs) (m.p3.w) (m.p3.h) (m.p3.s) (m.p3.n) (m.p3.xs) (m.p4.w) (m.p4.h) (m.p4.s) (m.p4.n) (m.p4.xs)
def sE (s:Scr):Scr:=⟨s.bits,s.c,s.tw,s.th,ints (is s.ord),zYu (ims s.ims),zZ8 (ops s.ops)⟩
theorem zVn (s:Scr):Ans prog 44 [RV.agg [dJ s.bits,dJ s.c.a,dJ s.c.b,dJ s.c.c,dJ s.c.d,dJ s.tw,dJ s.th,dS s.ord.length (is s.ord),dS s.ims.length (ims s.ims),dS s.ops.length (ops s.ops)]] (RV.d (dQ (zZU s))):=
 zQj (Γ:=jVq) (let a:=[(1,bC [cJ s.bits,cJ s.c.a,cJ s.c.b,cJ s.c.c,cJ s.c.d,cJ s.tw,cJ s.th,Cl.d (dS s.ord.length (is s.ord)),Cl.d (dS s.ims.length (ims s.ims)),Cl.d (dS s.ops.length (ops s.ops))])]; (Ann.seq Ann.leaf (Ann.seq Ann.leaf (Ann.seq Ann.leaf (Ann.seq (Ann.seq Ann.leaf (Ann.loop ⟨Nat,fun k=>k≤s.ims.length∧(s.ims.take k).all Im.formed=true,fun k=>⟨[(1,AV.one (Cl.ptr 1 0)),(4,aJ (k:Int))],a⟩,fun k=>s.ims.length - k⟩ fun k=>Ann.leaf)) (Ann.seq (Ann.seq Ann.leaf (Ann.loop ⟨Nat,fun j=>j≤s.ops.length∧(s.ops.take j).all opOk=true,fun j=>⟨[(1,AV.one (Cl.ptr 1 0)),(5,aJ (j:Int))],a⟩,fun j=>s.ops.length - j⟩ fun j=>Ann.leaf)) Ann.leaf)))))) zQy Tryz.func44 rfl (Nat.le_of_ble_eq_true rfl) fun hwf=>by
  refine Eq.mpr (by kernel_rfl:_=(let p:=(!(fitR (1:Int) false s.bits)); let q:=(fitR (1:Int) false); let r:=(decide ((s.ord.length:Int) > 67108864)); let b:=(dQ (zZU s)); let i:=([dJ s.tw,dJ s.th]); let c:=(s.ops.length:Int); let d:=(s.ims.length:Int); let e:=(fitR (4:Int) true); let f:=(fitR (4:Int) false); let t:=(!((ints i).all f)); let u:=(!((ints (is s.ord)).all f)); let l:=([dJ s.c.a,dJ s.c.b,dJ s.c.c,dJ s.c.d]); let v:=(!((ints l).all e)); let a:=(RV.d (dQ false)=RV.d b); let w:=fun (k:Nat)=>(k≤s.ims.length∧(s.ims.take k).all Im.formed=true); let m:=[dJ s.bits,dJ s.c.a,dJ s.c.b,dJ s.c.c,dJ s.c.d,dJ s.tw,dJ s.th,dS s.ord.length (is s.ord),dS s.ims.length (ims s.ims),dS s.ops.length (ops s.ops)]; let g:=((m=m)∧True); let x:=fun (j:Nat)=>(j≤s.ops.length∧(s.ops.take j).all opOk=true); tU8 ((Ans prog 87 [rJ s.bits,rJ 1,RV.d (dQ false)] (RV.d (dQ (fitR (1:Int) false s.bits))))∧tU2 ((p=false→True∧tU8 ((Ans prog 88 [rJ 4,RV.d (dQ true),RV.d (dS 4 l)] (RV.d (dQ ((ints l).all e))))∧tU3 ((v=false→tU5 ((Ans prog 88 [rJ 4,RV.d (dQ false),RV.d (dS 2 i)] (RV.d (dQ ((ints i).all f))))∧tU3 ((t=false→tU6 ((r=false→tU2 ((Ans prog 88 [rJ 4,RV.d (dQ false),RV.d (dS s.ord.length (is s.ord))] (RV.d (dQ ((ints (is s.ord)).all f))))∧tU3 ((u=false→tU6 (((decide (d > 64))=false→tU5 (((decide (c > 4096))=true→True∧RV.d (dQ false)=RV.d b)∧((decide (c > 4096))=false→True∧((∃ k:Nat,(w k)∧(((0=0)∧(dJ 0=dJ (k:Int))∧True)∧g))∧∀ k:Nat,let y:=(decide ((k:Int) < d)); let h:=(imQ (ims s.ims) ((k:Int).toNat*28)); (w k)→tU5 ((y=true→tU3 ((0≤(k:Int)∧(k:Int) < d∧(k:Int).toNat*28 < (ims s.ims).length)∧(imQr (ims s.ims) ((k:Int).toNat*28))∧(Ans prog 66 [imR h] (RV.d (dQ (Im.formed h))))∧True∧(((!(Im.formed h))=true→True∧RV.d (dQ false)=RV.d b)∧((!(Im.formed h))=false→tU3 (∃ k':Nat,(k'≤s.ims.length∧(s.ims.take k').all Im.formed=true)∧(s.ims.length - k' < s.ims.length - k)∧(((0=0)∧(dJ (wK ((k:Int)+1))=dJ (k':Int))∧True)∧g))))))∧(y=false→True∧((∃ j:Nat,(x j)∧(((0=0)∧(dJ 0=dJ (j:Int))∧True)∧g))∧∀ j:Nat,let z:=(decide ((j:Int) < c)); let n:=([dJ (nAt (ops s.ops) ((j:Int).toNat*12+1+1)),dJ (nAt (ops s.ops) ((j:Int).toNat*12+1+1+1)),dJ (nAt (ops s.ops) ((j:Int).toNat*12+1+1+1+1+1)),dJ (nAt (ops s.ops) ((j:Int).toNat*12+1+1+1+1+1+1))]); let A:=(!((ints n).all e)); let o:=([dJ (nAt (ops s.ops) ((j:Int).toNat*12)),dJ (nAt (ops s.ops) ((j:Int).toNat*12+1)),dJ (nAt (ops s.ops) ((j:Int).toNat*12+1+1+1+1)),dJ (nAt (ops s.ops) ((j:Int).toNat*12+1+1+1+1+1+1+1+1)),dJ (nAt (ops s.ops) ((j:Int).toNat*12+1+1+1+1+1+1+1+1+1))]); let B:=(!((ints o).all q)); (x j)→tU5 ((z=true→tU3 ((0≤(j:Int)∧(j:Int) < c∧(j:Int).toNat*12 < (ops s.ops).length)∧(oqQr (ops s.ops) ((j:Int).toNat*12))∧tU5 (tU8 ((Ans prog 88 [rJ 1,RV.d (dQ false),RV.d (dS 5 o)] (RV.d (dQ ((ints o).all q))))∧tU2 ((B=false→True∧tU8 ((Ans prog 88 [rJ 4,RV.d (dQ true),RV.d (dS 4 n)] (RV.d (dQ ((ints n).all e))))∧tU2 ((A=true→True∧RV.d (dQ false)=RV.d b)∧(A=false→tU3 (∃ j':Nat,(j'≤s.ops.length∧(s.ops.take j').all opOk=true)∧(s.ops.length - j' < s.ops.length - j)∧(((0=0)∧(dJ (wK ((j:Int)+1))=dJ (j':Int))∧True)∧g))))))∧(B=(!false)→tU2 a))))))∧(z=false→True∧(Ans prog 89 [RV.agg m] (rJ (lenR ((sE s):Scr))))∧tU2 (RV.d (dQ (decide ((lenR ((sE s):Scr))≥0)))=RV.d b))))))))))∧((decide (d > 64))=(!false)→tU2 a)))∧(u=(!false)→tU4 a))))∧(r=(!false)→tU6 a)))∧(t=(!false)→tU8 a))))∧(v=(!false)→tU2 (tU8 a)))))∧(p=(!false)→tU4 (tU8 a)))))) ?_
  delta sE tU2 tU3 tU4 tU5 tU6 tU8 dJ dQ wK dS rJ
  simp only [sS,imQ,imQr,oqQr]
  have a1:=zVI s.bits 1 false (.inl ⟨rfl,rfl⟩)
  have a2:=zYi 4 true [s.c.a,s.c.b,s.c.c,s.c.d] (.inr rfl)
  have a3:=zYi 4 false [s.tw,s.th] (.inr rfl)
  have a4:=zYi 4 false s.ord (.inr rfl)
  have es:∀ l:List Int,l.all (fitR 4 true)=fitL (-2147483648) 2147483647 l:=fun l=>by unfold fitL; congr; funext v; exact jZA v
  have eu:∀ l:List Int,l.all (fitR 4 false)=fitL 0 4294967295 l:=fun l=>by unfold fitL; congr; funext v; exact zHN v
  have e1:∀ l:List Int,l.all (fitR 1 false)=fitL 0 255 l:=fun l=>by unfold fitL; congr; funext v; exact jZB v
  have eb:fitR 1 false s.bits=fitL 0 255 [s.bits]:=by rw [← e1]; simp
  have hil:s.ims.length≤9223372036854775807∧s.ops.length≤9223372036854775807:=by
   simp only [RV.wfs,RV.wf,DV.wf,DV.wfs,maxLen] at hwf
   omega
  clear hwf
  have fal:zX6 s=false→false=zZU s:=fun h=>by simp [zZU,h]
  simp only [zQM,es,eu,eb] at a1 a2 a3 a4 ⊢
  refine ⟨a1,fun h1=>⟨a2,fun h2=>⟨a3,fun h3=>⟨fun h0=>⟨a4,fun h4=>⟨fun h5=>⟨fun h6=>?_,fun h6=>?_⟩,fun h5=>?_⟩,fun h4=>?_⟩,fun h0=>?_⟩,fun h3=>?_⟩,fun h2=>?_⟩,fun h1=>?_⟩
  ·exact fal (by simp [zX6]; omega)
  ·have g1:fitL 0 255 [s.bits]=true:=h1
   have g2:fitL (-2147483648) 2147483647 [s.c.a,s.c.b,s.c.c,s.c.d]=true:=h2
   have g3:fitL 0 4294967295 [s.tw,s.th]=true:=h3
   have hd:zX6 s=true:=by simp only [zX6,g1,g2,g3,h4,Bool.and_true,Bool.true_and,Bool.and_eq_true,decide_eq_true_eq]; omega
   refine ⟨⟨0,⟨Nat.zero_le _,by simp⟩,rfl⟩,fun k hk=>⟨fun hlt=>?_,fun hge=>?_⟩⟩
   ·obtain ⟨k1,k2⟩:=hk
    have hk:k < s.ims.length:=by omega
    have q1:=zUO hk
    have q2:=zUP hk
    have w1:IntKind.wrap .i64 ((k:Int)+1)=((k+1:Nat):Int):=by rw [IntWalk.i64_in _ ⟨by omega,by omega⟩]; omega
    have wf:=zGT s.ims[k]
    simp only [q2,w1]
    refine ⟨⟨by omega,by omega,by rw [zZ2]; omega⟩,q1,wf,fun h7=>?_,fun h7=>?_⟩
    ·have h7:s.ims[k].formed=false:=h7
     simp [zZU,all_false' hk h7]
    ·have h7:s.ims[k].formed=true:=h7
     exact ⟨k+1,⟨by omega,by rw [all_take' hk,k2,h7]; rfl⟩,by omega,rfl⟩
   ·obtain ⟨k1,k2⟩:=hk
    have:k=s.ims.length:=by omega
    subst this
    rw [List.take_length] at k2
    refine ⟨⟨0,⟨Nat.zero_le _,by simp⟩,rfl⟩,fun j hj=>⟨fun hlt=>?_,fun hge=>?_⟩⟩
    ·obtain ⟨j1,j2⟩:=hj
     have hj:j < s.ops.length:=by omega
     have q1:=zVx hj
     have q2:=zVy hj
     have w1:IntKind.wrap .i64 ((j:Int)+1)=((j+1:Nat):Int):=by rw [IntWalk.i64_in _ ⟨by omega,by omega⟩]; omega
     have b1:=zYi 1 false [s.ops[j].kind,s.ops[j].image,s.ops[j].mask,s.ops[j].oper,s.ops[j].mode] (.inl ⟨rfl,rfl⟩)
     have b2:=zYi 4 true [s.ops[j].x,s.ops[j].y,s.ops[j].mx,s.ops[j].my] (.inr rfl)
     simp only [q2,w1,e1] at b1 b2 ⊢
     simp only [es] at b2 ⊢
     have bad:opOk s.ops[j]=false→false=zZU s:=fun h=>by simp [zZU,all_false' hj h]
     refine ⟨⟨by omega,by omega,by rw [zQ5]; omega⟩,q1,b1,fun h7=>⟨b2,fun h8=>bad ?_,fun h8=>⟨j+1,⟨by omega,?_⟩,by omega,rfl⟩⟩,fun h7=>bad ?_⟩
     ·have h8:fitL (-2147483648) 2147483647 [s.ops[j].x,s.ops[j].y,s.ops[j].mx,s.ops[j].my]=false:=h8
      simp [opOk,h8]
     ·have h7:fitL 0 255 [s.ops[j].kind,s.ops[j].image,s.ops[j].mask,s.ops[j].oper,s.ops[j].mode]=true:=h7
      have h8:fitL (-2147483648) 2147483647 [s.ops[j].x,s.ops[j].y,s.ops[j].mx,s.ops[j].my]=true:=h8
      rw [all_take' hj,j2]
      simp [opOk,h7,h8]
     ·have h7:fitL 0 255 [s.ops[j].kind,s.ops[j].image,s.ops[j].mask,s.ops[j].oper,s.ops[j].mode]=false:=h7
      simp [opOk,h7]
    ·obtain ⟨j1,j2⟩:=hj
     have:j=s.ops.length:=by omega
     subst this
     rw [List.take_length] at j2
     have ln:=zUi s k2 (by omega) (by omega)
     simp only [zZx,zZe]
     refine ⟨ln,?_⟩
     have hmo:min (s.ord.length:Int) 67108864=s.ord.length:=by omega
     have hzl:=zXE k2
     have hsz:zXq s s.ims=zXp s s.ims:=by unfold zXq zXp; rw [hmo]
     have hpos:0≤zXp s s.ims:=by unfold zXp; omega
     have e1:zZU s=decide (zXp s s.ims≤67108864):=by simp only [zZU,hd,k2,j2,Bool.true_and]
     rw [e1]
     unfold lenR
     rw [hsz]
     by_cases hb:zXp s s.ims≤67108864
     ·rw [if_pos hb,decide_eq_true hb]
      exact decide_eq_true hpos
     ·rw [if_neg hb,decide_eq_false hb]
      rfl
  ·exact fal (by simp [zX6]; omega)
  ·exact fal (by simp [zX6,h4])
  ·have:zZU s=false:=by
    cases hc:s.ims.all Im.formed with
    | false=>simp [zZU,hc]
    | true=>
     have:=zXE hc
     have hn:¬ zXp s s.ims≤67108864:=by unfold zXp; omega
     simp [zZU,hn]
   exact this.symm
  ·have h3:fitL 0 4294967295 [s.tw,s.th]=false:=h3
   exact fal (by simp [zX6,h3])
  ·have h2:fitL (-2147483648) 2147483647 [s.c.a,s.c.b,s.c.c,s.c.d]=false:=h2
   exact fal (by simp [zX6,h2])
  ·have h1:fitL 0 255 [s.bits]=false:=h1
   exact fal (by simp [zX6,h1])
end
def Cl.thaw (bx:Nat→Bx):Cl→Option DV
 | .d v=>some v
 | .nil=>some (.sl 0 [])
 | .ref b n=>match zZ4 (bx b) with
  | some xs=>some (.sl n xs)
  | none=>none
 | _=>none
def jXs (bx:Nat→Bx):List Cl→Option (List DV)
 | []=>some []
 | c::cs=>match c.thaw bx,jXs bx cs with
  | some d,some ds=>some (d::ds)
  | _,_=>none
mutual
def AV.thaw (bx:Nat→Bx):AV→Option RV
 | .one c=>match c.thaw bx with
  | some d=>some (.d d)
  | none=>none
 | .agg cs=>match jXs bx cs with
  | some ds=>some (.agg ds)
  | none=>none
 | .tup vs=>match AV.thawL bx vs with
  | some rs=>some (.tup rs)
  | none=>none
def AV.thawL (bx:Nat→Bx):List AV→Option (List RV)
 | []=>some []
 | x::xs=>match x.thaw bx,AV.thawL bx xs with
  | some r,some rs=>some (r::rs)
  | _,_=>none
end
section
variable {w:World} {V V':Nat→Prop} {ι:zQA} {bx:Nat→Bx}
theorem jXt (hk:∀ g,V g→V' g) (hb:∀ b,zXd w V ι bx b (bx b)) (ho:∀ b g c,(bx b).live=true→ι b=some (g,c)→V' g) {c:Cl} {d:DV} {v:Value} (h:c.thaw bx=some d) (hr:zQG w V ι bx c v):RepD w V' d v:=by
 have hkk:zZt w V w V':=fun g off u hV hu=>⟨hk g hV,hu⟩
 cases c with
 | d x=>
  simp only [Cl.thaw,Option.some.injEq] at h
  subst h
  exact RepD.keep hkk hr
 | nil=>
  simp only [Cl.thaw,Option.some.injEq] at h
  subst h
  simp only [zQG] at hr
  simp only [RepD]
  exact ⟨none,0,hr,Nat.le_refl _,Nat.zero_le _,fun hne=>absurd rfl hne⟩
 | ref b n=>
  simp only [Cl.thaw] at h
  split at h
  ·rename_i xs hin
   simp only [Option.some.injEq] at h
   subst h
   simp only [zQG] at hr
   have hbb:=hb b
   cases hB:bx b with
   | row e size ys=>
    rw [hB] at hin hbb
    simp only [zZ4,Option.some.injEq] at hin
    subst hin
    obtain ⟨_,⟨h1,h2,h3⟩ | ⟨g,cap,h1,h2,h3⟩⟩:=hr
    ·rcases hbb with ⟨h4,h5⟩ | ⟨g,cap,cur,h4,_⟩
     ·subst h5 h2
      simp only [RepD]
      exact ⟨none,0,h3,Nat.le_refl _,Nat.zero_le _,fun hne=>absurd rfl hne⟩
     ·rw [h1] at h4; cases h4
    ·rcases hbb with ⟨h4,h5⟩ | ⟨g',cap',cur,h4,h5,h6,h7,h8⟩
     ·rw [h1] at h4; cases h4
     ·rw [h1] at h4
      injection h4 with h4
      injection h4 with h4 h4'
      subst h4 h4'
      simp only [RepD]
      exact ⟨_,cap,h2,h3,h6,fun hne=>⟨g,0,rfl,ho b g cap (by rw [hB]; rfl) h1,RepCells.of_row h5 (h8.keep hkk)⟩⟩
   | ice ys=>
    rw [hB] at hin hbb
    simp only [zZ4,Option.some.injEq] at hin
    subst hin
    obtain ⟨_,⟨h1,h2,h3⟩ | ⟨g,cap,h1,h2,h3⟩⟩:=hr
    ·rcases hbb with ⟨h4,h5⟩ | ⟨g,cap,h4,_⟩
     ·subst h5 h2
      simp only [RepD]
      exact ⟨none,0,h3,Nat.le_refl _,Nat.zero_le _,fun hne=>absurd rfl hne⟩
     ·rw [h1] at h4; cases h4
    ·rcases hbb with ⟨h4,h5⟩ | ⟨g',cap',h4,h5,h6⟩
     ·rw [h1] at h4; cases h4
     ·rw [h1] at h4
      injection h4 with h4
      injection h4 with h4 h4'
      subst h4 h4'
      simp only [RepD]
      refine ⟨_,cap,h2,h3,h6,fun hne=>⟨g,0,rfl,?_⟩⟩
      have h9:=Lies.keep hkk h5
      exact h9 hne
   | fresh=>rw [hB] at hin; cases hin
   | gone=>rw [hB] at hin; cases hin
   | cells cs=>rw [hB] at hin; cases hin
  ·cases h
 | lit u=>cases h
 | ptr b off=>cases h
 | vp cs off=>cases h
 | clo f cs=>cases h
 | dead=>cases h
theorem jQO (hk:∀ g,V g→V' g) (hb:∀ b,zXd w V ι bx b (bx b)) (ho:∀ b g c,(bx b).live=true→ι b=some (g,c)→V' g):∀ {cs:List Cl} {ds:List DV} {vs:List Value},jXs bx cs=some ds→zQQ w V ι bx cs vs→zQ6 w V' ds vs
 | [],ds,vs,h,hr=>by
  simp only [jXs,Option.some.injEq] at h
  subst h
  cases vs with
  | nil=>trivial
  | cons _ _=>exact hr.elim
 | c::cs,ds,vs,h,hr=>by
  simp only [jXs] at h
  split at h
  ·rename_i d ds' h1 h2
   simp only [Option.some.injEq] at h
   subst h
   cases vs with
   | nil=>exact hr.elim
   | cons v vs=>exact ⟨jXt hk hb ho h1 hr.1,jQO hk hb ho h2 hr.2⟩
  ·cases h
mutual
theorem jXu (hk:∀ g,V g→V' g) (hb:∀ b,zXd w V ι bx b (bx b)) (ho:∀ b g c,(bx b).live=true→ι b=some (g,c)→V' g):∀ {x:AV} {r:RV} {v:Value},x.thaw bx=some r→zQr w V ι bx x v→RepR w V' r v
 | .one c,r,v,h,hr=>by
  simp only [AV.thaw] at h
  split at h
  ·rename_i d h1
   simp only [Option.some.injEq] at h
   subst h
   simp only [zQr] at hr
   simp only [RepR]
   exact jXt hk hb ho h1 hr
  ·cases h
 | .agg cs,r,v,h,hr=>by
  simp only [AV.thaw] at h
  split at h
  ·rename_i d h1
   simp only [Option.some.injEq] at h
   subst h
   simp only [zQr] at hr
   obtain ⟨cur,e,hr⟩:=hr
   simp only [RepR]
   exact ⟨cur,e,jQO hk hb ho h1 hr⟩
  ·cases h
 | .tup vs,r,v,h,hr=>by
  simp only [AV.thaw] at h
  split at h
  ·rename_i d h1
   simp only [Option.some.injEq] at h
   subst h
   simp only [zQr] at hr
   obtain ⟨cur,e,hr⟩:=hr
   simp only [RepR]
   exact ⟨cur,e,thaw_avs hk hb ho h1 hr⟩
  ·cases h
theorem thaw_avs (hk:∀ g,V g→V' g) (hb:∀ b,zXd w V ι bx b (bx b)) (ho:∀ b g c,(bx b).live=true→ι b=some (g,c)→V' g):∀ {xs:List AV} {rs:List RV} {vs:List Value},AV.thawL bx xs=some rs→RepAVs w V ι bx xs vs→RepRs w V' rs vs
 | [],rs,vs,h,hr=>by
  simp only [AV.thawL,Option.some.injEq] at h
  subst h
  cases vs with
  | nil=>simp only [RepRs]
  | cons _ _=>simp only [RepAVs] at hr
 | x::xs,rs,vs,h,hr=>by
  simp only [AV.thawL] at h
  split at h
  ·rename_i d ds' h1 h2
   simp only [Option.some.injEq] at h
   subst h
   cases vs with
   | nil=>simp only [RepAVs] at hr
   | cons v vs=>
    simp only [RepAVs] at hr
    simp only [RepRs]
    exact ⟨jXu hk hb ho h1 hr.1,thaw_avs hk hb ho h2 hr.2⟩
  ·cases h
end
end
theorem AnsG.ans {P:Program} {f:FuncId} {args:List AV} {rs:List RV} {r:Ret} {res:RV} (h:AnsG P f 0 args [] r) (ha:args=RV.avs rs) (hr:r.res.thaw (zQI r.outs)=some res):Ans P f rs res:=by
 subst ha
 intro w S vs hg hrep
 have hno:∀ b,(zQI ([]:List Bx) b)=.fresh:=fun b=>by simp [zQI]
 have hnone:∀ g,¬ OwnB (zQI ([]:List Bx)) (fun _=>none) g:=fun g ⟨b,c,hl,e⟩=>by rw [hno] at hl; cases hl
 have hh:zJL w S (fun _=>none) (RV.avs rs) [] vs.toList:=by
  refine ⟨fun b g c hl e=>?_,fun b b' g c c' hl hl' hne e=>?_,fun b=>?_,rep_avs hrep⟩
  ·rw [hno] at hl; cases hl
  ·rw [hno] at hl; cases hl
  ·rw [hno]; trivial
 refine (h w S _ vs hg hh).mono fun ed w' hp=>?_
 obtain ⟨v,ι',rfl,ha⟩:=hp
 refine ⟨v,rfl,jXu (fun g hV=>?_) ha.bx (fun b g c hl e=>?_) hr ha.rep,ha.bel.below hnone⟩
 ·rcases hV.1 with ⟨_,h⟩ | h | h
  ·exact .inl h
  ·exact .inr h
  ·exact absurd h (hnone g)
 ·rcases (ha.own b g c hl e).1 with h | h
  ·exact .inr h
  ·exact absurd h (hnone g)
set_option maxHeartbeats 4000000
section
attribute [local irreducible] Ans AnsO AnsG AnsN AnsI
open Go.Lib
structure RP where
  s:Scr
  hd:Int
  part:Int
  left:Int
  w:Int
  h:Int
  px:List Px
def iAt (l:List Int) (k:Nat):Int:=(l[k]?).getD 0
def s32 (ws:List Lb):List Int × Bool:=zGu ws (-2147483648) 2147483647
def u32 (ws:List Lb):List Int × Bool:=zGu ws 0 4294967295
def nz (ws:List Lb):List Int × Bool:=zGu ((ws.drop 1).take 2) 1 16777216
def zX3:Lb:=[98,105,116,115]
def zZw:Lb:=[99,97,110,118,97,115]
def zZ3:Lb:=[116,105,108,101,115]
def zZj:Lb:=[111,114,100,101,114]
def zQN:Lb:=[115,111,108,105,100]
def zQP:Lb:=[105,109,97,103,101]
def zYT (p:RP) (ws:List Lb):RP × Bool:=
 if p.hd=1 then (if ws.length=2∧wAt ws 0=zX3 then ({ p with s:={ p.s with bits:=(numR (wAt ws 1) 0 255).1 } },(numR (wAt ws 1) 0 255).2) else (p,false))
 else if p.hd=2 then (if (s32 (ws.drop 1)).2=true∧(s32 (ws.drop 1)).1.length=4∧wAt ws 0=zZw then ({ p with s:={ p.s with c:=⟨iAt (s32 (ws.drop 1)).1 0,iAt (s32 (ws.drop 1)).1 1,iAt (s32 (ws.drop 1)).1 2,iAt (s32 (ws.drop 1)).1 3⟩ } },true) else (p,false))
 else (if (u32 (ws.drop 1)).2=true∧(u32 (ws.drop 1)).1.length=2∧wAt ws 0=zZ3 then ({ p with s:={ p.s with tw:=iAt (u32 (ws.drop 1)).1 0,th:=iAt (u32 (ws.drop 1)).1 1 } },true) else (p,false))
def zYf (p:RP) (ws:List Lb):RP × Bool:=
 if 1 < p.part∨64≤p.s.ims.length∨ws.length < 3 then ({ p with part:=1 },false)
 else if (nz ws).2=false∨16777216 / iAt (nz ws).1 0 < iAt (nz ws).1 1 then ({ p with part:=1 },false)
 else if wAt ws 0=zQN then ({ p with part:=1,s:={ p.s with ims:=p.s.ims++[zQi (iAt (nz ws).1 0) (iAt (nz ws).1 1) (pixW (ws.drop 3)).1] } },(pixW (ws.drop 3)).2)
 else ({ p with part:=1,w:=iAt (nz ws).1 0,h:=iAt (nz ws).1 1,left:=iAt (nz ws).1 0*iAt (nz ws).1 1 },decide (ws.length=3))
def zYk (p:RP) (t:Lb):RP × Bool:=
 if 0 < p.left then
  (if p.left=1 then ({ p with left:=0,s:={ p.s with ims:=p.s.ims++[imOf p.w p.h (p.px++[(pixW (zQt t)).1])] },px:=[] },(pixW (zQt t)).2)
   else ({ p with left:=p.left - 1,px:=p.px++[(pixW (zQt t)).1] },(pixW (zQt t)).2))
 else if p.hd < 3 then zYT { p with hd:=p.hd+1 } (zQt t)
 else if wAt (zQt t) 0=zZj then ({ p with part:=1,s:={ p.s with ord:=(u32 ((zQt t).drop 1)).1 } },(u32 ((zQt t).drop 1)).2 && decide (0 < (u32 ((zQt t).drop 1)).1.length) && decide (p.part=0))
 else if wAt (zQt t) 0=zQN∨wAt (zQt t) 0=zQP then zYf p (zQt t)
 else ({ p with part:=2,s:={ p.s with ops:=p.s.ops++[(opR (zQt t)).1] } },(opR (zQt t)).2 && decide (p.s.ops.length < 4096))
theorem jKb {ws r:List Lb} (i n:Nat) (h:r=ws.drop i) (hn:n=r.length):List.take (n*1) (List.drop (i*1) (strs ws))=strs r:=by
 subst h hn
 unfold strs
 rw [Nat.mul_one,Nat.mul_one,← List.map_drop,List.take_of_length_le (by simp)]
def zScr:Scr:=⟨0,⟨0,0,0,0⟩,0,0,[],[],[]⟩
def zRP:RP:=⟨zScr,0,0,0,0,0,[]⟩
def rGo (p:RP) (n:Int) (acc:Lb):Lb→Scr × Int × Int
 | []=>if acc≠[]∨p.hd < 3∨0 < p.left then (zScr,n+1,19) else if zZU p.s=true then (p.s,0,0) else (zScr,0,19)
 | c::r=>if c=10 then (if (zYk p acc).2=true then rGo (zYk p acc).1 (n+1) [] r else (zScr,n+1,19)) else rGo p n (acc++[c]) r
def zKJ (t:Lb):Scr × Int × Int:=rGo zRP 0 [] t
structure RP.ok (p:RP) (k:Nat):Prop where
  im:p.s.ims.length≤k
  op:p.s.ops.length≤k
  px:p.px.length≤k
  l0:0≤p.left
  l1:p.left≤16777216
  h0:0≤p.hd
theorem RP.ok.mono {p:RP} {k:Nat} (h:p.ok k):p.ok (k+1):=by
 obtain ⟨a,b,c,d,e,f⟩:=h
 exact ⟨by omega,by omega,by omega,d,e,f⟩
structure Rz where
  i:Nat
  fr:Nat
  n:Nat
  p:RP
def Rz.acc (z:Rz) (t:Lb):Lb:=(t.drop z.fr).take (z.i - z.fr)
theorem Scr.eta_ (s:Scr):(⟨s.bits,s.c,s.tw,s.th,s.ord,s.ims,s.ops⟩:Scr)=s:=rfl
theorem RP.eta_ (p:RP):(⟨p.s,p.hd,p.part,p.left,p.w,p.h,p.px⟩:RP)=p:=rfl
theorem Rz.step {t:Lb} {z:Rz} (h:z.i < t.length):t.drop z.i=(t[z.i]?).getD 0::t.drop (z.i+1):=by
 rw [List.drop_eq_getElem_cons h,List.getElem?_eq_getElem h]; rfl
end
section
attribute [local irreducible] Ans AnsO AnsG AnsN AnsI
theorem sizeIm_le' {m:Im} (h:m.formed=true):m.w*m.h≤16777216:=by
 have h1:zQY m.w m.h=true:=by unfold Im.formed at h; exact (Bool.and_eq_true_iff.1 h).1
 simp only [zQY,Bool.and_eq_true,decide_eq_true_eq] at h1
 omega
structure Enc (s:Scr):Prop where
  fm:s.ims.all Im.formed=true
  sz:zXp s s.ims≤67108864
  bits:0≤s.bits∧s.bits≤255
  il:s.ims.length≤64
  ol:s.ops.length≤4096
def gZ21 (xs:List RV):Option RV:=match xs with | [.d (.bool is_)]=>some (rJ (if is_ then 1 else 0)) | _=>none
def jVK:Gam where
 pure:=fun f xs=>
  if f=70 then gZ21 xs else
  none
 modes:=fun f=>
  none
 proc:=fun f xs bs=>
  none
 iter:=fun f cs=>
  none
theorem zW5 (is_:Bool):Ans prog 70 [RV.d (dQ is_)] (rJ ((if is_ then 1 else 0))):=
 zQj (Γ:=jVK) Ann.leaf zQy Tryz.func70 rfl (Nat.le_of_ble_eq_true rfl) fun hwf=>by
  refine Eq.mpr (by kernel_rfl:_=(let a:=(dJ (if is_ then 1 else 0)); tU2 ((is_=true→True∧rJ 1=RV.d a)∧(is_=false→True∧rJ 0=RV.d a)))) ?_
  delta tU2 dJ rJ
  simp only [sS]
  cases is_ <;> simp
end
section
attribute [local irreducible] Ans AnsO AnsG AnsN AnsI
open Go.Lib
def prtO (o:Oq):Bool:=
 if o.kind=1 then !o.iso && !o.kno && decide (1≤o.oper∧o.oper < 13) && decide (1≤o.mode∧o.mode < 13)
 else if o.kind=2 then decide (o.image=0) && decide (o.x=0) && decide (o.y=0) && decide (1≤o.oper∧o.oper < 13) && decide (1≤o.mode∧o.mode < 13)
 else if o.kind=3 then decide (o=popO) else false
def zYl (s:Scr):Bool:=zZU s && s.ops.all prtO
def smpP (p:Px):List Int:=[p.a,p.b,p.c,p.al,p.f]
def bitN (b:Bool):Int:=if b then 1 else 0
def zYg (o:Oq):Lb:=[32]++ofS (zQo o.oper)++[32]++ofS (zQf o.mode)
def opTx (o:Oq):Lb:=
 if o.kind=1 then zQD zZV [o.image,o.x,o.y,o.mask,o.mx,o.my,o.opac]++zYg o
 else if o.kind=2 then zQD zZ0 [o.mask,o.mx,o.my,o.opac]++zQD (zYg o) [bitN o.iso,bitN o.kno]
 else sPop
def pxTx (p:Px):Lb:=zQD [] (smpP p)++[10]
def imTx (m:Im):Lb:=if m.so then zQD (zQD zQN [m.w,m.h]) (smpP m.c)++[10] else zQD zQP [m.w,m.h]++[10]++m.pixels.flatMap pxTx
def hdTx (s:Scr):Lb:=zQD zX3 [s.bits]++[10]++zQD zZw [s.c.a,s.c.b,s.c.c,s.c.d]++[10]++zQD zZ3 [s.tw,s.th]++[10]
def orTx (s:Scr):Lb:=if 0 < s.ord.length then zQD zZj s.ord++[10] else []
def opLn (o:Oq):Lb:=opTx o++[10]
def fmtT (s:Scr):Lb:=hdTx s++orTx s++s.ims.flatMap imTx++s.ops.flatMap opLn
theorem zKQ {w:Lb} {l:List Int} (h:∀ n∈l,-9223372036854775808≤n∧n≤9223372036854775807):(zQD w l).length≤w.length+22*l.length:=by
 induction l generalizing w with
 | nil=>simp [zQD]
 | cons n l ih=>
  have h1:=zKT n (h n (by simp))
  have h2:=ih (w:=(if w=[] then [] else w++[32])++itoa n) fun m hm=>h m (by simp [hm])
  have h3:zQD w (n::l)=zQD ((if w=[] then [] else w++[32])++itoa n) l:=rfl
  have h4:((if w=[] then [] else w++[32])++itoa n).length≤w.length+1+(itoa n).length:=by
   rw [List.length_append]
   split <;> simp
  rw [h3,List.length_cons]
  omega
theorem zUD (op:Int):(ofS (zQo op)).length≤20:=by
 by_cases h:1≤op∧op < 13
 ·rcases zXM h with rfl | rfl | rfl | rfl | rfl | rfl | rfl | rfl | rfl | rfl | rfl | rfl <;> decide +kernel
 ·simp [zQo,h,ofS]
theorem zVz (op:Int):(ofS (zQf op)).length≤20:=by
 by_cases h:1≤op∧op < 13
 ·rcases zXM h with rfl | rfl | rfl | rfl | rfl | rfl | rfl | rfl | rfl | rfl | rfl | rfl <;> decide +kernel
 ·simp [zQf,h,ofS]
theorem jK2 (b:Bool):(if b=true then (1:Int) else 0)=bitN b:=rfl
theorem zGK (b:Bool):0≤bitN b∧bitN b≤1:=by cases b <;> simp [bitN]
theorem R18_line_ans' (w:Lb) (l:List Int) (hw:w.length≤1000) (hl:l.length≤68719476736):Ans prog 31 [RV.d (DV.str (toS w)),RV.d (DV.sl l.length (is l))] (RV.d (DV.str (toS (zQD w l)))):=by
 have h:=zHZ w l hw hl
 simpa only [zQX,zQM] using h
theorem R18_Encodable_ans' (s:Scr):Ans prog 44 [RV.agg [DV.int .i64 s.bits,DV.int .i64 s.c.a,DV.int .i64 s.c.b,DV.int .i64 s.c.c,DV.int .i64 s.c.d,DV.int .i64 s.tw,DV.int .i64 s.th,DV.sl s.ord.length (is s.ord),DV.sl s.ims.length (ims s.ims),DV.sl s.ops.length (ops s.ops)]] (RV.d (DV.bool (zZU s))):=zVn s
def fmtR (s:Scr):Lb × Int:=if zYl s=true then (fmtT s,0) else ([],19)
def gZ22 (xs:List RV):Option RV:=match xs with | [.agg [.int _ bits,.int _ cx0,.int _ cy0,.int _ cx1,.int _ cy1,.int _ tw,.int _ th,.sl on oxs,.sl mn mxs,.sl pn pxs]]=>some (RV.d (dQ (zZU (⟨bits,⟨cx0,cy0,cx1,cy1⟩,tw,th,ints oxs,zYu mxs,zZ8 pxs⟩:Scr)))) | _=>none
def gZ23 (xs:List RV):Option RV:=match xs with | [.agg [.int _ bits,.int _ cx0,.int _ cy0,.int _ cx1,.int _ cy1,.int _ tw,.int _ th,.sl on oxs,.sl mn mxs,.sl pn pxs]]=>some (RV.d (dQ (zYl (⟨bits,⟨cx0,cy0,cx1,cy1⟩,tw,th,ints oxs,zYu mxs,zZ8 pxs⟩:Scr)))) | _=>none
def gZ24 (xs:List RV):Option RV:=match xs with | [.d (.str s),.d (.sl ln lxs)]=>some (RV.d (DV.str (toS (zQD (ofS s) (ints lxs))))) | _=>none
def gZ25 (xs:List RV):Option RV:=match xs with | [.agg [.int _ c0,.int _ c1,.int _ c2,.int _ ca,.int _ cf]]=>some (RV.d (dS 5 (is (smpP (⟨c0,c1,c2,ca,cf⟩:Px))))) | _=>none
def gZ26 (xs:List RV):Option RV:=match xs with | [.agg [.int _ okind,.int _ oimage,.int _ ox,.int _ oy,.int _ omask,.int _ omx,.int _ omy,.int _ oopac,.int _ ooper,.int _ omode,.bool oiso,.bool okno]]=>some (RV.d (DV.str (toS (opTx (⟨okind,oimage,ox,oy,omask,omx,omy,oopac,ooper,omode,oiso,okno⟩:Oq))))) | _=>none
def jKR:Gam where
 pure:=fun f xs=>
  if f=44 then gZ22 xs else
  if f=30 then gZ23 xs else
  if f=31 then gZ24 xs else
  if f=32 then gZ25 xs else
  if f=34 then gZ26 xs else
  if f=70 then gZ21 xs else
  if f=63 then gZ2 xs else
  if f=64 then gZ2 xs else
  if f=68 then gZ1 xs else
  if f=69 then gZ3 xs else
  none
 modes:=fun f=>
  none
 proc:=fun f xs bs=>
  none
 iter:=fun f cs=>
  none
theorem zW4 (p:Px):Ans prog 32 [RV.agg [dK p.a,dK p.b,dK p.c,dK p.al,dK p.f]] (RV.d (dS 5 (is (smpP p)))):=
 zQj (Γ:=jKR) Ann.leaf zQy Tryz.func32 rfl (Nat.le_of_ble_eq_true rfl) fun hwf=>by
  refine Eq.mpr (by kernel_rfl:_=(tU3 ((0≤(0:Int)∧(0:Int) < ((3:Nat):Int))∧tU3 ((0≤(1:Int)∧(1:Int) < ((3:Nat):Int))∧tU3 ((0≤(2:Int)∧(2:Int) < ((3:Nat):Int))∧tU2 (tU8 (RV.d (dS 5 ([dJ (wK p.a),dJ (wK p.b),dJ (wK p.c),dJ (wK p.al),dJ (wK p.f)]))=RV.d (dS 5 (is (smpP p)))))))))) ?_
  delta tU2 tU3 tU8 dJ wK dS
  simp only [sS]
  have hmn:IntKind.min .i64 = -9223372036854775808:=by decide
  have hmx:IntKind.max .i64=9223372036854775807:=by decide
  have hmn6:IntKind.min .u16=0:=by decide
  have hmx6:IntKind.max .u16=65535:=by decide
  simp only [RV.wfs,RV.wf,DV.wf,DV.wfs] at hwf
  have w:∀ n:Int,0≤n∧n≤65535→IntKind.wrap .i64 n=n:=fun n h=>IntWalk.i64_in _ ⟨by omega,by omega⟩
  rw [w p.a (by omega),w p.b (by omega),w p.c (by omega),w p.al (by omega),w p.f (by omega)]
  exact ⟨by decide,by decide,by decide,rfl⟩
theorem zUj (o:Oq):Ans prog 34 [RV.agg [dJ o.kind,dJ o.image,dJ o.x,dJ o.y,dJ o.mask,dJ o.mx,dJ o.my,dK o.opac,dJ o.oper,dJ o.mode,dQ o.iso,dQ o.kno]] (RV.d (DV.str (toS (opTx o)))):=
 zQj (Γ:=jKR) Ann.leaf zQy Tryz.func34 rfl (Nat.le_of_ble_eq_true rfl) fun hwf=>by
  refine Eq.mpr (by kernel_rfl:_=(let e:=(zQf o.mode); let f:=(DV.str (toS (opTx o))); let a:=(zQo o.oper); let b:=((((⟨#[32]⟩:ByteArray)++a)++(⟨#[32]⟩:ByteArray))++e); let c:=([dJ o.image,dJ o.x,dJ o.y,dJ o.mask,dJ o.mx,dJ o.my,dJ (wK o.opac)]); let d:=([dJ o.mask,dJ o.mx,dJ o.my,dJ (wK o.opac)]); let h:=([dJ (if o.iso then 1 else 0),dJ (if o.kno then 1 else 0)]); let g:=(toS (zQD (ofS b) (ints h))); tU4 ((Ans prog 68 [rJ o.oper] (RV.d (DV.str a)))∧((⟨#[32]⟩:ByteArray).size+a.size≤maxLen)∧(((⟨#[32]⟩:ByteArray)++a).size+(⟨#[32]⟩:ByteArray).size≤maxLen)∧tU2 ((Ans prog 69 [rJ o.mode] (RV.d (DV.str e)))∧((((⟨#[32]⟩:ByteArray)++a)++(⟨#[32]⟩:ByteArray)).size+e.size≤maxLen)∧True∧(true=true)∧tU4 (((o.kind==1)=true→tU8 (tU8 ((Ans prog 31 [RV.d (DV.str (⟨#[100,114,97,119]⟩:ByteArray)),RV.d (dS 7 c)] (RV.d (DV.str (toS (zQD (ofS (⟨#[100,114,97,119]⟩:ByteArray)) (ints c))))))∧True∧((toS (zQD (ofS (⟨#[100,114,97,119]⟩:ByteArray)) (ints c))).size+b.size≤maxLen)∧True∧RV.d (DV.str ((toS (zQD (ofS (⟨#[100,114,97,119]⟩:ByteArray)) (ints c)))++b))=RV.d f)))∧((o.kind==1)=false→tU2 (((o.kind==2)=true→tU2 (tU8 ((Ans prog 31 [RV.d (DV.str (⟨#[112,117,115,104]⟩:ByteArray)),RV.d (dS 4 d)] (RV.d (DV.str (toS (zQD (ofS (⟨#[112,117,115,104]⟩:ByteArray)) (ints d))))))∧tU3 ((Ans prog 70 [RV.d (dQ o.iso)] (rJ (if o.iso then 1 else 0)))∧tU2 ((Ans prog 70 [RV.d (dQ o.kno)] (rJ (if o.kno then 1 else 0)))∧True∧(Ans prog 31 [RV.d (DV.str b),RV.d (dS 2 h)] (RV.d (DV.str g)))∧((toS (zQD (ofS (⟨#[112,117,115,104]⟩:ByteArray)) (ints d))).size+g.size≤maxLen)∧True∧(true=true)∧RV.d (DV.str ((toS (zQD (ofS (⟨#[112,117,115,104]⟩:ByteArray)) (ints d)))++g))=RV.d f)))))∧((o.kind==2)=false→True∧RV.d (DV.str (⟨#[112,111,112]⟩:ByteArray))=RV.d f)))))))) ?_
  delta tU2 tU3 tU4 tU8 dJ dQ wK dS rJ
  simp only [sS]
  have hmn:IntKind.min .i64 = -9223372036854775808:=by decide
  have hmx:IntKind.max .i64=9223372036854775807:=by decide
  have hmn6:IntKind.min .u16=0:=by decide
  have hmx6:IntKind.max .u16=65535:=by decide
  simp only [RV.wfs,RV.wf,DV.wf,DV.wfs] at hwf
  have hM:∀ k:Nat,k≤100000→k≤maxLen:=fun k h=>by unfold maxLen; omega
  have wo:IntKind.wrap .i64 o.opac=o.opac:=IntWalk.i64_in _ ⟨by omega,by omega⟩
  have b1:=zGK o.iso
  have b2:=zGK o.kno
  have aO:=zXQ o.oper
  have aM:=zXY o.mode
  have aI:=zW5 o.iso
  have aK:=zW5 o.kno
  have l1:=zUD o.oper
  have l2:=zVz o.mode
  have ht:zYg o=[32]++ofS (zQo o.oper)++[32]++ofS (zQf o.mode):=rfl
  generalize hn1:ofS (zQo o.oper)=n1 at *
  generalize hn2:ofS (zQf o.mode)=n2 at *
  have e1:zQo o.oper=toS n1:=by rw [← hn1,zYO]
  have e2:zQf o.mode=toS n2:=by rw [← hn2,zYO]
  have e32:(⟨#[32]⟩:ByteArray)=toS [32]:=rfl
  have lt:(⟨#[100,114,97,119]⟩:ByteArray)=toS zZV:=rfl
  have lp:(⟨#[112,117,115,104]⟩:ByteArray)=toS zZ0:=rfl
  have lq:(⟨#[112,111,112]⟩:ByteArray)=toS sPop:=rfl
  have aD:=R18_line_ans' zZV [o.image,o.x,o.y,o.mask,o.mx,o.my,o.opac] (by decide) (by simp)
  have aP:=R18_line_ans' zZ0 [o.mask,o.mx,o.my,o.opac] (by decide) (by simp)
  have aT:=R18_line_ans' (zYg o) [bitN o.iso,bitN o.kno] (by rw [ht]; simp only [List.length_append,List.length_cons,List.length_nil]; omega) (by simp)
  have lD:(zQD zZV [o.image,o.x,o.y,o.mask,o.mx,o.my,o.opac]).length≤4+22*7:=zKQ fun n hn=>by
   simp only [List.mem_cons,List.not_mem_nil,or_false] at hn
   omega
  have lP:(zQD zZ0 [o.mask,o.mx,o.my,o.opac]).length≤4+22*4:=zKQ fun n hn=>by
   simp only [List.mem_cons,List.not_mem_nil,or_false] at hn
   omega
  have lT:(zQD (zYg o) [bitN o.iso,bitN o.kno]).length≤(zYg o).length+22*2:=zKQ fun n hn=>by
   simp only [List.mem_cons,List.not_mem_nil,or_false] at hn
   omega
  have ltl:(zYg o).length≤42:=by rw [ht]; simp only [List.length_append,List.length_cons,List.length_nil]; omega
  have i7:ints [DV.int .i64 o.image,DV.int .i64 o.x,DV.int .i64 o.y,DV.int .i64 o.mask,DV.int .i64 o.mx,DV.int .i64 o.my,DV.int .i64 o.opac]=[o.image,o.x,o.y,o.mask,o.mx,o.my,o.opac]:=rfl
  have i4:ints [DV.int .i64 o.mask,DV.int .i64 o.mx,DV.int .i64 o.my,DV.int .i64 o.opac]=[o.mask,o.mx,o.my,o.opac]:=rfl
  have i2:ints [DV.int .i64 (bitN o.iso),DV.int .i64 (bitN o.kno)]=[bitN o.iso,bitN o.kno]:=rfl
  clear hwf
  simp only [jK2,wo,e1,e2,e32,lt,lp,lq,zYA,zQF,zQX,i7,i4,i2,← ht,DV.str.injEq] at aO aM aI aK ⊢
  have k1:(o.kind==1)=decide (o.kind=1):=by rw [Bool.eq_iff_iff]; simp
  have k2:(o.kind==2)=decide (o.kind=2):=by rw [Bool.eq_iff_iff]; simp
  rw [k1,k2]
  simp only [decide_eq_true_eq,decide_eq_false_iff_not]
  have lh:([32]++n1).length≤21:=by simp only [List.length_append,List.length_cons,List.length_nil]; omega
  have lh2:([32]++n1++[32]).length≤22:=by simp only [List.length_append,List.length_cons,List.length_nil]; omega
  have lc:([32]:Lb).length=1:=rfl
  refine ⟨aO,hM _ (by omega),hM _ (by omega),aM,hM _ (by omega),fun h1=>⟨aD,hM _ (by omega),zYh ?_⟩,fun h1=>⟨fun h2=>⟨aP,aI,aK,aT,hM _ (by omega),zYh ?_⟩,fun h2=>zYh ?_⟩⟩
  ·unfold opTx; rw [if_pos h1]
  ·unfold opTx; rw [if_neg h1,if_pos h2]
  ·unfold opTx; rw [if_neg h1,if_neg h2]
theorem zVm (s:Scr):Ans prog 30 [RV.agg [dJ s.bits,dJ s.c.a,dJ s.c.b,dJ s.c.c,dJ s.c.d,dJ s.tw,dJ s.th,dS s.ord.length (is s.ord),dS s.ims.length (ims s.ims),dS s.ops.length (ops s.ops)]] (RV.d (dQ (zYl s))):=
 zQj (Γ:=jKR) (Ann.seq Ann.leaf (Ann.seq Ann.leaf (Ann.seq (Ann.seq Ann.leaf (Ann.loop ⟨Nat,fun k=>k≤s.ops.length∧(s.ops.take k).all prtO=true,fun k=>⟨[(1,AV.one (Cl.ptr 1 0)),(3,aJ (k:Int))],[(1,bC [cJ s.bits,cJ s.c.a,cJ s.c.b,cJ s.c.c,cJ s.c.d,cJ s.tw,cJ s.th,Cl.d (dS s.ord.length (is s.ord)),Cl.d (dS s.ims.length (ims s.ims)),Cl.d (dS s.ops.length (ops s.ops))])]⟩,fun k=>s.ops.length - k⟩ fun k=>Ann.leaf)) Ann.leaf))) zQy Tryz.func30 rfl (Nat.le_of_ble_eq_true rfl) fun hwf=>by
  refine Eq.mpr (by kernel_rfl:_=(let t:=(s.ops.length:Int); let b:=(dQ (zYl s)); let c:=(RV.d (dQ false)=RV.d b); let f:=(zZU ((sE s):Scr)); let g:=[dJ s.bits,dJ s.c.a,dJ s.c.b,dJ s.c.c,dJ s.c.d,dJ s.tw,dJ s.th,dS s.ord.length (is s.ord),dS s.ims.length (ims s.ims),dS s.ops.length (ops s.ops)]; let u:=fun (k:Nat)=>(k≤s.ops.length∧(s.ops.take k).all prtO=true); let v:=((g=g)∧True); let h:=fun (k':Nat)=>(k'≤s.ops.length∧(s.ops.take k').all prtO=true); let i:=fun (k:Nat)=>fun (k':Nat)=>(s.ops.length - k' < s.ops.length - k); let j:=fun (k:Nat)=>fun (k':Nat)=>(((0=0)∧(dJ (wK ((k:Int)+1))=dJ (k':Int))∧True)∧v); tU3 ((Ans prog 44 [RV.agg g] (RV.d (dQ f)))∧True∧(((!f)=true→True∧RV.d (dQ false)=RV.d b)∧((!f)=false→True∧((∃ k:Nat,(u k)∧(((0=0)∧(dJ 0=dJ (k:Int))∧True)∧v))∧∀ k:Nat,let w:=(decide ((k:Int) < t)); let l:=(nAt (ops s.ops) ((k:Int).toNat*12+1)); let m:=(nAt (ops s.ops) ((k:Int).toNat*12+1+1)); let n:=(nAt (ops s.ops) ((k:Int).toNat*12+1+1+1)); let o:=(bAt (ops s.ops) ((k:Int).toNat*12+1+1+1+1+1+1+1+1+1+1)); let p:=(bAt (ops s.ops) ((k:Int).toNat*12+1+1+1+1+1+1+1+1+1+1+1)); let a:=(nAt (ops s.ops) ((k:Int).toNat*12)); let d:=(nAt (ops s.ops) ((k:Int).toNat*12+1+1+1+1+1+1+1+1)); let x:=(Ans prog 63 [rJ d] (RV.d (dQ (decide (1≤d∧d < 13))))); let q:=(!(decide (1≤d∧d < 13))); let y:=(q=(!false)→tU2 c); let e:=(nAt (ops s.ops) ((k:Int).toNat*12+1+1+1+1+1+1+1+1+1)); let z:=(Ans prog 64 [rJ e] (RV.d (dQ (decide (1≤e∧e < 13))))); let r:=(!(decide (1≤e∧e < 13))); let A:=(r=true→True∧RV.d (dQ false)=RV.d b); let B:=(!((a==3) && ((l==0) && ((m==0) && ((n==0) && (((nAt (ops s.ops) ((k:Int).toNat*12+1+1+1+1))==0) && (((nAt (ops s.ops) ((k:Int).toNat*12+1+1+1+1+1))==0) && (((nAt (ops s.ops) ((k:Int).toNat*12+1+1+1+1+1+1))==0) && (((nAt (ops s.ops) ((k:Int).toNat*12+1+1+1+1+1+1+1))==0) && ((d==0) && ((e==0) && ((o==false) && ((p==false) && true))))))))))))); (u k)→tU5 ((w=true→tU3 ((0≤(k:Int)∧(k:Int) < t∧(k:Int).toNat*12 < (ops s.ops).length)∧(oqQr (ops s.ops) ((k:Int).toNat*12))∧tU6 (((a==1)=true→tU3 ((o=false→tU4 ((p=false→tU2 (x∧tU3 ((q=false→tU2 (z∧tU2 (A∧(r=false→tU3 (∃ k':Nat,(h k')∧(i k k')∧(j k k'))))))∧y)))∧(p=(!false)→tU4 c)))∧(o=(!false)→tU6 c)))∧((a==1)=false→tU2 (((a==2)=true→tU4 (((l != 0)=false→tU5 (((m != 0)=false→tU5 (((n != 0)=false→tU2 (x∧tU3 ((q=false→tU2 (z∧tU2 (A∧(r=false→tU3 (∃ k':Nat,(h k')∧(i k k')∧(j k k'))))))∧y)))∧((n != 0)=(!false)→tU4 c)))∧((m != 0)=(!false)→tU6 c)))∧((l != 0)=(!false)→tU8 c)))∧((a==2)=false→tU2 (((a==3)=true→tU3 ((B=true→True∧RV.d (dQ false)=RV.d b)∧(B=false→tU3 (∃ k':Nat,(h k')∧(i k k')∧(j k k')))))∧((a==3)=false→True∧RV.d (dQ false)=RV.d b))))))))∧(w=false→True∧RV.d (dQ true)=RV.d b)))))))) ?_
  delta sE tU2 tU3 tU4 tU5 tU6 tU8 dJ dQ wK dS rJ
  simp only [sS,oqQr]
  simp only [zQM,zZx,zZe,Scr.eta_]
  have hos:s.ops.length≤9223372036854775807:=by
   simp only [RV.wfs,RV.wf,DV.wf,DV.wfs,maxLen] at hwf
   omega
  clear hwf
  have e0:zZU s=false→zYl s=false:=fun h=>by unfold zYl; rw [h]; rfl
  refine ⟨R18_Encodable_ans' s,fun h=>(e0 h).symm,fun h=>⟨⟨0,⟨Nat.zero_le _,rfl⟩,rfl⟩,fun k hk=>⟨fun hlt=>?_,fun hge=>?_⟩⟩⟩
  ·have hkl:k < s.ops.length:=by omega
   have hml:=zQ5 s.ops
   obtain ⟨q0,q1,q2,q3,q4,q5,q6,q7,q8,q9,q10,q11⟩:=zVx hkl
   obtain ⟨r0,r1,r2,r3,r4,r5,r6,r7,r8,r9,r10,r11⟩:=zVy hkl
   have w1:IntKind.wrap .i64 ((k:Int)+1)=((k+1:Nat):Int):=by rw [IntWalk.i64_in _ ⟨by omega,by omega⟩]; omega
   have yes:prtO s.ops[k]=true→∃ k',(k'≤s.ops.length∧(s.ops.take k').all prtO=true)∧s.ops.length - k' < s.ops.length - k∧IntKind.wrap .i64 ((k:Int)+1)=(k':Int):=fun hp=>⟨k+1,⟨by omega,by rw [List.take_succ_eq_append_getElem hkl,List.all_append,hk.2]; simp [hp]⟩,by omega,w1⟩
   have no:prtO s.ops[k]=false→false=zYl s:=fun hp=>by
    have:s.ops.all prtO=false:=List.all_eq_false.2 ⟨_,List.getElem_mem hkl,by rw [hp]; decide⟩
    unfold zYl; rw [this,Bool.and_false]
   have aO:=zVJ s.ops[k].oper
   have aM:=zUm s.ops[k].mode
   simp only [q0,q1,q2,q3,q4,q5,q6,q7,q8,q9,q10,q11,r0,r1,r2,r3,r4,r5,r6,r7,r8,r9,r10,r11,true_and]
   generalize s.ops[k]=o at *
   clear q0 q1 q2 q3 q4 q5 q6 q7 q8 q9 q10 q11 r0 r1 r2 r3 r4 r5 r6 r7 r8 r9 r10 r11
   refine ⟨⟨by omega,by omega,by omega⟩,?_⟩
   have hp:popO=⟨3,0,0,0,0,0,0,0,0,0,false,false⟩:=rfl
   have hpo:o.kind=3→prtO o=(o.kind==3 && (o.image==0 && (o.x==0 && (o.y==0 && (o.mask==0 && (o.mx==0 && (o.my==0 && (o.opac==0 && (o.oper==0 && (o.mode==0 && (o.iso==false && (o.kno==false && true)))))))))))):=fun h=>by
    have h1:¬ o.kind=1:=by omega
    have h2:¬ o.kind=2:=by omega
    unfold prtO
    rw [if_neg h1,if_neg h2,if_pos h,hp,Bool.eq_iff_iff]
    obtain ⟨a,b,c,d,e,f,g,i,j,k,l,m⟩:=o
    simp
   have p1:o.kind=1→prtO o=(!o.iso && !o.kno && decide (1≤o.oper∧o.oper < 13) && decide (1≤o.mode∧o.mode < 13)):=fun h=>by unfold prtO; rw [if_pos h]
   have p2:o.kind=2→prtO o=(decide (o.image=0) && decide (o.x=0) && decide (o.y=0) && decide (1≤o.oper∧o.oper < 13) && decide (1≤o.mode∧o.mode < 13)):=fun h=>by unfold prtO; rw [if_neg (by omega),if_pos h]
   have ne0:∀ {n:Int},(n != 0)=false→n=0:=fun h=>by simpa using h
   have ne1:∀ {n:Int},(n != 0)=true→¬n=0:=fun h=>by simpa using h
   refine ⟨fun h1=>⟨fun a1=>⟨fun a2=>⟨aO,fun a3=>⟨aM,fun a4=>no ?_,fun a4=>yes ?_⟩,fun a3=>no ?_⟩,fun a2=>no ?_⟩,fun a1=>no ?_⟩,fun h1=>⟨fun h2=>⟨fun a1=>⟨fun a2=>⟨fun a3=>⟨aO,fun a4=>⟨aM,fun a5=>no ?_,fun a5=>yes ?_⟩,fun a4=>no ?_⟩,fun a3=>no ?_⟩,fun a2=>no ?_⟩,fun a1=>no ?_⟩,fun h2=>⟨fun h3=>⟨fun a=>no ?_,fun a=>yes ?_⟩,fun h3=>no ?_⟩⟩⟩
   ·rw [p1 (by simpa using h1),a1,a2,decide_eq_true a3,decide_eq_false a4]; rfl
   ·rw [p1 (by simpa using h1),a1,a2,decide_eq_true a3,decide_eq_true a4]; rfl
   ·rw [p1 (by simpa using h1),a1,a2,decide_eq_false a3]; rfl
   ·rw [p1 (by simpa using h1),a1,a2]; rfl
   ·rw [p1 (by simpa using h1),a1]; rfl
   ·rw [p2 (by simpa using h2),decide_eq_true (ne0 a1),decide_eq_true (ne0 a2),decide_eq_true (ne0 a3),decide_eq_true a4,decide_eq_false a5]; rfl
   ·rw [p2 (by simpa using h2),decide_eq_true (ne0 a1),decide_eq_true (ne0 a2),decide_eq_true (ne0 a3),decide_eq_true a4,decide_eq_true a5]; rfl
   ·rw [p2 (by simpa using h2),decide_eq_true (ne0 a1),decide_eq_true (ne0 a2),decide_eq_true (ne0 a3),decide_eq_false a4]; rfl
   ·rw [p2 (by simpa using h2),decide_eq_true (ne0 a1),decide_eq_true (ne0 a2),decide_eq_false (ne1 a3)]; rfl
   ·rw [p2 (by simpa using h2),decide_eq_true (ne0 a1),decide_eq_false (ne1 a2)]; rfl
   ·rw [p2 (by simpa using h2),decide_eq_false (ne1 a1)]; rfl
   ·rw [hpo (by simpa using h3)]; exact a
   ·rw [hpo (by simpa using h3)]; exact a
   ·have g1:¬ o.kind=1:=by simpa using h1
    have g2:¬ o.kind=2:=by simpa using h2
    have g3:¬ o.kind=3:=by simpa using h3
    unfold prtO; rw [if_neg g1,if_neg g2,if_neg g3]
  ·have:k=s.ops.length:=by omega
   subst this
   rw [List.take_length] at hk
   unfold zYl; rw [h,hk.2]; rfl
end
section
attribute [local irreducible] Ans AnsO AnsG AnsN AnsI
end
theorem jX6 (v:Int):zUe v=true ↔ -1048576≤v∧v≤1048576:=by simp [zUe]
theorem Im.list_so {m:Im} (hs:m.so=true) (n:Nat):m.list n=List.replicate n m.c:=by
 unfold Im.list
 refine List.ext_getElem (by simp) fun i h1 h2=>?_
 simp [Im.nth,Im.px,hs]
theorem Im.count_pos {m:Im} (hf:m.formed=true):0 < m.w.toNat*m.h.toNat:=by
 obtain ⟨f1,f2,f3,f4,f5⟩:=zZ6 (Im.formed_of hf).1
 exact Nat.mul_pos (by omega) (by omega)
theorem Im.pixels_so {m:Im} (hf:m.formed=true) (hs:m.so=true):m.pixels=List.replicate (m.w.toNat*m.h.toNat) m.c:=by
 rw [Im.pixels_of hf,Im.list_so hs]
theorem Im.valid_iff {m:Im} (hf:m.formed=true) (most:Int):m.valid most=0↔∀ p∈m.pixels,p.ok most=true:=by
 obtain ⟨h1,h2⟩:=Im.formed_of hf
 unfold Im.valid
 rw [if_neg (by simp [h1]),if_neg (by simp [h2])]
 cases hs:m.so with
 | true=>
  rw [if_pos rfl,Im.pixels_so hf hs]
  have:=Im.count_pos hf
  constructor
  ·intro h p hp
   obtain ⟨_,rfl⟩:=List.mem_replicate.1 hp
   split at h
   ·assumption
   ·cases h
  ·intro h
   rw [if_pos (h m.c (List.mem_replicate.2 ⟨by omega,rfl⟩))]
 | false=>
  rw [if_neg (by simp),Im.pixels_of hf]
  unfold Im.okTo Im.count Im.list
  constructor
  ·intro h p hp
   split at h
   ·rename_i ha
    obtain ⟨k,hk,rfl⟩:=List.mem_map.1 hp
    exact List.all_eq_true.1 ha k hk
   ·cases h
  ·intro h
   rw [if_pos (List.all_eq_true.2 fun k hk=>h _ (List.mem_map.2 ⟨k,hk,rfl⟩))]
theorem zXH (n:Int) {most:Int} (h0:0≤most) (h1:most≤65535):0≤zQS n most∧zQS n most≤most:=by
 unfold zQS
 rw [IntWalk.i64_in most ⟨by omega,by omega⟩]
 have a2:=@zZr (IntKind.wrap .i64 (Int.tdiv n 8)) 2 (by omega) (by omega)
 have a4:=@zZr (IntKind.wrap .i64 (Int.tdiv n 8)) 4 (by omega) (by omega)
 split
 ·omega
 ·split
  ·omega
  ·split
   ·rw [IntWalk.i64_in (most+_) ⟨by omega,by omega⟩]
    have e:Int.tdiv (most+modS (IntKind.wrap .i64 (Int.tdiv n 8)) 2) 2=(most+modS (IntKind.wrap .i64 (Int.tdiv n 8)) 2) / 2:=Int.tdiv_eq_ediv_of_nonneg (by omega)
    rw [e,IntWalk.i64_in _ ⟨by omega,by omega⟩,IntWalk.u16_in _ ⟨by omega,by omega⟩]
    omega
   ·split
    ·rw [IntWalk.u16_in _ ⟨by omega,by omega⟩]
     omega
    ·rw [IntWalk.i64_in (most+1) ⟨by omega,by omega⟩]
     have a:=@zZr (IntKind.wrap .i64 (Int.tdiv n 8)) (most+1) (by omega) (by omega)
     rw [IntWalk.u16_in _ ⟨by omega,by omega⟩]
     omega
theorem jYl (n0 n1 n2 n3 n4:Int) {most:Int} (h0:0≤most) (h1:most≤65535):(zZv n0 n1 n2 n3 n4 most).ok most=true∧0≤(zZv n0 n1 n2 n3 n4 most).a∧0≤(zZv n0 n1 n2 n3 n4 most).b∧0≤(zZv n0 n1 n2 n3 n4 most).c∧0≤(zZv n0 n1 n2 n3 n4 most).al:=by
 have hf:=zXH n4 h0 h1
 have key:∀ a f:Int,0≤a→a≤f→f≤most→Px.ok ⟨zQS n0 a,zQS n1 a,zQS n2 a,a,f⟩ most=true∧0≤zQS n0 a∧0≤zQS n1 a∧0≤zQS n2 a∧0≤a:=fun a f k0 k1 k2=>by
  have q0:=zXH n0 k0 (by omega)
  have q1:=zXH n1 k0 (by omega)
  have q2:=zXH n2 k0 (by omega)
  simp [Px.ok]
  omega
 unfold zZv
 simp only
 split
 ·have ha:=zXH (IntKind.wrap .i64 (Int.tdiv n3 3)) hf.1 (by omega)
  exact key _ _ ha.1 ha.2 hf.2
 ·exact key _ _ hf.1 (Int.le_refl _) hf.2
def Px.fine (p:Px) (most:Int):Prop:=p.ok most=true∧0≤p.a∧0≤p.b∧0≤p.c∧0≤p.al
theorem jZv (mood:Int) (L:Nat) (xs:List DV) {most:Int} (h0:0≤most) (h1:most≤65535) (k:Nat):(gPx mood L xs most k).fine most:=by
 have hz:Px.zero.fine most:=⟨by simp [Px.ok,Px.zero,h0],by decide,by decide,by decide,by decide⟩
 have hp:∀ k,(gPx1 L xs most k).fine most:=fun k=>jYl _ _ _ _ _ h0 h1
 unfold gPx
 split
 ·exact hz
 ·split
  ·obtain ⟨a,b⟩:=hp k
   refine ⟨?_,b.1,b.2.1,b.2.2.1,h0⟩
   simp [Px.ok] at a ⊢
   omega
  ·split
   ·exact hp 0
   ·exact hp k
theorem zWO (pw ph so mood:Int) (L:Nat) (xs:List DV) (x0 y0 x1 y1:Int) {most:Int} (h0:0≤most) (h1:most≤65535) (hc:1≤x1 - x0∧x1 - x0≤100∧1≤y1 - y0∧y1 - y0≤100):∀ p∈(zQT pw ph so mood L xs x0 y0 x1 y1 most).pixels,p.fine most:=by
 have hf:=(zVE pw ph so mood L xs x0 y0 x1 y1 most hc).1
 intro p hp
 rw [zK0 pw ph so mood L xs x0 y0 x1 y1 most _ _ rfl rfl] at hf hp
 split at hf
 ·rename_i hs
  rw [if_pos hs,Im.pixels_so hf rfl] at hp
  obtain ⟨_,rfl⟩:=List.mem_replicate.1 hp
  exact jZv _ _ _ h0 h1 _
 ·rename_i hs
  rw [if_neg hs] at hp
  cases hk:ofOk (zX5 pw 5 x0 x1 pw) (zX5 ph 4 y0 y1 pw) (zQC mood L xs most (IntKind.wrap .i64 (zX5 pw 5 x0 x1 pw*zX5 ph 4 y0 y1 pw)).toNat).length with
  | true=>
   rw [(jQD hk).2] at hp
   unfold zQC at hp
   obtain ⟨k,_,rfl⟩:=List.mem_map.1 hp
   exact jZv _ _ _ h0 h1 _
  | false=>
   rw [zWI hk] at hf
   exact absurd hf (by decide)
def okO (bits:Int) (mn:Nat):List Oq→List Oq→Option (List Oq)
 | [],st=>some st
 | o::r,st=>if errO bits mn o st=0 then okO bits mn r (zH8 o st) else none
theorem zWv {bits:Int} {mn:Nat}:∀ (l m:List Oq) (st:List Oq),okO bits mn (l++m) st=(okO bits mn l st).bind (okO bits mn m)
 | [],m,st=>rfl
 | o::l,m,st=>by
  simp only [List.cons_append,okO]
  split
  ·exact zWv l m _
  ·rfl
theorem jZD {bits:Int} {mn:Nat} {st:List Oq} (h:st≠[]):errO bits mn popO st=0:=by
 have h1:popO.kind=3:=rfl
 have h2:popO.fields=true:=by decide
 unfold errO
 rw [if_neg (by rw [h1]; simp),if_neg (by rw [h2]; simp),if_pos h1,if_neg h]
theorem jZc {bits:Int} {mn:Nat}:∀ (n:Nat) (st:List Oq),n≤st.length→okO bits mn (List.replicate n popO) st=some (st.take (st.length - n))
 | 0,st,_=>by simp [okO]
 | n+1,st,h=>by
  have hne:st≠[]:=by intro e; subst e; simp at h
  have h1:popO.kind=3:=rfl
  rw [List.replicate_succ,okO,if_pos (jZD hne)]
  have e:zH8 popO st=st.dropLast:=by unfold zH8; rw [if_neg (by rw [h1]; decide),if_pos h1]
  rw [e,jZc n _ (by simp; omega),List.dropLast_eq_take,List.take_take]
  congr 2
  simp; omega
theorem jQt {bits:Int} {mn:Nat} {o:Oq} {st:List Oq} (h:errO bits mn o st=0):okO bits mn [o] st=some (zH8 o st):=by
 simp only [okO]; rw [if_pos h]
theorem zKZ {n c:Int} (h : -100≤c∧c≤100) : -200≤gOff n c∧gOff n c≤200:=by
 have b:=@zZr (IntKind.wrap .i64 (Int.tdiv n 3)) 9 (by omega) (by omega)
 unfold gOff
 split <;> omega
theorem jVt {bits:Int} {mn:Nat} {r:Rw} {push:Bool} {c:Rc} {most:Int} {st:List Oq} (hm:1≤mn∧mn≤64) (hc:(-100≤c.a∧c.a≤100) ∧ -100≤c.b∧c.b≤100) (hb:jKA bits=most) (h0:0≤most∧most≤65535) (hl:st.length < 64) :
  errO bits mn (gOp r push mn c (ctxB st) most) st=0:=by
 have b1:=@zZr r.im mn (by omega) (by omega)
 have b2:=@zZr (IntKind.wrap .i64 (Int.tdiv r.ma 4)) mn (by omega) (by omega)
 have b3:=@zZr (IntKind.wrap .i64 (Int.tdiv r.ope 2)) 12 (by omega) (by omega)
 have b4:=@zZr (IntKind.wrap .i64 (Int.tdiv r.mo 2)) 12 (by omega) (by omega)
 have o1:=@zKZ r.x c.a hc.1
 have o2:=@zKZ r.y c.b hc.2
 have o3:=@zKZ r.mx c.a hc.1
 have o4:=@zKZ r.my c.b hc.2
 have s1:=zXH (IntKind.wrap .i64 (Int.tdiv r.op 2)) h0.1 h0.2
 unfold errO
 rw [hb]
 rw [if_neg (by simp [gOp]; cases push <;> simp)]
 rw [if_neg (by
  cases push <;> simp only [gOp,Oq.fields] <;> by_cases q:modS r.ma 4=0 <;> simp [q] <;> omega)]
 rw [if_neg (by cases push <;> simp [gOp])]
 rw [if_neg (by
  cases push <;> simp only [gOp] <;> by_cases q:modS r.ma 4=0 <;> simp [q] <;> omega)]
 rw [if_neg (by
  simp only [Decidable.not_not,jX6,gOp]
  refine ⟨?_,?_,?_,?_⟩ <;> split <;> omega)]
 rw [if_neg (by simp only [gOp]; split <;> omega)]
 rw [if_neg (by simp only [gOp]; split <;> omega)]
 rw [if_neg (by simp only [gOp]; split <;> omega)]
 rw [if_neg (by
  simp only [gOp]
  intro ⟨h1,h2⟩
  rw [h2] at h1
  simp at h1)]
 rw [if_neg (by omega)]
theorem Scn.bits_max (s:Scn):jKA s.bits=s.most∧jJZ s.bits=true:=by
 have:=s.most_in
 unfold Scn.bits
 rcases this with h | h <;> rw [h] <;> decide
theorem Scn.run_okO (s:Scn) (k:Nat) (hk:k≤9):okO s.bits s.ims.length (s.run k).1 []=some (s.run k).2:=by
 induction k with
 | zero=>rfl
 | succ k ih=>
  have ih:=ih (by omega)
  have hl:=s.run_len k
  have F:=s.c_facts
  have li:=s.ims_len
  have hm:0≤s.most∧s.most≤65535:=by rcases s.most_in with h | h <;> rw [h] <;> omega
  by_cases h:modS (rwAt s.rxs (k*11)).k 8=0∧0 < (s.run k).2.length
  ·rw [Scn.run_pop h,zWv,ih]
   have hne:(s.run k).2≠[]:=by intro e; rw [e] at h; simp at h
   show okO _ _ [popO] _=_
   rw [jQt (jZD hne)]
   rfl
  ·obtain ⟨r1,r2⟩:=Scn.run_op h rfl
   have he:=@jVt s.bits s.ims.length (rwAt s.rxs (k*11)) (decide (modS (rwAt s.rxs (k*11)).k 8 < 3)) s.c s.most (s.run k).2 (by omega) (by omega) s.bits_max.1 hm (by omega)
   have hkd:(gOp (rwAt s.rxs (k*11)) (decide (modS (rwAt s.rxs (k*11)).k 8 < 3)) s.ims.length s.c (ctxB (s.run k).2) s.most).kind=if modS (rwAt s.rxs (k*11)).k 8 < 3 then 2 else 1:=by simp [gOp]
   generalize gOp (rwAt s.rxs (k*11)) (decide (modS (rwAt s.rxs (k*11)).k 8 < 3)) s.ims.length s.c (ctxB (s.run k).2) s.most=o at *
   by_cases h2:o.kind=2
   ·rw [r1 h2,zWv,ih]
    show okO _ _ [o] _=_
    rw [jQt he]
    unfold zH8
    rw [if_pos h2]
   ·have h3:o.kind≠3:=by rw [hkd]; split <;> decide
    rw [r2 h2,zWv,ih]
    show okO _ _ [o] _=_
    rw [jQt he]
    unfold zH8
    rw [if_neg h2,if_neg h3]
theorem Scn.ops_ok (s:Scn):okO s.bits s.ims.length s.ops []=some []:=by
 unfold Scn.ops
 rw [zWv,s.run_okO _ (by omega)]
 show okO _ _ _ _=_
 rw [jZc _ _ (Nat.le_refl _),Nat.sub_self]
 rfl
theorem Scn.ops_len (s:Scn):s.ops.length≤18:=by
 have:=s.run_len (min s.rn 9)
 unfold Scn.ops
 simp; omega
theorem Scn.ord_len (s:Scn):s.ord.length≤64:=by
 have ht:=s.tiles_in
 unfold Scn.ord zJq
 split
 ·simp
 ·have:=(zK6 (ints s.oxs) (n:=s.tiles.toNat) (by omega) s.tiles.toNat (Nat.le_refl _)).2
  omega
theorem Scn.fine (s:Scn):∀ m∈s.ims,m.formed=true∧(m.w≤100∧m.h≤100)∧m.valid s.most=0∧∀ more,(zXh m more).valid s.most=0:=by
 have CF:=s.c_facts
 have hq:1≤s.c.c - s.c.a∧s.c.c - s.c.a≤100∧1≤s.c.d - s.c.b∧s.c.d - s.c.b≤100:=by have:=s.facts; omega
 have hm:0≤s.most∧s.most≤65535:=by rcases s.most_in with h | h <;> rw [h] <;> omega
 have key:∀ m:Im,m.formed=true→m.w≤100∧m.h≤100→(∀ p∈m.pixels,p.fine s.most)→m.formed=true∧(m.w≤100∧m.h≤100)∧m.valid s.most=0∧∀ more,(zXh m more).valid s.most=0:=fun m h1 h2 h3=>by
  refine ⟨h1,h2,(Im.valid_iff h1 _).2 fun p hp=>(h3 p hp).1,fun more=>(Im.valid_iff (zJE h1 h2 more) _).2 fun p hp=>?_⟩
  rw [zWN h1 h2 more] at hp
  exact (h3 p hp).1
 intro m hmem
 unfold Scn.ims at hmem
 split at hmem
 ·rw [List.mem_singleton] at hmem
  subst hmem
  have F:=s.facts
  have hf:zQY s.gw s.gh=true:=by
   have:=Int.mul_le_mul F.2.2.1.2 F.2.2.2.1.2 (by omega) (by omega)
   simp [zQY]; omega
  refine key _ (zZ9 _ hf) ⟨by show s.gw≤100; omega,by show s.gh≤100; omega⟩ fun p hp=>?_
  change p∈(zQi s.gw s.gh ⟨s.most,0,0,s.most,s.most⟩).pixels at hp
  rw [Im.pixels_of (zZ9 _ hf),Im.list,List.mem_map] at hp
  obtain ⟨k,_,rfl⟩:=hp
  have e:(zQi s.gw s.gh ⟨s.most,0,0,s.most,s.most⟩).nth k=⟨s.most,0,0,s.most,s.most⟩:=by simp [Im.nth,Im.px,zQi]
  change ((zQi s.gw s.gh ⟨s.most,0,0,s.most,s.most⟩).nth k).fine s.most
  rw [e]
  exact ⟨by simp [Px.ok]; omega,by simp only; omega,by simp only; omega,by simp only; omega,by simp only; omega⟩
 ·simp only [Scn.pics,List.mem_map] at hmem
  obtain ⟨k,_,rfl⟩:=hmem
  obtain ⟨gf,g1,g2,g3,g4⟩:=zVE (nAt s.pxs (k*5)) (nAt s.pxs (k*5+1)) (nAt s.pxs (k*5+2)) (nAt s.pxs (k*5+3)) (lAt s.pxs (k*5+4)) (cAt s.pxs (k*5+4)) s.c.a s.c.b s.c.c s.c.d s.most hq
  exact key _ gf ⟨g2,g4⟩ fun p hp=>zWO _ _ _ _ _ _ _ _ _ _ hm.1 hm.2 hq p hp
theorem zYs {lo hi:Int} {l:List Int}:fitL lo hi l=true↔∀ v∈l,lo≤v∧v≤hi:=by
 unfold fitL
 rw [List.all_eq_true]
 simp
theorem jKs {o:Oq} (h1:0≤o.kind∧o.kind≤255) (h2:0≤o.image∧o.image≤255) (h3:0≤o.mask∧o.mask≤255) (h4:0≤o.oper∧o.oper≤255) (h5:0≤o.mode∧o.mode≤255)
  (h6 : -2147483648≤o.x∧o.x≤2147483647) (h7 : -2147483648≤o.y∧o.y≤2147483647) (h8 : -2147483648≤o.mx∧o.mx≤2147483647) (h9 : -2147483648≤o.my∧o.my≤2147483647):opOk o=true:=by
 unfold opOk
 rw [Bool.and_eq_true,zYs,zYs]
 refine ⟨fun v hv=>?_,fun v hv=>?_⟩ <;> simp only [List.mem_cons,List.not_mem_nil,or_false] at hv
 ·rcases hv with rfl | rfl | rfl | rfl | rfl <;> assumption
 ·rcases hv with rfl | rfl | rfl | rfl <;> assumption
theorem zGv {v:Int} (h:zUe v=true) : -2147483648≤v∧v≤2147483647:=by
 unfold zUe at h
 have:=of_decide_eq_true h
 omega
theorem jYt {bits:Int} {mn:Nat} {o:Oq} {st:List Oq} (h:errO bits mn o st=0) (hm:mn≤64):opOk o=true:=by
 unfold errO at h
 split at h
 ·cases h
 rename_i k1
 split at h
 ·cases h
 rename_i k2
 split at h
 ·rename_i k3
  have:o=popO:=by
   unfold Oq.fields at k2
   rw [if_pos k3] at k2
   simpa using k2
  subst this
  decide
 rename_i k3
 split at h
 ·cases h
 rename_i k4
 split at h
 ·cases h
 rename_i k5
 split at h
 ·cases h
 split at h
 ·cases h
 rename_i k7
 split at h
 ·cases h
 rename_i k8
 have k5:=Classical.not_not.1 k5
 have k7:=Classical.not_not.1 k7
 have k8:=Classical.not_not.1 k8
 have k1:=Classical.not_not.1 k1
 have hi:0≤o.image∧o.image≤255:=by
  rcases k1 with k1 | k1 | k1
  ·omega
  ·unfold Oq.fields at k2
   rw [if_neg k3] at k2
   have:o.image=0:=by
    by_cases hz:o.image=0
    ·exact hz
    ·exact absurd (by simp [k1,hz]) k2
   omega
  ·exact absurd k1 k3
 exact jKs (by omega) hi (by omega) (by omega) (by omega) (zGv k5.1) (zGv k5.2.1) (zGv k5.2.2.1) (zGv k5.2.2.2)
theorem jQu {bits:Int} {mn:Nat}:∀ {l st st':List Oq},okO bits mn l st=some st'→∀ o∈l,∃ s',errO bits mn o s'=0
 | a::l,st,st',h,o,ho=>by
  simp only [okO] at h
  split at h
  ·rcases List.mem_cons.1 ho with rfl | ho
   ·exact ⟨st,by assumption⟩
   ·exact jQu h o ho
  ·cases h
theorem Scn.ops_fit (s:Scn):s.ops.all opOk=true:=by
 rw [List.all_eq_true]
 intro o ho
 obtain ⟨st,h⟩:=jQu s.ops_ok o ho
 exact jYt h (by have:=s.ims_len; omega)
theorem Scn.ord_fit (s:Scn):∀ v∈s.ord,0≤v∧v≤4294967295:=by
 intro v hv
 have ht:=s.tiles_in
 by_cases hl:(ints s.oxs).length=0
 ·have:s.ord=[]:=by unfold Scn.ord zJq; rw [if_pos (.inl hl)]
  rw [this] at hv; cases hv
 ·have:=((jZ1 hl (by omega:s.tiles≤64)).mem_iff).1 hv
  simp only [upto,List.mem_map,List.mem_range] at this
  obtain ⟨i,hi,rfl⟩:=this
  show 0≤(i:Int)∧(i:Int)≤4294967295
  omega
theorem Scn.bits_fit (s:Scn):s.bits=8∨s.bits=16:=by
 have:=s.bits_of
 by_cases h:gMax s.b > 255
 ·exact .inr (this.1 h).symm
 ·exact .inl (this.2 h).symm
theorem zKE:∀ {l:List Im},(∀ m∈l,m.formed=true∧m.w≤100∧m.h≤100)→zQ0 l≤100009*(l.length:Int)
 | [],_=>by simp [zQ0]
 | m::l,h=>by
  have h1:=h m (by simp)
  have h2:=zKE (l:=l) fun m hm=>h m (by simp [hm])
  have h3:=jZw h1.1
  have h4:m.w*m.h≤10000:=by
   have:=Int.mul_le_mul_of_nonneg_left h1.2.2 (by omega:0≤m.w)
   omega
  have h5:zXm m≤100009:=by unfold zXm; split <;> omega
  simp only [zQ0,List.length_cons]
  omega
theorem Scn.enc (s:Scn) {ms:List Im} {os:List Oq} (h1:ms.length≤64) (h2:∀ m∈ms,m.formed=true∧m.w≤100∧m.h≤100) (h3:os.length≤100) (h4:os.all opOk=true):zZU ⟨s.bits,s.c,s.gtw,s.gth,s.ord,ms,os⟩=true:=by
 obtain ⟨f1,f2,f3,f4,f5,f6⟩:=s.facts
 have CF:=s.c_facts
 have hb:=s.bits_fit
 have ho:=s.ord_len
 have hz:=zKE h2
 have g1:fitL 0 255 [s.bits]=true:=zYs.2 fun v hv=>by
  simp only [List.mem_cons,List.not_mem_nil,or_false] at hv
  subst hv
  omega
 have g2:fitL (-2147483648) 2147483647 [s.c.a,s.c.b,s.c.c,s.c.d]=true:=zYs.2 fun v hv=>by
  simp only [List.mem_cons,List.not_mem_nil,or_false] at hv
  rcases hv with rfl | rfl | rfl | rfl <;> omega
 have g3:fitL 0 4294967295 [s.gtw,s.gth]=true:=zYs.2 fun v hv=>by
  simp only [List.mem_cons,List.not_mem_nil,or_false] at hv
  rcases hv with rfl | rfl <;> omega
 have g4:fitL 0 4294967295 s.ord=true:=zYs.2 s.ord_fit
 have g5:ms.all Im.formed=true:=List.all_eq_true.2 fun m hm=>(h2 m hm).1
 simp only [zZU,zX6,g1,g2,g3,g4,g5,h4,zXp,Bool.and_true,Bool.true_and,Bool.and_eq_true,decide_eq_true_eq]
 exact ⟨⟨h1,by omega⟩,decide_eq_true (by omega)⟩
theorem formed_of {m:Im} {most:Int} (h:m.valid most=0):m.formed=true:=by
 unfold Im.valid at h
 split at h
 ·cases h
 split at h
 ·cases h
 rename_i a b
 unfold Im.formed
 simp only [Bool.not_eq_false] at a b
 rw [a,b]; rfl
section
attribute [local irreducible] Ans AnsO AnsG AnsN AnsI
end
section
variable {α:Type} {f:α→List DV} {m:Nat}
end
def pxIn (p:Px):Prop:=(0≤p.a∧p.a≤65535)∧(0≤p.b∧p.b≤65535)∧(0≤p.c∧p.c≤65535)∧(0≤p.al∧p.al≤65535)∧(0≤p.f∧p.f≤65535)
def imIn (m:Im):Prop:=m.formed=true∧pxIn m.c∧∀ p∈m.pixels,pxIn p
def Im.nrm (m:Im):Im:=if m.so then zQi m.w m.h m.c else imOf m.w m.h m.pixels
def Scr.norm (s:Scr):Scr:=⟨s.bits,s.c,s.tw,s.th,s.ord,s.ims.map Im.nrm,s.ops⟩
theorem jKk {p:Px} {most:Int} (h:p.fine most) (hm:most≤65535):pxIn p:=by
 obtain ⟨h1,h2,h3,h4,h5⟩:=h
 simp [Px.ok] at h1
 exact ⟨by omega,by omega,by omega,by omega,by omega⟩
theorem jYf {m:Im} (hf:m.formed=true) (hp:∀ p∈m.pixels,pxIn p):imIn m:=by
 refine ⟨hf,?_,hp⟩
 by_cases hs:m.so=true
 ·have:=Im.count_pos hf
  refine hp _ ?_
  rw [Im.pixels_so hf hs]
  exact List.mem_replicate.2 ⟨by omega,rfl⟩
 ·rw [(Im.inner_planes (Im.formed_of hf).2 (by simpa using hs)).1]
  exact ⟨⟨by decide,by decide⟩,⟨by decide,by decide⟩,⟨by decide,by decide⟩,⟨by decide,by decide⟩,⟨by decide,by decide⟩⟩
theorem Scn.ims_in (s:Scn):∀ m∈s.ims,imIn m:=by
 have hq:1≤s.c.c - s.c.a∧s.c.c - s.c.a≤100∧1≤s.c.d - s.c.b∧s.c.d - s.c.b≤100:=by have:=s.facts; have CF:=s.c_facts; omega
 have hm:0≤s.most∧s.most≤65535:=by rcases s.most_in with h | h <;> rw [h] <;> omega
 intro m hmem
 refine jYf (s.fine m hmem).1 fun p hp=>jKk (most:=s.most) ?_ hm.2
 unfold Scn.ims at hmem
 split at hmem
 ·rw [List.mem_singleton] at hmem
  subst hmem
  have F:=s.facts
  have hf:zQY s.gw s.gh=true:=by
   have:=Int.mul_le_mul F.2.2.1.2 F.2.2.2.1.2 (by omega) (by omega)
   simp [zQY]; omega
  change p∈(zQi s.gw s.gh ⟨s.most,0,0,s.most,s.most⟩).pixels at hp
  rw [Im.pixels_of (zZ9 _ hf),Im.list,List.mem_map] at hp
  obtain ⟨k,_,rfl⟩:=hp
  have e:(zQi s.gw s.gh ⟨s.most,0,0,s.most,s.most⟩).nth k=⟨s.most,0,0,s.most,s.most⟩:=by simp [Im.nth,Im.px,zQi]
  change ((zQi s.gw s.gh ⟨s.most,0,0,s.most,s.most⟩).nth k).fine s.most
  rw [e]
  exact ⟨by simp [Px.ok]; omega,by simp only; omega,by simp only; omega,by simp only; omega,by simp only; omega⟩
 ·simp only [Scn.pics,List.mem_map] at hmem
  obtain ⟨k,_,rfl⟩:=hmem
  exact zWO _ _ _ _ _ _ _ _ _ _ hm.1 hm.2 hq p hp
theorem jJs (r:Rw) (push:Bool) (n:Int) (c:Rc) (free:Bool) {most:Int} (h0:0≤most) (h1:most≤65535):0≤(gOp r push n c free most).opac∧(gOp r push n c free most).opac≤65535:=by
 unfold gOp
 simp only
 split
 ·have:=zXH (IntKind.wrap .i64 (Int.tdiv r.op 2)) h0 h1
  omega
 ·omega
theorem Scn.run_opac (s:Scn):∀ k,∀ o∈(s.run k).1,0≤o.opac∧o.opac≤65535
 | 0,o,ho=>by cases ho
 | k+1,o,ho=>by
  have hm:0≤s.most∧s.most≤65535:=by rcases s.most_in with h | h <;> rw [h] <;> omega
  have ih:=s.run_opac k
  have ho:o∈(s.step (rwAt s.rxs (k*11)) (s.run k)).1:=ho
  unfold Scn.step at ho
  split at ho
  ·rcases List.mem_append.1 ho with h | h
   ·exact ih o h
   ·rw [List.mem_singleton] at h
    subst h
    exact ⟨by decide,by decide⟩
  ·rcases List.mem_append.1 ho with h | h
   ·exact ih o h
   ·rw [List.mem_singleton] at h
    subst h
    exact jJs _ _ _ _ _ hm.1 hm.2
theorem Scn.ops_opac (s:Scn):∀ o∈s.ops,0≤o.opac∧o.opac≤65535:=fun o ho=>by
 rcases List.mem_append.1 (show o∈(s.run (min s.rn 9)).1++List.replicate (s.run (min s.rn 9)).2.length popO from ho) with h | h
 ·exact s.run_opac _ o h
 ·rw [List.eq_of_mem_replicate h]
  exact ⟨by decide,by decide⟩
def Scn.scr (s:Scn):Scr:=⟨s.bits,s.c,s.gtw,s.gth,s.ord,s.ims,s.ops⟩
section
attribute [local irreducible] Ans AnsO AnsG AnsN AnsI
open Go.Lib
def imK (s:Scr) (k:Nat):Im:=(s.ims[k]?).getD .zero
theorem jVm {s:Scr} {k:Nat} (h:k < s.ims.length):imK s k=s.ims[k]:=by unfold imK; rw [List.getElem?_eq_getElem h]; rfl
def imH (m:Im):Lb:=zQD zQP [m.w,m.h]++[10]
def fmtA (s:Scr) (k:Nat):Lb:=hdTx s++orTx s++(s.ims.take k).flatMap imTx
def fmtC (s:Scr) (j:Nat):Lb:=fmtA s s.ims.length++(s.ops.take j).flatMap opLn
theorem zGC (s:Scr):fmtC s s.ops.length=fmtT s:=by
 unfold fmtC fmtA fmtT
 rw [List.take_length,List.take_length]
theorem zHL {s:Scr} {k:Nat} (h:k < s.ims.length):fmtA s (k+1)=fmtA s k++imTx s.ims[k]:=by
 unfold fmtA
 rw [List.take_succ_eq_append_getElem h,List.flatMap_append]
 simp only [List.append_assoc,List.flatMap_cons,List.flatMap_nil,List.append_nil]
theorem zHK {s:Scr} {j:Nat} (h:j < s.ops.length):fmtC s (j+1)=fmtC s j++opLn s.ops[j]:=by
 unfold fmtC
 rw [List.take_succ_eq_append_getElem h,List.flatMap_append]
 simp only [List.append_assoc,List.flatMap_cons,List.flatMap_nil,List.append_nil]
theorem zKp {α:Type} {f:α→Lb} {B:Nat} {l:List α} (h:∀ a∈l,(f a).length≤B):(l.flatMap f).length≤l.length*B:=by
 induction l with
 | nil=>simp
 | cons a l ih=>
  have h1:=h a (by simp)
  have h2:=ih fun b hb=>h b (by simp [hb])
  rw [List.flatMap_cons,List.length_append,List.length_cons,Nat.add_mul]
  omega
theorem zZX {w:Lb} {l:List Int} {n:Nat} (h:∀ x∈l,-9223372036854775808≤x∧x≤9223372036854775807) (hn:l.length=n):(zQD w l).length≤w.length+22*n:=by
 rw [← hn]; exact zKQ h
theorem zVV {p:Px} (h:pxIn p):(pxTx p).length≤111:=by
 obtain ⟨h1,h2,h3,h4,h5⟩:=h
 have:(zQD [] (smpP p)).length≤([]:Lb).length+22*5:=zZX (fun x hx=>by
  simp only [smpP,List.mem_cons,List.not_mem_nil,or_false] at hx
  omega) rfl
 unfold pxTx
 rw [List.length_append]
 simp only [List.length_nil,List.length_cons] at this ⊢
 omega
theorem zGi {o:Oq} (h:opOk o=true) (hc:0≤o.opac∧o.opac≤65535):(opTx o).length≤300:=by
 unfold opOk at h
 simp [fitL] at h
 have l1:=zUD o.oper
 have l2:=zVz o.mode
 have b1:=zGK o.iso
 have b2:=zGK o.kno
 have lt:(zYg o).length≤42:=by
  unfold zYg
  simp only [List.length_append,List.length_cons,List.length_nil]; omega
 have lD:(zQD zZV [o.image,o.x,o.y,o.mask,o.mx,o.my,o.opac]).length≤4+22*7:=zZX (fun n hn=>by
  simp only [List.mem_cons,List.not_mem_nil,or_false] at hn
  omega) rfl
 have lP:(zQD zZ0 [o.mask,o.mx,o.my,o.opac]).length≤4+22*4:=zZX (fun n hn=>by
  simp only [List.mem_cons,List.not_mem_nil,or_false] at hn
  omega) rfl
 have lT:(zQD (zYg o) [bitN o.iso,bitN o.kno]).length≤(zYg o).length+22*2:=zZX (fun n hn=>by
  simp only [List.mem_cons,List.not_mem_nil,or_false] at hn
  omega) rfl
 unfold opTx
 split
 ·rw [List.length_append]; omega
 ·split
  ·rw [List.length_append]; omega
  ·decide
structure Prt (s:Scr):Prop where
  bits:0≤s.bits∧s.bits≤255
  c:(-2147483648≤s.c.a∧s.c.a≤2147483647)∧(-2147483648≤s.c.b∧s.c.b≤2147483647)∧(-2147483648≤s.c.c∧s.c.c≤2147483647)∧(-2147483648≤s.c.d∧s.c.d≤2147483647)
  t:(0≤s.tw∧s.tw≤4294967295)∧(0≤s.th∧s.th≤4294967295)
  o:∀ x∈s.ord,0≤x∧x≤4294967295
  ol:s.ord.length≤16777216
  il:s.ims.length≤64
  pl:s.ops.length≤4096
  fm:∀ m∈s.ims,m.formed=true
  op:∀ o∈s.ops,opOk o=true∧prtO o=true
theorem zUB {s:Scr} (h:zYl s=true):Prt s:=by
 unfold zYl at h
 simp only [zZU,zX6,Bool.and_eq_true,decide_eq_true_eq] at h
 obtain ⟨⟨⟨⟨⟨⟨⟨⟨⟨h1,h2⟩,h3⟩,h4⟩,h5⟩,h6⟩,h7⟩,h8⟩,h9⟩,h10⟩:=h
 have z:=zXE h7
 simp [fitL] at h1 h2 h3
 simp only [fitL,List.all_eq_true,decide_eq_true_eq] at h4
 simp only [List.all_eq_true] at h7 h8 h10
 unfold zXp at h9
 exact ⟨h1,h2,h3,h4,by omega,h5,h6,h7,fun o ho=>⟨h8 o ho,h10 o ho⟩⟩
theorem Im.wh {m:Im} (h:m.formed=true):(1≤m.w∧m.w≤16777216)∧(1≤m.h∧m.h≤16777216):=by
 have h1:=(Im.formed_of h).1
 have h2:=sizeIm_le' h
 simp [zQY] at h1
 have h3:=Int.mul_le_mul_of_nonneg_left (by omega:1≤m.h) (by omega:0≤m.w)
 have h4:=Int.mul_le_mul_of_nonneg_right (by omega:1≤m.w) (by omega:0≤m.h)
 omega
theorem jJl {m:Im} (h:imIn m):(imTx m).length≤1862271376:=by
 have hw:=Im.wh h.1
 have hpx:=Im.pixels_len h.1
 have hle:=sizeIm_le' h.1
 have l1:(zQD zQN [m.w,m.h]).length≤5+22*2:=zZX (fun n hn=>by
  simp only [List.mem_cons,List.not_mem_nil,or_false] at hn
  omega) rfl
 have l3:(zQD zQP [m.w,m.h]).length≤5+22*2:=zZX (fun n hn=>by
  simp only [List.mem_cons,List.not_mem_nil,or_false] at hn
  omega) rfl
 have hc:=h.2.1
 obtain ⟨c1,c2,c3,c4,c5⟩:=hc
 have l2:(zQD (zQD zQN [m.w,m.h]) (smpP m.c)).length≤(zQD zQN [m.w,m.h]).length+22*5:=zZX (fun x hx=>by
  simp only [smpP,List.mem_cons,List.not_mem_nil,or_false] at hx
  omega) rfl
 have l4:=zKp (f:=pxTx) (B:=111) (l:=m.pixels) fun p hp=>zVV (h.2.2 p hp)
 unfold imTx
 split
 ·simp only [List.length_append,List.length_cons,List.length_nil]; omega
 ·simp only [List.length_append,List.length_cons,List.length_nil]; omega
theorem zV0 {s:Scr} (P:Prt s):(zQD zX3 [s.bits]).length≤4+22*1∧(zQD zZw [s.c.a,s.c.b,s.c.c,s.c.d]).length≤6+22*4∧(zQD zZ3 [s.tw,s.th]).length≤5+22*2∧(zQD zZj s.ord).length≤5+22*s.ord.length:=by
 obtain ⟨p1,p2,p3,p4,p5,p6,p7,p8,p9⟩:=P
 refine ⟨zZX (fun n hn=>?_) rfl,zZX (fun n hn=>?_) rfl,zZX (fun n hn=>?_) rfl,zZX (fun n hn=>?_) rfl⟩
 ·simp only [List.mem_cons,List.not_mem_nil,or_false] at hn; omega
 ·simp only [List.mem_cons,List.not_mem_nil,or_false] at hn; omega
 ·simp only [List.mem_cons,List.not_mem_nil,or_false] at hn; omega
 ·have:=p4 n hn; omega
theorem zGD {s:Scr} (P:Prt s) (hI:∀ m∈s.ims,imIn m) (k:Nat):(fmtA s k).length≤130000000000:=by
 have h:=zV0 P
 obtain ⟨p1,p2,p3,p4,p5,p6,p7,p8,p9⟩:=P
 have h1:=zKp (f:=imTx) (B:=1862271376) (l:=s.ims.take k) fun m hm=>jJl (hI m (List.mem_of_mem_take hm))
 have h2:(s.ims.take k).length≤64:=by rw [List.length_take]; omega
 have h3:(orTx s).length≤5+22*s.ord.length+1:=by
  unfold orTx
  split
  ·simp only [List.length_append,List.length_cons,List.length_nil]; omega
  ·simp
 unfold fmtA hdTx
 simp only [List.length_append,List.length_cons,List.length_nil]
 omega
theorem jZx {s:Scr} (P:Prt s) (hI:∀ m∈s.ims,imIn m) (hq:∀ o∈s.ops,0≤o.opac∧o.opac≤65535) (j:Nat):(fmtC s j).length≤140000000000:=by
 have h:=zGD P hI s.ims.length
 obtain ⟨p1,p2,p3,p4,p5,p6,p7,p8,p9⟩:=P
 have h1:=zKp (f:=opLn) (B:=301) (l:=s.ops.take j) fun o ho=>by
  have hm:=List.mem_of_mem_take ho
  have:=zGi (p9 o hm).1 (hq o hm)
  unfold opLn
  simp only [List.length_append,List.length_cons,List.length_nil]
  omega
 have h2:(s.ops.take j).length≤4096:=by rw [List.length_take]; omega
 unfold fmtC
 rw [List.length_append]
 omega
theorem jKP {m:Im} (h:m.formed=true):(zQD zQP [m.w,m.h]).length≤5+22*2:=by
 have hw:=Im.wh h
 exact zZX (fun n hn=>by
  simp only [List.mem_cons,List.not_mem_nil,or_false] at hn
  omega) rfl
theorem samples_ans' (p:Px):Ans prog 32 [RV.agg [DV.int .u16 p.a,DV.int .u16 p.b,DV.int .u16 p.c,DV.int .u16 p.al,DV.int .u16 p.f]] (RV.d (DV.sl 5 (is (smpP p)))):=zW4 p
theorem jZm (w:Lb) (p:Px) (hw:w.length≤1000):Ans prog 31 [RV.d (DV.str (toS w)),RV.d (DV.sl 5 (is (smpP p)))] (RV.d (DV.str (toS (zQD w (smpP p))))):=R18_line_ans' w (smpP p) hw (by simp [smpP])
def jVG:Gam where
 pure:=fun f xs=>
  if f=30 then gZ23 xs else
  if f=31 then gZ24 xs else
  if f=32 then gZ25 xs else
  if f=34 then gZ26 xs else
  if f=33 then gZ13 xs else
  none
 modes:=fun f=>
  none
 proc:=fun f xs bs=>
  none
 iter:=fun f cs=>
  none
theorem zUk (s:Scr) (hM:∀ m∈s.ims,m.isU) (hp:∀ m∈s.ims,m.formed=true→imIn m) (hq:∀ o∈s.ops,0≤o.opac∧o.opac≤65535):Ans prog 12 [RV.agg [dJ s.bits,dJ s.c.a,dJ s.c.b,dJ s.c.c,dJ s.c.d,dJ s.tw,dJ s.th,dS s.ord.length (is s.ord),dS s.ims.length (ims s.ims),dS s.ops.length (ops s.ops)]] (RV.tup [RV.d (DV.str (toS (fmtR s).1)),rJ (((fmtR s).2))]):=
 zQj (Γ:=jVG) (let a:=(1,AV.one (Cl.ptr 1 0)); let b:=[(1,bC [cJ s.bits,cJ s.c.a,cJ s.c.b,cJ s.c.c,cJ s.c.d,cJ s.tw,cJ s.th,Cl.d (dS s.ord.length (is s.ord)),Cl.d (dS s.ims.length (ims s.ims)),Cl.d (dS s.ops.length (ops s.ops))])]; let c:=fun (k:Nat)=>(6,aJ (k:Int)); (Ann.seq Ann.leaf (Ann.seq Ann.leaf (Ann.seq Ann.leaf (Ann.seq Ann.leaf (Ann.cut ⟨Nat,fun z=>z=0,fun z=>⟨[a,(5,AV.one (Cl.d (DV.str (toS (hdTx s++orTx s)))))],b⟩,fun z=>0⟩ Ann.leaf fun z=>(Ann.seq (Ann.seq Ann.leaf (Ann.loop ⟨Nat,fun k=>k≤s.ims.length,fun k=>⟨[a,(5,AV.one (Cl.d (DV.str (toS (fmtA s k))))),(c k)],b⟩,fun k=>s.ims.length - k⟩ fun k=>(Ann.seq Ann.leaf (Ann.seq (Ann.seq Ann.leaf (Ann.seq Ann.leaf (Ann.seq Ann.leaf (Ann.seq Ann.leaf (Ann.seq Ann.leaf (Ann.loop ⟨Nat,fun q=>q≤(imK s k).pixels.length,fun q=>⟨[a,(5,AV.one (Cl.d (DV.str (toS (fmtA s k++imH (imK s k)++((imK s k).pixels.take q).flatMap pxTx))))),(c k),(8,AV.one (Cl.d (dS (imK s k).pixels.length (pxs (imK s k).pixels)))),(9,aJ (q:Int))],b⟩,fun q=>(imK s k).pixels.length - q⟩ fun q=>Ann.leaf)))))) Ann.leaf)))) (Ann.seq (Ann.seq Ann.leaf (Ann.loop ⟨Nat,fun j=>j≤s.ops.length,fun j=>⟨[a,(5,AV.one (Cl.d (DV.str (toS (fmtC s j))))),(10,aJ (j:Int))],b⟩,fun j=>s.ops.length - j⟩ fun j=>Ann.leaf)) Ann.leaf)))))))) zQy Tryz.func12 rfl (Nat.le_of_ble_eq_true rfl) fun hwf=>by
  refine Eq.mpr (by kernel_rfl:_=(let H:=(decide ((s.ord.length:Int) > 0)); let I:=(s.ops.length:Int); let J:=(s.ims.length:Int); let K:=([dJ s.c.a,dJ s.c.b,dJ s.c.c,dJ s.c.d]); let x:=(toS (hdTx s++orTx s)); let h:=(toS (zQD (ofS (⟨#[116,105,108,101,115]⟩:ByteArray)) (ints ([dJ s.tw,dJ s.th])))); let L:=(⟨#[115,111,108,105,100]⟩:ByteArray); let m:=(toS (zQD (ofS (⟨#[98,105,116,115]⟩:ByteArray)) (ints ([dJ s.bits])))); let n:=(toS (zQD (ofS (⟨#[111,114,100,101,114]⟩:ByteArray)) (ints (is s.ord)))); let y:=(toS (zQD (ofS (⟨#[99,97,110,118,97,115]⟩:ByteArray)) (ints K))); let i:=((m++(⟨#[10]⟩:ByteArray))++y); let M:=(⟨#[105,109,97,103,101]⟩:ByteArray); let A:=(zYl ((sE s):Scr)); let B:=[dJ s.bits,dJ s.c.a,dJ s.c.b,dJ s.c.c,dJ s.c.d,dJ s.tw,dJ s.th,dS s.ord.length (is s.ord),dS s.ims.length (ims s.ims),dS s.ops.length (ops s.ops)]; let N:=(DV.str (⟨#[]⟩:ByteArray)); let O:=[RV.d (DV.str (toS (fmtR s).1)),rJ (fmtR s).2]; let a:=((B=B)∧True); let P:=fun (k:Nat)=>fun (k':Nat)=>(s.ims.length - k' < s.ims.length - k); let Q:=fun (k:Nat)=>fun (k':Nat)=>(dJ (wK ((k:Int)+1))=dJ (k':Int)); let R:=fun (k:Nat)=>fun (q:Nat)=>(q≤(imK s k).pixels.length); let S:=fun (k:Nat)=>(dJ (k:Int)=dJ (k:Int)); tU4 ((Ans prog 30 [RV.agg B] (RV.d (dQ A)))∧True∧(((!A)=true→tU2 (RV.tup [RV.d N,rJ 19]=RV.tup O))∧((!A)=false→tU7 ((Ans prog 31 [RV.d (DV.str (⟨#[98,105,116,115]⟩:ByteArray)),RV.d (dS 1 ([dJ s.bits]))] (RV.d (DV.str m)))∧(m.size+(⟨#[10]⟩:ByteArray).size≤maxLen)∧True∧tU8 ((Ans prog 31 [RV.d (DV.str (⟨#[99,97,110,118,97,115]⟩:ByteArray)),RV.d (dS 4 K)] (RV.d (DV.str y)))∧((m++(⟨#[10]⟩:ByteArray)).size+y.size≤maxLen)∧(i.size+(⟨#[10]⟩:ByteArray).size≤maxLen)∧tU5 ((Ans prog 31 [RV.d (DV.str (⟨#[116,105,108,101,115]⟩:ByteArray)),RV.d (dS 2 ([dJ s.tw,dJ s.th]))] (RV.d (DV.str h)))∧((i++(⟨#[10]⟩:ByteArray)).size+h.size≤maxLen)∧(((i++(⟨#[10]⟩:ByteArray))++h).size+(⟨#[10]⟩:ByteArray).size≤maxLen)∧True∧(true=true)∧(tU4 ((H=true→tU3 ((Ans prog 31 [RV.d (DV.str (⟨#[111,114,100,101,114]⟩:ByteArray)),RV.d (dS s.ord.length (is s.ord))] (RV.d (DV.str n)))∧(n.size+(⟨#[10]⟩:ByteArray).size≤maxLen)∧((((i++(⟨#[10]⟩:ByteArray))++h)++(⟨#[10]⟩:ByteArray)).size+(n++(⟨#[10]⟩:ByteArray)).size≤maxLen)∧True∧∃ z:Nat,(z=0)∧(((0=0)∧(DV.str ((((i++(⟨#[10]⟩:ByteArray))++h)++(⟨#[10]⟩:ByteArray))++(n++(⟨#[10]⟩:ByteArray)))=DV.str x)∧True)∧a)))∧(H=false→∃ z:Nat,(z=0)∧(((0=0)∧(DV.str (((i++(⟨#[10]⟩:ByteArray))++h)++(⟨#[10]⟩:ByteArray))=DV.str x)∧True)∧a))))∧∀ z:Nat,(z=0)→True∧((∃ k:Nat,(k≤s.ims.length)∧(((0=0)∧(DV.str x=DV.str (toS (fmtA s k)))∧(dJ 0=dJ (k:Int))∧True)∧a))∧∀ k:Nat,let T:=(decide ((k:Int) < J)); let U:=(bAt (ims s.ims) ((k:Int).toNat*28+1+1)); let o:=((k:Int).toNat*28); let l:=(toS (fmtA s k)); let V:=(((imK s k).pixels.length:Nat):Int); let p:=(Im.pixels (imQ (ims s.ims) o)); let b:=(pxs (imK s k).pixels); let c:=(nAt (ims s.ims) ((k:Int).toNat*28+1+1+1)); let d:=(nAt (ims s.ims) ((k:Int).toNat*28+1+1+1+1)); let e:=(nAt (ims s.ims) ((k:Int).toNat*28+1+1+1+1+1)); let f:=(nAt (ims s.ims) ((k:Int).toNat*28+1+1+1+1+1+1)); let g:=(nAt (ims s.ims) ((k:Int).toNat*28+1+1+1+1+1+1+1)); let r:=([dJ (nAt (ims s.ims) o),dJ (nAt (ims s.ims) ((k:Int).toNat*28+1))]); let t:=(toS (zQD (ofS M) (ints r))); let C:=(toS (zQD (ofS L) (ints r))); let u:=(ofS C); (k≤s.ims.length)→tU5 ((T=true→tU3 ((0≤(k:Int)∧(k:Int) < J∧(k:Int).toNat*28 < (ims s.ims).length)∧(imQr (ims s.ims) o)∧tU4 ((U=true→tU6 ((Ans prog 31 [RV.d (DV.str L),RV.d (dS 2 r)] (RV.d (DV.str C)))∧tU2 ((Ans prog 32 [RV.agg [dK c,dK d,dK e,dK f,dK g]] (RV.d (dS 5 (is (smpP (⟨c,d,e,f,g⟩:Px))))))∧(Ans prog 31 [RV.d (DV.str C),RV.d (dS 5 (is (smpP (⟨c,d,e,f,g⟩:Px))))] (RV.d (DV.str (toS (zQD u (ints (is (smpP (⟨c,d,e,f,g⟩:Px)))))))))∧((toS (zQD u (ints (is (smpP (⟨c,d,e,f,g⟩:Px)))))).size+(⟨#[10]⟩:ByteArray).size≤maxLen)∧(l.size+((toS (zQD u (ints (is (smpP (⟨c,d,e,f,g⟩:Px))))))++(⟨#[10]⟩:ByteArray)).size≤maxLen)∧True∧(true=true)∧tU3 (∃ k':Nat,(k'≤s.ims.length)∧(P k k')∧(((0=0)∧(DV.str (l++((toS (zQD u (ints (is (smpP (⟨c,d,e,f,g⟩:Px))))))++(⟨#[10]⟩:ByteArray)))=DV.str (toS (fmtA s k')))∧(Q k k')∧True)∧a)))))∧(U=false→tU6 ((Ans prog 31 [RV.d (DV.str M),RV.d (dS 2 r)] (RV.d (DV.str t)))∧(t.size+(⟨#[10]⟩:ByteArray).size≤maxLen)∧(l.size+(t++(⟨#[10]⟩:ByteArray)).size≤maxLen)∧tU2 ((AnsO prog 33 [imR (imQ (ims s.ims) o)] 37 5 p.length (pxs p))∧tU2 ((∃ q:Nat,(R k q)∧(((0=0)∧(DV.str (l++(t++(⟨#[10]⟩:ByteArray)))=DV.str (toS (fmtA s k++imH (imK s k)++((imK s k).pixels.take q).flatMap pxTx)))∧(S k)∧(dS p.length (pxs p)=dS (imK s k).pixels.length b)∧(dJ 0=dJ (q:Int))∧True)∧a))∧∀ q:Nat,let W:=(decide ((q:Int) < V)); let D:=((q:Int).toNat*5); let E:=(toS (fmtA s k++imH (imK s k)++((imK s k).pixels.take q).flatMap pxTx)); let F:=(is (smpP ((pxQ b D):Px))); let v:=(ints F); (R k q)→tU4 ((W=true→tU3 ((0≤(q:Int)∧(q:Int) < V∧(q:Int).toNat*5 < b.length)∧(pxQr b D)∧(Ans prog 32 [RV.agg (pxQ b D).ds] (RV.d (dS 5 F)))∧(Ans prog 31 [RV.d N,RV.d (dS 5 F)] (RV.d (DV.str (toS (zQD (ofS (⟨#[]⟩:ByteArray)) v)))))∧((toS (zQD (ofS (⟨#[]⟩:ByteArray)) v)).size+(⟨#[10]⟩:ByteArray).size≤maxLen)∧(E.size+((toS (zQD (ofS (⟨#[]⟩:ByteArray)) v))++(⟨#[10]⟩:ByteArray)).size≤maxLen)∧tU4 (∃ q':Nat,(q'≤(imK s k).pixels.length)∧((imK s k).pixels.length - q' < (imK s k).pixels.length - q)∧(((0=0)∧(DV.str (E++((toS (zQD (ofS (⟨#[]⟩:ByteArray)) v))++(⟨#[10]⟩:ByteArray)))=DV.str (toS (fmtA s k++imH (imK s k)++((imK s k).pixels.take q').flatMap pxTx)))∧(S k)∧(dS (imK s k).pixels.length b=dS (imK s k).pixels.length b)∧(dJ (wK ((q:Int)+1))=dJ (q':Int))∧True)∧a))))∧(W=false→tU3 (∃ k':Nat,(k'≤s.ims.length)∧(P k k')∧(((0=0)∧(DV.str E=DV.str (toS (fmtA s k')))∧(Q k k')∧True)∧a)))))))))))∧(T=false→True∧((∃ j:Nat,(j≤s.ops.length)∧(((0=0)∧(DV.str l=DV.str (toS (fmtC s j)))∧(dJ 0=dJ (j:Int))∧True)∧a))∧∀ j:Nat,let X:=(decide ((j:Int) < I)); let G:=(toS (fmtC s j)); let Y:=(oqQ (ops s.ops) ((j:Int).toNat*12)); let w:=(toS (opTx (Y:Oq))); (j≤s.ops.length)→tU5 ((X=true→tU4 ((0≤(j:Int)∧(j:Int) < I∧(j:Int).toNat*12 < (ops s.ops).length)∧(oqQr (ops s.ops) ((j:Int).toNat*12))∧(Ans prog 34 [RV.agg Y.cells] (RV.d (DV.str w)))∧(w.size+(⟨#[10]⟩:ByteArray).size≤maxLen)∧(G.size+(w++(⟨#[10]⟩:ByteArray)).size≤maxLen)∧tU4 (∃ j':Nat,(j'≤s.ops.length)∧(s.ops.length - j' < s.ops.length - j)∧(((0=0)∧(DV.str (G++(w++(⟨#[10]⟩:ByteArray)))=DV.str (toS (fmtC s j')))∧(dJ (wK ((j:Int)+1))=dJ (j':Int))∧True)∧a))))∧(X=false→tU3 (RV.tup [RV.d (DV.str G),rJ 0]=RV.tup O))))))))))))))) ?_
  delta sE tU2 tU3 tU4 tU5 tU6 tU7 tU8 dJ dK dQ wK dS rJ
  simp only [sS,imQ,imQr,oqQ,oqQr,pxQ,pxQr]
  have hM9:∀ k:Nat,k≤1000000000000→k≤maxLen:=fun k h=>by unfold maxLen; omega
  have aF:=zVm s
  have aB:=R18_line_ans' zX3 [s.bits] (by decide) (by simp)
  have aC:=R18_line_ans' zZw [s.c.a,s.c.b,s.c.c,s.c.d] (by decide) (by simp)
  have aT:=R18_line_ans' zZ3 [s.tw,s.th] (by decide) (by simp)
  have e10:(⟨#[10]⟩:ByteArray)=toS [10]:=rfl
  have e0:(⟨#[]⟩:ByteArray)=toS []:=rfl
  have lb:(⟨#[98,105,116,115]⟩:ByteArray)=toS zX3:=rfl
  have lc:(⟨#[99,97,110,118,97,115]⟩:ByteArray)=toS zZw:=rfl
  have lt:(⟨#[116,105,108,101,115]⟩:ByteArray)=toS zZ3:=rfl
  have lso:(⟨#[115,111,108,105,100]⟩:ByteArray)=toS zQN:=rfl
  have lor:(⟨#[111,114,100,101,114]⟩:ByteArray)=toS zZj:=rfl
  have lim:(⟨#[105,109,97,103,101]⟩:ByteArray)=toS zQP:=rfl
  have i1:∀ a:Int,ints [DV.int .i64 a]=[a]:=fun _=>rfl
  have i2:∀ a b:Int,ints [DV.int .i64 a,DV.int .i64 b]=[a,b]:=fun _ _=>rfl
  have i4:∀ a b c d:Int,ints [DV.int .i64 a,DV.int .i64 b,DV.int .i64 c,DV.int .i64 d]=[a,b,c,d]:=fun _ _ _ _=>rfl
  clear hwf
  simp only [zQM,zZx,zZe,Scr.eta_,zQX,DV.str.injEq,e10,e0,lb,lc,lt,lso,lor,lim,zYA,zQF,i1,i2,i4] at aF ⊢
  refine ⟨aF,fun h=>?_,fun h=>?_⟩
  ·have e:fmtR s=([],19):=by unfold fmtR; rw [if_neg (by rw [h]; decide)]
   rw [e]; exact ⟨rfl,rfl⟩
  ·have eR:fmtR s=(fmtT s,0):=by unfold fmtR; rw [if_pos h]
   have P:=zUB h
   have hI:∀ m∈s.ims,imIn m:=fun m hm=>hp m hm (P.fm m hm)
   obtain ⟨b1,b2,b3,b4⟩:=zV0 P
   have hAl:=zGD P hI
   have hCl:=jZx P hI hq
   have hol:=P.ol
   have hil:=P.il
   have hpl:=P.pl
   have aO:=R18_line_ans' zZj s.ord (by decide) (by omega)
   simp only [List.length_append,List.length_cons,List.length_nil]
   refine ⟨aB,hM9 _ (by omega),aC,hM9 _ (by omega),hM9 _ (by omega),aT,hM9 _ (by omega),hM9 _ (by omega),⟨fun h1=>⟨aO,hM9 _ (by omega),hM9 _ (by omega),0,rfl,zYh ?_⟩,fun h1=>⟨0,rfl,zYh ?_⟩⟩,fun z _=>⟨⟨0,Nat.zero_le _,?_,rfl⟩,fun k hk=>⟨fun hlt=>?_,fun hge=>?_⟩⟩⟩
   ·unfold hdTx orTx
    rw [if_pos (by omega)]
   ·unfold hdTx orTx
    rw [if_neg (by omega)]
    simp
   ·refine zYh ?_
    unfold fmtA; simp
   ·have hk:k < s.ims.length:=by omega
    obtain ⟨m,hmk⟩:∃ m,s.ims[k]=m:=⟨_,rfl⟩
    have q1:=zUO hk
    have q2:=zUP hk
    have em:=jVm hk
    have eS:=zHL hk
    have hm:m∈s.ims:=hmk ▸ List.getElem_mem hk
    simp only [hmk] at q1 q2 em eS
    clear hmk
    have w1:IntKind.wrap .i64 ((k:Int)+1)=((k+1:Nat):Int):=by rw [IntWalk.i64_in _ ⟨by omega,by omega⟩]; omega
    have hIk:=hI _ hm
    have hfm:=hIk.1
    have po:=zGS m (hM _ hm)
    have hpx:=Im.pixels_len hfm
    have hpl:m.pixels.length≤16777216:=by have:=(sizeIm_le' hfm); omega
    have hwh:=Im.wh hfm
    have hAk:=hAl k
    have lH:=jKP hfm
    have l1:(zQD zQN [m.w,m.h]).length≤5+22*2:=zZX (fun n hn=>by
     simp only [List.mem_cons,List.not_mem_nil,or_false] at hn
     omega) rfl
    have l2:(zQD (zQD zQN [m.w,m.h]) (smpP m.c)).length≤(zQD zQN [m.w,m.h]).length+22*5:=zZX (fun x hx=>by
     obtain ⟨c1,c2,c3,c4,c5⟩:=hIk.2.1
     simp only [smpP,List.mem_cons,List.not_mem_nil,or_false] at hx
     omega) rfl
    have aS:=R18_line_ans' zQN [m.w,m.h] (by decide) (by simp)
    have aI:=R18_line_ans' zQP [m.w,m.h] (by decide) (by simp)
    have aP:=samples_ans' m.c
    have aQ:=jZm (zQD zQN [m.w,m.h]) m.c (by omega)
    have pe:∀ p:Px,(⟨p.a,p.b,p.c,p.al,p.f⟩:Px)=p:=fun _=>rfl
    simp only [q2,w1,em,pe]
    refine ⟨⟨by omega,by omega,by rw [zZ2]; omega⟩,q1,fun h1=>⟨aS,aP,aQ,hM9 _ (by omega),hM9 _ (by omega),k+1,by omega,by omega,zYh ?_,rfl⟩,fun h1=>⟨aI,hM9 _ (by omega),hM9 _ (by omega),po,⟨0,Nat.zero_le _,zYh ?_,⟨trivial,trivial⟩,rfl⟩,fun q hq=>⟨fun hlt=>?_,fun hge=>?_⟩⟩⟩
    ·rw [eS]; unfold imTx; rw [if_pos h1]
    ·unfold imH; simp
    ·have hq':q < m.pixels.length:=by omega
     obtain ⟨p,hpq⟩:∃ p,m.pixels[q]=p:=⟨_,rfl⟩
     have hpm:p∈m.pixels:=hpq ▸ List.getElem_mem hq'
     have tk:=List.take_succ_eq_append_getElem hq'
     have x:=zHm hq'
     simp only [hpq] at tk x
     clear hpq
     have w2:IntKind.wrap .i64 ((q:Int)+1)=((q+1:Nat):Int):=by rw [IntWalk.i64_in _ ⟨by omega,by omega⟩]; omega
     obtain ⟨x0,x1,x2,x3,x4⟩:=x
     have n0:nAt (pxs m.pixels) (q*5)=p.a:=by simp [nAt,x0]
     have n1:nAt (pxs m.pixels) (q*5+1)=p.b:=by simp [nAt,x1]
     have n2:nAt (pxs m.pixels) (q*5+1+1)=p.c:=by simp [nAt,x2]
     have n3:nAt (pxs m.pixels) (q*5+1+1+1)=p.al:=by simp [nAt,x3]
     have n4:nAt (pxs m.pixels) (q*5+1+1+1+1)=p.f:=by simp [nAt,x4]
     have aX:=samples_ans' p
     have aL:=jZm [] p (by simp)
     have lX:=zVV (hIk.2.2 _ hpm)
     have lF:=zKp (f:=pxTx) (B:=111) (l:=m.pixels.take q) fun p hp=>zVV (hIk.2.2 p (List.mem_of_mem_take hp))
     have lFt:(m.pixels.take q).length=q:=by rw [List.length_take]; omega
     have lY:(zQD [] (smpP p)).length≤111:=by
      unfold pxTx at lX
      simp only [List.length_append,List.length_cons,List.length_nil] at lX
      omega
     have lI:(imH m).length≤50:=by
      unfold imH
      simp only [List.length_append,List.length_cons,List.length_nil]
      omega
     have hT:fmtA s k++imH m++(m.pixels.take q).flatMap pxTx++(zQD [] (smpP p)++[10])=fmtA s k++imH m++(m.pixels.take (q+1)).flatMap pxTx:=by
      rw [tk,List.flatMap_append]
      simp only [List.append_assoc,List.flatMap_cons,List.flatMap_nil,List.append_nil]
      rfl
     simp only [n0,n1,n2,n3,n4,w2,pe]
     have m1:(zQD [] (smpP p)).length+(0+1)≤maxLen:=hM9 _ (by clear hAl hCl; omega)
     have m2:(fmtA s k++imH m++(m.pixels.take q).flatMap pxTx).length≤200000000000:=by
      rw [List.length_append,List.length_append]; clear hAl hCl; omega
     refine ⟨⟨by omega,by omega,by rw [zZI]; omega⟩,⟨x0,x1,x2,x3,x4⟩,aX,aL,m1,?_,q+1,by omega,by omega,?_,rfl⟩
     ·refine hM9 _ ?_
      simp only [List.length_append] at m2 ⊢
      clear hAl hCl; omega
     ·exact zYh hT
    ·have:q=m.pixels.length:=by omega
     subst this
     refine ⟨k+1,by omega,by omega,zYh ?_,rfl⟩
     rw [eS,List.take_length]
     unfold imTx imH
     rw [if_neg (by rw [h1]; decide)]
     simp only [List.append_assoc]
   ·have:k=s.ims.length:=by omega
    subst this
    refine ⟨⟨0,Nat.zero_le _,zYh ?_,rfl⟩,fun j hj=>⟨fun hlt=>?_,fun hge=>?_⟩⟩
    ·unfold fmtC; simp
    ·have hj:j < s.ops.length:=by omega
     obtain ⟨o,hoj⟩:∃ o,s.ops[j]=o:=⟨_,rfl⟩
     have q1:=zVx hj
     have q2:=zVy hj
     have eS:=zHK hj
     have hm:o∈s.ops:=hoj ▸ List.getElem_mem hj
     simp only [hoj] at q1 q2 eS
     clear hoj
     have w1:IntKind.wrap .i64 ((j:Int)+1)=((j+1:Nat):Int):=by rw [IntWalk.i64_in _ ⟨by omega,by omega⟩]; omega
     have aX:=zUj o
     have lX:=zGi (P.op _ hm).1 (hq _ hm)
     have hCj:=hCl j
     have oe:∀ o:Oq,(⟨o.kind,o.image,o.x,o.y,o.mask,o.mx,o.my,o.opac,o.oper,o.mode,o.iso,o.kno⟩:Oq)=o:=fun _=>rfl
     simp only [q2,w1,oe]
     refine ⟨⟨by omega,by omega,by rw [zQ5]; omega⟩,q1,aX,hM9 _ (by omega),hM9 _ (by omega),j+1,by omega,by omega,zYh ?_,rfl⟩
     rw [eS]; rfl
    ·have:j=s.ops.length:=by omega
     subst this
     rw [eR,zGC]
     exact ⟨rfl,rfl⟩
def jJV:Gam where
 pure:=fun f xs=>
  if f=96 then gZ2 xs else
  none
 modes:=fun f=>
  none
 proc:=fun f xs bs=>
  none
 iter:=fun f cs=>
  none
theorem zKN (w:Lb):Ans prog 157 [RV.d (DV.str (toS w))] (RV.tup [rJ (((nmR zQo (ofS (toS w))).1)),RV.d (dQ ((nmR zQo (ofS (toS w))).2))]):=
 zQj (Γ:=jJV) (Ann.seq Ann.leaf (Ann.seq (Ann.seq Ann.leaf (Ann.loop ⟨Nat,fun k=>k≤13∧∀ j:Nat,1≤j→j < k→ofS (zQo (j:Int))≠w,fun k=>⟨[(0,AV.one (Cl.d (DV.str (toS w)))),(6,AV.agg [Cl.d (DV.str (sAt zQa 0)),cJ (nAt zQa 1),cJ (nAt zQa 2),cJ (nAt zQa 3),Cl.d (DV.str (sAt zQa 4)),cJ (nAt zQa 5),cJ (nAt zQa 6),cJ (nAt zQa 7),Cl.d (DV.str (sAt zQa 8)),cJ (nAt zQa 9),cJ (nAt zQa 10),cJ (nAt zQa 11),Cl.d (DV.str (sAt zQa 12)),cJ (nAt zQa 13),cJ (nAt zQa 14),cJ (nAt zQa 15),Cl.d (DV.str (sAt zQa 16)),cJ (nAt zQa 17),cJ (nAt zQa 18),cJ (nAt zQa 19),Cl.d (DV.str (sAt zQa 20)),cJ (nAt zQa 21),cJ (nAt zQa 22),cJ (nAt zQa 23),Cl.d (DV.str (sAt zQa 24)),cJ (nAt zQa 25),cJ (nAt zQa 26),cJ (nAt zQa 27),Cl.d (DV.str (sAt zQa 28)),cJ (nAt zQa 29),cJ (nAt zQa 30),cJ (nAt zQa 31),Cl.d (DV.str (sAt zQa 32)),cJ (nAt zQa 33),cJ (nAt zQa 34),cJ (nAt zQa 35),Cl.d (DV.str (sAt zQa 36)),cJ (nAt zQa 37),cJ (nAt zQa 38),cJ (nAt zQa 39),Cl.d (DV.str (sAt zQa 40)),cJ (nAt zQa 41),cJ (nAt zQa 42),cJ (nAt zQa 43),Cl.d (DV.str (sAt zQa 44)),cJ (nAt zQa 45),cJ (nAt zQa 46),cJ (nAt zQa 47),Cl.d (DV.str (sAt zQa 48)),cJ (nAt zQa 49),cJ (nAt zQa 50),cJ (nAt zQa 51)]),(7,aJ (k:Int))],[]⟩,fun k=>13 - k⟩ fun k=>Ann.leaf)) Ann.leaf)) zQy Tryz.func157 rfl (Nat.le_of_ble_eq_true rfl) fun hwf=>by
  refine Eq.mpr (by kernel_rfl:_=(let b:=(DV.str (toS w)=DV.str (toS w)); let a:=[DV.str (sAt zQa 0),dJ (nAt zQa 1),dJ (nAt zQa 2),dJ (nAt zQa 3),DV.str (sAt zQa 4),dJ (nAt zQa 5),dJ (nAt zQa 6),dJ (nAt zQa 7),DV.str (sAt zQa 8),dJ (nAt zQa 9),dJ (nAt zQa 10),dJ (nAt zQa 11),DV.str (sAt zQa 12),dJ (nAt zQa 13),dJ (nAt zQa 14),dJ (nAt zQa 15),DV.str (sAt zQa 16),dJ (nAt zQa 17),dJ (nAt zQa 18),dJ (nAt zQa 19),DV.str (sAt zQa 20),dJ (nAt zQa 21),dJ (nAt zQa 22),dJ (nAt zQa 23),DV.str (sAt zQa 24),dJ (nAt zQa 25),dJ (nAt zQa 26),dJ (nAt zQa 27),DV.str (sAt zQa 28),dJ (nAt zQa 29),dJ (nAt zQa 30),dJ (nAt zQa 31),DV.str (sAt zQa 32),dJ (nAt zQa 33),dJ (nAt zQa 34),dJ (nAt zQa 35),DV.str (sAt zQa 36),dJ (nAt zQa 37),dJ (nAt zQa 38),dJ (nAt zQa 39),DV.str (sAt zQa 40),dJ (nAt zQa 41),dJ (nAt zQa 42),dJ (nAt zQa 43),DV.str (sAt zQa 44),dJ (nAt zQa 45),dJ (nAt zQa 46),dJ (nAt zQa 47),DV.str (sAt zQa 48),dJ (nAt zQa 49),dJ (nAt zQa 50),dJ (nAt zQa 51)]; let c:=(a=a); let d:=[rJ (nmR zQo (ofS (toS w))).1,RV.d (dQ (nmR zQo (ofS (toS w))).2)]; let e:=fun (k:Nat)=>fun (k':Nat)=>((b∧c∧(dJ (wK ((k:Int)+1))=dJ (k':Int))∧True)∧True); tU2 (((zQa[0]?=some (DV.str (sAt zQa 0)))∧(zQa[1]?=some (dJ (nAt zQa 1)))∧(zQa[2]?=some (dJ (nAt zQa 2)))∧(zQa[3]?=some (dJ (nAt zQa 3)))∧(zQa[4]?=some (DV.str (sAt zQa 4)))∧(zQa[5]?=some (dJ (nAt zQa 5)))∧(zQa[6]?=some (dJ (nAt zQa 6)))∧(zQa[7]?=some (dJ (nAt zQa 7)))∧(zQa[8]?=some (DV.str (sAt zQa 8)))∧(zQa[9]?=some (dJ (nAt zQa 9)))∧(zQa[10]?=some (dJ (nAt zQa 10)))∧(zQa[11]?=some (dJ (nAt zQa 11)))∧(zQa[12]?=some (DV.str (sAt zQa 12)))∧(zQa[13]?=some (dJ (nAt zQa 13)))∧(zQa[14]?=some (dJ (nAt zQa 14)))∧(zQa[15]?=some (dJ (nAt zQa 15)))∧(zQa[16]?=some (DV.str (sAt zQa 16)))∧(zQa[17]?=some (dJ (nAt zQa 17)))∧(zQa[18]?=some (dJ (nAt zQa 18)))∧(zQa[19]?=some (dJ (nAt zQa 19)))∧(zQa[20]?=some (DV.str (sAt zQa 20)))∧(zQa[21]?=some (dJ (nAt zQa 21)))∧(zQa[22]?=some (dJ (nAt zQa 22)))∧(zQa[23]?=some (dJ (nAt zQa 23)))∧(zQa[24]?=some (DV.str (sAt zQa 24)))∧(zQa[25]?=some (dJ (nAt zQa 25)))∧(zQa[26]?=some (dJ (nAt zQa 26)))∧(zQa[27]?=some (dJ (nAt zQa 27)))∧(zQa[28]?=some (DV.str (sAt zQa 28)))∧(zQa[29]?=some (dJ (nAt zQa 29)))∧(zQa[30]?=some (dJ (nAt zQa 30)))∧(zQa[31]?=some (dJ (nAt zQa 31)))∧(zQa[32]?=some (DV.str (sAt zQa 32)))∧(zQa[33]?=some (dJ (nAt zQa 33)))∧(zQa[34]?=some (dJ (nAt zQa 34)))∧(zQa[35]?=some (dJ (nAt zQa 35)))∧(zQa[36]?=some (DV.str (sAt zQa 36)))∧(zQa[37]?=some (dJ (nAt zQa 37)))∧(zQa[38]?=some (dJ (nAt zQa 38)))∧(zQa[39]?=some (dJ (nAt zQa 39)))∧(zQa[40]?=some (DV.str (sAt zQa 40)))∧(zQa[41]?=some (dJ (nAt zQa 41)))∧(zQa[42]?=some (dJ (nAt zQa 42)))∧(zQa[43]?=some (dJ (nAt zQa 43)))∧(zQa[44]?=some (DV.str (sAt zQa 44)))∧(zQa[45]?=some (dJ (nAt zQa 45)))∧(zQa[46]?=some (dJ (nAt zQa 46)))∧(zQa[47]?=some (dJ (nAt zQa 47)))∧(zQa[48]?=some (DV.str (sAt zQa 48)))∧(zQa[49]?=some (dJ (nAt zQa 49)))∧(zQa[50]?=some (dJ (nAt zQa 50)))∧(zQa[51]?=some (dJ (nAt zQa 51)))∧True)∧True∧((∃ k:Nat,(k≤13∧∀ j:Nat,1≤j→j < k→ofS (zQo (j:Int))≠w)∧((b∧c∧(dJ 0=dJ (k:Int))∧True)∧True))∧∀ k:Nat,let f:=(sAt a ((k:Int).toNat*4)); let g:=(f.toList==(toS w).toList); (k≤13∧∀ j:Nat,1≤j→j < k→ofS (zQo (j:Int))≠w)→True∧(((decide ((k:Int) < 13))=true→True∧(0≤(k:Int)∧(k:Int) < ((13:Nat):Int)∧(a[(k:Int).toNat*4]?=some (DV.str f))∧(a[(k:Int).toNat*4+1]?=some (dJ (nAt a ((k:Int).toNat*4+1))))∧(a[(k:Int).toNat*4+1+1]?=some (dJ (nAt a ((k:Int).toNat*4+1+1))))∧(a[(k:Int).toNat*4+1+1+1]?=some (dJ (nAt a ((k:Int).toNat*4+1+1+1))))∧True)∧tU8 ((g=true→tU3 (((decide ((k:Int) > 0))=true→tU3 (RV.tup [rJ (k:Int),RV.d (dQ true)]=RV.tup d))∧((decide ((k:Int) > 0))=false→tU2 (∃ k':Nat,(k'≤13∧∀ j:Nat,1≤j→j < k'→ofS (zQo (j:Int))≠w)∧(13 - k' < 13 - k)∧(e k k')))))∧(g=(!true)→tU3 (∃ k':Nat,(k'≤13∧∀ j:Nat,1≤j→j < k'→ofS (zQo (j:Int))≠w)∧(13 - k' < 13 - k)∧(e k k')))))∧((decide ((k:Int) < 13))=false→tU2 (RV.tup [rJ 0,RV.d (dQ false)]=RV.tup d))))))) ?_
  delta tU2 tU3 tU8 dJ dQ wK rJ
  simp only [sS]
  simp only [zQX]
  clear hwf
  have hg:[DV.str (sAt zQa 0),DV.int .i64 (nAt zQa 1),DV.int .i64 (nAt zQa 2),DV.int .i64 (nAt zQa 3),DV.str (sAt zQa 4),DV.int .i64 (nAt zQa 5),DV.int .i64 (nAt zQa 6),DV.int .i64 (nAt zQa 7),DV.str (sAt zQa 8),DV.int .i64 (nAt zQa 9),DV.int .i64 (nAt zQa 10),DV.int .i64 (nAt zQa 11),DV.str (sAt zQa 12),DV.int .i64 (nAt zQa 13),DV.int .i64 (nAt zQa 14),DV.int .i64 (nAt zQa 15),DV.str (sAt zQa 16),DV.int .i64 (nAt zQa 17),DV.int .i64 (nAt zQa 18),DV.int .i64 (nAt zQa 19),DV.str (sAt zQa 20),DV.int .i64 (nAt zQa 21),DV.int .i64 (nAt zQa 22),DV.int .i64 (nAt zQa 23),DV.str (sAt zQa 24),DV.int .i64 (nAt zQa 25),DV.int .i64 (nAt zQa 26),DV.int .i64 (nAt zQa 27),DV.str (sAt zQa 28),DV.int .i64 (nAt zQa 29),DV.int .i64 (nAt zQa 30),DV.int .i64 (nAt zQa 31),DV.str (sAt zQa 32),DV.int .i64 (nAt zQa 33),DV.int .i64 (nAt zQa 34),DV.int .i64 (nAt zQa 35),DV.str (sAt zQa 36),DV.int .i64 (nAt zQa 37),DV.int .i64 (nAt zQa 38),DV.int .i64 (nAt zQa 39),DV.str (sAt zQa 40),DV.int .i64 (nAt zQa 41),DV.int .i64 (nAt zQa 42),DV.int .i64 (nAt zQa 43),DV.str (sAt zQa 44),DV.int .i64 (nAt zQa 45),DV.int .i64 (nAt zQa 46),DV.int .i64 (nAt zQa 47),DV.str (sAt zQa 48),DV.int .i64 (nAt zQa 49),DV.int .i64 (nAt zQa 50),DV.int .i64 (nAt zQa 51)]=zQa:=rfl
  rw [hg]
  refine ⟨by (repeat' apply And.intro) <;> rfl,⟨0,⟨Nat.zero_le _,fun j h1 h2=>absurd h2 (Nat.not_lt_zero j)⟩,rfl⟩,fun k hk=>⟨fun hlt=>?_,fun hge=>?_⟩⟩
  ·have hk13:k < 13:=by omega
   have w1:IntKind.wrap .i64 ((k:Int)+1)=((k+1:Nat):Int):=by rw [IntWalk.i64_in _ ⟨by omega,by omega⟩]; omega
   have hrd:zQa[k*4]?=some (DV.str (sAt zQa (k*4)))∧zQa[k*4+1]?=some (DV.int .i64 (nAt zQa (k*4+1)))∧zQa[k*4+1+1]?=some (DV.int .i64 (nAt zQa (k*4+1+1)))∧zQa[k*4+1+1+1]?=some (DV.int .i64 (nAt zQa (k*4+1+1+1))):=by
    have:k=0∨k=1∨k=2∨k=3∨k=4∨k=5∨k=6∨k=7∨k=8∨k=9∨k=10∨k=11∨k=12:=by omega
    rcases this with rfl | rfl | rfl | rfl | rfl | rfl | rfl | rfl | rfl | rfl | rfl | rfl | rfl <;> exact ⟨rfl,rfl,rfl,rfl⟩
   have hnm:1≤k→sAt zQa (k*4)=zQo (k:Int):=fun h=>by unfold zQo; rw [if_pos ⟨by omega,by omega⟩,Int.toNat_natCast]; skip
   have next:(1≤k→ofS (zQo (k:Int))≠w)→∃ k',(k'≤13∧∀ j:Nat,1≤j→j < k'→ofS (zQo (j:Int))≠w)∧13 - k' < 13 - k∧IntKind.wrap .i64 ((k:Int)+1)=(k':Int):=fun h=>⟨k+1,⟨by omega,fun j h1 h2=>by
    rcases Nat.lt_or_ge j k with h3 | h3
    ·exact hk.2 j h1 h3
    ·have:j=k:=by omega
     subst this; exact h h1⟩,by omega,w1⟩
   have hit:1≤k→ofS (zQo (k:Int))=w→nmR zQo w=((k:Int),true):=fun h1 h2=>by
    obtain ⟨m,rfl⟩:∃ m,k=m+1:=⟨k - 1,by omega⟩
    have e:=jZe (f:=zQo) (w:=w) (k:=m) (by omega) (by simpa using h2) (fun j hj=>by simpa using hk.2 (j+1) (by omega) (by omega))
    rw [e]; simp
   simp only [jYH,decide_eq_true_eq,decide_eq_false_iff_not]
   refine ⟨⟨by omega,by omega,hrd⟩,fun h=>⟨fun h2=>?_,fun h2=>next fun h1=>absurd (by omega) h2⟩,fun h=>next fun h1=>by rw [← hnm h1]; exact h⟩
   rw [hnm (by omega)] at h
   rw [hit (by omega) h]
   exact ⟨rfl,rfl⟩
  ·rw [jZf (f:=zQo) fun j hj=>by simpa using hk.2 (j+1) (by omega) (by omega)]
   exact ⟨rfl,rfl⟩
theorem zWX (w:Lb):Ans prog 158 [RV.d (DV.str (toS w))] (RV.tup [rJ (((nmR zQf (ofS (toS w))).1)),RV.d (dQ ((nmR zQf (ofS (toS w))).2))]):=
 zQj (Γ:=jJV) (Ann.seq Ann.leaf (Ann.seq (Ann.seq Ann.leaf (Ann.loop ⟨Nat,fun k=>k≤13∧∀ j:Nat,1≤j→j < k→ofS (zQf (j:Int))≠w,fun k=>⟨[(0,AV.one (Cl.d (DV.str (toS w)))),(6,AV.agg [Cl.d (DV.str (sAt zQh 0)),Cl.d (DV.str (sAt zQh 1)),Cl.d (DV.str (sAt zQh 2)),Cl.d (DV.str (sAt zQh 3)),Cl.d (DV.str (sAt zQh 4)),Cl.d (DV.str (sAt zQh 5)),Cl.d (DV.str (sAt zQh 6)),Cl.d (DV.str (sAt zQh 7)),Cl.d (DV.str (sAt zQh 8)),Cl.d (DV.str (sAt zQh 9)),Cl.d (DV.str (sAt zQh 10)),Cl.d (DV.str (sAt zQh 11)),Cl.d (DV.str (sAt zQh 12))]),(7,aJ (k:Int))],[]⟩,fun k=>13 - k⟩ fun k=>Ann.leaf)) Ann.leaf)) zQy Tryz.func158 rfl (Nat.le_of_ble_eq_true rfl) fun hwf=>by
  refine Eq.mpr (by kernel_rfl:_=(let c:=(nmR zQf (ofS (toS w))); let d:=(DV.str (toS w)=DV.str (toS w)); let a:=[DV.str (sAt zQh 0),DV.str (sAt zQh 1),DV.str (sAt zQh 2),DV.str (sAt zQh 3),DV.str (sAt zQh 4),DV.str (sAt zQh 5),DV.str (sAt zQh 6),DV.str (sAt zQh 7),DV.str (sAt zQh 8),DV.str (sAt zQh 9),DV.str (sAt zQh 10),DV.str (sAt zQh 11),DV.str (sAt zQh 12)]; let e:=(a=a); let f:=[rJ c.1,RV.d (dQ c.2)]; let g:=fun (k:Nat)=>fun (k':Nat)=>((d∧e∧(dJ (wK ((k:Int)+1))=dJ (k':Int))∧True)∧True); tU2 (((zQh[0]?=some (DV.str (sAt zQh 0)))∧(zQh[1]?=some (DV.str (sAt zQh 1)))∧(zQh[2]?=some (DV.str (sAt zQh 2)))∧(zQh[3]?=some (DV.str (sAt zQh 3)))∧(zQh[4]?=some (DV.str (sAt zQh 4)))∧(zQh[5]?=some (DV.str (sAt zQh 5)))∧(zQh[6]?=some (DV.str (sAt zQh 6)))∧(zQh[7]?=some (DV.str (sAt zQh 7)))∧(zQh[8]?=some (DV.str (sAt zQh 8)))∧(zQh[9]?=some (DV.str (sAt zQh 9)))∧(zQh[10]?=some (DV.str (sAt zQh 10)))∧(zQh[11]?=some (DV.str (sAt zQh 11)))∧(zQh[12]?=some (DV.str (sAt zQh 12)))∧True)∧True∧((∃ k:Nat,(k≤13∧∀ j:Nat,1≤j→j < k→ofS (zQf (j:Int))≠w)∧((d∧e∧(dJ 0=dJ (k:Int))∧True)∧True))∧∀ k:Nat,let h:=(sAt a ((k:Int).toNat*1)); let i:=(h.toList==(toS w).toList); let b:=(decide (1≤(k:Int)∧(k:Int) < 13)); (k≤13∧∀ j:Nat,1≤j→j < k→ofS (zQf (j:Int))≠w)→True∧(((decide ((k:Int) < 13))=true→True∧(0≤(k:Int)∧(k:Int) < ((13:Nat):Int)∧(a[(k:Int).toNat*1]?=some (DV.str h))∧True)∧tU6 ((i=true→True∧(Ans prog 96 [rJ (k:Int)] (RV.d (dQ b)))∧True∧((b=true→tU3 (RV.tup [rJ (k:Int),RV.d (dQ true)]=RV.tup f))∧(b=false→tU2 (∃ k':Nat,(k'≤13∧∀ j:Nat,1≤j→j < k'→ofS (zQf (j:Int))≠w)∧(13 - k' < 13 - k)∧(g k k')))))∧(i=(!true)→tU3 (∃ k':Nat,(k'≤13∧∀ j:Nat,1≤j→j < k'→ofS (zQf (j:Int))≠w)∧(13 - k' < 13 - k)∧(g k k')))))∧((decide ((k:Int) < 13))=false→tU2 (RV.tup [rJ 0,RV.d (dQ false)]=RV.tup f))))))) ?_
  delta tU2 tU3 tU6 dJ dQ wK rJ
  simp only [sS]
  simp only [zQX]
  clear hwf
  have hg:[DV.str (sAt zQh 0),DV.str (sAt zQh 1),DV.str (sAt zQh 2),DV.str (sAt zQh 3),DV.str (sAt zQh 4),DV.str (sAt zQh 5),DV.str (sAt zQh 6),DV.str (sAt zQh 7),DV.str (sAt zQh 8),DV.str (sAt zQh 9),DV.str (sAt zQh 10),DV.str (sAt zQh 11),DV.str (sAt zQh 12)]=zQh:=rfl
  rw [hg]
  refine ⟨by (repeat' apply And.intro) <;> rfl,⟨0,⟨Nat.zero_le _,fun j h1 h2=>absurd h2 (Nat.not_lt_zero j)⟩,rfl⟩,fun k hk=>⟨fun hlt=>?_,fun hge=>?_⟩⟩
  ·have hk13:k < 13:=by omega
   have w1:IntKind.wrap .i64 ((k:Int)+1)=((k+1:Nat):Int):=by rw [IntWalk.i64_in _ ⟨by omega,by omega⟩]; omega
   have hrd:zQh[k*1]?=some (DV.str (sAt zQh (k*1))):=by
    have:k=0∨k=1∨k=2∨k=3∨k=4∨k=5∨k=6∨k=7∨k=8∨k=9∨k=10∨k=11∨k=12:=by omega
    rcases this with rfl | rfl | rfl | rfl | rfl | rfl | rfl | rfl | rfl | rfl | rfl | rfl | rfl <;> rfl
   have hnm:1≤k→sAt zQh (k*1)=zQf (k:Int):=fun h=>by unfold zQf; rw [if_pos ⟨by omega,by omega⟩,Int.toNat_natCast]; rw [Nat.mul_one]
   have next:(1≤k→ofS (zQf (k:Int))≠w)→∃ k',(k'≤13∧∀ j:Nat,1≤j→j < k'→ofS (zQf (j:Int))≠w)∧13 - k' < 13 - k∧IntKind.wrap .i64 ((k:Int)+1)=(k':Int):=fun h=>⟨k+1,⟨by omega,fun j h1 h2=>by
    rcases Nat.lt_or_ge j k with h3 | h3
    ·exact hk.2 j h1 h3
    ·have:j=k:=by omega
     subst this; exact h h1⟩,by omega,w1⟩
   have hit:1≤k→ofS (zQf (k:Int))=w→nmR zQf w=((k:Int),true):=fun h1 h2=>by
    obtain ⟨m,rfl⟩:∃ m,k=m+1:=⟨k - 1,by omega⟩
    have e:=jZe (f:=zQf) (w:=w) (k:=m) (by omega) (by simpa using h2) (fun j hj=>by simpa using hk.2 (j+1) (by omega) (by omega))
    rw [e]; simp
   simp only [jYH,decide_eq_true_eq,decide_eq_false_iff_not]
   have aV:=zZL (k:Int)
   refine ⟨⟨by omega,by omega,hrd⟩,fun h=>⟨aV,fun h2=>?_,fun h2=>next fun h1=>absurd ⟨by omega,by omega⟩ h2⟩,fun h=>next fun h1=>by rw [← hnm h1]; exact h⟩
   rw [hnm (by omega)] at h
   rw [hit (by omega) h]
   exact ⟨rfl,rfl⟩
  ·rw [jZf (f:=zQf) fun j hj=>by simpa using hk.2 (j+1) (by omega) (by omega)]
   exact ⟨rfl,rfl⟩
end
end Go.Proofs.YtheidkkebdhmkaaGreatDoor
namespace Go.Proofs
open Go.Shelf
def Tryz.lays169_ren:Go.Shelf.Ren:=⟨fun | 169=>29 | n=>n,fun | 70=>79 | 9=>9 | 0=>0 | 72=>82 | 37=>80 | 127=>122 | 3=>3 | 5=>5 | n=>n,fun | n=>n⟩
theorem Tryz.lays169:Go.Proofs.Lays.n169 Tryz.prog Tryz.lays169_ren:=by
 repeat' first | kernel_rfl | (intro; kernel_rfl) | constructor
theorem Tryz.Builder_Extra_169:Builder.Extra Tryz.prog Tryz.lays169_ren:={
 sizeBuilder:=by kernel_rfl
 liesBuilder:=by kernel_rfl
 t5:=Tryz.underlying5
 a5:=Tryz.isAgg5
 z5:=Tryz.sizeOf5
 v5:=Tryz.zeroValue5
 infoByte:=by kernel_rfl
 cellsByte:=by kernel_rfl
 sizeByte:=by kernel_rfl
 neB5:=by decide }
open Go.RowKit in
theorem Tryz.Builder_String (B b:Nat) (l:List UInt8) (w:World) (h:Lib.IsBuilder 82 5 B b (Lib.byteCells l) w) (h0:l≠[]) :
    Calls Tryz.prog 29 #[.pointer (some ⟨b,0,none⟩)] w fun e w'=>e=.returned (.string ⟨l.toArray⟩)∧Below B w w':=Any.Builder_String Tryz.lays169 Tryz.Builder_Extra_169 B b l w h h0
open Go.RowKit in
theorem Tryz.Builder_String_empty (B b:Nat) (w:World) (h:Lib.IsBuilder 82 5 B b [] w) (hBw:B≤w.heap.size) :
    Calls Tryz.prog 29 #[.pointer (some ⟨b,0,none⟩)] w fun e w'=>e=.returned (.string ⟨#[]⟩)∧Below B w w':=Any.Builder_String_empty Tryz.lays169 Tryz.Builder_Extra_169 B b w h hBw
open Go.RowKit in
theorem Tryz.Builder_String_any (B b:Nat) (l:List UInt8) (w:World) (h:Lib.IsBuilder 82 5 B b (Lib.byteCells l) w) (hBw:B≤w.heap.size) :
    Calls Tryz.prog 29 #[.pointer (some ⟨b,0,none⟩)] w fun e w'=>e=.returned (.string ⟨l.toArray⟩)∧Below B w w':=Any.Builder_String_any Tryz.lays169 Tryz.Builder_Extra_169 B b l w h hBw
def Tryz.lays244_ren:Go.Shelf.Ren:=⟨fun | 244=>153 | 247=>166 | 287=>178 | 321=>183 | 322=>184 | n=>n,fun | 9=>9 | 3=>3 | 75=>117 | 4=>4 | 5=>5 | 167=>202 | 37=>80 | 0=>0 | 85=>203 | 2=>2 | 53=>155 | 175=>212 | 46=>173 | 21=>21 | 80=>88 | n=>n,fun | n=>n⟩
theorem Tryz.lays244:Go.Proofs.Lays.n244 Tryz.prog Tryz.lays244_ren:=by
 repeat' first | kernel_rfl | (intro; kernel_rfl) | constructor
open Go.RowKit in
theorem Tryz.internal_strconv_Atoi (s:ByteArray) (n:Int) (hl:s.size≤18) (h:Lib.atoi s.data.toList=some n) (w:World) :
    Calls Tryz.prog 153 #[.string s] w fun e w'=>e=.returned (.tuple #[.int .i64 n,.nilIface])∧∃ t,w'=Lib.bytesWorld w 5 t:=Any.internal_strconv_Atoi Tryz.lays244 s n hl h w
def Tryz.lays172_ren:Go.Shelf.Ren:=⟨fun | 172=>138 | 244=>153 | 245=>154 | 247=>166 | 279=>167 | 280=>168 | 281=>169 | 282=>170 | 287=>178 | 316=>179 | 171=>97 | 205=>180 | 321=>183 | 322=>184 | 243=>123 | 246=>145 | 283=>159 | 284=>160 | 285=>161 | 286=>162 | 129=>173 | 317=>172 | 318=>174 | 319=>175 | 320=>176 | 337=>181 | 338=>182 | n=>n,fun | 9=>9 | 3=>3 | 75=>117 | 76=>119 | 4=>4 | 5=>5 | 167=>202 | 37=>80 | 0=>0 | 85=>203 | 2=>2 | 168=>205 | 53=>155 | 175=>212 | 46=>173 | 210=>216 | 127=>122 | 145=>226 | 143=>224 | 21=>21 | 171=>194 | 173=>197 | 212=>209 | 51=>188 | 20=>20 | 213=>210 | 232=>227 | 233=>228 | 80=>88 | n=>n,fun | 15=>4 | 16=>5 | 17=>3 | 18=>8 | 19=>9 | n=>n⟩
theorem Tryz.lays172:Go.Proofs.Lays.n172 Tryz.prog Tryz.lays172_ren:=by
 repeat' first | kernel_rfl | (intro; kernel_rfl) | constructor
open Go.RowKit in
theorem Tryz.strconv_Atoi (s:ByteArray) (n:Int) (hl:s.size≤18) (h:Lib.atoi s.data.toList=some n) (w:World) :
    Calls Tryz.prog 138 #[.string s] w fun e w'=>e=.returned (.tuple #[.int .i64 n,.nilIface])∧∃ t,w'=Lib.bytesWorld w 5 t:=Any.strconv_Atoi Tryz.lays172 s n hl h w
def Tryz.lays129_ren:Go.Shelf.Ren:=⟨fun | 129=>173 | n=>n,fun | 53=>155 | 3=>3 | 4=>4 | 46=>173 | 5=>5 | 9=>9 | n=>n,fun | n=>n⟩
theorem Tryz.lays129:Go.Proofs.Lays.n129 Tryz.prog Tryz.lays129_ren:=by
 repeat' first | kernel_rfl | (intro; kernel_rfl) | constructor
theorem Tryz.bits_Len64 (x:Int) (w:World) (h0:0≤x) (h1:x≤18446744073709551615) :
  Calls Tryz.prog 173 #[.int .u64 x] w fun e w'=>e=.returned (.int .i64 (Lib.bitLen x.toNat))∧w'=w:=Any.bits_Len64 Tryz.lays129 x w h0 h1
def Tryz.lays317_ren:Go.Shelf.Ren:=⟨fun | 317=>172 | n=>n,fun | 3=>3 | 46=>173 | n=>n,fun | n=>n⟩
theorem Tryz.lays317:Go.Proofs.Lays.n317 Tryz.prog Tryz.lays317_ren:=by
 repeat' first | kernel_rfl | (intro; kernel_rfl) | constructor
open Go.Lib in
theorem Tryz.internal_strconv_log10Pow2 (x:Nat) (h:x≤64) (w:World) :
    Calls Tryz.prog 172 #[.int .i64 x] w fun e w'=>e=.returned (.int .i64 (Lib.l10 x))∧w'=w:=Any.internal_strconv_log10Pow2 Tryz.lays317 x h w
def Tryz.lays318_ren:Go.Shelf.Ren:=⟨fun | 318=>174 | n=>n,fun | 3=>3 | 4=>4 | n=>n,fun | n=>n⟩
theorem Tryz.lays318:Go.Proofs.Lays.n318 Tryz.prog Tryz.lays318_ren:=by
 repeat' first | kernel_rfl | (intro; kernel_rfl) | constructor
open Go.Lib in
theorem Tryz.internal_strconv_bool2_int (b:Bool) (w:World) :
    Calls Tryz.prog 174 #[.bool b] w fun e w'=>e=.returned (.int .i64 (if b then 1 else 0))∧w'=w:=Any.internal_strconv_bool2_int Tryz.lays318 b w
def Tryz.lays283_ren:Go.Shelf.Ren:=⟨fun | 283=>159 | n=>n,fun | 3=>3 | 9=>9 | 4=>4 | n=>n,fun | n=>n⟩
theorem Tryz.lays283:Go.Proofs.Lays.n283 Tryz.prog Tryz.lays283_ren:=by
 repeat' first | kernel_rfl | (intro; kernel_rfl) | constructor
open Go.Lib in
theorem Tryz.internal_strconv_small (i:Nat) (h:i < 100) (w:World) :
    Calls Tryz.prog 159 #[.int .i64 i] w fun e w'=>e=.returned (.string ⟨(Lib.decDigits i).toArray⟩)∧w'=w:=Any.internal_strconv_small Tryz.lays283 i h w
def Tryz.laysM284_ren:Go.Shelf.Ren:=⟨fun | 284=>160 | 129=>173 | 317=>172 | 318=>174 | n=>n,fun | 53=>155 | 3=>3 | 212=>209 | 0=>0 | 4=>4 | 46=>173 | 5=>5 | 9=>9 | n=>n,fun | 17=>3 | n=>n⟩
theorem Tryz.laysM284:Go.Proofs.LaysM.n284 Tryz.prog Tryz.laysM284_ren:=by
 repeat' first | kernel_rfl | (intro; kernel_rfl) | constructor
open Go.Lib in
theorem Tryz.internal_strconv_numDigits (u:Nat) (h1:1≤u) (h2:u < 18446744073709551616) (w:World) (htab:Lib.TabIs Tryz.prog w "internal/strconv.uint64pow10" .u64 Lib.pow10Tab) :
    Calls Tryz.prog 160 #[.int .u64 u] w fun e w'=>e=.returned (.int .i64 (Lib.nDigits u))∧w'=w:=Any.internal_strconv_numDigits Tryz.laysM284 u h1 h2 w htab
def Tryz.lays285_ren:Go.Shelf.Ren:=⟨fun | 285=>161 | n=>n,fun | 37=>80 | 53=>155 | 3=>3 | 4=>4 | 51=>188 | 9=>9 | 5=>5 | 0=>0 | n=>n,fun | n=>n⟩
theorem Tryz.lays285:Go.Proofs.Lays.n285 Tryz.prog Tryz.lays285_ren:=by
 repeat' first | kernel_rfl | (intro; kernel_rfl) | constructor
open Go.RowKit Go.Sort Go.Lib in
theorem Tryz.internal_strconv_formatBase10 (blk off cap u:Nat) (d:Array UInt8) (w:World) (hH:Holds (fun (b:UInt8)=>Value.int .u8 (b.toNat:Int)) w blk off d) (hu:u < 10 ^ d.size) (hu64:u < 18446744073709551616) (hsz:d.size < 4611686018427387904) :
    Calls Tryz.prog 161 #[.slice (some ⟨blk,off,none⟩) d.size cap,.int .u64 u] w fun e w'=>
      e=.returned (.tuple #[])∧∃ (n v':Nat) (dk:Array UInt8),w'=(putRow (fun (b:UInt8)=>Value.int .u8 (b.toNat:Int)) w blk off dk).drewN n∧FmtInv d.size u 0 v' dk:=Any.internal_strconv_formatBase10 Tryz.lays285 blk off cap u d w hH hu hu64 hsz
def Tryz.laysM246_ren:Go.Shelf.Ren:=⟨fun | 246=>145 | 283=>159 | 284=>160 | 285=>161 | 286=>162 | 129=>173 | 317=>172 | 318=>174 | 319=>175 | 320=>176 | 337=>181 | 338=>182 | n=>n,fun | 2=>2 | 3=>3 | 9=>9 | 4=>4 | 171=>194 | 0=>0 | 53=>155 | 37=>80 | 5=>5 | 173=>197 | 212=>209 | 51=>188 | 20=>20 | 213=>210 | 46=>173 | 232=>227 | 233=>228 | n=>n,fun | 17=>3 | 18=>8 | 19=>9 | n=>n⟩
theorem Tryz.laysM246:Go.Proofs.LaysM.n246 Tryz.prog Tryz.laysM246_ren:=by
 repeat' first | kernel_rfl | (intro; kernel_rfl) | constructor
open Go.RowKit Go.Sort Go.Lib in
theorem Tryz.internal_strconv_FormatInt_10 (n:Int) (h0 : -9223372036854775808≤n) (h1:n≤9223372036854775807) (w:World) (htab:Lib.TabIs Tryz.prog w "internal/strconv.uint64pow10" .u64 Lib.pow10Tab) :
    Calls Tryz.prog 145 #[.int .i64 n,.int .i64 10] w fun e w'=>e=.returned (.string ⟨(Lib.itoa n).toArray⟩)∧∃ k os,w'=grow (w.drewN k) os:=Any.internal_strconv_FormatInt_10 Tryz.laysM246 n h0 h1 w htab
def Tryz.lays246_ren:Go.Shelf.Ren:=⟨fun | 246=>145 | 283=>159 | 284=>160 | 285=>161 | 286=>162 | 129=>173 | 317=>172 | 318=>174 | 319=>175 | 320=>176 | 337=>181 | 338=>182 | n=>n,fun | 2=>2 | 3=>3 | 9=>9 | 4=>4 | 171=>194 | 0=>0 | 53=>155 | 37=>80 | 5=>5 | 173=>197 | 212=>209 | 51=>188 | 20=>20 | 213=>210 | 46=>173 | 232=>227 | 233=>228 | n=>n,fun | 17=>3 | 18=>8 | 19=>9 | n=>n⟩
theorem Tryz.lays246:Go.Proofs.Lays.n246 Tryz.prog Tryz.lays246_ren:=by
 repeat' first | kernel_rfl | (intro; kernel_rfl) | constructor
open Go.RowKit Go.Sort Go.Lib in
theorem Tryz.internal_strconv_FormatInt_10_small (i:Nat) (hi:i < 100) (w:World) :
    Calls Tryz.prog 145 #[.int .i64 i,.int .i64 10] w fun e w'=>e=.returned (.string ⟨(Lib.decDigits i).toArray⟩)∧w'=w:=Any.internal_strconv_FormatInt_10_small Tryz.lays246 i hi w
def Tryz.laysM243_ren:Go.Shelf.Ren:=⟨fun | 243=>123 | 246=>145 | 283=>159 | 284=>160 | 285=>161 | 286=>162 | 129=>173 | 317=>172 | 318=>174 | 319=>175 | 320=>176 | 337=>181 | 338=>182 | n=>n,fun | 3=>3 | 9=>9 | 2=>2 | 4=>4 | 171=>194 | 0=>0 | 53=>155 | 37=>80 | 5=>5 | 173=>197 | 212=>209 | 51=>188 | 20=>20 | 213=>210 | 46=>173 | 232=>227 | 233=>228 | n=>n,fun | 17=>3 | 18=>8 | 19=>9 | n=>n⟩
theorem Tryz.laysM243:Go.Proofs.LaysM.n243 Tryz.prog Tryz.laysM243_ren:=by
 repeat' first | kernel_rfl | (intro; kernel_rfl) | constructor
open Go.RowKit Go.Sort Go.Lib in
theorem Tryz.internal_strconv_Itoa (n:Int) (h0 : -9223372036854775808≤n) (h1:n≤9223372036854775807) (w:World) (htab:Lib.TabIs Tryz.prog w "internal/strconv.uint64pow10" .u64 Lib.pow10Tab) :
    Calls Tryz.prog 123 #[.int .i64 n] w fun e w'=>e=.returned (.string ⟨(Lib.itoa n).toArray⟩)∧∃ k os,w'=grow (w.drewN k) os:=Any.internal_strconv_Itoa Tryz.laysM243 n h0 h1 w htab
def Tryz.lays243_ren:Go.Shelf.Ren:=⟨fun | 243=>123 | 246=>145 | 283=>159 | 284=>160 | 285=>161 | 286=>162 | 129=>173 | 317=>172 | 318=>174 | 319=>175 | 320=>176 | 337=>181 | 338=>182 | n=>n,fun | 3=>3 | 9=>9 | 2=>2 | 4=>4 | 171=>194 | 0=>0 | 53=>155 | 37=>80 | 5=>5 | 173=>197 | 212=>209 | 51=>188 | 20=>20 | 213=>210 | 46=>173 | 232=>227 | 233=>228 | n=>n,fun | 17=>3 | 18=>8 | 19=>9 | n=>n⟩
theorem Tryz.lays243:Go.Proofs.Lays.n243 Tryz.prog Tryz.lays243_ren:=by
 repeat' first | kernel_rfl | (intro; kernel_rfl) | constructor
open Go.RowKit Go.Sort Go.Lib in
theorem Tryz.internal_strconv_Itoa_small (i:Nat) (hi:i < 100) (w:World) :
    Calls Tryz.prog 123 #[.int .i64 i] w fun e w'=>e=.returned (.string ⟨(Lib.decDigits i).toArray⟩)∧w'=w:=Any.internal_strconv_Itoa_small Tryz.lays243 i hi w
def Tryz.laysM171_ren:Go.Shelf.Ren:=⟨fun | 171=>97 | 243=>123 | 246=>145 | 283=>159 | 284=>160 | 285=>161 | 286=>162 | 129=>173 | 317=>172 | 318=>174 | 319=>175 | 320=>176 | 337=>181 | 338=>182 | n=>n,fun | 3=>3 | 9=>9 | 2=>2 | 4=>4 | 171=>194 | 0=>0 | 53=>155 | 37=>80 | 5=>5 | 173=>197 | 212=>209 | 51=>188 | 20=>20 | 213=>210 | 46=>173 | 232=>227 | 233=>228 | n=>n,fun | 17=>3 | 18=>8 | 19=>9 | n=>n⟩
theorem Tryz.laysM171:Go.Proofs.LaysM.n171 Tryz.prog Tryz.laysM171_ren:=by
 repeat' first | kernel_rfl | (intro; kernel_rfl) | constructor
open Go.RowKit Go.Sort Go.Lib in
theorem Tryz.strconv_Itoa (n:Int) (h0 : -9223372036854775808≤n) (h1:n≤9223372036854775807) (w:World) (htab:Lib.TabIs Tryz.prog w "internal/strconv.uint64pow10" .u64 Lib.pow10Tab) :
    Calls Tryz.prog 97 #[.int .i64 n] w fun e w'=>e=.returned (.string ⟨(Lib.itoa n).toArray⟩)∧∃ k os,w'=grow (w.drewN k) os:=Any.strconv_Itoa Tryz.laysM171 n h0 h1 w htab
def Tryz.lays171_ren:Go.Shelf.Ren:=⟨fun | 171=>97 | 243=>123 | 246=>145 | 283=>159 | 284=>160 | 285=>161 | 286=>162 | 129=>173 | 317=>172 | 318=>174 | 319=>175 | 320=>176 | 337=>181 | 338=>182 | n=>n,fun | 3=>3 | 9=>9 | 2=>2 | 4=>4 | 171=>194 | 0=>0 | 53=>155 | 37=>80 | 5=>5 | 173=>197 | 212=>209 | 51=>188 | 20=>20 | 213=>210 | 46=>173 | 232=>227 | 233=>228 | n=>n,fun | 17=>3 | 18=>8 | 19=>9 | n=>n⟩
theorem Tryz.lays171:Go.Proofs.Lays.n171 Tryz.prog Tryz.lays171_ren:=by
 repeat' first | kernel_rfl | (intro; kernel_rfl) | constructor
open Go.RowKit Go.Sort Go.Lib in
theorem Tryz.strconv_Itoa_small (i:Nat) (hi:i < 100) (w:World) :
    Calls Tryz.prog 97 #[.int .i64 i] w fun e w'=>e=.returned (.string ⟨(Lib.decDigits i).toArray⟩)∧w'=w:=Any.strconv_Itoa_small Tryz.lays171 i hi w
open Go.RowKit in
theorem Tryz.internal_strconv_Atoi_err (s:ByteArray) (hl0:1≤s.size) (hl:s.size≤18) (h:Lib.atoi s.data.toList=none) (w:World) :
    Calls Tryz.prog 153 #[.string s] w fun e w'=>e=.returned (.tuple #[.int .i64 0,(.iface 202 (.int .i64 2))])∧(w'=w∨∃ t,w'=Lib.bytesWorld w 5 t):=Any.internal_strconv_Atoi_err Tryz.lays244 s hl0 hl h w
def Tryz.lays247_ren:Go.Shelf.Ren:=⟨fun | 247=>166 | 287=>178 | 321=>183 | 322=>184 | n=>n,fun | 9=>9 | 3=>3 | 2=>2 | 75=>117 | 4=>4 | 167=>202 | 5=>5 | 53=>155 | 175=>212 | 46=>173 | 37=>80 | 0=>0 | 21=>21 | 80=>88 | n=>n,fun | n=>n⟩
theorem Tryz.lays247:Go.Proofs.Lays.n247 Tryz.prog Tryz.lays247_ren:=by
 repeat' first | kernel_rfl | (intro; kernel_rfl) | constructor
open Go.RowKit in
theorem Tryz.internal_strconv_ParseInt_empty (base bits:Int) (w:World) :
    Calls Tryz.prog 166 #[.string ⟨#[]⟩,.int .i64 base,.int .i64 bits] w fun e w'=>e=.returned (.tuple #[.int .i64 0,(.iface 202 (.int .i64 2))])∧w'=w:=Any.internal_strconv_ParseInt_empty Tryz.lays247 base bits w
open Go.RowKit in
theorem Tryz.internal_strconv_Atoi_empty (w:World) :
    Calls Tryz.prog 153 #[.string ⟨#[]⟩] w fun e w'=>e=.returned (.tuple #[.int .i64 0,(.iface 202 (.int .i64 2))])∧w'=w:=Any.internal_strconv_Atoi_empty Tryz.lays244 w
open Go.RowKit in
theorem Tryz.internal_strconv_Atoi_fail (s:ByteArray) (hl:s.size≤18) (h:Lib.atoi s.data.toList=none) (w:World) :
    Calls Tryz.prog 153 #[.string s] w fun e w'=>e=.returned (.tuple #[.int .i64 0,(.iface 202 (.int .i64 2))])∧(w'=w∨∃ t,w'=Lib.bytesWorld w 5 t):=Any.internal_strconv_Atoi_fail Tryz.lays244 s hl h w
def Tryz.laysM316_ren:Go.Shelf.Ren:=⟨fun | 316=>179 | n=>n,fun | 9=>9 | 3=>3 | 4=>4 | 37=>80 | 0=>0 | 127=>122 | 5=>5 | n=>n,fun | n=>n⟩
theorem Tryz.laysM316:Go.Proofs.LaysM.n316 Tryz.prog Tryz.laysM316_ren:=by
 repeat' first | kernel_rfl | (intro; kernel_rfl) | constructor
open Go.RowKit in
theorem Tryz.stringslite_Clone (s:ByteArray) (w:World) (hlim:s.size≤281474976710656) :
    Calls Tryz.prog 179 #[.string s] w fun e w'=>e=.returned (.string s)∧Below w.heap.size w w':=Any.stringslite_Clone Tryz.laysM316 s w hlim
def Tryz.laysM279_ren:Go.Shelf.Ren:=⟨fun | 279=>167 | 316=>179 | n=>n,fun | 9=>9 | 168=>205 | 75=>117 | 210=>216 | 3=>3 | 4=>4 | 37=>80 | 0=>0 | 127=>122 | 80=>88 | 5=>5 | n=>n,fun | 15=>4 | n=>n⟩
theorem Tryz.laysM279:Go.Proofs.LaysM.n279 Tryz.prog Tryz.laysM279_ren:=by
 repeat' first | kernel_rfl | (intro; kernel_rfl) | constructor
open Go.RowKit in
theorem Tryz.strconv_syntaxError (fn s:ByteArray) (ev:Value) (w:World) (hlim:s.size≤281474976710656) (hv:w.cell? ⟨4,0,none⟩=some ev) (hev:ev=.nilIface∨∃ te pe,ev=.iface te pe) :
    Calls Tryz.prog 167 #[.string fn,.string s] w fun e w'=>∃ N,e=.returned (.pointer (some ⟨N,0,none⟩))∧w.heap.size≤N∧w'.heap[N]?=some (.cells #[.string fn,.string s,ev] 216 (0,0))∧Below w.heap.size w w':=Any.strconv_syntaxError Tryz.laysM279 fn s ev w hlim hv hev
def Tryz.laysC245_ren:Go.Shelf.Ren:=⟨fun | 245=>154 | 279=>167 | 280=>168 | 281=>169 | 282=>170 | 316=>179 | 171=>97 | 205=>180 | 243=>123 | 246=>145 | 283=>159 | 284=>160 | 285=>161 | 286=>162 | 129=>173 | 317=>172 | 318=>174 | 319=>175 | 320=>176 | 337=>181 | 338=>182 | n=>n,fun | 9=>9 | 3=>3 | 75=>117 | 167=>202 | 4=>4 | 168=>205 | 210=>216 | 37=>80 | 0=>0 | 127=>122 | 145=>226 | 143=>224 | 2=>2 | 171=>194 | 53=>155 | 5=>5 | 173=>197 | 212=>209 | 51=>188 | 20=>20 | 213=>210 | 46=>173 | 232=>227 | 233=>228 | 80=>88 | n=>n,fun | 15=>4 | 16=>5 | 17=>3 | 18=>8 | 19=>9 | n=>n⟩
theorem Tryz.laysC245:Go.Proofs.LaysC.n245 Tryz.prog Tryz.laysC245_ren:=by
 repeat' first | kernel_rfl | (intro; kernel_rfl) | constructor
open Go.RowKit in
theorem Tryz.strconv_toError_syntax (fn s:ByteArray) (base bits:Int) (ev:Value) (w:World) (hlim:s.size≤281474976710656) (hv:w.cell? ⟨4,0,none⟩=some ev) (hev:ev=.nilIface∨∃ te pe,ev=.iface te pe) :
    Calls Tryz.prog 154 #[.string fn,.string s,.int .i64 base,.int .i64 bits,.iface 202 (.int .i64 2)] w fun e w'=>∃ N,e=.returned (.iface 205 (.pointer (some ⟨N,0,none⟩)))∧w.heap.size≤N∧w'.heap[N]?=some (.cells #[.string fn,.string s,ev] 216 (0,0))∧Below w.heap.size w w':=Any.strconv_toError_syntax Tryz.laysC245 fn s base bits ev w hlim hv hev
def Tryz.lays321_ren:Go.Shelf.Ren:=⟨fun | 321=>183 | n=>n,fun | 5=>5 | n=>n,fun | n=>n⟩
theorem Tryz.lays321:Go.Proofs.Lays.n321 Tryz.prog Tryz.lays321_ren:=by
 repeat' first | kernel_rfl | (intro; kernel_rfl) | constructor
open Go.RowKit in
theorem Tryz.internal_strconv_lower (c:Int) (w:World) :
    Calls Tryz.prog 183 #[.int .u8 c] w fun e w'=>e=.returned (.int .u8 (bits .or .u8 c 32))∧w'=w:=Any.internal_strconv_lower Tryz.lays321 c w
def Tryz.lays287_ren:Go.Shelf.Ren:=⟨fun | 287=>178 | 321=>183 | 322=>184 | n=>n,fun | 9=>9 | 3=>3 | 53=>155 | 75=>117 | 4=>4 | 167=>202 | 5=>5 | 46=>173 | 37=>80 | 0=>0 | 21=>21 | 80=>88 | n=>n,fun | n=>n⟩
theorem Tryz.lays287:Go.Proofs.Lays.n287 Tryz.prog Tryz.lays287_ren:=by
 repeat' first | kernel_rfl | (intro; kernel_rfl) | constructor
open Go.RowKit in
theorem Tryz.internal_strconv_ParseUint_10 (t:ByteArray) (hne:t.size≠0) (hmax:t.size≤9223372036854775806) (w:World) :
    Calls Tryz.prog 178 #[.string t,.int .i64 10,.int .i64 0] w fun e w'=>e=.returned (Lib.uintTuple 202 (Lib.parseUint10 0 t.data.toList))∧w'=Lib.bytesWorld w 5 t:=Any.internal_strconv_ParseUint_10 Tryz.lays287 t hne hmax w
open Go.RowKit in
theorem Tryz.internal_strconv_ParseUint_10_any (t:ByteArray) (hmax:t.size≤9223372036854775806) (w:World) :
    Calls Tryz.prog 178 #[.string t,.int .i64 10,.int .i64 0] w fun e w'=>e=.returned (Lib.uintTuple 202 (Lib.parseMag t.data.toList))∧(w'=w∨w'=Lib.bytesWorld w 5 t):=Any.internal_strconv_ParseUint_10_any Tryz.lays287 t hmax w
def Tryz.laysC247_ren:Go.Shelf.Ren:=⟨fun | 247=>166 | 287=>178 | 321=>183 | 322=>184 | n=>n,fun | 9=>9 | 3=>3 | 2=>2 | 75=>117 | 4=>4 | 167=>202 | 5=>5 | 53=>155 | 175=>212 | 46=>173 | 37=>80 | 0=>0 | 21=>21 | 80=>88 | n=>n,fun | n=>n⟩
theorem Tryz.laysC247:Go.Proofs.LaysC.n247 Tryz.prog Tryz.laysC247_ren:=by
 repeat' first | kernel_rfl | (intro; kernel_rfl) | constructor
open Go.RowKit in
theorem Tryz.internal_strconv_ParseInt_10 (s:ByteArray) (hne:s.size≠0) (hmax:s.size≤9223372036854775806) (w:World) :
    Calls Tryz.prog 166 #[.string s,.int .i64 10,.int .i64 0] w fun e w'=>e=.returned (Lib.intTuple 202 (Lib.atoiSat s.data.toList) (Lib.atoiAll s.data.toList))∧(w'=w∨∃ t,w'=Lib.bytesWorld w 5 t):=Any.internal_strconv_ParseInt_10 Tryz.laysC247 s hne hmax w
def Tryz.laysC244_ren:Go.Shelf.Ren:=⟨fun | 244=>153 | 247=>166 | 287=>178 | 321=>183 | 322=>184 | n=>n,fun | 9=>9 | 3=>3 | 75=>117 | 4=>4 | 5=>5 | 167=>202 | 37=>80 | 0=>0 | 85=>203 | 2=>2 | 53=>155 | 175=>212 | 46=>173 | 21=>21 | 80=>88 | n=>n,fun | n=>n⟩
theorem Tryz.laysC244:Go.Proofs.LaysC.n244 Tryz.prog Tryz.laysC244_ren:=by
 repeat' first | kernel_rfl | (intro; kernel_rfl) | constructor
open Go.RowKit in
theorem Tryz.internal_strconv_Atoi_long (s:ByteArray) (h19:19≤s.size) (hmax:s.size≤9223372036854775806) (w:World) :
    Calls Tryz.prog 153 #[.string s] w fun e w'=>e=.returned (Lib.intTuple 202 (Lib.atoiSat s.data.toList) (Lib.atoiAll s.data.toList))∧(w'=w∨∃ t,w'=Lib.bytesWorld w 5 t):=Any.internal_strconv_Atoi_long Tryz.laysC244 s h19 hmax w
open Go.RowKit in
theorem Tryz.internal_strconv_Atoi_all (s:ByteArray) (hmax:s.size≤9223372036854775806) (w:World) :
    Calls Tryz.prog 153 #[.string s] w fun e w'=>e=.returned (Lib.intTuple 202 (Lib.atoiSat s.data.toList) (Lib.atoiAll s.data.toList))∧(w'=w∨∃ t,w'=Lib.bytesWorld w 5 t):=Any.internal_strconv_Atoi_all Tryz.laysC244 s hmax w
def Tryz.laysM280_ren:Go.Shelf.Ren:=⟨fun | 280=>168 | 316=>179 | n=>n,fun | 9=>9 | 168=>205 | 75=>117 | 210=>216 | 3=>3 | 4=>4 | 37=>80 | 0=>0 | 127=>122 | 80=>88 | 5=>5 | n=>n,fun | 16=>5 | n=>n⟩
theorem Tryz.laysM280:Go.Proofs.LaysM.n280 Tryz.prog Tryz.laysM280_ren:=by
 repeat' first | kernel_rfl | (intro; kernel_rfl) | constructor
open Go.RowKit in
theorem Tryz.strconv_rangeError (fn s:ByteArray) (ev:Value) (w:World) (hlim:s.size≤281474976710656) (hv:w.cell? ⟨5,0,none⟩=some ev) (hev:ev=.nilIface∨∃ te pe,ev=.iface te pe) :
    Calls Tryz.prog 168 #[.string fn,.string s] w fun e w'=>∃ N,e=.returned (.pointer (some ⟨N,0,none⟩))∧w.heap.size≤N∧w'.heap[N]?=some (.cells #[.string fn,.string s,ev] 216 (0,0))∧Below w.heap.size w w':=Any.strconv_rangeError Tryz.laysM280 fn s ev w hlim hv hev
open Go.RowKit in
theorem Tryz.strconv_toError_range (fn s:ByteArray) (base bits:Int) (ev:Value) (w:World) (hlim:s.size≤281474976710656) (hv:w.cell? ⟨5,0,none⟩=some ev) (hev:ev=.nilIface∨∃ te pe,ev=.iface te pe) :
    Calls Tryz.prog 154 #[.string fn,.string s,.int .i64 base,.int .i64 bits,.iface 202 (.int .i64 1)] w fun e w'=>∃ N,e=.returned (.iface 205 (.pointer (some ⟨N,0,none⟩)))∧w.heap.size≤N∧w'.heap[N]?=some (.cells #[.string fn,.string s,ev] 216 (0,0))∧Below w.heap.size w w':=Any.strconv_toError_range Tryz.laysC245 fn s base bits ev w hlim hv hev
def Tryz.laysC172_ren:Go.Shelf.Ren:=⟨fun | 172=>138 | 244=>153 | 245=>154 | 247=>166 | 279=>167 | 280=>168 | 281=>169 | 282=>170 | 287=>178 | 316=>179 | 171=>97 | 205=>180 | 321=>183 | 322=>184 | 243=>123 | 246=>145 | 283=>159 | 284=>160 | 285=>161 | 286=>162 | 129=>173 | 317=>172 | 318=>174 | 319=>175 | 320=>176 | 337=>181 | 338=>182 | n=>n,fun | 9=>9 | 3=>3 | 75=>117 | 76=>119 | 4=>4 | 5=>5 | 167=>202 | 37=>80 | 0=>0 | 85=>203 | 2=>2 | 168=>205 | 53=>155 | 175=>212 | 46=>173 | 210=>216 | 127=>122 | 145=>226 | 143=>224 | 21=>21 | 171=>194 | 173=>197 | 212=>209 | 51=>188 | 20=>20 | 213=>210 | 232=>227 | 233=>228 | 80=>88 | n=>n,fun | 15=>4 | 16=>5 | 17=>3 | 18=>8 | 19=>9 | n=>n⟩
theorem Tryz.laysC172:Go.Proofs.LaysC.n172 Tryz.prog Tryz.laysC172_ren:=by
 repeat' first | kernel_rfl | (intro; kernel_rfl) | constructor
open Go.RowKit in
theorem Tryz.strconv_Atoi_ok (s:ByteArray) (hmax:s.size≤9223372036854775806) (v:Int) (h:Lib.atoiAll s.data.toList=.ok v) (w:World) :
    Calls Tryz.prog 138 #[.string s] w fun e w'=>e=.returned (.tuple #[.int .i64 v,.nilIface])∧(w'=w∨∃ t,w'=Lib.bytesWorld w 5 t):=Any.strconv_Atoi_ok Tryz.laysC172 s hmax v h w
open Go.RowKit in
theorem Tryz.strconv_Atoi_range (s:ByteArray) (hlim:s.size≤281474976710656) (h:Lib.atoiAll s.data.toList=.range) (ev:Value) (w:World) (hv:w.cell? ⟨5,0,none⟩=some ev) (hev:ev=.nilIface∨∃ te pe,ev=.iface te pe) :
    Calls Tryz.prog 138 #[.string s] w fun e w'=>∃ N,e=.returned (.tuple #[.int .i64 (Lib.atoiSat s.data.toList),.iface 205 (.pointer (some ⟨N,0,none⟩))])∧w.heap.size≤N∧w'.heap[N]?=some (.cells #[.string ⟨#[65,116,111,105]⟩,.string s,ev] 216 (0,0))∧Below w.heap.size w w':=Any.strconv_Atoi_range Tryz.laysC172 s hlim h ev w hv hev
open Go.RowKit in
theorem Tryz.strconv_Atoi_range_var (s:ByteArray) (hlim:s.size≤281474976710656) (h:Lib.atoiAll s.data.toList=.range) (tp:TypeId) (p:Value) (w:World) (hvar:w.var? Tryz.prog "strconv.ErrRange" = some #[.iface tp p]) :
    Calls Tryz.prog 138 #[.string s] w fun e w'=>∃ N,e=.returned (.tuple #[.int .i64 (Lib.atoiSat s.data.toList),.iface 205 (.pointer (some ⟨N,0,none⟩))])∧w.heap.size≤N∧w'.heap[N]?=some (.cells #[.string ⟨#[65,116,111,105]⟩,.string s,.iface tp p] 216 (0,0))∧Below w.heap.size w w':=Any.strconv_Atoi_range_var Tryz.laysC172 s hlim h tp p w hvar
def Tryz.lays217_ren:Go.Shelf.Ren:=⟨fun | 217=>130 | 266=>148 | n=>n,fun | 9=>9 | 5=>5 | 3=>3 | n=>n,fun | n=>n⟩
theorem Tryz.lays217:Go.Proofs.Lays.n217 Tryz.prog Tryz.lays217_ren:=by
 repeat' first | kernel_rfl | (intro; kernel_rfl) | constructor
open Go.RowKit Go.Lib in
theorem Tryz.stringslite_IndexByte (s:ByteArray) (c:Int) (w:World) :
    Calls Tryz.prog 130 #[.string s,.int .u8 c] w fun e w'=>e=.returned (.int .i64 (Lib.indexByte s.data.toList c.toNat.toUInt8))∧w'=w:=Any.stringslite_IndexByte Tryz.lays217 s c w
def Tryz.lays224_ren:Go.Shelf.Ren:=⟨fun | 224=>132 | n=>n,fun | 3=>3 | n=>n,fun | n=>n⟩
theorem Tryz.lays224:Go.Proofs.Lays.n224 Tryz.prog Tryz.lays224_ren:=by
 repeat' first | kernel_rfl | (intro; kernel_rfl) | constructor
open Go.RowKit Go.Lib in
theorem Tryz.bytealg_Cutover (n:Int) (h0:0≤n) (h1:n < 4611686018427387904) (w:World) :
    Calls Tryz.prog 132 #[.int .i64 n] w fun e w'=>e=.returned (.int .i64 ((n+16) / 8))∧w'=w:=Any.bytealg_Cutover Tryz.lays224 n h0 h1 w
def Tryz.lays314_ren:Go.Shelf.Ren:=⟨fun | 314=>149 | n=>n,fun | 9=>9 | 51=>188 | 3=>3 | 4=>4 | 5=>5 | 46=>173 | n=>n,fun | n=>n⟩
theorem Tryz.lays314:Go.Proofs.Lays.n314 Tryz.prog Tryz.lays314_ren:=by
 repeat' first | kernel_rfl | (intro; kernel_rfl) | constructor
open Go.RowKit Go.Lib in
theorem Tryz.bytealg_hashStr (sep:ByteArray) (hs:sep.size < 4294967281) (w:World) :
    Calls Tryz.prog 149 #[.string sep] w fun e w'=>e=.returned (.tuple #[.int .u32 (RK.H sep.data.toList % 4294967296),.int .u32 (16777619 ^ sep.size % 4294967296)])∧w'=w:=Any.bytealg_hashStr Tryz.lays314 sep hs w
def Tryz.lays267_ren:Go.Shelf.Ren:=⟨fun | 267=>133 | 314=>149 | n=>n,fun | 9=>9 | 3=>3 | 146=>189 | 51=>188 | 4=>4 | 5=>5 | 46=>173 | n=>n,fun | n=>n⟩
theorem Tryz.lays267:Go.Proofs.Lays.n267 Tryz.prog Tryz.lays267_ren:=by
 repeat' first | kernel_rfl | (intro; kernel_rfl) | constructor
open Go.RowKit Go.Lib in
theorem Tryz.bytealg_IndexRabinKarp (s sep:ByteArray) (h1:1≤sep.size) (h2:sep.size≤s.size) (hs:s.size < 4294967281) (w:World) :
    Calls Tryz.prog 133 #[.string s,.string sep] w fun e w'=>e=.returned (.int .i64 (Lib.index s.data.toList sep.data.toList))∧w'=w:=Any.bytealg_IndexRabinKarp Tryz.lays267 s sep h1 h2 hs w
def Tryz.lays219_ren:Go.Shelf.Ren:=⟨fun | 219=>103 | 217=>130 | 225=>131 | 224=>132 | 267=>133 | 266=>148 | 314=>149 | n=>n,fun | 9=>9 | 3=>3 | 4=>4 | 5=>5 | 46=>173 | 146=>189 | 51=>188 | n=>n,fun | 1=>2 | n=>n⟩
theorem Tryz.lays219:Go.Proofs.Lays.n219 Tryz.prog Tryz.lays219_ren:=by
 repeat' first | kernel_rfl | (intro; kernel_rfl) | constructor
open Go.RowKit Go.Lib in
theorem Tryz.stringslite_Index_one (s:ByteArray) (c:UInt8) (w:World) :
    Calls Tryz.prog 103 #[.string s,.string ⟨#[c]⟩] w fun e w'=>e=.returned (.int .i64 (Lib.indexByte s.data.toList c))∧w'=w:=Any.stringslite_Index_one Tryz.lays219 s c w
open Go.RowKit Go.Lib in
theorem Tryz.stringslite_Index (s sub:ByteArray) (m:Int) (w:World) (hs:s.size < 4294967281) (hm:w.cell? ⟨2,0,none⟩=some (.int .i64 m)) :
    Calls Tryz.prog 103 #[.string s,.string sub] w fun e w'=>e=.returned (.int .i64 (Lib.index s.data.toList sub.data.toList))∧w'=w:=Any.stringslite_Index Tryz.lays219 s sub m w hs hm
def Tryz.lays143_ren:Go.Shelf.Ren:=⟨fun | 143=>152 | 219=>103 | 217=>130 | 225=>131 | 224=>132 | 267=>133 | 266=>148 | 314=>149 | n=>n,fun | 9=>9 | 3=>3 | 4=>4 | 5=>5 | 46=>173 | 146=>189 | 51=>188 | n=>n,fun | 1=>2 | n=>n⟩
theorem Tryz.lays143:Go.Proofs.Lays.n143 Tryz.prog Tryz.lays143_ren:=by
 repeat' first | kernel_rfl | (intro; kernel_rfl) | constructor
open Go.RowKit Go.Lib in
theorem Tryz.strings_Index_one (s:ByteArray) (c:UInt8) (w:World) :
    Calls Tryz.prog 152 #[.string s,.string ⟨#[c]⟩] w fun e w'=>e=.returned (.int .i64 (Lib.indexByte s.data.toList c))∧w'=w:=Any.strings_Index_one Tryz.lays143 s c w
open Go.RowKit Go.Lib in
theorem Tryz.strings_Index (s sub:ByteArray) (m:Int) (w:World) (hs:s.size < 4294967281) (hm:w.cell? ⟨2,0,none⟩=some (.int .i64 m)) :
    Calls Tryz.prog 152 #[.string s,.string sub] w fun e w'=>e=.returned (.int .i64 (Lib.index s.data.toList sub.data.toList))∧w'=w:=Any.strings_Index Tryz.lays143 s sub m w hs hm
def Tryz.lays220_ren:Go.Shelf.Ren:=⟨fun | 220=>71 | 219=>103 | 217=>130 | 225=>131 | 224=>132 | 267=>133 | 266=>148 | 314=>149 | n=>n,fun | 9=>9 | 4=>4 | 3=>3 | 5=>5 | 46=>173 | 146=>189 | 51=>188 | n=>n,fun | 1=>2 | n=>n⟩
theorem Tryz.lays220:Go.Proofs.Lays.n220 Tryz.prog Tryz.lays220_ren:=by
 repeat' first | kernel_rfl | (intro; kernel_rfl) | constructor
open Go.RowKit Go.Lib in
theorem Tryz.stringslite_Cut (s sep:ByteArray) (m:Int) (w:World) (hs:s.size < 4294967281) (hm:w.cell? ⟨2,0,none⟩=some (.int .i64 m)) :
    Calls Tryz.prog 71 #[.string s,.string sep] w fun e w'=>e=.returned (.tuple #[.string ⟨(Lib.cut s.data.toList sep.data.toList).1.toArray⟩,.string ⟨(Lib.cut s.data.toList sep.data.toList).2.1.toArray⟩,.bool (Lib.cut s.data.toList sep.data.toList).2.2])∧∃ n,w'=w.drewN n:=Any.stringslite_Cut Tryz.lays220 s sep m w hs hm
def Tryz.lays145_ren:Go.Shelf.Ren:=⟨fun | 145=>35 | 220=>71 | 219=>103 | 217=>130 | 225=>131 | 224=>132 | 267=>133 | 266=>148 | 314=>149 | n=>n,fun | 9=>9 | 4=>4 | 59=>97 | 3=>3 | 5=>5 | 46=>173 | 146=>189 | 51=>188 | n=>n,fun | 1=>2 | n=>n⟩
theorem Tryz.lays145:Go.Proofs.Lays.n145 Tryz.prog Tryz.lays145_ren:=by
 repeat' first | kernel_rfl | (intro; kernel_rfl) | constructor
open Go.RowKit Go.Lib in
theorem Tryz.strings_Cut (s sep:ByteArray) (m:Int) (w:World) (hs:s.size < 4294967281) (hm:w.cell? ⟨2,0,none⟩=some (.int .i64 m)) :
    Calls Tryz.prog 35 #[.string s,.string sep] w fun e w'=>e=.returned (.tuple #[.string ⟨(Lib.cut s.data.toList sep.data.toList).1.toArray⟩,.string ⟨(Lib.cut s.data.toList sep.data.toList).2.1.toArray⟩,.bool (Lib.cut s.data.toList sep.data.toList).2.2])∧∃ n,w'=w.drewN n:=Any.strings_Cut Tryz.lays145 s sep m w hs hm
def Tryz.lays138_ren:Go.Shelf.Ren:=⟨fun | 138=>151 | 195=>163 | 218=>165 | 143=>152 | 219=>103 | 217=>130 | 225=>131 | 224=>132 | 267=>133 | 266=>148 | 314=>149 | n=>n,fun | 9=>9 | 3=>3 | 4=>4 | 5=>5 | 0=>0 | 46=>173 | 146=>189 | 51=>188 | n=>n,fun | 1=>2 | n=>n⟩
theorem Tryz.lays138:Go.Proofs.Lays.n138 Tryz.prog Tryz.lays138_ren:=by
 repeat' first | kernel_rfl | (intro; kernel_rfl) | constructor
open Go.RowKit Go.Lib in
theorem Tryz.strings_Count_one (s:ByteArray) (c:UInt8) (w:World) :
    Calls Tryz.prog 151 #[.string s,.string ⟨#[c]⟩] w fun e w'=>e=.returned (.int .i64 (Lib.countByte s.data.toList c))∧w'=w:=Any.strings_Count_one Tryz.lays138 s c w
open Go.RowKit Go.Lib in
theorem Tryz.strings_Count (s sub:ByteArray) (m:Int) (w:World) (hs:s.size < 4294967281) (hm:w.cell? ⟨2,0,none⟩=some (.int .i64 m)) (h2:2≤sub.size) :
    Calls Tryz.prog 151 #[.string s,.string sub] w fun e w'=>e=.returned (.int .i64 (Lib.countB s sub))∧w'=w:=Any.strings_Count Tryz.lays138 s sub m w hs hm h2
def Tryz.laysM219_ren:Go.Shelf.Ren:=⟨fun | 219=>103 | 217=>130 | 225=>131 | 224=>132 | 267=>133 | 266=>148 | 314=>149 | n=>n,fun | 9=>9 | 3=>3 | 4=>4 | 5=>5 | 46=>173 | 146=>189 | 51=>188 | n=>n,fun | 1=>2 | n=>n⟩
theorem Tryz.laysM219:Go.Proofs.LaysM.n219 Tryz.prog Tryz.laysM219_ren:=by
 repeat' first | kernel_rfl | (intro; kernel_rfl) | constructor
 exact fun w h=>Go.Proofs.cell_of_shapedOpen_int (zero:=#[.int .i64 0]) (t:=3) h (of_decide_eq_true (by kernel_rfl)) (by kernel_rfl) rfl (by kernel_rfl) (by kernel_rfl) Tryz.underlying3
open Go.RowKit Go.Lib in
theorem Tryz.stringslite_Index_shaped (s sub:ByteArray) (w:World) (h:w.ShapedOpen Tryz.prog) (hs:s.size < 4294967281) :
    Calls Tryz.prog 103 #[.string s,.string sub] w fun e w'=>e=.returned (.int .i64 (Lib.index s.data.toList sub.data.toList))∧w'=w:=Any.stringslite_Index_shaped Tryz.laysM219 s sub w h hs
def Tryz.laysM143_ren:Go.Shelf.Ren:=⟨fun | 143=>152 | 219=>103 | 217=>130 | 225=>131 | 224=>132 | 267=>133 | 266=>148 | 314=>149 | n=>n,fun | 9=>9 | 3=>3 | 4=>4 | 5=>5 | 46=>173 | 146=>189 | 51=>188 | n=>n,fun | 1=>2 | n=>n⟩
theorem Tryz.laysM143:Go.Proofs.LaysM.n143 Tryz.prog Tryz.laysM143_ren:=by
 repeat' first | kernel_rfl | (intro; kernel_rfl) | constructor
 exact fun w h=>Go.Proofs.cell_of_shapedOpen_int (zero:=#[.int .i64 0]) (t:=3) h (of_decide_eq_true (by kernel_rfl)) (by kernel_rfl) rfl (by kernel_rfl) (by kernel_rfl) Tryz.underlying3
open Go.RowKit Go.Lib in
theorem Tryz.strings_Index_shaped (s sub:ByteArray) (w:World) (h:w.ShapedOpen Tryz.prog) (hs:s.size < 4294967281) :
    Calls Tryz.prog 152 #[.string s,.string sub] w fun e w'=>e=.returned (.int .i64 (Lib.index s.data.toList sub.data.toList))∧w'=w:=Any.strings_Index_shaped Tryz.laysM143 s sub w h hs
def Tryz.laysM220_ren:Go.Shelf.Ren:=⟨fun | 220=>71 | 219=>103 | 217=>130 | 225=>131 | 224=>132 | 267=>133 | 266=>148 | 314=>149 | n=>n,fun | 9=>9 | 4=>4 | 3=>3 | 5=>5 | 46=>173 | 146=>189 | 51=>188 | n=>n,fun | 1=>2 | n=>n⟩
theorem Tryz.laysM220:Go.Proofs.LaysM.n220 Tryz.prog Tryz.laysM220_ren:=by
 repeat' first | kernel_rfl | (intro; kernel_rfl) | constructor
 exact fun w h=>Go.Proofs.cell_of_shapedOpen_int (zero:=#[.int .i64 0]) (t:=3) h (of_decide_eq_true (by kernel_rfl)) (by kernel_rfl) rfl (by kernel_rfl) (by kernel_rfl) Tryz.underlying3
open Go.RowKit Go.Lib in
theorem Tryz.stringslite_Cut_shaped (s sep:ByteArray) (w:World) (h:w.ShapedOpen Tryz.prog) (hs:s.size < 4294967281) :
    Calls Tryz.prog 71 #[.string s,.string sep] w fun e w'=>e=.returned (.tuple #[.string ⟨(Lib.cut s.data.toList sep.data.toList).1.toArray⟩,.string ⟨(Lib.cut s.data.toList sep.data.toList).2.1.toArray⟩,.bool (Lib.cut s.data.toList sep.data.toList).2.2])∧∃ n,w'=w.drewN n:=Any.stringslite_Cut_shaped Tryz.laysM220 s sep w h hs
def Tryz.laysM145_ren:Go.Shelf.Ren:=⟨fun | 145=>35 | 220=>71 | 219=>103 | 217=>130 | 225=>131 | 224=>132 | 267=>133 | 266=>148 | 314=>149 | n=>n,fun | 9=>9 | 4=>4 | 59=>97 | 3=>3 | 5=>5 | 46=>173 | 146=>189 | 51=>188 | n=>n,fun | 1=>2 | n=>n⟩
theorem Tryz.laysM145:Go.Proofs.LaysM.n145 Tryz.prog Tryz.laysM145_ren:=by
 repeat' first | kernel_rfl | (intro; kernel_rfl) | constructor
 exact fun w h=>Go.Proofs.cell_of_shapedOpen_int (zero:=#[.int .i64 0]) (t:=3) h (of_decide_eq_true (by kernel_rfl)) (by kernel_rfl) rfl (by kernel_rfl) (by kernel_rfl) Tryz.underlying3
open Go.RowKit Go.Lib in
theorem Tryz.strings_Cut_shaped (s sep:ByteArray) (w:World) (h:w.ShapedOpen Tryz.prog) (hs:s.size < 4294967281) :
    Calls Tryz.prog 35 #[.string s,.string sep] w fun e w'=>e=.returned (.tuple #[.string ⟨(Lib.cut s.data.toList sep.data.toList).1.toArray⟩,.string ⟨(Lib.cut s.data.toList sep.data.toList).2.1.toArray⟩,.bool (Lib.cut s.data.toList sep.data.toList).2.2])∧∃ n,w'=w.drewN n:=Any.strings_Cut_shaped Tryz.laysM145 s sep w h hs
def Tryz.laysM138_ren:Go.Shelf.Ren:=⟨fun | 138=>151 | 195=>163 | 218=>165 | 143=>152 | 219=>103 | 217=>130 | 225=>131 | 224=>132 | 267=>133 | 266=>148 | 314=>149 | n=>n,fun | 9=>9 | 3=>3 | 4=>4 | 5=>5 | 0=>0 | 46=>173 | 146=>189 | 51=>188 | n=>n,fun | 1=>2 | n=>n⟩
theorem Tryz.laysM138:Go.Proofs.LaysM.n138 Tryz.prog Tryz.laysM138_ren:=by
 repeat' first | kernel_rfl | (intro; kernel_rfl) | constructor
 exact fun w h=>Go.Proofs.cell_of_shapedOpen_int (zero:=#[.int .i64 0]) (t:=3) h (of_decide_eq_true (by kernel_rfl)) (by kernel_rfl) rfl (by kernel_rfl) (by kernel_rfl) Tryz.underlying3
open Go.RowKit Go.Lib in
theorem Tryz.strings_Count_shaped (s sub:ByteArray) (w:World) (h:w.ShapedOpen Tryz.prog) (hs:s.size < 4294967281) (h2:2≤sub.size) :
    Calls Tryz.prog 151 #[.string s,.string sub] w fun e w'=>e=.returned (.int .i64 (Lib.countB s sub))∧w'=w:=Any.strings_Count_shaped Tryz.laysM138 s sub w h hs h2
def Tryz.lays206_ren:Go.Shelf.Ren:=⟨fun | 206=>171 | n=>n,fun | 9=>9 | 4=>4 | 3=>3 | n=>n,fun | n=>n⟩
theorem Tryz.lays206:Go.Proofs.Lays.n206 Tryz.prog Tryz.lays206_ren:=by
 repeat' first | kernel_rfl | (intro; kernel_rfl) | constructor
open Go.RowKit Go.Lib in
theorem Tryz.stringslite_HasPrefix (s p:ByteArray) (w:World) :
    Calls Tryz.prog 171 #[.string s,.string p] w fun e w'=>e=.returned (.bool (Lib.hasPrefix s.data.toList p.data.toList))∧w'=w:=Any.stringslite_HasPrefix Tryz.lays206 s p w
def Tryz.lays208_ren:Go.Shelf.Ren:=⟨fun | 208=>155 | 206=>171 | n=>n,fun | 9=>9 | 4=>4 | 3=>3 | n=>n,fun | n=>n⟩
theorem Tryz.lays208:Go.Proofs.Lays.n208 Tryz.prog Tryz.lays208_ren:=by
 repeat' first | kernel_rfl | (intro; kernel_rfl) | constructor
open Go.RowKit Go.Lib in
theorem Tryz.stringslite_TrimPrefix (s p:ByteArray) (w:World) :
    Calls Tryz.prog 155 #[.string s,.string p] w fun e w'=>e=.returned (.string ⟨(Lib.trimPrefix s.data.toList p.data.toList).toArray⟩)∧w'=w:=Any.stringslite_TrimPrefix Tryz.lays208 s p w
def Tryz.lays101_ren:Go.Shelf.Ren:=⟨fun | 101=>139 | 208=>155 | 206=>171 | n=>n,fun | 9=>9 | 4=>4 | 3=>3 | n=>n,fun | n=>n⟩
theorem Tryz.lays101:Go.Proofs.Lays.n101 Tryz.prog Tryz.lays101_ren:=by
 repeat' first | kernel_rfl | (intro; kernel_rfl) | constructor
open Go.RowKit Go.Lib in
theorem Tryz.strings_TrimPrefix (s p:ByteArray) (w:World) :
    Calls Tryz.prog 139 #[.string s,.string p] w fun e w'=>e=.returned (.string ⟨(Lib.trimPrefix s.data.toList p.data.toList).toArray⟩)∧w'=w:=Any.strings_TrimPrefix Tryz.lays101 s p w
open Go.RowKit Go.Lib in
theorem Tryz.strings_Count_any (s sep:ByteArray) (m:Int) (w:World) (hs:s.size < 4294967281) (hm:w.cell? ⟨2,0,none⟩=some (.int .i64 m)) (h1:1≤sep.size) :
    Calls Tryz.prog 151 #[.string s,.string sep] w fun e w'=>e=.returned (.int .i64 (Lib.countB s sep))∧w'=w:=Any.strings_Count_any Tryz.lays138 s sep m w hs hm h1
def Tryz.lays221_ren:Go.Shelf.Ren:=⟨fun | 221=>134 | 268=>150 | 138=>151 | 143=>152 | 195=>163 | 197=>164 | 218=>165 | 219=>103 | 260=>177 | 217=>130 | 225=>131 | 224=>132 | 267=>133 | 266=>148 | 314=>149 | n=>n,fun | 9=>9 | 3=>3 | 31=>59 | 4=>4 | 0=>0 | 105=>200 | 21=>21 | 5=>5 | 46=>173 | 119=>219 | 139=>222 | 138=>221 | 146=>189 | 51=>188 | n=>n,fun | 1=>2 | 3=>6 | 4=>7 | n=>n⟩
theorem Tryz.lays221:Go.Proofs.Lays.n221 Tryz.prog Tryz.lays221_ren:=by
 repeat' first | kernel_rfl | (intro; kernel_rfl) | constructor
open Go.RowKit Go.Lib in
theorem Tryz.strings_genSplit (s sep:ByteArray) (sv:Nat) (n:Int) (N:Nat) (m:Int) (w:World) (hs:s.size < 4294967281) (hm:w.cell? ⟨2,0,none⟩=some (.int .i64 m)) (h1:1≤sep.size) (hsv:sv≤sep.size) (hn0:n≠0) (hn63:n≤9223372036854775807) (hN:(N:Int)=min (if n < 0 then (Lib.countB s sep:Int)+1 else n) ((s.size:Int)+1)) :
    Calls Tryz.prog 134 #[.string s,.string sep,.int .i64 sv,.int .i64 n] w fun e w'=>
      e=.returned (.slice (some ⟨w.heap.size,0,none⟩) (Lib.splitB sep sv (N - 1) s).length N)∧w'=w.alloc (.cells (Lib.cellsOf (Lib.splitB sep sv (N - 1) s) N) 9):=Any.strings_genSplit Tryz.lays221 (by kernel_rfl) s sep sv n N m w hs hm h1 hsv hn0 hn63 hN
def Tryz.lays146_ren:Go.Shelf.Ren:=⟨fun | 146=>104 | 221=>134 | 268=>150 | 138=>151 | 143=>152 | 195=>163 | 197=>164 | 218=>165 | 219=>103 | 260=>177 | 217=>130 | 225=>131 | 224=>132 | 267=>133 | 266=>148 | 314=>149 | n=>n,fun | 9=>9 | 31=>59 | 3=>3 | 4=>4 | 0=>0 | 105=>200 | 21=>21 | 5=>5 | 46=>173 | 119=>219 | 139=>222 | 138=>221 | 146=>189 | 51=>188 | n=>n,fun | 1=>2 | 3=>6 | 4=>7 | n=>n⟩
theorem Tryz.lays146:Go.Proofs.Lays.n146 Tryz.prog Tryz.lays146_ren:=by
 repeat' first | kernel_rfl | (intro; kernel_rfl) | constructor
open Go.RowKit Go.Lib in
theorem Tryz.strings_Split (s sep:ByteArray) (m:Int) (w:World) (hs:s.size < 4294967281) (hm:w.cell? ⟨2,0,none⟩=some (.int .i64 m)) (h1:1≤sep.size) :
    Calls Tryz.prog 104 #[.string s,.string sep] w fun e w'=>
      e=.returned (.slice (some ⟨w.heap.size,0,none⟩) (Lib.countB s sep+1) (Lib.countB s sep+1))∧w'=w.alloc (.cells ((Lib.splitB sep 0 (Lib.countB s sep) s).map Value.string).toArray 9):=Any.strings_Split Tryz.lays146 (by kernel_rfl) s sep m w hs hm h1
def Tryz.laysM146_ren:Go.Shelf.Ren:=⟨fun | 146=>104 | 221=>134 | 268=>150 | 138=>151 | 143=>152 | 195=>163 | 197=>164 | 218=>165 | 219=>103 | 260=>177 | 217=>130 | 225=>131 | 224=>132 | 267=>133 | 266=>148 | 314=>149 | n=>n,fun | 9=>9 | 31=>59 | 3=>3 | 4=>4 | 0=>0 | 105=>200 | 21=>21 | 5=>5 | 46=>173 | 119=>219 | 139=>222 | 138=>221 | 146=>189 | 51=>188 | n=>n,fun | 1=>2 | 3=>6 | 4=>7 | n=>n⟩
theorem Tryz.laysM146:Go.Proofs.LaysM.n146 Tryz.prog Tryz.laysM146_ren:=by
 repeat' first | kernel_rfl | (intro; kernel_rfl) | constructor
 exact fun w h=>Go.Proofs.cell_of_shapedOpen_int (zero:=#[.int .i64 0]) (t:=3) h (of_decide_eq_true (by kernel_rfl)) (by kernel_rfl) rfl (by kernel_rfl) (by kernel_rfl) Tryz.underlying3
open Go.RowKit Go.Lib in
theorem Tryz.strings_Split_shaped (s sep:ByteArray) (w:World) (h:w.ShapedOpen Tryz.prog) (hs:s.size < 4294967281) (h1:1≤sep.size) :
    Calls Tryz.prog 104 #[.string s,.string sep] w fun e w'=>
      e=.returned (.slice (some ⟨w.heap.size,0,none⟩) (Lib.countB s sep+1) (Lib.countB s sep+1))∧w'=w.alloc (.cells ((Lib.splitB sep 0 (Lib.countB s sep) s).map Value.string).toArray 9):=Any.strings_Split_shaped Tryz.laysM146 s sep w h hs h1
def Tryz.lays260_ren:Go.Shelf.Ren:=⟨fun | 260=>177 | n=>n,fun | 9=>9 | 21=>21 | 3=>3 | 4=>4 | 5=>5 | 119=>219 | 0=>0 | 46=>173 | 139=>222 | 138=>221 | n=>n,fun | 3=>6 | 4=>7 | n=>n⟩
theorem Tryz.lays260:Go.Proofs.Lays.n260 Tryz.prog Tryz.lays260_ren:=by
 repeat' first | kernel_rfl | (intro; kernel_rfl) | constructor
open Go.RowKit Go.Lib in
theorem Tryz.utf8_decodeRuneInStringSlow (s:ByteArray) (w:World) (hT:Lib.Utf8Tabs 6 7 w) :
    Calls Tryz.prog 177 #[.string s] w fun e w'=>e=.returned (.tuple #[.int .i32 (Lib.decodeGo s).1,.int .i64 (Lib.decodeGo s).2])∧Below w.heap.size w w':=Any.utf8_decodeRuneInStringSlow Tryz.lays260 s w hT
end Go.Proofs
namespace Go.Proofs.YtheidkkebdhmkaaGreatDoor
open Go.RowKit
set_option linter.unusedVariables false
set_option linter.unusedSimpArgs false
set_option maxRecDepth 20000
open Go.Proofs.Tryz (prog)
section
open Go.Lib
open Go.Sort
set_option maxHeartbeats 2000000 in
set_option maxRecDepth 100000 in
theorem jQJ (u:Nat) (h1:1≤u) (h2:u < 18446744073709551616) (w:World) (hc:∀ i:Nat,i < 20→w.cell? ⟨3,i,none⟩=some (.int .u64 ((10 ^ i:Nat):Int))) :
  Calls prog 160 #[.int .u64 u] w fun e w'=>e=.returned (.int .i64 (nDigits u))∧w'=w:=by
 obtain ⟨hs,h19⟩:=numDigits_eq u h1 h2
 have hL:Lib.bitLen u≤64:=Lib.bitLen_le u 64 (Nat.le_refl _) h2
 have hto:((u:Int)).toNat=u:=by omega
 obtain ⟨q,hq⟩:∃ q,l10 (Lib.bitLen u)=q:=⟨_,rfl⟩
 rw [hq] at hs h19
 have hcell:=hc q (by omega)
 obtain ⟨T,hT⟩:∃ T,10 ^ q=T:=⟨_,rfl⟩
 rw [hT] at hs hcell
 have H:=hid hs
 have HQ:=hid hq
 clear hs hc hq hT
 go_enter Tryz.func160,Tryz.ntmps160
 go_wp2_with (first
  |(go_at_call 173; refine (Tryz.bits_Len64 _ _ (by omega) (by omega)).mono ?_; rintro e w' ⟨rfl,rfl⟩; rw [hto])
  |(go_at_call 172; refine (Tryz.internal_strconv_log10Pow2 _ hL _).mono ?_; rintro e w' ⟨rfl,rfl⟩; rw [HQ.out])
  |(go_at_call 174; refine (Tryz.internal_strconv_bool2_int _ _).mono ?_; rintro e w' ⟨rfl,rfl⟩))
 all_goals go_ret
 all_goals
  refine ⟨?_,rfl⟩
  have e:=H.out
  congr 2
  split at e <;> simp_all <;> omega
theorem jXk (w:World) (q:Nat) (os:Array Obj):RowKit.Below w.heap.size w (grow (w.drewN q) os):=
 ⟨rfl,rfl,rfl,by show _≤(w.heap++os).size; rw [Array.size_append]; omega,fun k hk=>Array.getElem?_append_left hk⟩
abbrev u8v:UInt8→Value:=fun b=>Value.int .u8 (b.toNat:Int)
abbrev AT:TypeId:=194
theorem jYq (u:Nat) (hu:u < 18446744073709551616) (hn:nDigits u≤20) (w:World) :
  Calls prog 161 #[.slice (some ⟨w.heap.size,1,none⟩) (nDigits u) 23,.int .u64 u] (w.alloc (.cells zeros24 AT)) fun e w'=>
   e=.returned (.tuple #[])∧(∀ j (hj:j < (decDigits u).length),w'.cell? ⟨w.heap.size,1+j,none⟩=some (u8v (decDigits u)[j]))∧w'.cell? ⟨w.heap.size,0,none⟩=some (.int .u8 0)∧w'.frozen? ⟨w.heap.size,0,none⟩=false∧Below w.heap.size w w':=by
 have hH:=holds_zero w AT (nDigits u) (by omega)
 have h:=Tryz.internal_strconv_formatBase10 w.heap.size 1 23 u (Array.replicate (nDigits u) 0) (w.alloc (.cells zeros24 AT)) hH (by rw [Array.size_replicate]; exact lt_pow_nDigits u) hu (by rw [Array.size_replicate]; omega)
 rw [Array.size_replicate] at h
 refine h.mono ?_
 rintro e w' ⟨rfl,k,v',dk,rfl,hF⟩
 have hsz:dk.size=nDigits u:=hF.size
 refine ⟨rfl,fun j hj=>?_,?_,?_,?_⟩
 ·have hj':j < nDigits u:=by rwa [decDigits_length] at hj
  rw [row_is_numeral hF j hj,World.cell?_drewN]
  exact cell?_putRow u8v _ w.heap.size 1 _ dk hH (by rw [hsz,Array.size_replicate]) j (by omega)
 ·rw [World.cell?_drewN,cell?_putRow_other _ _ _ _ _ _ (Or.inr (Or.inl (Nat.zero_lt_one))),World.cell?_alloc_new]
  exact zeros24_at 0 (by omega)
 ·rw [World.frozen?_drewN,frozen?_putRow]
  exact World.frozen?_alloc_new _ _ _ _
 ·obtain ⟨os,eo⟩:=fin_pos w (.cells zeros24 AT) dk k
  rw [eo]
  exact jXk w k os
theorem jQQ (W:World) (g off cap:Nat) (l:List UInt8) (hc:∀ j (hj:j < l.length),W.cell? ⟨g,off+j,none⟩=some (u8v l[j])) :
  (convert 80 9 (.slice (some ⟨g,off,none⟩) l.length cap)).run prog W=.ok (.string ⟨l.toArray⟩) W:=
 run_convert_bytes_back (P:=prog) W 80 9 5 ⟨g,off,none⟩ cap l Tryz.underlying80 Tryz.underlying5 Tryz.underlying9 fun j hj=>by rw [add_plain]; exact hc j hj
set_option maxHeartbeats 6400000 in
set_option maxRecDepth 100000 in
theorem jQH (n:Int) (h0 : -9223372036854775808≤n) (h1:n≤9223372036854775807) (w:World)
  (hc:∀ i:Nat,i < 20→w.cell? ⟨3,i,none⟩=some (.int .u64 ((10 ^ i:Nat):Int))) (hg:3 < w.heap.size) :
  Calls prog 145 #[.int .i64 n,.int .i64 10] w fun e w'=>e=.returned (.string ⟨(itoa n).toArray⟩)∧Below w.heap.size w w':=by
 by_cases hs:0≤n∧n < 100
 ·obtain ⟨i,rfl⟩:∃ i:Nat,n=i:=⟨n.toNat,by omega⟩
  have hi:i < 100:=by omega
  clear hc
  go_enter Tryz.func145,Tryz.ntmps145
  go_wp2_with (go_at_call 159; refine (Tryz.internal_strconv_small i hi _).mono ?_; rintro e w' ⟨rfl,rfl⟩)
  go_ret
  refine ⟨?_,Below.refl _ _⟩
  rw [itoa_nonneg]
  rfl
 ·obtain ⟨u,hu⟩:∃ u:Nat,u=n.natAbs:=⟨_,rfl⟩
  have hu1:1≤u:=by omega
  have hu64:u < 18446744073709551616:=by omega
  have hnd20:nDigits u≤20:=by have:=numDigits_eq u hu1 hu64; split at this <;> omega
  have hc':∀ i:Nat,i < 20→(w.alloc (.cells zeros24 AT)).cell? ⟨3,i,none⟩=some (.int .u64 ((10 ^ i:Nat):Int)):=fun i hi=>by
   rw [World.cell?_of_block (a:=⟨3,i,none⟩) (Below.heap_alloc w _ _ hg)]
   exact hc i hi
  have hdig:=jQJ u hu1 hu64 (w.alloc (.cells zeros24 AT)) hc'
  have hfill:=jYq u hu64 hnd20 w
  have hal:prog.arrayLen AT=24:=by simp [Program.arrayLen,Tryz.underlying194]
  have hsl1:∀ W,(Instr.sliceAt AT (.pointer (some ⟨w.heap.size,0,none⟩)) (some (.int .i64 1)) (some (.int .i64 (1+(nDigits u:Int)))) none).run prog W=.ok (.slice (some ⟨w.heap.size,1,none⟩) (nDigits u) 23) W:=fun W=>by
   rw [run_sliceAt_array_lh W AT ⟨w.heap.size,0,none⟩ (by simp [Program.arrayLen,Program.elem,Tryz.underlying194]) .i64 .i64 1 (1+(nDigits u:Int)) (by omega) (by omega) (by rw [hal]; omega)]
   go_simp
   omega
  have hsl2:∀ W,(Instr.sliceAt AT (.pointer (some ⟨w.heap.size,0,none⟩)) none (some (.int .i64 (1+(nDigits u:Int)))) none).run prog W=.ok (.slice (some ⟨w.heap.size,0,none⟩) (1+nDigits u) 24) W:=fun W=>by
   rw [run_sliceAt_array_h W AT ⟨w.heap.size,0,none⟩ (by simp [Program.arrayLen,Program.elem,Tryz.underlying194]) .i64 (1+(nDigits u:Int)) (by omega) (by rw [hal]; omega)]
   go_simp
   omega
  clear hc hc' hal
  by_cases hneg:n < 0
  ·obtain rfl:n = -(u:Int):=by omega
   clear hu
   have hwr:IntKind.u64.wrap (-IntKind.u64.wrap (-(u:Int)))=(u:Int):=by rw [IntKind.wrap_u64,IntKind.wrap_u64]; omega
   go_enter Tryz.func145,Tryz.ntmps145
   go_wp2_with (go_at_call 160; refine hdig.mono ?_; rintro e w' ⟨rfl,rfl⟩)
   go_at_call 161
   refine hfill.mono ?_
   rintro e W ⟨rfl,hrow,hz,hf,hb⟩
   have hcv:=jQQ (W.setCell ⟨w.heap.size,0,none⟩ (.int .u8 45)) w.heap.size 0 24 (45::decDigits u) fun j hj=>by
    cases j with
    | zero=>exact World.cell?_setCell_same _ _ _ hz
    | succ i=>
     have hi:i < (decDigits u).length:=by simpa using hj
     rw [World.cell?_setCell_other _ _ _ _ (by simp),List.getElem_cons_succ,← hrow i hi]
     congr 2
     omega
   rw [List.length_cons,decDigits_length,Nat.add_comm] at hcv
   clear hrow
   go_wp2
   go_ret
   refine ⟨?_,hb.setCell (Nat.le_refl _) _⟩
   rw [itoa_neg u hu1]
   rfl
  ·obtain rfl:n=(u:Int):=by omega
   clear hu
   go_enter Tryz.func145,Tryz.ntmps145
   go_wp2_with (go_at_call 160; refine hdig.mono ?_; rintro e w' ⟨rfl,rfl⟩)
   go_at_call 161
   refine hfill.mono ?_
   rintro e W ⟨rfl,hrow,hz,hf,hb⟩
   have hcv:=jQQ W w.heap.size 1 23 (decDigits u) hrow
   rw [decDigits_length] at hcv
   clear hrow
   go_wp2
   go_ret
   refine ⟨?_,hb⟩
   rw [itoa_nonneg]
   rfl
set_option maxRecDepth 100000 in
theorem zHB (n:Int) (h0 : -9223372036854775808≤n) (h1:n≤9223372036854775807) (w:World)
  (hc:∀ i:Nat,i < 20→w.cell? ⟨3,i,none⟩=some (.int .u64 ((10 ^ i:Nat):Int))) (hg:3 < w.heap.size) :
  Calls prog 97 #[.int .i64 n] w fun e w'=>e=.returned (.string ⟨(itoa n).toArray⟩)∧Below w.heap.size w w':=by
 have hf:=jQH n h0 h1 w hc hg
 clear hc hg
 have hi:Calls prog 123 #[.int .i64 n] w fun e w'=>e=.returned (.string ⟨(itoa n).toArray⟩)∧Below w.heap.size w w':=by
  go_enter Tryz.func123,Tryz.ntmps123
  go_wp2_with (go_at_call 145; refine hf.mono ?_; rintro e w' ⟨rfl,hb⟩)
  go_ret
  exact ⟨rfl,hb⟩
 clear hf
 go_enter Tryz.func97,Tryz.ntmps97
 go_wp2_with (go_at_call 123; refine hi.mono ?_; rintro e w' ⟨rfl,hb⟩)
 go_ret
 exact ⟨rfl,hb⟩
theorem jZt {w:World} {V:Nat→Prop} (h:zXB w V):(∀ i:Nat,i < 20→w.cell? ⟨3,i,none⟩=some (.int .u64 ((10 ^ i:Nat):Int)))∧3 < w.heap.size:=by
 obtain ⟨_,hc⟩:=h.1 (3,zXg) (by simp [zJC]) (by simp [zXg])
 have key:∀ i:Nat,i < 20→w.cell? ⟨3,i,none⟩=some (.int .u64 ((10 ^ i:Nat):Int)):=fun i hi=>by
  have hd:zXg[i]?=some (DV.int .u64 ((10 ^ i:Nat):Int)):=by
   have:i=0∨i=1∨i=2∨i=3∨i=4∨i=5∨i=6∨i=7∨i=8∨i=9∨i=10∨i=11∨i=12∨i=13∨i=14∨i=15∨i=16∨i=17∨i=18∨i=19:=by omega
   rcases this with rfl | rfl | rfl | rfl | rfl | rfl | rfl | rfl | rfl | rfl | rfl | rfl | rfl | rfl | rfl | rfl | rfl | rfl | rfl | rfl <;> rfl
  obtain ⟨u,hu,hr⟩:=hc.at_ i _ hd
  simp only [RepD] at hr
  rw [Nat.zero_add] at hu
  rw [hu,hr.1]
 refine ⟨key,?_⟩
 have:=key 0 (by omega)
 simp only [World.cell?] at this
 split at this
 ·rename_i h0
  exact (Array.getElem?_eq_some_iff.1 h0).1
 ·cases this
theorem jJC (n:Int):Ans prog 97 [rJ (n)] (RV.d (DV.str (toS (itoa n)))):=by
 intro w S vs hG hR
 obtain ⟨vs⟩:=vs
 match vs,hR with
 | [v],hR=>
  simp only [RepRs,RepR,RepD,and_true] at hR
  obtain ⟨rfl,hi⟩:=hR
  have hi:=(zXz _ _).1 hi
  simp only [IntKind.min,IntKind.max,IntKind.signed,IntKind.bits] at hi
  have hb : -9223372036854775808≤n∧n≤9223372036854775807:=by simpa using hi
  obtain ⟨hc,hg⟩:=jZt hG
  refine (zHB n hb.1 hb.2 w hc hg).mono fun e w' h=>?_
  obtain ⟨rfl,h⟩:=h
  refine ⟨_,rfl,?_,h⟩
  simp only [RepR,RepD]
  refine ⟨rfl,?_⟩
  have:=zKT n hb
  rw [zQF]
  unfold maxLen
  omega
theorem idx1 (c:UInt8):∀ l:Lb,(index l [c] = -1∧c ∉ l)∨∃ a b,l=a++c::b∧c ∉ a∧index l [c]=(a.length:Int)
 | []=>.inl ⟨rfl,by simp⟩
 | x::l=>by
  unfold index
  by_cases h:c=x
  ·subst h
   exact .inr ⟨[],l,rfl,by simp,by simp [List.isPrefixOf]⟩
  ·have hp:[c].isPrefixOf (x::l)=false:=by simp [List.isPrefixOf,h]
   rw [hp]
   rcases idx1 c l with ⟨h1,h2⟩ | ⟨a,b,rfl,h2,h3⟩
   ·exact .inl ⟨by simp [h1],by simp [h,h2]⟩
   ·refine .inr ⟨x::a,b,rfl,by simp [h,h2],?_⟩
    rw [h3]
    have:((a.length:Int) == -1)=false:=by rw [beq_eq_false_iff_ne]; omega
    simp [this]
theorem zG0 {l:Lb} (h:(32:UInt8) ∉ l):zQt l=[l]:=by
 induction l with
 | nil=>rfl
 | cons c l ih=>
  simp only [List.mem_cons,not_or] at h
  rw [zQt,if_neg (fun e=>h.1 e.symm),ih h.2]
  rfl
theorem zG2 {a b:Lb} (h:(32:UInt8) ∉ a):zQt (a++32::b)=a::zQt b:=by
 induction a with
 | nil=>simp [zQt]
 | cons c a ih=>
  simp only [List.mem_cons,not_or] at h
  rw [List.cons_append,zQt,if_neg (fun e=>h.1 e.symm),ih h.2]
  rfl
theorem zK7:∀ (n:Nat) (l:Lb),l.length≤n→∀ w∈zQt l,w.length≤l.length:=by
 intro n
 induction n with
 | zero=>
  intro l hl w hw
  have:l=[]:=by simpa using hl
  subst this
  simp [zQt] at hw
  simp [hw]
 | succ n ih=>
  intro l hl w hw
  rcases idx1 32 l with ⟨_,h⟩ | ⟨a,b,rfl,h,_⟩
  ·rw [zG0 h] at hw; simp at hw; simp [hw]
  ·rw [zG2 h] at hw
   rcases List.mem_cons.1 hw with rfl | hw
   ·simp
   ·have:=ih b (by simp at hl; omega) w hw
    simp; omega
theorem jYO:∀ (n:Nat) (s:ByteArray),s.size≤n→(splitB ⟨#[32]⟩ 0 (countB s ⟨#[32]⟩) s).map (·.data.toList)=zQt s.data.toList:=by
 intro n
 induction n with
 | zero=>
  intro s hs
  have hl:s.data.toList=[]:=by
   have:=size_eq s
   cases h:s.data.toList with
   | nil=>rfl
   | cons a b=>rw [h] at this; simp at this; omega
  rcases idx1 32 s.data.toList with ⟨h1,h2⟩ | ⟨a,b,h,_⟩
  ·rw [splitB_miss _ _ _ _ h1,hl]; simp [hl,zQt]
  ·rw [hl] at h; simp at h
 | succ n ih=>
  intro s hs
  rcases idx1 32 s.data.toList with ⟨h1,h2⟩ | ⟨a,b,h,h2,h3⟩
  ·rw [splitB_miss _ _ _ _ h1,zG0 h2]; rfl
  ·have h3':indexB s ⟨#[32]⟩=(a.length:Int):=h3
   have hx:(s.extract (a.length+1) s.size).data.toList=b:=by
    rw [show s=toS (a++32::b) from by rw [← h]; exact (zYO s).symm,zQF,jYx,zJ0]
    simp
    exact List.take_of_length_le (by omega)
   have h0:(s.extract 0 (a.length+0)).data.toList=a:=by
    rw [extract_from_zero,h]; simp
   have hsz:(s.extract (a.length+1) s.size).size≤n:=by
    rw [size_eq,hx]
    have:=size_eq s
    rw [h] at this
    simp at this; omega
   have hc:countB s ⟨#[32]⟩=countB (s.extract (a.length+1) s.size) ⟨#[32]⟩+1:=by
    rw [countB_hit s ⟨#[32]⟩ a.length (by decide) h3',Nat.add_comm]
    rfl
   rw [hc,splitB_hit _ _ _ _ _ h3',List.map_cons,h0,h,zG2 h2]
   congr 1
   have:=ih _ hsz
   rw [hx] at this
   exact this
theorem jZu {w:World} {V:Nat→Prop} (h:zXB w V):∃ m,w.cell? ⟨2,0,none⟩=some (.int .i64 m):=(h.2.2 2 (by simp [zJX])).2
theorem zHY (l:Lb) (hl:l.length < 4294967281):Ans prog 104 [RV.d (DV.str (toS l)),RV.d (DV.str (⟨#[32]⟩:ByteArray))] (RV.d (dS (zQt l).length (strs (zQt l)))):=by
 intro w S vs hG hR
 obtain ⟨vs⟩:=vs
 match vs,hR with
 | [v,v2],hR=>
  simp only [RepRs,RepR,RepD,and_true] at hR
  obtain ⟨⟨rfl,hsz⟩,rfl,_⟩:=hR
  obtain ⟨m,hm⟩:=jZu hG
  refine (Tryz.strings_Split (toS l) ⟨#[32]⟩ m w (by rw [zQF]; exact hl) hm (by decide)).mono fun e w' h=>?_
  obtain ⟨rfl,rfl⟩:=h
  have hs:=jYO (toS l).size (toS l) (Nat.le_refl _)
  rw [zJ0] at hs
  generalize hX:splitB ⟨#[32]⟩ 0 (countB (toS l) ⟨#[32]⟩) (toS l)=X at hs
  have hn:countB (toS l) ⟨#[32]⟩+1=(zQt l).length:=by rw [← hs,← hX,List.length_map,splitB_all _ (by decide) _ _ _ rfl]
  have hXs:X.map Value.string=(zQt l).map fun w=>Value.string (toS w):=by
   rw [← hs,List.map_map]
   refine List.map_congr_left fun x _=>?_
   show Value.string x=Value.string (toS x.data.toList)
   rw [show toS x.data.toList=x from zYO x]
  refine ⟨_,rfl,?_,Below.alloc (Below.refl _ _) (Nat.le_refl _) _⟩
  simp only [RepR,RepD]
  rw [hn]
  have hlen:=zK8 l
  refine ⟨_,_,rfl,Nat.le_refl _,by unfold maxLen; omega,fun _=>⟨_,_,rfl,.inr (Nat.le_refl _),RepCells.of_at fun i d hi=>?_⟩⟩
  rw [Nat.zero_add]
  have hi':i < (zQt l).length:=by have:=(List.getElem?_eq_some_iff.1 hi).1; rwa [zXf] at this
  rw [(zU6 hi').1] at hi
  cases hi
  refine ⟨.string (toS (zQt l)[i]),?_,?_⟩
  ·rw [hXs,World.cell?_alloc_new]
   simp [hi']
  ·simp only [RepD]
   refine ⟨trivial,?_⟩
   have:=zK7 _ l (Nat.le_refl _) _ (List.getElem_mem hi')
   rw [zQF]
   unfold maxLen
   omega
def cutL (l:Lb):Lb × Lb × Bool:=Lib.cut l [10]
theorem jYy {l:Lb} (h:(10:UInt8) ∉ l):cutL l=(l,[],false):=by
 unfold cutL Lib.cut
 rcases idx1 10 l with ⟨h1,_⟩ | ⟨a,b,rfl,_⟩
 ·rw [if_neg (by omega)]
 ·exact absurd (by simp) h
theorem jYz {a b:Lb} (h:(10:UInt8) ∉ a):cutL (a++10::b)=(a,b,true):=by
 unfold cutL Lib.cut
 rcases idx1 10 (a++10::b) with ⟨_,h2⟩ | ⟨a',b',h1,h2,h3⟩
 ·exact absurd (by simp) h2
 ·have hu:a=a'∧b=b':=by
   clear h3
   induction a generalizing a' with
   | nil=>
    cases a' with
    | nil=>simpa using h1
    | cons x a'=>simp at h1; exact absurd h1.1 (by simp at h2; exact h2.1)
   | cons y a ih=>
    cases a' with
    | nil=>simp at h1; exact absurd h1.1.symm (by simp at h; exact h.1)
    | cons x a'=>
     simp only [List.cons_append,List.cons.injEq] at h1
     simp only [List.mem_cons,not_or] at h h2
     obtain ⟨h4,h5⟩:=ih h.2 a' h1.2 h2.2
     exact ⟨by rw [h1.1,h4],h5⟩
  obtain ⟨rfl,rfl⟩:=hu
  rw [h3,if_pos (by omega),Int.toNat_natCast]
  simp
theorem jZH (l:Lb):(cutL l).1.length≤l.length∧(cutL l).2.1.length≤l.length:=by
 rcases idx1 10 l with ⟨_,h⟩ | ⟨a,b,rfl,h,_⟩
 ·rw [jYy h]; simp
 ·rw [jYz h]; simp; omega
theorem jK5 (l:Lb) (hl:l.length < 4294967281):Ans prog 35 [RV.d (DV.str (toS l)),RV.d (DV.str (⟨#[10]⟩:ByteArray))] (RV.tup [RV.d (DV.str (toS (cutL l).1)),RV.d (DV.str (toS (cutL l).2.1)),RV.d (dQ (cutL l).2.2)]):=by
 intro w S vs hG hR
 obtain ⟨vs⟩:=vs
 match vs,hR with
 | [v,v2],hR=>
  simp only [RepRs,RepR,RepD,and_true] at hR
  obtain ⟨⟨rfl,hsz⟩,rfl,_⟩:=hR
  obtain ⟨m,hm⟩:=jZu hG
  refine (Tryz.strings_Cut (toS l) ⟨#[10]⟩ m w (by rw [zQF]; exact hl) hm).mono fun e w' h=>?_
  obtain ⟨rfl,n,rfl⟩:=h
  refine ⟨_,rfl,?_,⟨rfl,rfl,rfl,Nat.le_refl _,fun _ _=>rfl⟩⟩
  obtain ⟨h1,h2⟩:=jZH l
  simp only [RepR]
  refine ⟨_,rfl,?_⟩
  simp only [RepRs,RepR,RepD,and_true]
  refine ⟨⟨rfl,?_⟩,⟨rfl,?_⟩,rfl⟩
  ·rw [zQF]; unfold maxLen; omega
  ·rw [zQF]; unfold maxLen; omega
def zKu (w:Lb):Int:=match atoiAll w with
 | .ok v=>v
 | .range=>atoiSat w
 | _=>0
def numP (w:Lb):Int × Bool:=(zKu w,zYy w)
theorem jXr (l:Lb):trimPrefix l [45]=unsg l:=by
 cases l with
 | nil=>rfl
 | cons c l=>
  unfold trimPrefix hasPrefix unsg
  by_cases h:c=45
  ·subst h; simp [List.isPrefixOf]
  ·simp [List.isPrefixOf,h]
   intro e; exact absurd e.symm h
theorem jJq {w:World} {V:Nat→Prop} (h:zXB w V):(∃ t v,w.cell? ⟨4,0,none⟩=some (.iface t v))∧∃ t v,w.cell? ⟨5,0,none⟩=some (.iface t v):=
 ⟨(h.2.1 4 (by simp [zYZ])).2,(h.2.1 5 (by simp [zYZ])).2⟩
theorem jXv {w w':World} (hb:RowKit.Below w.heap.size w w') {g:Nat} (hg:g < w.heap.size) (hc:∀ i:Nat,i < 20→w.cell? ⟨g,i,none⟩=some (.int .u64 ((10 ^ i:Nat):Int))) :
  (∀ i:Nat,i < 20→w'.cell? ⟨g,i,none⟩=some (.int .u64 ((10 ^ i:Nat):Int)))∧g < w'.heap.size:=
 ⟨fun i hi=>by rw [RowKit.Below.cell hb (p:=⟨g,i,none⟩) hg]; exact hc i hi,Nat.lt_of_lt_of_le hg hb.size⟩
theorem zJm (l:Lb) (hl:l.length≤281474976710656):Ans prog 112 [RV.d (DV.str (toS l))] (RV.tup [rJ ((numP l).1),RV.d (dQ (numP l).2)]):=by
 intro w S vs hG hR
 obtain ⟨vs⟩:=vs
 match vs,hR with
 | [v],hR=>
  simp only [RepRs,RepR,RepD,and_true] at hR
  obtain ⟨rfl,hsz⟩:=hR
  have hsz':(toS l).size≤281474976710656:=by rw [zQF]; exact hl
  obtain ⟨hten,hg⟩:=jZt hG
  obtain ⟨⟨t1,v1,hE1⟩,t2,v2,hE2⟩:=jJq hG
  suffices h:Calls prog 112 #[.string (toS l)] w fun e w'=>e=.returned (.tuple #[.int .i64 (zKu l),.bool (zYy l)])∧RowKit.Below w.heap.size w w' by
   refine h.mono fun e w' h=>?_
   obtain ⟨rfl,hb⟩:=h
   refine ⟨_,rfl,?_,hb⟩
   simp only [RepR]
   refine ⟨_,rfl,?_⟩
   simp only [RepRs,RepR,RepD,and_true]
   refine ⟨⟨rfl,(zXz _ _).2 ?_⟩,rfl⟩
   have : -9223372036854775808≤zKu l∧zKu l≤9223372036854775807:=by
    unfold zKu
    split
    ·rename_i h; exact atoiAll_bounds h
    ·exact atoiSat_bounds l
    ·omega
   simpa [numP,IntKind.min,IntKind.max,IntKind.signed,IntKind.bits] using this
  cases hA:atoiAll l with
  | ok v=>
   have hV:zKu l=v:=by unfold zKu; rw [hA]
   rw [hV]
   have hok:Calls prog 138 #[.string (toS l)] w fun e w'=>e=.returned (.tuple #[.int .i64 v,.nilIface])∧RowKit.Below w.heap.size w w':=
    (Tryz.strconv_Atoi_ok (toS l) (by omega) v hA w).mono fun e w' h=>⟨h.1,by
     rcases h.2 with rfl | ⟨t,rfl⟩
     ·exact Below.refl _ _
     ·exact bytesWorld_below w _ t⟩
   have htr:∀ w,Calls prog 139 #[.string (toS l),.string ⟨#[45]⟩] w fun e w'=>e=.returned (.string (toS (unsg l)))∧w'=w:=fun w=>by
    have:=Tryz.strings_TrimPrefix (toS l) ⟨#[45]⟩ w
    rw [zJ0,show (⟨#[45]⟩:ByteArray).data.toList=[45] from rfl,jXr] at this
    exact this
   have hvb:=atoiAll_bounds hA
   have hcan:zYy l=(decide ((unsg l).length≤10) && decide (itoa v=l)):=by
    rw [Bool.eq_iff_iff]
    simp only [Bool.and_eq_true,decide_eq_true_eq]
    constructor
    ·intro hc
     have h1:=zYM hc
     rw [hA] at h1
     injection h1 with h1
     subst h1
     exact ⟨(zV3.1 hc).2.1,zU0 hc⟩
    ·intro ⟨h1,h2⟩
     rw [← h2] at h1
     rw [← h2]
     exact (zUN h1).1
   rw [hcan]
   have hit:∀ w',RowKit.Below w.heap.size w w'→Calls prog 97 #[.int .i64 v] w' fun e W=>e=.returned (.string (toS (itoa v)))∧RowKit.Below w.heap.size w W:=fun w' hb=>by
    obtain ⟨hc,hg'⟩:=jXv hb hg hten
    exact (zHB v hvb.1 hvb.2 w' hc hg').mono fun e W h=>⟨h.1,hb.trans (h.2.mono hb.size)⟩
   have hlen:(toS (unsg l)).size=(unsg l).length:=zQF _
   have hbig:(unsg l).length≤9223372036854775807:=by
    have:(unsg l).length≤l.length:=by unfold unsg; split <;> (try split) <;> simp
    omega
   generalize unsg l=U at *
   clear hV hcan hG hE1 hE2 hten
   have hl8:Aside (l.length≤281474976710656):=hl
   clear hl hsz hsz'
   go_enter Tryz.func112,Tryz.ntmps112
   go_wp2_with (first
    |(go_at_call 138; refine hok.mono ?_; rintro e w1 ⟨rfl,hb⟩)
    |(go_at_call 139; refine (htr _).mono ?_; rintro e w' ⟨rfl,rfl⟩)
    |(go_at_call 97; refine (hit _ (by assumption)).mono ?_; rintro e w2 ⟨rfl,hb2⟩))
   ·go_ret2
    refine ⟨?_,by assumption⟩
    rw [zJG,show decide (U.length≤10)=true from decide_eq_true (by omega),Bool.true_and]
    rfl
   ·go_ret2
    refine ⟨?_,by assumption⟩
    rw [show decide (U.length≤10)=false from decide_eq_false (by omega),Bool.false_and]
    rfl
  | range=>
   have hV:zKu l=atoiSat l:=by unfold zKu; rw [hA]
   have hcan:zYy l=false:=by
    cases hc:zYy l with
    | false=>rfl
    | true=>have:=zYM hc; rw [hA] at this; cases this
   rw [hV,hcan]
   have hok:Calls prog 138 #[.string (toS l)] w fun e w'=>∃ N,e=.returned (.tuple #[.int .i64 (atoiSat l),.iface 205 (.pointer (some ⟨N,0,none⟩))])∧RowKit.Below w.heap.size w w':=
    (Tryz.strconv_Atoi_range (toS l) hsz' hA _ w hE2 (.inr ⟨_,_,rfl⟩)).mono fun e w' h=>by
     obtain ⟨N,h1,_,_,h2⟩:=h
     exact ⟨N,h1,h2⟩
   clear hV hcan hG hE1 hE2 hten hsz hsz' hl
   generalize atoiSat l=v at *
   go_enter Tryz.func112,Tryz.ntmps112
   go_wp2_with (go_at_call 138; refine hok.mono ?_; rintro e w1 ⟨N,rfl,hb⟩)
   go_ret2
   exact ⟨rfl,hb⟩
  | _=>
   have hV:zKu l=0:=by unfold zKu; rw [hA]
   have hcan:zYy l=false:=by
    cases hc:zYy l with
    | false=>rfl
    | true=>have:=zYM hc; rw [hA] at this; cases this
   rw [hV,hcan]
   have hok:Calls prog 138 #[.string (toS l)] w fun e w'=>∃ N,e=.returned (.tuple #[.int .i64 0,.iface 205 (.pointer (some ⟨N,0,none⟩))])∧RowKit.Below w.heap.size w w':=
    (Any.strconv_Atoi_syntax Tryz.laysC172 (toS l) hsz' hA _ w hE1 (.inr ⟨_,_,rfl⟩)).mono fun e w' h=>by
     obtain ⟨N,h1,_,_,h2⟩:=h
     exact ⟨N,h1,h2⟩
   clear hV hcan hG hE1 hE2 hten hsz hsz' hl
   go_enter Tryz.func112,Tryz.ntmps112
   go_wp2_with (go_at_call 138; refine hok.mono ?_; rintro e w1 ⟨N,rfl,hb⟩)
   go_ret2
   exact ⟨rfl,hb⟩
end
section
attribute [local irreducible] Ans AnsO AnsG AnsN AnsI
open Go.Lib
structure LQ where
  ws:List Lb
  bad:Bool
def reQ (q:LQ):LQ:=⟨zQJ (strs q.ws),q.bad⟩
theorem zZM (q:LQ):reQ q=q:=by unfold reQ; rw [zQE]
def zZi (ws:List Lb):Lb:=ws.headD []
def zZH (q:LQ):LQ:=⟨q.ws.drop 1,q.bad⟩
def zZF (q:LQ):LQ:=⟨q.ws.drop 1,q.bad || q.ws.isEmpty⟩
def numQ (q:LQ) (lo hi:Int):Int × LQ:=if okN lo hi (zZi q.ws)=true then (numV (zZi q.ws),zZF q) else (0,⟨q.ws.drop 1,true⟩)
theorem jKw {q:LQ} {lo hi:Int} (h:lo≤0∧0≤hi):lo≤(numQ q lo hi).1∧(numQ q lo hi).1≤hi:=by
 unfold numQ
 split
 ·rename_i e
  exact zUE e
 ·exact h
def namQ (f:Int→ByteArray) (q:LQ):Int × LQ:=((nmR f (zZi q.ws)).1,⟨q.ws.drop 1,(zZF q).bad || !(nmR f (zZi q.ws)).2⟩)
def okQ (q:LQ):Prop:=∀ w∈q.ws,w.length≤281474976710656
theorem jJd {q:LQ} (h:okQ q):(zZi q.ws).length≤281474976710656:=by
 unfold zZi
 cases hq:q.ws with
 | nil=>simp
 | cons w r=>exact h w (by rw [hq]; exact List.mem_cons_self ..)
theorem zGt {q:LQ} (h:okQ q) (b:Bool):okQ ⟨q.ws.drop 1,b⟩:=fun w hw=>h w (List.mem_of_mem_drop hw)
theorem jZb {q:LQ} (h:okQ q):okQ (zZF q):=zGt h _
theorem zQb {q:LQ} (h:okQ q) {lo hi:Int}:okQ (numQ q lo hi).2:=by
 unfold numQ
 split
 ·exact jZb h
 ·exact zGt h _
theorem zQc {q:LQ} (h:okQ q) {f:Int→ByteArray}:okQ (namQ f q).2:=zGt h _
def gZ27 (xs:List RV):Option RV:=match xs with | [.d (.str s)]=>some (RV.tup [rJ (numP (ofS s)).1,RV.d (dQ (numP (ofS s)).2)]) | _=>none
def gZ28 (xs:List AV) (bs:List Bx):Option Ret:=match xs,bs with | [AV.one (Cl.ptr 0 0)],[Bx.cells [Cl.clo 105 [Cap.ptr 1 0],Cl.d (DV.bool bad)],Bx.cells [Cl.d (DV.sl wn wxs)]]=>some ⟨AV.one (Cl.d (DV.str (toS (zZi (⟨zQJ wxs,bad⟩:LQ).ws)))),[bC [Cl.clo 105 [Cap.ptr 1 0],Cl.d (dQ (zZF (⟨zQJ wxs,bad⟩:LQ)).bad)],bC [Cl.d (dS (zZF (⟨zQJ wxs,bad⟩:LQ)).ws.length (strs (zZF (⟨zQJ wxs,bad⟩:LQ)).ws))]],false⟩ | _,_=>none
def gZ29 (xs:List AV) (bs:List Bx):Option Ret:=match xs,bs with | [AV.one (Cl.ptr 0 0),AV.one (Cl.d (DV.int _ lo)),AV.one (Cl.d (DV.int _ hi))],[Bx.cells [Cl.clo 105 [Cap.ptr 1 0],Cl.d (DV.bool bad)],Bx.cells [Cl.d (DV.sl wn wxs)]]=>let a:=(numQ (⟨zQJ wxs,bad⟩:LQ) lo hi); some ⟨AV.one (Cl.d (DV.int .i64 a.1)),[Bx.cells [Cl.clo 105 [Cap.ptr 1 0],Cl.d (DV.bool a.2.bad)],Bx.cells [Cl.d (DV.sl a.2.ws.length (strs a.2.ws))]],false⟩ | _,_=>none
def gZ30 (xs:List AV) (bs:List Bx):Option Ret:=match xs,bs with | [AV.one (Cl.ptr 0 0)],[Bx.cells [Cl.clo 105 [Cap.ptr 1 0],Cl.d (DV.bool bad)],Bx.cells [Cl.d (DV.sl wn wxs)]]=>let a:=(numQ (⟨zQJ wxs,bad⟩:LQ) 0 255); some ⟨AV.one (Cl.d (DV.int .i64 a.1)),[Bx.cells [Cl.clo 105 [Cap.ptr 1 0],Cl.d (DV.bool a.2.bad)],Bx.cells [Cl.d (DV.sl a.2.ws.length (strs a.2.ws))]],false⟩ | _,_=>none
def gZ31 (xs:List AV) (bs:List Bx):Option Ret:=match xs,bs with | [AV.one (Cl.ptr 0 0)],[Bx.cells [Cl.clo 105 [Cap.ptr 1 0],Cl.d (DV.bool bad)],Bx.cells [Cl.d (DV.sl wn wxs)]]=>let a:=(numQ (⟨zQJ wxs,bad⟩:LQ) (-2147483648) 2147483647); some ⟨AV.one (Cl.d (DV.int .i64 a.1)),[Bx.cells [Cl.clo 105 [Cap.ptr 1 0],Cl.d (DV.bool a.2.bad)],Bx.cells [Cl.d (DV.sl a.2.ws.length (strs a.2.ws))]],false⟩ | _,_=>none
def gZ32 (xs:List AV) (bs:List Bx):Option Ret:=match xs,bs with | [AV.one (Cl.ptr 0 0)],[Bx.cells [Cl.clo 105 [Cap.ptr 1 0],Cl.d (DV.bool bad)],Bx.cells [Cl.d (DV.sl wn wxs)]]=>let a:=(numQ (⟨zQJ wxs,bad⟩:LQ) 0 4294967295); some ⟨AV.one (Cl.d (DV.int .i64 a.1)),[Bx.cells [Cl.clo 105 [Cap.ptr 1 0],Cl.d (DV.bool a.2.bad)],Bx.cells [Cl.d (DV.sl a.2.ws.length (strs a.2.ws))]],false⟩ | _,_=>none
def gZ33 (xs:List AV) (bs:List Bx):Option Ret:=match xs,bs with | [AV.one (Cl.ptr 0 0)],[Bx.cells [Cl.clo 105 [Cap.ptr 1 0],Cl.d (DV.bool bad)],Bx.cells [Cl.d (DV.sl wn wxs)]]=>let a:=(numQ (⟨zQJ wxs,bad⟩:LQ) 0 65535); some ⟨AV.one (Cl.d (DV.int .u16 a.1)),[Bx.cells [Cl.clo 105 [Cap.ptr 1 0],Cl.d (DV.bool a.2.bad)],Bx.cells [Cl.d (DV.sl a.2.ws.length (strs a.2.ws))]],false⟩ | _,_=>none
def gZ34 (xs:List AV) (bs:List Bx):Option Ret:=match xs,bs with | [AV.one (Cl.ptr 0 0)],[Bx.cells [Cl.clo 105 [Cap.ptr 1 0],Cl.d (DV.bool bad)],Bx.cells [Cl.d (DV.sl wn wxs)]]=>let a:=(numQ (⟨zQJ wxs,bad⟩:LQ) 0 1); some ⟨AV.one (Cl.d (DV.bool (decide (a.1=1)))),[Bx.cells [Cl.clo 105 [Cap.ptr 1 0],Cl.d (DV.bool a.2.bad)],Bx.cells [Cl.d (DV.sl a.2.ws.length (strs a.2.ws))]],false⟩ | _,_=>none
def gZ35 (xs:List AV) (bs:List Bx):Option Ret:=match xs,bs with | [AV.one (Cl.ptr 0 0)],[Bx.cells [Cl.clo 105 [Cap.ptr 1 0],Cl.d (DV.bool bad)],Bx.cells [Cl.d (DV.sl wn wxs)]]=>let a:=(namQ zQo (⟨zQJ wxs,bad⟩:LQ)); some ⟨AV.one (Cl.d (DV.int .i64 a.1)),[Bx.cells [Cl.clo 105 [Cap.ptr 1 0],Cl.d (DV.bool a.2.bad)],Bx.cells [Cl.d (DV.sl a.2.ws.length (strs a.2.ws))]],false⟩ | _,_=>none
def gZ36 (xs:List AV) (bs:List Bx):Option Ret:=match xs,bs with | [AV.one (Cl.ptr 0 0)],[Bx.cells [Cl.clo 105 [Cap.ptr 1 0],Cl.d (DV.bool bad)],Bx.cells [Cl.d (DV.sl wn wxs)]]=>let a:=(namQ zQf (⟨zQJ wxs,bad⟩:LQ)); some ⟨AV.one (Cl.d (DV.int .i64 a.1)),[Bx.cells [Cl.clo 105 [Cap.ptr 1 0],Cl.d (DV.bool a.2.bad)],Bx.cells [Cl.d (DV.sl a.2.ws.length (strs a.2.ws))]],false⟩ | _,_=>none
def gZ37 (xs:List AV) (bs:List Bx):Option Ret:=match xs,bs with | [AV.one (Cl.ptr 0 0)],[Bx.cells [Cl.clo 105 [Cap.ptr 1 0],Cl.d (DV.bool bad)],Bx.cells [Cl.d (DV.sl wn wxs)]]=>let a:=(⟨zQJ wxs,bad⟩:LQ); some ⟨AV.one (Cl.d (DV.bool (a.ws.isEmpty && !a.bad))),[Bx.cells [Cl.clo 105 [Cap.ptr 1 0],Cl.d (DV.bool (zZH a).bad)],Bx.cells [Cl.d (DV.sl (zZH a).ws.length (strs (zZH a).ws))]],false⟩ | _,_=>none
def zKY:Gam where
 pure:=fun f xs=>
  if f=112 then gZ27 xs else
  if f=157 then (match xs with | [.d (.str s)]=>some (RV.tup [rJ (nmR zQo (ofS s)).1,RV.d (dQ (nmR zQo (ofS s)).2)]) | _=>none) else
  if f=158 then (match xs with | [.d (.str s)]=>some (RV.tup [rJ (nmR zQf (ofS s)).1,RV.d (dQ (nmR zQf (ofS s)).2)]) | _=>none) else
  none
 modes:=fun f=>
  if f=105 then some ([false],1,0) else
  if f=74 then some ([false],2,0) else
  if f=136 then some ([false],2,0) else
  if f=137 then some ([false,true,true],2,0) else
  if f=109 then some ([false],2,0) else
  if f=110 then some ([false],2,0) else
  if f=111 then some ([false],2,0) else
  if f=135 then some ([false],2,0) else
  if f=142 then some ([false],2,0) else
  if f=140 then some ([false],2,0) else
  if f=141 then some ([false],2,0) else
  if f=156 then some ([false,true],2,0) else
  if f=107 then some ([false],2,0) else
  none
 proc:=fun f xs bs=>
  if f=105 then (match xs,bs with | [AV.one (Cl.ptr 0 0)],[Bx.cells [Cl.d (DV.sl wn wxs)]]=>some ⟨AV.tup [AV.one (Cl.d (DV.str (toS (zZi (zQJ wxs))))),AV.one (Cl.d (dQ (!(zQJ wxs).isEmpty)))],[bC [Cl.d (dS ((zQJ wxs).drop 1).length (strs ((zQJ wxs).drop 1)))]],false⟩ | _,_=>none) else
  if f=74 then gZ28 xs bs else
  if f=136 then (match xs,bs with | [AV.one (Cl.ptr 0 0)],[Bx.cells [Cl.clo 105 [Cap.ptr 1 0],Cl.d (DV.bool bad)],Bx.cells [Cl.d (DV.sl wn wxs)]]=>some ⟨AV.one (Cl.d (dQ (!(⟨zQJ wxs,bad⟩:LQ).ws.isEmpty))),[bC [Cl.clo 105 [Cap.ptr 1 0],Cl.d (dQ (zZH (⟨zQJ wxs,bad⟩:LQ)).bad)],bC [Cl.d (dS (zZH (⟨zQJ wxs,bad⟩:LQ)).ws.length (strs (zZH (⟨zQJ wxs,bad⟩:LQ)).ws))]],false⟩ | _,_=>none) else
  if f=137 then gZ29 xs bs else
  if f=109 then gZ30 xs bs else
  if f=110 then gZ31 xs bs else
  if f=111 then gZ32 xs bs else
  if f=135 then gZ33 xs bs else
  if f=142 then gZ34 xs bs else
  if f=140 then gZ35 xs bs else
  if f=141 then gZ36 xs bs else
  if f=156 then (match xs,bs with | [AV.one (Cl.ptr 0 0),AV.one (Cl.d (DV.fn 157))],[Bx.cells [Cl.clo 105 [Cap.ptr 1 0],Cl.d (DV.bool bad)],Bx.cells [Cl.d (DV.sl wn wxs)]]=>let a:=(namQ zQo (⟨zQJ wxs,bad⟩:LQ)); some ⟨AV.one (Cl.d (DV.int .i64 a.1)),[Bx.cells [Cl.clo 105 [Cap.ptr 1 0],Cl.d (DV.bool a.2.bad)],Bx.cells [Cl.d (DV.sl a.2.ws.length (strs a.2.ws))]],false⟩ | [AV.one (Cl.ptr 0 0),AV.one (Cl.d (DV.fn 158))],[Bx.cells [Cl.clo 105 [Cap.ptr 1 0],Cl.d (DV.bool bad)],Bx.cells [Cl.d (DV.sl wn wxs)]]=>let a:=(namQ zQf (⟨zQJ wxs,bad⟩:LQ)); some ⟨AV.one (Cl.d (DV.int .i64 a.1)),[Bx.cells [Cl.clo 105 [Cap.ptr 1 0],Cl.d (DV.bool a.2.bad)],Bx.cells [Cl.d (DV.sl a.2.ws.length (strs a.2.ws))]],false⟩ | _,_=>none) else
  if f=107 then gZ37 xs bs else
  none
 iter:=fun f cs=>
  none
theorem zJl (ws:List Lb):AnsG prog 105 1 [aPz] [bC [Cl.d (dS ws.length (strs ws))]] ⟨AV.tup [AV.one (Cl.d (DV.str (toS (zZi (zQJ (strs ws)))))),AV.one (Cl.d (dQ (!(zQJ (strs ws)).isEmpty)))],[bC [Cl.d (dS (((zQJ (strs ws)).drop 1).length) (strs ((zQJ (strs ws)).drop 1)))]],false⟩:=
 zQz (Γ:=zKY) Ann.leaf zQy Tryz.func105 rfl (Nat.le_of_ble_eq_true rfl) rfl fun hwf hbx=>by
  refine Eq.mpr (by kernel_rfl:_=(let c:=(!(zQJ (strs ws)).isEmpty); let a:=(ws.length:Int); let b:=((zQJ (strs ws)).drop 1); let e:=[bC [Cl.d (dS b.length (strs b))]]; let d:=(toS (zZi (zQJ (strs ws)))); let f:=[AV.one (Cl.d (DV.str d)),AV.one (Cl.d (dQ c))]; let g:=[dS b.length (strs b)]; tU5 (((a==0)=true→tU2 (((((DV.str (⟨#[]⟩:ByteArray)=DV.str d)∧(dQ false=dQ c)∧True)∧True)∧(([dS ws.length (strs ws)]=g)∧True))∧zQu ⟨AV.tup f,e,false⟩))∧((a==0)=false→True∧(0≤(0:Int)∧(0:Int) < a∧0 < (strs ws).length)∧(((strs ws)[0]?=some (DV.str (sAt (strs ws) 0)))∧True)∧tU2 ((0≤(1:Int)∧(1:Int)≤a∧a≤a)∧tU4 (((((DV.str (sAt (strs ws) 0)=DV.str d)∧(dQ true=dQ c)∧True)∧True)∧(([dS (a - 1).toNat (List.take ((a - 1).toNat*1) (List.drop ((1:Int).toNat*1) (strs ws)))]=g)∧True))∧zQu ⟨AV.tup f,e,false⟩)))))) ?_
  delta tU2 tU4 tU5 dQ dS bC
  simp only [sS]
  simp only [zZM,zQE,zQX]
  cases ws with
  | nil=>
   refine ⟨fun _=>(by (repeat' apply And.intro) <;> first | rfl | trivial),fun h=>absurd h (by decide)⟩
  | cons w r=>
   have s0:sAt (strs (w::r)) 0=toS w:=rfl
   have q0:(strs (w::r))[0]?=some (DV.str (toS w)):=rfl
   have dr:List.take (r.length*1) (List.drop (Int.toNat 1*1) (strs (w::r)))=strs r:=jKb 1 _ rfl rfl
   have drn:((((w::r).length:Nat):Int) - 1).toNat=r.length:=by simp
   simp only [s0,q0,drn,dr]
   refine ⟨fun h=>absurd h (by simp; omega),fun _=>⟨⟨by omega,by simp <;> omega,by simp [zXf]⟩,trivial,⟨by omega,by simp <;> omega,by omega⟩,(by (repeat' apply And.intro) <;> first | rfl | trivial)⟩⟩
theorem zZS (q:LQ):AnsG prog 74 2 [aPz] [bC [Cl.clo 105 [Cap.ptr 1 0],Cl.d (dQ q.bad)],bC [Cl.d (dS q.ws.length (strs q.ws))]] ⟨AV.one (Cl.d (DV.str (toS (zZi (q).ws)))),[bC [Cl.clo 105 [Cap.ptr 1 0],Cl.d (dQ ((zZF q).bad))],bC [Cl.d (dS ((zZF q).ws.length) (strs (zZF q).ws))]],false⟩:=
 zQz (Γ:=zKY) Ann.leaf zQy Tryz.func74 rfl (Nat.le_of_ble_eq_true rfl) rfl fun hwf hbx=>by
  refine Eq.mpr (by kernel_rfl:_=(let c:=(toS (zZi q.ws)); let a:=(zQJ (strs q.ws)); let b:=(a.drop 1); let d:=[bC [Cl.clo 105 [Cap.ptr 1 0],Cl.d (dQ (zZF q).bad)],bC [Cl.d (dS (zZF q).ws.length (strs (zZF q).ws))]]; let e:=((DV.str (toS (zZi a))=DV.str c)∧True); let f:=([dS b.length (strs b)]=[dS (zZF q).ws.length (strs (zZF q).ws)]); tU5 ((AnsG prog 105 1 [aPz] [bC [Cl.d (dS q.ws.length (strs q.ws))]] ⟨AV.tup [AV.one (Cl.d (DV.str (toS (zZi a)))),AV.one (Cl.d (dQ (!a.isEmpty)))],[bC [Cl.d (dS b.length (strs b))]],false⟩)∧tU3 (tU8 ((q.bad=false→tU8 ((e∧((((0=0)∧True)∧(dQ (!(!a.isEmpty))=dQ (zZF q).bad)∧True)∧f∧True))∧zQu ⟨AV.one (Cl.d (DV.str c)),d,false⟩))∧(q.bad=(!false)→tU6 ((e∧((((0=0)∧True)∧(dQ true=dQ (zZF q).bad)∧True)∧f∧True))∧zQu ⟨AV.one (Cl.d (DV.str c)),d,false⟩))))))) ?_
  delta tU3 tU5 tU6 tU8 dQ dS aPz bC
  simp only [sS]
  simp only [zZM,zQE,zQX]
  have aO:=zJl q.ws
  simp only [zQE] at aO
  refine ⟨aO,fun h=>?_,fun h=>?_⟩
  ·have e:(!!q.ws.isEmpty)=(zZF q).bad:=by unfold zZF; rw [h]; simp
   rw [e]; exact (by (repeat' apply And.intro) <;> first | rfl | trivial)
  ·have e:true=(zZF q).bad:=by unfold zZF; rw [h]; rfl
   rw [e]; exact (by (repeat' apply And.intro) <;> first | rfl | trivial)
theorem zKC (q:LQ):AnsG prog 136 2 [aPz] [bC [Cl.clo 105 [Cap.ptr 1 0],Cl.d (dQ q.bad)],bC [Cl.d (dS q.ws.length (strs q.ws))]] ⟨AV.one (Cl.d (dQ (!((q).ws).isEmpty))),[bC [Cl.clo 105 [Cap.ptr 1 0],Cl.d (dQ ((zZH q).bad))],bC [Cl.d (dS ((zZH q).ws.length) (strs (zZH q).ws))]],false⟩:=
 zQz (Γ:=zKY) Ann.leaf zQy Tryz.func136 rfl (Nat.le_of_ble_eq_true rfl) rfl fun hwf hbx=>by
  refine Eq.mpr (by kernel_rfl:_=(let b:=(!(zQJ (strs q.ws)).isEmpty); let a:=((zQJ (strs q.ws)).drop 1); tU5 ((AnsG prog 105 1 [aPz] [bC [Cl.d (dS q.ws.length (strs q.ws))]] ⟨AV.tup [AV.one (Cl.d (DV.str (toS (zZi (zQJ (strs q.ws)))))),AV.one (Cl.d (dQ b))],[bC [Cl.d (dS a.length (strs a))]],false⟩)∧tU7 ((((dQ b=dQ (!q.ws.isEmpty))∧True)∧((((0=0)∧True)∧(dQ q.bad=dQ (zZH q).bad)∧True)∧([dS a.length (strs a)]=[dS (zZH q).ws.length (strs (zZH q).ws)])∧True))∧zQu ⟨AV.one (Cl.d (dQ (!q.ws.isEmpty))),[bC [Cl.clo 105 [Cap.ptr 1 0],Cl.d (dQ (zZH q).bad)],bC [Cl.d (dS (zZH q).ws.length (strs (zZH q).ws))]],false⟩)))) ?_
  delta tU5 tU7 dQ dS aPz bC
  simp only [sS]
  simp only [zZM,zQE,zQX]
  have aO:=zJl q.ws
  simp only [zQE] at aO
  exact ⟨aO,(by (repeat' apply And.intro) <;> first | rfl | trivial)⟩
theorem zQZ (q:LQ) (lo hi:Int) (hq:okQ q):AnsG prog 137 2 [aPz,aJ ((lo)),aJ ((hi))] [bC [Cl.clo 105 [Cap.ptr 1 0],Cl.d (dQ q.bad)],bC [Cl.d (dS q.ws.length (strs q.ws))]] ⟨aJ ((((numQ q lo hi).1))),[bC [Cl.clo 105 [Cap.ptr 1 0],Cl.d (dQ (((numQ q lo hi).2).bad))],bC [Cl.d (dS (((numQ q lo hi).2).ws.length) (strs ((numQ q lo hi).2).ws))]],false⟩:=
 zQz (Γ:=zKY) Ann.leaf zQy Tryz.func137 rfl (Nat.le_of_ble_eq_true rfl) rfl fun hwf hbx=>by
  refine Eq.mpr (by kernel_rfl:_=(let c:=(zZF (reQ q)); let a:=(numQ q lo hi); let d:=(cJ a.1); let i:=[Cl.clo 105 [Cap.ptr 1 0],Cl.d (dQ a.2.bad)]; let b:=(numP (ofS (toS (zZi (reQ q).ws)))); let j:=(dS a.2.ws.length (strs a.2.ws)); let e:=[Bx.cells i,bC [Cl.d j]]; let g:=(DV.str (toS (zZi (reQ q).ws))); let h:=([dS c.ws.length (strs c.ws)]=[dS a.2.ws.length (strs a.2.ws)]); let f:=(((dJ 0=dJ a.1)∧True)∧((((0=0)∧True)∧(dQ true=dQ a.2.bad)∧True)∧h∧True)); tU2 ((AnsG prog 74 2 [aPz] [bC [Cl.clo 105 [Cap.ptr 1 0],Cl.d (dQ q.bad)],bC [Cl.d (dS q.ws.length (strs q.ws))]] ⟨AV.one (Cl.d g),[bC [Cl.clo 105 [Cap.ptr 1 0],Cl.d (dQ c.bad)],bC [Cl.d (dS c.ws.length (strs c.ws))]],false⟩)∧(Ans prog 112 [RV.d g] (RV.tup [rJ b.1,RV.d (dQ b.2)]))∧tU8 (((!b.2)=false→tU5 (((decide (b.1 < lo))=false→tU4 (((decide (b.1 > hi))=true→tU5 (f∧zQu ⟨AV.one d,e,false⟩))∧((decide (b.1 > hi))=false→tU2 ((((dJ b.1=dJ a.1)∧True)∧((((0=0)∧True)∧(dQ c.bad=dQ a.2.bad)∧True)∧h∧True))∧zQu ⟨AV.one d,e,false⟩))))∧((decide (b.1 < lo))=(!false)→tU6 (f∧zQu ⟨AV.one d,e,false⟩))))∧((!b.2)=(!false)→tU8 (f∧zQu ⟨AV.one d,e,false⟩)))))) ?_
  delta tU2 tU4 tU5 tU6 tU8 dJ dQ cJ dS rJ aPz bC
  simp only [sS]
  simp only [zZM,zQE,zQX]
  have aN:=zZS q
  have v:(numP (zZi q.ws)).2=true→(numP (zZi q.ws)).1=numV (zZi q.ws):=fun h=>by
   show zKu (zZi q.ws)=_
   unfold zKu
   rw [zYM h]
  have yes:(numP (zZi q.ws)).2=true→¬ (numP (zZi q.ws)).1 < lo→¬ (numP (zZi q.ws)).1 > hi→numQ q lo hi=(numV (zZi q.ws),zZF q):=fun h h1 h2=>by
   rw [v h] at h1 h2
   have e:okN lo hi (zZi q.ws)=true:=by unfold okN; rw [show zYy (zZi q.ws)=true from h]; simp; omega
   unfold numQ; rw [if_pos e]
  have no:¬ ((numP (zZi q.ws)).2=true∧¬ (numP (zZi q.ws)).1 < lo∧¬ (numP (zZi q.ws)).1 > hi)→numQ q lo hi=(0,⟨q.ws.drop 1,true⟩):=fun h=>by
   unfold numQ
   rw [if_neg]
   intro e
   unfold okN at e
   simp only [Bool.and_eq_true,decide_eq_true_eq] at e
   have hc:(numP (zZi q.ws)).2=true:=e.1.1
   exact h ⟨hc,by rw [v hc]; omega,by rw [v hc]; omega⟩
  refine ⟨aN,zJm (zZi q.ws) (jJd hq),fun h=>⟨fun h1=>⟨fun h2=>?_,fun h2=>?_⟩,fun h1=>?_⟩,fun h=>?_⟩
  ·rw [no (fun g=>g.2.2 h2)]; exact (by (repeat' apply And.intro) <;> first | rfl | trivial)
  ·rw [yes h h1 h2,v h]; exact (by (repeat' apply And.intro) <;> first | rfl | trivial)
  ·rw [no (fun g=>g.2.1 h1)]; exact (by (repeat' apply And.intro) <;> first | rfl | trivial)
  ·rw [no (fun g=>by rw [h] at g; exact absurd g.1 (by decide))]; exact (by (repeat' apply And.intro) <;> first | rfl | trivial)
theorem zYP (q:LQ):AnsG prog 156 2 [aPz,AV.one (Cl.d (DV.fn 157))] [bC [Cl.clo 105 [Cap.ptr 1 0],Cl.d (dQ q.bad)],bC [Cl.d (dS q.ws.length (strs q.ws))]] ⟨aJ ((((namQ zQo q).1))),[bC [Cl.clo 105 [Cap.ptr 1 0],Cl.d (dQ (((namQ zQo q).2).bad))],bC [Cl.d (dS (((namQ zQo q).2).ws.length) (strs ((namQ zQo q).2).ws))]],false⟩:=
 zQz (Γ:=zKY) Ann.leaf zQy Tryz.func156 rfl (Nat.le_of_ble_eq_true rfl) rfl fun hwf hbx=>by
  refine Eq.mpr (by kernel_rfl:_=(let b:=(zZF (reQ q)); let a:=(namQ zQo q); let d:=[bC [Cl.clo 105 [Cap.ptr 1 0],Cl.d (dQ a.2.bad)],bC [Cl.d (dS a.2.ws.length (strs a.2.ws))]]; let c:=(nmR zQo (ofS (toS (zZi (reQ q).ws)))); let e:=(DV.str (toS (zZi (reQ q).ws))); let f:=((dJ c.1=dJ a.1)∧True); let g:=([dS b.ws.length (strs b.ws)]=[dS a.2.ws.length (strs a.2.ws)]); tU3 ((AnsG prog 74 2 [aPz] [bC [Cl.clo 105 [Cap.ptr 1 0],Cl.d (dQ q.bad)],bC [Cl.d (dS q.ws.length (strs q.ws))]] ⟨AV.one (Cl.d e),[bC [Cl.clo 105 [Cap.ptr 1 0],Cl.d (dQ b.bad)],bC [Cl.d (dS b.ws.length (strs b.ws))]],false⟩)∧(Ans prog 157 [RV.d e] (RV.tup [rJ c.1,RV.d (dQ c.2)]))∧tU3 (tU8 ((b.bad=false→tU8 ((f∧((((0=0)∧True)∧(dQ (!c.2)=dQ a.2.bad)∧True)∧g∧True))∧zQu ⟨aJ a.1,d,false⟩))∧(b.bad=(!false)→tU6 ((f∧((((0=0)∧True)∧(dQ true=dQ a.2.bad)∧True)∧g∧True))∧zQu ⟨aJ a.1,d,false⟩))))))) ?_
  delta tU3 tU6 tU8 dJ dQ dS rJ aJ aPz bC
  simp only [sS]
  simp only [zZM,zQE,zQX]
  refine ⟨zZS q,zKN (zZi q.ws),fun h=>?_,fun h=>?_⟩
  ·have h:(zZF q).bad=false:=h
   have e:(!(nmR zQo (zZi q.ws)).2)=(namQ zQo q).2.bad:=by unfold namQ; rw [h]; rfl
   rw [e]; exact (by (repeat' apply And.intro) <;> first | rfl | trivial)
  ·have h:(zZF q).bad=true:=h
   have e:true=(namQ zQo q).2.bad:=by unfold namQ; rw [h]; rfl
   rw [e]; exact (by (repeat' apply And.intro) <;> first | rfl | trivial)
theorem zKg (q:LQ):AnsG prog 156 2 [aPz,AV.one (Cl.d (DV.fn 158))] [bC [Cl.clo 105 [Cap.ptr 1 0],Cl.d (dQ q.bad)],bC [Cl.d (dS q.ws.length (strs q.ws))]] ⟨aJ ((((namQ zQf q).1))),[bC [Cl.clo 105 [Cap.ptr 1 0],Cl.d (dQ (((namQ zQf q).2).bad))],bC [Cl.d (dS (((namQ zQf q).2).ws.length) (strs ((namQ zQf q).2).ws))]],false⟩:=
 zQz (Γ:=zKY) Ann.leaf zQy Tryz.func156 rfl (Nat.le_of_ble_eq_true rfl) rfl fun hwf hbx=>by
  refine Eq.mpr (by kernel_rfl:_=(let b:=(zZF (reQ q)); let a:=(namQ zQf q); let d:=[bC [Cl.clo 105 [Cap.ptr 1 0],Cl.d (dQ a.2.bad)],bC [Cl.d (dS a.2.ws.length (strs a.2.ws))]]; let c:=(nmR zQf (ofS (toS (zZi (reQ q).ws)))); let e:=(DV.str (toS (zZi (reQ q).ws))); let f:=((dJ c.1=dJ a.1)∧True); let g:=([dS b.ws.length (strs b.ws)]=[dS a.2.ws.length (strs a.2.ws)]); tU3 ((AnsG prog 74 2 [aPz] [bC [Cl.clo 105 [Cap.ptr 1 0],Cl.d (dQ q.bad)],bC [Cl.d (dS q.ws.length (strs q.ws))]] ⟨AV.one (Cl.d e),[bC [Cl.clo 105 [Cap.ptr 1 0],Cl.d (dQ b.bad)],bC [Cl.d (dS b.ws.length (strs b.ws))]],false⟩)∧(Ans prog 158 [RV.d e] (RV.tup [rJ c.1,RV.d (dQ c.2)]))∧tU3 (tU8 ((b.bad=false→tU8 ((f∧((((0=0)∧True)∧(dQ (!c.2)=dQ a.2.bad)∧True)∧g∧True))∧zQu ⟨aJ a.1,d,false⟩))∧(b.bad=(!false)→tU6 ((f∧((((0=0)∧True)∧(dQ true=dQ a.2.bad)∧True)∧g∧True))∧zQu ⟨aJ a.1,d,false⟩))))))) ?_
  delta tU3 tU6 tU8 dJ dQ dS rJ aJ aPz bC
  simp only [sS]
  simp only [zZM,zQE,zQX]
  refine ⟨zZS q,zWX (zZi q.ws),fun h=>?_,fun h=>?_⟩
  ·have h:(zZF q).bad=false:=h
   have e:(!(nmR zQf (zZi q.ws)).2)=(namQ zQf q).2.bad:=by unfold namQ; rw [h]; rfl
   rw [e]; exact (by (repeat' apply And.intro) <;> first | rfl | trivial)
  ·have h:(zZF q).bad=true:=h
   have e:true=(namQ zQf q).2.bad:=by unfold namQ; rw [h]; rfl
   rw [e]; exact (by (repeat' apply And.intro) <;> first | rfl | trivial)
theorem zQp (q:LQ) (hq:okQ q):AnsG prog 109 2 [aPz] [bC [Cl.clo 105 [Cap.ptr 1 0],Cl.d (dQ q.bad)],bC [Cl.d (dS q.ws.length (strs q.ws))]] ⟨aJ ((((numQ q 0 255).1))),[bC [Cl.clo 105 [Cap.ptr 1 0],Cl.d (dQ (((numQ q 0 255).2).bad))],bC [Cl.d (dS (((numQ q 0 255).2).ws.length) (strs ((numQ q 0 255).2).ws))]],false⟩:=
 zQz (Γ:=zKY) Ann.leaf zQy Tryz.func109 rfl (Nat.le_of_ble_eq_true rfl) rfl fun hwf hbx=>by
  refine Eq.mpr (by kernel_rfl:_=(let a:=(numQ q 0 255); let b:=(numQ (reQ q) (0:Int) (255:Int)); tU2 ((AnsG prog 137 2 [aPz,aJ 0,aJ 255] [bC [Cl.clo 105 [Cap.ptr 1 0],Cl.d (dQ q.bad)],bC [Cl.d (dS q.ws.length (strs q.ws))]] ⟨aJ b.1,[bC [Cl.clo 105 [Cap.ptr 1 0],Cl.d (dQ b.2.bad)],bC [Cl.d (dS b.2.ws.length (strs b.2.ws))]],false⟩)∧True∧(((dJ b.1=dJ a.1)∧True)∧((((0=0)∧True)∧(dQ b.2.bad=dQ a.2.bad)∧True)∧([dS b.2.ws.length (strs b.2.ws)]=[dS a.2.ws.length (strs a.2.ws)])∧True))∧zQu ⟨aJ a.1,[bC [Cl.clo 105 [Cap.ptr 1 0],Cl.d (dQ a.2.bad)],bC [Cl.d (dS a.2.ws.length (strs a.2.ws))]],false⟩))) ?_
  delta tU2 dJ dQ dS aJ aPz bC
  simp only [sS]
  simp only [zZM,zQE,zQX]
  have aN:=zQZ q 0 255 hq
  exact ⟨aN,(by (repeat' apply And.intro) <;> first | rfl | trivial)⟩
theorem zQn (q:LQ) (hq:okQ q):AnsG prog 110 2 [aPz] [bC [Cl.clo 105 [Cap.ptr 1 0],Cl.d (dQ q.bad)],bC [Cl.d (dS q.ws.length (strs q.ws))]] ⟨aJ ((((numQ q (-2147483648) 2147483647).1))),[bC [Cl.clo 105 [Cap.ptr 1 0],Cl.d (dQ (((numQ q (-2147483648) 2147483647).2).bad))],bC [Cl.d (dS (((numQ q (-2147483648) 2147483647).2).ws.length) (strs ((numQ q (-2147483648) 2147483647).2).ws))]],false⟩:=
 zQz (Γ:=zKY) Ann.leaf zQy Tryz.func110 rfl (Nat.le_of_ble_eq_true rfl) rfl fun hwf hbx=>by
  refine Eq.mpr (by kernel_rfl:_=(let c:=(numQ q (-2147483648) 2147483647); let a:=(numQ (reQ q) (-2147483648:Int) (2147483647:Int)); let b:=c.2; tU2 ((AnsG prog 137 2 [aPz,aJ (-2147483648:Int),aJ 2147483647] [bC [Cl.clo 105 [Cap.ptr 1 0],Cl.d (dQ q.bad)],bC [Cl.d (dS q.ws.length (strs q.ws))]] ⟨aJ a.1,[bC [Cl.clo 105 [Cap.ptr 1 0],Cl.d (dQ a.2.bad)],bC [Cl.d (dS a.2.ws.length (strs a.2.ws))]],false⟩)∧True∧(((dJ a.1=dJ c.1)∧True)∧((((0=0)∧True)∧(dQ a.2.bad=dQ b.bad)∧True)∧([dS a.2.ws.length (strs a.2.ws)]=[dS b.ws.length (strs b.ws)])∧True))∧zQu ⟨aJ c.1,[bC [Cl.clo 105 [Cap.ptr 1 0],Cl.d (dQ b.bad)],bC [Cl.d (dS b.ws.length (strs b.ws))]],false⟩))) ?_
  delta tU2 dJ dQ dS aJ aPz bC
  simp only [sS]
  simp only [zZM,zQE,zQX]
  have aN:=zQZ q (-2147483648) 2147483647 hq
  exact ⟨aN,(by (repeat' apply And.intro) <;> first | rfl | trivial)⟩
theorem zQl (q:LQ) (hq:okQ q):AnsG prog 111 2 [aPz] [bC [Cl.clo 105 [Cap.ptr 1 0],Cl.d (dQ q.bad)],bC [Cl.d (dS q.ws.length (strs q.ws))]] ⟨aJ ((((numQ q 0 4294967295).1))),[bC [Cl.clo 105 [Cap.ptr 1 0],Cl.d (dQ (((numQ q 0 4294967295).2).bad))],bC [Cl.d (dS (((numQ q 0 4294967295).2).ws.length) (strs ((numQ q 0 4294967295).2).ws))]],false⟩:=
 zQz (Γ:=zKY) Ann.leaf zQy Tryz.func111 rfl (Nat.le_of_ble_eq_true rfl) rfl fun hwf hbx=>by
  refine Eq.mpr (by kernel_rfl:_=(let a:=(numQ q 0 4294967295); let b:=(numQ (reQ q) (0:Int) (4294967295:Int)); tU2 ((AnsG prog 137 2 [aPz,aJ 0,aJ 4294967295] [bC [Cl.clo 105 [Cap.ptr 1 0],Cl.d (dQ q.bad)],bC [Cl.d (dS q.ws.length (strs q.ws))]] ⟨aJ b.1,[bC [Cl.clo 105 [Cap.ptr 1 0],Cl.d (dQ b.2.bad)],bC [Cl.d (dS b.2.ws.length (strs b.2.ws))]],false⟩)∧True∧(((dJ b.1=dJ a.1)∧True)∧((((0=0)∧True)∧(dQ b.2.bad=dQ a.2.bad)∧True)∧([dS b.2.ws.length (strs b.2.ws)]=[dS a.2.ws.length (strs a.2.ws)])∧True))∧zQu ⟨aJ a.1,[bC [Cl.clo 105 [Cap.ptr 1 0],Cl.d (dQ a.2.bad)],bC [Cl.d (dS a.2.ws.length (strs a.2.ws))]],false⟩))) ?_
  delta tU2 dJ dQ dS aJ aPz bC
  simp only [sS]
  simp only [zZM,zQE,zQX]
  have aN:=zQZ q 0 4294967295 hq
  exact ⟨aN,(by (repeat' apply And.intro) <;> first | rfl | trivial)⟩
theorem zZ5 (q:LQ) (hq:okQ q):AnsG prog 135 2 [aPz] [bC [Cl.clo 105 [Cap.ptr 1 0],Cl.d (dQ q.bad)],bC [Cl.d (dS q.ws.length (strs q.ws))]] ⟨AV.one (cK (((numQ q 0 65535).1))),[bC [Cl.clo 105 [Cap.ptr 1 0],Cl.d (dQ (((numQ q 0 65535).2).bad))],bC [Cl.d (dS (((numQ q 0 65535).2).ws.length) (strs ((numQ q 0 65535).2).ws))]],false⟩:=
 zQz (Γ:=zKY) Ann.leaf zQy Tryz.func135 rfl (Nat.le_of_ble_eq_true rfl) rfl fun hwf hbx=>by
  refine Eq.mpr (by kernel_rfl:_=(let a:=(numQ q 0 65535); let b:=(numQ (reQ q) (0:Int) (65535:Int)); tU2 ((AnsG prog 137 2 [aPz,aJ 0,aJ 65535] [bC [Cl.clo 105 [Cap.ptr 1 0],Cl.d (dQ q.bad)],bC [Cl.d (dS q.ws.length (strs q.ws))]] ⟨aJ b.1,[bC [Cl.clo 105 [Cap.ptr 1 0],Cl.d (dQ b.2.bad)],bC [Cl.d (dS b.2.ws.length (strs b.2.ws))]],false⟩)∧tU2 ((((dK (IntKind.wrap .u16 b.1)=dK a.1)∧True)∧((((0=0)∧True)∧(dQ b.2.bad=dQ a.2.bad)∧True)∧([dS b.2.ws.length (strs b.2.ws)]=[dS a.2.ws.length (strs a.2.ws)])∧True))∧zQu ⟨AV.one (cK a.1),[bC [Cl.clo 105 [Cap.ptr 1 0],Cl.d (dQ a.2.bad)],bC [Cl.d (dS a.2.ws.length (strs a.2.ws))]],false⟩)))) ?_
  delta tU2 dK dQ cK dS aJ aPz bC
  simp only [sS]
  simp only [zZM,zQE,zQX]
  have aN:=zQZ q 0 65535 hq
  have hr:0≤(numQ q 0 65535).1∧(numQ q 0 65535).1≤65535:=jKw (by decide)
  have w:IntKind.wrap .u16 (numQ q 0 65535).1=(numQ q 0 65535).1:=by simp [IntKind.wrap,IntKind.bits,IntKind.signed]; omega
  have w':IntKind.wrap .u16 (numQ { ws:=q.ws,bad:=q.bad } 0 65535).1=(numQ q 0 65535).1:=w
  rw [w']
  exact ⟨aN,(by (repeat' apply And.intro) <;> first | rfl | trivial)⟩
theorem zXi (q:LQ) (hq:okQ q):AnsG prog 142 2 [aPz] [bC [Cl.clo 105 [Cap.ptr 1 0],Cl.d (dQ q.bad)],bC [Cl.d (dS q.ws.length (strs q.ws))]] ⟨AV.one (Cl.d (dQ (decide ((numQ q 0 1).1=1)))),[bC [Cl.clo 105 [Cap.ptr 1 0],Cl.d (dQ (((numQ q 0 1).2).bad))],bC [Cl.d (dS (((numQ q 0 1).2).ws.length) (strs ((numQ q 0 1).2).ws))]],false⟩:=
 zQz (Γ:=zKY) Ann.leaf zQy Tryz.func142 rfl (Nat.le_of_ble_eq_true rfl) rfl fun hwf hbx=>by
  refine Eq.mpr (by kernel_rfl:_=(let a:=(numQ q 0 1); let b:=(numQ (reQ q) (0:Int) (1:Int)); tU2 ((AnsG prog 137 2 [aPz,aJ 0,aJ 1] [bC [Cl.clo 105 [Cap.ptr 1 0],Cl.d (dQ q.bad)],bC [Cl.d (dS q.ws.length (strs q.ws))]] ⟨aJ b.1,[bC [Cl.clo 105 [Cap.ptr 1 0],Cl.d (dQ b.2.bad)],bC [Cl.d (dS b.2.ws.length (strs b.2.ws))]],false⟩)∧tU2 ((((dQ (b.1==1)=dQ (decide (a.1=1)))∧True)∧((((0=0)∧True)∧(dQ b.2.bad=dQ a.2.bad)∧True)∧([dS b.2.ws.length (strs b.2.ws)]=[dS a.2.ws.length (strs a.2.ws)])∧True))∧zQu ⟨AV.one (Cl.d (dQ (decide (a.1=1)))),[bC [Cl.clo 105 [Cap.ptr 1 0],Cl.d (dQ a.2.bad)],bC [Cl.d (dS a.2.ws.length (strs a.2.ws))]],false⟩)))) ?_
  delta tU2 dQ dS aJ aPz bC
  simp only [sS]
  simp only [zZM,zQE,zQX]
  have aN:=zQZ q 0 1 hq
  have e:((numQ { ws:=q.ws,bad:=q.bad } 0 1).1==1)=decide ((numQ q 0 1).1=1):=by rw [Bool.eq_iff_iff]; simp
  rw [e]
  exact ⟨aN,(by (repeat' apply And.intro) <;> first | rfl | trivial)⟩
theorem zZQ (q:LQ):AnsG prog 140 2 [aPz] [bC [Cl.clo 105 [Cap.ptr 1 0],Cl.d (dQ q.bad)],bC [Cl.d (dS q.ws.length (strs q.ws))]] ⟨aJ ((((namQ zQo q).1))),[bC [Cl.clo 105 [Cap.ptr 1 0],Cl.d (dQ (((namQ zQo q).2).bad))],bC [Cl.d (dS (((namQ zQo q).2).ws.length) (strs ((namQ zQo q).2).ws))]],false⟩:=
 zQz (Γ:=zKY) Ann.leaf zQy Tryz.func140 rfl (Nat.le_of_ble_eq_true rfl) rfl fun hwf hbx=>by
  refine Eq.mpr (by kernel_rfl:_=(let a:=(namQ zQo q); let b:=(namQ zQo (reQ q)); tU2 ((AnsG prog 156 2 [aPz,AV.one (Cl.d (DV.fn 157))] [bC [Cl.clo 105 [Cap.ptr 1 0],Cl.d (dQ q.bad)],bC [Cl.d (dS q.ws.length (strs q.ws))]] ⟨aJ b.1,[bC [Cl.clo 105 [Cap.ptr 1 0],Cl.d (dQ b.2.bad)],bC [Cl.d (dS b.2.ws.length (strs b.2.ws))]],false⟩)∧True∧(((dJ b.1=dJ a.1)∧True)∧((((0=0)∧True)∧(dQ b.2.bad=dQ a.2.bad)∧True)∧([dS b.2.ws.length (strs b.2.ws)]=[dS a.2.ws.length (strs a.2.ws)])∧True))∧zQu ⟨aJ a.1,[bC [Cl.clo 105 [Cap.ptr 1 0],Cl.d (dQ a.2.bad)],bC [Cl.d (dS a.2.ws.length (strs a.2.ws))]],false⟩))) ?_
  delta tU2 dJ dQ dS aJ aPz bC
  simp only [sS]
  simp only [zZM,zQE,zQX]
  exact ⟨zYP q,(by (repeat' apply And.intro) <;> first | rfl | trivial)⟩
theorem zXr (q:LQ):AnsG prog 141 2 [aPz] [bC [Cl.clo 105 [Cap.ptr 1 0],Cl.d (dQ q.bad)],bC [Cl.d (dS q.ws.length (strs q.ws))]] ⟨aJ ((((namQ zQf q).1))),[bC [Cl.clo 105 [Cap.ptr 1 0],Cl.d (dQ (((namQ zQf q).2).bad))],bC [Cl.d (dS (((namQ zQf q).2).ws.length) (strs ((namQ zQf q).2).ws))]],false⟩:=
 zQz (Γ:=zKY) Ann.leaf zQy Tryz.func141 rfl (Nat.le_of_ble_eq_true rfl) rfl fun hwf hbx=>by
  refine Eq.mpr (by kernel_rfl:_=(let a:=(namQ zQf q); let b:=(namQ zQf (reQ q)); tU2 ((AnsG prog 156 2 [aPz,AV.one (Cl.d (DV.fn 158))] [bC [Cl.clo 105 [Cap.ptr 1 0],Cl.d (dQ q.bad)],bC [Cl.d (dS q.ws.length (strs q.ws))]] ⟨aJ b.1,[bC [Cl.clo 105 [Cap.ptr 1 0],Cl.d (dQ b.2.bad)],bC [Cl.d (dS b.2.ws.length (strs b.2.ws))]],false⟩)∧True∧(((dJ b.1=dJ a.1)∧True)∧((((0=0)∧True)∧(dQ b.2.bad=dQ a.2.bad)∧True)∧([dS b.2.ws.length (strs b.2.ws)]=[dS a.2.ws.length (strs a.2.ws)])∧True))∧zQu ⟨aJ a.1,[bC [Cl.clo 105 [Cap.ptr 1 0],Cl.d (dQ a.2.bad)],bC [Cl.d (dS a.2.ws.length (strs a.2.ws))]],false⟩))) ?_
  delta tU2 dJ dQ dS aJ aPz bC
  simp only [sS]
  simp only [zZM,zQE,zQX]
  exact ⟨zKg q,(by (repeat' apply And.intro) <;> first | rfl | trivial)⟩
theorem zQm (q:LQ):AnsG prog 107 2 [aPz] [bC [Cl.clo 105 [Cap.ptr 1 0],Cl.d (dQ q.bad)],bC [Cl.d (dS q.ws.length (strs q.ws))]] ⟨AV.one (Cl.d (dQ (((q).ws).isEmpty && !(q).bad))),[bC [Cl.clo 105 [Cap.ptr 1 0],Cl.d (dQ ((zZH q).bad))],bC [Cl.d (dS ((zZH q).ws.length) (strs (zZH q).ws))]],false⟩:=
 zQz (Γ:=zKY) Ann.leaf zQy Tryz.func107 rfl (Nat.le_of_ble_eq_true rfl) rfl fun hwf hbx=>by
  refine Eq.mpr (by kernel_rfl:_=(let a:=(zZH (reQ q)); let b:=(q.ws.isEmpty && !q.bad); let c:=[bC [Cl.clo 105 [Cap.ptr 1 0],Cl.d (dQ (zZH q).bad)],bC [Cl.d (dS (zZH q).ws.length (strs (zZH q).ws))]]; let d:=((((0=0)∧True)∧(dQ a.bad=dQ (zZH q).bad)∧True)∧([dS a.ws.length (strs a.ws)]=[dS (zZH q).ws.length (strs (zZH q).ws)])∧True); tU2 ((AnsG prog 136 2 [aPz] [bC [Cl.clo 105 [Cap.ptr 1 0],Cl.d (dQ q.bad)],bC [Cl.d (dS q.ws.length (strs q.ws))]] ⟨AV.one (Cl.d (dQ (!(reQ q).ws.isEmpty))),[bC [Cl.clo 105 [Cap.ptr 1 0],Cl.d (dQ a.bad)],bC [Cl.d (dS a.ws.length (strs a.ws))]],false⟩)∧tU2 (((!(!(reQ q).ws.isEmpty))=true→tU7 ((((dQ (!a.bad)=dQ b)∧True)∧d)∧zQu ⟨AV.one (Cl.d (dQ b)),c,false⟩))∧((!(!(reQ q).ws.isEmpty))=(!true)→tU2 ((((dQ false=dQ b)∧True)∧d)∧zQu ⟨AV.one (Cl.d (dQ b)),c,false⟩)))))) ?_
  delta tU2 tU7 dQ dS aPz bC
  simp only [sS]
  simp only [zZM,zQE,zQX]
  have aM:=zKC q
  refine ⟨aM,fun h=>?_,fun h=>?_⟩
  ·have e:(!(zZH { ws:=q.ws,bad:=q.bad }).bad)=(q.ws.isEmpty && !q.bad):=by rw [h]; rfl
   rw [e]; exact (by (repeat' apply And.intro) <;> first | rfl | trivial)
  ·have e:false=(q.ws.isEmpty && !q.bad):=by rw [h]; rfl
   rw [← e]; exact (by (repeat' apply And.intro) <;> first | rfl | trivial)
def pixQ (q:LQ):Px × LQ:=
 let a:=numQ q 0 65535; let b:=numQ a.2 0 65535; let c:=numQ b.2 0 65535; let d:=numQ c.2 0 65535; let e:=numQ d.2 0 65535
 (⟨a.1,b.1,c.1,d.1,e.1⟩,e.2)
def sizQ (q:LQ):(Int × Int) × LQ:=
 let a:=numQ q 1 16777216; let b:=numQ a.2 1 16777216
 if b.2.bad=true∨16777216 / b.1 < a.1 then ((0,0),⟨b.2.ws,true⟩) else ((a.1,b.1),b.2)
theorem jX2 {q:LQ} {lo hi:Int} (h:(numQ q lo hi).2.bad=false):lo≤(numQ q lo hi).1∧(numQ q lo hi).1≤hi:=by
 unfold numQ at h ⊢
 split at h
 ·rename_i e
  rw [if_pos e]
  exact zUE e
 ·exact absurd h (by simp)
def byQ (q:LQ):=numQ q 0 255
def plQ (q:LQ):=numQ q (-2147483648) 2147483647
def smQ (q:LQ):=numQ q 0 65535
def trQ (q:LQ):Bool × LQ:=(decide ((numQ q 0 1).1=1),(numQ q 0 1).2)
def zZB (q:LQ):Oq × LQ:=
 let i:=byQ q; let x:=plQ i.2; let y:=plQ x.2; let m:=byQ y.2; let mx:=plQ m.2; let my:=plQ mx.2; let a:=smQ my.2; let o:=namQ zQo a.2; let k:=namQ zQf o.2
 (⟨1,i.1,x.1,y.1,m.1,mx.1,my.1,a.1,o.1,k.1,false,false⟩,k.2)
def zZy (q:LQ):Oq × LQ:=
 let m:=byQ q; let mx:=plQ m.2; let my:=plQ mx.2; let a:=smQ my.2; let o:=namQ zQo a.2; let k:=namQ zQf o.2; let i:=trQ k.2; let n:=trQ i.2
 (⟨2,0,0,0,m.1,mx.1,my.1,a.1,o.1,k.1,i.1,n.1⟩,n.2)
def gZ38 (xs:List RV):Option RV:=match xs with | [.d (.str s),.d (.str sep)]=>some (RV.d (dS (zQt (ofS s)).length (strs (zQt (ofS s))))) | _=>none
def jYk:Gam where
 pure:=fun f xs=>
  if f=104 then gZ38 xs else
  none
 modes:=fun f=>
  if f=137 then some ([false,true,true],2,0) else
  if f=109 then some ([false],2,0) else
  if f=110 then some ([false],2,0) else
  if f=135 then some ([false],2,0) else
  if f=142 then some ([false],2,0) else
  if f=140 then some ([false],2,0) else
  if f=141 then some ([false],2,0) else
  none
 proc:=fun f xs bs=>
  if f=137 then gZ29 xs bs else
  if f=109 then gZ30 xs bs else
  if f=110 then gZ31 xs bs else
  if f=135 then gZ33 xs bs else
  if f=142 then gZ34 xs bs else
  if f=140 then gZ35 xs bs else
  if f=141 then gZ36 xs bs else
  none
 iter:=fun f cs=>
  none
theorem zQs (q:LQ) (hq:okQ q):AnsG prog 106 2 [aPz] [bC [Cl.clo 105 [Cap.ptr 1 0],Cl.d (dQ q.bad)],bC [Cl.d (dS q.ws.length (strs q.ws))]] ⟨AV.agg [cK (((pixQ q).1.a)),cK (((pixQ q).1.b)),cK (((pixQ q).1.c)),cK (((pixQ q).1.al)),cK (((pixQ q).1.f))],[bC [Cl.clo 105 [Cap.ptr 1 0],Cl.d (dQ (((pixQ q).2).bad))],bC [Cl.d (dS (((pixQ q).2).ws.length) (strs ((pixQ q).2).ws))]],false⟩:=
 zQz (Γ:=jYk) Ann.leaf zQy Tryz.func106 rfl (Nat.le_of_ble_eq_true rfl) rfl fun hwf hbx=>by
  refine Eq.mpr (by kernel_rfl:_=(let e:=[Cap.ptr 1 0]; let k:=[AV.one (Cl.ptr 0 0)]; let g:=(numQ (reQ q) 0 65535); let h:=(numQ (reQ g.2) 0 65535); let i:=(numQ (reQ h.2) 0 65535); let j:=(numQ (reQ i.2) 0 65535); let d:=(numQ (reQ j.2) 0 65535); let l:=[Bx.cells [Cl.clo 105 e,Cl.d (DV.bool g.2.bad)],Bx.cells [Cl.d (DV.sl g.2.ws.length (strs g.2.ws))]]; let m:=[Bx.cells [Cl.clo 105 e,Cl.d (DV.bool h.2.bad)],Bx.cells [Cl.d (DV.sl h.2.ws.length (strs h.2.ws))]]; let n:=[Bx.cells [Cl.clo 105 e,Cl.d (DV.bool i.2.bad)],Bx.cells [Cl.d (DV.sl i.2.ws.length (strs i.2.ws))]]; let o:=[Bx.cells [Cl.clo 105 e,Cl.d (DV.bool j.2.bad)],Bx.cells [Cl.d (DV.sl j.2.ws.length (strs j.2.ws))]]; True∧True∧(AnsG prog 135 2 k [Bx.cells [Cl.clo 105 e,Cl.d (DV.bool q.bad)],Bx.cells [Cl.d (DV.sl q.ws.length (strs q.ws))]] ⟨AV.one (Cl.d (DV.int .u16 g.1)),l,false⟩)∧True∧(AnsG prog 135 2 k l ⟨AV.one (Cl.d (DV.int .u16 h.1)),m,false⟩)∧True∧(AnsG prog 135 2 k m ⟨AV.one (Cl.d (DV.int .u16 i.1)),n,false⟩)∧True∧True∧(AnsG prog 135 2 k n ⟨AV.one (Cl.d (DV.int .u16 j.1)),o,false⟩)∧True∧(AnsG prog 135 2 k o ⟨AV.one (Cl.d (DV.int .u16 d.1)),[Bx.cells [Cl.clo 105 e,Cl.d (DV.bool d.2.bad)],Bx.cells [Cl.d (DV.sl d.2.ws.length (strs d.2.ws))]],false⟩)∧True∧True∧((([DV.int .u16 g.1,DV.int .u16 h.1,DV.int .u16 i.1,DV.int .u16 j.1,DV.int .u16 d.1]=[DV.int .u16 (pixQ q).1.a,DV.int .u16 (pixQ q).1.b,DV.int .u16 (pixQ q).1.c,DV.int .u16 (pixQ q).1.al,DV.int .u16 (pixQ q).1.f])∧True)∧((((0=0)∧True)∧(DV.bool d.2.bad=DV.bool (pixQ q).2.bad)∧True)∧([DV.sl d.2.ws.length (strs d.2.ws)]=[DV.sl (pixQ q).2.ws.length (strs (pixQ q).2.ws)])∧True))∧zQu ⟨AV.agg [Cl.d (DV.int .u16 (pixQ q).1.a),Cl.d (DV.int .u16 (pixQ q).1.b),Cl.d (DV.int .u16 (pixQ q).1.c),Cl.d (DV.int .u16 (pixQ q).1.al),Cl.d (DV.int .u16 (pixQ q).1.f)],[Bx.cells [Cl.clo 105 e,Cl.d (DV.bool (pixQ q).2.bad)],Bx.cells [Cl.d (DV.sl (pixQ q).2.ws.length (strs (pixQ q).2.ws))]],false⟩)) ?_
  simp only [zZM,true_and,and_true,RV.d.injEq,RV.agg.injEq,RV.tup.injEq,DV.bool.injEq,DV.int.injEq,DV.sl.injEq,List.cons.injEq,forall_const,Bool.not_false,Bool.not_true,Bool.not_eq_true',Bool.not_eq_false',decide_eq_true_eq,decide_eq_false_iff_not,Int.toNat_natCast]
  (repeat' apply And.intro) <;> first | exact zZ5 _ (by repeat (first | assumption | apply zQb | apply zQc)) | exact zQn _ (by repeat (first | assumption | apply zQb | apply zQc)) | exact zQp _ (by repeat (first | assumption | apply zQb | apply zQc)) | exact zZQ _ | exact zXr _ | exact zXi _ (by repeat (first | assumption | apply zQb | apply zQc)) | rfl | trivial
theorem zQv (q:LQ) (hq:okQ q):AnsG prog 113 2 [aPz] [bC [Cl.clo 105 [Cap.ptr 1 0],Cl.d (dQ q.bad)],bC [Cl.d (dS q.ws.length (strs q.ws))]] ⟨AV.tup [aJ ((((sizQ q).1.1))),aJ ((((sizQ q).1.2)))],[bC [Cl.clo 105 [Cap.ptr 1 0],Cl.d (dQ (((sizQ q).2).bad))],bC [Cl.d (dS (((sizQ q).2).ws.length) (strs ((sizQ q).2).ws))]],false⟩:=
 zQz (Γ:=jYk) Ann.leaf zQy Tryz.func113 rfl (Nat.le_of_ble_eq_true rfl) rfl fun hwf hbx=>by
  refine Eq.mpr (by kernel_rfl:_=(let c:=[Cap.ptr 1 0]; let d:=[Bx.cells [Cl.clo 105 c,Cl.d (DV.bool (sizQ q).2.bad)],Bx.cells [Cl.d (DV.sl (sizQ q).2.ws.length (strs (sizQ q).2.ws))]]; let e:=[AV.one (Cl.d (DV.int .i64 (sizQ q).1.1)),AV.one (Cl.d (DV.int .i64 (sizQ q).1.2))]; let b:=(numQ (reQ q) (1:Int) (16777216:Int)); let a:=(numQ (reQ b.2) (1:Int) (16777216:Int)); let f:=(decide (b.1 > (IntKind.wrap .i64 (Int.tdiv (16777216:Int) a.1)))); let g:=[AV.one (Cl.ptr 0 0),AV.one (Cl.d (DV.int .i64 1)),AV.one (Cl.d (DV.int .i64 16777216))]; let h:=[Bx.cells [Cl.clo 105 c,Cl.d (DV.bool b.2.bad)],Bx.cells [Cl.d (DV.sl b.2.ws.length (strs b.2.ws))]]; let i:=([DV.sl a.2.ws.length (strs a.2.ws)]=[DV.sl (sizQ q).2.ws.length (strs (sizQ q).2.ws)]); let j:=((((DV.int .i64 0=DV.int .i64 (sizQ q).1.1)∧(DV.int .i64 0=DV.int .i64 (sizQ q).1.2)∧True)∧True)∧((((0=0)∧True)∧(DV.bool true=DV.bool (sizQ q).2.bad)∧True)∧i∧True)); True∧True∧True∧(AnsG prog 137 2 g [Bx.cells [Cl.clo 105 c,Cl.d (DV.bool q.bad)],Bx.cells [Cl.d (DV.sl q.ws.length (strs q.ws))]] ⟨AV.one (Cl.d (DV.int .i64 b.1)),h,false⟩)∧True∧(AnsG prog 137 2 g h ⟨AV.one (Cl.d (DV.int .i64 a.1)),[Bx.cells [Cl.clo 105 c,Cl.d (DV.bool a.2.bad)],Bx.cells [Cl.d (DV.sl a.2.ws.length (strs a.2.ws))]],false⟩)∧True∧True∧True∧True∧True∧True∧True∧((a.2.bad=false→True∧True∧(a.1≠0)∧True∧True∧((f=true→True∧True∧True∧True∧True∧True∧j∧zQu ⟨AV.tup e,d,false⟩)∧(f=false→True∧True∧True∧True∧((((DV.int .i64 b.1=DV.int .i64 (sizQ q).1.1)∧(DV.int .i64 a.1=DV.int .i64 (sizQ q).1.2)∧True)∧True)∧((((0=0)∧True)∧(DV.bool a.2.bad=DV.bool (sizQ q).2.bad)∧True)∧i∧True))∧zQu ⟨AV.tup e,d,false⟩)))∧(a.2.bad=(!false)→True∧True∧True∧True∧True∧True∧True∧j∧zQu ⟨AV.tup e,d,false⟩)))) ?_
  simp only [zZM,true_and,and_true,RV.d.injEq,RV.agg.injEq,RV.tup.injEq,DV.bool.injEq,DV.int.injEq,DV.sl.injEq,List.cons.injEq,forall_const,Bool.not_false,Bool.not_true,Bool.not_eq_true',Bool.not_eq_false',decide_eq_true_eq,decide_eq_false_iff_not,Int.toNat_natCast]
  have aA:=zQZ q 1 16777216 hq
  have aB:=zQZ (numQ q 1 16777216).2 1 16777216 (zQb hq)
  have hb:(numQ (numQ q 1 16777216).2 1 16777216).2.bad=false→1≤(numQ (numQ q 1 16777216).2 1 16777216).1∧(numQ (numQ q 1 16777216).2 1 16777216).1≤16777216:=fun h=>jX2 h
  have e:sizQ q=(if (numQ (numQ q 1 16777216).2 1 16777216).2.bad=true∨16777216 / (numQ (numQ q 1 16777216).2 1 16777216).1 < (numQ q 1 16777216).1 then ((0,0),⟨(numQ (numQ q 1 16777216).2 1 16777216).2.ws,true⟩) else (((numQ q 1 16777216).1,(numQ (numQ q 1 16777216).2 1 16777216).1),(numQ (numQ q 1 16777216).2 1 16777216).2)):=rfl
  generalize numQ (numQ q 1 16777216).2 1 16777216=B at *
  generalize numQ q 1 16777216=A at *
  have hw:B.2.bad=false→IntKind.wrap .i64 (Int.tdiv 16777216 B.1)=16777216 / B.1:=fun h=>by
   obtain ⟨h1,h2⟩:=hb h
   rw [Int.tdiv_eq_ediv_of_nonneg (by omega)]
   have hq:=Int.ediv_nonneg (by omega:(0:Int)≤16777216) (by omega:0≤B.1)
   have hq1:16777216 / B.1≤16777216:=Int.ediv_le_self _ (by omega)
   exact IntWalk.i64_in _ ⟨by omega,by omega⟩
  refine ⟨aA,aB,fun h=>⟨by have:=hb h; omega,fun h2=>?_,fun h2=>?_⟩,fun h=>?_⟩
  ·rw [hw h] at h2
   rw [if_pos (.inr (by omega))] at e
   rw [e]; ((repeat' apply And.intro) <;> first | rfl | trivial)
  ·rw [hw h] at h2
   rw [if_neg (by rw [h]; simp; omega)] at e
   rw [e]; ((repeat' apply And.intro) <;> first | rfl | trivial)
  ·rw [if_pos (.inl (by simpa using h))] at e
   rw [e]; ((repeat' apply And.intro) <;> first | rfl | trivial)
theorem zQx (q:LQ) (hq:okQ q):AnsG prog 115 2 [aPz] [bC [Cl.clo 105 [Cap.ptr 1 0],Cl.d (dQ q.bad)],bC [Cl.d (dS q.ws.length (strs q.ws))]] ⟨AV.agg [cJ ((((zZB q).1).kind)),cJ ((((zZB q).1).image)),cJ ((((zZB q).1).x)),cJ ((((zZB q).1).y)),cJ ((((zZB q).1).mask)),cJ ((((zZB q).1).mx)),cJ ((((zZB q).1).my)),cK ((((zZB q).1).opac)),cJ ((((zZB q).1).oper)),cJ ((((zZB q).1).mode)),Cl.d (dQ (((zZB q).1).iso)),Cl.d (dQ (((zZB q).1).kno))],[bC [Cl.clo 105 [Cap.ptr 1 0],Cl.d (dQ (((zZB q).2).bad))],bC [Cl.d (dS (((zZB q).2).ws.length) (strs ((zZB q).2).ws))]],false⟩:=
 zQz (Γ:=jYk) Ann.leaf zQy Tryz.func115 rfl (Nat.le_of_ble_eq_true rfl) rfl fun hwf hbx=>by
  refine Eq.mpr (by kernel_rfl:_=(let d:=(numQ (reQ q) 0 255); let a:=[Cap.ptr 1 0]; let b:=[AV.one (Cl.ptr 0 0)]; let e:=(numQ (reQ d.2) (-2147483648) 2147483647); let f:=(numQ (reQ e.2) (-2147483648) 2147483647); let g:=(numQ (reQ f.2) 0 255); let h:=(numQ (reQ g.2) (-2147483648) 2147483647); let i:=(numQ (reQ h.2) (-2147483648) 2147483647); let j:=(numQ (reQ i.2) 0 65535); let k:=(namQ zQo (reQ j.2)); let c:=(namQ zQf (reQ k.2)); let l:=[Bx.cells [Cl.clo 105 a,Cl.d (DV.bool d.2.bad)],Bx.cells [Cl.d (DV.sl d.2.ws.length (strs d.2.ws))]]; let m:=[Bx.cells [Cl.clo 105 a,Cl.d (DV.bool e.2.bad)],Bx.cells [Cl.d (DV.sl e.2.ws.length (strs e.2.ws))]]; let n:=[Bx.cells [Cl.clo 105 a,Cl.d (DV.bool f.2.bad)],Bx.cells [Cl.d (DV.sl f.2.ws.length (strs f.2.ws))]]; let o:=[Bx.cells [Cl.clo 105 a,Cl.d (DV.bool g.2.bad)],Bx.cells [Cl.d (DV.sl g.2.ws.length (strs g.2.ws))]]; let p:=[Bx.cells [Cl.clo 105 a,Cl.d (DV.bool h.2.bad)],Bx.cells [Cl.d (DV.sl h.2.ws.length (strs h.2.ws))]]; let r:=[Bx.cells [Cl.clo 105 a,Cl.d (DV.bool i.2.bad)],Bx.cells [Cl.d (DV.sl i.2.ws.length (strs i.2.ws))]]; let s:=[Bx.cells [Cl.clo 105 a,Cl.d (DV.bool j.2.bad)],Bx.cells [Cl.d (DV.sl j.2.ws.length (strs j.2.ws))]]; let t:=[Bx.cells [Cl.clo 105 a,Cl.d (DV.bool k.2.bad)],Bx.cells [Cl.d (DV.sl k.2.ws.length (strs k.2.ws))]]; True∧True∧(AnsG prog 109 2 b [Bx.cells [Cl.clo 105 a,Cl.d (DV.bool q.bad)],Bx.cells [Cl.d (DV.sl q.ws.length (strs q.ws))]] ⟨AV.one (Cl.d (DV.int .i64 d.1)),l,false⟩)∧True∧(AnsG prog 110 2 b l ⟨AV.one (Cl.d (DV.int .i64 e.1)),m,false⟩)∧True∧(AnsG prog 110 2 b m ⟨AV.one (Cl.d (DV.int .i64 f.1)),n,false⟩)∧True∧(AnsG prog 109 2 b n ⟨AV.one (Cl.d (DV.int .i64 g.1)),o,false⟩)∧True∧(AnsG prog 110 2 b o ⟨AV.one (Cl.d (DV.int .i64 h.1)),p,false⟩)∧True∧(AnsG prog 110 2 b p ⟨AV.one (Cl.d (DV.int .i64 i.1)),r,false⟩)∧True∧(AnsG prog 135 2 b r ⟨AV.one (Cl.d (DV.int .u16 j.1)),s,false⟩)∧True∧(AnsG prog 140 2 b s ⟨AV.one (Cl.d (DV.int .i64 k.1)),t,false⟩)∧True∧(AnsG prog 141 2 b t ⟨AV.one (Cl.d (DV.int .i64 c.1)),[Bx.cells [Cl.clo 105 a,Cl.d (DV.bool c.2.bad)],Bx.cells [Cl.d (DV.sl c.2.ws.length (strs c.2.ws))]],false⟩)∧True∧True∧((([DV.int .i64 1,DV.int .i64 d.1,DV.int .i64 e.1,DV.int .i64 f.1,DV.int .i64 g.1,DV.int .i64 h.1,DV.int .i64 i.1,DV.int .u16 j.1,DV.int .i64 k.1,DV.int .i64 c.1,DV.bool false,DV.bool false]=(Oq.cells (zZB q).1))∧True)∧((((0=0)∧True)∧(DV.bool c.2.bad=DV.bool (zZB q).2.bad)∧True)∧([DV.sl c.2.ws.length (strs c.2.ws)]=[DV.sl (zZB q).2.ws.length (strs (zZB q).2.ws)])∧True))∧zQu ⟨AV.agg [Cl.d (DV.int .i64 (zZB q).1.kind),Cl.d (DV.int .i64 (zZB q).1.image),Cl.d (DV.int .i64 (zZB q).1.x),Cl.d (DV.int .i64 (zZB q).1.y),Cl.d (DV.int .i64 (zZB q).1.mask),Cl.d (DV.int .i64 (zZB q).1.mx),Cl.d (DV.int .i64 (zZB q).1.my),Cl.d (DV.int .u16 (zZB q).1.opac),Cl.d (DV.int .i64 (zZB q).1.oper),Cl.d (DV.int .i64 (zZB q).1.mode),Cl.d (DV.bool (zZB q).1.iso),Cl.d (DV.bool (zZB q).1.kno)],[Bx.cells [Cl.clo 105 a,Cl.d (DV.bool (zZB q).2.bad)],Bx.cells [Cl.d (DV.sl (zZB q).2.ws.length (strs (zZB q).2.ws))]],false⟩)) ?_
  simp only [zZM,true_and,and_true,RV.d.injEq,RV.agg.injEq,RV.tup.injEq,DV.bool.injEq,DV.int.injEq,DV.sl.injEq,List.cons.injEq,forall_const,Bool.not_false,Bool.not_true,Bool.not_eq_true',Bool.not_eq_false',decide_eq_true_eq,decide_eq_false_iff_not,Int.toNat_natCast]
  (repeat' apply And.intro) <;> first | exact zZ5 _ (by repeat (first | assumption | apply zQb | apply zQc)) | exact zQn _ (by repeat (first | assumption | apply zQb | apply zQc)) | exact zQp _ (by repeat (first | assumption | apply zQb | apply zQc)) | exact zZQ _ | exact zXr _ | exact zXi _ (by repeat (first | assumption | apply zQb | apply zQc)) | rfl | trivial
theorem zQw (q:LQ) (hq:okQ q):AnsG prog 116 2 [aPz] [bC [Cl.clo 105 [Cap.ptr 1 0],Cl.d (dQ q.bad)],bC [Cl.d (dS q.ws.length (strs q.ws))]] ⟨AV.agg [cJ ((((zZy q).1).kind)),cJ ((((zZy q).1).image)),cJ ((((zZy q).1).x)),cJ ((((zZy q).1).y)),cJ ((((zZy q).1).mask)),cJ ((((zZy q).1).mx)),cJ ((((zZy q).1).my)),cK ((((zZy q).1).opac)),cJ ((((zZy q).1).oper)),cJ ((((zZy q).1).mode)),Cl.d (dQ (((zZy q).1).iso)),Cl.d (dQ (((zZy q).1).kno))],[bC [Cl.clo 105 [Cap.ptr 1 0],Cl.d (dQ (((zZy q).2).bad))],bC [Cl.d (dS (((zZy q).2).ws.length) (strs ((zZy q).2).ws))]],false⟩:=
 zQz (Γ:=jYk) Ann.leaf zQy Tryz.func116 rfl (Nat.le_of_ble_eq_true rfl) rfl fun hwf hbx=>by
  refine Eq.mpr (by kernel_rfl:_=(let d:=(numQ (reQ q) 0 255); let a:=[Cap.ptr 1 0]; let b:=[AV.one (Cl.ptr 0 0)]; let e:=(numQ (reQ d.2) (-2147483648) 2147483647); let f:=(numQ (reQ e.2) (-2147483648) 2147483647); let g:=(numQ (reQ f.2) 0 65535); let h:=(namQ zQo (reQ g.2)); let i:=(namQ zQf (reQ h.2)); let j:=(numQ (reQ i.2) 0 1); let c:=(numQ (reQ j.2) 0 1); let k:=[Bx.cells [Cl.clo 105 a,Cl.d (DV.bool d.2.bad)],Bx.cells [Cl.d (DV.sl d.2.ws.length (strs d.2.ws))]]; let l:=[Bx.cells [Cl.clo 105 a,Cl.d (DV.bool e.2.bad)],Bx.cells [Cl.d (DV.sl e.2.ws.length (strs e.2.ws))]]; let m:=[Bx.cells [Cl.clo 105 a,Cl.d (DV.bool f.2.bad)],Bx.cells [Cl.d (DV.sl f.2.ws.length (strs f.2.ws))]]; let n:=[Bx.cells [Cl.clo 105 a,Cl.d (DV.bool g.2.bad)],Bx.cells [Cl.d (DV.sl g.2.ws.length (strs g.2.ws))]]; let o:=[Bx.cells [Cl.clo 105 a,Cl.d (DV.bool h.2.bad)],Bx.cells [Cl.d (DV.sl h.2.ws.length (strs h.2.ws))]]; let p:=[Bx.cells [Cl.clo 105 a,Cl.d (DV.bool i.2.bad)],Bx.cells [Cl.d (DV.sl i.2.ws.length (strs i.2.ws))]]; let r:=[Bx.cells [Cl.clo 105 a,Cl.d (DV.bool j.2.bad)],Bx.cells [Cl.d (DV.sl j.2.ws.length (strs j.2.ws))]]; True∧True∧(AnsG prog 109 2 b [Bx.cells [Cl.clo 105 a,Cl.d (DV.bool q.bad)],Bx.cells [Cl.d (DV.sl q.ws.length (strs q.ws))]] ⟨AV.one (Cl.d (DV.int .i64 d.1)),k,false⟩)∧True∧(AnsG prog 110 2 b k ⟨AV.one (Cl.d (DV.int .i64 e.1)),l,false⟩)∧True∧(AnsG prog 110 2 b l ⟨AV.one (Cl.d (DV.int .i64 f.1)),m,false⟩)∧True∧(AnsG prog 135 2 b m ⟨AV.one (Cl.d (DV.int .u16 g.1)),n,false⟩)∧True∧(AnsG prog 140 2 b n ⟨AV.one (Cl.d (DV.int .i64 h.1)),o,false⟩)∧True∧(AnsG prog 141 2 b o ⟨AV.one (Cl.d (DV.int .i64 i.1)),p,false⟩)∧True∧(AnsG prog 142 2 b p ⟨AV.one (Cl.d (DV.bool (decide (j.1=1)))),r,false⟩)∧True∧(AnsG prog 142 2 b r ⟨AV.one (Cl.d (DV.bool (decide (c.1=1)))),[Bx.cells [Cl.clo 105 a,Cl.d (DV.bool c.2.bad)],Bx.cells [Cl.d (DV.sl c.2.ws.length (strs c.2.ws))]],false⟩)∧True∧True∧((([DV.int .i64 2,DV.int .i64 0,DV.int .i64 0,DV.int .i64 0,DV.int .i64 d.1,DV.int .i64 e.1,DV.int .i64 f.1,DV.int .u16 g.1,DV.int .i64 h.1,DV.int .i64 i.1,DV.bool (decide (j.1=1)),DV.bool (decide (c.1=1))]=(Oq.cells (zZy q).1))∧True)∧((((0=0)∧True)∧(DV.bool c.2.bad=DV.bool (zZy q).2.bad)∧True)∧([DV.sl c.2.ws.length (strs c.2.ws)]=[DV.sl (zZy q).2.ws.length (strs (zZy q).2.ws)])∧True))∧zQu ⟨AV.agg [Cl.d (DV.int .i64 (zZy q).1.kind),Cl.d (DV.int .i64 (zZy q).1.image),Cl.d (DV.int .i64 (zZy q).1.x),Cl.d (DV.int .i64 (zZy q).1.y),Cl.d (DV.int .i64 (zZy q).1.mask),Cl.d (DV.int .i64 (zZy q).1.mx),Cl.d (DV.int .i64 (zZy q).1.my),Cl.d (DV.int .u16 (zZy q).1.opac),Cl.d (DV.int .i64 (zZy q).1.oper),Cl.d (DV.int .i64 (zZy q).1.mode),Cl.d (DV.bool (zZy q).1.iso),Cl.d (DV.bool (zZy q).1.kno)],[Bx.cells [Cl.clo 105 a,Cl.d (DV.bool (zZy q).2.bad)],Bx.cells [Cl.d (DV.sl (zZy q).2.ws.length (strs (zZy q).2.ws))]],false⟩)) ?_
  simp only [zZM,true_and,and_true,RV.d.injEq,RV.agg.injEq,RV.tup.injEq,DV.bool.injEq,DV.int.injEq,DV.sl.injEq,List.cons.injEq,forall_const,Bool.not_false,Bool.not_true,Bool.not_eq_true',Bool.not_eq_false',decide_eq_true_eq,decide_eq_false_iff_not,Int.toNat_natCast]
  (repeat' apply And.intro) <;> first | exact zZ5 _ (by repeat (first | assumption | apply zQb | apply zQc)) | exact zQn _ (by repeat (first | assumption | apply zQb | apply zQc)) | exact zQp _ (by repeat (first | assumption | apply zQb | apply zQc)) | exact zZQ _ | exact zXr _ | exact zXi _ (by repeat (first | assumption | apply zQb | apply zQc)) | rfl | trivial
theorem zU5 (w:Lb) (hw:w.length < 4294967281):AnsG prog 72 0 [AV.one (Cl.d (DV.str (toS w)))] [] ⟨aPz,[bC [Cl.clo 105 [Cap.ptr 1 0],Cl.d (dQ (((⟨zQt (ofS (toS w)),false⟩:LQ)).bad))],bC [Cl.d (dS (((⟨zQt (ofS (toS w)),false⟩:LQ)).ws.length) (strs ((⟨zQt (ofS (toS w)),false⟩:LQ)).ws))]],false⟩:=
 zQz (Γ:=jYk) Ann.leaf zQy Tryz.func72 rfl (Nat.le_of_ble_eq_true rfl) rfl fun hwf hbx=>by
  refine Eq.mpr (by kernel_rfl:_=(let a:=(ofS (toS w)); let b:=(zQt a); tU2 ((Ans prog 104 [RV.d (DV.str (toS w)),RV.d (DV.str (⟨#[32]⟩:ByteArray))] (RV.d (dS b.length (strs b))))∧tU6 ((((0=0)∧True)∧((((0=0)∧True)∧(dQ false=dQ (⟨zQt a,false⟩:LQ).bad)∧True)∧([dS b.length (strs b)]=[dS (⟨zQt a,false⟩:LQ).ws.length (strs (⟨zQt a,false⟩:LQ).ws)])∧True))∧zQu ⟨aPz,[bC [Cl.clo 105 [Cap.ptr 1 0],Cl.d (dQ (⟨zQt a,false⟩:LQ).bad)],bC [Cl.d (dS (⟨zQt a,false⟩:LQ).ws.length (strs (⟨zQt a,false⟩:LQ).ws))]],false⟩)))) ?_
  delta tU2 tU6 dQ dS aPz bC
  simp only [sS]
  simp only [zQX]
  exact ⟨zHY w hw,trivial⟩
end
theorem zY2 {off:Nat} {ins:List Bx} {ρ:Nat→Nat} (b:Nat):zQI (List.replicate off .fresh++ins.map (Bx.ren ρ)) (b+off)=(zQI ins b).ren ρ:=by
 unfold zQI
 simp only [List.getD_eq_getElem?_getD]
 rw [List.getElem?_append_right (by simp),List.length_replicate,Nat.add_sub_cancel,List.getElem?_map]
 cases ins[b]? <;> rfl
theorem zHW {off:Nat} {l:List Bx} {b:Nat} (h:b < off):zQI (List.replicate off .fresh++l) b=.fresh:=by
 unfold zQI
 simp only [List.getD_eq_getElem?_getD]
 rw [List.getElem?_append_left (by simpa using h)]
 simp [h]
theorem AnsG.shift {P:Program} {f:FuncId} {args:List AV} {ins:List Bx} {r:Ret} (off:Nat) (h:AnsG P f 0 (AV.renL (·+off) args) (List.replicate off .fresh++ins.map (Bx.ren (·+off))) r):AnsG P f 0 args ins r:=by
 intro w S ι vs hg hh
 have hlo:∀ b,(zQI (List.replicate off .fresh++ins.map (Bx.ren (·+off))) b).live=true→∃ b',b=b'+off∧(zQI ins b').live=true:=fun b hl=>by
  by_cases e:b < off
  ·rw [zHW e] at hl; cases hl
  ·refine ⟨b - off,by omega,?_⟩
   have:=zY2 (off:=off) (ins:=ins) (ρ:=(·+off)) (b - off)
   rw [show b - off+off=b from by omega] at this
   rw [this,Bx.ren_live] at hl
   exact hl
 have hι:∀ b,(fun b=>if b < off then none else ι (b - off)) (b+off)=ι b:=fun b=>by
  simp only
  rw [if_neg (by omega),Nat.add_sub_cancel]
 have hturn:∀ b,zW2 ι (zQI ins) (fun b=>if b < off then none else ι (b - off)) (zQI (List.replicate off .fresh++ins.map (Bx.ren (·+off)))) (·+off) b:=fun b hk=>⟨hι b,by
  rw [zY2,Bx.ren_known]; exact hk⟩
 have hown:OwnB (zQI (List.replicate off .fresh++ins.map (Bx.ren (·+off)))) (fun b=>if b < off then none else ι (b - off))=OwnB (zQI ins) ι:=by
  funext g
  refine propext ⟨fun ⟨b,c,hl,e⟩=>?_,fun ⟨b,c,hl,e⟩=>?_⟩
  ·obtain ⟨b',rfl,hl'⟩:=hlo b hl
   exact ⟨b',c,hl',by rw [← hι b']; exact e⟩
  ·exact ⟨b+off,c,by rw [zY2,Bx.ren_live]; exact hl,by rw [hι]; exact e⟩
 have hh2:zJL w S (fun b=>if b < off then none else ι (b - off)) (AV.renL (·+off) args) (List.replicate off .fresh++ins.map (Bx.ren (·+off))) vs.toList:=by
  refine ⟨fun b g c hl e=>?_,fun b b2 g c c' hl hl2 hne e=>?_,fun b=>?_,hh.args.turn fun b _=>hturn b⟩
  ·obtain ⟨b',rfl,hl'⟩:=hlo b hl
   exact hh.own b' g c hl' (by rw [← hι b']; exact e)
  ·obtain ⟨b',rfl,hl'⟩:=hlo b hl
   obtain ⟨b2',rfl,hl2'⟩:=hlo b2 hl2
   have:=hh.dist b' b2' g c c' hl' hl2' (by omega) (by rw [← hι b']; exact e)
   rw [← hι b2'] at this
   exact this
  ·by_cases e:b < off
   ·rw [zHW e]; trivial
   ·obtain ⟨b',rfl⟩:∃ b',b=b'+off:=⟨b - off,by omega⟩
    rw [zY2]
    exact (hh.bx b').turn (hι b') fun x _=>hturn x
 have hc:=h w S _ vs hg hh2
 refine hc.mono fun ed w' hp=>?_
 obtain ⟨v,ι',rfl,ha⟩:=hp
 have hb:zJc w S (fun b=>if b < off then none else ι (b - off)) (List.replicate off .fresh++ins.map (Bx.ren (·+off))) r ι'=zJc w S ι ins r ι':=by
  unfold zJc
  rw [hown]
 refine ⟨v,ι',rfl,?_,?_,?_,ha.dist,fun b hb=>absurd hb (by omega),?_⟩
 ·rw [← hb]; exact ha.rep
 ·rw [← hb]; exact ha.bx
 ·rw [← hown]; exact ha.own
 ·rw [← hown]; exact ha.bel
def shp (pin off b:Nat):Nat:=if b < pin then b else b+off
def zUa (pin off:Nat) (ins:List Bx):List Bx:=(ins.take pin).map (Bx.ren (shp pin off))++(List.replicate off .fresh++(ins.drop pin).map (Bx.ren (shp pin off)))
theorem zVU {pin off:Nat} {ins:List Bx} (hp:pin≤ins.length) (b:Nat):zQI (zUa pin off ins) (shp pin off b)=(zQI ins b).ren (shp pin off):=by
 unfold zQI zUa shp
 simp only [List.getD_eq_getElem?_getD]
 by_cases h:b < pin
 ·rw [if_pos h,List.getElem?_append_left (by simp; omega),List.getElem?_map,List.getElem?_take,if_pos h]
  cases ins[b]? <;> rfl
 ·rw [if_neg h,List.getElem?_append_right (by simp; omega),List.getElem?_append_right (by simp; omega),List.length_replicate,List.length_map,List.length_take,List.getElem?_map,List.getElem?_drop,show pin+(b+off - min pin ins.length - off)=b by omega]
  cases ins[b]? <;> rfl
theorem zG6 {pin off:Nat} {ins:List Bx} (hp:pin≤ins.length) (b:Nat):(∃ b',b=shp pin off b')∨zQI (zUa pin off ins) b=.fresh:=by
 by_cases h:b < pin
 ·exact .inl ⟨b,by unfold shp; rw [if_pos h]⟩
 ·by_cases h2:b < pin+off
  ·refine .inr ?_
   unfold zQI zUa
   simp only [List.getD_eq_getElem?_getD]
   rw [List.getElem?_append_right (by simp; omega),List.getElem?_append_left (by simp; omega),List.getElem?_replicate]
   split <;> rfl
  ·exact .inl ⟨b - off,by unfold shp; rw [if_neg (by omega)]; omega⟩
theorem AnsG.shiftP {P:Program} {f:FuncId} {args:List AV} {ins:List Bx} {r:Ret} {pin:Nat} (off:Nat) (hp:pin≤ins.length) (h:AnsG P f pin (AV.renL (shp pin off) args) (zUa pin off ins) r):AnsG P f pin args ins r:=by
 intro w S ι vs hg hh
 have hinj:∀ {a b},shp pin off a=shp pin off b→a=b:=fun {a b} e=>by
  unfold shp at e
  split at e <;> split at e <;> omega
 have hlo:∀ b,(zQI (zUa pin off ins) b).live=true→∃ b',b=shp pin off b'∧(zQI ins b').live=true:=fun b hl=>by
  rcases zG6 (off:=off) hp b with ⟨b',rfl⟩ | e
  ·refine ⟨b',rfl,?_⟩
   rw [zVU hp,Bx.ren_live] at hl
   exact hl
  ·rw [e] at hl; cases hl
 obtain ⟨ι2,hι,hpin⟩:∃ ι2:zQA,(∀ b,ι2 (shp pin off b)=ι b)∧∀ b,b < pin→ι2 b=ι b:=by
  refine ⟨fun b=>if b < pin then ι b else ι (b - off),fun b=>?_,fun b hb=>by simp only; rw [if_pos hb]⟩
  unfold shp
  by_cases h:b < pin
  ·simp only [if_pos h]
  ·simp only [if_neg h]; rw [if_neg (by omega),Nat.add_sub_cancel]
 have hturn:∀ b,zW2 ι (zQI ins) ι2 (zQI (zUa pin off ins)) (shp pin off) b:=fun b hk=>⟨hι b,by
  rw [zVU hp,Bx.ren_known]; exact hk⟩
 have hown:OwnB (zQI (zUa pin off ins)) ι2=OwnB (zQI ins) ι:=by
  funext g
  refine propext ⟨fun ⟨b,c,hl,e⟩=>?_,fun ⟨b,c,hl,e⟩=>?_⟩
  ·obtain ⟨b',rfl,hl'⟩:=hlo b hl
   exact ⟨b',c,hl',by rw [← hι b']; exact e⟩
  ·exact ⟨shp pin off b,c,by rw [zVU hp,Bx.ren_live]; exact hl,by rw [hι]; exact e⟩
 have hh2:zJL w S ι2 (AV.renL (shp pin off) args) (zUa pin off ins) vs.toList:=by
  refine ⟨fun b g c hl e=>?_,fun b b2 g c c' hl hl2 hne e=>?_,fun b=>?_,hh.args.turn fun b _=>hturn b⟩
  ·obtain ⟨b',rfl,hl'⟩:=hlo b hl
   exact hh.own b' g c hl' (by rw [← hι b']; exact e)
  ·obtain ⟨b',rfl,hl'⟩:=hlo b hl
   obtain ⟨b2',rfl,hl2'⟩:=hlo b2 hl2
   have:=hh.dist b' b2' g c c' hl' hl2' (fun e=>hne (by rw [e])) (by rw [← hι b']; exact e)
   rw [← hι b2'] at this
   exact this
  ·rcases zG6 (off:=off) hp b with ⟨b',rfl⟩ | e
   ·rw [zVU hp]
    exact (hh.bx b').turn (hι b') fun x _=>hturn x
   ·rw [e]; trivial
 have hc:=h w S _ vs hg hh2
 refine hc.mono fun ed w' hp=>?_
 obtain ⟨v,ι',rfl,ha⟩:=hp
 have hb:zJc w S ι2 (zUa pin off ins) r ι'=zJc w S ι ins r ι':=by
  unfold zJc
  rw [hown]
 refine ⟨v,ι',rfl,?_,?_,?_,ha.dist,fun b hb=>(ha.pin b hb).trans (hpin b hb),?_⟩
 ·rw [← hb]; exact ha.rep
 ·rw [← hb]; exact ha.bx
 ·rw [← hown]; exact ha.own
 ·rw [← hown]; exact ha.bel
end Go.Proofs.YtheidkkebdhmkaaGreatDoor
