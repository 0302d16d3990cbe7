/-
  Part 3 of what BoundsOutsideNothingHappens rests on.
-/
import Derived.Test.YthjaljiamllaeaaGreatDoorBoundsOutsideNothingHappensZ2
import Derived.RangeFuncCalls
import Derived.RegionIn
import Derived.Lib.Mul64
namespace Go.Proofs.YthjaljiamllaeaaGreatDoor
open Go.RowKit
set_option linter.unusedVariables false
set_option linter.unusedSimpArgs false
set_option maxRecDepth 20000
open Go.Proofs.Tryz (prog)
section
attribute [local irreducible] Ans AnsO AnsG AnsN AnsI
theorem jJm (e n:Nat) (b:Bool) (l:List Int):zQn ⟨.tup [.one (.ref 0 n),.one (.d (.bool b))],[.row e 1 (is l)],true⟩=True:=by
 simp only [zQn,AV.flatV,AV.flatVL,Cl.flatV,DV.flat,Bx.flatVL,Bx.flatV,true_and,and_true,eq_iff_iff,iff_true]
 intro d hd
 obtain ⟨i,_,rfl⟩:=List.mem_map.1 hd
 rfl
def gZ8 (xs:List RV):Option RV:=match xs with | []=>some (RV.tup [RV.tup [rJ 3,rJ 1]]) | [.d (.sl n xs),.d (.int _ m)]=>some (RV.d (dS (zYL (ints xs) m).length (is (zYL (ints xs) m)))) | _=>none
def gZ9 (xs:List AV) (bs:List Bx):Option Ret:=match xs,bs with | [AV.one (Cl.d (DV.sl n xs)),AV.one (Cl.d (DV.int _ m))],[]=>some ⟨AV.tup [AV.one (Cl.ref 0 (zX1 (ints xs) m).length),AV.one (Cl.d (dQ (zZv (ints xs) m)))],[Bx.row 3 1 (is (zX1 (ints xs) m))],true⟩ | _,_=>none
def gamO:Gam where
 pure:=fun f xs=>
  if f=9 then gZ0 xs else
  if f=33 then (match xs with | [.d (.sl n xs),.d (.int _ i)]=>some (rJ (atS (ints xs) i)) | _=>none) else
  if f=18 then gZ8 xs else
  none
 modes:=fun f=>
  if f=68 then some ([true,true],0,1) else
  none
 proc:=fun f xs bs=>
  if f=68 then gZ9 xs bs else
  none
 iter:=fun f cs=>
  none
theorem jJz (n:Nat) (xs:List DV) (i:Int) (hx:xs=is (ints xs)∧n=xs.length):Ans prog 33 [RV.d (dS n xs),rJ (i)] (rJ ((atS (ints xs) i))):=
 zQa (Γ:=gamO) Ann.leaf zQg Tryz.func33 rfl (nL rfl) fun hwf=>by
  refine Eq.mpr (by kernel_rfl:_=(let a:=(dJ (atS (ints xs) i)); let b:=(dJ (nAt xs (i.toNat*1))); tU4 (((decide (i < 0))=false→tU5 (((decide (i≥(n:Int)))=true→True∧rJ 0=RV.d a)∧((decide (i≥(n:Int)))=false→tU2 ((0≤i∧i < (n:Int)∧i.toNat*1 < xs.length)∧((xs[i.toNat*1]?=some b)∧True)∧True∧RV.d b=RV.d a))))∧((decide (i < 0))=(!false)→tU2 (rJ 0=RV.d a))))) ?_
  delta dJ rJ
  simp only [sS,zQs]
  obtain ⟨hx,rfl⟩:=hx
  generalize hl:ints xs=l at *
  subst hx
  simp only [zQN,Nat.mul_one]
  refine ⟨fun h1=>⟨fun h2=>?_,fun h2=>?_⟩,fun h1=>by simp [atS,h1]⟩
  ·have:l[i.toNat]?=none:=List.getElem?_eq_none (by omega)
   simp [atS,h1,this]
  ·have h:i.toNat < l.length:=by omega
   refine ⟨by omega,?_,?_⟩
   ·rw [zWR h]; exact jQW h
   ·rw [zWR h]; simp [atS,h1,List.getElem?_eq_getElem h]
theorem zVB (n:Nat) (xs:List DV) (m:Int) (hx:xs=is (ints xs)∧n=xs.length) (hm:0≤m):AnsO prog 18 [RV.d (dS n xs),rJ (m)] 3 1 ((zYL (ints xs) m).length) (is (zYL (ints xs) m)):=
 zKg (t:=4) (Γ:=gamO) (let a:=(0,AV.one (Cl.d (dS n xs))); let b:=(1,aJ m); (Ann.seq Ann.leaf (Ann.seq Ann.leaf (Ann.seq Ann.leaf (Ann.seq (Ann.seq Ann.leaf (Ann.loop ⟨Nat,fun k=>k≤m.toNat,fun k=>⟨[a,b,(5,AV.one (Cl.ref 1005 m.toNat)),(6,aJ (k:Int))],[(1005,Bx.row 3 1 (is (upto k)++List.replicate (m.toNat - k) (dJ 0)))]⟩,fun k=>m.toNat - k⟩ fun k=>Ann.leaf)) (Ann.seq Ann.leaf (Ann.seq (Ann.seq Ann.leaf (Ann.loop ⟨Nat,fun j=>j≤m.toNat,fun j=>⟨[a,b,(5,AV.one (Cl.d (dS (m.toNat - j) (is (stp (ints xs) m.toNat j).1)))),(7,AV.one (Cl.ref 1007 j)),(8,aJ (j:Int))],[(1007,Bx.row 3 1 (is (stp (ints xs) m.toNat j).2))]⟩,fun j=>m.toNat - j⟩ fun j=>Ann.leaf)) Ann.leaf))))))) zQg Tryz.func18 rfl (nL rfl) rfl fun hwf=>by
  refine Eq.mpr (by kernel_rfl:_=(let t:=((0:Int).toNat*1); let f:=(dS n xs=dS n xs); let b:=(zYL (ints xs) m); let g:=(dJ m=dJ m); tU5 ((((n:Int)==0)=false→tU3 (((decide (m > 64))=true→True∧b.length=0∧is b=[])∧((decide (m > 64))=false→True∧(0≤m∧m≤m∧m≤(maxLen:Int)∧((8:Nat):Int)*m≤281474976710656)∧tU2 ((∃ k:Nat,(k≤m.toNat)∧((f∧g∧(m.toNat=m.toNat)∧(dJ 0=dJ (k:Int))∧True)∧((List.replicate m.toNat (dJ 0)=is (upto k)++List.replicate (m.toNat - k) (dJ 0))∧True)))∧∀ k:Nat,let o:=(is (upto k)++List.replicate (m.toNat - k) (dJ 0)); (k≤m.toNat)→tU3 (((decide ((k:Int) < m))=true→tU3 ((0≤(k:Int)∧(k:Int) < (m.toNat:Int))∧((k:Int).toNat*1+1≤o.length)∧tU3 (∃ k':Nat,(k'≤m.toNat)∧(m.toNat - k' < m.toNat - k)∧((f∧g∧(m.toNat=m.toNat)∧(dJ (wK ((k:Int)+1))=dJ (k':Int))∧True)∧((List.set o ((k:Int).toNat*1) (dJ (k:Int))=is (upto k')++List.replicate (m.toNat - k') (dJ 0))∧True)))))∧((decide ((k:Int) < m))=false→tU2 ((∃ j:Nat,(j≤m.toNat)∧((f∧g∧(dS m.toNat o=dS (m.toNat - j) (is (stp (ints xs) m.toNat j).1))∧(0=j)∧(dJ 0=dJ (j:Int))∧True)∧(([]=is (stp (ints xs) m.toNat j).2)∧True)))∧∀ j:Nat,let h:=(stp (ints xs) m.toNat j); let d:=(is h.1); let c:=(atS (ints xs) (j:Int)); let a:=(((m.toNat - j):Nat):Int); let i:=(modS c a - 0); let p:=(List.take (i.toNat*1) (List.drop t d)); let e:=(modS c a); let l:=(e+1); let q:=(a - wK l); let r:=(nAt d (e.toNat*1)); let s:=(List.take (q.toNat*1) (List.drop ((wK l).toNat*1) d)); (j≤m.toNat)→tU3 (((decide (a > 0))=true→tU2 ((Ans prog 33 [RV.d (dS n xs),rJ (j:Int)] (rJ c))∧tU2 ((Ans prog 9 [rJ c,rJ a] (rJ e))∧tU4 ((0≤modS c a∧modS c a < a∧e.toNat*1 < d.length)∧((d[e.toNat*1]?=some (dJ r))∧True)∧True∧(zZe 1 8 j 1 (is h.2) ([dJ r]))∧tU3 ((0≤(0:Int)∧(0:Int)≤modS c a∧modS c a≤a)∧(zZe 1 8 0 i.toNat ([]) p)∧tU3 ((0≤wK l∧wK l≤a∧a≤a)∧(zZe 1 8 i.toNat q.toNat p s)∧True∧(true=true)∧tU3 (∃ j':Nat,(j'≤m.toNat)∧(m.toNat - j' < m.toNat - j)∧((f∧g∧(dS (i.toNat+q.toNat) (p++s)=dS (m.toNat - j') (is (stp (ints xs) m.toNat j').1))∧(j+1=j')∧(dJ (wK ((j:Int)+1))=dJ (j':Int))∧True)∧(((is h.2)++([dJ r])=is (stp (ints xs) m.toNat j').2)∧True)))))))))∧((decide (a > 0))=false→tU2 ((3=3∧1=1)∧(is b).length=b.length*1∧j=b.length∧is h.2=is b))))))))))∧(((n:Int)==0)=(!false)→tU2 (b.length=0∧is b=[]))))) ?_
  delta dJ wK dS rJ
  simp only [sS,zQs]
  obtain ⟨hx,rfl⟩:=hx
  generalize hl:ints xs=l at *
  subst hx
  have z0:l.length=0→zYL l m=[]:=fun h=>by simp [zYL,h]
  have z1:64 < m→zYL l m=[]:=fun h=>by simp [zYL,h]
  refine ⟨fun hne=>⟨fun hbig=>by rw [z1 hbig]; exact ⟨rfl,rfl⟩,fun hsm=>?_⟩,fun he=>by rw [z0 (by simpa [zQN] using he)]; exact ⟨rfl,rfl⟩⟩
  have hll:l.length≠0:=by simpa [zQN] using hne
  have hp:zYL l m=(stp l m.toNat m.toNat).2:=by unfold zYL; rw [if_neg (by omega)]
  obtain ⟨N,rfl⟩:∃ N:Nat,m=(N:Int):=⟨m.toNat,by omega⟩
  rw [hp]
  simp only [Int.toNat_natCast,Nat.mul_one,maxLen]
  have hN:N≤64:=by omega
  have wr:∀ n:Int,-1000000≤n→n≤1000000→IntKind.wrap .i64 n=n:=fun n h h'=>by rw [IntKind.wrap_i64]; omega
  refine ⟨by omega,⟨0,Nat.zero_le _,rfl,by simp [upto,is]⟩,fun k hk=>⟨fun hlt=>?_,fun hge=>⟨⟨0,Nat.zero_le _,⟨⟨rfl,?_⟩,rfl,rfl⟩,rfl⟩,fun j hj=>⟨fun hlt=>?_,fun hge=>?_⟩⟩⟩⟩
  ·refine ⟨by omega,by rw [List.length_append,zQN,zKG,List.length_replicate]; omega,k+1,by omega,by omega,by rw [wr _ (by omega) (by omega)]; omega,jYv (by omega)⟩
  ·have:k=N:=by omega
   subst this
   simp [stp]
  ·obtain ⟨h1,h2⟩:=zWi l hN j (by omega)
   have hK:=jQR (v:=atS l j) (m:=(stp l N j).1.length) (by omega) (by omega)
   have e1:(stp l N (j+1)).1=(stp l N j).1.take (modS (atS l j) (stp l N j).1.length).toNat++(stp l N j).1.drop ((modS (atS l j) (stp l N j).1.length).toNat+1):=rfl
   have e2:(stp l N (j+1)).2=(stp l N j).2++[((stp l N j).1[(modS (atS l j) (stp l N j).1.length).toNat]?).getD 0]:=rfl
   have ha:=jJz l.length (is l) (j:Int) ⟨by rw [zZ8],by rw [zQN]⟩
   rw [zZ8] at ha
   generalize (stp l N j).1=r at *
   generalize (stp l N j).2=o at *
   subst h2
   rw [h1] at hK e1 e2
   generalize hg:modS (atS l (o.length:Int)) ((N - o.length:Nat):Int)=g at *
   obtain ⟨K,rfl⟩:∃ K:Nat,g=(K:Int):=⟨g.toNat,by omega⟩
   simp only [Int.toNat_natCast] at hK e1 e2 ⊢
   have w1:IntKind.wrap .i64 ((K:Int)+1)=((K+1:Nat):Int):=by rw [wr _ (by omega) (by omega)]; omega
   have t1:((K:Int) - 0).toNat=K:=by omega
   have t2:(((N - o.length:Nat):Int) - ((K+1:Nat):Int)).toNat=N - o.length - (K+1):=by omega
   have t3:Int.toNat 0=0:=rfl
   have hKr:K < r.length:=by omega
   have d1:List.take (N - o.length - (K+1)) (List.drop (K+1) (is r))=is (r.drop (K+1)):=by rw [jKj,List.take_of_length_le (by rw [zQN,List.length_drop]; omega)]
   simp only [w1,t1,t2,t3,Int.toNat_natCast,List.drop_zero,d1,jKi,zQN,zZe,Nat.mul_one,zJz,zWR hKr,List.getElem?_eq_getElem hKr,Option.getD_some,maxLen] at e2 ⊢
   refine ⟨ha,⟨by omega,by omega,hKr⟩,jQW hKr,⟨trivial,rfl,by omega,by omega⟩,by omega,⟨rfl,?_,by omega,by omega⟩,by omega,⟨?_,?_,by omega,by omega⟩,o.length+1,by omega,by omega,⟨⟨by omega,by rw [e1]⟩,rfl,by rw [wr _ (by omega) (by omega)]; omega⟩,by rw [e2,← zJz]; rfl⟩
   all_goals simp
   all_goals omega
  ·have:j=N:=by omega
   subst this
   have h2:=(zWi l hN j (Nat.le_refl _)).2
   rw [zQN,h2]
   exact ⟨rfl,rfl,rfl⟩
theorem zUq (n:Nat) (xs:List DV) (m:Int) (hx:xs=is (ints xs)∧n=xs.length):AnsG prog 68 0 [AV.one (Cl.d (dS n xs)),aJ ((m))] [] ⟨AV.tup [AV.one (Cl.ref 0 ((zX1 (ints xs) m).length)),AV.one (Cl.d (dQ (zZv (ints xs) m)))],[Bx.row 3 1 (is (zX1 (ints xs) m))],true⟩:=
 zQL (Γ:=gamO) (let a:=(seqL (ints xs) m); Ann.seq Ann.leaf (Ann.seq Ann.leaf (Ann.seq Ann.leaf (Ann.seq Ann.leaf (Ann.seq (Ann.seq Ann.leaf (Ann.loop ⟨Nat,fun k=>k≤m.toNat∧zY9 (a.take k) m,fun k=>⟨[(0,AV.one (Cl.d (dS n xs))),(1,aJ m),(6,AV.one (Cl.ref 1006 m.toNat)),(7,AV.one (Cl.ref 1007 m.toNat)),(31,aJ (m.toNat:Int)),(32,aJ (k:Int))],[(1006,Bx.row 3 1 (zXb a k)),(1007,Bx.row 4 1 (zXw (a.take k) m.toNat))]⟩,fun k=>m.toNat - k⟩ fun k=>Ann.leaf)) Ann.leaf))))) zQg Tryz.func68 rfl (nL rfl) rfl fun hwf hbx=>by
  refine Eq.mpr (by kernel_rfl:_=(let E:=(dS n xs=dS n xs); let F:=(zZv (ints xs) m); let v:=(decide ((n:Int) > 0)); let u:=(m.toNat=m.toNat); let q:=(m.toNat:Int); let r:=(zX1 (ints xs) m); let Q:=(((m.toNat=r.length)∧(dQ true=dQ F)∧True)∧True); let c:=[Bx.row 3 1 (is r)]; let d:=[AV.one (Cl.ref 0 r.length),AV.one (Cl.d (dQ F))]; let a:=(seqL (ints xs) m); let e:=((((0=r.length)∧(dQ false=dQ F)∧True)∧True)∧(([]=is r)∧True)); let R:=(0≤m∧m≤m∧m≤(maxLen:Int)∧((8:Nat):Int)*m≤281474976710656); let S:=(0≤m∧m≤m∧m≤(maxLen:Int)∧((1:Nat):Int)*m≤281474976710656); let w:=fun (k:Nat)=>(k≤m.toNat∧zY9 (a.take k) m); let G:=(dJ m=dJ m); let H:=(dJ q=dJ q); let b:=fun (k:Nat)=>(0≤(k:Int)∧(k:Int) < q); let f:=fun (k:Nat)=>(((List.set (List.set (zXb a k) ((k:Int).toNat*1) (dJ (k:Int))) ((k:Int).toNat*1) (dJ (nAt xs ((k:Int).toNat*1))))[(k:Int).toNat*1]?=some (dJ (nAt (List.set (List.set (zXb a k) ((k:Int).toNat*1) (dJ (k:Int))) ((k:Int).toNat*1) (dJ (nAt xs ((k:Int).toNat*1)))) ((k:Int).toNat*1))))∧True); let x:=fun (k:Nat)=>(0≤nAt (List.set (List.set (zXb a k) ((k:Int).toNat*1) (dJ (k:Int))) ((k:Int).toNat*1) (dJ (nAt xs ((k:Int).toNat*1)))) ((k:Int).toNat*1)∧nAt (List.set (List.set (zXb a k) ((k:Int).toNat*1) (dJ (k:Int))) ((k:Int).toNat*1) (dJ (nAt xs ((k:Int).toNat*1)))) ((k:Int).toNat*1) < q); let y:=fun (k':Nat)=>(k'≤m.toNat∧zY9 (a.take k') m); let z:=fun (k:Nat)=>fun (k':Nat)=>(m.toNat - k' < m.toNat - k); let A:=fun (k:Nat)=>fun (k':Nat)=>(E∧G∧u∧u∧H∧(dJ (wK ((k:Int)+1))=dJ (k':Int))∧True); let g:=fun (k:Nat)=>(((List.set (zXb a k) ((k:Int).toNat*1) (dJ (k:Int)))[(k:Int).toNat*1]?=some (dJ (nAt (List.set (zXb a k) ((k:Int).toNat*1) (dJ (k:Int))) ((k:Int).toNat*1))))∧True); let B:=fun (k:Nat)=>(0≤nAt (List.set (zXb a k) ((k:Int).toNat*1) (dJ (k:Int))) ((k:Int).toNat*1)∧nAt (List.set (zXb a k) ((k:Int).toNat*1) (dJ (k:Int))) ((k:Int).toNat*1) < q); tU5 (((decide (m < 0))=false→tU4 (((decide (m > 16777216))=false→tU4 ((((n:Int) != 0)=true→tU6 ((((n:Int) != m)=true→tU2 (e∧zQn ⟨AV.tup d,c,true⟩))∧(((n:Int) != m)=false→True∧R∧tU2 (S∧tU2 ((m.toNat≤maxLen)∧True∧((∃ k:Nat,(w k)∧((E∧G∧u∧u∧H∧(dJ 0=dJ (k:Int))∧True)∧((List.replicate m.toNat (dJ 0)=zXb a k)∧(List.replicate m.toNat (dQ false)=zXw (a.take k) m.toNat)∧True)))∧∀ k:Nat,let T:=(decide ((k:Int) < q)); let I:=(zXb a k); let s:=((k:Int).toNat*1); let J:=(dJ (nAt xs s)); let C:=(List.set I s (dJ (k:Int))); let h:=(zXw (a.take k) m.toNat); let i:=(nAt C s); let K:=(bAt h (i.toNat*1)); let j:=(nAt (List.set C s J) s); let L:=(bAt h (j.toNat*1)); (w k)→True∧((T=true→tU5 ((b k)∧((k:Int).toNat*1+1≤I.length)∧tU3 ((v=true→tU4 ((0≤(k:Int)∧(k:Int) < (n:Int)∧(k:Int).toNat*1 < xs.length)∧((xs[(k:Int).toNat*1]?=some J)∧True)∧(b k)∧((k:Int).toNat*1+1≤C.length)∧tU2 ((b k)∧(f k)∧tU2 (((decide (j < 0))=false→tU2 ((b k)∧(f k)∧tU4 (((decide (j≥m))=false→tU3 ((b k)∧(f k)∧(x k)∧((h[j.toNat*1]?=some (dQ L))∧True)∧True∧((L=true→tU2 (e∧zQn ⟨AV.tup d,c,true⟩))∧(L=false→tU3 ((b k)∧(f k)∧(x k)∧(j.toNat*1+1≤h.length)∧tU2 (∃ k':Nat,(y k')∧(z k k')∧((A k k')∧((List.set C s J=zXb a k')∧(List.set h (j.toNat*1) (dQ true)=zXw (a.take k') m.toNat)∧True))))))))∧((decide (j≥m))=(!false)→tU3 (e∧zQn ⟨AV.tup d,c,true⟩)))))∧((decide (j < 0))=(!false)→tU5 (e∧zQn ⟨AV.tup d,c,true⟩))))))∧(v=false→tU2 ((b k)∧(g k)∧tU2 (((decide (i < 0))=false→tU2 ((b k)∧(g k)∧tU4 (((decide (i≥m))=false→tU3 ((b k)∧(g k)∧(B k)∧((h[i.toNat*1]?=some (dQ K))∧True)∧True∧((K=true→tU2 (e∧zQn ⟨AV.tup d,c,true⟩))∧(K=false→tU3 ((b k)∧(g k)∧(B k)∧(i.toNat*1+1≤h.length)∧tU2 (∃ k':Nat,(y k')∧(z k k')∧((A k k')∧((List.set I s (dJ (k:Int))=zXb a k')∧(List.set h (i.toNat*1) (dQ true)=zXw (a.take k') m.toNat)∧True))))))))∧((decide (i≥m))=(!false)→tU3 (e∧zQn ⟨AV.tup d,c,true⟩)))))∧((decide (i < 0))=(!false)→tU5 (e∧zQn ⟨AV.tup d,c,true⟩))))))))∧(T=false→tU3 ((Q∧((zXb a k=is r)∧True))∧zQn ⟨AV.tup d,c,true⟩)))))))))∧(((n:Int) != 0)=(!true)→tU3 (R∧tU2 (S∧tU2 ((m.toNat≤maxLen)∧True∧((∃ k:Nat,(w k)∧((E∧G∧u∧u∧H∧(dJ 0=dJ (k:Int))∧True)∧((List.replicate m.toNat (dJ 0)=zXb a k)∧(List.replicate m.toNat (dQ false)=zXw (a.take k) m.toNat)∧True)))∧∀ k:Nat,let U:=(decide ((k:Int) < q)); let M:=(zXb a k); let t:=((k:Int).toNat*1); let N:=(dJ (nAt xs t)); let D:=(List.set M t (dJ (k:Int))); let l:=(zXw (a.take k) m.toNat); let o:=(nAt D t); let O:=(bAt l (o.toNat*1)); let p:=(nAt (List.set D t N) t); let P:=(bAt l (p.toNat*1)); (w k)→True∧((U=true→tU5 ((b k)∧((k:Int).toNat*1+1≤M.length)∧tU3 ((v=true→tU4 ((0≤(k:Int)∧(k:Int) < (n:Int)∧(k:Int).toNat*1 < xs.length)∧((xs[(k:Int).toNat*1]?=some N)∧True)∧(b k)∧((k:Int).toNat*1+1≤D.length)∧tU2 ((b k)∧(f k)∧tU2 (((decide (p < 0))=false→tU2 ((b k)∧(f k)∧tU4 (((decide (p≥m))=false→tU3 ((b k)∧(f k)∧(x k)∧((l[p.toNat*1]?=some (dQ P))∧True)∧True∧((P=true→tU2 (e∧zQn ⟨AV.tup d,c,true⟩))∧(P=false→tU3 ((b k)∧(f k)∧(x k)∧(p.toNat*1+1≤l.length)∧tU2 (∃ k':Nat,(y k')∧(z k k')∧((A k k')∧((List.set D t N=zXb a k')∧(List.set l (p.toNat*1) (dQ true)=zXw (a.take k') m.toNat)∧True))))))))∧((decide (p≥m))=(!false)→tU3 (e∧zQn ⟨AV.tup d,c,true⟩)))))∧((decide (p < 0))=(!false)→tU5 (e∧zQn ⟨AV.tup d,c,true⟩))))))∧(v=false→tU2 ((b k)∧(g k)∧tU2 (((decide (o < 0))=false→tU2 ((b k)∧(g k)∧tU4 (((decide (o≥m))=false→tU3 ((b k)∧(g k)∧(B k)∧((l[o.toNat*1]?=some (dQ O))∧True)∧True∧((O=true→tU2 (e∧zQn ⟨AV.tup d,c,true⟩))∧(O=false→tU3 ((b k)∧(g k)∧(B k)∧(o.toNat*1+1≤l.length)∧tU2 (∃ k':Nat,(y k')∧(z k k')∧((A k k')∧((List.set M t (dJ (k:Int))=zXb a k')∧(List.set l (o.toNat*1) (dQ true)=zXw (a.take k') m.toNat)∧True))))))))∧((decide (o≥m))=(!false)→tU3 (e∧zQn ⟨AV.tup d,c,true⟩)))))∧((decide (o < 0))=(!false)→tU5 (e∧zQn ⟨AV.tup d,c,true⟩))))))))∧(U=false→tU3 ((Q∧((zXb a k=is r)∧True))∧zQn ⟨AV.tup d,c,true⟩))))))))))∧((decide (m > 16777216))=(!false)→tU3 (e∧zQn ⟨AV.tup d,c,true⟩))))∧((decide (m < 0))=(!false)→tU5 (e∧zQn ⟨AV.tup d,c,true⟩))))) ?_
  delta dJ dQ wK dS
  simp only [sS,zQs]
  obtain ⟨hx,rfl⟩:=hx
  generalize hl:ints xs=l at *
  subst hx
  simp only [zQN,jJm,and_true]
  refine ⟨fun h0=>⟨fun hM=>⟨fun hp=>⟨fun hne=>?_,fun he=>?_⟩,fun hz=>?_⟩,fun hM=>(by have e:=zHH (l:=l) (m:=m) (.inr (.inl (by omega))); rw [e.1,e.2]; exact ⟨⟨rfl,rfl⟩,rfl⟩)⟩,fun h0=>(by have e:=zHH (l:=l) (m:=m) (.inl (by omega)); rw [e.1,e.2]; exact ⟨⟨rfl,rfl⟩,rfl⟩)⟩
  ·have e:=zHH (l:=l) (m:=m) (.inr (.inr (.inl ⟨by simpa using hp,by simpa using hne⟩)))
   rw [e.1,e.2]; exact ⟨⟨rfl,rfl⟩,rfl⟩
  ·have hl:l.length=0∨(l.length:Int)=m:=.inr (by simpa using he)
   have hp':l.length≠0:=by simpa using hp
   have hS:=jZi hl
   refine ⟨⟨by omega,by omega,by unfold maxLen; omega,by omega⟩,⟨by omega,by omega,by unfold maxLen; omega,by omega⟩,by unfold maxLen; omega,⟨0,⟨by omega,by simp [zY9]⟩,rfl,by simp [zXb,hS,is],by simp [zXw,List.map_const']⟩,fun k hk=>⟨fun hlt=>?_,fun hge=>?_⟩⟩
   ·have hkS:k < (seqL l m).length:=by omega
    have hkl:k < l.length:=by omega
    have hv0:nAt (is l) k=(seqL l m)[k]:=by
     rw [zWR hkl]
     simp [seqL,show l≠[] by intro e; subst e; simp at hkl]
    have hi:(is l)[k]?=some (.int .i64 (seqL l m)[k]):=by rw [jQW hkl,← zWR hkl,hv0]
    have hv:(seqL l m)[k]=(seqL l m)[k]:=rfl
    have f1:=zVc (Nat.le_of_lt hkS)
    have f2:=jQa hkS hv
    have f3:=zG3 hkS
    have f4:=jQb hkS
    have f5:=zVc (S:=seqL l m) (k:=k+1) (by omega)
    have r:=zHG (by omega) (by omega) hS hkS hk.2 rfl (Bad:=(0=(zX1 l m).length∧false=zZv l m)∧[]=is (zX1 l m)) (fun hb=>by have e:=zHH (l:=l) (m:=m) (.inr (.inr (.inr hb))); rw [e.1,e.2]; exact ⟨⟨rfl,rfl⟩,rfl⟩)
    simp only [Nat.mul_one,List.set_set,List.length_set,f1,f2,f3,f4,f5,hv0,hi] at r ⊢
    refine ⟨by omega,by omega,fun _=>⟨by omega,trivial,by omega,by omega,by omega,trivial,fun a=>⟨by omega,trivial,fun b=>?_,(r.1 a).2⟩,r.2⟩,fun hz=>absurd (by omega) hz⟩
    obtain ⟨r1,r2,r3,r4⟩:=(r.1 a).1 b
    refine ⟨by omega,trivial,r1,r2,r3,fun c=>?_⟩
    obtain ⟨s1,s2,_,k',s3,s4,⟨rfl,s6⟩,s7,_⟩:=r4 c
    exact ⟨by omega,trivial,s1,s2,k+1,s3,s4,s6,rfl,s7⟩
   ·have hkm:k=(seqL l m).length:=by omega
    have hg:=hk.2
    rw [List.take_of_length_le (by omega)] at hg
    have e:=zGC (by omega) (by omega) hl hg
    rw [e.1,e.2]
    exact ⟨⟨by omega,rfl⟩,by rw [hkm,jQc]⟩
  ·have hl:l.length=0∨(l.length:Int)=m:=.inl (by simpa using hz)
   have hz':l.length=0:=by simpa using hz
   have hS:=jZi hl
   refine ⟨⟨by omega,by omega,by unfold maxLen; omega,by omega⟩,⟨by omega,by omega,by unfold maxLen; omega,by omega⟩,by unfold maxLen; omega,⟨0,⟨by omega,by simp [zY9]⟩,rfl,by simp [zXb,hS,is],by simp [zXw,List.map_const']⟩,fun k hk=>⟨fun hlt=>?_,fun hge=>?_⟩⟩
   ·have hkS:k < (seqL l m).length:=by omega
    have hv:(k:Int)=(seqL l m)[k]:=by
     simp [seqL,show l=[] by exact List.eq_nil_of_length_eq_zero hz',upto]
    have f1:=zVc (Nat.le_of_lt hkS)
    have f2:=jQa hkS hv
    have f3:=zG3 hkS
    have f4:=jQb hkS
    have f5:=zVc (S:=seqL l m) (k:=k+1) (by omega)
    have r:=zHG (by omega) (by omega) hS hkS hk.2 rfl (Bad:=(0=(zX1 l m).length∧false=zZv l m)∧[]=is (zX1 l m)) (fun hb=>by have e:=zHH (l:=l) (m:=m) (.inr (.inr (.inr hb))); rw [e.1,e.2]; exact ⟨⟨rfl,rfl⟩,rfl⟩)
    simp only [Nat.mul_one,List.set_set,List.length_set,f1,f2,f3,f4,f5] at r ⊢
    refine ⟨by omega,by omega,fun hp=>absurd hp (by omega),fun _=>⟨by omega,trivial,fun a=>⟨by omega,trivial,fun b=>?_,(r.1 a).2⟩,r.2⟩⟩
    obtain ⟨r1,r2,r3,r4⟩:=(r.1 a).1 b
    refine ⟨by omega,trivial,r1,r2,r3,fun c=>?_⟩
    obtain ⟨s1,s2,_,k',s3,s4,⟨rfl,s6⟩,s7,_⟩:=r4 c
    exact ⟨by omega,trivial,s1,s2,k+1,s3,s4,s6,rfl,s7⟩
   ·have hkm:k=(seqL l m).length:=by omega
    have hg:=hk.2
    rw [List.take_of_length_le (by omega)] at hg
    have e:=zGC (by omega) (by omega) hl hg
    rw [e.1,e.2]
    exact ⟨⟨by omega,rfl⟩,by rw [hkm,jQc]⟩
def cntS (r:Rc) (w h:Int):Int × Int × Bool:=
 if r.empty then (0,0,false)
 else if w < 1∨IntKind.wrap .i64 (r.c - r.a) < w∨h < 1∨IntKind.wrap .i64 (r.d - r.b) < h then (0,0,false)
 else (IntKind.wrap .i64 (Int.tdiv (IntKind.wrap .i64 (IntKind.wrap .i64 (IntKind.wrap .i64 (r.c - r.a)+w) - 1)) w),IntKind.wrap .i64 (Int.tdiv (IntKind.wrap .i64 (IntKind.wrap .i64 (IntKind.wrap .i64 (r.d - r.b)+h) - 1)) h),true)
def gZ10 (xs:List RV):Option RV:=match xs with | [.agg [.int _ a,.int _ b,.int _ c,.int _ d],.d (.int _ w),.d (.int _ h)]=>some (RV.tup [rJ (cntS ⟨a,b,c,d⟩ w h).1,rJ (cntS ⟨a,b,c,d⟩ w h).2.1,RV.d (dQ (cntS ⟨a,b,c,d⟩ w h).2.2)]) | _=>none
def gamW:Gam where
 pure:=fun f xs=>
  if f=30 then gZ2 xs else
  if f=67 then gZ10 xs else
  none
 modes:=fun f=>
  none
 proc:=fun f xs bs=>
  none
 iter:=fun f cs=>
  none
theorem zUr (a b c d w h:Int):Ans prog 67 [RV.agg [dJ a,dJ b,dJ c,dJ d],rJ (w),rJ (h)] (RV.tup [rJ (((cntS ⟨a,b,c,d⟩ w h).1)),rJ (((cntS ⟨a,b,c,d⟩ w h).2.1)),RV.d (dQ ((cntS ⟨a,b,c,d⟩ w h).2.2))]):=
 zQa (Γ:=gamW) Ann.leaf zQg Tryz.func67 rfl (nL rfl) fun hwf=>by
  refine Eq.mpr (by kernel_rfl:_=(let g:=[rJ 0,rJ 0,RV.d (dQ false)]; let f:=[rJ (cntS ⟨a,b,c,d⟩ w h).1,rJ (cntS ⟨a,b,c,d⟩ w h).2.1,RV.d (dQ (cntS ⟨a,b,c,d⟩ w h).2.2)]; let e:=(RV.tup g=RV.tup f); tU5 ((Ans prog 30 [RV.agg [dJ a,dJ b,dJ c,dJ d]] (RV.d (dQ (Rc.empty ⟨a,b,c,d⟩))))∧(((Rc.empty ⟨a,b,c,d⟩)=true→tU3 e)∧((Rc.empty ⟨a,b,c,d⟩)=false→tU4 (tU8 ((true=true)∧tU3 (((decide (w < 1))=false→tU5 (((decide (w > (wK (c - a))))=false→tU4 (((decide (h < 1))=false→tU4 (((decide (h > (wK (d - b))))=true→tU3 e)∧((decide (h > (wK (d - b))))=false→tU5 ((w≠0)∧tU5 ((h≠0)∧tU3 ((true=true)∧RV.tup [rJ (wK (Int.tdiv (wK ((wK ((wK (c - a))+w)) - 1)) w)),rJ (wK (Int.tdiv (wK ((wK ((wK (d - b))+h)) - 1)) h)),RV.d (dQ true)]=RV.tup f))))))∧((decide (h < 1))=(!false)→tU4 e)))∧((decide (w > (wK (c - a))))=(!false)→tU6 e)))∧((decide (w < 1))=(!false)→tU8 e))))))))) ?_
  delta dJ dQ wK rJ
  simp only [sS,zZo]
  unfold cntS
  cases he:Rc.empty ⟨a,b,c,d⟩ <;> by_cases h1:w < 1 <;> by_cases h2:IntKind.wrap .i64 (c - a) < w <;> by_cases h3:h < 1 <;> by_cases h4:IntKind.wrap .i64 (d - b) < h <;> simp [h1,h2,h3,h4] <;> omega
end
def Im.ds (m:Im):List DV:=[.int .i64 m.w,.int .i64 m.h,.bool m.so,.int .u16 m.c.a,.int .u16 m.c.b,.int .u16 m.c.c,.int .u16 m.c.al,.int .u16 m.c.f,.int .i64 m.p0.w,.int .i64 m.p0.h,.int .i64 m.p0.s,.sl m.p0.n m.p0.xs,.int .i64 m.p1.w,.int .i64 m.p1.h,.int .i64 m.p1.s,.sl m.p1.n m.p1.xs,.int .i64 m.p2.w,.int .i64 m.p2.h,.int .i64 m.p2.s,.sl m.p2.n m.p2.xs,.int .i64 m.p3.w,.int .i64 m.p3.h,.int .i64 m.p3.s,.sl m.p3.n m.p3.xs,.int .i64 m.p4.w,.int .i64 m.p4.h,.int .i64 m.p4.s,.sl m.p4.n m.p4.xs]
theorem Im.ds_len (m:Im):m.ds.length=28:=rfl
def ims (l:List Im):List DV:=l.flatMap Im.ds
theorem zJX (l:List Im):(ims l).length=l.length*28:=by
 induction l with
 | nil=>rfl
 | cons o l ih=>simp only [ims,List.flatMap_cons,List.length_append,List.length_cons] at ih ⊢; rw [ih,Im.ds_len]; omega
theorem jXa (l m:List Im):ims (l++m)=ims l++ims m:=by simp [ims]
theorem jJg (m:Im) (l:List Im):ims (m::l)=m.ds++ims l:=by simp [ims]
theorem jKo (m:Im):ims [m]=m.ds:=by simp [ims]
theorem jKp {l:List Im} {k:Nat} (h:k < l.length) (j:Nat) (hj:j < 28):(ims l)[k*28+j]?=l[k].ds[j]?:=by
 induction l generalizing k with
 | nil=>simp at h
 | cons o l ih=>
  rw [jJg]
  cases k with
  | zero=>simp only [List.getElem_cons_zero]; rw [List.getElem?_append_left (by rw [Im.ds_len]; omega)]; simp
  | succ k=>
   rw [List.getElem?_append_right (by rw [Im.ds_len]; omega)]
   have:=ih (k:=k) (by simpa using h)
   simp only [List.getElem_cons_succ]
   rw [← this]
   congr 1
   rw [Im.ds_len]; omega
theorem zHR {l:List Im} {k:Nat} (h:k < l.length):(ims l)[k*28]?=some (.int .i64 l[k].w)∧(ims l)[k*28+1]?=some (.int .i64 l[k].h)∧(ims l)[k*28+1+1]?=some (.bool l[k].so)∧(ims l)[k*28+1+1+1]?=some (.int .u16 l[k].c.a)∧(ims l)[k*28+1+1+1+1]?=some (.int .u16 l[k].c.b)∧(ims l)[k*28+1+1+1+1+1]?=some (.int .u16 l[k].c.c)∧(ims l)[k*28+1+1+1+1+1+1]?=some (.int .u16 l[k].c.al)∧(ims l)[k*28+1+1+1+1+1+1+1]?=some (.int .u16 l[k].c.f)∧(ims l)[k*28+1+1+1+1+1+1+1+1]?=some (.int .i64 l[k].p0.w)∧(ims l)[k*28+1+1+1+1+1+1+1+1+1]?=some (.int .i64 l[k].p0.h)∧(ims l)[k*28+1+1+1+1+1+1+1+1+1+1]?=some (.int .i64 l[k].p0.s)∧(ims l)[k*28+1+1+1+1+1+1+1+1+1+1+1]?=some (.sl l[k].p0.n l[k].p0.xs)∧(ims l)[k*28+1+1+1+1+1+1+1+1+1+1+1+1]?=some (.int .i64 l[k].p1.w)∧(ims l)[k*28+1+1+1+1+1+1+1+1+1+1+1+1+1]?=some (.int .i64 l[k].p1.h)∧(ims l)[k*28+1+1+1+1+1+1+1+1+1+1+1+1+1+1]?=some (.int .i64 l[k].p1.s)∧(ims l)[k*28+1+1+1+1+1+1+1+1+1+1+1+1+1+1+1]?=some (.sl l[k].p1.n l[k].p1.xs)∧(ims l)[k*28+1+1+1+1+1+1+1+1+1+1+1+1+1+1+1+1]?=some (.int .i64 l[k].p2.w)∧(ims l)[k*28+1+1+1+1+1+1+1+1+1+1+1+1+1+1+1+1+1]?=some (.int .i64 l[k].p2.h)∧(ims l)[k*28+1+1+1+1+1+1+1+1+1+1+1+1+1+1+1+1+1+1]?=some (.int .i64 l[k].p2.s)∧(ims l)[k*28+1+1+1+1+1+1+1+1+1+1+1+1+1+1+1+1+1+1+1]?=some (.sl l[k].p2.n l[k].p2.xs)∧(ims l)[k*28+1+1+1+1+1+1+1+1+1+1+1+1+1+1+1+1+1+1+1+1]?=some (.int .i64 l[k].p3.w)∧(ims l)[k*28+1+1+1+1+1+1+1+1+1+1+1+1+1+1+1+1+1+1+1+1+1]?=some (.int .i64 l[k].p3.h)∧(ims l)[k*28+1+1+1+1+1+1+1+1+1+1+1+1+1+1+1+1+1+1+1+1+1+1]?=some (.int .i64 l[k].p3.s)∧(ims l)[k*28+1+1+1+1+1+1+1+1+1+1+1+1+1+1+1+1+1+1+1+1+1+1+1]?=some (.sl l[k].p3.n l[k].p3.xs)∧(ims l)[k*28+1+1+1+1+1+1+1+1+1+1+1+1+1+1+1+1+1+1+1+1+1+1+1+1]?=some (.int .i64 l[k].p4.w)∧(ims l)[k*28+1+1+1+1+1+1+1+1+1+1+1+1+1+1+1+1+1+1+1+1+1+1+1+1+1]?=some (.int .i64 l[k].p4.h)∧(ims l)[k*28+1+1+1+1+1+1+1+1+1+1+1+1+1+1+1+1+1+1+1+1+1+1+1+1+1+1]?=some (.int .i64 l[k].p4.s)∧(ims l)[k*28+1+1+1+1+1+1+1+1+1+1+1+1+1+1+1+1+1+1+1+1+1+1+1+1+1+1+1]?=some (.sl l[k].p4.n l[k].p4.xs):=by
 have g:=fun j hj=>jKp h j hj
 exact ⟨g 0 (by omega),g 1 (by omega),g 2 (by omega),g 3 (by omega),g 4 (by omega),g 5 (by omega),g 6 (by omega),g 7 (by omega),g 8 (by omega),g 9 (by omega),g 10 (by omega),g 11 (by omega),g 12 (by omega),g 13 (by omega),g 14 (by omega),g 15 (by omega),g 16 (by omega),g 17 (by omega),g 18 (by omega),g 19 (by omega),g 20 (by omega),g 21 (by omega),g 22 (by omega),g 23 (by omega),g 24 (by omega),g 25 (by omega),g 26 (by omega),g 27 (by omega)⟩
theorem zHS {l:List Im} {k:Nat} (h:k < l.length):nAt (ims l) (k*28)=l[k].w∧nAt (ims l) (k*28+1)=l[k].h∧bAt (ims l) (k*28+1+1)=l[k].so∧nAt (ims l) (k*28+1+1+1)=l[k].c.a∧nAt (ims l) (k*28+1+1+1+1)=l[k].c.b∧nAt (ims l) (k*28+1+1+1+1+1)=l[k].c.c∧nAt (ims l) (k*28+1+1+1+1+1+1)=l[k].c.al∧nAt (ims l) (k*28+1+1+1+1+1+1+1)=l[k].c.f∧nAt (ims l) (k*28+1+1+1+1+1+1+1+1)=l[k].p0.w∧nAt (ims l) (k*28+1+1+1+1+1+1+1+1+1)=l[k].p0.h∧nAt (ims l) (k*28+1+1+1+1+1+1+1+1+1+1)=l[k].p0.s∧lAt (ims l) (k*28+1+1+1+1+1+1+1+1+1+1+1)=l[k].p0.n∧cAt (ims l) (k*28+1+1+1+1+1+1+1+1+1+1+1)=l[k].p0.xs∧nAt (ims l) (k*28+1+1+1+1+1+1+1+1+1+1+1+1)=l[k].p1.w∧nAt (ims l) (k*28+1+1+1+1+1+1+1+1+1+1+1+1+1)=l[k].p1.h∧nAt (ims l) (k*28+1+1+1+1+1+1+1+1+1+1+1+1+1+1)=l[k].p1.s∧lAt (ims l) (k*28+1+1+1+1+1+1+1+1+1+1+1+1+1+1+1)=l[k].p1.n∧cAt (ims l) (k*28+1+1+1+1+1+1+1+1+1+1+1+1+1+1+1)=l[k].p1.xs∧nAt (ims l) (k*28+1+1+1+1+1+1+1+1+1+1+1+1+1+1+1+1)=l[k].p2.w∧nAt (ims l) (k*28+1+1+1+1+1+1+1+1+1+1+1+1+1+1+1+1+1)=l[k].p2.h∧nAt (ims l) (k*28+1+1+1+1+1+1+1+1+1+1+1+1+1+1+1+1+1+1)=l[k].p2.s∧lAt (ims l) (k*28+1+1+1+1+1+1+1+1+1+1+1+1+1+1+1+1+1+1+1)=l[k].p2.n∧cAt (ims l) (k*28+1+1+1+1+1+1+1+1+1+1+1+1+1+1+1+1+1+1+1)=l[k].p2.xs∧nAt (ims l) (k*28+1+1+1+1+1+1+1+1+1+1+1+1+1+1+1+1+1+1+1+1)=l[k].p3.w∧nAt (ims l) (k*28+1+1+1+1+1+1+1+1+1+1+1+1+1+1+1+1+1+1+1+1+1)=l[k].p3.h∧nAt (ims l) (k*28+1+1+1+1+1+1+1+1+1+1+1+1+1+1+1+1+1+1+1+1+1+1)=l[k].p3.s∧lAt (ims l) (k*28+1+1+1+1+1+1+1+1+1+1+1+1+1+1+1+1+1+1+1+1+1+1+1)=l[k].p3.n∧cAt (ims l) (k*28+1+1+1+1+1+1+1+1+1+1+1+1+1+1+1+1+1+1+1+1+1+1+1)=l[k].p3.xs∧nAt (ims l) (k*28+1+1+1+1+1+1+1+1+1+1+1+1+1+1+1+1+1+1+1+1+1+1+1+1)=l[k].p4.w∧nAt (ims l) (k*28+1+1+1+1+1+1+1+1+1+1+1+1+1+1+1+1+1+1+1+1+1+1+1+1+1)=l[k].p4.h∧nAt (ims l) (k*28+1+1+1+1+1+1+1+1+1+1+1+1+1+1+1+1+1+1+1+1+1+1+1+1+1+1)=l[k].p4.s∧lAt (ims l) (k*28+1+1+1+1+1+1+1+1+1+1+1+1+1+1+1+1+1+1+1+1+1+1+1+1+1+1+1)=l[k].p4.n∧cAt (ims l) (k*28+1+1+1+1+1+1+1+1+1+1+1+1+1+1+1+1+1+1+1+1+1+1+1+1+1+1+1)=l[k].p4.xs:=by
 obtain ⟨e0,e1,e2,e3,e4,e5,e6,e7,e8,e9,e10,e11,e12,e13,e14,e15,e16,e17,e18,e19,e20,e21,e22,e23,e24,e25,e26,e27⟩:=zHR h
 simp only [nAt,bAt,lAt,cAt,e0,e1,e2,e3,e4,e5,e6,e7,e8,e9,e10,e11,e12,e13,e14,e15,e16,e17,e18,e19,e20,e21,e22,e23,e24,e25,e26,e27,and_self]
def imAt (xs:List DV) (i:Nat):Im:=⟨nAt xs i,nAt xs (i+1),bAt xs (i+2),⟨nAt xs (i+3),nAt xs (i+4),nAt xs (i+5),nAt xs (i+6),nAt xs (i+7)⟩,⟨nAt xs (i+8),nAt xs (i+9),nAt xs (i+10),lAt xs (i+11),cAt xs (i+11)⟩,⟨nAt xs (i+12),nAt xs (i+13),nAt xs (i+14),lAt xs (i+15),cAt xs (i+15)⟩,⟨nAt xs (i+16),nAt xs (i+17),nAt xs (i+18),lAt xs (i+19),cAt xs (i+19)⟩,⟨nAt xs (i+20),nAt xs (i+21),nAt xs (i+22),lAt xs (i+23),cAt xs (i+23)⟩,⟨nAt xs (i+24),nAt xs (i+25),nAt xs (i+26),lAt xs (i+27),cAt xs (i+27)⟩⟩
theorem jJi {l:List Im} {k:Nat} (h:k < l.length):imAt (ims l) (k*28)=l[k]:=by
 have e:=zHS h
 simp only [imAt,show k*28+2=k*28+1+1 from rfl,show k*28+3=k*28+1+1+1 from rfl,show k*28+4=k*28+1+1+1+1 from rfl,show k*28+5=k*28+1+1+1+1+1 from rfl,show k*28+6=k*28+1+1+1+1+1+1 from rfl,show k*28+7=k*28+1+1+1+1+1+1+1 from rfl,show k*28+8=k*28+1+1+1+1+1+1+1+1 from rfl,show k*28+9=k*28+1+1+1+1+1+1+1+1+1 from rfl,show k*28+10=k*28+1+1+1+1+1+1+1+1+1+1 from rfl,show k*28+11=k*28+1+1+1+1+1+1+1+1+1+1+1 from rfl,show k*28+12=k*28+1+1+1+1+1+1+1+1+1+1+1+1 from rfl,show k*28+13=k*28+1+1+1+1+1+1+1+1+1+1+1+1+1 from rfl,show k*28+14=k*28+1+1+1+1+1+1+1+1+1+1+1+1+1+1 from rfl,show k*28+15=k*28+1+1+1+1+1+1+1+1+1+1+1+1+1+1+1 from rfl,show k*28+16=k*28+1+1+1+1+1+1+1+1+1+1+1+1+1+1+1+1 from rfl,show k*28+17=k*28+1+1+1+1+1+1+1+1+1+1+1+1+1+1+1+1+1 from rfl,show k*28+18=k*28+1+1+1+1+1+1+1+1+1+1+1+1+1+1+1+1+1+1 from rfl,show k*28+19=k*28+1+1+1+1+1+1+1+1+1+1+1+1+1+1+1+1+1+1+1 from rfl,show k*28+20=k*28+1+1+1+1+1+1+1+1+1+1+1+1+1+1+1+1+1+1+1+1 from rfl,show k*28+21=k*28+1+1+1+1+1+1+1+1+1+1+1+1+1+1+1+1+1+1+1+1+1 from rfl,show k*28+22=k*28+1+1+1+1+1+1+1+1+1+1+1+1+1+1+1+1+1+1+1+1+1+1 from rfl,show k*28+23=k*28+1+1+1+1+1+1+1+1+1+1+1+1+1+1+1+1+1+1+1+1+1+1+1 from rfl,show k*28+24=k*28+1+1+1+1+1+1+1+1+1+1+1+1+1+1+1+1+1+1+1+1+1+1+1+1 from rfl,show k*28+25=k*28+1+1+1+1+1+1+1+1+1+1+1+1+1+1+1+1+1+1+1+1+1+1+1+1+1 from rfl,show k*28+26=k*28+1+1+1+1+1+1+1+1+1+1+1+1+1+1+1+1+1+1+1+1+1+1+1+1+1+1 from rfl,show k*28+27=k*28+1+1+1+1+1+1+1+1+1+1+1+1+1+1+1+1+1+1+1+1+1+1+1+1+1+1+1 from rfl,e]
def zQf (xs:List DV):List Im:=(List.range (xs.length / 28)).map fun k=>imAt xs (k*28)
theorem zXk (l:List Im):zQf (ims l)=l:=by
 have e:(ims l).length / 28=l.length:=by rw [zJX]; omega
 unfold zQf
 rw [e]
 refine List.ext_getElem (by simp) fun i h1 h2=>?_
 simp only [List.getElem_map,List.getElem_range]
 exact jJi h2
def jK7 (n:Nat) (xs:List DV):Prop:=(xs=ims (zQf xs)∧n=(zQf xs).length)∧∀ m∈zQf xs,m.isU
theorem jK7.of {n:Nat} {xs:List DV} (h:jK7 n xs):∃ l:List Im,(∀ m∈l,m.isU)∧xs=ims l∧n=l.length:=⟨zQf xs,h.2,h.1.1,h.1.2⟩
def jK6 (n:Nat) (xs:List DV):Prop:=xs=ops (zQd xs)∧n=(zQd xs).length
theorem jYe {n:Nat} {l:List Oq} (h:n=l.length):jK6 n (ops l):=⟨by rw [zQG],by rw [zQG]; exact h⟩
theorem zWJ (o:Oq):ops [o]=o.cells:=by simp [ops]
def gOff (n c:Int):Int:=if modS n 3=0 then c else c+modS (IntKind.wrap .i64 (Int.tdiv n 3)) 9 - 4
structure Rw where
  k:Int
  im:Int
  x:Int
  y:Int
  ma:Int
  mx:Int
  my:Int
  op:Int
  ope:Int
  mo:Int
  fl:Int
def gOp (r:Rw) (push:Bool) (n:Int) (c:Rc) (free:Bool) (most:Int):Oq:=
 let m:=decide (modS r.ma 4=0)
 ⟨if push then 2 else 1,if push then 0 else modS r.im n,if push then 0 else gOff r.x c.a,if push then 0 else gOff r.y c.b,
  if m then 1+modS (IntKind.wrap .i64 (Int.tdiv r.ma 4)) n else 0,if m then gOff r.mx c.a else 0,if m then gOff r.my c.b else 0,
  if modS r.op 2=0 then zQy (IntKind.wrap .i64 (Int.tdiv r.op 2)) most else most,
  if free && decide (modS r.ope 2=0) then 1+modS (IntKind.wrap .i64 (Int.tdiv r.ope 2)) 12 else 4,
  if modS r.mo 2=0 then 1+modS (IntKind.wrap .i64 (Int.tdiv r.mo 2)) 12 else 1,
  push && decide (modS r.fl 2=0),push && decide (modS (IntKind.wrap .i64 (Int.tdiv r.fl 2)) 3=0)⟩
def rwAt (xs:List DV) (i:Nat):Rw:=⟨nAt xs i,nAt xs (i+1),nAt xs (i+2),nAt xs (i+3),nAt xs (i+4),nAt xs (i+5),nAt xs (i+6),nAt xs (i+7),nAt xs (i+8),nAt xs (i+9),nAt xs (i+10)⟩
structure Scn where
  b:Int
  x:Int
  y:Int
  w:Int
  h:Int
  tw:Int
  th:Int
  on:Nat
  oxs:List DV
  pn:Nat
  pxs:List DV
  rn:Nat
  rxs:List DV
def Scn.c (s:Scn):Rc:=⟨modS s.x 13 - 6,modS s.y 13 - 6,modS s.x 13 - 6+(1+modS s.w 5),modS s.y 13 - 6+(1+modS s.h 4)⟩
def Scn.gw (s:Scn):Int:=1+modS s.w 5
def Scn.gh (s:Scn):Int:=1+modS s.h 4
def Scn.gtw (s:Scn):Int:=1+modS s.tw s.gw
def Scn.gth (s:Scn):Int:=1+modS s.th s.gh
def Scn.most (s:Scn):Int:=gMax s.b
def Scn.bits (s:Scn):Int:=if s.most > 255 then 16 else 8
def Scn.tiles (s:Scn):Int:=IntKind.wrap .i64 ((cntS s.c s.gtw s.gth).1*(cntS s.c s.gtw s.gth).2.1)
def Scn.ord (s:Scn):List Int:=zYL (ints s.oxs) s.tiles
def Scn.pic (s:Scn) (k:Nat):Im:=zQz (nAt s.pxs (k*5)) (nAt s.pxs (k*5+1)) (nAt s.pxs (k*5+2)) (nAt s.pxs (k*5+3)) (lAt s.pxs (k*5+4)) (cAt s.pxs (k*5+4)) s.c.a s.c.b s.c.c s.c.d s.most
def Scn.pics (s:Scn) (k:Nat):List Im:=(List.range k).map s.pic
def Scn.solo (s:Scn):Im:=zQb s.gw s.gh ⟨s.most,0,0,s.most,s.most⟩
def Scn.ims (s:Scn):List Im:=if min s.pn 4=0 then [s.solo] else s.pics (min s.pn 4)
def Scn.step (s:Scn) (r:Rw) (z:List Oq × List Oq):List Oq × List Oq:=
 if modS r.k 8=0∧0 < z.2.length then (z.1++[popO],z.2.dropLast)
 else
  let o:=gOp r (decide (modS r.k 8 < 3)) s.ims.length s.c (ctxB z.2) s.most
  (z.1++[o],if modS r.k 8 < 3 then z.2++[o] else z.2)
def Scn.run (s:Scn):Nat→List Oq × List Oq
 | 0=>([],[])
 | k+1=>s.step (rwAt s.rxs (k*11)) (s.run k)
def Scn.ops (s:Scn):List Oq:=(s.run (min s.rn 9)).1++List.replicate (s.run (min s.rn 9)).2.length popO
def jJP (n:Nat) (xs:List DV):Prop:=xs.length=n*5∧∀ k,k < n→xs[k*5]?=some (.int .i64 (nAt xs (k*5)))∧xs[k*5+1]?=some (.int .i64 (nAt xs (k*5+1)))∧xs[k*5+1+1]?=some (.int .i64 (nAt xs (k*5+1+1)))∧xs[k*5+1+1+1]?=some (.int .i64 (nAt xs (k*5+1+1+1)))∧xs[k*5+1+1+1+1]?=some (.sl (lAt xs (k*5+1+1+1+1)) (cAt xs (k*5+1+1+1+1)))∧Is5 (lAt xs (k*5+1+1+1+1)) (cAt xs (k*5+1+1+1+1))
def jK5 (n:Nat) (xs:List DV):Prop:=xs.length=n*11∧∀ i,i < n*11→xs[i]?=some (.int .i64 (nAt xs i))
def Scn.ok (s:Scn):Prop:=(s.oxs=is (ints s.oxs)∧s.on=s.oxs.length)∧jJP s.pn s.pxs∧jK5 s.rn s.rxs
theorem Scn.facts (s:Scn):(0≤modS s.x 13∧modS s.x 13 < 13)∧(0≤modS s.y 13∧modS s.y 13 < 13)∧(1≤s.gw∧s.gw≤5)∧(1≤s.gh∧s.gh≤4)∧(1≤s.gtw∧s.gtw≤s.gw)∧(1≤s.gth∧s.gth≤s.gh):=by
 have a:=@zQ4 s.x 13 (by omega) (by omega)
 have b:=@zQ4 s.y 13 (by omega) (by omega)
 have c:=@zQ4 s.w 5 (by omega) (by omega)
 have d:=@zQ4 s.h 4 (by omega) (by omega)
 have e:1≤s.gw∧s.gw≤5:=by unfold Scn.gw; omega
 have f:1≤s.gh∧s.gh≤4:=by unfold Scn.gh; omega
 have g:=@zQ4 s.tw s.gw (by omega) (by omega)
 have h:=@zQ4 s.th s.gh (by omega) (by omega)
 exact ⟨a,b,e,f,by unfold Scn.gtw; omega,by unfold Scn.gth; omega⟩
theorem Scn.pics_succ (s:Scn) (k:Nat):s.pics (k+1)=s.pics k++[s.pic k]:=by simp [Scn.pics,List.range_succ]
theorem Scn.pics_len (s:Scn) (k:Nat):(s.pics k).length=k:=by simp [Scn.pics]
theorem Scn.ims_len (s:Scn):1≤s.ims.length∧s.ims.length≤4:=by
 unfold Scn.ims
 split
 ·simp
 ·rw [Scn.pics_len]; omega
theorem Scn.run_len (s:Scn) (k:Nat):(s.run k).1.length=k∧(s.run k).2.length≤k:=by
 induction k with
 | zero=>simp [Scn.run]
 | succ k ih=>
  simp only [Scn.run,Scn.step]
  split
  ·simp; omega
  ·simp only []
   split <;> simp <;> omega
theorem Scn.most_in (s:Scn):s.most=255∨s.most=65535:=by
 unfold Scn.most gMax
 split <;> simp
theorem Scn.ims_isU (s:Scn):∀ m∈s.ims,m.isU:=by
 intro m hm
 unfold Scn.ims at hm
 split at hm
 ·rw [List.mem_singleton] at hm; subst hm; exact zWl _ _ _
 ·simp only [Scn.pics,List.mem_map] at hm
  obtain ⟨k,_,rfl⟩:=hm
  exact jXh _ _ _ _ _ _ _ _ _ _ _
theorem Scn.c_facts (s:Scn):s.c.c - s.c.a=s.gw∧s.c.d - s.c.b=s.gh ∧ -6≤s.c.a∧s.c.a≤6 ∧ -6≤s.c.b∧s.c.b≤6:=by
 have:=s.facts
 simp only [Scn.c,Scn.gw,Scn.gh] at this ⊢
 omega
theorem Scn.bits_of (s:Scn):(gMax s.b > 255→16=s.bits)∧(¬ gMax s.b > 255→8=s.bits):=by
 unfold Scn.bits Scn.most
 exact ⟨fun h=>by rw [if_pos h],fun h=>by rw [if_neg h]⟩
theorem cnt1 {n w:Int} (h:1≤w) (hw:w≤n) (hn:n≤5):1≤IntKind.wrap .i64 (Int.tdiv (IntKind.wrap .i64 (IntKind.wrap .i64 (IntKind.wrap .i64 n+w) - 1)) w)∧IntKind.wrap .i64 (Int.tdiv (IntKind.wrap .i64 (IntKind.wrap .i64 (IntKind.wrap .i64 n+w) - 1)) w)≤n:=by
 rw [IntWalk.i64_in n ⟨by omega,by omega⟩,IntWalk.i64_in (n+w) ⟨by omega,by omega⟩,IntWalk.i64_in (n+w - 1) ⟨by omega,by omega⟩,Int.tdiv_eq_ediv_of_nonneg (by omega)]
 have:1≤(n+w - 1) / w∧(n+w - 1) / w≤n:=by
  rcases (show w=1∨w=2∨w=3∨w=4∨w=5 by omega) with rfl | rfl | rfl | rfl | rfl <;> omega
 rw [IntWalk.i64_in _ ⟨by omega,by omega⟩]
 exact this
theorem Scn.cnt (s:Scn):(cntS s.c s.gtw s.gth).2.2=true∧(1≤(cntS s.c s.gtw s.gth).1∧(cntS s.c s.gtw s.gth).1≤5)∧1≤(cntS s.c s.gtw s.gth).2.1∧(cntS s.c s.gtw s.gth).2.1≤4:=by
 obtain ⟨f1,f2,f3,f4,f5,f6⟩:=s.facts
 have CF:=s.c_facts
 have he:Rc.empty s.c=false:=by
  rw [Rc.empty_iff]; omega
 unfold cntS
 rw [he,if_neg (by simp),CF.1,CF.2.1,if_neg (by rw [IntWalk.i64_in _ ⟨by omega,by omega⟩,IntWalk.i64_in _ ⟨by omega,by omega⟩]; omega)]
 have a:=cnt1 f5.1 f5.2 (by omega)
 have b:=cnt1 f6.1 f6.2 (by omega)
 exact ⟨rfl,⟨a.1,Int.le_trans a.2 (by omega)⟩,b.1,Int.le_trans b.2 (by omega)⟩
theorem Scn.tiles_in (s:Scn):0≤s.tiles∧s.tiles≤20:=by
 obtain ⟨_,a,b⟩:=s.cnt
 unfold Scn.tiles
 generalize (cntS s.c s.gtw s.gth).1=x at *
 generalize (cntS s.c s.gtw s.gth).2.1=y at *
 have h1:0≤x*y:=Int.mul_nonneg (by omega) (by omega)
 have h2:x*y≤5*4:=Int.mul_le_mul a.2 b.2 (by omega) (by omega)
 rw [IntWalk.i64_in _ ⟨by omega,by omega⟩]
 omega
theorem Scn.run_pop {s:Scn} {k:Nat} (h:modS (rwAt s.rxs (k*11)).k 8=0∧0 < (s.run k).2.length):s.run (k+1)=((s.run k).1++[popO],(s.run k).2.dropLast):=by
 simp only [Scn.run,Scn.step]
 rw [if_pos h]
theorem Scn.run_op {s:Scn} {k:Nat} (h:¬ (modS (rwAt s.rxs (k*11)).k 8=0∧0 < (s.run k).2.length)) {o:Oq} (ho:o=gOp (rwAt s.rxs (k*11)) (decide (modS (rwAt s.rxs (k*11)).k 8 < 3)) s.ims.length s.c (ctxB (s.run k).2) s.most) :
  (o.kind=2→s.run (k+1)=((s.run k).1++[o],(s.run k).2++[o]))∧(o.kind≠2→s.run (k+1)=((s.run k).1++[o],(s.run k).2)):=by
 have e:s.run (k+1)=((s.run k).1++[o],if modS (rwAt s.rxs (k*11)).k 8 < 3 then (s.run k).2++[o] else (s.run k).2):=by
  simp only [Scn.run,Scn.step]
  rw [if_neg h,← ho]
 have hk:o.kind=if modS (rwAt s.rxs (k*11)).k 8 < 3 then 2 else 1:=by
  rw [ho]
  simp [gOp]
 rw [e,hk]
 split <;> simp
theorem jYA {l:List Oq} (h:0 < l.length):ctxB l=(l[l.length - 1].iso && !l[l.length - 1].kno):=by
 unfold ctxB
 rw [List.getLast?_eq_getElem?,List.getElem?_eq_getElem (by omega)]
def gZ11 (xs:List RV):Option RV:=match xs with | [.agg [.int _ c0,.int _ c1,.int _ c2,.int _ ca,.int _ cf],.d (.int _ most)]=>some (RV.d (dQ (Px.ok ⟨c0,c1,c2,ca,cf⟩ most))) | _=>none
def gZ12 (xs:List RV):Option RV:=match xs with | [.d (.int _ w),.d (.int _ h),.agg [.int _ c0,.int _ c1,.int _ c2,.int _ ca,.int _ cf]]=>some (RV.agg [dJ (zQb w h ⟨c0,c1,c2,ca,cf⟩).w,dJ (zQb w h ⟨c0,c1,c2,ca,cf⟩).h,dQ (zQb w h ⟨c0,c1,c2,ca,cf⟩).so,dK (zQb w h ⟨c0,c1,c2,ca,cf⟩).c.a,dK (zQb w h ⟨c0,c1,c2,ca,cf⟩).c.b,dK (zQb w h ⟨c0,c1,c2,ca,cf⟩).c.c,dK (zQb w h ⟨c0,c1,c2,ca,cf⟩).c.al,dK (zQb w h ⟨c0,c1,c2,ca,cf⟩).c.f,dJ (zQb w h ⟨c0,c1,c2,ca,cf⟩).p0.w,dJ (zQb w h ⟨c0,c1,c2,ca,cf⟩).p0.h,dJ (zQb w h ⟨c0,c1,c2,ca,cf⟩).p0.s,dS (zQb w h ⟨c0,c1,c2,ca,cf⟩).p0.n (zQb w h ⟨c0,c1,c2,ca,cf⟩).p0.xs,dJ (zQb w h ⟨c0,c1,c2,ca,cf⟩).p1.w,dJ (zQb w h ⟨c0,c1,c2,ca,cf⟩).p1.h,dJ (zQb w h ⟨c0,c1,c2,ca,cf⟩).p1.s,dS (zQb w h ⟨c0,c1,c2,ca,cf⟩).p1.n (zQb w h ⟨c0,c1,c2,ca,cf⟩).p1.xs,dJ (zQb w h ⟨c0,c1,c2,ca,cf⟩).p2.w,dJ (zQb w h ⟨c0,c1,c2,ca,cf⟩).p2.h,dJ (zQb w h ⟨c0,c1,c2,ca,cf⟩).p2.s,dS (zQb w h ⟨c0,c1,c2,ca,cf⟩).p2.n (zQb w h ⟨c0,c1,c2,ca,cf⟩).p2.xs,dJ (zQb w h ⟨c0,c1,c2,ca,cf⟩).p3.w,dJ (zQb w h ⟨c0,c1,c2,ca,cf⟩).p3.h,dJ (zQb w h ⟨c0,c1,c2,ca,cf⟩).p3.s,dS (zQb w h ⟨c0,c1,c2,ca,cf⟩).p3.n (zQb w h ⟨c0,c1,c2,ca,cf⟩).p3.xs,dJ (zQb w h ⟨c0,c1,c2,ca,cf⟩).p4.w,dJ (zQb w h ⟨c0,c1,c2,ca,cf⟩).p4.h,dJ (zQb w h ⟨c0,c1,c2,ca,cf⟩).p4.s,dS (zQb w h ⟨c0,c1,c2,ca,cf⟩).p4.n (zQb w h ⟨c0,c1,c2,ca,cf⟩).p4.xs]) | _=>none
def gZ13 (xs:List RV):Option RV:=match xs with | [.agg [.int _ w,.int _ h,.bool so,.int _ c0,.int _ c1,.int _ c2,.int _ ca,.int _ cf,.int _ w0,.int _ h0,.int _ s0,.sl n0 xs0,.int _ w1,.int _ h1,.int _ s1,.sl n1 xs1,.int _ w2,.int _ h2,.int _ s2,.sl n2 xs2,.int _ w3,.int _ h3,.int _ s3,.sl n3 xs3,.int _ w4,.int _ h4,.int _ s4,.sl n4 xs4],.d (.int _ x),.d (.int _ y)]=>some (RV.agg [dK (Im.at_ ⟨w,h,so,⟨c0,c1,c2,ca,cf⟩,⟨w0,h0,s0,n0,xs0⟩,⟨w1,h1,s1,n1,xs1⟩,⟨w2,h2,s2,n2,xs2⟩,⟨w3,h3,s3,n3,xs3⟩,⟨w4,h4,s4,n4,xs4⟩⟩ x y).a,dK (Im.at_ ⟨w,h,so,⟨c0,c1,c2,ca,cf⟩,⟨w0,h0,s0,n0,xs0⟩,⟨w1,h1,s1,n1,xs1⟩,⟨w2,h2,s2,n2,xs2⟩,⟨w3,h3,s3,n3,xs3⟩,⟨w4,h4,s4,n4,xs4⟩⟩ x y).b,dK (Im.at_ ⟨w,h,so,⟨c0,c1,c2,ca,cf⟩,⟨w0,h0,s0,n0,xs0⟩,⟨w1,h1,s1,n1,xs1⟩,⟨w2,h2,s2,n2,xs2⟩,⟨w3,h3,s3,n3,xs3⟩,⟨w4,h4,s4,n4,xs4⟩⟩ x y).c,dK (Im.at_ ⟨w,h,so,⟨c0,c1,c2,ca,cf⟩,⟨w0,h0,s0,n0,xs0⟩,⟨w1,h1,s1,n1,xs1⟩,⟨w2,h2,s2,n2,xs2⟩,⟨w3,h3,s3,n3,xs3⟩,⟨w4,h4,s4,n4,xs4⟩⟩ x y).al,dK (Im.at_ ⟨w,h,so,⟨c0,c1,c2,ca,cf⟩,⟨w0,h0,s0,n0,xs0⟩,⟨w1,h1,s1,n1,xs1⟩,⟨w2,h2,s2,n2,xs2⟩,⟨w3,h3,s3,n3,xs3⟩,⟨w4,h4,s4,n4,xs4⟩⟩ x y).f]) | _=>none
def gZ14 (xs:List RV):Option RV:=match xs with | [.d (.int _ n)]=>some (RV.d (dK (gMax n))) | _=>none
def gZ15 (xs:List RV):Option RV:=match xs with | [.d (.int _ n),.d (.int _ most)]=>some (RV.d (dK (zQy n most))) | _=>none
def gZ16 (xs:List RV):Option RV:=match xs with | []=>some (RV.tup [RV.tup [rJ 48,rJ 5]]) | [.agg [.int _ mood,.sl L xs],.d (.int _ n),.d (.int _ most)]=>some (RV.d (dS n.toNat (pxs (zQm mood L xs most n.toNat)))) | _=>none
def gZ17 (xs:List AV) (bs:List Bx):Option Ret:=match xs,bs with | [AV.one (Cl.d (DV.int _ w)),AV.one (Cl.d (DV.int _ h)),AV.one (Cl.d (DV.sl n xs))],[]=>some ⟨AV.tup [AV.agg [cJ (imOf w h (zQl xs)).w,cJ (imOf w h (zQl xs)).h,Cl.d (dQ (imOf w h (zQl xs)).so),cK (imOf w h (zQl xs)).c.a,cK (imOf w h (zQl xs)).c.b,cK (imOf w h (zQl xs)).c.c,cK (imOf w h (zQl xs)).c.al,cK (imOf w h (zQl xs)).c.f,cJ (imOf w h (zQl xs)).p0.w,cJ (imOf w h (zQl xs)).p0.h,cJ (imOf w h (zQl xs)).p0.s,Cl.ref 0 (imOf w h (zQl xs)).p0.n,cJ (imOf w h (zQl xs)).p1.w,cJ (imOf w h (zQl xs)).p1.h,cJ (imOf w h (zQl xs)).p1.s,Cl.ref 1 (imOf w h (zQl xs)).p1.n,cJ (imOf w h (zQl xs)).p2.w,cJ (imOf w h (zQl xs)).p2.h,cJ (imOf w h (zQl xs)).p2.s,Cl.ref 2 (imOf w h (zQl xs)).p2.n,cJ (imOf w h (zQl xs)).p3.w,cJ (imOf w h (zQl xs)).p3.h,cJ (imOf w h (zQl xs)).p3.s,Cl.ref 3 (imOf w h (zQl xs)).p3.n,cJ (imOf w h (zQl xs)).p4.w,cJ (imOf w h (zQl xs)).p4.h,cJ (imOf w h (zQl xs)).p4.s,Cl.ref 4 (imOf w h (zQl xs)).p4.n],AV.one (Cl.d (dQ (ofOk w h n)))],[Bx.row 42 1 (imOf w h (zQl xs)).p0.xs,Bx.row 42 1 (imOf w h (zQl xs)).p1.xs,Bx.row 42 1 (imOf w h (zQl xs)).p2.xs,Bx.row 42 1 (imOf w h (zQl xs)).p3.xs,Bx.row 42 1 (imOf w h (zQl xs)).p4.xs],true⟩ | _,_=>none
def gamI:Gam where
 pure:=fun f xs=>
  if f=9 then gZ0 xs else
  if f=63 then (match xs with | [.d (.int _ w),.d (.int _ h)]=>some (RV.d (dQ (zZK w h))) | _=>none) else
  if f=96 then (match xs with | [.agg [.int _ w,.int _ h,.int _ s,.sl n xs]]=>some (RV.d (dQ (zQY w h s n))) | _=>none) else
  if f=88 then gZ11 xs else
  if f=87 then (match xs with | [.agg [.int _ w,.int _ h,.bool so,.int _ c0,.int _ c1,.int _ c2,.int _ ca,.int _ cf,.int _ w0,.int _ h0,.int _ s0,.sl n0 xs0,.int _ w1,.int _ h1,.int _ s1,.sl n1 xs1,.int _ w2,.int _ h2,.int _ s2,.sl n2 xs2,.int _ w3,.int _ h3,.int _ s3,.sl n3 xs3,.int _ w4,.int _ h4,.int _ s4,.sl n4 xs4]]=>some (RV.d (dQ (Im.inner ⟨w,h,so,⟨c0,c1,c2,ca,cf⟩,⟨w0,h0,s0,n0,xs0⟩,⟨w1,h1,s1,n1,xs1⟩,⟨w2,h2,s2,n2,xs2⟩,⟨w3,h3,s3,n3,xs3⟩,⟨w4,h4,s4,n4,xs4⟩⟩))) | _=>none) else
  if f=100 then (match xs with | [.agg [.int _ w,.int _ h,.bool so,.int _ c0,.int _ c1,.int _ c2,.int _ ca,.int _ cf,.int _ w0,.int _ h0,.int _ s0,.sl n0 xs0,.int _ w1,.int _ h1,.int _ s1,.sl n1 xs1,.int _ w2,.int _ h2,.int _ s2,.sl n2 xs2,.int _ w3,.int _ h3,.int _ s3,.sl n3 xs3,.int _ w4,.int _ h4,.int _ s4,.sl n4 xs4]]=>some (RV.d (dQ (Im.formed ⟨w,h,so,⟨c0,c1,c2,ca,cf⟩,⟨w0,h0,s0,n0,xs0⟩,⟨w1,h1,s1,n1,xs1⟩,⟨w2,h2,s2,n2,xs2⟩,⟨w3,h3,s3,n3,xs3⟩,⟨w4,h4,s4,n4,xs4⟩⟩))) | _=>none) else
  if f=89 then (match xs with | [.agg [.int _ w,.int _ h,.bool so,.int _ c0,.int _ c1,.int _ c2,.int _ ca,.int _ cf,.int _ w0,.int _ h0,.int _ s0,.sl n0 xs0,.int _ w1,.int _ h1,.int _ s1,.sl n1 xs1,.int _ w2,.int _ h2,.int _ s2,.sl n2 xs2,.int _ w3,.int _ h3,.int _ s3,.sl n3 xs3,.int _ w4,.int _ h4,.int _ s4,.sl n4 xs4],.d (.int _ x),.d (.int _ y)]=>some (RV.agg [dK (Im.px ⟨w,h,so,⟨c0,c1,c2,ca,cf⟩,⟨w0,h0,s0,n0,xs0⟩,⟨w1,h1,s1,n1,xs1⟩,⟨w2,h2,s2,n2,xs2⟩,⟨w3,h3,s3,n3,xs3⟩,⟨w4,h4,s4,n4,xs4⟩⟩ x y).a,dK (Im.px ⟨w,h,so,⟨c0,c1,c2,ca,cf⟩,⟨w0,h0,s0,n0,xs0⟩,⟨w1,h1,s1,n1,xs1⟩,⟨w2,h2,s2,n2,xs2⟩,⟨w3,h3,s3,n3,xs3⟩,⟨w4,h4,s4,n4,xs4⟩⟩ x y).b,dK (Im.px ⟨w,h,so,⟨c0,c1,c2,ca,cf⟩,⟨w0,h0,s0,n0,xs0⟩,⟨w1,h1,s1,n1,xs1⟩,⟨w2,h2,s2,n2,xs2⟩,⟨w3,h3,s3,n3,xs3⟩,⟨w4,h4,s4,n4,xs4⟩⟩ x y).c,dK (Im.px ⟨w,h,so,⟨c0,c1,c2,ca,cf⟩,⟨w0,h0,s0,n0,xs0⟩,⟨w1,h1,s1,n1,xs1⟩,⟨w2,h2,s2,n2,xs2⟩,⟨w3,h3,s3,n3,xs3⟩,⟨w4,h4,s4,n4,xs4⟩⟩ x y).al,dK (Im.px ⟨w,h,so,⟨c0,c1,c2,ca,cf⟩,⟨w0,h0,s0,n0,xs0⟩,⟨w1,h1,s1,n1,xs1⟩,⟨w2,h2,s2,n2,xs2⟩,⟨w3,h3,s3,n3,xs3⟩,⟨w4,h4,s4,n4,xs4⟩⟩ x y).f]) | _=>none) else
  if f=20 then gZ12 xs else
  if f=92 then gZ13 xs else
  if f=16 then gZ14 xs else
  if f=37 then gZ15 xs else
  if f=62 then (match xs with | [.agg [.int _ n0,.int _ n1,.int _ n2,.int _ n3,.int _ n4],.d (.int _ most)]=>let a:=(zZg n0 n1 n2 n3 n4 most); some (RV.agg [dK a.a,dK a.b,dK a.c,dK a.al,dK a.f]) | _=>none) else
  if f=34 then gZ16 xs else
  none
 modes:=fun f=>
  if f=35 then some ([true,true,true],0,5) else
  none
 proc:=fun f xs bs=>
  if f=35 then gZ17 xs bs else
  none
 iter:=fun f cs=>
  none
section
attribute [local irreducible] Ans AnsO AnsG AnsN AnsI
theorem zVk (n:Int):Ans prog 16 [rJ (n)] (RV.d (dK (gMax n))):=
 zQa (Γ:=gamI) Ann.leaf zQg Tryz.func16 rfl (nL rfl) fun hwf=>by
  refine Eq.mpr (by kernel_rfl:_=(let a:=(modS n (3:Int)); tU2 ((Ans prog 9 [rJ n,rJ 3] (rJ a))∧True∧(((a==2)=true→True∧RV.d (dK 65535)=RV.d (dK (gMax n)))∧((a==2)=false→True∧RV.d (dK 255)=RV.d (dK (gMax n))))))) ?_
  delta dK rJ
  simp only [sS,zQs]
  unfold gMax; grind
theorem zXj (n most:Int):Ans prog 37 [rJ (n),RV.d (dK most)] (RV.d (dK (zQy n most))):=
 zQa (Γ:=gamI) Ann.leaf zQg Tryz.func37 rfl (nL rfl) fun hwf=>by
  refine Eq.mpr (by kernel_rfl:_=(let a:=(modS n (8:Int)); let d:=(a==1); let c:=(dK (zQy n most)); let b:=(wK (Int.tdiv n (8:Int))); let e:=(dJ b); let f:=(wK ((wK most)+1)); let g:=(((a==3)=true→tU2 (((8:Int)≠0)∧(Ans prog 9 [RV.d e,rJ 2] (rJ (modS b (2:Int))))∧True∧((2:Int)≠0)∧tU2 (RV.d (dK (IntKind.wrap .u16 (wK (Int.tdiv (wK ((wK most)+(modS b (2:Int)))) (2:Int)))))=RV.d c)))∧((a==3)=false→tU2 (((a==4)=true→tU2 (((8:Int)≠0)∧(Ans prog 9 [RV.d e,rJ 4] (rJ (modS b (4:Int))))∧tU3 (RV.d (dK (IntKind.wrap .u16 (min (wK most) (modS b (4:Int)))))=RV.d c)))∧((a==4)=false→True∧((8:Int)≠0)∧tU2 ((Ans prog 9 [RV.d e,rJ f] (rJ (modS b f)))∧tU2 (RV.d (dK (IntKind.wrap .u16 (modS b f)))=RV.d c)))))); tU5 ((Ans prog 9 [rJ n,rJ 8] (rJ a))∧tU2 (((a==0)=true→True∧RV.d (dK 0)=RV.d c)∧((a==0)=false→tU2 ((d=true→((d=true→tU2 (RV.d (dK most)=RV.d c))∧(d=false→tU2 g)))∧(d=false→tU2 (((a==2)=true→tU2 (RV.d (dK most)=RV.d c))∧((a==2)=false→tU2 g))))))))) ?_
  delta dJ dK wK rJ
  simp only [sS,zQs,zVk]
  unfold zQy; grind
theorem zUp (n0 n1 n2 n3 n4 most:Int):Ans prog 62 [RV.agg [dJ n0,dJ n1,dJ n2,dJ n3,dJ n4],RV.d (dK most)] (RV.agg [dK ((zZg n0 n1 n2 n3 n4 most).a),dK ((zZg n0 n1 n2 n3 n4 most).b),dK ((zZg n0 n1 n2 n3 n4 most).c),dK ((zZg n0 n1 n2 n3 n4 most).al),dK ((zZg n0 n1 n2 n3 n4 most).f)]):=
 zQa (Γ:=gamI) Ann.leaf zQg Tryz.func62 rfl (nL rfl) fun hwf=>by
  refine Eq.mpr (by kernel_rfl:_=(let g:=(modS n3 (3:Int)); let c:=((5:Nat):Int); let d:=(zZg n0 n1 n2 n3 n4 most); let a:=(zQy n4 most); let e:=(dK a); let h:=(0≤(3:Int)∧(3:Int) < c); let i:=(wK (Int.tdiv n3 (3:Int))); let b:=(zQy i a); let f:=(dK b); let j:=(0≤(0:Int)∧(0:Int) < c); let k:=(0≤(1:Int)∧(1:Int) < c); let l:=(0≤(2:Int)∧(2:Int) < c); let m:=[dK d.a,dK d.b,dK d.c,dK d.al,dK d.f]; tU2 ((0≤(4:Int)∧(4:Int) < c)∧tU2 ((Ans prog 37 [rJ n4,RV.d (dK most)] (RV.d e))∧tU3 (h∧True∧(Ans prog 9 [rJ n3,rJ 3] (rJ g))∧True∧(((decide (g > 0))=true→h∧True∧((3:Int)≠0)∧True∧(Ans prog 37 [rJ i,RV.d e] (RV.d f))∧True∧j∧tU2 ((Ans prog 37 [rJ n0,RV.d f] (RV.d (dK (zQy n0 b))))∧k∧tU2 ((Ans prog 37 [rJ n1,RV.d f] (RV.d (dK (zQy n1 b))))∧l∧tU2 ((Ans prog 37 [rJ n2,RV.d f] (RV.d (dK (zQy n2 b))))∧tU5 ((true=true)∧RV.agg [dK (zQy n0 b),dK (zQy n1 b),dK (zQy n2 b),dK b,dK a]=RV.agg m)))))∧((decide (g > 0))=false→j∧tU2 ((Ans prog 37 [rJ n0,RV.d e] (RV.d (dK (zQy n0 a))))∧k∧tU2 ((Ans prog 37 [rJ n1,RV.d e] (RV.d (dK (zQy n1 a))))∧l∧tU2 ((Ans prog 37 [rJ n2,RV.d e] (RV.d (dK (zQy n2 a))))∧tU5 ((true=true)∧RV.agg [dK (zQy n0 a),dK (zQy n1 a),dK (zQy n2 a),dK a,dK a]=RV.agg m))))))))))) ?_
  delta dK wK rJ
  simp only [sS,zQs,zVk,zXj,zXj]
  simp [zZg]; grind
theorem zVW (mood:Int) (L:Nat) (xs:List DV) (n most:Int) (hx:Is5 L xs) (hn:n≤16777216):AnsO prog 34 [RV.agg [dJ mood,dS L xs],rJ (n),RV.d (dK most)] 48 5 n.toNat (pxs (zQm mood L xs most n.toNat)):=
 zKg (t:=6) (Γ:=gamI) (Ann.seq Ann.leaf (Ann.seq Ann.leaf (Ann.seq (Ann.seq Ann.leaf (Ann.loop ⟨Nat,fun k=>k≤n.toNat,fun k=>⟨[(1,aJ n),(2,AV.one (cK most)),(3,AV.one (Cl.ptr 3 0)),(7,AV.one (Cl.ref 5000 k)),(8,aJ (k:Int))],[(3,bC [cJ mood,Cl.d (dS L xs)]),(5000,Bx.row 48 5 (pxs (zQm mood L xs most k)))]⟩,fun k=>n.toNat - k⟩ fun k=>Ann.leaf)) Ann.leaf))) zQg Tryz.func34 rfl (nL rfl) rfl fun hwf=>by
  refine Eq.mpr (by kernel_rfl:_=(let Q:=(zQm mood L xs most n.toNat); let q:=([dK 0,dK 0,dK 0,dK 0,dK 0]); let s:=(modS mood (6:Int)); let j:=(s==2); let l:=(s==1); let m:=(s==0); let o:=(zZg (0:Int) (0:Int) (0:Int) (0:Int) (0:Int) most); let z:=([dK o.a,dK o.b,dK o.c,dK most,dK most]); let R:=(dJ n=dJ n); let S:=(dK most=dK most); let T:=[dJ mood,dS L xs]; let g:=(T=T); let A:=fun (k:Nat)=>[dK (zZg (nAt xs ((Int.tmod (k:Int) (L:Int)).toNat*5)) (nAt xs ((Int.tmod (k:Int) (L:Int)).toNat*5+1)) (nAt xs ((Int.tmod (k:Int) (L:Int)).toNat*5+1+1)) (nAt xs ((Int.tmod (k:Int) (L:Int)).toNat*5+1+1+1)) (nAt xs ((Int.tmod (k:Int) (L:Int)).toNat*5+1+1+1+1)) most).a,dK (zZg (nAt xs ((Int.tmod (k:Int) (L:Int)).toNat*5)) (nAt xs ((Int.tmod (k:Int) (L:Int)).toNat*5+1)) (nAt xs ((Int.tmod (k:Int) (L:Int)).toNat*5+1+1)) (nAt xs ((Int.tmod (k:Int) (L:Int)).toNat*5+1+1+1)) (nAt xs ((Int.tmod (k:Int) (L:Int)).toNat*5+1+1+1+1)) most).b,dK (zZg (nAt xs ((Int.tmod (k:Int) (L:Int)).toNat*5)) (nAt xs ((Int.tmod (k:Int) (L:Int)).toNat*5+1)) (nAt xs ((Int.tmod (k:Int) (L:Int)).toNat*5+1+1)) (nAt xs ((Int.tmod (k:Int) (L:Int)).toNat*5+1+1+1)) (nAt xs ((Int.tmod (k:Int) (L:Int)).toNat*5+1+1+1+1)) most).c,dK (zZg (nAt xs ((Int.tmod (k:Int) (L:Int)).toNat*5)) (nAt xs ((Int.tmod (k:Int) (L:Int)).toNat*5+1)) (nAt xs ((Int.tmod (k:Int) (L:Int)).toNat*5+1+1)) (nAt xs ((Int.tmod (k:Int) (L:Int)).toNat*5+1+1+1)) (nAt xs ((Int.tmod (k:Int) (L:Int)).toNat*5+1+1+1+1)) most).al,dK (zZg (nAt xs ((Int.tmod (k:Int) (L:Int)).toNat*5)) (nAt xs ((Int.tmod (k:Int) (L:Int)).toNat*5+1)) (nAt xs ((Int.tmod (k:Int) (L:Int)).toNat*5+1+1)) (nAt xs ((Int.tmod (k:Int) (L:Int)).toNat*5+1+1+1)) (nAt xs ((Int.tmod (k:Int) (L:Int)).toNat*5+1+1+1+1)) most).f]; let t:=(Ans prog 9 [rJ mood,rJ 6] (rJ s)); let d:=fun (k:Nat)=>(pxs (zQm mood L xs most k)); let e:=fun (k:Nat)=>fun (k':Nat)=>(n.toNat - k' < n.toNat - k); let h:=fun (k:Nat)=>fun (k':Nat)=>(R∧S∧(0=0)∧(k+1=k')∧(dJ (wK ((k:Int)+1))=dJ (k':Int))∧True); let U:=fun (k:Nat)=>fun (k':Nat)=>((h k k')∧(g∧((d k)++(A k)=pxs (zQm mood L xs most k'))∧True)); let B:=[dK o.a,dK o.b,dK o.c,dK o.al,dK o.f]; let V:=(Ans prog 62 [RV.agg [dJ 0,dJ 0,dJ 0,dJ 0,dJ 0],RV.d (dK most)] (RV.agg B)); let u:=fun (k:Nat)=>fun (k':Nat)=>((h k k')∧(g∧((d k)++B=pxs (zQm mood L xs most k'))∧True)); let C:=fun (k:Nat)=>[dK (zZg (nAt xs ((k:Int).toNat*5)) (nAt xs ((k:Int).toNat*5+1)) (nAt xs ((k:Int).toNat*5+1+1)) (nAt xs ((k:Int).toNat*5+1+1+1)) (nAt xs ((k:Int).toNat*5+1+1+1+1)) most).a,dK (zZg (nAt xs ((k:Int).toNat*5)) (nAt xs ((k:Int).toNat*5+1)) (nAt xs ((k:Int).toNat*5+1+1)) (nAt xs ((k:Int).toNat*5+1+1+1)) (nAt xs ((k:Int).toNat*5+1+1+1+1)) most).b,dK (zZg (nAt xs ((k:Int).toNat*5)) (nAt xs ((k:Int).toNat*5+1)) (nAt xs ((k:Int).toNat*5+1+1)) (nAt xs ((k:Int).toNat*5+1+1+1)) (nAt xs ((k:Int).toNat*5+1+1+1+1)) most).c,dK (zZg (nAt xs ((k:Int).toNat*5)) (nAt xs ((k:Int).toNat*5+1)) (nAt xs ((k:Int).toNat*5+1+1)) (nAt xs ((k:Int).toNat*5+1+1+1)) (nAt xs ((k:Int).toNat*5+1+1+1+1)) most).al,dK (zZg (nAt xs ((k:Int).toNat*5)) (nAt xs ((k:Int).toNat*5+1)) (nAt xs ((k:Int).toNat*5+1+1)) (nAt xs ((k:Int).toNat*5+1+1+1)) (nAt xs ((k:Int).toNat*5+1+1+1+1)) most).f]; let W:=fun (k:Nat)=>fun (k':Nat)=>((h k k')∧(g∧((d k)++(C k)=pxs (zQm mood L xs most k'))∧True)); tU4 ((∃ k:Nat,(k≤n.toNat)∧((R∧S∧(0=0)∧(0=k)∧(dJ 0=dJ (k:Int))∧True)∧(g∧([]=pxs (zQm mood L xs most k))∧True)))∧∀ k:Nat,let X:=(zZe 5 10 k 1 (d k) (A k)); let Y:=(zZe 5 10 k 1 (d k) (C k)); let Z:=(zZe 5 10 k 1 (d k) z); let D:=(nAt xs ((k:Int).toNat*5)); let E:=(nAt xs ((k:Int).toNat*5+1)); let F:=(nAt xs ((k:Int).toNat*5+1+1)); let G:=(nAt xs ((k:Int).toNat*5+1+1+1)); let H:=(nAt xs ((k:Int).toNat*5+1+1+1+1)); let v:=(zZe 5 10 k 1 (d k) B); let w:=(zZe 5 10 k 1 (d k) q); let p:=(decide ((k:Int) > 0)); let i:=(Int.tmod (k:Int) (L:Int)); let z0:=(decide (i < (L:Int))); let I:=(nAt xs (i.toNat*5)); let J:=(nAt xs (i.toNat*5+1)); let K:=(nAt xs (i.toNat*5+1+1)); let M:=(nAt xs (i.toNat*5+1+1+1)); let N:=(nAt xs (i.toNat*5+1+1+1+1)); let x:=(((d k)[0]?=some (dK (nAt (d k) 0)))∧((d k)[1]?=some (dK (nAt (d k) 1)))∧((d k)[2]?=some (dK (nAt (d k) 2)))∧((d k)[3]?=some (dK (nAt (d k) 3)))∧((d k)[4]?=some (dK (nAt (d k) 4)))∧True); let r:=([dK (nAt (d k) 0),dK (nAt (d k) 1),dK (nAt (d k) 2),dK (nAt (d k) 3),dK (nAt (d k) 4)]); let y:=(zZe 5 10 k 1 (d k) r); let O:=(zZg D E F G H most); let z1:=([dK O.a,dK O.b,dK O.c,dK most,dK most]); let P:=(zZg I J K M N most); let z2:=([dK P.a,dK P.b,dK P.c,dK most,dK most]); (k≤n.toNat)→tU3 (((decide ((k:Int) < n))=true→tU6 (((decide ((L:Int) > 0))=true→tU4 (((L:Int)≠0)∧tU7 ((z0=true→tU3 ((0≤Int.tmod (k:Int) (L:Int)∧Int.tmod (k:Int) (L:Int) < (L:Int)∧i.toNat*5 < xs.length)∧((xs[i.toNat*5]?=some (dJ I))∧(xs[i.toNat*5+1]?=some (dJ J))∧(xs[i.toNat*5+1+1]?=some (dJ K))∧(xs[i.toNat*5+1+1+1]?=some (dJ M))∧(xs[i.toNat*5+1+1+1+1]?=some (dJ N))∧True)∧tU3 ((Ans prog 62 [RV.agg [dJ I,dJ J,dJ K,dJ M,dJ N],RV.d (dK most)] (RV.agg (A k)))∧tU4 (t∧tU2 ((m=true→tU5 (w∧tU4 (∃ k':Nat,(k'≤n.toNat)∧(e k k')∧((h k k')∧(g∧((d k)++q=pxs (zQm mood L xs most k'))∧True)))))∧(m=false→tU2 ((l=true→True∧tU8 ((zZe 5 10 k 1 (d k) z2)∧tU4 (∃ k':Nat,(k'≤n.toNat)∧(e k k')∧((h k k')∧(g∧((d k)++z2=pxs (zQm mood L xs most k'))∧True)))))∧(l=false→tU2 ((j=true→True∧(k≤maxLen)∧True∧((p=true→True∧(0≤(0:Int)∧(0:Int) < (k:Int))∧x∧tU4 (y∧tU4 (∃ k':Nat,(k'≤n.toNat)∧(e k k')∧((h k k')∧(g∧((d k)++r=pxs (zQm mood L xs most k'))∧True)))))∧(p=false→tU3 (X∧tU4 (∃ k':Nat,(k'≤n.toNat)∧(e k k')∧(U k k'))))))∧(j=false→tU3 (X∧tU4 (∃ k':Nat,(k'≤n.toNat)∧(e k k')∧(U k k')))))))))))))∧(z0=false→tU2 (V∧tU4 (t∧tU2 ((m=true→tU5 (w∧tU4 (∃ k':Nat,(k'≤n.toNat)∧(e k k')∧((h k k')∧(g∧((d k)++q=pxs (zQm mood L xs most k'))∧True)))))∧(m=false→tU2 ((l=true→True∧tU8 (Z∧tU4 (∃ k':Nat,(k'≤n.toNat)∧(e k k')∧((h k k')∧(g∧((d k)++z=pxs (zQm mood L xs most k'))∧True)))))∧(l=false→tU2 ((j=true→True∧(k≤maxLen)∧True∧((p=true→True∧(0≤(0:Int)∧(0:Int) < (k:Int))∧x∧tU4 (y∧tU4 (∃ k':Nat,(k'≤n.toNat)∧(e k k')∧((h k k')∧(g∧((d k)++r=pxs (zQm mood L xs most k'))∧True)))))∧(p=false→tU3 (v∧tU4 (∃ k':Nat,(k'≤n.toNat)∧(e k k')∧(u k k'))))))∧(j=false→tU3 (v∧tU4 (∃ k':Nat,(k'≤n.toNat)∧(e k k')∧(u k k')))))))))))))))∧((decide ((L:Int) > 0))=false→tU6 (((decide ((k:Int) < (L:Int)))=true→tU3 ((0≤(k:Int)∧(k:Int) < (L:Int)∧(k:Int).toNat*5 < xs.length)∧((xs[(k:Int).toNat*5]?=some (dJ D))∧(xs[(k:Int).toNat*5+1]?=some (dJ E))∧(xs[(k:Int).toNat*5+1+1]?=some (dJ F))∧(xs[(k:Int).toNat*5+1+1+1]?=some (dJ G))∧(xs[(k:Int).toNat*5+1+1+1+1]?=some (dJ H))∧True)∧tU3 ((Ans prog 62 [RV.agg [dJ D,dJ E,dJ F,dJ G,dJ H],RV.d (dK most)] (RV.agg (C k)))∧tU4 (t∧tU2 ((m=true→tU5 (w∧tU4 (∃ k':Nat,(k'≤n.toNat)∧(e k k')∧((h k k')∧(g∧((d k)++q=pxs (zQm mood L xs most k'))∧True)))))∧(m=false→tU2 ((l=true→True∧tU8 ((zZe 5 10 k 1 (d k) z1)∧tU4 (∃ k':Nat,(k'≤n.toNat)∧(e k k')∧((h k k')∧(g∧((d k)++z1=pxs (zQm mood L xs most k'))∧True)))))∧(l=false→tU2 ((j=true→True∧(k≤maxLen)∧True∧((p=true→True∧(0≤(0:Int)∧(0:Int) < (k:Int))∧x∧tU4 (y∧tU4 (∃ k':Nat,(k'≤n.toNat)∧(e k k')∧((h k k')∧(g∧((d k)++r=pxs (zQm mood L xs most k'))∧True)))))∧(p=false→tU3 (Y∧tU4 (∃ k':Nat,(k'≤n.toNat)∧(e k k')∧(W k k'))))))∧(j=false→tU3 (Y∧tU4 (∃ k':Nat,(k'≤n.toNat)∧(e k k')∧(W k k')))))))))))))∧((decide ((k:Int) < (L:Int)))=false→tU2 (V∧tU4 (t∧tU2 ((m=true→tU5 (w∧tU4 (∃ k':Nat,(k'≤n.toNat)∧(e k k')∧((h k k')∧(g∧((d k)++q=pxs (zQm mood L xs most k'))∧True)))))∧(m=false→tU2 ((l=true→True∧tU8 (Z∧tU4 (∃ k':Nat,(k'≤n.toNat)∧(e k k')∧((h k k')∧(g∧((d k)++z=pxs (zQm mood L xs most k'))∧True)))))∧(l=false→tU2 ((j=true→True∧(k≤maxLen)∧True∧((p=true→True∧(0≤(0:Int)∧(0:Int) < (k:Int))∧x∧tU4 (y∧tU4 (∃ k':Nat,(k'≤n.toNat)∧(e k k')∧((h k k')∧(g∧((d k)++r=pxs (zQm mood L xs most k'))∧True)))))∧(p=false→tU3 (v∧tU4 (∃ k':Nat,(k'≤n.toNat)∧(e k k')∧(u k k'))))))∧(j=false→tU3 (v∧tU4 (∃ k':Nat,(k'≤n.toNat)∧(e k k')∧(u k k'))))))))))))))))∧((decide ((k:Int) < n))=false→tU2 ((48=48∧5=5)∧(pxs Q).length=n.toNat*5∧k=n.toNat∧pxs (zQm mood L xs most k)=pxs Q)))))) ?_
  delta dJ dK wK dS rJ
  simp only [sS,zQs,zVk,zXj,zXj,zUp,zUp]
  refine ⟨⟨0,Nat.zero_le _,⟨rfl,rfl⟩,rfl⟩,fun k hk=>⟨fun hlt=>?_,fun hge=>?_⟩⟩
  ·have hkn:k < n.toNat:=by omega
   have hnn:n.toNat≤16777216:=by omega
   have tm:Int.tmod (k:Int) (L:Int)=((k % L:Nat):Int):=rfl
   simp only [tm,Int.toNat_natCast,Nat.add_assoc,Nat.reduceAdd]
   rcases Nat.eq_zero_or_pos L with hL | hL
   ·subst hL
    have P1:zZg 0 0 0 0 0 most=gPx1 0 xs most k:=by simp [gPx1,gNum]
    have P0:gPx1 0 xs most 0=gPx1 0 xs most k:=by simp [gPx1,gNum]
    simp only [P1]
    (repeat' (first | apply And.intro | intro)) <;> (first | assumption | omega | exact A _ (by omega) | rfl | (rw [zJO,zZJ]; done) | (unfold maxLen; omega) | exact zJk (by omega) _ (by omega) | (apply zH2 hkn hnn; simp_all [gPx,Px.ds,Px.zero]; done) | (obtain ⟨v0,v1,v2,v3,v4⟩:=zG0 (mood:=mood) (L:=L) (xs:=xs) (most:=most) (k:=k) (by omega) (eq_of_beq (by assumption)); apply zH2 hkn hnn; simp_all [gPx,Px.ds]; done) | (obtain ⟨v0,v1,v2,v3,v4⟩:=zG0 (mood:=mood) (L:=0) (xs:=xs) (most:=most) (k:=k) (by omega) (eq_of_beq (by assumption)); apply zH2 hkn hnn; simp_all [gPx,Px.ds]; done) | (have P2:=P0 (by omega); apply zH2 hkn hnn; simp_all [gPx,Px.ds]; done))
   ·have hmod:=Nat.mod_lt k hL
    have P1:zZg (nAt xs (k % L*5)) (nAt xs (k % L*5+1)) (nAt xs (k % L*5+2)) (nAt xs (k % L*5+3)) (nAt xs (k % L*5+4)) most=gPx1 L xs most k:=by simp [gPx1,gNum,hL]
    simp only [P1]
    have P0:k=0→gPx1 L xs most 0=gPx1 L xs most k:=fun h=>by rw [h]
    have A:=hx.2
    have B:=hx.1
    (repeat' (first | apply And.intro | intro)) <;> (first | assumption | omega | exact A _ (by omega) | rfl | (rw [zJO,zZJ]; done) | (unfold maxLen; omega) | exact zJk (by omega) _ (by omega) | (apply zH2 hkn hnn; simp_all [gPx,Px.ds,Px.zero]; done) | (obtain ⟨v0,v1,v2,v3,v4⟩:=zG0 (mood:=mood) (L:=L) (xs:=xs) (most:=most) (k:=k) (by omega) (eq_of_beq (by assumption)); apply zH2 hkn hnn; simp_all [gPx,Px.ds]; done) | (obtain ⟨v0,v1,v2,v3,v4⟩:=zG0 (mood:=mood) (L:=0) (xs:=xs) (most:=most) (k:=k) (by omega) (eq_of_beq (by assumption)); apply zH2 hkn hnn; simp_all [gPx,Px.ds]; done) | (have P2:=P0 (by omega); apply zH2 hkn hnn; simp_all [gPx,Px.ds]; done))
  ·have:k=n.toNat:=by omega
   subst this
   rw [zJO,zZJ]
   exact ⟨rfl,rfl,rfl⟩
def zZr (op:Int):ByteArray:=if 1≤op∧op < 13 then sAt zZs (op.toNat*4) else ⟨#[]⟩
def zJs (op:Int) (i:Nat):Int:=if 1≤op∧op < 13 then nAt zZs (op.toNat*4+i) else 0
def zZi (op:Int):ByteArray:=if 1≤op∧op < 13 then sAt zJZ op.toNat else ⟨#[]⟩
theorem zX7 {op:Int} (h:1≤op∧op < 13):op=1∨op=2∨op=3∨op=4∨op=5∨op=6∨op=7∨op=8∨op=9∨op=10∨op=11∨op=12:=by omega
theorem zVI (op:Int):((zZr op).toList==(⟨#[]⟩:ByteArray).toList)=!decide (1≤op∧op < 13):=by
 by_cases h:1≤op∧op < 13
 ·rcases zX7 h with rfl | rfl | rfl | rfl | rfl | rfl | rfl | rfl | rfl | rfl | rfl | rfl <;> decide +kernel
 ·simp [zZr,h]
theorem zKe (op:Int):((zZi op).toList==(⟨#[]⟩:ByteArray).toList)=!decide (1≤op∧op < 13):=by
 by_cases h:1≤op∧op < 13
 ·rcases zX7 h with rfl | rfl | rfl | rfl | rfl | rfl | rfl | rfl | rfl | rfl | rfl | rfl <;> decide +kernel
 ·simp [zZi,h]
def gZ18 (xs:List RV):Option RV:=match xs with | [.d (.int _ op)]=>some (RV.tup [RV.agg [DV.str (zZr op),dJ (zJs op 1),dJ (zJs op 2),dJ (zJs op 3)],RV.d (dQ (decide (1≤op∧op < 13)))]) | _=>none
def gZ19 (xs:List RV):Option RV:=match xs with | [.d (.int _ op)]=>some (RV.d (DV.str (zZr op))) | _=>none
def gZ20 (xs:List RV):Option RV:=match xs with | [.d (.int _ op)]=>some (RV.d (dQ (decide (1≤op∧op < 13)))) | _=>none
def gZ21 (xs:List RV):Option RV:=match xs with | [.d (.int _ op)]=>some (RV.d (DV.str (zZi op))) | _=>none
def zH1:Gam where
 pure:=fun f xs=>
  if f=73 then gZ18 xs else
  if f=70 then gZ19 xs else
  if f=91 then gZ20 xs else
  if f=71 then gZ21 xs else
  if f=107 then gZ19 xs else
  if f=108 then gZ21 xs else
  if f=98 then gZ20 xs else
  if f=99 then gZ20 xs else
  none
 modes:=fun f=>
  none
 proc:=fun f xs bs=>
  none
 iter:=fun f cs=>
  none
theorem zQi (op:Int):Ans prog 73 [rJ (op)] (RV.tup [RV.agg [DV.str (zZr op),dJ (zJs op 1),dJ (zJs op 2),dJ (zJs op 3)],RV.d (dQ (decide (1≤op∧op < 13)))]):=
 zQa (Γ:=zH1) Ann.leaf zQg Tryz.func73 rfl (nL rfl) fun hwf=>by
  refine Eq.mpr (by kernel_rfl:_=(let b:=(sAt zZs (0+op.toNat*4)); let c:=(nAt zZs (0+op.toNat*4+1)); let d:=(nAt zZs (0+op.toNat*4+1+1)); let e:=(nAt zZs (0+op.toNat*4+1+1+1)); let f:=[RV.agg [DV.str (⟨#[]⟩:ByteArray),dJ 0,dJ 0,dJ 0],RV.d (dQ false)]; let a:=[RV.agg [DV.str (zZr op),dJ (zJs op 1),dJ (zJs op 2),dJ (zJs op 3)],RV.d (dQ (decide (1≤op∧op < 13)))]; tU5 (((decide (op < 1))=false→tU3 (((decide (op≥13))=true→tU3 (RV.tup f=RV.tup a))∧((decide (op≥13))=false→True∧(0≤op∧op < ((13:Nat):Int))∧((zZs[0+op.toNat*4]?=some (DV.str b))∧(zZs[0+op.toNat*4+1]?=some (dJ c))∧(zZs[0+op.toNat*4+1+1]?=some (dJ d))∧(zZs[0+op.toNat*4+1+1+1]?=some (dJ e))∧True)∧tU2 (RV.tup [RV.agg [DV.str b,dJ c,dJ d,dJ e],RV.d (dQ true)]=RV.tup a))))∧((decide (op < 1))=(!false)→tU4 (RV.tup f=RV.tup a))))) ?_
  delta dJ dQ
  simp only [sS]
  refine ⟨fun h1=>⟨fun h2=>?_,fun h2=>⟨⟨by omega,by omega⟩,?_⟩⟩,fun h1=>?_⟩
  ·have h:¬ (1≤op∧op < 13):=by omega
   simp [zZr,zJs,h]
  ·have h:1≤op∧op < 13:=by omega
   clear h1 h2
   rcases zX7 h with rfl | rfl | rfl | rfl | rfl | rfl | rfl | rfl | rfl | rfl | rfl | rfl <;> exact ⟨⟨rfl,rfl,rfl,rfl⟩,⟨rfl,rfl,rfl,rfl⟩,rfl⟩
  ·have h:¬ (1≤op∧op < 13):=by omega
   simp [zZr,zJs,h]
theorem zQq (op:Int):Ans prog 70 [rJ (op)] (RV.d (DV.str (zZr op))):=
 zQa (Γ:=zH1) Ann.leaf zQg Tryz.func70 rfl (nL rfl) fun hwf=>by
  refine Eq.mpr (by kernel_rfl:_=(tU2 ((Ans prog 73 [rJ op] (RV.tup [RV.agg [DV.str (zZr op),dJ (zJs op 1),dJ (zJs op 2),dJ (zJs op 3)],RV.d (dQ (decide (1≤op∧op < 13)))]))∧True∧tU8 (RV.d (DV.str (zZr op))=RV.d (DV.str (zZr op)))))) ?_
  delta dJ dQ rJ
  simp only [sS,zQi]
theorem zQu (op:Int):Ans prog 91 [rJ (op)] (RV.d (dQ (decide (1≤op∧op < 13)))):=
 zQa (Γ:=zH1) Ann.leaf zQg Tryz.func91 rfl (nL rfl) fun hwf=>by
  refine Eq.mpr (by kernel_rfl:_=(let a:=(dQ (decide (1≤op∧op < 13))); tU4 (((decide (op≥1))=true→tU4 (RV.d (dQ (decide (op≤12)))=RV.d a))∧((decide (op≥1))=(!true)→tU2 (RV.d (dQ false)=RV.d a))))) ?_
  delta dQ
  simp only [sS,zQi,zQq]
  by_cases h:op≥1 <;> simp [h] <;> omega
theorem zQA (op:Int):Ans prog 71 [rJ (op)] (RV.d (DV.str (zZi op))):=
 zQa (Γ:=zH1) Ann.leaf zQg Tryz.func71 rfl (nL rfl) fun hwf=>by
  refine Eq.mpr (by kernel_rfl:_=(let a:=(DV.str (sAt zJZ (0+op.toNat*1))); tU2 ((Ans prog 91 [rJ op] (RV.d (dQ (decide (1≤op∧op < 13)))))∧True∧(((!(decide (1≤op∧op < 13)))=true→True∧RV.d (DV.str (⟨#[]⟩:ByteArray))=RV.d (DV.str (zZi op)))∧((!(decide (1≤op∧op < 13)))=false→True∧(0≤op∧op < ((13:Nat):Int))∧((zJZ[0+op.toNat*1]?=some a)∧True)∧True∧RV.d a=RV.d (DV.str (zZi op))))))) ?_
  delta dQ rJ
  simp only [sS,zQi,zQq,zQu]
  refine ⟨fun h=>by simp [zZi,h],fun h=>⟨⟨by omega,by omega⟩,?_⟩⟩
  rcases zX7 h with rfl | rfl | rfl | rfl | rfl | rfl | rfl | rfl | rfl | rfl | rfl | rfl <;> exact ⟨rfl,rfl⟩
theorem zQH (op:Int):Ans prog 107 [rJ (op)] (RV.d (DV.str (zZr op))):=
 zQa (Γ:=zH1) Ann.leaf zQg Tryz.func107 rfl (nL rfl) fun hwf=>by
  refine Eq.mpr (by kernel_rfl:_=(let a:=(DV.str (zZr op)); let b:=(DV.str (⟨#[]⟩:ByteArray)); let c:=(DV.str (sAt ([DV.str (⟨#[]⟩:ByteArray),DV.str (⟨#[99,108,101,97,114]⟩:ByteArray),DV.str (⟨#[115,114,99]⟩:ByteArray),DV.str (⟨#[100,115,116]⟩:ByteArray),DV.str (⟨#[115,114,99,45,111,118,101,114]⟩:ByteArray),DV.str (⟨#[100,115,116,45,111,118,101,114]⟩:ByteArray),DV.str (⟨#[115,114,99,45,105,110]⟩:ByteArray),DV.str (⟨#[100,115,116,45,105,110]⟩:ByteArray),DV.str (⟨#[115,114,99,45,111,117,116]⟩:ByteArray),DV.str (⟨#[100,115,116,45,111,117,116]⟩:ByteArray),DV.str (⟨#[115,114,99,45,97,116,111,112]⟩:ByteArray),DV.str (⟨#[100,115,116,45,97,116,111,112]⟩:ByteArray),DV.str (⟨#[120,111,114]⟩:ByteArray)]) (op.toNat*1))); tU6 (((decide (op < 1))=false→tU2 ((13≤maxLen)∧tU2 (((decide (op≥((13:Nat):Int)))=true→True∧RV.d b=RV.d a)∧((decide (op≥((13:Nat):Int)))=false→tU2 ((0≤op∧op < ((13:Nat):Int))∧((([DV.str (⟨#[]⟩:ByteArray),DV.str (⟨#[99,108,101,97,114]⟩:ByteArray),DV.str (⟨#[115,114,99]⟩:ByteArray),DV.str (⟨#[100,115,116]⟩:ByteArray),DV.str (⟨#[115,114,99,45,111,118,101,114]⟩:ByteArray),DV.str (⟨#[100,115,116,45,111,118,101,114]⟩:ByteArray),DV.str (⟨#[115,114,99,45,105,110]⟩:ByteArray),DV.str (⟨#[100,115,116,45,105,110]⟩:ByteArray),DV.str (⟨#[115,114,99,45,111,117,116]⟩:ByteArray),DV.str (⟨#[100,115,116,45,111,117,116]⟩:ByteArray),DV.str (⟨#[115,114,99,45,97,116,111,112]⟩:ByteArray),DV.str (⟨#[100,115,116,45,97,116,111,112]⟩:ByteArray),DV.str (⟨#[120,111,114]⟩:ByteArray)])[op.toNat*1]?=some c)∧True)∧True∧RV.d c=RV.d a)))))∧((decide (op < 1))=(!false)→tU2 (RV.d b=RV.d a))))) ?_
  simp only [sS,zQi,zQq,zQu,zQA]
  refine ⟨fun h1=>⟨by decide,fun h2=>?_,fun h2=>⟨⟨by omega,by omega⟩,?_⟩⟩,fun h1=>?_⟩
  ·have h:¬ (1≤op∧op < 13):=by omega
   simp [zZr,h]
  ·have h:1≤op∧op < 13:=by omega
   clear h1 h2
   rcases zX7 h with rfl | rfl | rfl | rfl | rfl | rfl | rfl | rfl | rfl | rfl | rfl | rfl <;> exact ⟨rfl,rfl⟩
  ·have h:¬ (1≤op∧op < 13):=by omega
   simp [zZr,h]
theorem zQB (op:Int):Ans prog 108 [rJ (op)] (RV.d (DV.str (zZi op))):=
 zQa (Γ:=zH1) Ann.leaf zQg Tryz.func108 rfl (nL rfl) fun hwf=>by
  refine Eq.mpr (by kernel_rfl:_=(let a:=(DV.str (zZi op)); let b:=(DV.str (⟨#[]⟩:ByteArray)); let c:=(DV.str (sAt ([DV.str (⟨#[]⟩:ByteArray),DV.str (⟨#[110,111,114,109,97,108]⟩:ByteArray),DV.str (⟨#[109,117,108,116,105,112,108,121]⟩:ByteArray),DV.str (⟨#[115,99,114,101,101,110]⟩:ByteArray),DV.str (⟨#[111,118,101,114,108,97,121]⟩:ByteArray),DV.str (⟨#[100,97,114,107,101,110]⟩:ByteArray),DV.str (⟨#[108,105,103,104,116,101,110]⟩:ByteArray),DV.str (⟨#[99,111,108,111,114,45,100,111,100,103,101]⟩:ByteArray),DV.str (⟨#[99,111,108,111,114,45,98,117,114,110]⟩:ByteArray),DV.str (⟨#[104,97,114,100,45,108,105,103,104,116]⟩:ByteArray),DV.str (⟨#[115,111,102,116,45,108,105,103,104,116]⟩:ByteArray),DV.str (⟨#[100,105,102,102,101,114,101,110,99,101]⟩:ByteArray),DV.str (⟨#[101,120,99,108,117,115,105,111,110]⟩:ByteArray)]) (op.toNat*1))); tU6 (((decide (op < 1))=false→tU2 ((13≤maxLen)∧tU2 (((decide (op≥((13:Nat):Int)))=true→True∧RV.d b=RV.d a)∧((decide (op≥((13:Nat):Int)))=false→tU2 ((0≤op∧op < ((13:Nat):Int))∧((([DV.str (⟨#[]⟩:ByteArray),DV.str (⟨#[110,111,114,109,97,108]⟩:ByteArray),DV.str (⟨#[109,117,108,116,105,112,108,121]⟩:ByteArray),DV.str (⟨#[115,99,114,101,101,110]⟩:ByteArray),DV.str (⟨#[111,118,101,114,108,97,121]⟩:ByteArray),DV.str (⟨#[100,97,114,107,101,110]⟩:ByteArray),DV.str (⟨#[108,105,103,104,116,101,110]⟩:ByteArray),DV.str (⟨#[99,111,108,111,114,45,100,111,100,103,101]⟩:ByteArray),DV.str (⟨#[99,111,108,111,114,45,98,117,114,110]⟩:ByteArray),DV.str (⟨#[104,97,114,100,45,108,105,103,104,116]⟩:ByteArray),DV.str (⟨#[115,111,102,116,45,108,105,103,104,116]⟩:ByteArray),DV.str (⟨#[100,105,102,102,101,114,101,110,99,101]⟩:ByteArray),DV.str (⟨#[101,120,99,108,117,115,105,111,110]⟩:ByteArray)])[op.toNat*1]?=some c)∧True)∧True∧RV.d c=RV.d a)))))∧((decide (op < 1))=(!false)→tU2 (RV.d b=RV.d a))))) ?_
  simp only [sS,zQi,zQq,zQu,zQA,zQH]
  refine ⟨fun h1=>⟨by decide,fun h2=>?_,fun h2=>⟨⟨by omega,by omega⟩,?_⟩⟩,fun h1=>?_⟩
  ·have h:¬ (1≤op∧op < 13):=by omega
   simp [zZi,h]
  ·have h:1≤op∧op < 13:=by omega
   clear h1 h2
   rcases zX7 h with rfl | rfl | rfl | rfl | rfl | rfl | rfl | rfl | rfl | rfl | rfl | rfl <;> exact ⟨rfl,rfl⟩
  ·have h:¬ (1≤op∧op < 13):=by omega
   simp [zZi,h]
theorem zQV (op:Int):Ans prog 98 [rJ (op)] (RV.d (dQ (decide (1≤op∧op < 13)))):=
 zQa (Γ:=zH1) Ann.leaf zQg Tryz.func98 rfl (nL rfl) fun hwf=>by
  refine Eq.mpr (by kernel_rfl:_=(tU2 ((Ans prog 107 [rJ op] (RV.d (DV.str (zZr op))))∧tU2 (RV.d (dQ (!((zZr op).toList==(⟨#[]⟩:ByteArray).toList)))=RV.d (dQ (decide (1≤op∧op < 13))))))) ?_
  delta dQ rJ
  simp only [sS,zQi,zQq,zQu,zQA,zQH,zQB]
  rw [zVI]; simp
theorem zQI (op:Int):Ans prog 99 [rJ (op)] (RV.d (dQ (decide (1≤op∧op < 13)))):=
 zQa (Γ:=zH1) Ann.leaf zQg Tryz.func99 rfl (nL rfl) fun hwf=>by
  refine Eq.mpr (by kernel_rfl:_=(tU2 ((Ans prog 108 [rJ op] (RV.d (DV.str (zZi op))))∧tU2 (RV.d (dQ (!((zZi op).toList==(⟨#[]⟩:ByteArray).toList)))=RV.d (dQ (decide (1≤op∧op < 13))))))) ?_
  delta dQ rJ
  simp only [sS,zQi,zQq,zQu,zQA,zQH,zQB,zQV]
  rw [zKe]; simp
def gZ22 (xs:List RV):Option RV:=match xs with | [.d (.sl n xs)]=>some (RV.d (dQ ((ints xs).all zZA))) | _=>none
def gZ23 (xs:List RV):Option RV:=match xs with | [.agg [.int _ okind,.int _ oimage,.int _ ox,.int _ oy,.int _ omask,.int _ omx,.int _ omy,.int _ oopac,.int _ ooper,.int _ omode,.bool oiso,.bool okno]]=>some (RV.d (dQ (Oq.fields ⟨okind,oimage,ox,oy,omask,omx,omy,oopac,ooper,omode,oiso,okno⟩))) | _=>none
def gZ24 (xs:List RV):Option RV:=match xs with | [.d (.sl n xs)]=>some (RV.d (dQ (ctxB (zQd xs)))) | _=>none
def jYn:Gam where
 pure:=fun f xs=>
  if f=66 then gZ22 xs else
  if f=85 then (match xs with | [.d (.int _ v)]=>some (RV.d (dQ (!zZA v))) | _=>none) else
  if f=69 then gZ23 xs else
  if f=97 then (match xs with | [.agg [.int _ okind,.int _ oimage,.int _ ox,.int _ oy,.int _ omask,.int _ omx,.int _ omy,.int _ oopac,.int _ ooper,.int _ omode,.bool oiso,.bool okno]]=>some (RV.d (dQ (Oq.spare ⟨okind,oimage,ox,oy,omask,omx,omy,oopac,ooper,omode,oiso,okno⟩))) | _=>none) else
  if f=72 then gZ24 xs else
  none
 modes:=fun f=>
  none
 proc:=fun f xs bs=>
  none
 iter:=fun f cs=>
  none
theorem zZb (v:Int):Ans prog 85 [rJ (v)] (RV.d (dQ (!zZA v))):=
 zQa (Γ:=jYn) Ann.leaf zQg Tryz.func85 rfl (nL rfl) fun hwf=>by
  refine Eq.mpr (by kernel_rfl:_=(let a:=(decide (v < (-1048576:Int))); tU4 ((a=false→tU4 (RV.d (dQ (decide (v > 1048576)))=RV.d (dQ (!zZA v))))∧(a=(!false)→tU2 (RV.d (dQ true)=RV.d (dQ (!zZA v))))))) ?_
  delta dQ
  simp only [sS,zQi,zQq,zQu,zQA,zQH,zQB,zQV,zQI]
  simp only [zZA,← decide_not]; by_cases h:v < -1048576 <;> simp [h] <;> omega
theorem zQK (o:Oq):Ans prog 69 [RV.agg [dJ o.kind,dJ o.image,dJ o.x,dJ o.y,dJ o.mask,dJ o.mx,dJ o.my,dK o.opac,dJ o.oper,dJ o.mode,dQ o.iso,dQ o.kno]] (RV.d (dQ (Oq.fields ⟨o.kind,o.image,o.x,o.y,o.mask,o.mx,o.my,o.opac,o.oper,o.mode,o.iso,o.kno⟩))):=
 zQa (Γ:=jYn) Ann.leaf zQg Tryz.func69 rfl (nL rfl) fun hwf=>by
  refine Eq.mpr (by kernel_rfl:_=(let a:=(dQ (Oq.fields ⟨o.kind,o.image,o.x,o.y,o.mask,o.mx,o.my,o.opac,o.oper,o.mode,o.iso,o.kno⟩)); let b:=(RV.d (dQ false)=RV.d a); let c:=(((o.mask != 0)=false→tU4 (((o.mx==0)=true→tU6 (RV.d (dQ (o.my==0))=RV.d a))∧((o.mx==0)=(!true)→tU3 b)))∧((o.mask != 0)=(!false)→tU2 (RV.d (dQ true)=RV.d a))); let d:=(((o.kind==2)=true→tU4 (((o.image != 0)=false→tU5 (((o.x != 0)=false→tU6 (((o.y != 0)=true→True∧RV.d (dQ false)=RV.d a)∧((o.y != 0)=false→tU4 c)))∧((o.x != 0)=(!false)→tU4 b)))∧((o.image != 0)=(!false)→tU6 b)))∧((o.kind==2)=(!true)→tU6 c)); tU6 (((o.kind==3)=true→tU4 (RV.d (dQ ((o.kind==3) && ((o.image==0) && ((o.x==0) && ((o.y==0) && ((o.mask==0) && ((o.mx==0) && ((o.my==0) && ((o.opac==0) && ((o.oper==0) && ((o.mode==0) && ((o.iso==false) && ((o.kno==false) && true)))))))))))))=RV.d a))∧((o.kind==3)=false→tU4 (((o.kind==1)=true→tU3 ((o.iso=false→tU5 ((o.kno=true→True∧RV.d (dQ false)=RV.d a)∧(o.kno=false→tU4 d)))∧(o.iso=(!false)→tU4 b)))∧((o.kind==1)=(!true)→tU6 d)))))) ?_
  delta dQ
  simp only [sS,zQi,zQq,zQu,zQA,zQH,zQB,zQV,zQI,zZb]
  obtain ⟨okind,oimage,ox,oy,omask,omx,omy,oopac,ooper,omode,oiso,okno⟩:=o
  simp only [Oq.fields,popO,Oq.mk.injEq]
  have hb:∀ a c:Int,(a==c)=decide (a=c):=fun _ _=>rfl
  have hn:∀ a c:Int,(a != c)=!decide (a=c):=fun _ _=>rfl
  simp only [hb,hn]
  cases oiso <;> cases okno <;> by_cases h3:okind=3 <;> by_cases h1:okind=1 <;> by_cases h2:okind=2 <;> by_cases h0:omask=0 <;> simp [h3,h1,h2,h0,Bool.or_assoc] <;> first | omega | grind | skip
theorem zZT (o:Oq):Ans prog 97 [RV.agg [dJ o.kind,dJ o.image,dJ o.x,dJ o.y,dJ o.mask,dJ o.mx,dJ o.my,dK o.opac,dJ o.oper,dJ o.mode,dQ o.iso,dQ o.kno]] (RV.d (dQ (Oq.spare ⟨o.kind,o.image,o.x,o.y,o.mask,o.mx,o.my,o.opac,o.oper,o.mode,o.iso,o.kno⟩))):=
 zQa (Γ:=jYn) Ann.leaf zQg Tryz.func97 rfl (nL rfl) fun hwf=>by
  refine Eq.mpr (by kernel_rfl:_=(let c:=(o.mask==o.mask); let d:=((o.iso==false) && ((o.kno==false) && true)); let a:=(o.kind==o.kind); let e:=((o.opac==o.opac) && ((o.oper==o.oper) && ((o.mode==o.mode) && ((o.iso==o.iso) && ((o.kno==o.kno) && true))))); let f:=((o.opac==o.opac) && ((o.oper==o.oper) && ((o.mode==o.mode) && d))); let b:=(dQ (Oq.spare ⟨o.kind,o.image,o.x,o.y,o.mask,o.mx,o.my,o.opac,o.oper,o.mode,o.iso,o.kno⟩)); tU2 (tU8 (((o.kind==3)=true→tU4 (RV.d (dQ (!(a && ((o.image==0) && ((o.x==0) && ((o.y==0) && ((o.mask==0) && ((o.mx==0) && ((o.my==0) && ((o.opac==0) && ((o.oper==0) && ((o.mode==0) && d))))))))))))=RV.d b))∧((o.kind==3)=false→tU5 (((o.kind==1)=true→tU7 (((o.mask==0)=true→tU8 (RV.d (dQ (!(a && ((o.image==o.image) && ((o.x==o.x) && ((o.y==o.y) && (c && ((o.mx==0) && ((o.my==0) && f)))))))))=RV.d b))∧((o.mask==0)=false→tU4 (RV.d (dQ (!(a && ((o.image==o.image) && ((o.x==o.x) && ((o.y==o.y) && (c && ((o.mx==o.mx) && ((o.my==o.my) && f)))))))))=RV.d b))))∧((o.kind==1)=false→True∧tU8 (((o.mask==0)=true→tU8 (RV.d (dQ (!(a && ((o.image==0) && ((o.x==0) && ((o.y==0) && (c && ((o.mx==0) && ((o.my==0) && e)))))))))=RV.d b))∧((o.mask==0)=false→tU4 (RV.d (dQ (!(a && ((o.image==0) && ((o.x==0) && ((o.y==0) && (c && ((o.mx==o.mx) && ((o.my==o.my) && e)))))))))=RV.d b)))))))))) ?_
  delta dQ
  simp only [sS,zQi,zQq,zQu,zQA,zQH,zQB,zQV,zQI,zZb,zQK]
  obtain ⟨okind,oimage,ox,oy,omask,omx,omy,oopac,ooper,omode,oiso,okno⟩:=o
  simp only [Oq.spare,popO,Oq.mk.injEq]
  have hb:∀ a c:Int,(a==c)=decide (a=c):=fun _ _=>rfl
  have hn:∀ a c:Int,(a != c)=!decide (a=c):=fun _ _=>rfl
  simp only [hb,hn]
  cases oiso <;> cases okno <;> by_cases h3:okind=3 <;> by_cases h1:okind=1 <;> by_cases h2:okind=2 <;> by_cases h0:omask=0 <;> simp [h3,h1,h2,h0,Bool.or_assoc] <;> first | omega | grind | skip
theorem zYC (n:Nat) (xs:List DV) (hx:xs=is (ints xs)∧n=xs.length):Ans prog 66 [RV.d (dS n xs)] (RV.d (dQ ((ints xs).all zZA))):=
 zQa (Γ:=jYn) (Ann.seq Ann.leaf (Ann.seq (Ann.seq Ann.leaf (Ann.loop ⟨Nat,fun k=>k≤n∧((ints xs).take k).all zZA=true,fun k=>⟨[(0,AV.one (Cl.d (dS n xs))),(5,AV.one (Cl.d (dS n xs))),(6,aJ (n:Int)),(7,aJ (k:Int))],[]⟩,fun k=>n - k⟩ fun k=>Ann.leaf)) Ann.leaf)) zQg Tryz.func66 rfl (nL rfl) fun hwf=>by
  refine Eq.mpr (by kernel_rfl:_=(let a:=(dS n xs=dS n xs); let d:=fun (k:Nat)=>(k≤n∧((ints xs).take k).all zZA=true); let e:=(dJ (n:Int)=dJ (n:Int)); let b:=(dQ ((ints xs).all zZA)); tU4 ((∃ k:Nat,(d k)∧((a∧a∧e∧(dJ 0=dJ (k:Int))∧True)∧True))∧∀ k:Nat,let c:=(nAt xs ((k:Int).toNat*1)); let f:=(decide (c > 1048576)); let g:=(decide (c < (-1048576:Int))); (d k)→True∧(((decide ((k:Int) < (n:Int)))=true→(0≤(k:Int)∧(k:Int) < (n:Int)∧(k:Int).toNat*1 < xs.length)∧((xs[(k:Int).toNat*1]?=some (dJ c))∧True)∧tU4 ((g=false→tU3 ((f=true→True∧RV.d (dQ false)=RV.d b)∧(f=false→tU2 (∃ k':Nat,(k'≤n∧((ints xs).take k').all zZA=true)∧(n - k' < n - k)∧((a∧a∧e∧(dJ (wK ((k:Int)+1))=dJ (k':Int))∧True)∧True)))))∧(g=(!false)→tU2 (RV.d (dQ false)=RV.d b))))∧((decide ((k:Int) < (n:Int)))=false→True∧RV.d (dQ true)=RV.d b))))) ?_
  delta dJ dQ wK dS
  simp only [sS,zQi,zQq,zQu,zQA,zQH,zQB,zQV,zQI,zZb,zQK,zZT]
  obtain ⟨hx,rfl⟩:=hx
  generalize hl:ints xs=l at *
  subst hx
  simp only [zQN,Nat.mul_one] at *
  simp only [RV.wfs,RV.wf,DV.wf,maxLen,zQN] at hwf
  have stop:∀ k,k < l.length→zZA (l[k]?.getD 0)=false→l.all zZA=false:=fun k hk h=>by
   rw [List.getElem?_eq_getElem hk] at h
   exact List.all_eq_false.2 ⟨l[k],List.getElem_mem hk,by simpa using h⟩
  refine ⟨⟨0,⟨Nat.zero_le _,rfl⟩,rfl⟩,fun k hk=>⟨fun hlt=>?_,fun hge=>?_⟩⟩
  ·have h:k < l.length:=by omega
   have e:=zWR h
   have s0:=stop k h
   rw [List.getElem?_eq_getElem h] at s0
   simp only [Option.getD_some] at s0
   rw [e]
   refine ⟨⟨by omega,by omega,h⟩,jQW h,fun h1=>⟨fun h2=>(s0 (by simp [zZA]; omega)).symm,fun h2=>⟨k+1,⟨by omega,?_⟩,by omega,by rw [IntKind.wrap_i64]; omega⟩⟩,fun h1=>(s0 (by simp [zZA]; omega)).symm⟩
   rw [List.take_succ_eq_append_getElem h,List.all_append,hk.2]
   simp [zZA]; omega
  ·have:k=l.length:=by omega
   subst this
   rw [List.take_length] at hk
   exact hk.2.symm
theorem zJ1 (n:Nat) (xs:List DV) (hO:xs=ops (zQd xs)∧n=(zQd xs).length):Ans prog 72 [RV.d (dS n xs)] (RV.d (dQ (ctxB (zQd xs)))):=
 zQa (Γ:=jYn) Ann.leaf zQg Tryz.func72 rfl (nL rfl) fun hwf=>by
  refine Eq.mpr (by kernel_rfl:_=(let b:=(dQ (ctxB (zQd xs))); let a:=(wK ((n:Int) - 1)); let d:=(a.toNat*12+1+1+1+1+1+1+1+1+1+1+1); let c:=(bAt xs (a.toNat*12+1+1+1+1+1+1+1+1+1+1)); tU4 ((((n:Int)==0)=true→True∧RV.d (dQ true)=RV.d b)∧(((n:Int)==0)=false→tU4 ((0≤wK ((n:Int) - 1)∧wK ((n:Int) - 1) < (n:Int)∧a.toNat*12 < xs.length)∧((xs[a.toNat*12]?=some (dJ (nAt xs (a.toNat*12))))∧(xs[a.toNat*12+1]?=some (dJ (nAt xs (a.toNat*12+1))))∧(xs[a.toNat*12+1+1]?=some (dJ (nAt xs (a.toNat*12+1+1))))∧(xs[a.toNat*12+1+1+1]?=some (dJ (nAt xs (a.toNat*12+1+1+1))))∧(xs[a.toNat*12+1+1+1+1]?=some (dJ (nAt xs (a.toNat*12+1+1+1+1))))∧(xs[a.toNat*12+1+1+1+1+1]?=some (dJ (nAt xs (a.toNat*12+1+1+1+1+1))))∧(xs[a.toNat*12+1+1+1+1+1+1]?=some (dJ (nAt xs (a.toNat*12+1+1+1+1+1+1))))∧(xs[a.toNat*12+1+1+1+1+1+1+1]?=some (dK (nAt xs (a.toNat*12+1+1+1+1+1+1+1))))∧(xs[a.toNat*12+1+1+1+1+1+1+1+1]?=some (dJ (nAt xs (a.toNat*12+1+1+1+1+1+1+1+1))))∧(xs[a.toNat*12+1+1+1+1+1+1+1+1+1]?=some (dJ (nAt xs (a.toNat*12+1+1+1+1+1+1+1+1+1))))∧(xs[a.toNat*12+1+1+1+1+1+1+1+1+1+1]?=some (dQ c))∧(xs[a.toNat*12+1+1+1+1+1+1+1+1+1+1+1]?=some (dQ (bAt xs d)))∧True)∧tU5 ((c=true→tU5 (RV.d (dQ (!(bAt xs d)))=RV.d b))∧(c=(!true)→tU2 (RV.d (dQ false)=RV.d b)))))))) ?_
  delta dJ dK dQ wK
  simp only [sS,zQG,zQi,zQq,zQu,zQA,zQH,zQB,zQV,zQI,zZb,zQK,zZT]
  obtain ⟨hO,rfl⟩:=hO
  generalize zQd xs=l at *
  subst hO
  simp only [RV.wfs,RV.wf,DV.wf,maxLen] at hwf
  refine ⟨fun h=>?_,fun h=>?_⟩
  ·have:l=[]:=by simpa using h
   subst this; rfl
  ·obtain ⟨N,hN⟩:∃ N,l.length=N+1:=⟨l.length - 1,by have:l≠[]:=fun e=>(by subst e; simp at h); have:=List.length_pos_iff.2 this; omega⟩
   have e:IntKind.wrap .i64 ((l.length:Int) - 1)=(N:Int):=by rw [IntKind.wrap_i64]; omega
   have hN2:N < l.length:=by omega
   have q1:=zVG hN2
   have q2:=zVH hN2
   have q3:ctxB l=(l[N].iso && !l[N].kno):=by
    unfold ctxB
    rw [List.getLast?_eq_getElem?,show l.length - 1=N by omega,List.getElem?_eq_getElem hN2]
   simp only [e,Int.toNat_natCast,q3,q2,zQC]
   refine ⟨⟨by omega,by omega,by omega⟩,q1,fun h=>by rw [h]; rfl,fun h=>by rw [h]; rfl⟩
def zQ1 (b:Int):Int:=if b=8 then 255 else if b=16 then 65535 else 0
def zYj (b:Int):Bool:=decide (b=8∨b=16)
def errO (bits:Int) (mn:Nat) (o:Oq) (l:List Oq):Int:=
 if ¬ (o.kind=1∨o.kind=2∨o.kind=3) then 9
 else if o.fields=false then 10
 else if o.kind=3 then (if l=[] then 18 else 0)
 else if (o.kind=1∧(o.image < 0∨o.image≥(mn:Int)))∨o.mask < 0∨o.mask > (mn:Int) then 11
 else if ¬ (zZA o.x=true∧zZA o.y=true∧zZA o.mx=true∧zZA o.my=true) then 12
 else if o.opac > zQ1 bits then 13
 else if ¬ (1≤o.oper∧o.oper < 13) then 14
 else if ¬ (1≤o.mode∧o.mode < 13) then 15
 else if o.oper≠4∧ctxB l=false then 16
 else if o.kind=2∧64≤l.length then 17
 else 0
def zV6 (bits:Int) (mn:Nat) (ps:List Oq) (i:Int) (l:List Oq):Int:=
 if 0≤i then match ps[i.toNat]? with
  | some o=>errO bits mn o l
  | none=>21
 else 21
def gZ25 (xs:List RV):Option RV:=match xs with | [.d (.int _ b)]=>some (RV.tup [RV.d (dK (zQ1 b)),RV.d (dQ (zYj b))]) | _=>none
def gZ26 (xs:List RV):Option RV:=match xs with | [.agg [.int _ bits,.int _ cx0,.int _ cy0,.int _ cx1,.int _ cy1,.int _ tw,.int _ th,.sl on oxs,.sl mn mxs,.sl pn pxs],.d (.int _ at_),.d (.sl n xs)]=>some (rJ (zV6 bits mn (zQd pxs) at_ (zQd xs))) | _=>none
def jKq:Gam where
 pure:=fun f xs=>
  if f=70 then gZ19 xs else
  if f=71 then gZ21 xs else
  if f=66 then gZ22 xs else
  if f=69 then gZ23 xs else
  if f=72 then gZ24 xs else
  if f=64 then gZ25 xs else
  if f=44 then gZ25 xs else
  if f=39 then gZ26 xs else
  none
 modes:=fun f=>
  none
 proc:=fun f xs bs=>
  none
 iter:=fun f cs=>
  none
theorem zXI (b:Int):Ans prog 64 [rJ (b)] (RV.tup [RV.d (dK (zQ1 b)),RV.d (dQ (zYj b))]):=
 zQa (Γ:=jKq) Ann.leaf zQg Tryz.func64 rfl (nL rfl) fun hwf=>by
  refine Eq.mpr (by kernel_rfl:_=(let a:=[RV.d (dK (zQ1 b)),RV.d (dQ (zYj b))]; tU5 (((b==8)=true→tU2 (RV.tup [RV.d (dK 255),RV.d (dQ true)]=RV.tup a))∧((b==8)=false→tU2 (((b==16)=true→tU2 (RV.tup [RV.d (dK 65535),RV.d (dQ true)]=RV.tup a))∧((b==16)=false→tU2 (RV.tup [RV.d (dK 0),RV.d (dQ false)]=RV.tup a))))))) ?_
  delta dK dQ
  simp only [sS,zQi,zQq,zQu,zQA,zQH,zQB,zQV,zQI,zQK,zZb,zZT]
  simp [zQ1,zYj]; grind
theorem zJg (b:Int):Ans prog 44 [rJ (b)] (RV.tup [RV.d (dK (zQ1 b)),RV.d (dQ (zYj b))]):=
 zQa (Γ:=jKq) Ann.leaf zQg Tryz.func44 rfl (nL rfl) fun hwf=>by
  refine Eq.mpr (by kernel_rfl:_=(let a:=[RV.d (dK (zQ1 b)),RV.d (dQ (zYj b))]; tU5 (((b==8)=true→tU2 (RV.tup [RV.d (dK 255),RV.d (dQ true)]=RV.tup a))∧((b==8)=false→tU2 (((b==16)=true→tU2 (RV.tup [RV.d (dK 65535),RV.d (dQ true)]=RV.tup a))∧((b==16)=false→tU2 (RV.tup [RV.d (dK 0),RV.d (dQ false)]=RV.tup a))))))) ?_
  delta dK dQ
  simp only [sS,zQi,zQq,zQu,zQA,zQH,zQB,zQV,zQI,zQK,zZb,zZT,zXI]
  simp [zQ1,zYj]; grind
theorem zWe (bits cx0 cy0 cx1 cy1 tw th:Int) (on:Nat) (oxs:List DV) (mn:Nat) (mxs:List DV) (pn:Nat) (pxs:List DV) (at_:Int) (n:Nat) (xs:List DV) (hP:pxs=ops (zQd pxs)∧pn=(zQd pxs).length) (hO:xs=ops (zQd xs)∧n=(zQd xs).length):Ans prog 39 [RV.agg [dJ bits,dJ cx0,dJ cy0,dJ cx1,dJ cy1,dJ tw,dJ th,dS on oxs,dS mn mxs,dS pn pxs],rJ (at_),RV.d (dS n xs)] (rJ ((zV6 bits mn (zQd pxs) at_ (zQd xs)))):=
 zQa (Γ:=jKq) Ann.leaf zQg Tryz.func39 rfl (nL rfl) fun hwf=>by
  refine Eq.mpr (by kernel_rfl:_=(let f:=(nAt pxs (at_.toNat*12+1+1)); let g:=(nAt pxs (at_.toNat*12+1+1+1)); let h:=(nAt pxs (at_.toNat*12+1+1+1+1+1)); let l:=(bAt pxs (at_.toNat*12+1+1+1+1+1+1+1+1+1+1)); let i:=(nAt pxs (at_.toNat*12+1+1+1+1+1+1)); let m:=(bAt pxs (at_.toNat*12+1+1+1+1+1+1+1+1+1+1+1)); let j:=(nAt pxs (at_.toNat*12+1+1+1+1+1+1+1)); let y:=(decide (j > (zQ1 bits))); let c:=(nAt pxs (at_.toNat*12+1)); let o:=(decide (c≥(mn:Int))); let k:=(nAt pxs (at_.toNat*12+1+1+1+1+1+1+1+1+1)); let r:=(zZi k); let e:=(nAt pxs (at_.toNat*12+1+1+1+1)); let z:=(decide (e > (mn:Int))); let p:=(decide (e < 0)); let d:=(nAt pxs (at_.toNat*12+1+1+1+1+1+1+1+1)); let s:=(zZr d); let b:=(nAt pxs (at_.toNat*12)); let q:=(b==3); let t:=([dJ f,dJ g,dJ h,dJ i]); let A:=(!((ints t).all zZA)); let a:=(dJ (zV6 bits mn (zQd pxs) at_ (zQd xs))); let B:=(dJ d); let C:=(dJ k); let u:=(Ans prog 69 [RV.agg [dJ b,dJ c,dJ f,dJ g,dJ e,dJ h,dJ i,dK j,dJ d,dJ k,dQ l,dQ m]] (RV.d (dQ (Oq.fields ⟨b,c,f,g,e,h,i,j,d,k,l,m⟩)))); let v:=(Ans prog 66 [RV.d (dS 4 t)] (RV.d (dQ ((ints t).all zZA)))); let D:=(((b==2)=true→tU5 (((decide ((n:Int)≥64))=true→True∧rJ 17=RV.d a)∧((decide ((n:Int)≥64))=false→True∧rJ 0=RV.d a)))∧((b==2)=(!true)→tU3 (rJ 0=RV.d a))); let w:=((A=true→True∧rJ 12=RV.d a)∧(A=false→tU5 ((y=true→True∧rJ 13=RV.d a)∧(y=false→tU2 ((Ans prog 70 [RV.d B] (RV.d (DV.str s)))∧tU2 (((s.toList==(⟨#[]⟩:ByteArray).toList)=true→True∧rJ 14=RV.d a)∧((s.toList==(⟨#[]⟩:ByteArray).toList)=false→tU2 ((Ans prog 71 [RV.d C] (RV.d (DV.str r)))∧tU2 (((r.toList==(⟨#[]⟩:ByteArray).toList)=true→True∧rJ 15=RV.d a)∧((r.toList==(⟨#[]⟩:ByteArray).toList)=false→tU4 (((d != 4)=true→True∧(Ans prog 72 [RV.d (dS n xs)] (RV.d (dQ (ctxB (zQd xs)))))∧tU3 (((!(ctxB (zQd xs)))=true→True∧rJ 16=RV.d a)∧((!(ctxB (zQd xs)))=false→tU4 D)))∧((d != 4)=(!true)→tU6 D)))))))))))); let E:=((p=true→((p=true→True∧rJ 11=RV.d a)∧(p=false→True∧tU8 (v∧tU2 w))))∧(p=false→tU7 ((z=true→True∧rJ 11=RV.d a)∧(z=false→True∧tU8 (v∧tU2 w))))); let F:=((q=true→True∧rJ 0=RV.d a)∧(q=false→tU4 (((b==1)=true→tU4 (((decide (c < 0))=false→True∧tU8 ((o=true→((o=true→True∧rJ 11=RV.d a)∧(o=false→True∧tU8 (v∧tU2 w))))∧(o=false→tU4 E)))∧((decide (c < 0))=(!false)→tU4 (rJ 11=RV.d a))))∧((b==1)=(!true)→tU6 E)))); let x:=(((!(Oq.fields ⟨b,c,f,g,e,h,i,j,d,k,l,m⟩))=true→True∧rJ 10=RV.d a)∧((!(Oq.fields ⟨b,c,f,g,e,h,i,j,d,k,l,m⟩))=false→tU4 ((q=true→tU5 ((((n:Int)==0)=true→True∧rJ 18=RV.d a)∧(((n:Int)==0)=false→tU4 F)))∧(q=(!true)→tU6 F)))); tU5 (((decide (at_ < 0))=false→tU6 (((decide (at_≥(pn:Int)))=true→True∧rJ 21=RV.d a)∧((decide (at_≥(pn:Int)))=false→tU3 ((0≤at_∧at_ < (pn:Int)∧at_.toNat*12 < pxs.length)∧((pxs[at_.toNat*12]?=some (dJ b))∧(pxs[at_.toNat*12+1]?=some (dJ c))∧(pxs[at_.toNat*12+1+1]?=some (dJ f))∧(pxs[at_.toNat*12+1+1+1]?=some (dJ g))∧(pxs[at_.toNat*12+1+1+1+1]?=some (dJ e))∧(pxs[at_.toNat*12+1+1+1+1+1]?=some (dJ h))∧(pxs[at_.toNat*12+1+1+1+1+1+1]?=some (dJ i))∧(pxs[at_.toNat*12+1+1+1+1+1+1+1]?=some (dK j))∧(pxs[at_.toNat*12+1+1+1+1+1+1+1+1]?=some B)∧(pxs[at_.toNat*12+1+1+1+1+1+1+1+1+1]?=some C)∧(pxs[at_.toNat*12+1+1+1+1+1+1+1+1+1+1]?=some (dQ l))∧(pxs[at_.toNat*12+1+1+1+1+1+1+1+1+1+1+1]?=some (dQ m))∧True)∧tU4 ((Ans prog 64 [rJ bits] (RV.tup [RV.d (dK (zQ1 bits)),RV.d (dQ (zYj bits))]))∧True∧tU8 (((b != 1)=true→tU5 (((b != 2)=true→tU5 (((b != 3)=true→True∧rJ 9=RV.d a)∧((b != 3)=false→True∧u∧tU2 x)))∧((b != 2)=(!true)→tU3 (u∧tU2 x))))∧((b != 1)=(!true)→tU5 (u∧tU2 x))))))))∧((decide (at_ < 0))=(!false)→tU2 (rJ 21=RV.d a))))) ?_
  delta dJ dK dQ dS rJ
  simp only [sS,zQG,zQi,zQq,zQu,zQA,zQH,zQB,zQV,zQI,zQK,zZb,zZT,zXI,zJg]
  obtain ⟨hO,rfl⟩:=hO
  obtain ⟨hP,rfl⟩:=hP
  generalize zQd pxs=ps at *
  generalize zQd xs=l at *
  subst hO hP
  simp only [RV.wfs,RV.wf,DV.wf,maxLen] at hwf
  have hctx:=zJ1 l.length (ops l) ⟨by rw [zQG],by rw [zQG]⟩
  rw [zQG] at hctx
  have hnear:=fun a b c d=>zYC 4 [DV.int .i64 a,DV.int .i64 b,DV.int .i64 c,DV.int .i64 d] ⟨by simp [ints,is],rfl⟩
  have e0:at_ < 0→zV6 bits mn ps at_ l=21:=fun h=>by unfold zV6; rw [if_neg (by omega)]
  have e1:¬ at_ < 0→at_≥(ps.length:Int)→zV6 bits mn ps at_ l=21:=fun h h1=>by unfold zV6; rw [if_pos (by omega),List.getElem?_eq_none (by omega)]
  have e2:∀ (h:¬ at_ < 0) (h2:at_.toNat < ps.length),zV6 bits mn ps at_ l=errO bits mn ps[at_.toNat] l:=fun h h1=>by unfold zV6; rw [if_pos (by omega),List.getElem?_eq_getElem h1]
  refine ⟨fun h0=>⟨fun h1=>(e1 h0 h1).symm,fun h1=>?_⟩,fun h0=>(e0 h0).symm⟩
  have hk:at_.toNat < ps.length:=by omega
  have q1:=zVG hk
  have q2:=zVH hk
  have q3:=zQC ps
  rw [e2 h0 hk]
  simp only [q2,q3]
  refine ⟨⟨by omega,by omega,by omega⟩,q1,?_⟩
  have hsp:=@Oq.spare_fields ps[at_.toNat]
  generalize ps[at_.toNat]=o at *
  clear e0 e1 e2 q1 q2 q3 h0 h1 hk
  have hl:l.length=0↔l=[]:=by simp
  simp only [ints,List.map_cons,List.map_nil,List.all_cons,List.all_nil,Bool.and_true] at hnear ⊢
  have hfl:=zQK o
  have heta:(⟨o.kind,o.image,o.x,o.y,o.mask,o.mx,o.my,o.opac,o.oper,o.mode,o.iso,o.kno⟩:Oq)=o:=rfl
  simp only [heta] at hfl ⊢
  clear heta
  have hnm:=zVI o.oper
  have hmd:=zKe o.mode
  simp only [hnm,hmd,beq_iff_eq,beq_eq_false_iff_ne,bne_iff_ne,bne_eq_false_iff_eq,Bool.not_eq_true',Bool.not_eq_false',decide_eq_true_eq,decide_eq_false_iff_not]
  (repeat' (first | apply And.intro | intro _)) <;> (first | exact hnear _ _ _ _ | exact hctx | exact hfl | exact zZb _ | exact zZT _ | (unfold errO; clear hnear hctx hfl; grind))
def zX2 (bits:Int) (c:Rc) (tw th:Int) (l:List Int) (mn pn:Nat):Int:=
 if zYj bits=false then 1
 else if c.empty=true∨c.area > 16777216∨zZA c.a=false∨zZA c.b=false then 2
 else if (cntS c tw th).2.2=false then 3
 else if zZv l (IntKind.wrap .i64 ((cntS c tw th).1*(cntS c tw th).2.1))=false then 4
 else if (mn:Int) > 64∨(pn:Int) > 4096 then 5
 else 0
def gZ27 (xs:List RV):Option RV:=match xs with | [.agg [.int _ bits,.int _ cx0,.int _ cy0,.int _ cx1,.int _ cy1,.int _ tw,.int _ th,.sl on oxs,.sl mn mxs,.sl pn pxs]]=>some (rJ (zX2 bits ⟨cx0,cy0,cx1,cy1⟩ tw th (ints oxs) mn pn)) | _=>none
def jKZ:Gam where
 pure:=fun f xs=>
  if f=66 then gZ22 xs else
  if f=64 then gZ25 xs else
  if f=30 then gZ2 xs else
  if f=65 then gZ4 xs else
  if f=26 then gZ2 xs else
  if f=67 then gZ10 xs else
  if f=17 then gZ10 xs else
  if f=38 then gZ27 xs else
  none
 modes:=fun f=>
  if f=68 then some ([true,true],0,1) else
  none
 proc:=fun f xs bs=>
  if f=68 then gZ9 xs bs else
  none
 iter:=fun f cs=>
  none
theorem zVf (a b c d w h:Int):Ans prog 17 [RV.agg [dJ a,dJ b,dJ c,dJ d],rJ (w),rJ (h)] (RV.tup [rJ (((cntS ⟨a,b,c,d⟩ w h).1)),rJ (((cntS ⟨a,b,c,d⟩ w h).2.1)),RV.d (dQ ((cntS ⟨a,b,c,d⟩ w h).2.2))]):=
 zQa (Γ:=jKZ) Ann.leaf zQg Tryz.func17 rfl (nL rfl) fun hwf=>by
  refine Eq.mpr (by kernel_rfl:_=(let g:=[rJ 0,rJ 0,RV.d (dQ false)]; let f:=[rJ (cntS ⟨a,b,c,d⟩ w h).1,rJ (cntS ⟨a,b,c,d⟩ w h).2.1,RV.d (dQ (cntS ⟨a,b,c,d⟩ w h).2.2)]; let e:=(RV.tup g=RV.tup f); tU5 ((Ans prog 26 [RV.agg [dJ a,dJ b,dJ c,dJ d]] (RV.d (dQ (Rc.empty ⟨a,b,c,d⟩))))∧True∧(((Rc.empty ⟨a,b,c,d⟩)=false→tU4 (((decide (w < 1))=false→tU4 (((decide (h < 1))=false→True∧tU8 (((decide (w > (wK (c - a))))=false→tU8 (((decide (h > (wK (d - b))))=true→tU3 e)∧((decide (h > (wK (d - b))))=false→tU7 ((w≠0)∧tU8 ((h≠0)∧tU4 ((true=true)∧RV.tup [rJ (wK ((wK (Int.tdiv (wK ((wK (c - a)) - 1)) w))+1)),rJ (wK ((wK (Int.tdiv (wK ((wK (d - b)) - 1)) h))+1)),RV.d (dQ true)]=RV.tup f))))))∧((decide (w > (wK (c - a))))=(!false)→tU4 e)))∧((decide (h < 1))=(!false)→tU6 e)))∧((decide (w < 1))=(!false)→tU8 e)))∧((Rc.empty ⟨a,b,c,d⟩)=(!false)→tU2 (tU8 e)))))) ?_
  delta dJ dQ wK rJ
  simp only [sS,zZo,zQJ,zY1,zZl,zXI,zJg,zZb]
  unfold cntS
  cases he:Rc.empty ⟨a,b,c,d⟩
  ·obtain ⟨e1,e2,e3,e4,e5,e6⟩:=(Rc.empty_iff _).1 he
   simp only at e1 e2 e3 e4 e5 e6
   have w1:IntKind.wrap .i64 (c - a)=c - a:=by rw [IntKind.wrap_i64]; omega
   have w2:IntKind.wrap .i64 (d - b)=d - b:=by rw [IntKind.wrap_i64]; omega
   simp only [w1,w2]
   have hq:∀ W v:Int,1≤v→v≤W→W≤2147483648→IntKind.wrap .i64 (IntKind.wrap .i64 (Int.tdiv (IntKind.wrap .i64 (W - 1)) v)+1)=IntKind.wrap .i64 (Int.tdiv (IntKind.wrap .i64 (IntKind.wrap .i64 (W+v) - 1)) v):=fun W v h1 h2 h3=>by
    have a1:IntKind.wrap .i64 (W - 1)=W - 1:=by rw [IntKind.wrap_i64]; omega
    have a2:IntKind.wrap .i64 (W+v)=W+v:=by rw [IntKind.wrap_i64]; omega
    have a3:IntKind.wrap .i64 (W+v - 1)=W+v - 1:=by rw [IntKind.wrap_i64]; omega
    rw [a1,a2,a3,Int.tdiv_eq_ediv_of_nonneg (by omega),Int.tdiv_eq_ediv_of_nonneg (by omega)]
    have b1:(W+v - 1) / v=(W - 1) / v+1:=by rw [show W+v - 1=(W - 1)+1*v by omega,Int.add_mul_ediv_right _ _ (by omega)]
    rw [b1]
    have b2:0≤(W - 1) / v:=Int.ediv_nonneg (by omega) (by omega)
    have b3:(W - 1) / v≤W - 1:=Int.ediv_le_self _ (by omega)
    rw [IntKind.wrap_i64 ((W - 1) / v)]
    congr 1
    omega
   by_cases h1:w < 1 <;> by_cases h3:h < 1 <;> by_cases h2:c - a < w <;> by_cases h4:d - b < h <;> simp [h1,h2,h3,h4] <;> first | omega | exact ⟨by omega,by omega,hq _ _ (by omega) (by omega) (by omega),hq _ _ (by omega) (by omega) (by omega)⟩
  ·simp
theorem zKF (bits cx0 cy0 cx1 cy1 tw th:Int) (on:Nat) (oxs:List DV) (mn:Nat) (mxs:List DV) (pn:Nat) (pxs:List DV) (hO:oxs=is (ints oxs)∧on=oxs.length):Ans prog 38 [RV.agg [dJ bits,dJ cx0,dJ cy0,dJ cx1,dJ cy1,dJ tw,dJ th,dS on oxs,dS mn mxs,dS pn pxs]] (rJ ((zX2 bits ⟨cx0,cy0,cx1,cy1⟩ tw th (ints oxs) mn pn))):=
 zQa (Γ:=jKZ) Ann.leaf zQg Tryz.func38 rfl (nL rfl) fun hwf=>by
  refine Eq.mpr (by kernel_rfl:_=(let c:=([dJ cx0,dJ cy0]); let f:=(!((ints c).all zZA)); let a:=(dJ (zX2 bits ⟨cx0,cy0,cx1,cy1⟩ tw th (ints oxs) mn pn)); let g:=[dJ cx0,dJ cy0,dJ cx1,dJ cy1]; let h:=[RV.agg g]; let d:=(Rc.empty ⟨cx0,cy0,cx1,cy1⟩); let e:=(Rc.area ⟨cx0,cy0,cx1,cy1⟩); let b:=(wK ((cntS ⟨cx0,cy0,cx1,cy1⟩ tw th).1*(cntS ⟨cx0,cy0,cx1,cy1⟩ tw th).2.1)); tU4 ((Ans prog 64 [rJ bits] (RV.tup [RV.d (dK (zQ1 bits)),RV.d (dQ (zYj bits))]))∧tU7 (((!(zYj bits))=true→True∧rJ 1=RV.d a)∧((!(zYj bits))=false→tU5 ((Ans prog 30 h (RV.d (dQ d)))∧True∧((d=false→True∧(Ans prog 65 h (rJ e))∧tU3 (((decide (e > 16777216))=false→tU5 ((Ans prog 66 [RV.d (dS 2 c)] (RV.d (dQ ((ints c).all zZA))))∧tU2 ((f=true→True∧rJ 2=RV.d a)∧(f=false→tU5 ((Ans prog 67 [RV.agg g,rJ tw,rJ th] (RV.tup [rJ (cntS ⟨cx0,cy0,cx1,cy1⟩ tw th).1,rJ (cntS ⟨cx0,cy0,cx1,cy1⟩ tw th).2.1,RV.d (dQ (cntS ⟨cx0,cy0,cx1,cy1⟩ tw th).2.2)]))∧True∧tU8 (((!(cntS ⟨cx0,cy0,cx1,cy1⟩ tw th).2.2)=true→True∧rJ 3=RV.d a)∧((!(cntS ⟨cx0,cy0,cx1,cy1⟩ tw th).2.2)=false→tU5 ((AnsG prog 68 0 [AV.one (Cl.d (dS on oxs)),aJ b] [] ⟨AV.tup [AV.one (Cl.ref 0 (zX1 (ints oxs) b).length),AV.one (Cl.d (dQ (zZv (ints oxs) b)))],[Bx.row 3 1 (is (zX1 (ints oxs) b))],true⟩)∧tU7 (((!(zZv (ints oxs) b))=true→True∧rJ 4=RV.d a)∧((!(zZv (ints oxs) b))=false→tU5 (((decide ((mn:Int) > 64))=false→tU5 (((decide ((pn:Int) > 4096))=true→True∧rJ 5=RV.d a)∧((decide ((pn:Int) > 4096))=false→True∧rJ 0=RV.d a)))∧((decide ((mn:Int) > 64))=(!false)→tU2 (rJ 5=RV.d a)))))))))))))∧((decide (e > 16777216))=(!false)→tU2 (rJ 2=RV.d a))))∧(d=(!false)→tU4 (rJ 2=RV.d a))))))))) ?_
  delta dJ dK dQ wK dS rJ aJ
  simp only [sS,zZo,zQJ,zY1,zZl,zXI,zJg,zZb,zVf]
  obtain ⟨hO,rfl⟩:=hO
  generalize ints oxs=l at *
  subst hO
  have hord:=fun M=>zUq (is l).length (is l) M ⟨by rw [zZ8],rfl⟩
  have hnear:=fun a b=>zYC 2 [DV.int .i64 a,DV.int .i64 b] ⟨by simp [ints,is],rfl⟩
  have hcnt:=zUr cx0 cy0 cx1 cy1 tw th
  simp only [zZ8] at hord
  simp only [ints,List.map_cons,List.map_nil,List.all_cons,List.all_nil,Bool.and_true] at hnear ⊢
  have he:1=1:=rfl
  (repeat' (first | apply And.intro | intro _)) <;> (first | exact hnear _ _ | exact hcnt | exact hord _ | exact zZb _ | rfl | (unfold zX2; clear hnear hcnt hord; simp only; grind))
theorem zGD:∀ (l:List Oq) (k:Nat),(ops l).take (k*12)=ops (l.take k)
 | [],k=>by simp [ops]
 | o::l,0=>by simp [ops]
 | o::l,k+1=>by
  have e:ops (o::l)=o.cells++ops l:=by simp [ops]
  have e2:ops ((o::l).take (k+1))=o.cells++ops (l.take k):=by simp [ops]
  rw [e,e2,List.take_append,List.take_of_length_le (by simp [Oq.cells]; omega),← zGD l k]
  congr 2
  simp [Oq.cells]; omega
def zZX (o:Oq) (st:List Oq):List Oq:=if o.kind=2 then st++[o] else if o.kind=3 then st.dropLast else st
def runO (bits:Int) (mn:Nat):List Oq→Int→List Oq→Int × Int
 | [],i,st=>if st=[] then (0,0) else (18,i)
 | o::r,i,st=>if errO bits mn o st=0 then runO bits mn r (i+1) (zZX o st) else (errO bits mn o st,i)
def opsE (bits:Int) (c:Rc) (tw th:Int) (l:List Int) (mn:Nat) (ps:List Oq):Int × Int:=
 if zX2 bits c tw th l mn ps.length=0 then runO bits mn ps 0 [] else (zX2 bits c tw th l mn ps.length,0)
def gZ28 (xs:List RV):Option RV:=match xs with | [.agg [.int _ bits,.int _ cx0,.int _ cy0,.int _ cx1,.int _ cy1,.int _ tw,.int _ th,.sl on oxs,.sl mn mxs,.sl pn pxs]]=>some (RV.tup [rJ (opsE bits ⟨cx0,cy0,cx1,cy1⟩ tw th (ints oxs) mn (zQd pxs)).1,rJ (opsE bits ⟨cx0,cy0,cx1,cy1⟩ tw th (ints oxs) mn (zQd pxs)).2]) | _=>none
def jVf:Gam where
 pure:=fun f xs=>
  if f=39 then gZ26 xs else
  if f=38 then gZ27 xs else
  if f=22 then gZ28 xs else
  none
 modes:=fun f=>
  none
 proc:=fun f xs bs=>
  none
 iter:=fun f cs=>
  none
theorem zVY (bits cx0 cy0 cx1 cy1 tw th:Int) (on:Nat) (oxs:List DV) (mn:Nat) (mxs:List DV) (pn:Nat) (pxs:List DV) (hP:pxs=ops (zQd pxs)∧pn=(zQd pxs).length) (hO:oxs=is (ints oxs)∧on=oxs.length):Ans prog 22 [RV.agg [dJ bits,dJ cx0,dJ cy0,dJ cx1,dJ cy1,dJ tw,dJ th,dS on oxs,dS mn mxs,dS pn pxs]] (RV.tup [rJ (((opsE bits ⟨cx0,cy0,cx1,cy1⟩ tw th (ints oxs) mn (zQd pxs)).1)),rJ (((opsE bits ⟨cx0,cy0,cx1,cy1⟩ tw th (ints oxs) mn (zQd pxs)).2))]):=
 zQa (Γ:=jVf) (Ann.seq Ann.leaf (Ann.seq Ann.leaf (Ann.seq Ann.leaf (Ann.seq (Ann.seq Ann.leaf (Ann.loop ⟨Nat × List Oq,fun z:Nat × List Oq=>z.1≤pn∧z.2.length≤64∧runO bits mn ((zQd pxs).drop z.1) (z.1:Int) z.2=runO bits mn (zQd pxs) 0 [],fun z:Nat × List Oq=>⟨[(1,AV.one (Cl.ptr 1 0)),(5,AV.one (Cl.ref 1005 z.2.length)),(15,AV.one (Cl.d (dS pn pxs))),(16,aJ (pn:Int)),(17,aJ (z.1:Int))],[(1,bC [cJ bits,cJ cx0,cJ cy0,cJ cx1,cJ cy1,cJ tw,cJ th,Cl.d (dS on oxs),Cl.d (dS mn mxs),Cl.d (dS pn pxs)]),(1005,Bx.row 44 12 (ops z.2))]⟩,fun z:Nat × List Oq=>pn - z.1⟩ fun z=>Ann.leaf)) Ann.leaf)))) zQg Tryz.func22 rfl (nL rfl) fun hwf=>by
  refine Eq.mpr (by kernel_rfl:_=(let b:=[dJ bits,dJ cx0,dJ cy0,dJ cx1,dJ cy1,dJ tw,dJ th,dS on oxs,dS mn mxs,dS pn pxs]; let l:=(dJ (zX2 bits ⟨cx0,cy0,cx1,cy1⟩ tw th (ints oxs) mn pn)); let c:=[rJ (opsE bits ⟨cx0,cy0,cx1,cy1⟩ tw th (ints oxs) mn (zQd pxs)).1,rJ (opsE bits ⟨cx0,cy0,cx1,cy1⟩ tw th (ints oxs) mn (zQd pxs)).2]; let m:=fun (z:Nat × List Oq)=>(z.1≤pn∧z.2.length≤64∧runO bits mn ((zQd pxs).drop z.1) (z.1:Int) z.2=runO bits mn (zQd pxs) 0 []); let d:=(dS pn pxs=dS pn pxs); let e:=(dJ (pn:Int)=dJ (pn:Int)); let f:=(b=b); let j:=fun (z':Nat × List Oq)=>(z'.1≤pn∧z'.2.length≤64∧runO bits mn ((zQd pxs).drop z'.1) (z'.1:Int) z'.2=runO bits mn (zQd pxs) 0 []); let k:=fun (z:Nat × List Oq)=>fun (z':Nat × List Oq)=>(dJ (wK ((z.1:Int)+1))=dJ (z'.1:Int)); tU4 ((Ans prog 38 [RV.agg b] (RV.d l))∧tU3 ((((zX2 bits ⟨cx0,cy0,cx1,cy1⟩ tw th (ints oxs) mn pn) != 0)=true→tU3 (RV.tup [RV.d l,rJ 0]=RV.tup c))∧(((zX2 bits ⟨cx0,cy0,cx1,cy1⟩ tw th (ints oxs) mn pn) != 0)=false→tU5 ((∃ z:Nat × List Oq,(m z)∧(((0=0)∧(0=z.2.length)∧d∧e∧(dJ 0=dJ (z.1:Int))∧True)∧(f∧([]=ops z.2)∧True)))∧∀ z:Nat × List Oq,let n:=(decide ((z.1:Int) < (pn:Int))); let o:=(nAt pxs ((z.1:Int).toNat*12+1)); let p:=(nAt pxs ((z.1:Int).toNat*12+1+1)); let q:=(nAt pxs ((z.1:Int).toNat*12+1+1+1)); let r:=(nAt pxs ((z.1:Int).toNat*12+1+1+1+1)); let s:=(nAt pxs ((z.1:Int).toNat*12+1+1+1+1+1)); let t:=(nAt pxs ((z.1:Int).toNat*12+1+1+1+1+1+1)); let u:=(nAt pxs ((z.1:Int).toNat*12+1+1+1+1+1+1+1)); let v:=(nAt pxs ((z.1:Int).toNat*12+1+1+1+1+1+1+1+1)); let w:=(nAt pxs ((z.1:Int).toNat*12+1+1+1+1+1+1+1+1+1)); let x:=(bAt pxs ((z.1:Int).toNat*12+1+1+1+1+1+1+1+1+1+1)); let y:=(bAt pxs ((z.1:Int).toNat*12+1+1+1+1+1+1+1+1+1+1+1)); let g:=(z.2.length:Int); let h:=(g - 1); let a:=(nAt pxs ((z.1:Int).toNat*12)); let i:=(zV6 bits mn (zQd pxs) (z.1:Int) (zQd (ops z.2))); let A:=([dJ a,dJ o,dJ p,dJ q,dJ r,dJ s,dJ t,dK u,dJ v,dJ w,dQ x,dQ y]); (m z)→True∧((n=true→True∧(0≤(z.1:Int)∧(z.1:Int) < (pn:Int)∧(z.1:Int).toNat*12 < pxs.length)∧((pxs[(z.1:Int).toNat*12]?=some (dJ a))∧(pxs[(z.1:Int).toNat*12+1]?=some (dJ o))∧(pxs[(z.1:Int).toNat*12+1+1]?=some (dJ p))∧(pxs[(z.1:Int).toNat*12+1+1+1]?=some (dJ q))∧(pxs[(z.1:Int).toNat*12+1+1+1+1]?=some (dJ r))∧(pxs[(z.1:Int).toNat*12+1+1+1+1+1]?=some (dJ s))∧(pxs[(z.1:Int).toNat*12+1+1+1+1+1+1]?=some (dJ t))∧(pxs[(z.1:Int).toNat*12+1+1+1+1+1+1+1]?=some (dK u))∧(pxs[(z.1:Int).toNat*12+1+1+1+1+1+1+1+1]?=some (dJ v))∧(pxs[(z.1:Int).toNat*12+1+1+1+1+1+1+1+1+1]?=some (dJ w))∧(pxs[(z.1:Int).toNat*12+1+1+1+1+1+1+1+1+1+1]?=some (dQ x))∧(pxs[(z.1:Int).toNat*12+1+1+1+1+1+1+1+1+1+1+1]?=some (dQ y))∧True)∧tU6 ((Ans prog 39 [RV.agg b,rJ (z.1:Int),RV.d (dS z.2.length (ops z.2))] (rJ i))∧tU3 (((i != 0)=true→tU4 (RV.tup [rJ i,rJ (z.1:Int)]=RV.tup c))∧((i != 0)=false→tU4 (((a==2)=true→tU3 ((zZe 12 88 z.2.length 1 (ops z.2) A)∧tU3 (∃ z':Nat × List Oq,(j z')∧(pn - z'.1 < pn - z.1)∧(((0=0)∧(z.2.length+1=z'.2.length)∧d∧e∧(k z z')∧True)∧(f∧((ops z.2)++A=ops z'.2)∧True)))))∧((a==2)=false→tU2 (((a==3)=true→tU2 ((z.2.length≤maxLen)∧True∧(0≤wK h∧wK h≤g)∧tU3 (∃ z':Nat × List Oq,(j z')∧(pn - z'.1 < pn - z.1)∧(((0=0)∧((wK h).toNat=z'.2.length)∧d∧e∧(k z z')∧True)∧(f∧(List.take ((wK h).toNat*12) (ops z.2)=ops z'.2)∧True)))))∧((a==3)=false→tU2 (∃ z':Nat × List Oq,(j z')∧(pn - z'.1 < pn - z.1)∧(((0=0)∧(z.2.length=z'.2.length)∧d∧e∧(k z z')∧True)∧(f∧(ops z.2=ops z'.2)∧True)))))))))))∧(n=false→True∧(z.2.length≤maxLen)∧True∧(((decide (g > 0))=true→tU5 ((true=true)∧RV.tup [rJ 18,rJ (pn:Int)]=RV.tup c))∧((decide (g > 0))=false→tU2 (RV.tup [rJ 0,rJ 0]=RV.tup c))))))))))) ?_
  delta dJ dK dQ wK dS rJ
  simp only [sS,zQG]
  obtain ⟨hP,rfl⟩:=hP
  have hfr:=zKF bits cx0 cy0 cx1 cy1 tw th on oxs mn mxs (zQd pxs).length pxs hO
  have hop:=fun i st=>zWe bits cx0 cy0 cx1 cy1 tw th on oxs mn mxs (zQd pxs).length pxs i (List.length st) (ops st) ⟨hP,rfl⟩ ⟨by rw [zQG],by rw [zQG]⟩
  simp only [zQG] at hop
  generalize zQd pxs=ps at *
  subst hP
  simp only [RV.wfs,RV.wf,DV.wf,DV.wfs,maxLen] at hwf
  have hpl:ps.length≤9223372036854775807:=by omega
  have hE:∀ E:Int,zX2 bits ⟨cx0,cy0,cx1,cy1⟩ tw th (ints oxs) mn ps.length=E→opsE bits ⟨cx0,cy0,cx1,cy1⟩ tw th (ints oxs) mn ps=if E=0 then runO bits mn ps 0 [] else (E,0):=fun E h=>by unfold opsE; rw [h]
  generalize zX2 bits ⟨cx0,cy0,cx1,cy1⟩ tw th (ints oxs) mn ps.length=FE at *
  rw [hE FE rfl]
  clear hE
  refine ⟨hfr,fun hne=>?_,fun he=>⟨?_,fun z hz=>⟨fun hlt=>?_,fun hge=>?_⟩⟩⟩
  ·have:FE≠0:=by simpa using hne
   simp [this]
  ·exact ⟨(0,[]),⟨Nat.zero_le _,Nat.zero_le _,rfl⟩,⟨rfl,rfl⟩,rfl⟩
  ·obtain ⟨k,st⟩:=z
   obtain ⟨z1,z2,z3⟩:=hz
   simp only at *
   have hk:k < ps.length:=by omega
   have q1:=zVG hk
   have q2:=zVH hk
   have q3:=zQC ps
   have q4:=zQC st
   have hoe:zV6 bits mn ps (k:Int) st=errO bits mn ps[k] st:=by unfold zV6; rw [if_pos (by omega),Int.toNat_natCast,List.getElem?_eq_getElem hk]
   have hop1:=hop (k:Int) st
   have hd:ps.drop k=ps[k]::ps.drop (k+1):=List.drop_eq_getElem_cons hk
   rw [hd] at z3
   simp only [runO] at z3
   simp only [hoe] at hop1 ⊢
   have hF:FE=0:=by simpa using he
   have hpush:errO bits mn ps[k] st=0→ps[k].kind=2→st.length < 64:=fun h1 h2=>by
    unfold errO at h1
    grind
   have hpop:errO bits mn ps[k] st=0→ps[k].kind=3→st≠[]:=fun h1 h2=>by
    unfold errO at h1
    grind
   have w1:IntKind.wrap .i64 ((k:Int)+1)=((k+1:Nat):Int):=by rw [IntKind.wrap_i64]; omega
   simp only [q2,hF,if_true]
   refine ⟨⟨by omega,by omega,by omega⟩,q1,hop1,fun hne=>?_,fun h0=>?_⟩
   ·have h0:errO bits mn ps[k] st≠0:=by simpa using hne
    rw [if_neg h0] at z3
    rw [← z3]; exact ⟨rfl,rfl⟩
   ·have h0:errO bits mn ps[k] st=0:=by simpa using h0
    rw [if_pos h0] at z3
    have s2:ps[k].kind=2→runO bits mn (ps.drop (k+1)) ((k+1:Nat):Int) (st++[ps[k]])=runO bits mn ps 0 []:=fun h=>by
     rw [← z3]; simp [zZX,h]
    have s3:ps[k].kind=3→runO bits mn (ps.drop (k+1)) ((k+1:Nat):Int) st.dropLast=runO bits mn ps 0 []:=fun h=>by
     rw [← z3]; simp [zZX,h]
    have s1:ps[k].kind≠2→ps[k].kind≠3→runO bits mn (ps.drop (k+1)) ((k+1:Nat):Int) st=runO bits mn ps 0 []:=fun h h'=>by
     rw [← z3]; simp [zZX,h,h']
    have hd2:st≠[]→IntKind.wrap .i64 ((st.length:Int) - 1)=((st.length - 1:Nat):Int):=fun h=>by
     have:=List.length_pos_iff.2 h
     rw [IntKind.wrap_i64]; omega
    have hd3:(ops st).take ((st.length - 1)*12)=ops st.dropLast:=by rw [zGD,List.dropLast_eq_take]
    have cells:ops [ps[k]]=ps[k].cells:=by simp [ops]
    refine ⟨fun h2=>?_,fun h2=>⟨fun h3=>?_,fun h3=>?_⟩⟩
    ·have h2:ps[k].kind=2:=by simpa using h2
     have hl:=hpush h0 h2
     refine ⟨⟨by rw [q4],rfl,by simp only [maxLen]; omega,by omega⟩,(k+1,st++[ps[k]]),⟨by omega,by simp; omega,s2 h2⟩,by omega,⟨by simp,w1⟩,by rw [zZP,cells]; rfl⟩
    ·have h3:ps[k].kind=3:=by simpa using h3
     have hne:=hpop h0 h3
     rw [hd2 hne]
     simp only [Int.toNat_natCast]
     refine ⟨by simp only [maxLen]; omega,⟨by omega,by omega⟩,(k+1,st.dropLast),⟨by omega,by simp; omega,s3 h3⟩,by omega,⟨by simp,w1⟩,hd3⟩
    ·have h2:ps[k].kind≠2:=by simpa using h2
     have h3:ps[k].kind≠3:=by simpa using h3
     exact ⟨(k+1,st),⟨by omega,z2,s1 h2 h3⟩,by omega,⟨rfl,w1⟩,rfl⟩
  ·obtain ⟨k,st⟩:=z
   obtain ⟨z1,z2,z3⟩:=hz
   simp only at *
   have hk:k=ps.length:=by omega
   subst hk
   rw [List.drop_length] at z3
   simp only [runO] at z3
   have hF:FE=0:=by simpa using he
   simp only [hF,if_true]
   rw [← z3]
   refine ⟨by simp only [maxLen]; omega,fun h=>?_,fun h=>?_⟩
   ·have:st≠[]:=fun e=>by subst e; simp at h
    simp [this]
   ·have:st=[]:=List.length_eq_zero_iff.1 (by omega)
    simp [this]
def gZ29 (xs:List RV):Option RV:=match xs with | [.agg [.int _ vk,.int _ vim,.int _ vx,.int _ vy,.int _ vma,.int _ vmx,.int _ vmy,.int _ vop,.int _ vope,.int _ vmo,.int _ vfl],.d (.bool push),.d (.int _ imgs),.agg [.int _ ca,.int _ cb,.int _ cc,.int _ cd],.d (.bool free),.d (.int _ most)]=>some (RV.agg [dJ (gOp ⟨vk,vim,vx,vy,vma,vmx,vmy,vop,vope,vmo,vfl⟩ push imgs ⟨ca,cb,cc,cd⟩ free most).kind,dJ (gOp ⟨vk,vim,vx,vy,vma,vmx,vmy,vop,vope,vmo,vfl⟩ push imgs ⟨ca,cb,cc,cd⟩ free most).image,dJ (gOp ⟨vk,vim,vx,vy,vma,vmx,vmy,vop,vope,vmo,vfl⟩ push imgs ⟨ca,cb,cc,cd⟩ free most).x,dJ (gOp ⟨vk,vim,vx,vy,vma,vmx,vmy,vop,vope,vmo,vfl⟩ push imgs ⟨ca,cb,cc,cd⟩ free most).y,dJ (gOp ⟨vk,vim,vx,vy,vma,vmx,vmy,vop,vope,vmo,vfl⟩ push imgs ⟨ca,cb,cc,cd⟩ free most).mask,dJ (gOp ⟨vk,vim,vx,vy,vma,vmx,vmy,vop,vope,vmo,vfl⟩ push imgs ⟨ca,cb,cc,cd⟩ free most).mx,dJ (gOp ⟨vk,vim,vx,vy,vma,vmx,vmy,vop,vope,vmo,vfl⟩ push imgs ⟨ca,cb,cc,cd⟩ free most).my,dK (gOp ⟨vk,vim,vx,vy,vma,vmx,vmy,vop,vope,vmo,vfl⟩ push imgs ⟨ca,cb,cc,cd⟩ free most).opac,dJ (gOp ⟨vk,vim,vx,vy,vma,vmx,vmy,vop,vope,vmo,vfl⟩ push imgs ⟨ca,cb,cc,cd⟩ free most).oper,dJ (gOp ⟨vk,vim,vx,vy,vma,vmx,vmy,vop,vope,vmo,vfl⟩ push imgs ⟨ca,cb,cc,cd⟩ free most).mode,dQ (gOp ⟨vk,vim,vx,vy,vma,vmx,vmy,vop,vope,vmo,vfl⟩ push imgs ⟨ca,cb,cc,cd⟩ free most).iso,dQ (gOp ⟨vk,vim,vx,vy,vma,vmx,vmy,vop,vope,vmo,vfl⟩ push imgs ⟨ca,cb,cc,cd⟩ free most).kno]) | _=>none
def jK0:Gam where
 pure:=fun f xs=>
  if f=9 then gZ0 xs else
  if f=37 then gZ15 xs else
  if f=36 then (match xs with | [.d (.int _ n),.d (.int _ corner)]=>some (rJ (gOff n corner)) | _=>none) else
  if f=21 then gZ29 xs else
  none
 modes:=fun f=>
  none
 proc:=fun f xs bs=>
  none
 iter:=fun f cs=>
  none
theorem zVV (n corner:Int) (hc : -100≤corner∧corner≤100):Ans prog 36 [rJ (n),rJ (corner)] (rJ ((gOff n corner))):=
 zQa (Γ:=jK0) Ann.leaf zQg Tryz.func36 rfl (nL rfl) fun hwf=>by
  refine Eq.mpr (by kernel_rfl:_=(let a:=(modS n (3:Int)); let c:=(dJ (gOff n corner)); let b:=(wK (Int.tdiv n (3:Int))); tU2 ((Ans prog 9 [rJ n,rJ 3] (rJ a))∧True∧(((a==0)=true→tU2 (rJ corner=RV.d c))∧((a==0)=false→tU2 (((3:Int)≠0)∧(Ans prog 9 [rJ b,rJ 9] (rJ (modS b (9:Int))))∧tU3 (rJ (wK ((wK (corner+(modS b (9:Int)))) - 4))=RV.d c))))))) ?_
  delta dJ wK rJ
  simp only [sS,zQs,zXj]
  have b:=@zQ4 (IntKind.wrap .i64 (Int.tdiv n 3)) 9 (by omega) (by omega)
  unfold gOff
  have w1:IntKind.wrap .i64 (corner+modS (IntKind.wrap .i64 (Int.tdiv n 3)) 9)=corner+modS (IntKind.wrap .i64 (Int.tdiv n 3)) 9:=IntWalk.i64_in _ ⟨by omega,by omega⟩
  have w2:IntKind.wrap .i64 (corner+modS (IntKind.wrap .i64 (Int.tdiv n 3)) 9 - 4)=corner+modS (IntKind.wrap .i64 (Int.tdiv n 3)) 9 - 4:=IntWalk.i64_in _ ⟨by omega,by omega⟩
  simp only [w1,w2]
  refine ⟨fun h=>?_,fun h=>⟨by decide,?_⟩⟩
  ·rw [if_pos (by simpa using h)]
  ·rw [if_neg (by simpa using h)]
theorem jJy (r:Rw) (push:Bool) (imgs:Int) (c:Rc) (free:Bool) (most:Int) (hc:(-100≤c.a∧c.a≤100) ∧ -100≤c.b∧c.b≤100) (hi:1≤imgs∧imgs≤100):Ans prog 21 [RV.agg [dJ r.k,dJ r.im,dJ r.x,dJ r.y,dJ r.ma,dJ r.mx,dJ r.my,dJ r.op,dJ r.ope,dJ r.mo,dJ r.fl],RV.d (dQ push),rJ (imgs),RV.agg [dJ c.a,dJ c.b,dJ c.c,dJ c.d],RV.d (dQ free),RV.d (dK most)] (RV.agg [dJ ((gOp r push imgs c free most).kind),dJ ((gOp r push imgs c free most).image),dJ ((gOp r push imgs c free most).x),dJ ((gOp r push imgs c free most).y),dJ ((gOp r push imgs c free most).mask),dJ ((gOp r push imgs c free most).mx),dJ ((gOp r push imgs c free most).my),dK ((gOp r push imgs c free most).opac),dJ ((gOp r push imgs c free most).oper),dJ ((gOp r push imgs c free most).mode),dQ ((gOp r push imgs c free most).iso),dQ ((gOp r push imgs c free most).kno)]):=
 zQa (Γ:=jK0) (let e:=(6,AV.one (Cl.ptr 6 0)); let f:=(13,AV.one (Cl.ptr 13 0)); let g:=(12,AV.one (Cl.ptr 12 0)); let a:=(gOp r push imgs c free most); let h:=(4,AV.one (Cl.d (dQ free))); let i:=(5,AV.one (cK most)); let b:=(6,bC [cJ r.k,cJ r.im,cJ r.x,cJ r.y,cJ r.ma,cJ r.mx,cJ r.my,cJ r.op,cJ r.ope,cJ r.mo,cJ r.fl]); let d:=(12,bC [cJ 0,cJ 0,cJ 0,cJ 0,cJ 0,cJ 0,cJ 0,cK 0,cJ 0,cJ 0,Cl.d (dQ false),Cl.d (dQ false)]); let j:=[h,e,g,f]; (Ann.seq Ann.leaf (Ann.seq Ann.leaf (Ann.cut ⟨Oq,fun q1:Oq=>q1=⟨a.kind,a.image,a.x,a.y,0,0,0,most,4,1,a.iso,a.kno⟩,fun q1:Oq=>⟨[(2,aJ imgs),h,i,e,(9,AV.one (Cl.ptr 9 0)),g,f],[b,(9,bC [cJ c.a,cJ c.b,cJ c.c,cJ c.d]),d,(13,bC [cJ q1.kind,cJ q1.image,cJ q1.x,cJ q1.y,cJ q1.mask,cJ q1.mx,cJ q1.my,cK q1.opac,cJ q1.oper,cJ q1.mode,Cl.d (dQ q1.iso),Cl.d (dQ q1.kno)])]⟩,fun q1:Oq=>0⟩ Ann.leaf fun q1=>(Ann.cut ⟨Oq,fun q2:Oq=>q2=⟨a.kind,a.image,a.x,a.y,a.mask,a.mx,a.my,most,4,1,a.iso,a.kno⟩,fun q2:Oq=>⟨[h,i,e,g,f],[b,d,(13,bC [cJ q2.kind,cJ q2.image,cJ q2.x,cJ q2.y,cJ q2.mask,cJ q2.mx,cJ q2.my,cK q2.opac,cJ q2.oper,cJ q2.mode,Cl.d (dQ q2.iso),Cl.d (dQ q2.kno)])]⟩,fun q2:Oq=>0⟩ Ann.leaf fun q2=>(Ann.cut ⟨Oq,fun q3:Oq=>q3=⟨a.kind,a.image,a.x,a.y,a.mask,a.mx,a.my,a.opac,4,1,a.iso,a.kno⟩,fun q3:Oq=>⟨j,[b,d,(13,bC [cJ q3.kind,cJ q3.image,cJ q3.x,cJ q3.y,cJ q3.mask,cJ q3.mx,cJ q3.my,cK q3.opac,cJ q3.oper,cJ q3.mode,Cl.d (dQ q3.iso),Cl.d (dQ q3.kno)])]⟩,fun q3:Oq=>0⟩ Ann.leaf fun q3=>(Ann.cut ⟨Oq,fun q4:Oq=>q4=⟨a.kind,a.image,a.x,a.y,a.mask,a.mx,a.my,a.opac,4,a.mode,a.iso,a.kno⟩,fun q4:Oq=>⟨j,[b,d,(13,bC [cJ q4.kind,cJ q4.image,cJ q4.x,cJ q4.y,cJ q4.mask,cJ q4.mx,cJ q4.my,cK q4.opac,cJ q4.oper,cJ q4.mode,Cl.d (dQ q4.iso),Cl.d (dQ q4.kno)])]⟩,fun q4:Oq=>0⟩ Ann.leaf fun q4=>Ann.leaf))))))) zQg Tryz.func21 rfl (nL rfl) fun hwf=>by
  refine Eq.mpr (by kernel_rfl:_=(let g:=(modS r.mo (2:Int)); let h:=(modS r.op (2:Int)); let i:=(modS r.ma (4:Int)); let j:=(modS r.ope (2:Int)); let a:=(gOp r push imgs c free most); let k:=(wK (Int.tdiv r.fl (2:Int))); let l:=fun (q1:Oq)=>(q1=⟨a.kind,a.image,a.x,a.y,0,0,0,most,4,1,a.iso,a.kno⟩); let m:=(dQ free=dQ free); let z:=(dK most=dK most); let A:=((dJ imgs=dJ imgs)∧m∧z∧(0=0)∧(0=0)∧(0=0)∧(0=0)∧True); let B:=[dJ r.k,dJ r.im,dJ r.x,dJ r.y,dJ r.ma,dJ r.mx,dJ r.my,dJ r.op,dJ r.ope,dJ r.mo,dJ r.fl]; let b:=(B=B); let C:=[dJ c.a,dJ c.b,dJ c.c,dJ c.d]; let D:=(C=C); let E:=[dJ 0,dJ 0,dJ 0,dJ 0,dJ 0,dJ 0,dJ 0,dK 0,dJ 0,dJ 0,dQ false,dQ false]; let d:=(E=E); let n:=fun (q1:Oq)=>[dJ q1.kind,dJ q1.image,dJ q1.x,dJ q1.y,dJ q1.mask,dJ q1.mx,dJ q1.my,dK q1.opac,dJ q1.oper,dJ q1.mode,dQ q1.iso,dQ q1.kno]; let o:=(wK (Int.tdiv r.ma (4:Int))); let p:=fun (q2:Oq)=>(q2=⟨a.kind,a.image,a.x,a.y,a.mask,a.mx,a.my,most,4,1,a.iso,a.kno⟩); let F:=(m∧z∧(0=0)∧(0=0)∧(0=0)∧True); let q:=fun (q2:Oq)=>[dJ q2.kind,dJ q2.image,dJ q2.x,dJ q2.y,dJ q2.mask,dJ q2.mx,dJ q2.my,dK q2.opac,dJ q2.oper,dJ q2.mode,dQ q2.iso,dQ q2.kno]; let s:=(wK (Int.tdiv r.op (2:Int))); let t:=fun (q3:Oq)=>(q3=⟨a.kind,a.image,a.x,a.y,a.mask,a.mx,a.my,a.opac,4,1,a.iso,a.kno⟩); let e:=(m∧(0=0)∧(0=0)∧(0=0)∧True); let u:=fun (q3:Oq)=>[dJ q3.kind,dJ q3.image,dJ q3.x,dJ q3.y,dJ q3.mask,dJ q3.mx,dJ q3.my,dK q3.opac,dJ q3.oper,dJ q3.mode,dQ q3.iso,dQ q3.kno]; let v:=(wK (Int.tdiv r.mo (2:Int))); let w:=fun (q4:Oq)=>(q4=⟨a.kind,a.image,a.x,a.y,a.mask,a.mx,a.my,a.opac,4,a.mode,a.iso,a.kno⟩); let f:=fun (q4:Oq)=>[dJ q4.kind,dJ q4.image,dJ q4.x,dJ q4.y,dJ q4.mask,dJ q4.mx,dJ q4.my,dK q4.opac,dJ q4.oper,dJ q4.mode,dQ q4.iso,dQ q4.kno]; let x:=(wK (Int.tdiv r.ope (2:Int))); let y:=[dJ a.kind,dJ a.image,dJ a.x,dJ a.y,dJ a.mask,dJ a.mx,dJ a.my,dK a.opac,dJ a.oper,dJ a.mode,dQ a.iso,dQ a.kno]; tU7 ((True∧((push=true→tU4 ((Ans prog 9 [rJ r.fl,rJ 2] (rJ (modS r.fl (2:Int))))∧tU3 (((2:Int)≠0)∧(Ans prog 9 [rJ k,rJ 3] (rJ (modS k (3:Int))))∧tU5 ((true=true)∧∃ q1:Oq,(l q1)∧(A∧(b∧D∧d∧([dJ 2,dJ 0,dJ 0,dJ 0,dJ 0,dJ 0,dJ 0,dK most,dJ 4,dJ 1,dQ ((modS r.fl (2:Int))==0),dQ ((modS k (3:Int))==0)]=(n q1))∧True))))))∧(push=false→tU3 ((Ans prog 9 [rJ r.im,rJ imgs] (rJ (modS r.im imgs)))∧tU6 ((Ans prog 36 [rJ r.x,rJ c.a] (rJ (gOff r.x c.a)))∧tU4 ((Ans prog 36 [rJ r.y,rJ c.b] (rJ (gOff r.y c.b)))∧tU4 ((true=true)∧∃ q1:Oq,(l q1)∧(A∧(b∧D∧d∧([dJ 1,dJ (modS r.im imgs),dJ (gOff r.x c.a),dJ (gOff r.y c.b),dJ 0,dJ 0,dJ 0,dK most,dJ 4,dJ 1,dQ false,dQ false]=(n q1))∧True)))))))))∧∀ q1:Oq,(l q1)→(tU2 ((Ans prog 9 [rJ r.ma,rJ 4] (rJ i))∧True∧(((i==0)=true→tU2 (((4:Int)≠0)∧True∧(Ans prog 9 [rJ o,rJ imgs] (rJ (modS o imgs)))∧tU7 ((Ans prog 36 [rJ r.mx,rJ c.a] (rJ (gOff r.mx c.a)))∧tU4 ((Ans prog 36 [rJ r.my,rJ c.b] (rJ (gOff r.my c.b)))∧tU4 ((true=true)∧∃ q2:Oq,(p q2)∧(F∧(b∧d∧([dJ q1.kind,dJ q1.image,dJ q1.x,dJ q1.y,dJ (wK ((1:Int)+(modS o imgs))),dJ (gOff r.mx c.a),dJ (gOff r.my c.b),dK q1.opac,dJ q1.oper,dJ q1.mode,dQ q1.iso,dQ q1.kno]=(q q2))∧True)))))))∧((i==0)=false→∃ q2:Oq,(p q2)∧(F∧(b∧d∧((n q1)=(q q2))∧True))))))∧∀ q2:Oq,(p q2)→(tU2 ((Ans prog 9 [rJ r.op,rJ 2] (rJ h))∧True∧(((h==0)=true→tU2 (((2:Int)≠0)∧True∧(Ans prog 37 [rJ s,RV.d (dK most)] (RV.d (dK (zQy s most))))∧tU2 (∃ q3:Oq,(t q3)∧(e∧(b∧d∧([dJ q2.kind,dJ q2.image,dJ q2.x,dJ q2.y,dJ q2.mask,dJ q2.mx,dJ q2.my,dK (zQy s most),dJ q2.oper,dJ q2.mode,dQ q2.iso,dQ q2.kno]=(u q3))∧True)))))∧((h==0)=false→∃ q3:Oq,(t q3)∧(e∧(b∧d∧((q q2)=(u q3))∧True))))))∧∀ q3:Oq,(t q3)→(tU2 ((Ans prog 9 [rJ r.mo,rJ 2] (rJ g))∧True∧(((g==0)=true→tU2 (((2:Int)≠0)∧(Ans prog 9 [rJ v,rJ 12] (rJ (modS v (12:Int))))∧tU3 (∃ q4:Oq,(w q4)∧(e∧(b∧d∧([dJ q3.kind,dJ q3.image,dJ q3.x,dJ q3.y,dJ q3.mask,dJ q3.mx,dJ q3.my,dK q3.opac,dJ q3.oper,dJ (wK ((1:Int)+(modS v (12:Int)))),dQ q3.iso,dQ q3.kno]=(f q4))∧True)))))∧((g==0)=false→∃ q4:Oq,(w q4)∧(e∧(b∧d∧((u q3)=(f q4))∧True))))))∧∀ q4:Oq,(w q4)→tU2 ((free=true→tU2 ((Ans prog 9 [rJ r.ope,rJ 2] (rJ j))∧tU2 (((j==0)=true→tU2 (((2:Int)≠0)∧(Ans prog 9 [rJ x,rJ 12] (rJ (modS x (12:Int))))∧tU5 (RV.agg [dJ q4.kind,dJ q4.image,dJ q4.x,dJ q4.y,dJ q4.mask,dJ q4.mx,dJ q4.my,dK q4.opac,dJ (wK ((1:Int)+(modS x (12:Int)))),dJ q4.mode,dQ q4.iso,dQ q4.kno]=RV.agg y)))∧((j==0)=false→tU2 (RV.agg (f q4)=RV.agg y)))))∧(free=(!true)→tU3 (RV.agg (f q4)=RV.agg y)))))) ?_
  delta dJ dK dQ wK rJ
  simp only [sS,zQs,zXj]
  have oa:=fun n=>zVV n c.a hc.1
  have ob:=fun n=>zVV n c.b hc.2
  have b4:=@zQ4 (IntKind.wrap .i64 (Int.tdiv r.ma 4)) imgs (by omega) (by omega)
  have b12:=fun v=>@zQ4 v 12 (by omega) (by omega)
  have w4:IntKind.wrap .i64 (1+modS (IntKind.wrap .i64 (Int.tdiv r.ma 4)) imgs)=1+modS (IntKind.wrap .i64 (Int.tdiv r.ma 4)) imgs:=IntWalk.i64_in _ ⟨by omega,by omega⟩
  have w12:∀ v,IntKind.wrap .i64 (1+modS v 12)=1+modS v 12:=fun v=>by have:=b12 v; exact IntWalk.i64_in _ ⟨by omega,by omega⟩
  simp only [oa,ob,w4,w12,true_and]
  simp only [exists_eq_left,forall_eq,gOp,beq_iff_eq,beq_eq_false_iff_ne]
  (repeat' (first | apply And.intro | intro _)) <;> (first | decide | (simp_all; done) | (simp_all; rfl))
theorem zZu (w h:Int):Ans prog 63 [rJ (w),rJ (h)] (RV.d (dQ (zZK w h))):=
 zQa (Γ:=gamI) Ann.leaf zQg Tryz.func63 rfl (nL rfl) fun hwf=>by
  refine Eq.mpr (by kernel_rfl:_=(let a:=(RV.d (dQ false)=RV.d (dQ (zZK w h))); tU4 (((decide (w≥1))=true→tU4 (((decide (h≥1))=true→tU4 (((decide (w≤16777216))=true→tU2 ((w≠0)∧tU3 (RV.d (dQ (decide (h≤(wK (Int.tdiv (16777216:Int) w)))))=RV.d (dQ (zZK w h)))))∧((decide (w≤16777216))=(!true)→tU2 a)))∧((decide (h≥1))=(!true)→tU4 a)))∧((decide (w≥1))=(!true)→tU6 a)))) ?_
  delta dQ wK
  simp only [sS,zQs]
  have h1:1≤w→1≤h→(h≤IntKind.wrap .i64 (Int.tdiv 16777216 w)↔w*h≤16777216):=fun a b=>by rw [jXH b a,Int.mul_comm]
  have h2:=@zXC w h
  grind [zZK]
theorem zXr (w h s:Int) (n:Nat) (xs:List DV):Ans prog 96 [RV.agg [dJ w,dJ h,dJ s,dS n xs]] (RV.d (dQ (zQY w h s n))):=
 zQa (Γ:=gamI) Ann.leaf zQg Tryz.func96 rfl (nL rfl) fun hwf=>by
  refine Eq.mpr (by kernel_rfl:_=(let a:=(RV.d (dQ false)=RV.d (dQ (zQY w h s n))); tU6 ((Ans prog 63 [rJ w,rJ h] (RV.d (dQ (zZK w h))))∧True∧(((zZK w h)=true→tU7 (((decide (s≥w))=true→tU5 (((decide (s≤16777216))=true→tU7 (tU8 (RV.d (dQ (decide ((n:Int)≥(wK ((wK ((wK (h - 1))*s))+w)))))=RV.d (dQ (zQY w h s n)))))∧((decide (s≤16777216))=(!true)→tU2 a)))∧((decide (s≥w))=(!true)→tU4 a)))∧((zZK w h)=(!true)→tU6 a))))) ?_
  delta dQ wK rJ
  simp only [sS,zQs,zZu]
  grind [zQY,lenW]
theorem zQT (c0 c1 c2 ca cf most:Int):Ans prog 88 [RV.agg [dK c0,dK c1,dK c2,dK ca,dK cf],RV.d (dK most)] (RV.d (dQ (Px.ok ⟨c0,c1,c2,ca,cf⟩ most))):=
 zQa (Γ:=gamI) Ann.leaf zQg Tryz.func88 rfl (nL rfl) fun hwf=>by
  refine Eq.mpr (by kernel_rfl:_=(let b:=(dQ (Px.ok ⟨c0,c1,c2,ca,cf⟩ most)); let a:=(RV.d (dQ false)=RV.d b); tU3 ((0≤(0:Int)∧(0:Int) < ((3:Nat):Int))∧tU5 (((decide (c0≤ca))=true→True∧(0≤(1:Int)∧(1:Int) < ((3:Nat):Int))∧tU6 (((decide (c1≤ca))=true→True∧(0≤(2:Int)∧(2:Int) < ((3:Nat):Int))∧tU6 (((decide (c2≤ca))=true→tU7 (((decide (ca≤cf))=true→tU6 (RV.d (dQ (decide (cf≤most)))=RV.d b))∧((decide (ca≤cf))=(!true)→tU2 a)))∧((decide (c2≤ca))=(!true)→tU4 a)))∧((decide (c1≤ca))=(!true)→tU6 a)))∧((decide (c0≤ca))=(!true)→tU8 a))))) ?_
  delta dQ
  simp only [sS,zQs,zZu,zXr]
  simp [Px.ok]; grind
theorem zZ4 (w h:Int) (so:Bool) (c0 c1 c2 ca cf w0 h0 s0:Int) (n0:Nat) (xs0:List DV) (w1 h1 s1:Int) (n1:Nat) (xs1:List DV) (w2 h2 s2:Int) (n2:Nat) (xs2:List DV) (w3 h3 s3:Int) (n3:Nat) (xs3:List DV) (w4 h4 s4:Int) (n4:Nat) (xs4:List DV):Ans prog 87 [RV.agg [dJ w,dJ h,dQ so,dK c0,dK c1,dK c2,dK ca,dK cf,dJ w0,dJ h0,dJ s0,dS n0 xs0,dJ w1,dJ h1,dJ s1,dS n1 xs1,dJ w2,dJ h2,dJ s2,dS n2 xs2,dJ w3,dJ h3,dJ s3,dS n3 xs3,dJ w4,dJ h4,dJ s4,dS n4 xs4]] (RV.d (dQ (Im.inner ⟨w,h,so,⟨c0,c1,c2,ca,cf⟩,⟨w0,h0,s0,n0,xs0⟩,⟨w1,h1,s1,n1,xs1⟩,⟨w2,h2,s2,n2,xs2⟩,⟨w3,h3,s3,n3,xs3⟩,⟨w4,h4,s4,n4,xs4⟩⟩))):=
 zQa (Γ:=gamI) (let a:=(1,AV.one (Cl.ptr 1 0)); let c:=(Ann.seq (Ann.seq Ann.leaf (Ann.sure true Ann.leaf)) Ann.leaf); let b:=[(1,bC [cJ w,cJ h,Cl.d (dQ so),cK c0,cK c1,cK c2,cK ca,cK cf,cJ w0,cJ h0,cJ s0,Cl.d (dS n0 xs0),cJ w1,cJ h1,cJ s1,Cl.d (dS n1 xs1),cJ w2,cJ h2,cJ s2,Cl.d (dS n2 xs2),cJ w3,cJ h3,cJ s3,Cl.d (dS n3 xs3),cJ w4,cJ h4,cJ s4,Cl.d (dS n4 xs4)])]; (Ann.seq Ann.leaf (Ann.seq (Ann.seq Ann.leaf (Ann.link ⟨Unit,fun _u=>True,fun _u=>⟨[a,(3,aJ 0)],b⟩,fun _u=>0⟩ (fun _u=>c) (Ann.link ⟨Unit,fun _u=>okPl so w h ⟨w0,h0,s0,n0,xs0⟩=true∧True,fun _u=>⟨[a,(3,aJ 1)],b⟩,fun _u=>0⟩ (fun _u=>c) (Ann.link ⟨Unit,fun _u=>okPl so w h ⟨w0,h0,s0,n0,xs0⟩=true∧okPl so w h ⟨w1,h1,s1,n1,xs1⟩=true∧True,fun _u=>⟨[a,(3,aJ 2)],b⟩,fun _u=>0⟩ (fun _u=>c) (Ann.link ⟨Unit,fun _u=>okPl so w h ⟨w0,h0,s0,n0,xs0⟩=true∧okPl so w h ⟨w1,h1,s1,n1,xs1⟩=true∧okPl so w h ⟨w2,h2,s2,n2,xs2⟩=true∧True,fun _u=>⟨[a,(3,aJ 3)],b⟩,fun _u=>0⟩ (fun _u=>c) (Ann.link ⟨Unit,fun _u=>okPl so w h ⟨w0,h0,s0,n0,xs0⟩=true∧okPl so w h ⟨w1,h1,s1,n1,xs1⟩=true∧okPl so w h ⟨w2,h2,s2,n2,xs2⟩=true∧okPl so w h ⟨w3,h3,s3,n3,xs3⟩=true∧True,fun _u=>⟨[a,(3,aJ 4)],b⟩,fun _u=>0⟩ (fun _u=>c) (Ann.link ⟨Unit,fun _u=>okPl so w h ⟨w0,h0,s0,n0,xs0⟩=true∧okPl so w h ⟨w1,h1,s1,n1,xs1⟩=true∧okPl so w h ⟨w2,h2,s2,n2,xs2⟩=true∧okPl so w h ⟨w3,h3,s3,n3,xs3⟩=true∧okPl so w h ⟨w4,h4,s4,n4,xs4⟩=true∧True,fun _u=>⟨[a,(3,aJ 5)],b⟩,fun _u=>0⟩ (fun _u=>(Ann.seq (Ann.seq Ann.leaf (Ann.sure false Ann.leaf)) Ann.leaf)) Ann.leaf))))))) Ann.leaf))) zQg Tryz.func87 rfl (nL rfl) fun hwf=>by
  refine Eq.mpr (by kernel_rfl:_=(let d:=((5:Nat):Int); let p:=(!(zQY w4 h4 s4 n4)); let q:=(!(zQY w3 h3 s3 n3)); let r:=(!(zQY w2 h2 s2 n2)); let s:=(!(zQY w1 h1 s1 n1)); let t:=(!(zQY w0 h0 s0 n0)); let u:=(Ans prog 96 [RV.agg [dJ w4,dJ h4,dJ s4,dS n4 xs4]] (RV.d (dQ (zQY w4 h4 s4 n4)))); let v:=(Ans prog 96 [RV.agg [dJ w3,dJ h3,dJ s3,dS n3 xs3]] (RV.d (dQ (zQY w3 h3 s3 n3)))); let x:=(Ans prog 96 [RV.agg [dJ w2,dJ h2,dJ s2,dS n2 xs2]] (RV.d (dQ (zQY w2 h2 s2 n2)))); let y:=(Ans prog 96 [RV.agg [dJ w1,dJ h1,dJ s1,dS n1 xs1]] (RV.d (dQ (zQY w1 h1 s1 n1)))); let z:=(Ans prog 96 [RV.agg [dJ w0,dJ h0,dJ s0,dS n0 xs0]] (RV.d (dQ (zQY w0 h0 s0 n0)))); let A:=[dJ w,dJ h,dQ so,dK c0,dK c1,dK c2,dK ca,dK cf,dJ w0,dJ h0,dJ s0,dS n0 xs0,dJ w1,dJ h1,dJ s1,dS n1 xs1,dJ w2,dJ h2,dJ s2,dS n2 xs2,dJ w3,dJ h3,dJ s3,dS n3 xs3,dJ w4,dJ h4,dJ s4,dS n4 xs4]; let c:=((A=A)∧True); let b:=(dQ (Im.inner ⟨w,h,so,⟨c0,c1,c2,ca,cf⟩,⟨w0,h0,s0,n0,xs0⟩,⟨w1,h1,s1,n1,xs1⟩,⟨w2,h2,s2,n2,xs2⟩,⟨w3,h3,s3,n3,xs3⟩,⟨w4,h4,s4,n4,xs4⟩⟩)); let B:=((h4 != h)=true→True∧RV.d (dQ false)=RV.d b); let C:=((h3 != h)=true→True∧RV.d (dQ false)=RV.d b); let D:=((h2 != h)=true→True∧RV.d (dQ false)=RV.d b); let E:=((h1 != h)=true→True∧RV.d (dQ false)=RV.d b); let F:=((h0 != h)=true→True∧RV.d (dQ false)=RV.d b); let a:=(RV.d (dQ false)=RV.d b); let G:=(p=(!false)→tU5 a); let H:=(q=(!false)→tU5 a); let I:=(r=(!false)→tU5 a); let J:=(s=(!false)→tU5 a); let K:=(t=(!false)→tU5 a); let L:=((w4 != w)=(!false)→tU3 a); let M:=((w3 != w)=(!false)→tU3 a); let N:=((w2 != w)=(!false)→tU3 a); let O:=((w1 != w)=(!false)→tU3 a); let P:=((w0 != w)=(!false)→tU3 a); let e:=(okPl so w h ⟨w0,h0,s0,n0,xs0⟩=true∧True); let k:=(((0=0)∧(dJ (wK ((0:Int)+1))=dJ 1)∧True)∧c); let f:=(okPl so w h ⟨w0,h0,s0,n0,xs0⟩=true∧okPl so w h ⟨w1,h1,s1,n1,xs1⟩=true∧True); let l:=(((0=0)∧(dJ (wK ((1:Int)+1))=dJ 2)∧True)∧c); let g:=(okPl so w h ⟨w0,h0,s0,n0,xs0⟩=true∧okPl so w h ⟨w1,h1,s1,n1,xs1⟩=true∧okPl so w h ⟨w2,h2,s2,n2,xs2⟩=true∧True); let m:=(((0=0)∧(dJ (wK ((2:Int)+1))=dJ 3)∧True)∧c); let i:=(okPl so w h ⟨w0,h0,s0,n0,xs0⟩=true∧okPl so w h ⟨w1,h1,s1,n1,xs1⟩=true∧okPl so w h ⟨w2,h2,s2,n2,xs2⟩=true∧okPl so w h ⟨w3,h3,s3,n3,xs3⟩=true∧True); let n:=(((0=0)∧(dJ (wK ((3:Int)+1))=dJ 4)∧True)∧c); let j:=(okPl so w h ⟨w0,h0,s0,n0,xs0⟩=true∧okPl so w h ⟨w1,h1,s1,n1,xs1⟩=true∧okPl so w h ⟨w2,h2,s2,n2,xs2⟩=true∧okPl so w h ⟨w3,h3,s3,n3,xs3⟩=true∧okPl so w h ⟨w4,h4,s4,n4,xs4⟩=true∧True); let o:=(((0=0)∧(dJ (wK ((4:Int)+1))=dJ 5)∧True)∧c); tU3 ((∃ _u:Unit,True∧(((0=0)∧(dJ 0=dJ 0)∧True)∧c))∧((∀ _u:Unit,True→tU2 (decide ((0:Int) < 5)=true∧tU2 ((0≤(0:Int)∧(0:Int) < d)∧tU6 ((so=true→tU4 (((w0 != 0)=false→tU5 (((h0 != 0)=false→tU5 (((s0 != 0)=false→tU6 (((decide ((n0:Int) > 0))=true→True∧RV.d (dQ false)=RV.d b)∧((decide ((n0:Int) > 0))=false→tU4 (((!so)=true→True∧z∧tU2 ((t=false→tU7 (((w0 != w)=false→tU7 (F∧((h0 != h)=false→tU3 (∃ _u:Unit,e∧k))))∧P))∧K))∧((!so)=(!true)→tU4 (∃ _u:Unit,e∧k))))))∧((s0 != 0)=(!false)→tU3 a)))∧((h0 != 0)=(!false)→tU5 a)))∧((w0 != 0)=(!false)→tU7 a)))∧(so=(!true)→tU5 (((!so)=true→True∧z∧tU2 ((t=false→tU7 (((w0 != w)=false→tU7 (F∧((h0 != h)=false→tU3 (∃ _u:Unit,e∧k))))∧P))∧K))∧((!so)=(!true)→tU4 (∃ _u:Unit,e∧k))))))))∧(∀ _u:Unit,e→tU2 (decide ((1:Int) < 5)=true∧tU2 ((0≤(1:Int)∧(1:Int) < d)∧tU6 ((so=true→tU4 (((w1 != 0)=false→tU5 (((h1 != 0)=false→tU5 (((s1 != 0)=false→tU6 (((decide ((n1:Int) > 0))=true→True∧RV.d (dQ false)=RV.d b)∧((decide ((n1:Int) > 0))=false→tU4 (((!so)=true→True∧y∧tU2 ((s=false→tU7 (((w1 != w)=false→tU7 (E∧((h1 != h)=false→tU3 (∃ _u:Unit,f∧l))))∧O))∧J))∧((!so)=(!true)→tU4 (∃ _u:Unit,f∧l))))))∧((s1 != 0)=(!false)→tU3 a)))∧((h1 != 0)=(!false)→tU5 a)))∧((w1 != 0)=(!false)→tU7 a)))∧(so=(!true)→tU5 (((!so)=true→True∧y∧tU2 ((s=false→tU7 (((w1 != w)=false→tU7 (E∧((h1 != h)=false→tU3 (∃ _u:Unit,f∧l))))∧O))∧J))∧((!so)=(!true)→tU4 (∃ _u:Unit,f∧l))))))))∧(∀ _u:Unit,f→tU2 (decide ((2:Int) < 5)=true∧tU2 ((0≤(2:Int)∧(2:Int) < d)∧tU6 ((so=true→tU4 (((w2 != 0)=false→tU5 (((h2 != 0)=false→tU5 (((s2 != 0)=false→tU6 (((decide ((n2:Int) > 0))=true→True∧RV.d (dQ false)=RV.d b)∧((decide ((n2:Int) > 0))=false→tU4 (((!so)=true→True∧x∧tU2 ((r=false→tU7 (((w2 != w)=false→tU7 (D∧((h2 != h)=false→tU3 (∃ _u:Unit,g∧m))))∧N))∧I))∧((!so)=(!true)→tU4 (∃ _u:Unit,g∧m))))))∧((s2 != 0)=(!false)→tU3 a)))∧((h2 != 0)=(!false)→tU5 a)))∧((w2 != 0)=(!false)→tU7 a)))∧(so=(!true)→tU5 (((!so)=true→True∧x∧tU2 ((r=false→tU7 (((w2 != w)=false→tU7 (D∧((h2 != h)=false→tU3 (∃ _u:Unit,g∧m))))∧N))∧I))∧((!so)=(!true)→tU4 (∃ _u:Unit,g∧m))))))))∧(∀ _u:Unit,g→tU2 (decide ((3:Int) < 5)=true∧tU2 ((0≤(3:Int)∧(3:Int) < d)∧tU6 ((so=true→tU4 (((w3 != 0)=false→tU5 (((h3 != 0)=false→tU5 (((s3 != 0)=false→tU6 (((decide ((n3:Int) > 0))=true→True∧RV.d (dQ false)=RV.d b)∧((decide ((n3:Int) > 0))=false→tU4 (((!so)=true→True∧v∧tU2 ((q=false→tU7 (((w3 != w)=false→tU7 (C∧((h3 != h)=false→tU3 (∃ _u:Unit,i∧n))))∧M))∧H))∧((!so)=(!true)→tU4 (∃ _u:Unit,i∧n))))))∧((s3 != 0)=(!false)→tU3 a)))∧((h3 != 0)=(!false)→tU5 a)))∧((w3 != 0)=(!false)→tU7 a)))∧(so=(!true)→tU5 (((!so)=true→True∧v∧tU2 ((q=false→tU7 (((w3 != w)=false→tU7 (C∧((h3 != h)=false→tU3 (∃ _u:Unit,i∧n))))∧M))∧H))∧((!so)=(!true)→tU4 (∃ _u:Unit,i∧n))))))))∧(∀ _u:Unit,i→tU2 (decide ((4:Int) < 5)=true∧tU2 ((0≤(4:Int)∧(4:Int) < d)∧tU6 ((so=true→tU4 (((w4 != 0)=false→tU5 (((h4 != 0)=false→tU5 (((s4 != 0)=false→tU6 (((decide ((n4:Int) > 0))=true→True∧RV.d (dQ false)=RV.d b)∧((decide ((n4:Int) > 0))=false→tU4 (((!so)=true→True∧u∧tU2 ((p=false→tU7 (((w4 != w)=false→tU7 (B∧((h4 != h)=false→tU3 (∃ _u:Unit,j∧o))))∧L))∧G))∧((!so)=(!true)→tU4 (∃ _u:Unit,j∧o))))))∧((s4 != 0)=(!false)→tU3 a)))∧((h4 != 0)=(!false)→tU5 a)))∧((w4 != 0)=(!false)→tU7 a)))∧(so=(!true)→tU5 (((!so)=true→True∧u∧tU2 ((p=false→tU7 (((w4 != w)=false→tU7 (B∧((h4 != h)=false→tU3 (∃ _u:Unit,j∧o))))∧L))∧G))∧((!so)=(!true)→tU4 (∃ _u:Unit,j∧o))))))))∧(∀ _u:Unit,j→tU2 (decide ((5:Int) < 5)=false∧tU3 ((so=false→tU6 (RV.d (dQ (((c0==0) && ((c1==0) && ((c2==0) && true))) && ((ca==0) && ((cf==0) && true))))=RV.d b))∧(so=(!false)→tU2 (RV.d (dQ true)=RV.d b)))))∧True)))) ?_
  delta dJ dK dQ wK dS
  simp only [sS,zQs,zZu,zXr,zQT]
  cases so <;> simp [w1_,Im.inner,okPl,jXr,Px.zero] <;> (repeat' (first | apply And.intro | intro)) <;> (first | assumption | (simp_all; done) | grind)
theorem zXM (w h:Int) (so:Bool) (c0 c1 c2 ca cf w0 h0 s0:Int) (n0:Nat) (xs0:List DV) (w1 h1 s1:Int) (n1:Nat) (xs1:List DV) (w2 h2 s2:Int) (n2:Nat) (xs2:List DV) (w3 h3 s3:Int) (n3:Nat) (xs3:List DV) (w4 h4 s4:Int) (n4:Nat) (xs4:List DV):Ans prog 100 [RV.agg [dJ w,dJ h,dQ so,dK c0,dK c1,dK c2,dK ca,dK cf,dJ w0,dJ h0,dJ s0,dS n0 xs0,dJ w1,dJ h1,dJ s1,dS n1 xs1,dJ w2,dJ h2,dJ s2,dS n2 xs2,dJ w3,dJ h3,dJ s3,dS n3 xs3,dJ w4,dJ h4,dJ s4,dS n4 xs4]] (RV.d (dQ (Im.formed ⟨w,h,so,⟨c0,c1,c2,ca,cf⟩,⟨w0,h0,s0,n0,xs0⟩,⟨w1,h1,s1,n1,xs1⟩,⟨w2,h2,s2,n2,xs2⟩,⟨w3,h3,s3,n3,xs3⟩,⟨w4,h4,s4,n4,xs4⟩⟩))):=
 zQa (Γ:=gamI) Ann.leaf zQg Tryz.func100 rfl (nL rfl) fun hwf=>by
  refine Eq.mpr (by kernel_rfl:_=(let a:=(dQ (Im.inner ⟨w,h,so,⟨c0,c1,c2,ca,cf⟩,⟨w0,h0,s0,n0,xs0⟩,⟨w1,h1,s1,n1,xs1⟩,⟨w2,h2,s2,n2,xs2⟩,⟨w3,h3,s3,n3,xs3⟩,⟨w4,h4,s4,n4,xs4⟩⟩)); let b:=(dQ (Im.formed ⟨w,h,so,⟨c0,c1,c2,ca,cf⟩,⟨w0,h0,s0,n0,xs0⟩,⟨w1,h1,s1,n1,xs1⟩,⟨w2,h2,s2,n2,xs2⟩,⟨w3,h3,s3,n3,xs3⟩,⟨w4,h4,s4,n4,xs4⟩⟩)); tU6 ((Ans prog 63 [rJ w,rJ h] (RV.d (dQ (zZK w h))))∧True∧(((zZK w h)=true→True∧(Ans prog 87 [RV.agg [dJ w,dJ h,dQ so,dK c0,dK c1,dK c2,dK ca,dK cf,dJ w0,dJ h0,dJ s0,dS n0 xs0,dJ w1,dJ h1,dJ s1,dS n1 xs1,dJ w2,dJ h2,dJ s2,dS n2 xs2,dJ w3,dJ h3,dJ s3,dS n3 xs3,dJ w4,dJ h4,dJ s4,dS n4 xs4]] (RV.d a))∧tU2 (RV.d a=RV.d b))∧((zZK w h)=(!true)→tU2 (RV.d (dQ false)=RV.d b)))))) ?_
  delta dJ dK dQ dS rJ
  simp only [sS,zQs,zZu,zXr,zQT,zZ4]
  simp [Im.formed]; grind
theorem zHg (w h:Int) (so:Bool) (c0 c1 c2 ca cf w0 h0 s0:Int) (n0:Nat) (xs0:List DV) (w1 h1 s1:Int) (n1:Nat) (xs1:List DV) (w2 h2 s2:Int) (n2:Nat) (xs2:List DV) (w3 h3 s3:Int) (n3:Nat) (xs3:List DV) (w4 h4 s4:Int) (n4:Nat) (xs4:List DV) (x y:Int) (hu:Im.isU ⟨w,h,so,⟨c0,c1,c2,ca,cf⟩,⟨w0,h0,s0,n0,xs0⟩,⟨w1,h1,s1,n1,xs1⟩,⟨w2,h2,s2,n2,xs2⟩,⟨w3,h3,s3,n3,xs3⟩,⟨w4,h4,s4,n4,xs4⟩⟩) (hf:Im.inner ⟨w,h,so,⟨c0,c1,c2,ca,cf⟩,⟨w0,h0,s0,n0,xs0⟩,⟨w1,h1,s1,n1,xs1⟩,⟨w2,h2,s2,n2,xs2⟩,⟨w3,h3,s3,n3,xs3⟩,⟨w4,h4,s4,n4,xs4⟩⟩=true) (hx:0≤x∧x < w) (hy:0≤y∧y < h):Ans prog 89 [RV.agg [dJ w,dJ h,dQ so,dK c0,dK c1,dK c2,dK ca,dK cf,dJ w0,dJ h0,dJ s0,dS n0 xs0,dJ w1,dJ h1,dJ s1,dS n1 xs1,dJ w2,dJ h2,dJ s2,dS n2 xs2,dJ w3,dJ h3,dJ s3,dS n3 xs3,dJ w4,dJ h4,dJ s4,dS n4 xs4],rJ (x),rJ (y)] (RV.agg [dK ((Im.px ⟨w,h,so,⟨c0,c1,c2,ca,cf⟩,⟨w0,h0,s0,n0,xs0⟩,⟨w1,h1,s1,n1,xs1⟩,⟨w2,h2,s2,n2,xs2⟩,⟨w3,h3,s3,n3,xs3⟩,⟨w4,h4,s4,n4,xs4⟩⟩ x y).a),dK ((Im.px ⟨w,h,so,⟨c0,c1,c2,ca,cf⟩,⟨w0,h0,s0,n0,xs0⟩,⟨w1,h1,s1,n1,xs1⟩,⟨w2,h2,s2,n2,xs2⟩,⟨w3,h3,s3,n3,xs3⟩,⟨w4,h4,s4,n4,xs4⟩⟩ x y).b),dK ((Im.px ⟨w,h,so,⟨c0,c1,c2,ca,cf⟩,⟨w0,h0,s0,n0,xs0⟩,⟨w1,h1,s1,n1,xs1⟩,⟨w2,h2,s2,n2,xs2⟩,⟨w3,h3,s3,n3,xs3⟩,⟨w4,h4,s4,n4,xs4⟩⟩ x y).c),dK ((Im.px ⟨w,h,so,⟨c0,c1,c2,ca,cf⟩,⟨w0,h0,s0,n0,xs0⟩,⟨w1,h1,s1,n1,xs1⟩,⟨w2,h2,s2,n2,xs2⟩,⟨w3,h3,s3,n3,xs3⟩,⟨w4,h4,s4,n4,xs4⟩⟩ x y).al),dK ((Im.px ⟨w,h,so,⟨c0,c1,c2,ca,cf⟩,⟨w0,h0,s0,n0,xs0⟩,⟨w1,h1,s1,n1,xs1⟩,⟨w2,h2,s2,n2,xs2⟩,⟨w3,h3,s3,n3,xs3⟩,⟨w4,h4,s4,n4,xs4⟩⟩ x y).f)]):=
 zQa (Γ:=gamI) (let a:=(7,AV.one (Cl.ptr 7 0)); let b:=(6,AV.one (Cl.ptr 6 0)); let c:=(3,AV.one (Cl.ptr 3 0)); let i:=(Ann.seq (Ann.seq Ann.leaf (Ann.sure true Ann.leaf)) Ann.leaf); let d:=(1,aJ x); let e:=(2,aJ y); let f:=(3,bC [cJ w,cJ h,Cl.d (dQ so),cK c0,cK c1,cK c2,cK ca,cK cf,cJ w0,cJ h0,cJ s0,Cl.d (dS n0 xs0),cJ w1,cJ h1,cJ s1,Cl.d (dS n1 xs1),cJ w2,cJ h2,cJ s2,Cl.d (dS n2 xs2),cJ w3,cJ h3,cJ s3,Cl.d (dS n3 xs3),cJ w4,cJ h4,cJ s4,Cl.d (dS n4 xs4)]); let g:=(6,bC [cK 0,cK 0,cK 0,cK 0,cK 0]); let j:=(dJ (wK ((wK (y*s0))+x))); let k:=(dJ (wK ((wK (y*s1))+x))); let l:=(dJ (wK ((wK (y*s2))+x))); let m:=(dJ (wK ((wK (y*s3))+x))); (Ann.seq Ann.leaf (Ann.seq Ann.leaf (Ann.seq Ann.leaf (Ann.seq (Ann.seq Ann.leaf (Ann.link ⟨Unit,fun _u=>True,fun _u=>⟨[d,e,c,b,a,(8,aJ 0)],[f,g,(7,bC [cJ 0,cJ 0,cJ 0,cJ 0,cJ 0])]⟩,fun _u=>0⟩ (fun _u=>i) (Ann.link ⟨Unit,fun _u=>True,fun _u=>⟨[d,e,c,b,a,(8,aJ 1)],[f,g,(7,bC [Cl.d j,cJ 0,cJ 0,cJ 0,cJ 0])]⟩,fun _u=>0⟩ (fun _u=>i) (Ann.link ⟨Unit,fun _u=>True,fun _u=>⟨[d,e,c,b,a,(8,aJ 2)],[f,g,(7,bC [Cl.d j,Cl.d k,cJ 0,cJ 0,cJ 0])]⟩,fun _u=>0⟩ (fun _u=>i) (Ann.link ⟨Unit,fun _u=>True,fun _u=>⟨[d,e,c,b,a,(8,aJ 3)],[f,g,(7,bC [Cl.d j,Cl.d k,Cl.d l,cJ 0,cJ 0])]⟩,fun _u=>0⟩ (fun _u=>i) (Ann.link ⟨Unit,fun _u=>True,fun _u=>⟨[d,e,c,b,a,(8,aJ 4)],[f,g,(7,bC [Cl.d j,Cl.d k,Cl.d l,Cl.d m,cJ 0])]⟩,fun _u=>0⟩ (fun _u=>i) (Ann.link ⟨Unit,fun _u=>True,fun _u=>⟨[d,e,c,b,a,(8,aJ 5)],[f,g,(7,bC [Cl.d j,Cl.d k,Cl.d l,Cl.d m,cJ (wK ((wK (y*s4))+x))])]⟩,fun _u=>0⟩ (fun _u=>(Ann.seq (Ann.seq Ann.leaf (Ann.sure false Ann.leaf)) Ann.leaf)) Ann.leaf))))))) Ann.leaf))))) zQg Tryz.func89 rfl (nL rfl) fun hwf=>by
  refine Eq.mpr (by kernel_rfl:_=(let j:=((5:Nat):Int); let k:=(Im.px ⟨w,h,so,⟨c0,c1,c2,ca,cf⟩,⟨w0,h0,s0,n0,xs0⟩,⟨w1,h1,s1,n1,xs1⟩,⟨w2,h2,s2,n2,xs2⟩,⟨w3,h3,s3,n3,xs3⟩,⟨w4,h4,s4,n4,xs4⟩⟩ x y); let z:=[dK k.a,dK k.b,dK k.c,dK k.al,dK k.f]; let d:=(dJ x=dJ x); let e:=(dJ y=dJ y); let A:=[dJ w,dJ h,dQ so,dK c0,dK c1,dK c2,dK ca,dK cf,dJ w0,dJ h0,dJ s0,dS n0 xs0,dJ w1,dJ h1,dJ s1,dS n1 xs1,dJ w2,dJ h2,dJ s2,dS n2 xs2,dJ w3,dJ h3,dJ s3,dS n3 xs3,dJ w4,dJ h4,dJ s4,dS n4 xs4]; let f:=(A=A); let B:=[dK 0,dK 0,dK 0,dK 0,dK 0]; let g:=(B=B); let C:=[dJ 0,dJ 0,dJ 0,dJ 0,dJ 0]; let m:=(0≤(0:Int)∧(0:Int) < j); let r:=((wK (y*s0))+x); let a:=(wK r); let D:=[dJ a,dJ 0,dJ 0,dJ 0,dJ 0]; let n:=(0≤(1:Int)∧(1:Int) < j); let s:=((wK (y*s1))+x); let b:=(wK s); let E:=[dJ a,dJ b,dJ 0,dJ 0,dJ 0]; let o:=(0≤(2:Int)∧(2:Int) < j); let t:=((wK (y*s2))+x); let c:=(wK t); let F:=[dJ a,dJ b,dJ c,dJ 0,dJ 0]; let p:=(0≤(3:Int)∧(3:Int) < j); let u:=((wK (y*s3))+x); let i:=(wK u); let G:=[dJ a,dJ b,dJ c,dJ i,dJ 0]; let q:=(0≤(4:Int)∧(4:Int) < j); let v:=((wK (y*s4))+x); let l:=(wK v); let H:=[dJ a,dJ b,dJ c,dJ i,dJ l]; tU4 ((so=true→tU3 (RV.agg [dK c0,dK c1,dK c2,dK ca,dK cf]=RV.agg z))∧(so=false→tU4 ((∃ _u:Unit,True∧((d∧e∧(0=0)∧(0=0)∧(0=0)∧(dJ 0=dJ 0)∧True)∧(f∧g∧(C=C)∧True)))∧((∀ _u:Unit,True→tU2 (decide ((0:Int) < 5)=true∧tU4 (m∧tU5 (m∧tU4 (∃ _u:Unit,True∧((d∧e∧(0=0)∧(0=0)∧(0=0)∧(dJ (wK ((0:Int)+1))=dJ 1)∧True)∧(f∧g∧(D=D)∧True)))))))∧(∀ _u:Unit,True→tU2 (decide ((1:Int) < 5)=true∧tU4 (n∧tU5 (n∧tU4 (∃ _u:Unit,True∧((d∧e∧(0=0)∧(0=0)∧(0=0)∧(dJ (wK ((1:Int)+1))=dJ 2)∧True)∧(f∧g∧(E=E)∧True)))))))∧(∀ _u:Unit,True→tU2 (decide ((2:Int) < 5)=true∧tU4 (o∧tU5 (o∧tU4 (∃ _u:Unit,True∧((d∧e∧(0=0)∧(0=0)∧(0=0)∧(dJ (wK ((2:Int)+1))=dJ 3)∧True)∧(f∧g∧(F=F)∧True)))))))∧(∀ _u:Unit,True→tU2 (decide ((3:Int) < 5)=true∧tU4 (p∧tU5 (p∧tU4 (∃ _u:Unit,True∧((d∧e∧(0=0)∧(0=0)∧(0=0)∧(dJ (wK ((3:Int)+1))=dJ 4)∧True)∧(f∧g∧(G=G)∧True)))))))∧(∀ _u:Unit,True→tU2 (decide ((4:Int) < 5)=true∧tU4 (q∧tU5 (q∧tU4 (∃ _u:Unit,True∧((d∧e∧(0=0)∧(0=0)∧(0=0)∧(dJ (wK ((4:Int)+1))=dJ 5)∧True)∧(f∧g∧(H=H)∧True)))))))∧(∀ _u:Unit,True→tU2 (decide ((5:Int) < 5)=false∧True∧m∧tU2 (m∧True∧(0≤wK r∧wK r < (n0:Int)∧a.toNat*1 < xs0.length)∧((xs0[a.toNat*1]?=some (dK (nAt xs0 (a.toNat*1))))∧True)∧True∧n∧tU2 (n∧True∧(0≤wK s∧wK s < (n1:Int)∧b.toNat*1 < xs1.length)∧((xs1[b.toNat*1]?=some (dK (nAt xs1 (b.toNat*1))))∧True)∧True∧o∧tU2 (o∧True∧(0≤wK t∧wK t < (n2:Int)∧c.toNat*1 < xs2.length)∧((xs2[c.toNat*1]?=some (dK (nAt xs2 (c.toNat*1))))∧True)∧tU2 (p∧tU2 (p∧True∧(0≤wK u∧wK u < (n3:Int)∧i.toNat*1 < xs3.length)∧((xs3[i.toNat*1]?=some (dK (nAt xs3 (i.toNat*1))))∧True)∧True∧q∧tU2 (q∧True∧(0≤wK v∧wK v < (n4:Int)∧l.toNat*1 < xs4.length)∧((xs4[l.toNat*1]?=some (dK (nAt xs4 (l.toNat*1))))∧True)∧tU2 ((true=true)∧RV.agg [dK (nAt xs0 (a.toNat*1)),dK (nAt xs1 (b.toNat*1)),dK (nAt xs2 (c.toNat*1)),dK (nAt xs3 (i.toNat*1)),dK (nAt xs4 (l.toNat*1))]=RV.agg z)))))))))∧True)))))) ?_
  delta dJ dK dQ wK dS
  simp only [sS,zQs,zZu,zZ4,zXM]
  cases so with
  | true=>simp [Im.px]
  | false=>
   obtain ⟨u0,u1,u2,u3,u4⟩:=hu
   obtain ⟨hc,⟨v0,e0,e0'⟩,⟨v1,e1,e1'⟩,⟨v2,e2,e2'⟩,⟨v3,e3,e3'⟩,⟨v4,e4,e4'⟩⟩:=Im.inner_planes hf rfl
   simp only at v0 e0 e0' v1 e1 e1' v2 e2 e2' v3 e3 e3' v4 e4 e4'
   obtain ⟨a0,b0,d0⟩:=zKU u0 v0 (x:=x) (y:=y) ⟨hx.1,by omega⟩ ⟨hy.1,by omega⟩
   obtain ⟨a1,b1,d1⟩:=zKU u1 v1 (x:=x) (y:=y) ⟨hx.1,by omega⟩ ⟨hy.1,by omega⟩
   obtain ⟨a2,b2,d2⟩:=zKU u2 v2 (x:=x) (y:=y) ⟨hx.1,by omega⟩ ⟨hy.1,by omega⟩
   obtain ⟨a3,b3,d3⟩:=zKU u3 v3 (x:=x) (y:=y) ⟨hx.1,by omega⟩ ⟨hy.1,by omega⟩
   obtain ⟨a4,b4,d4⟩:=zKU u4 v4 (x:=x) (y:=y) ⟨hx.1,by omega⟩ ⟨hy.1,by omega⟩
   simp only at a0 b0 d0 a1 b1 d1 a2 b2 d2 a3 b3 d3 a4 b4 d4
   simp only [Nat.mul_one] at b0 b1 b2 b3 b4 d0 d1 d2 d3 d4
   have f0:=(List.getElem?_eq_some_iff.1 d0).2
   have f1:=(List.getElem?_eq_some_iff.1 d1).2
   have f2:=(List.getElem?_eq_some_iff.1 d2).2
   have f3:=(List.getElem?_eq_some_iff.1 d3).2
   have f4:=(List.getElem?_eq_some_iff.1 d4).2
   simp [w1_,f0,f1,f2,f3,f4,a0,a1,a2,a3,a4,b0,b1,b2,b3,b4,d0,d1,d2,d3,d4,Im.px,Pl.at_]
theorem zHh (w h c0 c1 c2 ca cf:Int):Ans prog 20 [rJ (w),rJ (h),RV.agg [dK c0,dK c1,dK c2,dK ca,dK cf]] (RV.agg [dJ ((zQb w h ⟨c0,c1,c2,ca,cf⟩).w),dJ ((zQb w h ⟨c0,c1,c2,ca,cf⟩).h),dQ ((zQb w h ⟨c0,c1,c2,ca,cf⟩).so),dK (((zQb w h ⟨c0,c1,c2,ca,cf⟩).c).a),dK (((zQb w h ⟨c0,c1,c2,ca,cf⟩).c).b),dK (((zQb w h ⟨c0,c1,c2,ca,cf⟩).c).c),dK (((zQb w h ⟨c0,c1,c2,ca,cf⟩).c).al),dK (((zQb w h ⟨c0,c1,c2,ca,cf⟩).c).f),dJ (((zQb w h ⟨c0,c1,c2,ca,cf⟩).p0).w),dJ (((zQb w h ⟨c0,c1,c2,ca,cf⟩).p0).h),dJ (((zQb w h ⟨c0,c1,c2,ca,cf⟩).p0).s),dS (((zQb w h ⟨c0,c1,c2,ca,cf⟩).p0).n) (((zQb w h ⟨c0,c1,c2,ca,cf⟩).p0).xs),dJ (((zQb w h ⟨c0,c1,c2,ca,cf⟩).p1).w),dJ (((zQb w h ⟨c0,c1,c2,ca,cf⟩).p1).h),dJ (((zQb w h ⟨c0,c1,c2,ca,cf⟩).p1).s),dS (((zQb w h ⟨c0,c1,c2,ca,cf⟩).p1).n) (((zQb w h ⟨c0,c1,c2,ca,cf⟩).p1).xs),dJ (((zQb w h ⟨c0,c1,c2,ca,cf⟩).p2).w),dJ (((zQb w h ⟨c0,c1,c2,ca,cf⟩).p2).h),dJ (((zQb w h ⟨c0,c1,c2,ca,cf⟩).p2).s),dS (((zQb w h ⟨c0,c1,c2,ca,cf⟩).p2).n) (((zQb w h ⟨c0,c1,c2,ca,cf⟩).p2).xs),dJ (((zQb w h ⟨c0,c1,c2,ca,cf⟩).p3).w),dJ (((zQb w h ⟨c0,c1,c2,ca,cf⟩).p3).h),dJ (((zQb w h ⟨c0,c1,c2,ca,cf⟩).p3).s),dS (((zQb w h ⟨c0,c1,c2,ca,cf⟩).p3).n) (((zQb w h ⟨c0,c1,c2,ca,cf⟩).p3).xs),dJ (((zQb w h ⟨c0,c1,c2,ca,cf⟩).p4).w),dJ (((zQb w h ⟨c0,c1,c2,ca,cf⟩).p4).h),dJ (((zQb w h ⟨c0,c1,c2,ca,cf⟩).p4).s),dS (((zQb w h ⟨c0,c1,c2,ca,cf⟩).p4).n) (((zQb w h ⟨c0,c1,c2,ca,cf⟩).p4).xs)]):=
 zQa (Γ:=gamI) Ann.leaf zQg Tryz.func20 rfl (nL rfl) fun hwf=>by
  refine Eq.mpr (by kernel_rfl:_=(tU7 (RV.agg [dJ w,dJ h,dQ true,dK c0,dK c1,dK c2,dK ca,dK cf,dJ 0,dJ 0,dJ 0,dS 0 ([]),dJ 0,dJ 0,dJ 0,dS 0 ([]),dJ 0,dJ 0,dJ 0,dS 0 ([]),dJ 0,dJ 0,dJ 0,dS 0 ([]),dJ 0,dJ 0,dJ 0,dS 0 ([])]=RV.agg [dJ (zQb w h ⟨c0,c1,c2,ca,cf⟩).w,dJ (zQb w h ⟨c0,c1,c2,ca,cf⟩).h,dQ (zQb w h ⟨c0,c1,c2,ca,cf⟩).so,dK (zQb w h ⟨c0,c1,c2,ca,cf⟩).c.a,dK (zQb w h ⟨c0,c1,c2,ca,cf⟩).c.b,dK (zQb w h ⟨c0,c1,c2,ca,cf⟩).c.c,dK (zQb w h ⟨c0,c1,c2,ca,cf⟩).c.al,dK (zQb w h ⟨c0,c1,c2,ca,cf⟩).c.f,dJ (zQb w h ⟨c0,c1,c2,ca,cf⟩).p0.w,dJ (zQb w h ⟨c0,c1,c2,ca,cf⟩).p0.h,dJ (zQb w h ⟨c0,c1,c2,ca,cf⟩).p0.s,dS (zQb w h ⟨c0,c1,c2,ca,cf⟩).p0.n (zQb w h ⟨c0,c1,c2,ca,cf⟩).p0.xs,dJ (zQb w h ⟨c0,c1,c2,ca,cf⟩).p1.w,dJ (zQb w h ⟨c0,c1,c2,ca,cf⟩).p1.h,dJ (zQb w h ⟨c0,c1,c2,ca,cf⟩).p1.s,dS (zQb w h ⟨c0,c1,c2,ca,cf⟩).p1.n (zQb w h ⟨c0,c1,c2,ca,cf⟩).p1.xs,dJ (zQb w h ⟨c0,c1,c2,ca,cf⟩).p2.w,dJ (zQb w h ⟨c0,c1,c2,ca,cf⟩).p2.h,dJ (zQb w h ⟨c0,c1,c2,ca,cf⟩).p2.s,dS (zQb w h ⟨c0,c1,c2,ca,cf⟩).p2.n (zQb w h ⟨c0,c1,c2,ca,cf⟩).p2.xs,dJ (zQb w h ⟨c0,c1,c2,ca,cf⟩).p3.w,dJ (zQb w h ⟨c0,c1,c2,ca,cf⟩).p3.h,dJ (zQb w h ⟨c0,c1,c2,ca,cf⟩).p3.s,dS (zQb w h ⟨c0,c1,c2,ca,cf⟩).p3.n (zQb w h ⟨c0,c1,c2,ca,cf⟩).p3.xs,dJ (zQb w h ⟨c0,c1,c2,ca,cf⟩).p4.w,dJ (zQb w h ⟨c0,c1,c2,ca,cf⟩).p4.h,dJ (zQb w h ⟨c0,c1,c2,ca,cf⟩).p4.s,dS (zQb w h ⟨c0,c1,c2,ca,cf⟩).p4.n (zQb w h ⟨c0,c1,c2,ca,cf⟩).p4.xs]))) ?_
  delta dJ dK dQ dS
  simp only [sS,zQs,zZu,zZ4,zXM]
  simp [zQb,Pl.none,Px.zero]
end
section
attribute [local go_sem] Oper.semAt_some
end
section
attribute [local irreducible] Ans AnsO AnsG AnsN AnsI
theorem zUn (w h:Int) (so:Bool) (c0 c1 c2 ca cf w0 h0 s0:Int) (n0:Nat) (xs0:List DV) (w1 h1 s1:Int) (n1:Nat) (xs1:List DV) (w2 h2 s2:Int) (n2:Nat) (xs2:List DV) (w3 h3 s3:Int) (n3:Nat) (xs3:List DV) (w4 h4 s4:Int) (n4:Nat) (xs4:List DV) (x y:Int) (hu:Im.isU ⟨w,h,so,⟨c0,c1,c2,ca,cf⟩,⟨w0,h0,s0,n0,xs0⟩,⟨w1,h1,s1,n1,xs1⟩,⟨w2,h2,s2,n2,xs2⟩,⟨w3,h3,s3,n3,xs3⟩,⟨w4,h4,s4,n4,xs4⟩⟩):Ans prog 92 [RV.agg [dJ w,dJ h,dQ so,dK c0,dK c1,dK c2,dK ca,dK cf,dJ w0,dJ h0,dJ s0,dS n0 xs0,dJ w1,dJ h1,dJ s1,dS n1 xs1,dJ w2,dJ h2,dJ s2,dS n2 xs2,dJ w3,dJ h3,dJ s3,dS n3 xs3,dJ w4,dJ h4,dJ s4,dS n4 xs4],rJ (x),rJ (y)] (RV.agg [dK ((Im.at_ ⟨w,h,so,⟨c0,c1,c2,ca,cf⟩,⟨w0,h0,s0,n0,xs0⟩,⟨w1,h1,s1,n1,xs1⟩,⟨w2,h2,s2,n2,xs2⟩,⟨w3,h3,s3,n3,xs3⟩,⟨w4,h4,s4,n4,xs4⟩⟩ x y).a),dK ((Im.at_ ⟨w,h,so,⟨c0,c1,c2,ca,cf⟩,⟨w0,h0,s0,n0,xs0⟩,⟨w1,h1,s1,n1,xs1⟩,⟨w2,h2,s2,n2,xs2⟩,⟨w3,h3,s3,n3,xs3⟩,⟨w4,h4,s4,n4,xs4⟩⟩ x y).b),dK ((Im.at_ ⟨w,h,so,⟨c0,c1,c2,ca,cf⟩,⟨w0,h0,s0,n0,xs0⟩,⟨w1,h1,s1,n1,xs1⟩,⟨w2,h2,s2,n2,xs2⟩,⟨w3,h3,s3,n3,xs3⟩,⟨w4,h4,s4,n4,xs4⟩⟩ x y).c),dK ((Im.at_ ⟨w,h,so,⟨c0,c1,c2,ca,cf⟩,⟨w0,h0,s0,n0,xs0⟩,⟨w1,h1,s1,n1,xs1⟩,⟨w2,h2,s2,n2,xs2⟩,⟨w3,h3,s3,n3,xs3⟩,⟨w4,h4,s4,n4,xs4⟩⟩ x y).al),dK ((Im.at_ ⟨w,h,so,⟨c0,c1,c2,ca,cf⟩,⟨w0,h0,s0,n0,xs0⟩,⟨w1,h1,s1,n1,xs1⟩,⟨w2,h2,s2,n2,xs2⟩,⟨w3,h3,s3,n3,xs3⟩,⟨w4,h4,s4,n4,xs4⟩⟩ x y).f)]):=
 zQa (Γ:=gamI) Ann.leaf zQg Tryz.func92 rfl (nL rfl) fun hwf=>by
  refine Eq.mpr (by kernel_rfl:_=(let e:=[dJ w,dJ h,dQ so,dK c0,dK c1,dK c2,dK ca,dK cf,dJ w0,dJ h0,dJ s0,dS n0 xs0,dJ w1,dJ h1,dJ s1,dS n1 xs1,dJ w2,dJ h2,dJ s2,dS n2 xs2,dJ w3,dJ h3,dJ s3,dS n3 xs3,dJ w4,dJ h4,dJ s4,dS n4 xs4]; let d:=(Im.formed ⟨w,h,so,⟨c0,c1,c2,ca,cf⟩,⟨w0,h0,s0,n0,xs0⟩,⟨w1,h1,s1,n1,xs1⟩,⟨w2,h2,s2,n2,xs2⟩,⟨w3,h3,s3,n3,xs3⟩,⟨w4,h4,s4,n4,xs4⟩⟩); let i:=[dK 0,dK 0,dK 0,dK 0,dK 0]; let a:=(Im.at_ ⟨w,h,so,⟨c0,c1,c2,ca,cf⟩,⟨w0,h0,s0,n0,xs0⟩,⟨w1,h1,s1,n1,xs1⟩,⟨w2,h2,s2,n2,xs2⟩,⟨w3,h3,s3,n3,xs3⟩,⟨w4,h4,s4,n4,xs4⟩⟩ x y); let f:=[dK a.a,dK a.b,dK a.c,dK a.al,dK a.f]; let b:=(RV.agg i=RV.agg f); let c:=(Im.px ⟨w,h,so,⟨c0,c1,c2,ca,cf⟩,⟨w0,h0,s0,n0,xs0⟩,⟨w1,h1,s1,n1,xs1⟩,⟨w2,h2,s2,n2,xs2⟩,⟨w3,h3,s3,n3,xs3⟩,⟨w4,h4,s4,n4,xs4⟩⟩ x y); let g:=[dK c.a,dK c.b,dK c.c,dK c.al,dK c.f]; tU3 ((Ans prog 100 [RV.agg e] (RV.d (dQ d)))∧tU2 (((!d)=false→tU4 (((decide (x < 0))=false→tU6 (((decide (x≥w))=false→tU4 (((decide (y < 0))=false→tU5 (((decide (y≥h))=true→tU2 b)∧((decide (y≥h))=false→tU3 ((Ans prog 89 [RV.agg e,rJ x,rJ y] (RV.agg g))∧True∧RV.agg g=RV.agg f))))∧((decide (y < 0))=(!false)→tU3 b)))∧((decide (x≥w))=(!false)→tU5 b)))∧((decide (x < 0))=(!false)→tU7 b)))∧((!d)=(!false)→True∧tU8 b))))) ?_
  delta dJ dK dQ dS rJ
  simp only [sS,zQs,zZu,zQT,zZ4,zXM]
  obtain ⟨m,hm⟩:∃ m:Im,m=⟨w,h,so,⟨c0,c1,c2,ca,cf⟩,⟨w0,h0,s0,n0,xs0⟩,⟨w1,h1,s1,n1,xs1⟩,⟨w2,h2,s2,n2,xs2⟩,⟨w3,h3,s3,n3,xs3⟩,⟨w4,h4,s4,n4,xs4⟩⟩:=⟨_,rfl⟩
  have pix:=fun (x y:Int) (hf:Im.inner ⟨w,h,so,⟨c0,c1,c2,ca,cf⟩,⟨w0,h0,s0,n0,xs0⟩,⟨w1,h1,s1,n1,xs1⟩,⟨w2,h2,s2,n2,xs2⟩,⟨w3,h3,s3,n3,xs3⟩,⟨w4,h4,s4,n4,xs4⟩⟩=true) hx hy=>zHg w h so c0 c1 c2 ca cf w0 h0 s0 n0 xs0 w1 h1 s1 n1 xs1 w2 h2 s2 n2 xs2 w3 h3 s3 n3 xs3 w4 h4 s4 n4 xs4 x y hu hf hx hy
  have ew:w=m.w:=by rw [hm]
  have eh:h=m.h:=by rw [hm]
  have es:so=m.so:=by rw [hm]
  have ec:(⟨c0,c1,c2,ca,cf⟩:Px)=m.c:=by rw [hm]
  rw [← hm] at pix hu
  simp only [← hm]
  rw [ew,eh] at pix
  rw [ew,eh]
  have out:(m.formed=false∨x < 0∨m.w≤x∨y < 0∨m.h≤y)→0=(m.at_ x y).a∧0=(m.at_ x y).b∧0=(m.at_ x y).c∧0=(m.at_ x y).al∧0=(m.at_ x y).f:=fun h=>by rw [Im.at_out h]; exact ⟨rfl,rfl,rfl,rfl,rfl⟩
  refine ⟨fun q1=>⟨fun q2=>⟨fun q3=>⟨fun q4=>⟨fun q5=>out (by omega),fun q5=>?_⟩,fun q4=>out (by omega)⟩,fun q3=>out (by omega)⟩,fun q2=>out (by omega)⟩,fun q1=>out (.inl q1)⟩
  rw [Im.at_in q1 ⟨by omega,by omega⟩ ⟨by omega,by omega⟩]
  exact ⟨pix _ _ (Im.formed_of q1).2 ⟨by omega,by omega⟩ ⟨by omega,by omega⟩,rfl,rfl,rfl,rfl,rfl⟩
theorem zUm (w h:Int) (n:Nat) (xs:List DV) (hx:jXq n xs):AnsG prog 35 0 [aJ ((w)),aJ ((h)),AV.one (Cl.d (dS n xs))] [] ⟨AV.tup [AV.agg [cJ (((imOf w h (zQl xs)).w)),cJ (((imOf w h (zQl xs)).h)),Cl.d (dQ ((imOf w h (zQl xs)).so)),cK (((imOf w h (zQl xs)).c.a)),cK (((imOf w h (zQl xs)).c.b)),cK (((imOf w h (zQl xs)).c.c)),cK (((imOf w h (zQl xs)).c.al)),cK (((imOf w h (zQl xs)).c.f)),cJ (((imOf w h (zQl xs)).p0.w)),cJ (((imOf w h (zQl xs)).p0.h)),cJ (((imOf w h (zQl xs)).p0.s)),Cl.ref 0 ((imOf w h (zQl xs)).p0.n),cJ (((imOf w h (zQl xs)).p1.w)),cJ (((imOf w h (zQl xs)).p1.h)),cJ (((imOf w h (zQl xs)).p1.s)),Cl.ref 1 ((imOf w h (zQl xs)).p1.n),cJ (((imOf w h (zQl xs)).p2.w)),cJ (((imOf w h (zQl xs)).p2.h)),cJ (((imOf w h (zQl xs)).p2.s)),Cl.ref 2 ((imOf w h (zQl xs)).p2.n),cJ (((imOf w h (zQl xs)).p3.w)),cJ (((imOf w h (zQl xs)).p3.h)),cJ (((imOf w h (zQl xs)).p3.s)),Cl.ref 3 ((imOf w h (zQl xs)).p3.n),cJ (((imOf w h (zQl xs)).p4.w)),cJ (((imOf w h (zQl xs)).p4.h)),cJ (((imOf w h (zQl xs)).p4.s)),Cl.ref 4 ((imOf w h (zQl xs)).p4.n)],AV.one (Cl.d (dQ (ofOk w h n)))],[Bx.row 42 1 ((imOf w h (zQl xs)).p0.xs),Bx.row 42 1 ((imOf w h (zQl xs)).p1.xs),Bx.row 42 1 ((imOf w h (zQl xs)).p2.xs),Bx.row 42 1 ((imOf w h (zQl xs)).p3.xs),Bx.row 42 1 ((imOf w h (zQl xs)).p4.xs)],true⟩:=
 zQL (Γ:=gamI) (let v:=(Ann.seq (Ann.seq Ann.leaf (Ann.sure false Ann.leaf)) Ann.leaf); let b:=(8,AV.one (Cl.ptr 8 0)); let c:=(6,AV.one (Cl.ptr 6 0)); let f:=(Ann.seq (Ann.seq Ann.leaf (Ann.sure true Ann.leaf)) Ann.leaf); let g:=(0,aJ w); let j:=(1,aJ h); let d:=(2,AV.one (Cl.d (dS n xs))); let x:=(cJ 0); let e:=(6,bC [cJ 0,cJ 0,Cl.d (dQ false),cK 0,cK 0,cK 0,cK 0,cK 0,cJ 0,cJ 0,cJ 0,Cl.nil,cJ 0,cJ 0,cJ 0,Cl.nil,cJ 0,cJ 0,cJ 0,Cl.nil,cJ 0,cJ 0,cJ 0,Cl.nil,cJ 0,cJ 0,cJ 0,Cl.nil]); let y:=(cJ 1); let a:=(wK (w*h)).toNat; let k:=(List.replicate (wK (w*h)).toNat (dK 0)); let l:=(200039,Bx.row 42 1 k); let z:=(cJ 2); let p:=(300039,Bx.row 42 1 k); let A:=(cJ 3); let s:=(400039,Bx.row 42 1 k); let B:=(500039,Bx.row 42 1 k); let m:=(8,bC [cJ w,cJ h,Cl.d (dQ false),cK 0,cK 0,cK 0,cK 0,cK 0,cJ w,cJ h,cJ w,Cl.ref 200039 a,cJ w,cJ h,cJ w,Cl.ref 300039 a,cJ w,cJ h,cJ w,Cl.ref 400039 a,cJ w,cJ h,cJ w,Cl.ref 500039 a,cJ w,cJ h,cJ w,Cl.ref 600039 a]); let o:=fun (i:Nat)=>(10,aJ (i:Int)); let C:=fun (i:Nat)=>(300039,Bx.row 42 1 (zQr (zQl xs) Px.b i)); let t:=fun (i:Nat)=>(400039,Bx.row 42 1 (zQr (zQl xs) Px.c i)); let q:=fun (i:Nat)=>(500039,Bx.row 42 1 (zQr (zQl xs) Px.al i)); let r:=fun (i:Nat)=>(600039,Bx.row 42 1 (zQr (zQl xs) Px.f i)); let D:=fun (i:Nat)=>[e,m,(200039,Bx.row 42 1 (zQr (zQl xs) Px.a i)),(C i),(t i),(q i),(r i)]; let u:=fun (i:Nat)=>(200039,Bx.row 42 1 (List.set (zQr (zQl xs) Px.a i) ((i:Int).toNat*1) (dK (nAt xs ((i:Int).toNat*5+0+0))))); let E:=fun (i:Nat)=>(300039,Bx.row 42 1 (List.set (zQr (zQl xs) Px.b i) ((i:Int).toNat*1) (dK (nAt xs ((i:Int).toNat*5+0+1))))); (Ann.seq Ann.leaf (Ann.seq Ann.leaf (Ann.seq Ann.leaf (Ann.seq (Ann.seq Ann.leaf (Ann.link ⟨Unit,fun _u=>True,fun _u=>⟨[g,j,d,c,b,(9,AV.one x)],[e,(8,bC [cJ w,cJ h,Cl.d (dQ false),cK 0,cK 0,cK 0,cK 0,cK 0,cJ 0,cJ 0,cJ 0,Cl.nil,cJ 0,cJ 0,cJ 0,Cl.nil,cJ 0,cJ 0,cJ 0,Cl.nil,cJ 0,cJ 0,cJ 0,Cl.nil,cJ 0,cJ 0,cJ 0,Cl.nil])]⟩,fun _u=>0⟩ (fun _u=>f) (Ann.link ⟨Unit,fun _u=>True,fun _u=>⟨[g,j,d,c,b,(9,AV.one y)],[e,(8,bC [cJ w,cJ h,Cl.d (dQ false),cK 0,cK 0,cK 0,cK 0,cK 0,cJ w,cJ h,cJ w,Cl.ref 200039 a,cJ 0,cJ 0,cJ 0,Cl.nil,cJ 0,cJ 0,cJ 0,Cl.nil,cJ 0,cJ 0,cJ 0,Cl.nil,cJ 0,cJ 0,cJ 0,Cl.nil]),l]⟩,fun _u=>0⟩ (fun _u=>f) (Ann.link ⟨Unit,fun _u=>True,fun _u=>⟨[g,j,d,c,b,(9,AV.one z)],[e,(8,bC [cJ w,cJ h,Cl.d (dQ false),cK 0,cK 0,cK 0,cK 0,cK 0,cJ w,cJ h,cJ w,Cl.ref 200039 a,cJ w,cJ h,cJ w,Cl.ref 300039 a,cJ 0,cJ 0,cJ 0,Cl.nil,cJ 0,cJ 0,cJ 0,Cl.nil,cJ 0,cJ 0,cJ 0,Cl.nil]),l,p]⟩,fun _u=>0⟩ (fun _u=>f) (Ann.link ⟨Unit,fun _u=>True,fun _u=>⟨[g,j,d,c,b,(9,AV.one A)],[e,(8,bC [cJ w,cJ h,Cl.d (dQ false),cK 0,cK 0,cK 0,cK 0,cK 0,cJ w,cJ h,cJ w,Cl.ref 200039 a,cJ w,cJ h,cJ w,Cl.ref 300039 a,cJ w,cJ h,cJ w,Cl.ref 400039 a,cJ 0,cJ 0,cJ 0,Cl.nil,cJ 0,cJ 0,cJ 0,Cl.nil]),l,p,s]⟩,fun _u=>0⟩ (fun _u=>f) (Ann.link ⟨Unit,fun _u=>True,fun _u=>⟨[g,j,d,c,b,(9,aJ 4)],[e,(8,bC [cJ w,cJ h,Cl.d (dQ false),cK 0,cK 0,cK 0,cK 0,cK 0,cJ w,cJ h,cJ w,Cl.ref 200039 a,cJ w,cJ h,cJ w,Cl.ref 300039 a,cJ w,cJ h,cJ w,Cl.ref 400039 a,cJ w,cJ h,cJ w,Cl.ref 500039 a,cJ 0,cJ 0,cJ 0,Cl.nil]),l,p,s,B]⟩,fun _u=>0⟩ (fun _u=>f) (Ann.link ⟨Unit,fun _u=>True,fun _u=>⟨[g,j,d,c,b,(9,aJ 5)],[e,m,l,p,s,B,(600039,Bx.row 42 1 k)]⟩,fun _u=>0⟩ (fun _u=>v) Ann.leaf))))))) (Ann.seq (Ann.seq Ann.leaf (Ann.loop ⟨Nat,fun i=>i≤n,fun i=>⟨[d,c,b,(o i)],(D i)⟩,fun i=>n - i⟩ fun i=>(Ann.seq Ann.leaf (Ann.seq (Ann.seq (Ann.seq Ann.leaf (Ann.link ⟨Unit,fun _u=>True,fun _u=>⟨[d,c,b,(o i),(11,AV.one x)],(D i)⟩,fun _u=>0⟩ (fun _u=>f) (Ann.link ⟨Unit,fun _u=>True,fun _u=>⟨[d,c,b,(o i),(11,AV.one y)],[e,m,(u i),(C i),(t i),(q i),(r i)]⟩,fun _u=>0⟩ (fun _u=>f) (Ann.link ⟨Unit,fun _u=>True,fun _u=>⟨[d,c,b,(o i),(11,AV.one z)],[e,m,(u i),(E i),(t i),(q i),(r i)]⟩,fun _u=>0⟩ (fun _u=>f) (Ann.link ⟨Unit,fun _u=>True,fun _u=>⟨[d,c,b,(o i),(11,AV.one A)],[e,m,(u i),(E i),(400039,Bx.row 42 1 (List.set (zQr (zQl xs) Px.c i) ((i:Int).toNat*1) (dK (nAt xs ((i:Int).toNat*5+0+2))))),(q i),(r i)]⟩,fun _u=>0⟩ (fun _u=>v) Ann.leaf))))) Ann.leaf) Ann.leaf)))) Ann.leaf)))))) zQg Tryz.func35 rfl (nL rfl) rfl fun hwf hbx=>by
  refine Eq.mpr (by kernel_rfl:_=(let p:=((5:Nat):Int); let j:=(dS n xs=dS n xs); let b:=(imOf w h (zQl xs)); let z:=(imB 42 b); let A:=[(imV 0 b),AV.one (Cl.d (dQ (ofOk w h n)))]; let D:=(dQ false=dQ b.so); let E:=(dK 0=dK b.c.a); let F:=(dK 0=dK b.c.b); let G:=(dK 0=dK b.c.c); let H:=(dK 0=dK b.c.al); let I:=(dK 0=dK b.c.f); let J:=(((((dJ 0=dJ b.w)∧(dJ 0=dJ b.h)∧D∧E∧F∧G∧H∧I∧(dJ 0=dJ b.p0.w)∧(dJ 0=dJ b.p0.h)∧(dJ 0=dJ b.p0.s)∧(0=b.p0.n)∧(dJ 0=dJ b.p1.w)∧(dJ 0=dJ b.p1.h)∧(dJ 0=dJ b.p1.s)∧(0=b.p1.n)∧(dJ 0=dJ b.p2.w)∧(dJ 0=dJ b.p2.h)∧(dJ 0=dJ b.p2.s)∧(0=b.p2.n)∧(dJ 0=dJ b.p3.w)∧(dJ 0=dJ b.p3.h)∧(dJ 0=dJ b.p3.s)∧(0=b.p3.n)∧(dJ 0=dJ b.p4.w)∧(dJ 0=dJ b.p4.h)∧(dJ 0=dJ b.p4.s)∧(0=b.p4.n)∧True)∧(dQ false=dQ (ofOk w h n))∧True)∧True)∧(([]=b.p0.xs)∧([]=b.p1.xs)∧([]=b.p2.xs)∧([]=b.p3.xs)∧([]=b.p4.xs)∧True)); let c:=(dJ w=dJ w); let e:=(dJ h=dJ h); let a:=(dJ 0=dJ 0); let l:=(dQ false=dQ false); let d:=(dK 0=dK 0); let k:=(a∧a∧l∧d∧d∧d∧d∧d∧a∧a∧a∧True∧a∧a∧a∧True∧a∧a∧a∧True∧a∧a∧a∧True∧a∧a∧a∧True∧True); let q:=(0≤wK (w*h)∧wK (w*h)≤wK (w*h)∧wK (w*h)≤(maxLen:Int)∧((2:Nat):Int)*(wK (w*h))≤281474976710656); let K:=(0≤(0:Int)∧(0:Int) < p); let L:=(dJ (wK ((0:Int)+1))=dJ 1); let f:=((wK (w*h)).toNat=(wK (w*h)).toNat); let g:=(List.replicate (wK (w*h)).toNat (dK 0)=List.replicate (wK (w*h)).toNat (dK 0)); let M:=(0≤(1:Int)∧(1:Int) < p); let N:=(dJ (wK ((1:Int)+1))=dJ 2); let O:=(0≤(2:Int)∧(2:Int) < p); let P:=(dJ (wK ((2:Int)+1))=dJ 3); let Q:=(0≤(3:Int)∧(3:Int) < p); let R:=(0≤(4:Int)∧(4:Int) < p); let m:=(c∧e∧l∧d∧d∧d∧d∧d∧c∧e∧c∧f∧c∧e∧c∧f∧c∧e∧c∧f∧c∧e∧c∧f∧c∧e∧c∧f∧True); let t:=fun (i:Nat)=>(dJ (i:Int)=dJ (i:Int)); let S:=fun (i:Nat)=>(zQr (zQl xs) Px.b i=zQr (zQl xs) Px.b i); let B:=fun (i:Nat)=>(zQr (zQl xs) Px.c i=zQr (zQl xs) Px.c i); let u:=fun (i:Nat)=>(zQr (zQl xs) Px.al i=zQr (zQl xs) Px.al i); let v:=fun (i:Nat)=>(zQr (zQl xs) Px.f i=zQr (zQl xs) Px.f i); let r:=fun (i:Nat)=>(0≤(i:Int)∧(i:Int) < (n:Int)∧(i:Int).toNat*5 < xs.length); let s:=fun (i:Nat)=>(0≤(i:Int)∧(i:Int) < (((wK (w*h)).toNat:Nat):Int)); let C:=fun (i:Nat)=>(List.set (zQr (zQl xs) Px.a i) ((i:Int).toNat*1) (dK (nAt xs ((i:Int).toNat*5+0+0)))=List.set (zQr (zQl xs) Px.a i) ((i:Int).toNat*1) (dK (nAt xs ((i:Int).toNat*5+0+0)))); let T:=fun (i:Nat)=>(List.set (zQr (zQl xs) Px.b i) ((i:Int).toNat*1) (dK (nAt xs ((i:Int).toNat*5+0+1)))=List.set (zQr (zQl xs) Px.b i) ((i:Int).toNat*1) (dK (nAt xs ((i:Int).toNat*5+0+1)))); tU4 ((Ans prog 63 [rJ w,rJ h] (RV.d (dQ (zZK w h))))∧tU2 (((!(zZK w h))=false→tU7 ((((n:Int) != (wK (w*h)))=true→tU3 (J∧zQn ⟨AV.tup A,z,true⟩))∧(((n:Int) != (wK (w*h)))=false→tU6 ((∃ _u:Unit,True∧((c∧e∧j∧(0=0)∧(0=0)∧a∧True)∧(k∧(c∧e∧l∧d∧d∧d∧d∧d∧a∧a∧a∧True∧a∧a∧a∧True∧a∧a∧a∧True∧a∧a∧a∧True∧a∧a∧a∧True∧True)∧True)))∧((∀ _u:Unit,True→tU2 (decide ((0:Int) < 5)=true∧tU7 (q∧tU2 (K∧tU4 (∃ _u:Unit,True∧((c∧e∧j∧(0=0)∧(0=0)∧L∧True)∧(k∧(c∧e∧l∧d∧d∧d∧d∧d∧c∧e∧c∧f∧a∧a∧a∧True∧a∧a∧a∧True∧a∧a∧a∧True∧a∧a∧a∧True∧True)∧g∧True)))))))∧(∀ _u:Unit,True→tU2 (decide ((1:Int) < 5)=true∧tU7 (q∧tU2 (M∧tU4 (∃ _u:Unit,True∧((c∧e∧j∧(0=0)∧(0=0)∧N∧True)∧(k∧(c∧e∧l∧d∧d∧d∧d∧d∧c∧e∧c∧f∧c∧e∧c∧f∧a∧a∧a∧True∧a∧a∧a∧True∧a∧a∧a∧True∧True)∧g∧g∧True)))))))∧(∀ _u:Unit,True→tU2 (decide ((2:Int) < 5)=true∧tU7 (q∧tU2 (O∧tU4 (∃ _u:Unit,True∧((c∧e∧j∧(0=0)∧(0=0)∧P∧True)∧(k∧(c∧e∧l∧d∧d∧d∧d∧d∧c∧e∧c∧f∧c∧e∧c∧f∧c∧e∧c∧f∧a∧a∧a∧True∧a∧a∧a∧True∧True)∧g∧g∧g∧True)))))))∧(∀ _u:Unit,True→tU2 (decide ((3:Int) < 5)=true∧tU7 (q∧tU2 (Q∧tU4 (∃ _u:Unit,True∧((c∧e∧j∧(0=0)∧(0=0)∧(dJ (wK ((3:Int)+1))=dJ 4)∧True)∧(k∧(c∧e∧l∧d∧d∧d∧d∧d∧c∧e∧c∧f∧c∧e∧c∧f∧c∧e∧c∧f∧c∧e∧c∧f∧a∧a∧a∧True∧True)∧g∧g∧g∧g∧True)))))))∧(∀ _u:Unit,True→tU2 (decide ((4:Int) < 5)=true∧tU7 (q∧tU2 (R∧tU4 (∃ _u:Unit,True∧((c∧e∧j∧(0=0)∧(0=0)∧(dJ (wK ((4:Int)+1))=dJ 5)∧True)∧(k∧m∧g∧g∧g∧g∧g∧True)))))))∧(∀ _u:Unit,True→tU2 (decide ((5:Int) < 5)=false∧True∧((∃ i:Nat,(i≤n)∧((j∧(0=0)∧(0=0)∧(dJ 0=dJ (i:Int))∧True)∧(k∧m∧(List.replicate (wK (w*h)).toNat (dK 0)=zQr (zQl xs) Px.a i)∧(List.replicate (wK (w*h)).toNat (dK 0)=zQr (zQl xs) Px.b i)∧(List.replicate (wK (w*h)).toNat (dK 0)=zQr (zQl xs) Px.c i)∧(List.replicate (wK (w*h)).toNat (dK 0)=zQr (zQl xs) Px.al i)∧(List.replicate (wK (w*h)).toNat (dK 0)=zQr (zQl xs) Px.f i)∧True)))∧∀ i:Nat,let U:=(dK (nAt xs ((i:Int).toNat*5+4))); let V:=(dK (nAt xs ((i:Int).toNat*5+3))); let W:=(dK (nAt xs ((i:Int).toNat*5+0+1))); let X:=(dK (nAt xs ((i:Int).toNat*5+0+0))); let x:=(zQr (zQl xs) Px.c i); let o:=((i:Int).toNat*1); let y:=(dK (nAt xs ((i:Int).toNat*5+0+2))); (i≤n)→tU4 (((decide ((i:Int) < (n:Int)))=true→True∧(∃ _u:Unit,True∧((j∧(0=0)∧(0=0)∧(t i)∧a∧True)∧(k∧m∧(zQr (zQl xs) Px.a i=zQr (zQl xs) Px.a i)∧(S i)∧(B i)∧(u i)∧(v i)∧True)))∧((∀ _u:Unit,True→tU2 (decide ((0:Int) < 3)=true∧tU2 (K∧tU6 ((r i)∧True∧(0≤(0:Int)∧(0:Int) < ((3:Nat):Int))∧((xs[(i:Int).toNat*5+0+0]?=some X)∧True)∧(s i)∧((i:Int).toNat*1+1≤(zQr (zQl xs) Px.a i).length)∧(true=true)∧tU3 (∃ _u:Unit,True∧((j∧(0=0)∧(0=0)∧(t i)∧L∧True)∧(k∧m∧(C i)∧(S i)∧(B i)∧(u i)∧(v i)∧True)))))))∧(∀ _u:Unit,True→tU2 (decide ((1:Int) < 3)=true∧tU2 (M∧tU6 ((r i)∧True∧(0≤(1:Int)∧(1:Int) < ((3:Nat):Int))∧((xs[(i:Int).toNat*5+0+1]?=some W)∧True)∧(s i)∧((i:Int).toNat*1+1≤(zQr (zQl xs) Px.b i).length)∧(true=true)∧tU3 (∃ _u:Unit,True∧((j∧(0=0)∧(0=0)∧(t i)∧N∧True)∧(k∧m∧(C i)∧(T i)∧(B i)∧(u i)∧(v i)∧True)))))))∧(∀ _u:Unit,True→tU2 (decide ((2:Int) < 3)=true∧tU2 (O∧tU6 ((r i)∧True∧(0≤(2:Int)∧(2:Int) < ((3:Nat):Int))∧((xs[(i:Int).toNat*5+0+2]?=some y)∧True)∧(s i)∧((i:Int).toNat*1+1≤x.length)∧(true=true)∧tU3 (∃ _u:Unit,True∧((j∧(0=0)∧(0=0)∧(t i)∧P∧True)∧(k∧m∧(C i)∧(T i)∧(List.set x o y=List.set x o y)∧(u i)∧(v i)∧True)))))))∧(∀ _u:Unit,True→tU2 (decide ((3:Int) < 3)=false∧True∧Q∧tU4 (R∧tU5 ((r i)∧True∧((xs[(i:Int).toNat*5+3]?=some V)∧True)∧tU2 ((r i)∧True∧((xs[(i:Int).toNat*5+4]?=some U)∧True)∧(s i)∧((i:Int).toNat*1+1≤(zQr (zQl xs) Px.al i).length)∧(s i)∧((i:Int).toNat*1+1≤(zQr (zQl xs) Px.f i).length)∧(true=true)∧tU3 (∃ i':Nat,(i'≤n)∧(n - i' < n - i)∧((j∧(0=0)∧(0=0)∧(dJ (wK ((i:Int)+1))=dJ (i':Int))∧True)∧(k∧m∧(List.set (zQr (zQl xs) Px.a i) o X=zQr (zQl xs) Px.a i')∧(List.set (zQr (zQl xs) Px.b i) o W=zQr (zQl xs) Px.b i')∧(List.set x o y=zQr (zQl xs) Px.c i')∧(List.set (zQr (zQl xs) Px.al i) o V=zQr (zQl xs) Px.al i')∧(List.set (zQr (zQl xs) Px.f i) o U=zQr (zQl xs) Px.f i')∧True))))))))∧True))∧((decide ((i:Int) < (n:Int)))=false→tU3 ((((((dJ w=dJ b.w)∧(dJ h=dJ b.h)∧D∧E∧F∧G∧H∧I∧(dJ w=dJ b.p0.w)∧(dJ h=dJ b.p0.h)∧(dJ w=dJ b.p0.s)∧((wK (w*h)).toNat=b.p0.n)∧(dJ w=dJ b.p1.w)∧(dJ h=dJ b.p1.h)∧(dJ w=dJ b.p1.s)∧((wK (w*h)).toNat=b.p1.n)∧(dJ w=dJ b.p2.w)∧(dJ h=dJ b.p2.h)∧(dJ w=dJ b.p2.s)∧((wK (w*h)).toNat=b.p2.n)∧(dJ w=dJ b.p3.w)∧(dJ h=dJ b.p3.h)∧(dJ w=dJ b.p3.s)∧((wK (w*h)).toNat=b.p3.n)∧(dJ w=dJ b.p4.w)∧(dJ h=dJ b.p4.h)∧(dJ w=dJ b.p4.s)∧((wK (w*h)).toNat=b.p4.n)∧True)∧(dQ true=dQ (ofOk w h n))∧True)∧True)∧((zQr (zQl xs) Px.a i=b.p0.xs)∧(zQr (zQl xs) Px.b i=b.p1.xs)∧(zQr (zQl xs) Px.c i=b.p2.xs)∧(zQr (zQl xs) Px.al i=b.p3.xs)∧(zQr (zQl xs) Px.f i=b.p4.xs)∧True))∧zQn ⟨AV.tup A,z,true⟩))))))∧True)))))∧((!(zZK w h))=(!false)→tU4 (J∧zQn ⟨AV.tup A,z,true⟩)))))) ?_
  delta dJ dK dQ wK dS rJ
  simp only [sS,zQs,zZu,zQT,zZ4,zXM]
  obtain ⟨l,rfl,rfl⟩:=hx.of
  simp only [zYD,imV,imB,zQn,AV.flatV,AV.flatVL,Cl.flatV,zH6,Bx.flatVL,Bx.flatV,jXb,true_and,and_true]
  simp only [DV.flat,true_and,and_true]
  have no:∀ {P:Prop},(imOf w h l=Im.zero→ofOk w h l.length=false→P)→(ofOk w h l.length=false)→P:=fun f h=>f (zGW h) h
  have le:=@zXC w h
  refine ⟨fun q1=>⟨fun q2=>?_,fun q2=>?_⟩,fun q1=>?_⟩
  ·obtain ⟨f1,f2,f3,f4,f5⟩:=le q1
   have wm:IntKind.wrap .i64 (w*h)=w*h:=IntWalk.i64_in _ ⟨by have:=Int.mul_nonneg (a:=w) (b:=h) (by omega) (by omega); omega,by omega⟩
   refine no (fun e1 e2=>?_) (by rw [wm] at q2; simp [ofOk,q1]; simpa using q2)
   rw [e1,e2]; simp [Im.zero,Px.zero,Pl.none]
  ·obtain ⟨f1,f2,f3,f4,f5⟩:=le q1
   have wm:IntKind.wrap .i64 (w*h)=w*h:=IntWalk.i64_in _ ⟨by have:=Int.mul_nonneg (a:=w) (b:=h) (by omega) (by omega); omega,by omega⟩
   have hl:(l.length:Int)=w*h:=by rw [wm] at q2; simpa using q2
   have hk:ofOk w h l.length=true:=by simp [ofOk,q1,hl]
   have hb:l.length≤16777216:=by omega
   rw [hk,zW0 hk]
   simp only [ofIm,Px.zero,maxLen,wm]
   simp only [← hl,Int.toNat_natCast,Nat.add_zero]
   (repeat' (first | apply And.intro | intro)) <;> (first | (exact ⟨0,by omega,rfl,(zXD _ _).symm,(zXD _ _).symm,(zXD _ _).symm,(zXD _ _).symm,(zXD _ _).symm⟩) | (first | assumption | rfl | omega | (exact ⟨0,by omega,rfl,(zXD _ _).symm⟩) | exact jY1 (by omega) | exact zVt (j:=1) (by omega) (by omega) | exact zVt (j:=2) (by omega) (by omega) | exact zVt (j:=3) (by omega) (by omega) | exact zVt (j:=4) (by omega) (by omega) | (rw [zJO]; omega) | (rw [zGa (by assumption)]; omega) | exact zHJ (by assumption) (by assumption) (fun h=>(zXz h).1) | exact zHJ (by assumption) (by assumption) (fun h=>(zXz h).2.1) | exact zHJ (by assumption) (by assumption) (fun h=>(zXz h).2.2.1) | exact zHJ (by assumption) (by assumption) (fun h=>(zXz h).2.2.2.1) | exact zHJ (by assumption) (by assumption) (fun h=>(zXz h).2.2.2.2) | exact ⟨(),by decide,jKO (by assumption) (by assumption)⟩ | exact ⟨(),trivial⟩ | exact ⟨(),by decide⟩ | exact zGb _ _ | (rw [jKO (by assumption) (by assumption)]; exact zGb _ _) | exact jKb (by assumption) (by assumption) (fun h=>(zXz h).1) (fun h=>(zXz h).2.1) (fun h=>(zXz h).2.2.1) (fun h=>(zXz h).2.2.2.1) (fun h=>(zXz h).2.2.2.2) | (rw [zGa (by omega)]; omega) | decide))
  ·refine no (fun e1 e2=>?_) (by simp [ofOk,q1])
   rw [e1,e2]; simp [Im.zero,Px.zero,Pl.none]
def pxR (p:Px):RV:=RV.agg [DV.int .u16 p.a,DV.int .u16 p.b,DV.int .u16 p.c,DV.int .u16 p.al,DV.int .u16 p.f]
theorem zUy (m:Im) (x y:Int) (hu:m.isU):Ans prog 92 [imR m,RV.d (DV.int .i64 x),RV.d (DV.int .i64 y)] (pxR (m.at_ x y)):=zUn ((m).w) ((m).h) ((m).so) (((m).c).a) (((m).c).b) (((m).c).c) (((m).c).al) (((m).c).f) (((m).p0).w) (((m).p0).h) (((m).p0).s) (((m).p0).n) (((m).p0).xs) (((m).p1).w) (((m).p1).h) (((m).p1).s) (((m).p1).n) (((m).p1).xs) (((m).p2).w) (((m).p2).h) (((m).p2).s) (((m).p2).n) (((m).p2).xs) (((m).p3).w) (((m).p3).h) (((m).p3).s) (((m).p3).n) (((m).p3).xs) (((m).p4).w) (((m).p4).h) (((m).p4).s) (((m).p4).n) (((m).p4).xs) x y hu
theorem zKk (w h:Int) (n:Nat) (xs:List DV) (hx:jXq n xs):AnsG prog 35 0 [AV.one (Cl.d (DV.int .i64 w)),AV.one (Cl.d (DV.int .i64 h)),AV.one (Cl.d (DV.sl n xs))] [] ⟨AV.tup [imV 0 (imOf w h (zQl xs)),AV.one (Cl.d (DV.bool (ofOk w h n)))],imB 42 (imOf w h (zQl xs)),true⟩:=zUm w h n xs hx
theorem zJH (w h:Int) (c:Px):Ans prog 20 [RV.d (DV.int .i64 w),RV.d (DV.int .i64 h),pxR c] (imR (zQb w h c)):=zHh w h c.a c.b c.c c.al c.f
def jVh:Gam where
 pure:=fun f xs=>
  if f=9 then gZ0 xs else
  if f=34 then gZ16 xs else
  if f=20 then gZ12 xs else
  none
 modes:=fun f=>
  if f=35 then some ([true,true,true],0,5) else
  none
 proc:=fun f xs bs=>
  if f=35 then gZ17 xs bs else
  none
 iter:=fun f cs=>
  none
theorem jQs (pw ph so mood:Int) (L:Nat) (xs:List DV) (x0 y0 x1 y1 most:Int) (hx:Is5 L xs) (hc:1≤x1 - x0∧x1 - x0≤100∧1≤y1 - y0∧y1 - y0≤100):Ans prog 19 [RV.agg [dJ pw,dJ ph,dJ so,dJ mood,dS L xs],RV.agg [dJ x0,dJ y0,dJ x1,dJ y1],RV.d (dK most)] (RV.agg [dJ ((zQz pw ph so mood L xs x0 y0 x1 y1 most).w),dJ ((zQz pw ph so mood L xs x0 y0 x1 y1 most).h),dQ ((zQz pw ph so mood L xs x0 y0 x1 y1 most).so),dK (((zQz pw ph so mood L xs x0 y0 x1 y1 most).c).a),dK (((zQz pw ph so mood L xs x0 y0 x1 y1 most).c).b),dK (((zQz pw ph so mood L xs x0 y0 x1 y1 most).c).c),dK (((zQz pw ph so mood L xs x0 y0 x1 y1 most).c).al),dK (((zQz pw ph so mood L xs x0 y0 x1 y1 most).c).f),dJ (((zQz pw ph so mood L xs x0 y0 x1 y1 most).p0).w),dJ (((zQz pw ph so mood L xs x0 y0 x1 y1 most).p0).h),dJ (((zQz pw ph so mood L xs x0 y0 x1 y1 most).p0).s),dS (((zQz pw ph so mood L xs x0 y0 x1 y1 most).p0).n) (((zQz pw ph so mood L xs x0 y0 x1 y1 most).p0).xs),dJ (((zQz pw ph so mood L xs x0 y0 x1 y1 most).p1).w),dJ (((zQz pw ph so mood L xs x0 y0 x1 y1 most).p1).h),dJ (((zQz pw ph so mood L xs x0 y0 x1 y1 most).p1).s),dS (((zQz pw ph so mood L xs x0 y0 x1 y1 most).p1).n) (((zQz pw ph so mood L xs x0 y0 x1 y1 most).p1).xs),dJ (((zQz pw ph so mood L xs x0 y0 x1 y1 most).p2).w),dJ (((zQz pw ph so mood L xs x0 y0 x1 y1 most).p2).h),dJ (((zQz pw ph so mood L xs x0 y0 x1 y1 most).p2).s),dS (((zQz pw ph so mood L xs x0 y0 x1 y1 most).p2).n) (((zQz pw ph so mood L xs x0 y0 x1 y1 most).p2).xs),dJ (((zQz pw ph so mood L xs x0 y0 x1 y1 most).p3).w),dJ (((zQz pw ph so mood L xs x0 y0 x1 y1 most).p3).h),dJ (((zQz pw ph so mood L xs x0 y0 x1 y1 most).p3).s),dS (((zQz pw ph so mood L xs x0 y0 x1 y1 most).p3).n) (((zQz pw ph so mood L xs x0 y0 x1 y1 most).p3).xs),dJ (((zQz pw ph so mood L xs x0 y0 x1 y1 most).p4).w),dJ (((zQz pw ph so mood L xs x0 y0 x1 y1 most).p4).h),dJ (((zQz pw ph so mood L xs x0 y0 x1 y1 most).p4).s),dS (((zQz pw ph so mood L xs x0 y0 x1 y1 most).p4).n) (((zQz pw ph so mood L xs x0 y0 x1 y1 most).p4).xs)]):=
 zQa (Γ:=jVh) Ann.leaf zQg Tryz.func19 rfl (nL rfl) fun hwf=>by
  refine Eq.mpr (by kernel_rfl:_=(let p:=(modS so (2:Int)); let g:=(p==0); let q:=(wK (Int.tdiv pw (5:Int))); let k:=(modS q (3:Int)); let r:=[dJ mood,dS L xs]; let c:=(wK (x1 - x0)); let d:=(wK (y1 - y0)); let h:=(wK (c*d)); let l:=h.toNat; let a:=(pxs (zQm mood L xs most h.toNat)); let m:=(imOf c d (zQl a)); let s:=(Ans prog 9 [rJ so,rJ 2] (rJ p)); let t:=(dJ c); let u:=(dJ d); let v:=(imR (zQb c d ⟨(nAt a 0),(nAt a 1),(nAt a 2),(nAt a 3),(nAt a 4)⟩)); let i:=(imR (zQz pw ph so mood L xs x0 y0 x1 y1 most)); let e:=(wK ((1:Int)+(modS pw (5:Int)))); let f:=(wK ((1:Int)+(modS ph (4:Int)))); let j:=(wK (e*f)); let n:=j.toNat; let b:=(pxs (zQm mood L xs most j.toNat)); let o:=(imOf e f (zQl b)); let w:=(dJ e); let x:=(dJ f); let y:=(imR (zQb e f ⟨(nAt b 0),(nAt b 1),(nAt b 2),(nAt b 3),(nAt b 4)⟩)); tU5 ((Ans prog 9 [rJ pw,rJ 5] (rJ (modS pw (5:Int))))∧tU3 ((Ans prog 9 [rJ ph,rJ 4] (rJ (modS ph (4:Int))))∧tU3 ((true=true)∧tU2 (((5:Int)≠0)∧(Ans prog 9 [rJ q,rJ 3] (rJ k))∧True∧(((k==0)=true→tU4 (tU8 ((true=true)∧tU6 ((AnsO prog 34 [RV.agg r,rJ h,RV.d (dK most)] 48 5 l a)∧tU3 (s∧True∧((g=true→tU3 ((0≤(0:Int)∧(0:Int) < (h.toNat:Int))∧((a[0]?=some (dK (nAt a 0)))∧(a[1]?=some (dK (nAt a 1)))∧(a[2]?=some (dK (nAt a 2)))∧(a[3]?=some (dK (nAt a 3)))∧(a[4]?=some (dK (nAt a 4)))∧True)∧(Ans prog 20 [RV.d t,RV.d u,RV.agg [dK (nAt a 0),dK (nAt a 1),dK (nAt a 2),dK (nAt a 3),dK (nAt a 4)]] v)∧True∧v=i))∧(g=false→tU3 ((AnsG prog 35 0 [AV.one (Cl.d t),AV.one (Cl.d u),AV.one (Cl.d (dS l a))] [] ⟨AV.tup [(imV 0 m),AV.one (Cl.d (dQ (ofOk c d l)))],(imB 42 m),true⟩)∧tU8 ((imR m)=i)))))))))∧((k==0)=false→tU6 ((AnsO prog 34 [RV.agg r,rJ j,RV.d (dK most)] 48 5 n b)∧tU3 (s∧True∧((g=true→tU3 ((0≤(0:Int)∧(0:Int) < (j.toNat:Int))∧((b[0]?=some (dK (nAt b 0)))∧(b[1]?=some (dK (nAt b 1)))∧(b[2]?=some (dK (nAt b 2)))∧(b[3]?=some (dK (nAt b 3)))∧(b[4]?=some (dK (nAt b 4)))∧True)∧(Ans prog 20 [RV.d w,RV.d x,RV.agg [dK (nAt b 0),dK (nAt b 1),dK (nAt b 2),dK (nAt b 3),dK (nAt b 4)]] y)∧True∧y=i))∧(g=false→tU3 ((AnsG prog 35 0 [AV.one (Cl.d w),AV.one (Cl.d x),AV.one (Cl.d (dS n b))] [] ⟨AV.tup [(imV 0 o),AV.one (Cl.d (dQ (ofOk e f n)))],(imB 42 o),true⟩)∧tU8 ((imR o)=i)))))))))))))) ?_
  delta dJ dK dQ wK dS rJ
  simp only [sS,zQs]
  have go:∀ W H:Int,(1≤W∧W≤100)→(1≤H∧H≤100)→0 < (IntKind.wrap .i64 (W*H)).toNat∧IntKind.wrap .i64 (W*H)≤16777216:=fun W H a b=>by have:=zHn a b; omega
  have b5:=@zQ4 pw 5 (by omega) (by omega)
  have b4:=@zQ4 ph 4 (by omega) (by omega)
  refine ⟨by omega,fun q1=>?_,fun q1=>?_⟩
  ·have hW:zX8 pw 5 x0 x1 pw=IntKind.wrap .i64 (x1 - x0):=by unfold zX8; rw [if_pos (by simpa using q1)]
   have hH:zX8 ph 4 y0 y1 pw=IntKind.wrap .i64 (y1 - y0):=by unfold zX8; rw [if_pos (by simpa using q1)]
   have gi:=zK9 pw ph so mood L xs x0 y0 x1 y1 most _ _ hW hH
   have cW:1≤IntKind.wrap .i64 (x1 - x0)∧IntKind.wrap .i64 (x1 - x0)≤100:=by rw [IntWalk.i64_in _ ⟨by omega,by omega⟩]; omega
   have cH:1≤IntKind.wrap .i64 (y1 - y0)∧IntKind.wrap .i64 (y1 - y0)≤100:=by rw [IntWalk.i64_in _ ⟨by omega,by omega⟩]; omega
   generalize IntKind.wrap .i64 (x1 - x0)=W at *
   generalize IntKind.wrap .i64 (y1 - y0)=H at *
   obtain ⟨g1,g2⟩:=go W H cW cH
   have pn:=zVW mood L xs (IntKind.wrap .i64 (W*H)) most hx g2
   refine ⟨pn,fun q2=>?_,fun q2=>?_⟩
   ·have hs:modS so 2=0:=by simpa using q2
    rw [if_pos hs] at gi
    obtain ⟨v0,v1,v2,v3,v4⟩:=zVM (mood:=mood) (L:=L) (xs:=xs) (most:=most) g1
    have f0:=zJk (mood:=mood) (L:=L) (xs:=xs) (most:=most) g1 0 (by omega)
    have f1:=zJk (mood:=mood) (L:=L) (xs:=xs) (most:=most) g1 1 (by omega)
    have f2:=zJk (mood:=mood) (L:=L) (xs:=xs) (most:=most) g1 2 (by omega)
    have f3:=zJk (mood:=mood) (L:=L) (xs:=xs) (most:=most) g1 3 (by omega)
    have f4:=zJk (mood:=mood) (L:=L) (xs:=xs) (most:=most) g1 4 (by omega)
    have g3:0 < IntKind.wrap .i64 (W*H):=by omega
    rw [gi]
    simp only [v0,v1,v2,v3,v4] at f0 f1 f2 f3 f4 ⊢
    exact ⟨⟨by omega,by omega⟩,⟨f0,f1,f2,f3,f4⟩,zJH W H ⟨_,_,_,_,_⟩,trivial⟩
   ·have hs:¬ modS so 2=0:=by simpa using q2
    rw [if_neg hs] at gi
    rw [gi]
    have po:=zKk W H _ (pxs (zQm mood L xs most (IntKind.wrap .i64 (W*H)).toNat)) (zU5 _ _ _ _ rfl)
    simp only [zYD] at po ⊢
    exact ⟨po,trivial⟩
  ·have hW:zX8 pw 5 x0 x1 pw=IntKind.wrap .i64 (1+modS pw 5):=by unfold zX8; rw [if_neg (by simpa using q1)]
   have hH:zX8 ph 4 y0 y1 pw=IntKind.wrap .i64 (1+modS ph 4):=by unfold zX8; rw [if_neg (by simpa using q1)]
   have gi:=zK9 pw ph so mood L xs x0 y0 x1 y1 most _ _ hW hH
   have cW:1≤IntKind.wrap .i64 (1+modS pw 5)∧IntKind.wrap .i64 (1+modS pw 5)≤100:=by rw [IntWalk.i64_in _ ⟨by omega,by omega⟩]; omega
   have cH:1≤IntKind.wrap .i64 (1+modS ph 4)∧IntKind.wrap .i64 (1+modS ph 4)≤100:=by rw [IntWalk.i64_in _ ⟨by omega,by omega⟩]; omega
   generalize IntKind.wrap .i64 (1+modS pw 5)=W at *
   generalize IntKind.wrap .i64 (1+modS ph 4)=H at *
   obtain ⟨g1,g2⟩:=go W H cW cH
   have pn:=zVW mood L xs (IntKind.wrap .i64 (W*H)) most hx g2
   refine ⟨pn,fun q2=>?_,fun q2=>?_⟩
   ·have hs:modS so 2=0:=by simpa using q2
    rw [if_pos hs] at gi
    obtain ⟨v0,v1,v2,v3,v4⟩:=zVM (mood:=mood) (L:=L) (xs:=xs) (most:=most) g1
    have f0:=zJk (mood:=mood) (L:=L) (xs:=xs) (most:=most) g1 0 (by omega)
    have f1:=zJk (mood:=mood) (L:=L) (xs:=xs) (most:=most) g1 1 (by omega)
    have f2:=zJk (mood:=mood) (L:=L) (xs:=xs) (most:=most) g1 2 (by omega)
    have f3:=zJk (mood:=mood) (L:=L) (xs:=xs) (most:=most) g1 3 (by omega)
    have f4:=zJk (mood:=mood) (L:=L) (xs:=xs) (most:=most) g1 4 (by omega)
    have g3:0 < IntKind.wrap .i64 (W*H):=by omega
    rw [gi]
    simp only [v0,v1,v2,v3,v4] at f0 f1 f2 f3 f4 ⊢
    exact ⟨⟨by omega,by omega⟩,⟨f0,f1,f2,f3,f4⟩,zJH W H ⟨_,_,_,_,_⟩,trivial⟩
   ·have hs:¬ modS so 2=0:=by simpa using q2
    rw [if_neg hs] at gi
    rw [gi]
    have po:=zKk W H _ (pxs (zQm mood L xs most (IntKind.wrap .i64 (W*H)).toNat)) (zU5 _ _ _ _ rfl)
    simp only [zYD] at po ⊢
    exact ⟨po,trivial⟩
def jVg:Gam where
 pure:=fun f xs=>
  if f=9 then gZ0 xs else
  if f=16 then gZ14 xs else
  if f=19 then (match xs with | [.agg [.int _ pw,.int _ ph,.int _ so,.int _ mood,.sl L xs],.agg [.int _ x0,.int _ y0,.int _ x1,.int _ y1],.d (.int _ most)]=>let a:=(zQz pw ph so mood L xs x0 y0 x1 y1 most); some (RV.agg [dJ a.w,dJ a.h,dQ a.so,dK a.c.a,dK a.c.b,dK a.c.c,dK a.c.al,dK a.c.f,dJ a.p0.w,dJ a.p0.h,dJ a.p0.s,dS a.p0.n a.p0.xs,dJ a.p1.w,dJ a.p1.h,dJ a.p1.s,dS a.p1.n a.p1.xs,dJ a.p2.w,dJ a.p2.h,dJ a.p2.s,dS a.p2.n a.p2.xs,dJ a.p3.w,dJ a.p3.h,dJ a.p3.s,dS a.p3.n a.p3.xs,dJ a.p4.w,dJ a.p4.h,dJ a.p4.s,dS a.p4.n a.p4.xs]) | _=>none) else
  if f=21 then gZ29 xs else
  if f=18 then gZ8 xs else
  if f=17 then gZ10 xs else
  if f=20 then gZ12 xs else
  none
 modes:=fun f=>
  none
 proc:=fun f xs bs=>
  none
 iter:=fun f cs=>
  none
theorem jQr (s:Scn) (hs:s.ok):AnsG prog 5 0 [AV.agg [cJ (s.b),cJ (s.x),cJ (s.y),cJ (s.w),cJ (s.h),cJ (s.tw),cJ (s.th),Cl.d (dS s.on s.oxs),Cl.d (dS s.pn s.pxs),Cl.d (dS s.rn s.rxs)]] [] ⟨AV.agg [cJ (((s).bits)),cJ (((s).c.a)),cJ (((s).c.b)),cJ (((s).c.c)),cJ (((s).c.d)),cJ (((s).gtw)),cJ (((s).gth)),Cl.ref 0 ((s).ord.length),Cl.ref 1 ((s).ims.length),Cl.ref 2 ((s).ops.length)],[Bx.row 3 1 (is (s).ord),Bx.row 69 28 (ims (s).ims),Bx.row 44 12 (ops (s).ops)],false⟩:=
 zQL (Γ:=jVg) (let d:=(s.run (min s.rn 9)); let e:=(1,AV.one (Cl.ptr 1 0)); let a:=(4,AV.one (Cl.ptr 4 0)); let b:=(2,AV.one (Cl.ptr 2 0)); let f:=(3,AV.one (cK s.most)); let u:=[e,b,f,a]; let g:=(1,bC [cJ s.b,cJ s.x,cJ s.y,cJ s.w,cJ s.h,cJ s.tw,cJ s.th,Cl.d (dS s.on s.oxs),Cl.d (dS s.pn s.pxs),Cl.d (dS s.rn s.rxs)]); let c:=(2,bC [cJ 0,cJ 0,cJ 0,cJ 0,cJ 0,cJ 0,cJ 0,Cl.nil,Cl.nil,Cl.nil]); let v:=[g,c,(4,bC [cJ s.bits,cJ 0,cJ 0,cJ 0,cJ 0,cJ 0,cJ 0,Cl.nil,Cl.nil,Cl.nil])]; let n:=(7,aJ s.gw); let q:=(8,aJ s.gh); let r:=[e,b,f,a,n,q]; let h:=(7000,Bx.row 3 1 (is s.ord)); let i:=(5000,Bx.row 69 28 (ims s.ims)); let w:=(13,AV.one (Cl.ref 5002 d.2.length)); let x:=(5002,Bx.row 44 12 (ops d.2)); let l:=fun (k:Nat)=>(13,AV.one (Cl.ref 5002 (s.run k).2.length)); let m:=fun (k:Nat)=>(14,aJ (k:Int)); let y:=fun (k:Nat)=>(4,bC [cJ s.bits,cJ s.c.a,cJ s.c.b,cJ s.c.c,cJ s.c.d,cJ s.gtw,cJ s.gth,Cl.ref 7000 s.ord.length,Cl.ref 5000 s.ims.length,Cl.ref 5001 (s.run k).1.length]); let z:=fun (k:Nat)=>(5002,Bx.row 44 12 (ops (s.run k).2)); let A:=fun (k:Nat)=>(5001,Bx.row 44 12 (ops (s.run k).1)); let t:=fun (k:Nat)=>[g,c,(y k),(z k),h,i,(A k)]; let B:=fun (k:Nat)=>(15,aJ (modS (nAt s.rxs ((k:Int).toNat*11+0)) (8:Int))); (Ann.seq Ann.leaf (Ann.seq Ann.leaf (Ann.seq Ann.leaf (Ann.cut ⟨Unit,fun u1:Unit=>True,fun u1:Unit=>⟨u,v⟩,fun u1:Unit=>0⟩ Ann.leaf fun u1=>(Ann.seq Ann.leaf (Ann.cut ⟨Unit,fun u2:Unit=>True,fun u2:Unit=>⟨[e,b,f,a,(5,aJ s.c.a),(6,aJ s.c.b),n,q],v⟩,fun u2:Unit=>0⟩ Ann.leaf fun u2=>(Ann.seq Ann.leaf (Ann.cut ⟨Unit,fun u3:Unit=>True,fun u3:Unit=>⟨r,[g,c,(4,bC [cJ s.bits,cJ s.c.a,cJ s.c.b,cJ s.c.c,cJ s.c.d,cJ s.gtw,cJ s.gth,Cl.nil,Cl.nil,Cl.nil])]⟩,fun u3:Unit=>0⟩ Ann.leaf fun u3=>(Ann.seq Ann.leaf (Ann.cut ⟨Unit,fun u4:Unit=>True,fun u4:Unit=>⟨r,[g,c,(4,bC [cJ s.bits,cJ s.c.a,cJ s.c.b,cJ s.c.c,cJ s.c.d,cJ s.gtw,cJ s.gth,Cl.ref 7000 s.ord.length,Cl.nil,Cl.nil]),h]⟩,fun u4:Unit=>0⟩ Ann.leaf fun u4=>(Ann.cut ⟨Unit,fun u6:Unit=>True,fun u6:Unit=>⟨r,[g,c,(4,bC [cJ s.bits,cJ s.c.a,cJ s.c.b,cJ s.c.c,cJ s.c.d,cJ s.gtw,cJ s.gth,Cl.ref 7000 s.ord.length,Cl.ref 5000 (s.pics (min s.pn 4)).length,Cl.nil]),h,(5000,Bx.row 69 28 (ims (s.pics (min s.pn 4))))]⟩,fun u6:Unit=>0⟩ (Ann.seq Ann.leaf (Ann.loop ⟨Nat,fun p=>p≤min s.pn 4,fun p=>⟨[e,b,f,a,n,q,(12,aJ (p:Int))],[g,c,(4,bC [cJ s.bits,cJ s.c.a,cJ s.c.b,cJ s.c.c,cJ s.c.d,cJ s.gtw,cJ s.gth,Cl.ref 7000 s.ord.length,Cl.ref 5000 p,Cl.nil]),h,(5000,Bx.row 69 28 (ims (s.pics p)))]⟩,fun p=>min s.pn 4 - p⟩ fun p=>Ann.leaf)) fun u6=>(Ann.cut ⟨Unit,fun u5:Unit=>True,fun u5:Unit=>⟨u,[g,c,(4,bC [cJ s.bits,cJ s.c.a,cJ s.c.b,cJ s.c.c,cJ s.c.d,cJ s.gtw,cJ s.gth,Cl.ref 7000 s.ord.length,Cl.ref 5000 s.ims.length,Cl.nil]),h,i]⟩,fun u5:Unit=>0⟩ Ann.leaf fun u5=>(Ann.seq Ann.leaf (Ann.cut ⟨Unit,fun u7:Unit=>True,fun u7:Unit=>⟨[b,a,w],[c,(4,bC [cJ s.bits,cJ s.c.a,cJ s.c.b,cJ s.c.c,cJ s.c.d,cJ s.gtw,cJ s.gth,Cl.ref 7000 s.ord.length,Cl.ref 5000 s.ims.length,Cl.ref 5001 d.1.length]),x,h,i,(5001,Bx.row 44 12 (ops d.1))]⟩,fun u7:Unit=>0⟩ (Ann.seq Ann.leaf (Ann.loop ⟨Nat,fun k=>k≤min s.rn 9,fun k=>⟨[e,b,f,a,(l k),(m k)],(t k)⟩,fun k=>min s.rn 9 - k⟩ fun k=>(Ann.seq Ann.leaf (Ann.seq (Ann.seq Ann.leaf (Ann.seq Ann.leaf (Ann.cut ⟨Unit,fun u8:Unit=>¬ (modS (rwAt s.rxs (k*11)).k 8=0∧0 < (s.run k).2.length),fun u8:Unit=>⟨[e,b,f,a,(l k),(m k),(B k),(16,aJ (((s.run k).2.length:Nat):Int))],(t k)⟩,fun u8:Unit=>0⟩ Ann.leaf fun u8=>(Ann.cut ⟨Bool,fun fr:Bool=>fr=ctxB (s.run k).2,fun fr:Bool=>⟨[e,b,f,a,(l k),(m k),(B k),(17,AV.one (Cl.d (dQ fr)))],(t k)⟩,fun fr:Bool=>0⟩ Ann.leaf fun fr=>(Ann.cut ⟨Oq,fun o:Oq=>o=gOp (rwAt s.rxs (k*11)) (decide (modS (rwAt s.rxs (k*11)).k 8 < 3)) s.ims.length s.c (ctxB (s.run k).2) s.most,fun o:Oq=>⟨[e,b,f,a,(l k),(m k),(18,AV.one (Cl.ptr 18 0))],[g,c,(y k),(z k),(18,bC [cJ o.kind,cJ o.image,cJ o.x,cJ o.y,cJ o.mask,cJ o.mx,cJ o.my,cK o.opac,cJ o.oper,cJ o.mode,Cl.d (dQ o.iso),Cl.d (dQ o.kno)]),h,i,(A k)]⟩,fun o:Oq=>0⟩ Ann.leaf fun o=>Ann.leaf))))) Ann.leaf)))) fun u7=>(Ann.seq (Ann.seq Ann.leaf (Ann.loop ⟨Nat,fun j=>j≤d.2.length,fun j=>⟨[b,a,w,(19,aJ (j:Int))],[c,(4,bC [cJ s.bits,cJ s.c.a,cJ s.c.b,cJ s.c.c,cJ s.c.d,cJ s.gtw,cJ s.gth,Cl.ref 7000 s.ord.length,Cl.ref 5000 s.ims.length,Cl.ref 5001 (d.1++List.replicate j popO).length]),x,h,i,(5001,Bx.row 44 12 (ops (d.1++List.replicate j popO)))]⟩,fun j=>d.2.length - j⟩ fun j=>Ann.leaf)) Ann.leaf)))))))))))))))) zQg Tryz.func5 rfl (nL rfl) rfl fun hwf hbx=>by
  refine Eq.mpr (by kernel_rfl:_=(let T:=(s.ims.length:Int); let A:=(cntS s.c s.gtw s.gth); let t:=(ims s.ims=ims s.ims); let u:=(s.pics (min s.pn 4)); let y3:=(((u.length:Nat):Int)==0); let D:=([dJ 3,dJ 0,dJ 0,dJ 0,dJ 0,dJ 0,dJ 0,dK 0,dJ 0,dJ 0,dQ false,dQ false]); let e:=(is s.ord=is s.ord); let b:=(s.run (min s.rn 9)); let w8:=((b.2.length:Nat):Int); let y4:=((0=0)∧(0=0)∧(dK (gMax s.b)=dK s.most)∧(0=0)∧True); let y5:=[dJ s.b,dJ s.x,dJ s.y,dJ s.w,dJ s.h,dJ s.tw,dJ s.th,dS s.on s.oxs,dS s.pn s.pxs,dS s.rn s.rxs]; let d:=(y5=y5); let a:=(dJ 0=dJ 0); let c:=(a∧a∧a∧a∧a∧a∧a∧tU3 True); let f:=(dK s.most=dK s.most); let g:=(dJ s.bits=dJ s.bits); let U:=(dJ s.gw=dJ s.gw); let V:=(dJ s.gh=dJ s.gh); let W:=((0=0)∧(0=0)∧f∧(0=0)∧U∧V∧True); let h:=(dJ s.c.a=dJ s.c.a); let i:=(dJ s.c.b=dJ s.c.b); let X:=[dJ s.c.a,dJ s.c.b,dJ s.c.c,dJ s.c.d]; let y6:=(wK (A.1*A.2.1)); let E:=(zYL (ints s.oxs) y6); let l:=(dJ s.c.c=dJ s.c.c); let m:=(dJ s.c.d=dJ s.c.d); let n:=(dJ s.gtw=dJ s.gtw); let q:=(dJ s.gth=dJ s.gth); let r:=(s.ord.length=s.ord.length); let y7:=fun (p:Nat)=>(W∧(d∧c∧(g∧h∧i∧l∧m∧n∧q∧r∧(p=u.length)∧True∧True)∧e∧(ims (s.pics p)=ims u)∧True)); let y8:=(Im.ds (zQb s.gw s.gh ⟨s.most,(0:Int),(0:Int),s.most,s.most⟩)); let y9:=((0=0)∧(0=0)∧f∧(0=0)∧True); let y:=(s.ims.length=s.ims.length); let x0:=fun (k:Nat)=>(0≤(k:Int)∧(k:Int) < (s.rn:Int)∧(k:Int).toNat*11 < s.rxs.length); let Y:=fun (k:Nat)=>fun (k':Nat)=>(min s.rn 9 - k' < min s.rn 9 - k); let Z:=fun (k:Nat)=>fun (k':Nat)=>(dJ (wK ((k:Int)+1))=dJ (k':Int)); let z0:=fun (k:Nat)=>fun (k':Nat)=>(g∧h∧i∧l∧m∧n∧q∧r∧y∧((s.run k).1.length+1=(s.run k').1.length)∧True); let B:=fun (k:Nat)=>((s.run k).2.length=(s.run k).2.length); let C:=fun (k:Nat)=>(dJ (k:Int)=dJ (k:Int)); let F:=fun (k:Nat)=>(dJ (modS (nAt s.rxs ((k:Int).toNat*11+0)) (8:Int))=dJ (modS (nAt s.rxs ((k:Int).toNat*11+0)) (8:Int))); let x1:=fun (k:Nat)=>(g∧h∧i∧l∧m∧n∧q∧r∧y∧((s.run k).1.length=(s.run k).1.length)∧True); let x2:=fun (k:Nat)=>(ops (s.run k).2=ops (s.run k).2); let x3:=fun (k:Nat)=>(ops (s.run k).1=ops (s.run k).1); let G:=fun (k:Nat)=>(d∧c∧(x1 k)∧(x2 k)∧e∧t∧(x3 k)∧True); let x4:=fun (k:Nat)=>(((0=0)∧(0=0)∧f∧(0=0)∧(B k)∧(C k)∧(F k)∧(dJ (((s.run k).2.length:Nat):Int)=dJ (((s.run k).2.length:Nat):Int))∧True)∧(G k)); let x5:=fun (k:Nat)=>(0≤wK ((((s.run k).2.length:Nat):Int) - 1)∧wK ((((s.run k).2.length:Nat):Int) - 1) < (((s.run k).2.length:Nat):Int)); let x6:=fun (k:Nat)=>fun (o:Oq)=>(o=gOp (rwAt s.rxs (k*11)) (decide (modS (rwAt s.rxs (k*11)).k 8 < 3)) s.ims.length s.c (ctxB (s.run k).2) s.most); let x7:=fun (k:Nat)=>fun (k':Nat)=>fun (o:Oq)=>((ops (s.run k).1)++(Oq.cells o)=ops (s.run k').1); let x8:=fun (k:Nat)=>(((0=0)∧(0=0)∧((s.run k).2.length=b.2.length)∧True)∧(c∧(g∧h∧i∧l∧m∧n∧q∧r∧y∧((s.run k).1.length=b.1.length)∧True)∧(ops (s.run k).2=ops b.2)∧e∧t∧(ops (s.run k).1=ops b.1)∧True)); let x9:=fun (j:Nat)=>(j≤b.2.length); let w0:=(b.2.length=b.2.length); let w1:=(ops b.2=ops b.2); tU4 ((Ans prog 16 [rJ s.b] (RV.d (dK (gMax s.b))))∧tU4 ((tU2 (((decide ((gMax s.b) > 255))=true→tU2 (∃ u1:Unit,True∧(y4∧(d∧c∧((dJ 16=dJ s.bits)∧a∧a∧a∧a∧a∧a∧tU3 True)∧True))))∧((decide ((gMax s.b) > 255))=false→∃ u1:Unit,True∧(y4∧(d∧c∧((dJ 8=dJ s.bits)∧a∧a∧a∧a∧a∧a∧tU3 True)∧True)))))∧∀ u1:Unit,True→tU2 ((Ans prog 9 [rJ s.x,rJ 13] (rJ (modS s.x (13:Int))))∧tU3 ((Ans prog 9 [rJ s.y,rJ 13] (rJ (modS s.y (13:Int))))∧tU3 ((true=true)∧(tU2 ((Ans prog 9 [rJ s.w,rJ 5] (rJ (modS s.w (5:Int))))∧tU3 ((Ans prog 9 [rJ s.h,rJ 4] (rJ (modS s.h (4:Int))))∧tU3 ((true=true)∧∃ u2:Unit,True∧(((0=0)∧(0=0)∧f∧(0=0)∧(dJ (wK ((modS s.x (13:Int)) - 6))=dJ s.c.a)∧(dJ (wK ((modS s.y (13:Int)) - 6))=dJ s.c.b)∧(dJ (wK ((1:Int)+(modS s.w (5:Int))))=dJ s.gw)∧(dJ (wK ((1:Int)+(modS s.h (4:Int))))=dJ s.gh)∧True)∧(d∧c∧(g∧a∧a∧a∧a∧a∧a∧tU3 True)∧True))))))∧∀ u2:Unit,True→tU3 (tU8 ((tU3 ((Ans prog 9 [rJ s.tw,rJ s.gw] (rJ (modS s.tw s.gw)))∧tU4 ((Ans prog 9 [rJ s.th,rJ s.gh] (rJ (modS s.th s.gh)))∧tU5 ((true=true)∧∃ u3:Unit,True∧(W∧(d∧c∧(g∧h∧i∧(dJ (wK (s.c.a+s.gw))=dJ s.c.c)∧(dJ (wK (s.c.b+s.gh))=dJ s.c.d)∧(dJ (wK ((1:Int)+(modS s.tw s.gw)))=dJ s.gtw)∧(dJ (wK ((1:Int)+(modS s.th s.gh)))=dJ s.gth)∧tU3 True)∧True))))))∧∀ u3:Unit,True→tU6 ((Ans prog 17 [RV.agg X,rJ s.gtw,rJ s.gth] (RV.tup [rJ A.1,rJ A.2.1,RV.d (dQ A.2.2)]))∧tU7 ((tU5 ((AnsO prog 18 [RV.d (dS s.on s.oxs),rJ y6] 3 1 E.length (is E))∧tU2 (∃ u4:Unit,True∧(W∧(d∧c∧(g∧h∧i∧l∧m∧n∧q∧(E.length=s.ord.length)∧tU2 True)∧(is E=is s.ord)∧True)))))∧∀ u4:Unit,True→(True∧((∃ p:Nat,(p≤min s.pn 4)∧(((0=0)∧(0=0)∧f∧(0=0)∧U∧V∧(dJ 0=dJ (p:Int))∧True)∧(d∧c∧(g∧h∧i∧l∧m∧n∧q∧r∧(0=p)∧True∧True)∧e∧([]=ims (s.pics p))∧True)))∧∀ p:Nat,let w2:=(decide ((p:Int) < (s.pn:Int))); let z1:=(nAt s.pxs ((p:Int).toNat*5)); let z2:=(nAt s.pxs ((p:Int).toNat*5+1)); let z3:=(nAt s.pxs ((p:Int).toNat*5+1+1)); let z4:=(nAt s.pxs ((p:Int).toNat*5+1+1+1)); let w3:=((p:Int).toNat*5+1+1+1+1); let z5:=(cAt s.pxs w3); let z6:=(lAt s.pxs w3); let z7:=(zQz z1 z2 z3 z4 z6 z5 s.c.a s.c.b s.c.c s.c.d s.most); (p≤min s.pn 4)→tU6 ((w2=true→tU3 (((decide ((p:Int) < 4))=true→tU5 ((0≤(p:Int)∧(p:Int) < (s.pn:Int)∧(p:Int).toNat*5 < s.pxs.length)∧((s.pxs[(p:Int).toNat*5]?=some (dJ z1))∧(s.pxs[(p:Int).toNat*5+1]?=some (dJ z2))∧(s.pxs[(p:Int).toNat*5+1+1]?=some (dJ z3))∧(s.pxs[(p:Int).toNat*5+1+1+1]?=some (dJ z4))∧(s.pxs[(p:Int).toNat*5+1+1+1+1]?=some (dS z6 z5))∧True)∧tU3 ((Ans prog 19 [RV.agg [dJ z1,dJ z2,dJ z3,dJ z4,dS z6 z5],RV.agg X,RV.d (dK s.most)] (imR z7))∧True∧(zZe 28 272 p 1 (ims (s.pics p)) (Im.ds z7))∧tU2 ((true=true)∧tU3 (∃ p':Nat,(p'≤min s.pn 4)∧(min s.pn 4 - p' < min s.pn 4 - p)∧(((0=0)∧(0=0)∧f∧(0=0)∧U∧V∧(dJ (wK ((p:Int)+1))=dJ (p':Int))∧True)∧(d∧c∧(g∧h∧i∧l∧m∧n∧q∧r∧(p+1=p')∧True∧True)∧e∧((ims (s.pics p))++(Im.ds z7)=ims (s.pics p'))∧True)))))))∧((decide ((p:Int) < 4))=false→∃ u6:Unit,True∧(y7 p))))∧(w2=(!true)→True∧∃ u6:Unit,True∧(y7 p)))))∧∀ u6:Unit,True→(tU2 ((u.length≤maxLen)∧True∧((y3=true→True∧tU8 ((Ans prog 20 [rJ s.gw,rJ s.gh,RV.agg [dK s.most,dK 0,dK 0,dK s.most,dK s.most]] (imR (zQb s.gw s.gh ⟨s.most,(0:Int),(0:Int),s.most,s.most⟩)))∧True∧(zZe 28 272 u.length 1 (ims u) y8)∧tU2 ((true=true)∧∃ u5:Unit,True∧(y9∧(d∧c∧(g∧h∧i∧l∧m∧n∧q∧r∧(u.length+1=s.ims.length)∧True∧True)∧e∧((ims u)++y8=ims s.ims)∧True)))))∧(y3=false→∃ u5:Unit,True∧(y9∧(d∧c∧(g∧h∧i∧l∧m∧n∧q∧r∧(u.length=s.ims.length)∧True∧True)∧e∧(ims u=ims s.ims)∧True))))))∧∀ u5:Unit,True→True∧(True∧((∃ k:Nat,(k≤min s.rn 9)∧(((0=0)∧(0=0)∧f∧(0=0)∧(0=(s.run k).2.length)∧(dJ 0=dJ (k:Int))∧True)∧(d∧c∧(g∧h∧i∧l∧m∧n∧q∧r∧y∧(0=(s.run k).1.length)∧True)∧([]=ops (s.run k).2)∧e∧t∧([]=ops (s.run k).1)∧True)))∧∀ k:Nat,let w4:=(decide ((k:Int) < (s.rn:Int))); let z8:=(ops (s.run k).1); let z9:=(nAt s.rxs ((k:Int).toNat*11+0)); let H:=(nAt s.rxs ((k:Int).toNat*11)); let I:=(nAt s.rxs ((k:Int).toNat*11+1)); let J:=(nAt s.rxs ((k:Int).toNat*11+1+1)); let K:=(nAt s.rxs ((k:Int).toNat*11+1+1+1)); let L:=(nAt s.rxs ((k:Int).toNat*11+1+1+1+1)); let M:=(nAt s.rxs ((k:Int).toNat*11+1+1+1+1+1)); let y0:=(¬ (modS (rwAt s.rxs (k*11)).k 8=0∧0 < (s.run k).2.length)); let N:=(nAt s.rxs ((k:Int).toNat*11+1+1+1+1+1+1)); let O:=(nAt s.rxs ((k:Int).toNat*11+1+1+1+1+1+1+1)); let P:=(nAt s.rxs ((k:Int).toNat*11+1+1+1+1+1+1+1+1)); let v:=(ops (s.run k).2); let Q:=(nAt s.rxs ((k:Int).toNat*11+1+1+1+1+1+1+1+1+1)); let R:=(nAt s.rxs ((k:Int).toNat*11+1+1+1+1+1+1+1+1+1+1)); let S:=(modS z9 (8:Int)); let y1:=(decide (S < 3)); let w:=(((s.run k).2.length:Nat):Int); let x:=(wK (w - 1)); let y2:=(bAt v (x.toNat*12+10)); (k≤min s.rn 9)→tU6 ((w4=true→tU3 (((decide ((k:Int) < 9))=true→tU3 ((x0 k)∧True∧((s.rxs[(k:Int).toNat*11+0]?=some (dJ z9))∧True)∧(Ans prog 9 [rJ z9,rJ 8] (rJ S))∧tU2 (((s.run k).2.length≤maxLen)∧True∧(tU3 (((S==0)=true→tU3 (((decide (w > 0))=true→tU4 ((zZe 12 88 (s.run k).1.length 1 z8 D)∧tU5 ((0≤wK (w - 1)∧wK (w - 1)≤w)∧tU4 (∃ k':Nat,(k'≤min s.rn 9)∧(Y k k')∧(((0=0)∧(0=0)∧f∧(0=0)∧(x.toNat=(s.run k').2.length)∧(Z k k')∧True)∧(d∧c∧(z0 k k')∧(List.take (x.toNat*12) v=ops (s.run k').2)∧e∧t∧(z8++D=ops (s.run k').1)∧True))))))∧((decide (w > 0))=false→∃ u8:Unit,y0∧(x4 k))))∧((S==0)=(!true)→True∧∃ u8:Unit,y0∧(x4 k))))∧∀ u8:Unit,y0→(tU3 (((w==0)=false→tU3 ((x5 k)∧True∧((v[x.toNat*12+10]?=some (dQ y2))∧True)∧True∧((y2=true→tU3 ((x5 k)∧True∧((v[x.toNat*12+11]?=some (dQ (bAt v (x.toNat*12+11))))∧True)∧tU4 (∃ fr:Bool,(fr=ctxB (s.run k).2)∧(((0=0)∧(0=0)∧f∧(0=0)∧(B k)∧(C k)∧(F k)∧(dQ (!(bAt v (x.toNat*12+11)))=dQ fr)∧True)∧(G k)))))∧(y2=(!true)→tU3 (∃ fr:Bool,(fr=ctxB (s.run k).2)∧(((0=0)∧(0=0)∧f∧(0=0)∧(B k)∧(C k)∧(F k)∧(dQ false=dQ fr)∧True)∧(G k)))))))∧((w==0)=(!false)→tU2 (∃ fr:Bool,(fr=ctxB (s.run k).2)∧(((0=0)∧(0=0)∧f∧(0=0)∧(B k)∧(C k)∧(F k)∧(dQ true=dQ fr)∧True)∧(G k))))))∧∀ fr:Bool,(fr=ctxB (s.run k).2)→(tU3 ((x0 k)∧((s.rxs[(k:Int).toNat*11]?=some (dJ H))∧(s.rxs[(k:Int).toNat*11+1]?=some (dJ I))∧(s.rxs[(k:Int).toNat*11+1+1]?=some (dJ J))∧(s.rxs[(k:Int).toNat*11+1+1+1]?=some (dJ K))∧(s.rxs[(k:Int).toNat*11+1+1+1+1]?=some (dJ L))∧(s.rxs[(k:Int).toNat*11+1+1+1+1+1]?=some (dJ M))∧(s.rxs[(k:Int).toNat*11+1+1+1+1+1+1]?=some (dJ N))∧(s.rxs[(k:Int).toNat*11+1+1+1+1+1+1+1]?=some (dJ O))∧(s.rxs[(k:Int).toNat*11+1+1+1+1+1+1+1+1]?=some (dJ P))∧(s.rxs[(k:Int).toNat*11+1+1+1+1+1+1+1+1+1]?=some (dJ Q))∧(s.rxs[(k:Int).toNat*11+1+1+1+1+1+1+1+1+1+1]?=some (dJ R))∧True)∧tU4 ((s.ims.length≤maxLen)∧tU4 ((Ans prog 21 [RV.agg [dJ H,dJ I,dJ J,dJ K,dJ L,dJ M,dJ N,dJ O,dJ P,dJ Q,dJ R],RV.d (dQ y1),rJ T,RV.agg X,RV.d (dQ fr),RV.d (dK s.most)] (RV.agg (Oq.cells (gOp ⟨H,I,J,K,L,M,N,O,P,Q,R⟩ y1 T s.c fr s.most))))∧tU2 ((true=true)∧∃ o:Oq,(x6 k o)∧(((0=0)∧(0=0)∧f∧(0=0)∧(B k)∧(C k)∧(0=0)∧True)∧(d∧c∧(x1 k)∧(x2 k)∧((Oq.cells (gOp ⟨H,I,J,K,L,M,N,O,P,Q,R⟩ y1 T s.c fr s.most))=(Oq.cells o))∧e∧t∧(x3 k)∧True)))))))∧∀ o:Oq,(x6 k o)→tU4 ((zZe 12 88 (s.run k).1.length 1 z8 (Oq.cells o))∧tU5 (((o.kind==2)=true→tU3 ((zZe 12 88 (s.run k).2.length 1 v (Oq.cells o))∧tU4 (∃ k':Nat,(k'≤min s.rn 9)∧(Y k k')∧(((0=0)∧(0=0)∧f∧(0=0)∧((s.run k).2.length+1=(s.run k').2.length)∧(Z k k')∧True)∧(d∧c∧(z0 k k')∧(v++(Oq.cells o)=ops (s.run k').2)∧e∧t∧(x7 k k' o)∧True)))))∧((o.kind==2)=false→tU3 (∃ k':Nat,(k'≤min s.rn 9)∧(Y k k')∧(((0=0)∧(0=0)∧f∧(0=0)∧((s.run k).2.length=(s.run k').2.length)∧(Z k k')∧True)∧(d∧c∧(z0 k k')∧(ops (s.run k).2=ops (s.run k').2)∧e∧t∧(x7 k k' o)∧True)))))))))∧((decide ((k:Int) < 9))=false→∃ u7:Unit,True∧(x8 k))))∧(w4=(!true)→True∧∃ u7:Unit,True∧(x8 k)))))∧∀ u7:Unit,True→True∧((∃ j:Nat,let w5:=(b.1++List.replicate j popO); (x9 j)∧(((0=0)∧(0=0)∧w0∧(dJ 0=dJ (j:Int))∧True)∧(c∧(g∧h∧i∧l∧m∧n∧q∧r∧y∧(b.1.length=w5.length)∧True)∧w1∧e∧t∧(ops b.1=ops w5)∧True)))∧∀ j:Nat,let w6:=(decide ((j:Int) < w8)); let z:=(b.1++List.replicate j popO); (x9 j)→tU2 ((b.2.length≤maxLen)∧True∧((w6=true→tU4 ((zZe 12 88 z.length 1 (ops z) D)∧tU5 (∃ j':Nat,let w7:=(b.1++List.replicate j' popO); (j'≤b.2.length)∧(b.2.length - j' < b.2.length - j)∧(((0=0)∧(0=0)∧w0∧(dJ (wK ((j:Int)+1))=dJ (j':Int))∧True)∧(c∧(g∧h∧i∧l∧m∧n∧q∧r∧y∧(z.length+1=w7.length)∧True)∧w1∧e∧t∧((ops z)++D=ops w7)∧True)))))∧(w6=false→tU2 (((((dJ s.bits=dJ s.bits)∧(dJ s.c.a=dJ s.c.a)∧(dJ s.c.b=dJ s.c.b)∧(dJ s.c.c=dJ s.c.c)∧(dJ s.c.d=dJ s.c.d)∧(dJ s.gtw=dJ s.gtw)∧(dJ s.gth=dJ s.gth)∧(s.ord.length=s.ord.length)∧(s.ims.length=s.ims.length)∧(z.length=s.ops.length)∧True)∧True)∧(e∧t∧(ops z=ops s.ops)∧True))∧zQn ⟨AV.agg [cJ s.bits,cJ s.c.a,cJ s.c.b,cJ s.c.c,cJ s.c.d,cJ s.gtw,cJ s.gth,Cl.ref 0 s.ord.length,Cl.ref 1 s.ims.length,Cl.ref 2 s.ops.length],[Bx.row 3 1 (is s.ord),Bx.row 69 28 (ims s.ims),Bx.row 44 12 (ops s.ops)],false⟩)))))))))))))))) ?_
  delta dJ dK dQ cJ wK dS rJ
  simp only [sS,zQs,zVk]
  obtain ⟨⟨ho1,ho2⟩,⟨hp1,hp2⟩,⟨hr1,hr2⟩⟩:=hs
  obtain ⟨f1,f2,f3,f4,f5,f6⟩:=s.facts
  have CF:=s.c_facts
  have w1:IntKind.wrap .i64 (modS s.x 13 - 6)=s.c.a:=IntWalk.i64_in _ ⟨by omega,by omega⟩
  have w2:IntKind.wrap .i64 (modS s.y 13 - 6)=s.c.b:=IntWalk.i64_in _ ⟨by omega,by omega⟩
  have g1:s.gw=1+modS s.w 5:=rfl
  have g2:s.gh=1+modS s.h 4:=rfl
  have g3:s.gtw=1+modS s.tw s.gw:=rfl
  have g4:s.gth=1+modS s.th s.gh:=rfl
  have w3:IntKind.wrap .i64 (1+modS s.w 5)=s.gw:=IntWalk.i64_in _ ⟨by omega,by omega⟩
  have w4:IntKind.wrap .i64 (1+modS s.h 4)=s.gh:=IntWalk.i64_in _ ⟨by omega,by omega⟩
  have w5:IntKind.wrap .i64 (s.c.a+s.gw)=s.c.c:=by rw [IntWalk.i64_in _ ⟨by omega,by omega⟩]; omega
  have w6:IntKind.wrap .i64 (s.c.b+s.gh)=s.c.d:=by rw [IntWalk.i64_in _ ⟨by omega,by omega⟩]; omega
  have w7:IntKind.wrap .i64 (1+modS s.tw s.gw)=s.gtw:=IntWalk.i64_in _ ⟨by omega,by omega⟩
  have w8:IntKind.wrap .i64 (1+modS s.th s.gh)=s.gth:=IntWalk.i64_in _ ⟨by omega,by omega⟩
  have hm:=s.tiles_in
  have hM:∀ n:Nat,n≤100→n≤maxLen:=fun n h=>by unfold maxLen; omega
  have li:=s.ims_len
  have lk:=fun k=>s.run_len k
  have pq:1≤s.c.c - s.c.a∧s.c.c - s.c.a≤100∧1≤s.c.d - s.c.b∧s.c.d - s.c.b≤100:=by omega
  have BI:=s.bits_of
  refine ⟨⟨fun h=>⟨(),rfl,BI.1 h⟩,fun h=>⟨(),rfl,BI.2 h⟩⟩,⟨(),w1,w2,w3,w4⟩,⟨(),w5,w6,w7,w8⟩,zVf _ _ _ _ _ _,⟨zVB _ _ _ ⟨ho1,ho2⟩ hm.1,(),rfl,rfl⟩,⟨⟨0,Nat.zero_le _,rfl,rfl,rfl⟩,fun p hp=>⟨fun h1=>⟨fun h2=>?_,fun h2=>?_⟩,fun h1=>?_⟩⟩,?_⟩
  ·obtain ⟨q0,q1,q2,q3,q4,q5⟩:=hp2 p (by omega)
   refine ⟨⟨by omega,by omega,by omega⟩,⟨q0,q1,q2,q3,q4⟩,jQs _ _ _ _ _ _ _ _ _ _ _ q5 pq,⟨by rw [zJX,s.pics_len],by rw [Im.ds_len],hM _ (by omega),by omega⟩,p+1,by omega,by omega,zXN (by omega),rfl,?_⟩
   rw [s.pics_succ,jXa,jKo]; rfl
  ·have:p=min s.pn 4:=by omega
   subst this
   exact ⟨(),(s.pics_len _).symm,rfl⟩
  ·have:p=min s.pn 4:=by omega
   subst this
   exact ⟨(),(s.pics_len _).symm,rfl⟩
  have lp:=s.pics_len (min s.pn 4)
  refine ⟨⟨hM _ (by omega),fun h=>?_,fun h=>?_⟩,⟨⟨0,Nat.zero_le _,⟨rfl,rfl⟩,rfl,rfl,rfl⟩,fun k hk=>⟨fun h1=>⟨fun h2=>?_,fun h2=>?_⟩,fun h1=>?_⟩⟩,?_⟩
  ·have h0:min s.pn 4=0:=by rw [lp] at h; simpa using h
   have e1:s.ims=[s.solo]:=by unfold Scn.ims; rw [if_pos h0]
   have e2:s.pics (min s.pn 4)=[]:=by rw [h0]; rfl
   rw [e1,e2]
   exact ⟨zJH s.gw s.gh ⟨_,_,_,_,_⟩,⟨by simp [ims],by simp [Im.ds],hM _ (by simp),by simp⟩,(),rfl,by simp [ims]; rfl⟩
  ·have h0:¬ min s.pn 4=0:=by rw [lp] at h; simpa using h
   have e1:s.ims=s.pics (min s.pn 4):=by unfold Scn.ims; rw [if_neg h0]
   rw [e1]
   exact ⟨(),rfl,rfl⟩
  ·have lk1:=(lk k).1
   have lk2:=(lk k).2
   have ro:=fun i (h:i < 11)=>hr2 (k*11+i) (by omega)
   have wl:0 < (s.run k).2.length→IntKind.wrap .i64 (((s.run k).2.length:Int) - 1)=(((s.run k).2.length - 1:Nat):Int):=fun h=>by rw [IntWalk.i64_in _ ⟨by omega,by omega⟩]; omega
   have ws:IntKind.wrap .i64 ((k:Int)+1)=((k+1:Nat):Int):=zXN (by omega)
   refine ⟨⟨by omega,by omega,by omega⟩,ro 0 (by omega),hM _ (by omega),⟨fun a1=>⟨fun a2=>?_,fun a2=>⟨(),fun h=>a2 (by omega)⟩⟩,fun a1=>⟨(),fun h=>?_⟩⟩,fun hn=>⟨⟨fun a1=>?_,fun a1=>?_⟩,fun fr hfr=>⟨?_,fun o ho=>?_⟩⟩⟩
   ·have a3:0 < (s.run k).2.length:=by omega
    have a4:modS (nAt s.rxs (k*11)) 8=0:=by simpa using a1
    have rp:=Scn.run_pop (s:=s) (k:=k) ⟨a4,a3⟩
    rw [wl a3]
    refine ⟨⟨by rw [zQC,lk1],rfl,hM _ (by omega),by omega⟩,⟨by omega,by omega⟩,k+1,by omega,by omega,⟨?_,ws⟩,?_,?_,?_⟩
    ·rw [rp]; simp
    ·rw [rp]; simp
    ·rw [rp,Int.toNat_natCast,zGD,List.dropLast_eq_take]
    ·rw [rp,zZP,zWJ]; rfl
   ·have a4:¬ modS (nAt s.rxs (k*11)) 8=0:=by simpa using a1
    exact a4 h.1
   ·have a3:0 < (s.run k).2.length:=by
     have:¬ (s.run k).2.length=0:=by simpa using a1
     omega
    have hl:(s.run k).2.length - 1 < (s.run k).2.length:=by omega
    have g10:(ops (s.run k).2)[((s.run k).2.length - 1)*12+10]?=some (.bool (s.run k).2[(s.run k).2.length - 1].iso):=zGE hl 10 (by omega)
    have g11:(ops (s.run k).2)[((s.run k).2.length - 1)*12+11]?=some (.bool (s.run k).2[(s.run k).2.length - 1].kno):=zGE hl 11 (by omega)
    have b10:bAt (ops (s.run k).2) (((s.run k).2.length - 1)*12+10)=(s.run k).2[(s.run k).2.length - 1].iso:=by simp only [bAt,g10]
    have b11:bAt (ops (s.run k).2) (((s.run k).2.length - 1)*12+11)=(s.run k).2[(s.run k).2.length - 1].kno:=by simp only [bAt,g11]
    rw [wl a3,Int.toNat_natCast,b10,b11,jYA a3]
    refine ⟨⟨by omega,by omega⟩,g10,fun h=>⟨⟨by omega,by omega⟩,g11,_,rfl,?_⟩,fun h=>⟨_,rfl,?_⟩⟩ <;> simp [h]
   ·have a3:(s.run k).2.length=0:=by simpa using a1
    rw [List.length_eq_zero_iff.1 a3]
    exact ⟨_,rfl,rfl⟩
   ·subst hfr
    refine ⟨⟨by omega,by omega,by omega⟩,⟨ro 0 (by omega),ro 1 (by omega),ro 2 (by omega),ro 3 (by omega),ro 4 (by omega),ro 5 (by omega),ro 6 (by omega),ro 7 (by omega),ro 8 (by omega),ro 9 (by omega),ro 10 (by omega)⟩,hM _ (by omega),jJy (rwAt s.rxs (k*11)) _ _ _ _ _ ⟨⟨by omega,by omega⟩,by omega,by omega⟩ ⟨by omega,by omega⟩,_,rfl,rfl⟩
   ·obtain ⟨r1,r2⟩:=Scn.run_op (s:=s) (k:=k) hn ho
    clear ho
    refine ⟨⟨by rw [zQC,lk1],rfl,hM _ (by omega),by omega⟩,fun a1=>⟨⟨by rw [zQC],rfl,hM _ (by omega),by omega⟩,k+1,by omega,by omega,⟨?_,ws⟩,?_,?_,?_⟩,fun a1=>⟨k+1,by omega,by omega,⟨?_,ws⟩,?_,?_,?_⟩⟩
    ·rw [r1 (by simpa using a1)]; simp
    ·rw [r1 (by simpa using a1)]; simp
    ·rw [r1 (by simpa using a1),zZP,zWJ]
    ·rw [r1 (by simpa using a1),zZP,zWJ]
    ·rw [r2 (by simpa using a1)]
    ·rw [r2 (by simpa using a1)]; simp
    ·rw [r2 (by simpa using a1)]
    ·rw [r2 (by simpa using a1),zZP,zWJ]
  ·have:k=min s.rn 9:=by omega
   subst this
   exact ⟨(),rfl,rfl,rfl,rfl⟩
  ·have:k=min s.rn 9:=by omega
   subst this
   exact ⟨(),rfl,rfl,rfl,rfl⟩
  ·have e:s.ops=(s.run (min s.rn 9)).1++List.replicate (s.run (min s.rn 9)).2.length popO:=rfl
   have lr:=lk (min s.rn 9)
   rw [e]
   generalize s.run (min s.rn 9)=z at *
   refine ⟨⟨0,Nat.zero_le _,rfl,by simp,by simp⟩,fun j hj=>⟨hM _ (by omega),fun h=>?_,fun h=>?_⟩⟩
   ·have e2:z.1++List.replicate (j+1) popO=(z.1++List.replicate j popO)++[popO]:=by rw [List.append_assoc,List.replicate_succ']
    refine ⟨⟨by rw [zQC],rfl,hM _ (by simp; omega),by simp; omega⟩,j+1,by omega,by omega,zXN (by omega),?_,?_⟩
    ·rw [e2]; simp; omega
    ·rw [e2,zZP _ [popO],zWJ]; rfl
   ·have:j=z.2.length:=by omega
    subst this
    exact ⟨⟨rfl,rfl⟩,trivial⟩
structure Scr where
  bits:Int
  c:Rc
  tw:Int
  th:Int
  ord:List Int
  ims:List Im
  ops:List Oq
def Scr.frame (s:Scr):Int:=zX2 s.bits s.c s.tw s.th s.ord s.ims.length s.ops.length
def Scr.run (s:Scr):Int × Int:=opsE s.bits s.c s.tw s.th s.ord s.ims.length s.ops
def scrR (s:Scr):RV:=RV.agg [DV.int .i64 s.bits,DV.int .i64 s.c.a,DV.int .i64 s.c.b,DV.int .i64 s.c.c,DV.int .i64 s.c.d,DV.int .i64 s.tw,DV.int .i64 s.th,DV.sl s.ord.length (is s.ord),DV.sl s.ims.length (ims s.ims),DV.sl s.ops.length (ops s.ops)]
def eR (p:Int × Int):RV:=RV.tup [RV.d (DV.int .i64 p.1),RV.d (DV.int .i64 p.2)]
theorem zKn (s:Scr):(⟨s.bits,⟨s.c.a,s.c.b,s.c.c,s.c.d⟩,s.tw,s.th,ints (is s.ord),zQf (ims s.ims),zQd (ops s.ops)⟩:Scr)=s:=by
 rw [zZ8,zXk,zQG]
theorem jKV {n:Nat} {l:List Int} (h:n=l.length):is l=is (ints (is l))∧n=(is l).length:=⟨by rw [zZ8],by rw [zQN]; exact h⟩
theorem jYQ (s:Scr):opsE s.bits ⟨s.c.a,s.c.b,s.c.c,s.c.d⟩ s.tw s.th (ints (is s.ord)) s.ims.length (zQd (ops s.ops))=s.run:=by
 rw [zZ8,zQG]; rfl
theorem zVX (s:Scr):Ans prog 22 [scrR s] (eR s.run):=by
 have:=zVY s.bits s.c.a s.c.b s.c.c s.c.d s.tw s.th s.ord.length (is s.ord) s.ims.length (ims s.ims) s.ops.length (ops s.ops) (jYe rfl) (jKV rfl)
 rw [jYQ] at this
 exact this
end
theorem jYq {bits:Int} {c:Rc} {tw th:Int} {l:List Int} {mn pn:Nat} (hb:zYj bits=true) (he:c.empty=false) (ha:c.area≤16777216) (h1:zZA c.a=true) (h2:zZA c.b=true)
  (h3:(cntS c tw th).2.2=true) (h4:zZv l (IntKind.wrap .i64 ((cntS c tw th).1*(cntS c tw th).2.1))=true) (h5:mn≤64) (h6:pn≤4096):zX2 bits c tw th l mn pn=0:=by
 unfold zX2
 rw [if_neg (by rw [hb]; simp),if_neg (by rw [he,h1,h2]; simp; omega),if_neg (by rw [h3]; simp),if_neg (by rw [h4]; simp),if_neg (by omega)]
theorem zWQ (v:Int):zZA v=true ↔ -1048576≤v∧v≤1048576:=by simp [zZA]
theorem Im.list_so {m:Im} (hs:m.so=true) (n:Nat):m.list n=List.replicate n m.c:=by
 unfold Im.list
 refine List.ext_getElem (by simp) fun i h1 h2=>?_
 simp [Im.nth,Im.px,hs]
theorem Im.count_pos {m:Im} (hf:m.formed=true):0 < m.w.toNat*m.h.toNat:=by
 obtain ⟨f1,f2,f3,f4,f5⟩:=zXC (Im.formed_of hf).1
 exact Nat.mul_pos (by omega) (by omega)
theorem Im.pixels_so {m:Im} (hf:m.formed=true) (hs:m.so=true):m.pixels=List.replicate (m.w.toNat*m.h.toNat) m.c:=by
 rw [Im.pixels_of hf,Im.list_so hs]
theorem Im.valid_iff {m:Im} (hf:m.formed=true) (most:Int):m.valid most=0↔∀ p∈m.pixels,p.ok most=true:=by
 obtain ⟨h1,h2⟩:=Im.formed_of hf
 unfold Im.valid
 rw [if_neg (by simp [h1]),if_neg (by simp [h2])]
 cases hs:m.so with
 | true=>
  rw [if_pos rfl,Im.pixels_so hf hs]
  have:=Im.count_pos hf
  constructor
  ·intro h p hp
   obtain ⟨_,rfl⟩:=List.mem_replicate.1 hp
   split at h
   ·assumption
   ·cases h
  ·intro h
   rw [if_pos (h m.c (List.mem_replicate.2 ⟨by omega,rfl⟩))]
 | false=>
  rw [if_neg (by simp),Im.pixels_of hf]
  unfold Im.okTo Im.count Im.list
  constructor
  ·intro h p hp
   split at h
   ·rename_i ha
    obtain ⟨k,hk,rfl⟩:=List.mem_map.1 hp
    exact List.all_eq_true.1 ha k hk
   ·cases h
  ·intro h
   rw [if_pos (List.all_eq_true.2 fun k hk=>h _ (List.mem_map.2 ⟨k,hk,rfl⟩))]
theorem zXB (n:Int) {most:Int} (h0:0≤most) (h1:most≤65535):0≤zQy n most∧zQy n most≤most:=by
 unfold zQy
 rw [IntWalk.i64_in most ⟨by omega,by omega⟩]
 have a2:=@zQ4 (IntKind.wrap .i64 (Int.tdiv n 8)) 2 (by omega) (by omega)
 have a4:=@zQ4 (IntKind.wrap .i64 (Int.tdiv n 8)) 4 (by omega) (by omega)
 split
 ·omega
 ·split
  ·omega
  ·split
   ·rw [IntWalk.i64_in (most+_) ⟨by omega,by omega⟩]
    have e:Int.tdiv (most+modS (IntKind.wrap .i64 (Int.tdiv n 8)) 2) 2=(most+modS (IntKind.wrap .i64 (Int.tdiv n 8)) 2) / 2:=Int.tdiv_eq_ediv_of_nonneg (by omega)
    rw [e,IntWalk.i64_in _ ⟨by omega,by omega⟩,IntWalk.u16_in _ ⟨by omega,by omega⟩]
    omega
   ·split
    ·rw [IntWalk.u16_in _ ⟨by omega,by omega⟩]
     omega
    ·rw [IntWalk.i64_in (most+1) ⟨by omega,by omega⟩]
     have a:=@zQ4 (IntKind.wrap .i64 (Int.tdiv n 8)) (most+1) (by omega) (by omega)
     rw [IntWalk.u16_in _ ⟨by omega,by omega⟩]
     omega
theorem jYo (n0 n1 n2 n3 n4:Int) {most:Int} (h0:0≤most) (h1:most≤65535):(zZg n0 n1 n2 n3 n4 most).ok most=true∧0≤(zZg n0 n1 n2 n3 n4 most).a∧0≤(zZg n0 n1 n2 n3 n4 most).b∧0≤(zZg n0 n1 n2 n3 n4 most).c∧0≤(zZg n0 n1 n2 n3 n4 most).al:=by
 have hf:=zXB n4 h0 h1
 have key:∀ a f:Int,0≤a→a≤f→f≤most→Px.ok ⟨zQy n0 a,zQy n1 a,zQy n2 a,a,f⟩ most=true∧0≤zQy n0 a∧0≤zQy n1 a∧0≤zQy n2 a∧0≤a:=fun a f k0 k1 k2=>by
  have q0:=zXB n0 k0 (by omega)
  have q1:=zXB n1 k0 (by omega)
  have q2:=zXB n2 k0 (by omega)
  simp [Px.ok]
  omega
 unfold zZg
 simp only
 split
 ·have ha:=zXB (IntKind.wrap .i64 (Int.tdiv n3 3)) hf.1 (by omega)
  exact key _ _ ha.1 ha.2 hf.2
 ·exact key _ _ hf.1 (Int.le_refl _) hf.2
def Px.fine (p:Px) (most:Int):Prop:=p.ok most=true∧0≤p.a∧0≤p.b∧0≤p.c∧0≤p.al
theorem jZH (mood:Int) (L:Nat) (xs:List DV) {most:Int} (h0:0≤most) (h1:most≤65535) (k:Nat):(gPx mood L xs most k).fine most:=by
 have hz:Px.zero.fine most:=⟨by simp [Px.ok,Px.zero,h0],by decide,by decide,by decide,by decide⟩
 have hp:∀ k,(gPx1 L xs most k).fine most:=fun k=>jYo _ _ _ _ _ h0 h1
 unfold gPx
 split
 ·exact hz
 ·split
  ·obtain ⟨a,b⟩:=hp k
   refine ⟨?_,b.1,b.2.1,b.2.2.1,h0⟩
   simp [Px.ok] at a ⊢
   omega
  ·split
   ·exact hp 0
   ·exact hp k
theorem zW7 (pw ph so mood:Int) (L:Nat) (xs:List DV) (x0 y0 x1 y1:Int) {most:Int} (h0:0≤most) (h1:most≤65535) (hc:1≤x1 - x0∧x1 - x0≤100∧1≤y1 - y0∧y1 - y0≤100):∀ p∈(zQz pw ph so mood L xs x0 y0 x1 y1 most).pixels,p.fine most:=by
 have hf:=(zVN pw ph so mood L xs x0 y0 x1 y1 most hc).1
 intro p hp
 rw [zK9 pw ph so mood L xs x0 y0 x1 y1 most _ _ rfl rfl] at hf hp
 split at hf
 ·rename_i hs
  rw [if_pos hs,Im.pixels_so hf rfl] at hp
  obtain ⟨_,rfl⟩:=List.mem_replicate.1 hp
  exact jZH _ _ _ h0 h1 _
 ·rename_i hs
  rw [if_neg hs] at hp
  cases hk:ofOk (zX8 pw 5 x0 x1 pw) (zX8 ph 4 y0 y1 pw) (zQm mood L xs most (IntKind.wrap .i64 (zX8 pw 5 x0 x1 pw*zX8 ph 4 y0 y1 pw)).toNat).length with
  | true=>
   rw [(jQ0 hk).2] at hp
   unfold zQm at hp
   obtain ⟨k,_,rfl⟩:=List.mem_map.1 hp
   exact jZH _ _ _ h0 h1 _
  | false=>
   rw [zGW hk] at hf
   exact absurd hf (by decide)
def okO (bits:Int) (mn:Nat):List Oq→List Oq→Option (List Oq)
 | [],st=>some st
 | o::r,st=>if errO bits mn o st=0 then okO bits mn r (zZX o st) else none
theorem zY5 {bits:Int} {mn:Nat}:∀ (l m:List Oq) (st:List Oq),okO bits mn (l++m) st=(okO bits mn l st).bind (okO bits mn m)
 | [],m,st=>rfl
 | o::l,m,st=>by
  simp only [List.cons_append,okO]
  split
  ·exact zY5 l m _
  ·rfl
theorem jXO {bits:Int} {mn:Nat}:∀ (l m:List Oq) (i:Int) (st st':List Oq),okO bits mn l st=some st'→runO bits mn (l++m) i st=runO bits mn m (i+l.length) st'
 | [],m,i,st,st',h=>by
  simp only [okO,Option.some.injEq] at h
  subst h
  simp
 | o::l,m,i,st,st',h=>by
  simp only [okO] at h
  split at h
  ·rename_i he
   simp only [List.cons_append,runO]
   rw [if_pos he,jXO l m _ _ _ h]
   congr 1
   simp only [List.length_cons,Int.natCast_add,Int.natCast_one]
   omega
  ·cases h
theorem zG5 {bits:Int} {mn:Nat} {st:List Oq} (h:st≠[]):errO bits mn popO st=0:=by
 have h1:popO.kind=3:=rfl
 have h2:popO.fields=true:=by decide
 unfold errO
 rw [if_neg (by rw [h1]; simp),if_neg (by rw [h2]; simp),if_pos h1,if_neg h]
theorem jZx {bits:Int} {mn:Nat}:∀ (n:Nat) (st:List Oq),n≤st.length→okO bits mn (List.replicate n popO) st=some (st.take (st.length - n))
 | 0,st,_=>by simp [okO]
 | n+1,st,h=>by
  have hne:st≠[]:=by intro e; subst e; simp at h
  have h1:popO.kind=3:=rfl
  rw [List.replicate_succ,okO,if_pos (zG5 hne)]
  have e:zZX popO st=st.dropLast:=by unfold zZX; rw [if_neg (by rw [h1]; decide),if_pos h1]
  rw [e,jZx n _ (by simp; omega),List.dropLast_eq_take,List.take_take]
  congr 2
  simp; omega
theorem zGP {bits:Int} {mn:Nat} {o:Oq} {st:List Oq} (h:errO bits mn o st=0):okO bits mn [o] st=some (zZX o st):=by
 simp only [okO]; rw [if_pos h]
theorem zK8 {n c:Int} (h : -100≤c∧c≤100) : -200≤gOff n c∧gOff n c≤200:=by
 have b:=@zQ4 (IntKind.wrap .i64 (Int.tdiv n 3)) 9 (by omega) (by omega)
 unfold gOff
 split <;> omega
theorem jK2 {bits:Int} {mn:Nat} {r:Rw} {push:Bool} {c:Rc} {most:Int} {st:List Oq} (hm:1≤mn∧mn≤64) (hc:(-100≤c.a∧c.a≤100) ∧ -100≤c.b∧c.b≤100) (hb:zQ1 bits=most) (h0:0≤most∧most≤65535) (hl:st.length < 64) :
  errO bits mn (gOp r push mn c (ctxB st) most) st=0:=by
 have b1:=@zQ4 r.im mn (by omega) (by omega)
 have b2:=@zQ4 (IntKind.wrap .i64 (Int.tdiv r.ma 4)) mn (by omega) (by omega)
 have b3:=@zQ4 (IntKind.wrap .i64 (Int.tdiv r.ope 2)) 12 (by omega) (by omega)
 have b4:=@zQ4 (IntKind.wrap .i64 (Int.tdiv r.mo 2)) 12 (by omega) (by omega)
 have o1:=@zK8 r.x c.a hc.1
 have o2:=@zK8 r.y c.b hc.2
 have o3:=@zK8 r.mx c.a hc.1
 have o4:=@zK8 r.my c.b hc.2
 have s1:=zXB (IntKind.wrap .i64 (Int.tdiv r.op 2)) h0.1 h0.2
 unfold errO
 rw [hb]
 rw [if_neg (by simp [gOp]; cases push <;> simp)]
 rw [if_neg (by
  cases push <;> simp only [gOp,Oq.fields] <;> by_cases q:modS r.ma 4=0 <;> simp [q] <;> omega)]
 rw [if_neg (by cases push <;> simp [gOp])]
 rw [if_neg (by
  cases push <;> simp only [gOp] <;> by_cases q:modS r.ma 4=0 <;> simp [q] <;> omega)]
 rw [if_neg (by
  simp only [Decidable.not_not,zWQ,gOp]
  refine ⟨?_,?_,?_,?_⟩ <;> split <;> omega)]
 rw [if_neg (by simp only [gOp]; split <;> omega)]
 rw [if_neg (by simp only [gOp]; split <;> omega)]
 rw [if_neg (by simp only [gOp]; split <;> omega)]
 rw [if_neg (by
  simp only [gOp]
  intro ⟨h1,h2⟩
  rw [h2] at h1
  simp at h1)]
 rw [if_neg (by omega)]
theorem Scn.bits_max (s:Scn):zQ1 s.bits=s.most∧zYj s.bits=true:=by
 have:=s.most_in
 unfold Scn.bits
 rcases this with h | h <;> rw [h] <;> decide
theorem Scn.run_okO (s:Scn) (k:Nat) (hk:k≤9):okO s.bits s.ims.length (s.run k).1 []=some (s.run k).2:=by
 induction k with
 | zero=>rfl
 | succ k ih=>
  have ih:=ih (by omega)
  have hl:=s.run_len k
  have F:=s.c_facts
  have li:=s.ims_len
  have hm:0≤s.most∧s.most≤65535:=by rcases s.most_in with h | h <;> rw [h] <;> omega
  by_cases h:modS (rwAt s.rxs (k*11)).k 8=0∧0 < (s.run k).2.length
  ·rw [Scn.run_pop h,zY5,ih]
   have hne:(s.run k).2≠[]:=by intro e; rw [e] at h; simp at h
   show okO _ _ [popO] _=_
   rw [zGP (zG5 hne)]
   rfl
  ·obtain ⟨r1,r2⟩:=Scn.run_op h rfl
   have he:=@jK2 s.bits s.ims.length (rwAt s.rxs (k*11)) (decide (modS (rwAt s.rxs (k*11)).k 8 < 3)) s.c s.most (s.run k).2 (by omega) (by omega) s.bits_max.1 hm (by omega)
   have hkd:(gOp (rwAt s.rxs (k*11)) (decide (modS (rwAt s.rxs (k*11)).k 8 < 3)) s.ims.length s.c (ctxB (s.run k).2) s.most).kind=if modS (rwAt s.rxs (k*11)).k 8 < 3 then 2 else 1:=by simp [gOp]
   generalize gOp (rwAt s.rxs (k*11)) (decide (modS (rwAt s.rxs (k*11)).k 8 < 3)) s.ims.length s.c (ctxB (s.run k).2) s.most=o at *
   by_cases h2:o.kind=2
   ·rw [r1 h2,zY5,ih]
    show okO _ _ [o] _=_
    rw [zGP he]
    unfold zZX
    rw [if_pos h2]
   ·have h3:o.kind≠3:=by rw [hkd]; split <;> decide
    rw [r2 h2,zY5,ih]
    show okO _ _ [o] _=_
    rw [zGP he]
    unfold zZX
    rw [if_neg h2,if_neg h3]
theorem Scn.ops_ok (s:Scn):okO s.bits s.ims.length s.ops []=some []:=by
 unfold Scn.ops
 rw [zY5,s.run_okO _ (by omega)]
 show okO _ _ _ _=_
 rw [jZx _ _ (Nat.le_refl _),Nat.sub_self]
 rfl
theorem Scn.ops_len (s:Scn):s.ops.length≤18:=by
 have:=s.run_len (min s.rn 9)
 unfold Scn.ops
 simp; omega
theorem Scn.ops_run (s:Scn):runO s.bits s.ims.length s.ops 0 []=(0,0):=by
 have:=jXO s.ops [] 0 [] [] s.ops_ok
 rw [List.append_nil] at this
 rw [this]
 simp [runO]
theorem Scn.frame_ok (s:Scn) {mn pn:Nat} (h1:mn≤64) (h2:pn≤4096):zX2 s.bits s.c s.gtw s.gth s.ord mn pn=0:=by
 obtain ⟨c1,c2,c3⟩:=s.cnt
 obtain ⟨f1,f2,f3,f4,f5,f6⟩:=s.facts
 have CF:=s.c_facts
 have he:Rc.empty s.c=false:=by rw [Rc.empty_iff]; omega
 refine jYq s.bits_max.2 he ?_ ((zWQ _).2 (by omega)) ((zWQ _).2 (by omega)) c1 ?_ h1 h2
 ·unfold Rc.area
  rw [he,CF.1,CF.2.1]
  have:=Int.mul_le_mul f3.2 f4.2 (by omega) (by omega)
  simp; omega
 ·have ht:=s.tiles_in
  exact (jJ8 (l:=ints s.oxs) ht.1 (by omega)).1
theorem Scn.fine (s:Scn):∀ m∈s.ims,m.formed=true∧(m.w≤100∧m.h≤100)∧m.valid s.most=0∧∀ more,(zZ5 m more).valid s.most=0:=by
 have CF:=s.c_facts
 have hq:1≤s.c.c - s.c.a∧s.c.c - s.c.a≤100∧1≤s.c.d - s.c.b∧s.c.d - s.c.b≤100:=by have:=s.facts; omega
 have hm:0≤s.most∧s.most≤65535:=by rcases s.most_in with h | h <;> rw [h] <;> omega
 have key:∀ m:Im,m.formed=true→m.w≤100∧m.h≤100→(∀ p∈m.pixels,p.fine s.most)→m.formed=true∧(m.w≤100∧m.h≤100)∧m.valid s.most=0∧∀ more,(zZ5 m more).valid s.most=0:=fun m h1 h2 h3=>by
  refine ⟨h1,h2,(Im.valid_iff h1 _).2 fun p hp=>(h3 p hp).1,fun more=>(Im.valid_iff (zJD h1 h2 more) _).2 fun p hp=>?_⟩
  rw [zW6 h1 h2 more] at hp
  exact (h3 p hp).1
 intro m hmem
 unfold Scn.ims at hmem
 split at hmem
 ·rw [List.mem_singleton] at hmem
  subst hmem
  have F:=s.facts
  have hf:zZK s.gw s.gh=true:=by
   have:=Int.mul_le_mul F.2.2.1.2 F.2.2.2.1.2 (by omega) (by omega)
   simp [zZK]; omega
  refine key _ (zXG _ hf) ⟨by show s.gw≤100; omega,by show s.gh≤100; omega⟩ fun p hp=>?_
  change p∈(zQb s.gw s.gh ⟨s.most,0,0,s.most,s.most⟩).pixels at hp
  rw [Im.pixels_of (zXG _ hf),Im.list,List.mem_map] at hp
  obtain ⟨k,_,rfl⟩:=hp
  have e:(zQb s.gw s.gh ⟨s.most,0,0,s.most,s.most⟩).nth k=⟨s.most,0,0,s.most,s.most⟩:=by simp [Im.nth,Im.px,zQb]
  change ((zQb s.gw s.gh ⟨s.most,0,0,s.most,s.most⟩).nth k).fine s.most
  rw [e]
  exact ⟨by simp [Px.ok]; omega,by simp only; omega,by simp only; omega,by simp only; omega,by simp only; omega⟩
 ·simp only [Scn.pics,List.mem_map] at hmem
  obtain ⟨k,_,rfl⟩:=hmem
  obtain ⟨gf,g1,g2,g3,g4⟩:=zVN (nAt s.pxs (k*5)) (nAt s.pxs (k*5+1)) (nAt s.pxs (k*5+2)) (nAt s.pxs (k*5+3)) (lAt s.pxs (k*5+4)) (cAt s.pxs (k*5+4)) s.c.a s.c.b s.c.c s.c.d s.most hq
  exact key _ gf ⟨g2,g4⟩ fun p hp=>zW7 _ _ _ _ _ _ _ _ _ _ hm.1 hm.2 hq p hp
inductive Fo where
  | nil
  | draw (o:Oq) (r:Fo)
  | grp (o:Oq) (k r:Fo)
def Fo.flat:Fo→List Oq
 | .nil=>[]
 | .draw o r=>o::r.flat
 | .grp o k r=>o::(k.flat++popO::r.flat)
def Fo.ok:Fo→Prop
 | .nil=>True
 | .draw o r=>o.kind=1∧r.ok
 | .grp o k r=>o.kind=2∧k.ok∧r.ok
def Fo.size:Fo→Nat
 | .nil=>0
 | .draw _ r=>r.size+1
 | .grp _ k r=>k.size+r.size+2
theorem Fo.flat_len:∀ f:Fo,f.flat.length=f.size
 | .nil=>rfl
 | .draw o r=>by simp [Fo.flat,Fo.size,r.flat_len]
 | .grp o k r=>by simp [Fo.flat,Fo.size,k.flat_len,r.flat_len]; omega
def unfl:Fo→List Fo→List Oq
 | f,[]=>f.flat
 | f,g::fs=>f.flat++popO::unfl g fs
theorem jXx (o:Oq) (f:Fo) (fs:List Fo):unfl (.draw o f) fs=o::unfl f fs:=by
 cases fs <;> simp [unfl,Fo.flat]
theorem jYP (o:Oq) (f g:Fo) (fs:List Fo):unfl (.grp o f g) fs=o::(f.flat++popO::unfl g fs):=by
 cases fs <;> simp [unfl,Fo.flat]
theorem zYP {bits:Int} {mn:Nat} {o:Oq} {st:List Oq} (h:errO bits mn o st=0):o.kind=1∨o.kind=2∨(o=popO∧st≠[]):=by
 unfold errO at h
 split at h
 ·cases h
 ·rename_i h1
  have h1:=Decidable.not_not.1 h1
  split at h
  ·cases h
  ·rename_i h2
   split at h
   ·rename_i h3
    split at h
    ·cases h
    ·rename_i h4
     refine .inr (.inr ⟨?_,h4⟩)
     have h2:o.fields=true:=by simpa using h2
     unfold Oq.fields at h2
     rw [if_pos h3] at h2
     simpa using h2
   ·rcases h1 with h1 | h1 | h1
    ·exact .inl h1
    ·exact .inr (.inl h1)
    ·exact absurd h1 (by assumption)
theorem jK4 {bits:Int} {mn:Nat}:∀ (l st:List Oq),okO bits mn l st=some []→∃ f fs,fs.length=st.length∧l=unfl f fs∧f.ok∧∀ g∈fs,g.ok
 | [],st,h=>by
  simp only [okO,Option.some.injEq] at h
  subst h
  exact ⟨.nil,[],rfl,rfl,trivial,by simp⟩
 | o::l,st,h=>by
  simp only [okO] at h
  split at h
  ·rename_i he
   obtain ⟨f,fs,h1,h2,h3,h4⟩:=jK4 l _ h
   rcases zYP he with hk | hk | ⟨rfl,hne⟩
   ·have e:zZX o st=st:=by unfold zZX; rw [if_neg (by omega),if_neg (by omega)]
    rw [e] at h1
    exact ⟨.draw o f,fs,h1,by rw [h2,jXx],⟨hk,h3⟩,h4⟩
   ·have e:zZX o st=st++[o]:=by unfold zZX; rw [if_pos hk]
    rw [e] at h1
    cases fs with
    | nil=>simp at h1
    | cons g fs=>
     refine ⟨.grp o f g,fs,by simpa using h1,by rw [h2,jYP]; rfl,⟨hk,h3,h4 g List.mem_cons_self⟩,fun q hq=>h4 q (List.mem_cons_of_mem _ hq)⟩
   ·have e:zZX popO st=st.dropLast:=by unfold zZX; rw [if_neg (by decide),if_pos (by decide)]
    rw [e,List.length_dropLast] at h1
    have:=List.length_pos_iff.2 hne
    refine ⟨.nil,f::fs,by simp; omega,by rw [h2]; rfl,trivial,fun q hq=>?_⟩
    rcases List.mem_cons.1 hq with rfl | hq
    ·exact h3
    ·exact h4 q hq
  ·cases h
theorem jZI {bits:Int} {mn:Nat} {l:List Oq} (h:okO bits mn l []=some []):∃ f:Fo,f.ok∧l=f.flat:=by
 obtain ⟨f,fs,h1,h2,h3,h4⟩:=jK4 l [] h
 cases fs with
 | nil=>exact ⟨f,h3,h2⟩
 | cons g fs=>simp at h1
theorem zUY {bits:Int} {mn:Nat}:∀ (l:List Oq) (i:Int) (st:List Oq),(runO bits mn l i st).1=0→okO bits mn l st=some []
 | [],i,st,h=>by
  simp only [runO] at h
  split at h
  ·rename_i e; subst e; rfl
  ·cases h
 | o::l,i,st,h=>by
  simp only [runO] at h
  simp only [okO]
  split at h
  ·rename_i he
   rw [if_pos he]
   exact zUY l _ _ h
  ·rename_i he; exact absurd h he
theorem zKJ (s:Scr):(⟨s.bits,s.c,s.tw,s.th,ints (is s.ord),zQf (ims s.ims),zQd (ops s.ops)⟩:Scr)=s:=zKn s
def zQ8 (op:Int):Bool:=decide (op=3∨op=4∨op=5∨op=9∨op=10∨op=12)
def farB (v:Int):Bool:=decide (v < -1099511627776∨v > 1099511627776)
def zQ7 (s:Scr) (i x y:Int):Rc:=
 if 0≤i then match s.ims[i.toNat]? with
  | some m=>if farB x || farB y || farB m.w || farB m.h then Rc.zero else Rc.inter ⟨x,y,x+m.w,y+m.h⟩ s.c
  | none=>Rc.zero
 else Rc.zero
def imgR (s:Scr) (o:Oq):Rc:=if o.kind=1 then zQ7 s o.image o.x o.y else Rc.zero
def zY7 (s:Scr) (o:Oq):Rc:=if o.mask=0 then s.c.inter s.c else if o.mask < 0 then Rc.zero else zQ7 s (o.mask - 1) o.mx o.my
def boxF (s:Scr) (o:Oq) (src:Rc):Rc:=if zQ8 o.oper=false then s.c else if o.opac=0 then Rc.zero else src.inter (zY7 s o)
theorem zWH {s:Scr} {i:Int} (x y:Int) (h:i < 0∨(s.ims.length:Int)≤i):zQ7 s i x y=Rc.zero:=by
 unfold zQ7
 split
 ·rw [List.getElem?_eq_none (by omega)]
 ·rfl
theorem zUV {s:Scr} {i:Int} (x y:Int) (h:0≤i) (h2:i.toNat < s.ims.length):zQ7 s i x y=if farB x || farB y || farB s.ims[i.toNat].w || farB s.ims[i.toNat].h then Rc.zero else Rc.inter ⟨x,y,x+s.ims[i.toNat].w,y+s.ims[i.toNat].h⟩ s.c:=by
 unfold zQ7
 rw [if_pos h,List.getElem?_eq_getElem h2]
abbrev Bst:=List Rc × List Int × List Rc
def topB (hs:List Rc) (b:Rc):List Rc:=hs.set (hs.length - 1) (zQQ [(hs[hs.length - 1]?).getD Rc.zero,b])
def zV0 (s:Scr) (i:Nat) (o:Oq) (z:Bst):Bst:=
 if o.kind=1 then (z.1.set i (boxF s o (imgR s o)),z.2.1,z.2.2)
 else
  let p:=(z.2.1[z.2.1.length - 1]?).getD 0
  let b:=boxF s ((s.ops[p.toNat]?).getD popO) ((z.2.2[z.2.2.length - 1]?).getD Rc.zero)
  ((z.1.set i b).set p.toNat b,z.2.1.dropLast,z.2.2.dropLast)
def zVZ (s:Scr) (i:Nat) (o:Oq) (z:Bst):Bst:=
 if o.kind=2 then (z.1,z.2.1++[(i:Int)],z.2.2++[Rc.zero])
 else
  let y:=zV0 s i o z
  (y.1,y.2.1,topB y.2.2 ((y.1[i]?).getD Rc.zero))
def runB (s:Scr):Nat→Bst
 | 0=>(List.replicate s.ops.length Rc.zero,[],[Rc.zero])
 | k+1=>zVZ s k ((s.ops[k]?).getD popO) (runB s k)
def zQc (s:Scr):List Rc × Int:=if s.run.1=0 then ((runB s s.ops.length).1,0) else ([],s.run.1)
theorem zKP {s:Scr} (h:s.run.1=0):s.frame=0∧okO s.bits s.ims.length s.ops []=some []:=by
 unfold Scr.run opsE at h
 split at h
 ·rename_i h1; exact ⟨h1,zUY _ _ _ h⟩
 ·rename_i h1; exact absurd h h1
theorem jYp {s:Scr} (h:s.frame=0):s.ims.length≤64∧s.ops.length≤4096:=by
 unfold Scr.frame zX2 at h
 split at h
 ·cases h
 ·split at h
  ·cases h
  ·split at h
   ·cases h
   ·split at h
    ·cases h
    ·split at h
     ·cases h
     ·omega
theorem jZw {bits:Int} {mn:Nat} {l:List Oq} (h:okO bits mn l []=some []) (k:Nat):∃ st,okO bits mn (l.take k) []=some st∧okO bits mn (l.drop k) st=some []:=by
 have e:=List.take_append_drop k l
 rw [← e,zY5] at h
 cases hk:okO bits mn (l.take k) [] with
 | none=>rw [hk] at h; cases h
 | some st=>rw [hk] at h; exact ⟨st,rfl,h⟩
theorem zGQ {bits:Int} {mn:Nat} {l st:List Oq} {k:Nat} (h1:okO bits mn (l.take k) []=some st) (h2:okO bits mn (l.drop k) st=some []) (hk:k < l.length):errO bits mn l[k] st=0∧okO bits mn (l.take (k+1)) []=some (zZX l[k] st):=by
 rw [List.drop_eq_getElem_cons hk,okO] at h2
 split at h2
 ·rename_i he
  refine ⟨he,?_⟩
  rw [List.take_add_one,List.getElem?_eq_getElem hk,zY5,h1]
  show okO _ _ [l[k]] st=_
  rw [zGP he]
 ·cases h2
theorem zUI {s:Scr} (h:s.run.1=0):∀ k,k≤s.ops.length→∃ st:List Oq,okO s.bits s.ims.length (s.ops.take k) []=some st∧okO s.bits s.ims.length (s.ops.drop k) st=some [] ∧
  (runB s k).1.length=s.ops.length∧(runB s k).2.1.length=st.length∧(runB s k).2.2.length=st.length+1∧st.length≤k∧∀ p∈(runB s k).2.1,0≤p∧p < k
 | 0,_=>⟨[],rfl,by simpa using (zKP h).2,by simp [runB],rfl,rfl,Nat.le_refl _,by simp [runB]⟩
 | k+1,hk=>by
  obtain ⟨st,h1,h2,h3,h4,h5,h6,h7⟩:=zUI h k (by omega)
  have hlt:k < s.ops.length:=by omega
  obtain ⟨he,h8⟩:=zGQ h1 h2 hlt
  obtain ⟨st',h1',h2'⟩:=jZw (zKP h).2 (k+1)
  rw [h8] at h1'
  injection h1' with h1'
  subst h1'
  have hr:runB s (k+1)=zVZ s k s.ops[k] (runB s k):=by
   rw [runB,List.getElem?_eq_getElem hlt]; rfl
  rw [hr]
  refine ⟨_,h8,h2',?_⟩
  rcases zYP he with hk1 | hk1 | ⟨hk1,hne⟩
  ·have e:zZX s.ops[k] st=st:=by unfold zZX; rw [if_neg (by omega),if_neg (by omega)]
   rw [e]
   unfold zVZ zV0
   rw [if_neg (by omega),if_pos hk1]
   refine ⟨by simp [h3],h4,by simp [topB,h5],by omega,fun p hp=>?_⟩
   have:=h7 p hp
   omega
  ·have e:zZX s.ops[k] st=st++[s.ops[k]]:=by unfold zZX; rw [if_pos hk1]
   rw [e]
   unfold zVZ
   rw [if_pos hk1]
   refine ⟨h3,by simp [h4],by simp [h5],by simp; omega,fun p hp=>?_⟩
   rcases List.mem_append.1 hp with hp | hp
   ·have:=h7 p hp; omega
   ·rw [List.mem_singleton] at hp; omega
  ·have hk2:s.ops[k].kind=3:=by rw [hk1]; rfl
   have e:zZX s.ops[k] st=st.dropLast:=by unfold zZX; rw [if_neg (by omega),if_pos hk2]
   have:=List.length_pos_iff.2 hne
   rw [e]
   unfold zVZ zV0
   rw [if_neg (by omega),if_neg (by omega)]
   refine ⟨by simp [h3],by simp [h4],by simp [topB,h5]; omega,by simp; omega,fun p hp=>?_⟩
   have:=h7 p (List.dropLast_subset _ hp)
   omega
structure Ac where
  a:Int
  b:Int
  c:Int
  al:Int
  own:Int
  f:Int
deriving DecidableEq
def Ac.zero:Ac:=⟨0,0,0,0,0,0⟩
def Px.nn (p:Px):Prop:=0≤p.a∧0≤p.b∧0≤p.c
def Ac.nn (p:Ac):Prop:=0≤p.a∧0≤p.b∧0≤p.c∧0≤p.own
def zZj (m:Int):Bool:=decide (m=255∨m=65535)
def Ac.ok (x:Ac) (k:Px) (m:Int):Bool:=decide (x.a≤x.al∧x.b≤x.al∧x.c≤x.al) && (zZj m && (decide (x.own≤x.al∧x.own≤x.f∧x.al≤m∧x.f≤m) && (k.ok m && decide (k.f=k.al))))
def isNm (n:Int):Bool:=decide (1≤n∧n < 13)
def zXg (kno:Bool) (op mode m:Int) (p:Px) (x:Ac) (k:Px):Bool:=isNm op && (isNm mode && (x.ok k m && (p.ok m && !(kno && decide (op≠4)))))
def accS (kno:Bool) (op mode m:Int) (p:Px) (x:Ac) (k:Px):Ac:=
 if kno then ⟨knoC mode m p.a p.al p.f x.a k.a k.al,knoC mode m p.b p.al p.f x.b k.b k.al,knoC mode m p.c p.al p.f x.c k.c k.al,knoA m p.al p.f x.al k.al,knoA m p.al p.f x.own 0,zXP op p.f x.f m⟩
 else ⟨colS op mode m p.a p.al x.a x.al,colS op mode m p.b p.al x.b x.al,colS op mode m p.c p.al x.c x.al,zZU op p.al x.al m,zZU op p.al x.own m,zXP op p.f x.f m⟩
def remS (m c own b:Int):Int:=if m*c > (m - own)*b then min (zQO (m*c - (m - own)*b) m) own else 0
def zZG (x:Ac) (k:Px) (m:Int):Px:=⟨remS m x.a x.own k.a,remS m x.b x.own k.b,remS m x.c x.own k.c,x.own,x.f⟩
def zXZ (p:Px) (k m:Int):Px:=⟨zQO (p.a*k) m,zQO (p.b*k) m,zQO (p.c*k) m,zQO (p.al*k) m,zQO (p.f*k) m⟩
def zQo (iso kno:Bool) (x:Ac) (k:Px):Ac × Px:=
 let b:Px:=if iso then .zero else if kno then k else ⟨x.a,x.b,x.c,x.al,x.al⟩
 (⟨b.a,b.b,b.c,b.al,0,0⟩,b)
theorem zZd {m:Int} (h:zZj m=true):0 < m∧m≤65535:=by
 have:=of_decide_eq_true h
 omega
theorem Px.ok_iff {p:Px} {m:Int}:p.ok m=true↔p.a≤p.al∧p.b≤p.al∧p.c≤p.al∧p.al≤p.f∧p.f≤m:=by
 simp [Px.ok]
theorem Ac.ok_iff {x:Ac} {k:Px} {m:Int}:x.ok k m=true↔(x.a≤x.al∧x.b≤x.al∧x.c≤x.al)∧zZj m=true∧(x.own≤x.al∧x.own≤x.f∧x.al≤m∧x.f≤m)∧k.ok m=true∧k.f=k.al:=by
 simp [Ac.ok]
theorem zGg {mode d b:Int} (h2:0≤d) (h3:d≤b):(zQp mode 0 0 d b).p=0∧(zQp mode 0 0 d b).q=0:=by
 have hh:zJB d b 0 0=0:=by unfold zJB; split <;> simp
 have hh2:zJB 0 0 d b=0:=by unfold zJB; simp
 have hs:(zYX 0 0 d b).p=0∧(zYX 0 0 d b).q=0:=by
  unfold zYX
  split
  ·exact ⟨rfl,rfl⟩
  ·simp
 unfold zQp
 rw [hh,hh2]
 by_cases c10:mode=10
 ·subst c10; simpa using hs
 have key:∀ (c:Prop) [Decidable c] (x y:Ex),(x.p=0∧x.q=0)→(¬ c→y.p=0∧y.q=0)→(if c then x else y).p=0∧(if c then x else y).q=0:=fun c _ x y hx hy=>by
  split
  ·exact hx
  ·exact hy (by assumption)
 repeat' (first | (refine key _ _ _ ?_ fun hc=>?_) | (simp [zZa]; done))
theorem zKY {op:Int} (h:zQ8 op=true):op=3∨op=4∨op=5∨op=9∨op=10∨op=12:=of_decide_eq_true h
theorem zVP {op b m:Int} (h:zQ8 op=true):facB op 0 b m=m:=by
 rcases zKY h with rfl | rfl | rfl | rfl | rfl | rfl <;> simp [facB]
theorem zG6 {op mode m d b:Int} (hm:0 < m) (h:zQ8 op=true) (h2:0≤d) (h3:d≤b):colS op mode m 0 0 d b=d:=by
 have ⟨e1,e2⟩:=zGg (mode:=mode) h2 h3
 have hd:=(zZt (mode:=mode) (s:=0) (a:=0) (Int.le_refl 0) (Int.le_refl 0) h2 h3).ok.d
 unfold colS
 refine Ex.half_whole ?_ ?_ ?_
 ·exact Int.mul_pos (Int.mul_pos hm hm) hd
 ·simp only [valS,e2,Int.mul_zero]
 ·simp only [valS,e1,zVP h]
  grind
theorem zGi {op b m:Int} (hm:0 < m) (h:zQ8 op=true):zZU op 0 b m=b:=by
 unfold zZU
 rw [zVP h,Int.mul_zero,Int.zero_add,zJC hm]
theorem shape_zero {op g m:Int} (hm:0 < m) (h:zQ8 op=true):zXP op 0 g m=g:=by
 have e:m*0+(m - 0)*g=m*g:=by grind
 unfold zXP
 rcases zKY h with rfl | rfl | rfl | rfl | rfl | rfl <;> simp [zJC hm]
theorem zWW {mode m c d b:Int} (hm:0 < m) (h2:0≤d) (h3:d≤b):knoC mode m 0 0 0 c d b=c:=by
 have ⟨e1,e2⟩:=zGg (mode:=mode) h2 h3
 have hd:=(zZt (mode:=mode) (s:=0) (a:=0) (Int.le_refl 0) (Int.le_refl 0) h2 h3).ok.d
 unfold knoC
 refine Ex.half_whole ?_ ?_ ?_
 ·exact Int.mul_pos hm hd
 ·exact e2
 ·simp only [knoX,e1]
  grind
theorem zHQ {m acc b:Int} (hm:0 < m):knoA m 0 0 acc b=acc:=by
 unfold knoA
 have e:(m - 0)*acc+(0 - 0)*b+m*0=m*acc:=by grind
 rw [e,zJC hm]
theorem jYM {kno:Bool} {op mode m:Int} {x:Ac} {k:Px} (h:zQ8 op=true) (hx:x.nn) (hk:k.nn) (ho:zXg kno op mode m .zero x k=true):accS kno op mode m .zero x k=x:=by
 simp only [zXg,Bool.and_eq_true] at ho
 obtain ⟨_,_,h1,_,_⟩:=ho
 obtain ⟨⟨q1,q2,q3⟩,hf,⟨q4,q5,q6,q7⟩,hk2,hk3⟩:=Ac.ok_iff.1 h1
 obtain ⟨r1,r2,r3,r4,r5⟩:=Px.ok_iff.1 hk2
 have hm:=(zZd hf).1
 obtain ⟨n1,n2,n3,n4⟩:=hx
 obtain ⟨k1,k2,k3⟩:=hk
 obtain ⟨a,b,c,al,own,f⟩:=x
 simp only at *
 unfold accS
 split
 ·simp only [Px.zero]
  rw [zWW hm k1 r1,zWW hm k2 r2,zWW hm k3 r3,zHQ hm,zHQ hm,shape_zero hm h]
 ·simp only [Px.zero]
  rw [zG6 hm h n1 q1,zG6 hm h n2 q2,zG6 hm h n3 q3,zGi hm h,zGi hm h,shape_zero hm h]
structure LvOk (m:Int) (iso kno:Bool) (x:Ac) (k:Px):Prop where
  ok:x.ok k m=true
  nn:x.nn
  kn:k.nn
  own:iso=true→kno=false→x.own=x.al
theorem jJU {m:Int} {iso kno:Bool} {x:Ac} {k p:Px} {op mode:Int} (h:LvOk m iso kno x k) (hp:p.ok m=true) (hn:p.nn) (h1:isNm op=true) (h2:isNm mode=true) (hop:op=4∨(iso=true∧kno=false)) :
  zXg kno op mode m p x k=true∧LvOk m iso kno (accS kno op mode m p x k) k:=by
 obtain ⟨ok,⟨n1,n2,n3,n4⟩,kn,own⟩:=h
 obtain ⟨⟨q1,q2,q3⟩,hf,⟨q4,q5,q6,q7⟩,hk2,hk3⟩:=Ac.ok_iff.1 ok
 obtain ⟨r1,r2,r3,r4,r5⟩:=Px.ok_iff.1 hk2
 obtain ⟨p1,p2,p3,p4,p5⟩:=Px.ok_iff.1 hp
 obtain ⟨pn1,pn2,pn3⟩:=hn
 have kn':=kn
 obtain ⟨k1,k2,k3⟩:=kn'
 have hm:=(zZd hf).1
 refine ⟨?_,?_⟩
 ·have:(!(kno && decide (op≠4)))=true:=by
   rcases hop with rfl | ⟨_,rfl⟩ <;> simp
  unfold zXg
  rw [h1,h2,ok,hp,this]; rfl
 obtain ⟨xa,xb,xc,al,oo,f⟩:=x
 obtain ⟨pa,pb,pc,pl,pf⟩:=p
 simp only at *
 cases kno with
 | true=>
  have hop:op=4:=hop.elim id fun h=>absurd h.2 (by decide)
  subst hop
  have c1:=zWX (mode:=mode) hm pn1 p1 p4 p5 k1 r1 (show k.al≤m by omega) n1 q1
  have c2:=zWX (mode:=mode) hm pn2 p2 p4 p5 k2 r2 (show k.al≤m by omega) n2 q2
  have c3:=zWX (mode:=mode) hm pn3 p3 p4 p5 k3 r3 (show k.al≤m by omega) n3 q3
  have a1:=zGV (acc:=al) (b:=k.al) hm (show 0≤pl by omega) p4 p5 (by omega) q6 (by omega) (by omega)
  have a2:=zGV (acc:=oo) (b:=0) hm (show 0≤pl by omega) p4 p5 n4 (by omega) (by omega) (by omega)
  have sh:=zXi (op:=4) (a:=pl) (f:=pf) (b:=oo) (g:=f) hm (by omega) p4 p5 n4 q5 q7
  have o1:knoA m pl pf oo 0≤knoA m pl pf al k.al:=by
   unfold knoA
   apply zZz hm
   have:=zQj (x:=m - pf) (y:=oo) (A:=m - pf) (B:=al) (by omega) (Int.le_refl _) n4 q4
   have:=Int.mul_nonneg (show 0≤pf - pl by omega) (show 0≤k.al by omega)
   omega
  have o2:knoA m pl pf oo 0≤zZU 4 pl oo m:=by
   unfold knoA zZU
   apply zZz hm
   simp [facA,facB]
   have:=Int.mul_le_mul_of_nonneg_right (show m - pf≤m - pl by omega) n4
   omega
  simp only [accS,if_true]
  exact ⟨Ac.ok_iff.2 ⟨⟨by simp only; omega,by simp only; omega,by simp only; omega⟩,hf,⟨by simp only; omega,by simp only; omega,by simp only; omega,by simp only; omega⟩,hk2,hk3⟩,⟨by simp only; omega,by simp only; omega,by simp only; omega,by simp only; omega⟩,kn,fun _ h=>by cases h⟩
 | false=>
  have c1:=zG7 (op:=op) (mode:=mode) hm pn1 p1 (show pl≤m by omega) n1 q1 q6
  have c2:=zG7 (op:=op) (mode:=mode) hm pn2 p2 (show pl≤m by omega) n2 q2 q6
  have c3:=zG7 (op:=op) (mode:=mode) hm pn3 p3 (show pl≤m by omega) n3 q3 q6
  have top:=zXi (op:=op) (a:=pl) (f:=pf) (b:=al) (g:=m) hm (by omega) p4 p5 (by omega) q6 (Int.le_refl _)
  have sh:=zXi (op:=op) (a:=pl) (f:=pf) (b:=oo) (g:=f) hm (by omega) p4 p5 n4 q5 q7
  have z:=zUl (op:=op) (a:=pl) (b:=oo) hm (by omega) (by omega) n4 (by omega)
  have o1:zZU op pl oo m≤zZU op pl al m:=by
   rcases hop with rfl | ⟨hi,_⟩
   ·unfold zZU
    apply zZz hm
    simp [facA,facB]
    exact Int.mul_le_mul_of_nonneg_left q4 (by omega)
   ·rw [own hi rfl]; exact Int.le_refl _
  simp only [accS]
  exact ⟨Ac.ok_iff.2 ⟨⟨by simp; omega,by simp; omega,by simp; omega⟩,hf,⟨by simp; omega,by simp; omega,by simp; omega,by simp; omega⟩,hk2,hk3⟩,⟨by simp; omega,by simp; omega,by simp; omega,by simp; omega⟩,kn,fun hi hk=>by simp [own hi hk]⟩
theorem zGz {m c own b:Int} (hm:0 < m) (h:0≤own):0≤remS m c own b∧remS m c own b≤own:=by
 unfold remS
 split
 ·have:=zYs (n:=m*c - (m - own)*b) hm (by omega)
  omega
 ·omega
theorem zWw {m:Int} {iso kno:Bool} {x:Ac} {k:Px} (h:LvOk m iso kno x k):(zZG x k m).ok m=true∧(zZG x k m).nn:=by
 obtain ⟨ok,⟨n1,n2,n3,n4⟩,kn,own⟩:=h
 obtain ⟨⟨q1,q2,q3⟩,hf,⟨q4,q5,q6,q7⟩,hk2,hk3⟩:=Ac.ok_iff.1 ok
 have hm:=(zZd hf).1
 have a:=zGz (c:=x.a) (b:=k.a) hm n4
 have b:=zGz (c:=x.b) (b:=k.b) hm n4
 have c:=zGz (c:=x.c) (b:=k.c) hm n4
 exact ⟨Px.ok_iff.2 ⟨a.2,b.2,c.2,q5,q7⟩,a.1,b.1,c.1⟩
theorem zGn {m k:Int} {p:Px} (hm:0 < m) (h:p.ok m=true) (hn:p.nn) (h0:0≤k) (h1:k≤m):(zXZ p k m).ok m=true∧(zXZ p k m).nn:=by
 obtain ⟨p1,p2,p3,p4,p5⟩:=Px.ok_iff.1 h
 obtain ⟨n1,n2,n3⟩:=hn
 have mo:∀ {u v:Int},u≤v→zQO (u*k) m≤zQO (v*k) m:=fun h=>zZz hm (Int.mul_le_mul_of_nonneg_right h h0)
 have nn:∀ {u:Int},0≤u→0≤zQO (u*k) m:=fun h=>zYs hm (Int.mul_nonneg h h0)
 have le:zQO (p.f*k) m≤m:=by
  refine Int.le_trans (zZR hm (k:=k) ?_) h1
  exact Int.mul_le_mul_of_nonneg_right p5 h0
 exact ⟨Px.ok_iff.2 ⟨mo p1,mo p2,mo p3,mo p4,le⟩,nn n1,nn n2,nn n3⟩
theorem zHX {m:Int} (hm:0 < m):zQO 0 m=0:=by
 have:=zJC (c:=0) hm
 rwa [Int.mul_zero] at this
theorem zUE {m k:Int} (hm:0 < m):zXZ .zero k m=.zero:=by
 simp [zXZ,Px.zero,zHX hm]
theorem zKL {m:Int} {p:Px} (hm:0 < m):zXZ p 0 m=.zero:=by
 simp [zXZ,Px.zero,zHX hm]
theorem zKl {m:Int} (hm:0≤m):Px.ok .zero m=true∧Px.zero.nn:=⟨Px.ok_iff.2 ⟨by decide,by decide,by decide,by decide,hm⟩,by decide,by decide,by decide⟩
theorem jJu {m:Int} {iso kno iso' kno':Bool} {x:Ac} {k:Px} (h:LvOk m iso kno x k):LvOk m iso' kno' (zQo iso' kno x k).1 (zQo iso' kno x k).2:=by
 obtain ⟨ok,⟨n1,n2,n3,n4⟩,kn,own⟩:=h
 obtain ⟨⟨q1,q2,q3⟩,hf,⟨q4,q5,q6,q7⟩,hk2,hk3⟩:=Ac.ok_iff.1 ok
 obtain ⟨r1,r2,r3,r4,r5⟩:=Px.ok_iff.1 hk2
 obtain ⟨k1,k2,k3⟩:=kn
 have hm:=(zZd hf).1
 unfold zQo
 cases iso' with
 | true=>
  simp only [if_true]
  exact ⟨Ac.ok_iff.2 ⟨⟨by decide,by decide,by decide⟩,hf,⟨by decide,by decide,by simp [Px.zero]; omega,by simp only; omega⟩,(zKl (by omega)).1,rfl⟩,⟨by decide,by decide,by decide,by decide⟩,(zKl (m:=m) (by omega)).2,fun _ _=>rfl⟩
 | false=>
  cases kno with
  | true=>
   simp only [if_true]
   exact ⟨Ac.ok_iff.2 ⟨⟨by simp; omega,by simp; omega,by simp; omega⟩,hf,⟨by simp; omega,by simp,by simp; omega,by simp; omega⟩,by simpa using hk2,by simpa using hk3⟩,⟨by simpa using k1,by simpa using k2,by simpa using k3,Int.le_refl 0⟩,by simpa using ⟨k1,k2,k3⟩,fun h=>by cases h⟩
  | false=>
   simp only
   exact ⟨Ac.ok_iff.2 ⟨⟨by simp; omega,by simp; omega,by simp; omega⟩,hf,⟨by simp; omega,by simp,by simp; omega,by simp; omega⟩,Px.ok_iff.2 ⟨by simp; omega,by simp; omega,by simp; omega,by simp,by simp; omega⟩,by simp⟩,⟨by simpa using n1,by simpa using n2,by simpa using n3,Int.le_refl 0⟩,by simpa using ⟨n1,n2,n3⟩,fun h=>by cases h⟩
theorem zHx {m:Int} {iso kno:Bool} {x:Ac} {k:Px}:zZG (zQo iso kno x k).1 (zQo iso kno x k).2 m=.zero:=by
 have e:∀ c,remS m c 0 c=0:=fun c=>by unfold remS; rw [if_neg (by simp)]
 unfold zQo zZG
 simp only [e]
 rfl
def hiW (n:Int):Int:=n / 18446744073709551616
def loW (n:Int):Int:=n % 18446744073709551616
def wV (h l:Int):Int:=h*18446744073709551616+l
theorem zYv (n:Int):wV (hiW n) (loW n)=n:=by unfold wV hiW loW; omega
theorem jJQ (n:Int):wV 0 n=n:=by unfold wV; omega
theorem jVc {h l:Int} (h0:0≤l) (h1:l < 18446744073709551616):hiW (wV h l)=h:=by unfold wV hiW; omega
theorem jVb {h l:Int} (h0:0≤l) (h1:l < 18446744073709551616):loW (wV h l)=l:=by unfold wV loW; omega
theorem jZF {n:Int} (h0:0≤n) (h1:n < 18446744073709551616):hiW n=0:=by unfold hiW; omega
theorem jZA {n:Int} (h0:0≤n) (h1:n < 18446744073709551616):loW n=n:=by unfold loW; omega
def cmpI (a b:Int):Int:=if a=b then 0 else if a < b then -1 else 1
def addW (a b:Int):Int:=if a+b < 340282366920938463463374607431768211456 then a+b else 0
def addK (a b:Int):Bool:=decide (a+b < 340282366920938463463374607431768211456)
def subW (a b:Int):Int:=if a < b then 0 else a - b
def subK (a b:Int):Bool:=decide (b≤a)
def zUs (q r n:Int):Int:=if 18446744073709551616≤n then -1 else cmpI (q*q*r) (n*n)
def tmS (p q r d t n:Int):Int:=if n*d < t*p then 1 else zUs (t*q) r (n*d - t*p)
theorem jKx {a b:Int}:0≤cmpI a b↔b≤a:=by unfold cmpI; grind
theorem jJB {p q r d t n:Int} (hp:0≤p) (hq:0≤q) (hr:0≤r) (hd:0≤d) (ht:0≤t) (hn:0≤n) (hs:(t*q)*(t*q)*r < 340282366920938463463374607431768211456) :
  0≤tmS p q r d t n↔n*d≤(⟨p,q,r,d⟩:Ex).up t:=by
 have hN:0≤(t*q)*(t*q)*r:=Int.mul_nonneg (zQ3 _) hr
 unfold tmS Ex.up
 split
 ·rename_i h
  have:=(zJM hN).1
  simp only
  omega
 ·rename_i h
  have hk:0≤n*d - t*p:=by omega
  have:=jQU hN hk
  simp only
  have e:n*d≤t*p+zYY (t*q*(t*q)*r)↔n*d - t*p≤zYY (t*q*(t*q)*r):=by omega
  rw [e,this]
  unfold zUs
  split
  ·rename_i h2
   have:(18446744073709551616:Int)*18446744073709551616≤(n*d - t*p)*(n*d - t*p):=Int.mul_le_mul h2 h2 (by decide) hk
   omega
  ·exact jKx
theorem jKB {n:Int} (h0:0≤n) (h1:n < 18446744073709551616):((BitVec.ofInt 64 n &&& BitVec.ofInt 64 1).toNat:Int)=n % 2:=by
 obtain ⟨k,rfl⟩:=Int.eq_ofNat_of_zero_le h0
 have hk:k < 18446744073709551616:=by omega
 have e1:BitVec.ofInt 64 (k:Int)=BitVec.ofNat 64 k:=by simp
 have e2:BitVec.ofInt 64 1=BitVec.ofNat 64 1:=by decide
 rw [e1,e2,BitVec.toNat_and,BitVec.toNat_ofNat,BitVec.toNat_ofNat,Nat.mod_eq_of_lt hk]
 have:k &&& 1=k % 2:=Nat.and_one_is_mod k
 rw [show 1 % 2 ^ 64=1 from rfl,this]
 omega
theorem zHc {n:Int} (h0:0≤n) (h1:n < 18446744073709551616):((BitVec.ofInt 64 n &&& BitVec.ofInt 64 4294967295).toNat:Int)=n % 4294967296:=by
 obtain ⟨k,rfl⟩:=Int.eq_ofNat_of_zero_le h0
 have hk:k < 18446744073709551616:=by omega
 have e1:BitVec.ofInt 64 (k:Int)=BitVec.ofNat 64 k:=by simp
 have e2:BitVec.ofInt 64 4294967295=BitVec.ofNat 64 4294967295:=by decide
 rw [e1,e2,BitVec.toNat_and,BitVec.toNat_ofNat,BitVec.toNat_ofNat,Nat.mod_eq_of_lt hk]
 have:k &&& 4294967295=k % 4294967296:=Nat.and_two_pow_sub_one_eq_mod k 32
 rw [show 4294967295 % 2 ^ 64=4294967295 from rfl,this]
 omega
theorem jKK {m i:Nat} (hi:i < 63) (h:(m+1)*2 ^ (i+1)≤2 ^ 64):(BitVec.ofInt 64 ((m*2 ^ (i+1):Nat):Int) ||| BitVec.ofInt 64 ((2 ^ i:Nat):Int)).toNat=m*2 ^ (i+1)+2 ^ i:=by
 have p0:2 ^ i < 2 ^ 64:=Nat.pow_lt_pow_right (by decide) (by omega)
 have p1:m*2 ^ (i+1) < 2 ^ 64:=by
  have:=Nat.two_pow_pos (i+1)
  rw [Nat.add_mul] at h
  omega
 have e1:∀ k:Nat,BitVec.ofInt 64 (k:Int)=BitVec.ofNat 64 k:=fun k=>by simp
 rw [e1,e1,BitVec.toNat_or,BitVec.toNat_ofNat,BitVec.toNat_ofNat,Nat.mod_eq_of_lt p0,Nat.mod_eq_of_lt p1]
 have:=Nat.two_pow_add_eq_or_of_lt (i:=i+1) (b:=2 ^ i) (Nat.pow_lt_pow_right (by decide) (by omega)) m
 rw [Nat.mul_comm]
 exact this.symm
theorem jYF {f k:Nat} (hf:f < 2 ^ 63) (hk:k < 63) :
  (BitVec.ofInt 64 ((f / 2 ^ (k+1)*2 ^ (k+1):Nat):Int) ||| BitVec.ofInt 64 ((2 ^ k:Nat):Int)).toNat=f / 2 ^ (k+1)*2 ^ (k+1)+2 ^ k∧f / 2 ^ (k+1)*2 ^ (k+1)+2 ^ k < 2 ^ 64 ∧
  (f / 2 ^ (k+1)*2 ^ (k+1)+2 ^ k≤f→f / 2 ^ k*2 ^ k=f / 2 ^ (k+1)*2 ^ (k+1)+2 ^ k)∧(f < f / 2 ^ (k+1)*2 ^ (k+1)+2 ^ k→f / 2 ^ k*2 ^ k=f / 2 ^ (k+1)*2 ^ (k+1)):=by
 have p:=Nat.two_pow_pos k
 have e2:2 ^ (k+1)=2 ^ k*2:=Nat.pow_succ 2 k
 have pk:2 ^ k≤2 ^ 62:=Nat.pow_le_pow_right (by decide) (by omega)
 have hN:f / 2 ^ (k+1)*2 ^ (k+1)≤f:=Nat.div_mul_le_self _ _
 have h64:(f / 2 ^ (k+1)+1)*2 ^ (k+1)≤2 ^ 64:=by
  rw [Nat.add_mul,Nat.one_mul]
  omega
 refine ⟨jKK hk h64,by omega,?_⟩
 rw [e2,← Nat.div_div_eq_div_mul]
 have h1:=Nat.div_add_mod f (2 ^ k)
 have h2:=Nat.mod_lt f p
 have h3:=Nat.div_add_mod (f / 2 ^ k) 2
 have h4:=Nat.mod_lt (f / 2 ^ k) (show 0 < 2 by decide)
 generalize f / 2 ^ k=g at *
 generalize f % 2 ^ k=r at *
 generalize 2 ^ k=P at *
 have e5:g / 2*(P*2)=P*(g / 2)*2:=by grind
 rcases Nat.mod_two_eq_zero_or_one g with h | h
 ·have hg:g=2*(g / 2):=by omega
  have e6:g*P=P*(g / 2)*2:=by rw [hg]; grind
  have e7:P*g=g*P:=Nat.mul_comm _ _
  rw [e5,e6]
  constructor <;> intro q <;> omega
 ·have hg:g=2*(g / 2)+1:=by omega
  have e6:g*P=P*(g / 2)*2+P:=by
   generalize g / 2=c at *
   subst hg; grind
  have e7:P*g=g*P:=Nat.mul_comm _ _
  rw [e5,e6]
  constructor <;> intro q <;> omega
def runE:List Oq→Nat→List Int→List Int→List Int × Int
 | [],_,out,op=>if op=[] then (out,0) else ([],18)
 | o::l,i,out,op=>
  if o.kind=1 then runE l (i+1) (out.set i i) op
  else if o.kind=2 then runE l (i+1) (out.set i i) (op++[(i:Int)])
  else if o.kind=3 then (if op=[] then ([],18) else runE l (i+1) ((out.set i i).set ((op[op.length - 1]?).getD 0).toNat i) op.dropLast)
  else ([],9)
def jXl (l:List Oq):List Int × Int:=runE l 0 (List.replicate l.length 0) []
def endN:Nat→Fo→Nat→Nat
 | _,.nil,p=>p
 | n,.draw _ r,p=>if p=n then n else endN (n+1) r p
 | n,.grp _ k r,p=>if p=n∨p=n+k.size+1 then n+k.size+1 else if p≤n+k.size then endN (n+1) k p else endN (n+k.size+2) r p
def endF (n:Nat) (f:Fo):List Int:=(List.range f.size).map fun j=>((endN n f (n+j):Nat):Int)
theorem zJa (n:Nat) (f:Fo):(endF n f).length=f.size:=by simp [endF]
theorem jYx (n:Nat) (o:Oq) (r:Fo):endF n (.draw o r)=(n:Int)::endF (n+1) r:=by
 unfold endF
 rw [Fo.size,List.range_succ_eq_map,List.map_cons,List.map_map]
 refine congr (congrArg List.cons (by simp [endN])) (List.map_congr_left fun j _=>?_)
 show ((endN n (.draw o r) (n+(j+1)):Nat):Int)=_
 rw [endN,if_neg (by omega),show n+(j+1)=n+1+j by omega]
theorem jJp (n:Nat) (o:Oq) (k r:Fo):endF n (.grp o k r)=((n+k.size+1:Nat):Int)::(endF (n+1) k++((n+k.size+1:Nat):Int)::endF (n+k.size+2) r):=by
 refine List.ext_getElem (by simp [zJa,Fo.size]; omega) fun j h1 h2=>?_
 have hj:j < k.size+r.size+2:=by simpa [endF,Fo.size] using h1
 have e:(endF n (.grp o k r))[j]=((endN n (.grp o k r) (n+j):Nat):Int):=by simp [endF]
 rw [e,endN]
 cases j with
 | zero=>simp
 | succ j=>
  rw [List.getElem_cons_succ]
  by_cases c1:j < k.size
  ·rw [List.getElem_append_left (by rw [zJa]; exact c1),if_neg (by omega),if_pos (by omega)]
   simp only [endF,List.getElem_map,List.getElem_range]
   rw [show n+(j+1)=n+1+j by omega]
  ·rw [List.getElem_append_right (by rw [zJa]; omega)]
   by_cases c2:j=k.size
   ·subst c2
    rw [if_pos (by omega)]
    simp [zJa]
   ·rw [if_neg (by omega),if_neg (by omega)]
    obtain ⟨m,rfl⟩:∃ m,j=k.size+1+m:=⟨j - k.size - 1,by omega⟩
    simp only [zJa,show k.size+1+m - k.size=m+1 by omega,List.getElem_cons_succ]
    simp only [endF,List.getElem_map,List.getElem_range]
    rw [show n+(k.size+1+m+1)=n+k.size+2+m by omega]
theorem jJY {α:Type} (A:List α) (x:α) (B:List α) (v:α):(A++x::B).set A.length v=A++v::B:=by
 rw [List.set_append_right _ _ (Nat.le_refl _),Nat.sub_self]; rfl
theorem set_mid' {α:Type} {A:List α} {x:α} {B:List α} (v:α) {n:Nat} (h:n=A.length):(A++x::B).set n v=A++v::B:=by
 subst h; exact jJY A x B v
theorem zYN {α:Type} {X:List α} {n:Nat} (h:X.length=n+1):∃ x Y,X=x::Y∧Y.length=n:=by
 cases X with
 | nil=>simp at h
 | cons x Y=>exact ⟨x,Y,rfl,by simpa using h⟩
theorem jYb {α:Type} {X:List α} {a b:Nat} (h:X.length=a+b):∃ U V,X=U++V∧U.length=a∧V.length=b:=
 ⟨X.take a,X.drop a,(List.take_append_drop a X).symm,by rw [List.length_take]; omega,by rw [List.length_drop]; omega⟩
theorem zWF:popO.kind=3:=rfl
theorem zGr:∀ (f:Fo) (A X B op:List Int) (tail:List Oq) (n:Nat),f.ok→n=A.length→X.length=f.size →
  runE (f.flat++tail) n (A++(X++B)) op=runE tail (n+f.size) (A++(endF n f++B)) op
 | .nil,A,X,B,op,tail,n,_,_,hX=>by
  have:X=[]:=List.length_eq_zero_iff.1 hX
  subst this
  rfl
 | .draw o r,A,X,B,op,tail,n,ho,hn,hX=>by
  obtain ⟨x,X,rfl,hX1⟩:=zYN (n:=r.size) hX
  rw [jYx,Fo.flat,List.cons_append,runE,if_pos ho.1,List.cons_append,set_mid' _ hn]
  have ih:=zGr r (A++[(n:Int)]) X B op tail (n+1) ho.2 (by simp [hn]) hX1
  simp only [List.append_assoc,List.cons_append,List.nil_append] at ih
  rw [ih,Fo.size,List.cons_append]
  congr 1; omega
 | .grp o k r,A,X,B,op,tail,n,ho,hn,hX=>by
  obtain ⟨x,X,rfl,hX1⟩:=zYN (n:=k.size+r.size+1) hX
  obtain ⟨U,V,rfl,hU,hV⟩:=jYb (a:=k.size) (b:=r.size+1) (by omega:X.length=_)
  obtain ⟨y,V,rfl,hV1⟩:=zYN (n:=r.size) hV
  rw [jJp,Fo.flat,List.cons_append,runE,if_neg (by rw [ho.1]; decide),if_pos ho.1,List.cons_append,set_mid' _ hn]
  have ik:=zGr k (A++[(n:Int)]) U (y::V++B) (op++[(n:Int)]) (popO::(r.flat++tail)) (n+1) ho.2.1 (by simp [hn]) hU
  simp only [List.append_assoc,List.cons_append,List.nil_append] at ik ⊢
  rw [ik,runE,if_neg (by decide),if_neg (by decide),if_pos zWF,if_neg (by simp)]
  have e1:(A++(n:Int)::(endF (n+1) k++y::(V++B))).set (n+1+k.size) ((n+1+k.size:Nat):Int)=A++(n:Int)::(endF (n+1) k++((n+1+k.size:Nat):Int)::(V++B)):=by
   have:=set_mid' (A:=A++(n:Int)::endF (n+1) k) (x:=y) (B:=V++B) ((n+1+k.size:Nat):Int) (n:=n+1+k.size) (by simp [zJa]; omega)
   simpa only [List.append_assoc,List.cons_append] using this
  rw [e1]
  have e2:(((op++[(n:Int)])[(op++[(n:Int)]).length - 1]?).getD 0).toNat=n:=by simp
  rw [e2,set_mid' _ hn,List.dropLast_concat]
  have ir:=zGr r (A++((n+1+k.size:Nat):Int)::(endF (n+1) k++[((n+1+k.size:Nat):Int)])) V B op tail (n+1+k.size+1) ho.2.2 (by simp [zJa]; omega) hV1
  simp only [List.append_assoc,List.cons_append,List.nil_append] at ir
  rw [ir,Fo.size]
  have a1:n+1+k.size+1+r.size=n+(k.size+r.size+2):=by omega
  have a2:n+1+k.size+1=n+k.size+2:=by omega
  have a3:n+1+k.size=n+k.size+1:=by omega
  rw [a1,a2,a3]
theorem jJo {f:Fo} (h:f.ok):jXl f.flat=(endF 0 f,0):=by
 have:=zGr f [] (List.replicate f.size 0) [] [] [] 0 h rfl (by simp)
 simp only [List.append_nil,List.nil_append] at this
 unfold jXl
 rw [Fo.flat_len,this,runE,if_pos rfl]
theorem zUw {a:Rc} (h:a=Rc.zero∨a.empty=false):Rc.hull Rc.zero a=a:=by
 unfold Rc.hull
 rcases h with rfl | h
 ·rw [if_pos (by decide)]
 ·rw [h,if_neg (by decide),if_pos (by decide)]
theorem zHU {a b:Rc} (h:a=Rc.zero∨a.empty=false):Rc.hull a b=Rc.zero∨(Rc.hull a b).empty=false:=by
 unfold Rc.hull
 split
 ·exact h
 ·rename_i hb
  have hb:b.empty=false:=by simpa using hb
  split
  ·exact .inr hb
  ·rename_i ha
   have ha:a.empty=false:=by simpa using ha
   refine .inr ?_
   rw [Rc.empty_iff] at *
   simp only
   omega
theorem zHV {a b:Rc} (h:a=Rc.zero∨a.empty=false):zQQ [a,b]=Rc.hull a b:=by
 show Rc.hull (Rc.hull Rc.zero a) b=_
 rw [zUw h]
def zQR (s:Scr):Fo→List Rc
 | .nil=>[]
 | .draw o r=>boxF s o (imgR s o)::zQR s r
 | .grp o k r=>boxF s o (zQQ (zQR s k))::zQR s r
def boxN (s:Scr):Nat→Fo→Nat→Rc
 | _,.nil,_=>Rc.zero
 | n,.draw o r,p=>if p=n then boxF s o (imgR s o) else boxN s (n+1) r p
 | n,.grp o k r,p=>if p=n∨p=n+k.size+1 then boxF s o (zQQ (zQR s k)) else if p≤n+k.size then boxN s (n+1) k p else boxN s (n+k.size+2) r p
def boxL (s:Scr) (n:Nat) (f:Fo):List Rc:=(List.range f.size).map fun j=>boxN s n f (n+j)
theorem zZ6 (s:Scr) (n:Nat) (f:Fo):(boxL s n f).length=f.size:=by simp [boxL]
theorem zVd (s:Scr) (n:Nat) (o:Oq) (r:Fo):boxL s n (.draw o r)=boxF s o (imgR s o)::boxL s (n+1) r:=by
 unfold boxL
 rw [Fo.size,List.range_succ_eq_map,List.map_cons,List.map_map]
 refine congr (congrArg List.cons (by simp [boxN])) (List.map_congr_left fun j _=>?_)
 show boxN s n (.draw o r) (n+(j+1))=_
 rw [boxN,if_neg (by omega),show n+(j+1)=n+1+j by omega]
theorem zWd (s:Scr) (n:Nat) (o:Oq) (k r:Fo):boxL s n (.grp o k r)=boxF s o (zQQ (zQR s k))::(boxL s (n+1) k++boxF s o (zQQ (zQR s k))::boxL s (n+k.size+2) r):=by
 refine List.ext_getElem (by simp [zZ6,Fo.size]; omega) fun j h1 h2=>?_
 have hj:j < k.size+r.size+2:=by simpa [boxL,Fo.size] using h1
 have e:(boxL s n (.grp o k r))[j]=boxN s n (.grp o k r) (n+j):=by simp [boxL]
 rw [e,boxN]
 cases j with
 | zero=>simp
 | succ j=>
  rw [List.getElem_cons_succ]
  by_cases c1:j < k.size
  ·rw [List.getElem_append_left (by rw [zZ6]; exact c1),if_neg (by omega),if_pos (by omega)]
   simp only [boxL,List.getElem_map,List.getElem_range]
   rw [show n+(j+1)=n+1+j by omega]
  ·rw [List.getElem_append_right (by rw [zZ6]; omega)]
   by_cases c2:j=k.size
   ·subst c2
    rw [if_pos (by omega)]
    simp [zZ6]
   ·rw [if_neg (by omega),if_neg (by omega)]
    obtain ⟨m,rfl⟩:∃ m,j=k.size+1+m:=⟨j - k.size - 1,by omega⟩
    simp only [zZ6,show k.size+1+m - k.size=m+1 by omega,List.getElem_cons_succ]
    simp only [boxL,List.getElem_map,List.getElem_range]
    rw [show n+(k.size+1+m+1)=n+k.size+2+m by omega]
structure Occ (s:Scr) (w:Fo) (n:Nat) (f:Fo):Prop where
  ok:f.ok
  fits:n+f.size≤w.size
  op:∀ j,j < f.size→w.flat[n+j]?=f.flat[j]?
  en:∀ p,n≤p→p < n+f.size→endN 0 w p=endN n f p
  bx:∀ p,n≤p→p < n+f.size→boxN s 0 w p=boxN s n f p
theorem Occ.whole (s:Scr) {w:Fo} (h:w.ok):Occ s w 0 w:=⟨h,by omega,fun j _=>by rw [Nat.zero_add],fun _ _ _=>rfl,fun _ _ _=>rfl⟩
theorem Occ.draw {s:Scr} {w:Fo} {n:Nat} {o:Oq} {r:Fo} (h:Occ s w n (.draw o r)):o.kind=1∧n < w.size∧w.flat[n]?=some o∧endN 0 w n=n∧boxN s 0 w n=boxF s o (imgR s o)∧Occ s w (n+1) r:=by
 obtain ⟨h1,h2,h3,h4,h5⟩:=h
 simp only [Fo.size] at *
 refine ⟨h1.1,by omega,by simpa [Fo.flat] using h3 0 (by omega),by rw [h4 n (Nat.le_refl _) (by omega),endN,if_pos rfl],by rw [h5 n (Nat.le_refl _) (by omega),boxN,if_pos rfl],h1.2,by omega,fun j hj=>?_,fun p p1 p2=>?_,fun p p1 p2=>?_⟩
 ·have:=h3 (j+1) (by omega)
  rw [show n+1+j=n+(j+1) by omega,this]
  simp [Fo.flat]
 ·rw [h4 p (by omega) (by omega),endN,if_neg (by omega)]
 ·rw [h5 p (by omega) (by omega),boxN,if_neg (by omega)]
theorem Occ.grp {s:Scr} {w:Fo} {n:Nat} {o:Oq} {k r:Fo} (h:Occ s w n (.grp o k r)):o.kind=2∧n+k.size+1 < w.size∧w.flat[n]?=some o∧w.flat[n+k.size+1]?=some popO∧endN 0 w n=n+k.size+1∧endN 0 w (n+k.size+1)=n+k.size+1 ∧
  boxN s 0 w n=boxF s o (zQQ (zQR s k))∧boxN s 0 w (n+k.size+1)=boxF s o (zQQ (zQR s k))∧Occ s w (n+1) k∧Occ s w (n+k.size+2) r:=by
 obtain ⟨h1,h2,h3,h4,h5⟩:=h
 simp only [Fo.size] at *
 refine ⟨h1.1,by omega,by simpa [Fo.flat] using h3 0 (by omega),?_,by rw [h4 n (Nat.le_refl _) (by omega),endN,if_pos (.inl rfl)],by rw [h4 _ (by omega) (by omega),endN,if_pos (.inr rfl)],by rw [h5 n (Nat.le_refl _) (by omega),boxN,if_pos (.inl rfl)],by rw [h5 _ (by omega) (by omega),boxN,if_pos (.inr rfl)],
  ⟨h1.2.1,by omega,fun j hj=>?_,fun p p1 p2=>?_,fun p p1 p2=>?_⟩,⟨h1.2.2,by omega,fun j hj=>?_,fun p p1 p2=>?_,fun p p1 p2=>?_⟩⟩
 ·have:=h3 (k.size+1) (by omega)
  rw [← Nat.add_assoc] at this
  rw [this,Fo.flat,List.getElem?_cons_succ,List.getElem?_append_right (by rw [k.flat_len]; omega),k.flat_len]
  simp
 ·have:=h3 (j+1) (by omega)
  rw [show n+1+j=n+(j+1) by omega,this,Fo.flat,List.getElem?_cons_succ,List.getElem?_append_left (by rw [k.flat_len]; omega)]
 ·rw [h4 p (by omega) (by omega),endN,if_neg (by omega),if_pos (by omega)]
 ·rw [h5 p (by omega) (by omega),boxN,if_neg (by omega),if_pos (by omega)]
 ·have:=h3 (k.size+2+j) (by omega)
  rw [show n+k.size+2+j=n+(k.size+2+j) by omega,this,Fo.flat,show k.size+2+j=(k.size+(j+1))+1 by omega,List.getElem?_cons_succ,List.getElem?_append_right (by rw [k.flat_len]; omega),k.flat_len,show k.size+(j+1) - k.size=j+1 by omega,List.getElem?_cons_succ]
 ·rw [h4 p (by omega) (by omega),endN,if_neg (by omega),if_neg (by omega)]
 ·rw [h5 p (by omega) (by omega),boxN,if_neg (by omega),if_neg (by omega)]
theorem Occ.find {s:Scr} {w:Fo}:∀ (f:Fo) (n:Nat),Occ s w n f→∀ p,n≤p→p < n+f.size →
  (∃ o r,Occ s w p (.draw o r))∨(∃ o k r,Occ s w p (.grp o k r))∨(∃ q o k r,Occ s w q (.grp o k r)∧p=q+k.size+1)
 | .nil,n,h,p,h1,h2=>by simp [Fo.size] at h2; omega
 | .draw o r,n,h,p,h1,h2=>by
  simp only [Fo.size] at h2
  by_cases e:p=n
  ·subst e; exact .inl ⟨o,r,h⟩
  ·exact Occ.find r (n+1) h.draw.2.2.2.2.2 p (by omega) (by omega)
 | .grp o k r,n,h,p,h1,h2=>by
  simp only [Fo.size] at h2
  obtain ⟨_,_,_,_,_,_,_,_,hk,hr⟩:=h.grp
  by_cases e:p=n
  ·subst e; exact .inr (.inl ⟨o,k,r,h⟩)
  ·by_cases e2:p≤n+k.size
   ·exact Occ.find k (n+1) hk p (by omega) (by omega)
   ·by_cases e3:p=n+k.size+1
    ·exact .inr (.inr ⟨n,o,k,r,h,e3⟩)
    ·exact Occ.find r (n+k.size+2) hr p (by omega) (by omega)
theorem Occ.at {s:Scr} {w:Fo} (hw:w.ok) {p:Nat} (h:p < w.size) :
  (∃ o r,Occ s w p (.draw o r))∨(∃ o k r,Occ s w p (.grp o k r))∨(∃ q o k r,Occ s w q (.grp o k r)∧p=q+k.size+1):=
 Occ.find w 0 (Occ.whole s hw) p (by omega) (by omega)
theorem zGZ {l:List Oq} {n:Nat} {o:Oq} (h:l[n]?=some o):(l[n]?).getD popO=o:=by rw [h]; rfl
theorem zWs (s:Scr) (n:Nat):runB s (n+1)=zVZ s n ((s.ops[n]?).getD popO) (runB s n):=rfl
theorem zGs {s:Scr} {w:Fo} (hs:s.ops=w.flat):∀ (f:Fo) (n:Nat),Occ s w n f→∀ (A X B:List Rc) (op:List Int) (hs:List Rc) (h:Rc),n=A.length→X.length=f.size→(h=Rc.zero∨h.empty=false) →
  runB s n=(A++(X++B),op,hs++[h])→runB s (n+f.size)=(A++(boxL s n f++B),op,hs++[(zQR s f).foldl Rc.hull h])
 | .nil,n,ho,A,X,B,op,hs,h,hn,hX,hh,hr=>by
  have:X=[]:=List.length_eq_zero_iff.1 hX
  subst this
  exact hr
 | .draw o r,n,ho,A,X,B,op,hs',h,hn,hX,hh,hr=>by
  obtain ⟨x,X,rfl,hX1⟩:=zYN (n:=r.size) hX
  obtain ⟨k1,_,k2,k3,k4,k5⟩:=ho.draw
  have e1:runB s (n+1)=((A++[boxF s o (imgR s o)])++(X++B),op,hs'++[Rc.hull h (boxF s o (imgR s o))]):=by
   rw [zWs,hr,hs,zGZ k2]
   unfold zVZ zV0
   rw [if_neg (by rw [k1]; decide),if_pos k1]
   simp only [List.cons_append,List.append_assoc,List.nil_append]
   rw [set_mid' _ hn]
   have g:(A++boxF s o (imgR s o)::(X++B))[n]?=some (boxF s o (imgR s o)):=by subst hn; simp
   rw [g]
   simp only [Option.getD_some,topB,List.length_append,List.length_cons,List.length_nil,Nat.add_sub_cancel]
   rw [List.getElem?_append_right (Nat.le_refl _),Nat.sub_self,List.getElem?_cons_zero,Option.getD_some,zHV hh,set_mid' (A:=hs') _ (by simp)]
  have ih:=zGs hs r (n+1) k5 _ X B op hs' _ (by simp [hn]) hX1 (zHU hh) e1
  rw [zVd,Fo.size,show n+(r.size+1)=n+1+r.size by omega,ih]
  simp [zQR]
 | .grp o k r,n,ho,A,X,B,op,hs',h,hn,hX,hh,hr=>by
  obtain ⟨x,X,rfl,hX1⟩:=zYN (n:=k.size+r.size+1) hX
  obtain ⟨U,V,rfl,hU,hV⟩:=jYb (a:=k.size) (b:=r.size+1) (by omega:X.length=_)
  obtain ⟨y,V,rfl,hV1⟩:=zYN (n:=r.size) hV
  obtain ⟨k1,_,k2,k3,k4,k5,k6,k7,k8,k9⟩:=ho.grp
  have e1:runB s (n+1)=((A++[x])++(U++(y::(V++B))),op++[(n:Int)],(hs'++[h])++[Rc.zero]):=by
   rw [zWs,hr,hs,zGZ k2]
   unfold zVZ
   rw [if_pos k1]
   simp
  have ik:=zGs hs k (n+1) k8 _ U _ _ _ _ (by simp [hn]) hU (.inl rfl) e1
  have e2:runB s (n+1+k.size+1)=((A++boxF s o (zQQ (zQR s k))::(boxL s (n+1) k++[boxF s o (zQQ (zQR s k))]))++(V++B),op,hs'++[Rc.hull h (boxF s o (zQQ (zQR s k)))]):=by
   rw [zWs,ik,hs,show n+1+k.size=n+k.size+1 by omega,zGZ k3]
   have ep:(((op++[(n:Int)])[(op++[(n:Int)]).length - 1]?).getD 0).toNat=n:=by simp
   have eh:(((hs'++[h]++[(zQR s k).foldl Rc.hull Rc.zero])[(hs'++[h]++[(zQR s k).foldl Rc.hull Rc.zero]).length - 1]?).getD Rc.zero)=zQQ (zQR s k):=by
    simp only [List.length_append,List.length_cons,List.length_nil,Nat.add_sub_cancel]
    rw [List.getElem?_append_right (by simp)]
    simp [zQQ]
   unfold zVZ zV0
   rw [if_neg (by rw [zWF]; decide),if_neg (by rw [zWF]; decide)]
   simp only [ep,eh,hs,zGZ k2,List.dropLast_concat]
   have s1:(A++[x]++(boxL s (n+1) k++y::(V++B))).set (n+k.size+1) (boxF s o (zQQ (zQR s k)))=A++x::(boxL s (n+1) k++boxF s o (zQQ (zQR s k))::(V++B)):=by
    have:=set_mid' (A:=A++[x]++boxL s (n+1) k) (x:=y) (B:=V++B) (boxF s o (zQQ (zQR s k))) (n:=n+k.size+1) (by simp [zZ6]; omega)
    simpa only [List.append_assoc,List.cons_append,List.nil_append] using this
   rw [s1,set_mid' _ hn]
   have g:(A++boxF s o (zQQ (zQR s k))::(boxL s (n+1) k++boxF s o (zQQ (zQR s k))::(V++B)))[n+k.size+1]?=some (boxF s o (zQQ (zQR s k))):=by
    have:(A++boxF s o (zQQ (zQR s k))::boxL s (n+1) k++boxF s o (zQQ (zQR s k))::(V++B))[n+k.size+1]?=some (boxF s o (zQQ (zQR s k))):=by
     rw [List.getElem?_append_right (by simp [zZ6]; omega)]
     have:n+k.size+1 - (A++boxF s o (zQQ (zQR s k))::boxL s (n+1) k).length=0:=by simp [zZ6]; omega
     rw [this]; rfl
    simpa only [List.append_assoc,List.cons_append] using this
   rw [g]
   simp only [Option.getD_some,topB,List.length_append,List.length_cons,List.length_nil,Nat.add_sub_cancel]
   rw [List.getElem?_append_right (Nat.le_refl _),Nat.sub_self,List.getElem?_cons_zero,Option.getD_some,zHV hh,set_mid' (A:=hs') _ (by simp)]
   simp
  have ir:=zGs hs r (n+k.size+2) k9 (A++boxF s o (zQQ (zQR s k))::(boxL s (n+1) k++[boxF s o (zQQ (zQR s k))])) V B op hs' _ (by simp [zZ6]; omega) hV1 (zHU hh) (by rw [show n+k.size+2=n+1+k.size+1 by omega]; exact e2)
  rw [zWd,Fo.size,show n+(k.size+r.size+2)=n+k.size+2+r.size by omega,ir]
  simp [zQR]
theorem jZM {s:Scr} {w:Fo} (hw:w.ok) (hs:s.ops=w.flat):(runB s s.ops.length).1=boxL s 0 w:=by
 have h:=zGs hs w 0 (Occ.whole s hw) [] (List.replicate s.ops.length Rc.zero) [] [] [] Rc.zero rfl (by rw [List.length_replicate,hs,w.flat_len]) (.inl rfl) (by simp [runB])
 rw [hs,w.flat_len]
 rw [Nat.zero_add] at h
 rw [h]
 simp
theorem jKH {s:Scr} (h:s.run.1=0):∃ w:Fo,w.ok∧s.ops=w.flat:=jZI (zKP h).2
open Classical in
noncomputable def foOf (s:Scr):Fo:=if h:∃ w:Fo,w.ok∧s.ops=w.flat then Classical.choose h else .nil
theorem zYO {s:Scr} (h:s.run.1=0):(foOf s).ok∧s.ops=(foOf s).flat:=by
 have h:=jKH h
 unfold foOf
 rw [dif_pos h]
 exact Classical.choose_spec h
theorem zVa {s:Scr} (h:s.run.1=0):s.ops.length=(foOf s).size:=by
 have e:=congrArg List.length (zYO h).2
 rw [Fo.flat_len] at e
 exact e
theorem jKv {s:Scr} (h:s.run.1=0):jXl s.ops=(endF 0 (foOf s),0):=by
 rw [(zYO h).2]
 have:=jJo (zYO h).1
 generalize foOf s=w at *
 exact this
def enAt (s:Scr) (p:Nat):Nat:=(((jXl s.ops).1[p]?).getD 0).toNat
def bxAt (s:Scr) (p:Nat):Rc:=((zQc s).1[p]?).getD Rc.zero
def opAt (s:Scr) (p:Nat):Oq:=(s.ops[p]?).getD popO
theorem jYy {s:Scr} (h:s.run.1=0) {p:Nat} (hp:p < s.ops.length):(jXl s.ops).1[p]?=some ((endN 0 (foOf s) p:Nat):Int)∧enAt s p=endN 0 (foOf s) p:=by
 have e:(jXl s.ops).1[p]?=some ((endN 0 (foOf s) p:Nat):Int):=by
  rw [jKv h]
  simp only [endF,Nat.zero_add]
  rw [List.getElem?_map,List.getElem?_range (by rw [← zVa h]; exact hp)]
  rfl
 exact ⟨e,by unfold enAt; rw [e]; simp⟩
theorem zG9 {s:Scr} (h:s.run.1=0):(zQc s).1=boxL s 0 (foOf s)∧(zQc s).2=0∧(zQc s).1.length=s.ops.length:=by
 have e:=jZM (zYO h).1 (zYO h).2
 unfold zQc
 rw [if_pos h,e]
 exact ⟨rfl,rfl,by rw [zZ6,← zVa h]⟩
theorem jYC {s:Scr} (h:s.run.1=0) {p:Nat} (hp:p < s.ops.length):bxAt s p=boxN s 0 (foOf s) p:=by
 unfold bxAt
 rw [(zG9 h).1]
 simp only [boxL,Nat.zero_add]
 rw [List.getElem?_map,List.getElem?_range (by rw [← zVa h]; exact hp)]
 rfl
def bs (l:List Bool):List DV:=l.map .bool
def hitB (s:Scr) (r:Rc) (p:Nat):Bool:=!(Rc.inter (bxAt s p) r).empty
def jVj (s:Scr) (r:Rc) (i k:Nat):Bool:=hitB s r i && (List.range k).all fun j=>!(decide ((opAt s j).kind=2) && decide (i < enAt s j)) || hitB s r j
def jVk (s:Scr) (r:Rc) (i:Nat):Bool:=jVj s r i i
end Go.Proofs.YthjaljiamllaeaaGreatDoor
