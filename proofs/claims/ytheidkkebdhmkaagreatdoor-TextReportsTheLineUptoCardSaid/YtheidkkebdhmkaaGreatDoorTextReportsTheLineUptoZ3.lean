/-
  Part 3 of what TextReportsTheLineUpto rests on.
-/
import Derived.Test.YtheidkkebdhmkaaGreatDoorTextReportsTheLineUptoZ2
import Derived.RangeFuncCalls
import Derived.TacticsIn
import Derived.RegionIn
namespace Go.Proofs.YtheidkkebdhmkaaGreatDoor
open Go.RowKit
set_option linter.unusedVariables false
set_option linter.unusedSimpArgs false
set_option maxRecDepth 20000
open Go.Proofs.Tryz (prog)
section
attribute [local irreducible] Ans AnsO AnsG AnsN AnsI
def gZ5 (xs:List RV):Option RV:=match xs with | []=>some (RV.tup [RV.tup [rJ 3,rJ 1]]) | [.d (.sl n xs),.d (.int _ m)]=>some (RV.d (dS (zJq (ints xs) m).length (is (zJq (ints xs) m)))) | _=>none
def gamO:Gam where
 pure:=fun f xs=>
  if f=14 then gZ0 xs else
  if f=46 then (match xs with | [.d (.sl n xs),.d (.int _ i)]=>some (rJ (atS (ints xs) i)) | _=>none) else
  if f=20 then gZ5 xs else
  none
 modes:=fun f=>
  none
 proc:=fun f xs bs=>
  none
 iter:=fun f cs=>
  none
theorem jJE (n:Nat) (xs:List DV) (i:Int) (hx:xs=is (ints xs)∧n=xs.length):Ans prog 46 [RV.d (dS n xs),rJ (i)] (rJ ((atS (ints xs) i))):=
 zQj (Γ:=gamO) Ann.leaf zQy Tryz.func46 rfl (Nat.le_of_ble_eq_true rfl) fun hwf=>by
  refine Eq.mpr (by kernel_rfl:_=(let a:=(dJ (atS (ints xs) i)); let b:=(dJ (nAt xs (i.toNat*1))); tU4 (((decide (i < 0))=false→tU5 (((decide (i≥(n:Int)))=true→True∧rJ 0=RV.d a)∧((decide (i≥(n:Int)))=false→tU2 ((0≤i∧i < (n:Int)∧i.toNat*1 < xs.length)∧((xs[i.toNat*1]?=some b)∧True)∧True∧RV.d b=RV.d a))))∧((decide (i < 0))=(!false)→tU2 (rJ 0=RV.d a))))) ?_
  delta tU2 tU4 tU5 dJ rJ
  simp only [sS,zQH]
  obtain ⟨hx,rfl⟩:=hx
  generalize hl:ints xs=l at *
  subst hx
  simp only [zZA,Nat.mul_one]
  refine ⟨fun h1=>⟨fun h2=>?_,fun h2=>?_⟩,fun h1=>by simp [atS,h1]⟩
  ·have:l[i.toNat]?=none:=List.getElem?_eq_none (by omega)
   simp [atS,h1,this]
  ·have h:i.toNat < l.length:=by omega
   refine ⟨by omega,?_,?_⟩
   ·rw [jX8 h]; exact jKH h
   ·rw [jX8 h]; simp [atS,h1,List.getElem?_eq_getElem h]
theorem zVr (n:Nat) (xs:List DV) (m:Int) (hx:xs=is (ints xs)∧n=xs.length) (hm:0≤m):AnsO prog 20 [RV.d (dS n xs),rJ (m)] 3 1 ((zJq (ints xs) m).length) (is (zJq (ints xs) m)):=
 zXP (t:=4) (Γ:=gamO) (let a:=(0,AV.one (Cl.d (dS n xs))); let b:=(1,aJ m); (Ann.seq Ann.leaf (Ann.seq Ann.leaf (Ann.seq Ann.leaf (Ann.seq (Ann.seq Ann.leaf (Ann.loop ⟨Nat,fun k=>k≤m.toNat,fun k=>⟨[a,b,(5,AV.one (Cl.ref 1005 m.toNat)),(6,aJ (k:Int))],[(1005,Bx.row 3 1 (is (upto k)++List.replicate (m.toNat - k) (dJ 0)))]⟩,fun k=>m.toNat - k⟩ fun k=>Ann.leaf)) (Ann.seq Ann.leaf (Ann.seq (Ann.seq Ann.leaf (Ann.loop ⟨Nat,fun j=>j≤m.toNat,fun j=>⟨[a,b,(5,AV.one (Cl.d (dS (m.toNat - j) (is (stp (ints xs) m.toNat j).1)))),(7,AV.one (Cl.ref 1007 j)),(8,aJ (j:Int))],[(1007,Bx.row 3 1 (is (stp (ints xs) m.toNat j).2))]⟩,fun j=>m.toNat - j⟩ fun j=>Ann.leaf)) Ann.leaf))))))) zQy Tryz.func20 rfl (Nat.le_of_ble_eq_true rfl) rfl fun hwf=>by
  refine Eq.mpr (by kernel_rfl:_=(let g:=(dS n xs=dS n xs); let b:=(zJq (ints xs) m); let h:=(dJ m=dJ m); tU5 ((((n:Int)==0)=false→tU3 (((decide (m > 64))=true→True∧b.length=0∧is b=[])∧((decide (m > 64))=false→True∧(0≤m∧m≤m∧m≤(maxLen:Int)∧((8:Nat):Int)*m≤281474976710656)∧tU2 ((∃ k:Nat,(k≤m.toNat)∧((g∧h∧(m.toNat=m.toNat)∧(dJ 0=dJ (k:Int))∧True)∧((List.replicate m.toNat (dJ 0)=is (upto k)++List.replicate (m.toNat - k) (dJ 0))∧True)))∧∀ k:Nat,let o:=(is (upto k)++List.replicate (m.toNat - k) (dJ 0)); (k≤m.toNat)→tU3 (((decide ((k:Int) < m))=true→tU3 ((0≤(k:Int)∧(k:Int) < (m.toNat:Int))∧((k:Int).toNat*1+1≤o.length)∧tU3 (∃ k':Nat,(k'≤m.toNat)∧(m.toNat - k' < m.toNat - k)∧((g∧h∧(m.toNat=m.toNat)∧(dJ (wK ((k:Int)+1))=dJ (k':Int))∧True)∧((List.set o ((k:Int).toNat*1) (dJ (k:Int))=is (upto k')++List.replicate (m.toNat - k') (dJ 0))∧True)))))∧((decide ((k:Int) < m))=false→tU2 ((∃ j:Nat,(j≤m.toNat)∧((g∧h∧(dS m.toNat o=dS (m.toNat - j) (is (stp (ints xs) m.toNat j).1))∧(0=j)∧(dJ 0=dJ (j:Int))∧True)∧(([]=is (stp (ints xs) m.toNat j).2)∧True)))∧∀ j:Nat,let i:=(stp (ints xs) m.toNat j); let a:=(((m.toNat - j):Nat):Int); let c:=(atS (ints xs) (j:Int)); let l:=(modS c a - 0); let e:=(modS c a); let f:=(is i.1); let p:=(nAt f (e.toNat*1)); let d:=(e+1); let r:=(List.take ((a - wK d).toNat*1) (List.drop ((wK d).toNat*1) f)); let q:=(List.take (l.toNat*1) (List.drop ((0:Int).toNat*1) f)); (j≤m.toNat)→tU3 (((decide (a > 0))=true→tU2 ((Ans prog 46 [RV.d (dS n xs),rJ (j:Int)] (rJ c))∧tU2 ((Ans prog 14 [rJ c,rJ a] (rJ e))∧tU4 ((0≤modS c a∧modS c a < a∧e.toNat*1 < f.length)∧((f[e.toNat*1]?=some (dJ p))∧True)∧True∧(zZk 1 8 j 1 (is i.2) ([dJ p]))∧tU3 ((0≤(0:Int)∧(0:Int)≤modS c a∧modS c a≤a)∧(zZk 1 8 0 l.toNat ([]) q)∧tU3 ((0≤wK d∧wK d≤a∧a≤a)∧(zZk 1 8 l.toNat (a - wK d).toNat q r)∧True∧(true=true)∧tU3 (∃ j':Nat,(j'≤m.toNat)∧(m.toNat - j' < m.toNat - j)∧((g∧h∧(dS (l.toNat+(a - wK d).toNat) (q++r)=dS (m.toNat - j') (is (stp (ints xs) m.toNat j').1))∧(j+1=j')∧(dJ (wK ((j:Int)+1))=dJ (j':Int))∧True)∧(((is i.2)++([dJ p])=is (stp (ints xs) m.toNat j').2)∧True)))))))))∧((decide (a > 0))=false→tU2 ((3=3∧1=1)∧(is b).length=b.length*1∧j=b.length∧is i.2=is b))))))))))∧(((n:Int)==0)=(!false)→tU2 (b.length=0∧is b=[]))))) ?_
  delta tU2 tU3 tU4 tU5 dJ wK dS rJ
  simp only [sS,zQH]
  obtain ⟨hx,rfl⟩:=hx
  generalize hl:ints xs=l at *
  subst hx
  have z0:l.length=0→zJq l m=[]:=fun h=>by simp [zJq,h]
  have z1:64 < m→zJq l m=[]:=fun h=>by simp [zJq,h]
  refine ⟨fun hne=>⟨fun hbig=>by rw [z1 hbig]; exact ⟨rfl,rfl⟩,fun hsm=>?_⟩,fun he=>by rw [z0 (by simpa [zZA] using he)]; exact ⟨rfl,rfl⟩⟩
  have hll:l.length≠0:=by simpa [zZA] using hne
  have hp:zJq l m=(stp l m.toNat m.toNat).2:=by unfold zJq; rw [if_neg (by omega)]
  obtain ⟨N,rfl⟩:∃ N:Nat,m=(N:Int):=⟨m.toNat,by omega⟩
  rw [hp]
  simp only [Int.toNat_natCast,Nat.mul_one,maxLen]
  have hN:N≤64:=by omega
  have wr:∀ n:Int,-1000000≤n→n≤1000000→IntKind.wrap .i64 n=n:=fun n h h'=>by rw [IntKind.wrap_i64]; omega
  refine ⟨by omega,⟨0,Nat.zero_le _,rfl,by simp [upto,is]⟩,fun k hk=>⟨fun hlt=>?_,fun hge=>⟨⟨0,Nat.zero_le _,⟨⟨rfl,?_⟩,rfl,rfl⟩,rfl⟩,fun j hj=>⟨fun hlt=>?_,fun hge=>?_⟩⟩⟩⟩
  ·refine ⟨by omega,by rw [List.length_append,zZA,zU4,List.length_replicate]; omega,k+1,by omega,by omega,by rw [wr _ (by omega) (by omega)]; omega,jYr (by omega)⟩
  ·have:k=N:=by omega
   subst this
   simp [stp]
  ·obtain ⟨h1,h2⟩:=zK6 l hN j (by omega)
   have hK:=jQw (v:=atS l j) (m:=(stp l N j).1.length) (by omega) (by omega)
   have e1:(stp l N (j+1)).1=(stp l N j).1.take (modS (atS l j) (stp l N j).1.length).toNat++(stp l N j).1.drop ((modS (atS l j) (stp l N j).1.length).toNat+1):=rfl
   have e2:(stp l N (j+1)).2=(stp l N j).2++[((stp l N j).1[(modS (atS l j) (stp l N j).1.length).toNat]?).getD 0]:=rfl
   have ha:=jJE l.length (is l) (j:Int) ⟨by rw [zQM],by rw [zZA]⟩
   rw [zQM] at ha
   generalize (stp l N j).1=r at *
   generalize (stp l N j).2=o at *
   subst h2
   rw [h1] at hK e1 e2
   generalize hg:modS (atS l (o.length:Int)) ((N - o.length:Nat):Int)=g at *
   obtain ⟨K,rfl⟩:∃ K:Nat,g=(K:Int):=⟨g.toNat,by omega⟩
   simp only [Int.toNat_natCast] at hK e1 e2 ⊢
   have w1:IntKind.wrap .i64 ((K:Int)+1)=((K+1:Nat):Int):=by rw [wr _ (by omega) (by omega)]; omega
   have t1:((K:Int) - 0).toNat=K:=by omega
   have t2:(((N - o.length:Nat):Int) - ((K+1:Nat):Int)).toNat=N - o.length - (K+1):=by omega
   have t3:Int.toNat 0=0:=rfl
   have hKr:K < r.length:=by omega
   have d1:List.take (N - o.length - (K+1)) (List.drop (K+1) (is r))=is (r.drop (K+1)):=by rw [jKG,List.take_of_length_le (by rw [zZA,List.length_drop]; omega)]
   simp only [w1,t1,t2,t3,Int.toNat_natCast,List.drop_zero,d1,jKE,zZA,zZk,Nat.mul_one,zWE,jX8 hKr,List.getElem?_eq_getElem hKr,Option.getD_some,maxLen] at e2 ⊢
   refine ⟨ha,⟨by omega,by omega,hKr⟩,jKH hKr,⟨trivial,rfl,by omega,by omega⟩,by omega,⟨rfl,?_,by omega,by omega⟩,by omega,⟨?_,?_,by omega,by omega⟩,o.length+1,by omega,by omega,⟨⟨by omega,by rw [e1]⟩,rfl,by rw [wr _ (by omega) (by omega)]; omega⟩,by rw [e2,← zWE]; rfl⟩
   all_goals simp
   all_goals omega
  ·have:j=N:=by omega
   subst this
   have h2:=(zK6 l hN j (Nat.le_refl _)).2
   rw [zZA,h2]
   exact ⟨rfl,rfl,rfl⟩
end
def gZ6 (xs:List RV):Option RV:=match xs with | [.agg [.int _ a,.int _ b,.int _ c,.int _ d]]=>some (RV.d (dQ (Rc.empty ⟨a,b,c,d⟩))) | _=>none
def gam:Gam where
 pure:=fun f xs=>
  if f=90 then (match xs with | [.agg [.int _ a,.int _ b,.int _ c,.int _ d]]=>some (RV.d (dQ (Rc.valid ⟨a,b,c,d⟩))) | _=>none) else
  if f=45 then gZ6 xs else
  none
 modes:=fun f=>
  none
 proc:=fun f xs bs=>
  none
 iter:=fun f cs=>
  none
theorem zVo (a b c d:Int):Ans prog 90 [RV.agg [dJ a,dJ b,dJ c,dJ d]] (RV.d (dQ (Rc.valid ⟨a,b,c,d⟩))):=
 zQj (Γ:=gam) Ann.leaf zQy Tryz.func90 rfl (Nat.le_of_ble_eq_true rfl) fun hwf=>by
  refine Eq.mpr (by kernel_rfl:_=(let f:=(decide (d≥(-1073741824:Int))); let g:=(decide (c≥(-1073741824:Int))); let h:=(decide (b≥(-1073741824:Int))); let i:=(decide (a≥(-1073741824:Int))); let e:=(dQ (Rc.valid ⟨a,b,c,d⟩)); True∧True∧True∧True∧True∧True∧((i=true→True∧True∧True∧True∧True∧(((decide (a≤1073741824))=true→True∧True∧True∧True∧True∧((h=true→True∧True∧True∧True∧True∧(((decide (b≤1073741824))=true→True∧True∧True∧True∧True∧((g=true→True∧True∧True∧True∧True∧(((decide (c≤1073741824))=true→True∧True∧True∧True∧True∧((f=true→True∧True∧True∧True∧True∧RV.d (dQ (decide (d≤1073741824)))=RV.d e)∧(f=(!true)→True∧True∧RV.d (dQ false)=RV.d e)))∧((decide (c≤1073741824))=(!true)→True∧True∧True∧True∧RV.d (dQ false)=RV.d e)))∧(g=(!true)→True∧True∧True∧True∧True∧True∧RV.d (dQ false)=RV.d e)))∧((decide (b≤1073741824))=(!true)→True∧True∧True∧True∧True∧True∧True∧True∧RV.d (dQ false)=RV.d e)))∧(h=(!true)→True∧True∧True∧True∧True∧True∧True∧True∧True∧True∧RV.d (dQ false)=RV.d e)))∧((decide (a≤1073741824))=(!true)→True∧True∧True∧True∧True∧True∧True∧True∧True∧True∧True∧True∧RV.d (dQ false)=RV.d e)))∧(i=(!true)→True∧True∧True∧True∧True∧True∧True∧True∧True∧True∧True∧True∧True∧True∧RV.d (dQ false)=RV.d e)))) ?_
  delta dQ
  simp only [true_and,and_true,RV.d.injEq,RV.agg.injEq,RV.tup.injEq,DV.bool.injEq,DV.int.injEq,List.cons.injEq,forall_const,Bool.not_false,Bool.not_true,Bool.not_eq_true',Bool.not_eq_false']
  grind [Rc.valid,okC]
theorem zGU (a b c d:Int):Ans prog 45 [RV.agg [dJ a,dJ b,dJ c,dJ d]] (RV.d (dQ (Rc.empty ⟨a,b,c,d⟩))):=
 zQj (Γ:=gam) Ann.leaf zQy Tryz.func45 rfl (Nat.le_of_ble_eq_true rfl) fun hwf=>by
  refine Eq.mpr (by kernel_rfl:_=(let e:=(dQ (Rc.empty ⟨a,b,c,d⟩)); True∧True∧True∧(Ans prog 90 [RV.agg [dJ a,dJ b,dJ c,dJ d]] (RV.d (dQ (Rc.valid ⟨a,b,c,d⟩))))∧True∧True∧(((!(Rc.valid ⟨a,b,c,d⟩))=false→True∧True∧True∧True∧True∧True∧True∧(((decide (a≥c))=false→True∧True∧True∧True∧True∧True∧True∧RV.d (dQ (decide (b≥d)))=RV.d e)∧((decide (a≥c))=(!false)→True∧True∧RV.d (dQ true)=RV.d e)))∧((!(Rc.valid ⟨a,b,c,d⟩))=(!false)→True∧True∧True∧True∧RV.d (dQ true)=RV.d e)))) ?_
  delta dJ dQ
  simp only [true_and,and_true,RV.d.injEq,RV.agg.injEq,RV.tup.injEq,DV.bool.injEq,DV.int.injEq,List.cons.injEq,forall_const,Bool.not_false,Bool.not_true,Bool.not_eq_true',Bool.not_eq_false',zVo,zQH]
  grind [Rc.empty]
section
attribute [local irreducible] Ans AnsO AnsG AnsN AnsI
def cntS (r:Rc) (w h:Int):Int × Int × Bool:=
 if r.empty then (0,0,false)
 else if w < 1∨IntKind.wrap .i64 (r.c - r.a) < w∨h < 1∨IntKind.wrap .i64 (r.d - r.b) < h then (0,0,false)
 else (IntKind.wrap .i64 (Int.tdiv (IntKind.wrap .i64 (IntKind.wrap .i64 (IntKind.wrap .i64 (r.c - r.a)+w) - 1)) w),IntKind.wrap .i64 (Int.tdiv (IntKind.wrap .i64 (IntKind.wrap .i64 (IntKind.wrap .i64 (r.d - r.b)+h) - 1)) h),true)
end
def Im.ds (m:Im):List DV:=[.int .i64 m.w,.int .i64 m.h,.bool m.so,.int .u16 m.c.a,.int .u16 m.c.b,.int .u16 m.c.c,.int .u16 m.c.al,.int .u16 m.c.f,.int .i64 m.p0.w,.int .i64 m.p0.h,.int .i64 m.p0.s,.sl m.p0.n m.p0.xs,.int .i64 m.p1.w,.int .i64 m.p1.h,.int .i64 m.p1.s,.sl m.p1.n m.p1.xs,.int .i64 m.p2.w,.int .i64 m.p2.h,.int .i64 m.p2.s,.sl m.p2.n m.p2.xs,.int .i64 m.p3.w,.int .i64 m.p3.h,.int .i64 m.p3.s,.sl m.p3.n m.p3.xs,.int .i64 m.p4.w,.int .i64 m.p4.h,.int .i64 m.p4.s,.sl m.p4.n m.p4.xs]
theorem Im.ds_len (m:Im):m.ds.length=28:=rfl
def ims (l:List Im):List DV:=l.flatMap Im.ds
theorem zZ2 (l:List Im):(ims l).length=l.length*28:=by
 induction l with
 | nil=>rfl
 | cons o l ih=>simp only [ims,List.flatMap_cons,List.length_append,List.length_cons] at ih ⊢; rw [ih,Im.ds_len]; omega
theorem jZ9 (l m:List Im):ims (l++m)=ims l++ims m:=by simp [ims]
theorem jJk (m:Im) (l:List Im):ims (m::l)=m.ds++ims l:=by simp [ims]
theorem jKN (m:Im):ims [m]=m.ds:=by simp [ims]
theorem jKO {l:List Im} {k:Nat} (h:k < l.length) (j:Nat) (hj:j < 28):(ims l)[k*28+j]?=l[k].ds[j]?:=by
 induction l generalizing k with
 | nil=>simp at h
 | cons o l ih=>
  rw [jJk]
  cases k with
  | zero=>simp only [List.getElem_cons_zero]; rw [List.getElem?_append_left (by rw [Im.ds_len]; omega)]; simp
  | succ k=>
   rw [List.getElem?_append_right (by rw [Im.ds_len]; omega)]
   have:=ih (k:=k) (by simpa using h)
   simp only [List.getElem_cons_succ]
   rw [← this]
   congr 1
   rw [Im.ds_len]; omega
theorem zUO {l:List Im} {k:Nat} (h:k < l.length):(ims l)[k*28]?=some (.int .i64 l[k].w)∧(ims l)[k*28+1]?=some (.int .i64 l[k].h)∧(ims l)[k*28+1+1]?=some (.bool l[k].so)∧(ims l)[k*28+1+1+1]?=some (.int .u16 l[k].c.a)∧(ims l)[k*28+1+1+1+1]?=some (.int .u16 l[k].c.b)∧(ims l)[k*28+1+1+1+1+1]?=some (.int .u16 l[k].c.c)∧(ims l)[k*28+1+1+1+1+1+1]?=some (.int .u16 l[k].c.al)∧(ims l)[k*28+1+1+1+1+1+1+1]?=some (.int .u16 l[k].c.f)∧(ims l)[k*28+1+1+1+1+1+1+1+1]?=some (.int .i64 l[k].p0.w)∧(ims l)[k*28+1+1+1+1+1+1+1+1+1]?=some (.int .i64 l[k].p0.h)∧(ims l)[k*28+1+1+1+1+1+1+1+1+1+1]?=some (.int .i64 l[k].p0.s)∧(ims l)[k*28+1+1+1+1+1+1+1+1+1+1+1]?=some (.sl l[k].p0.n l[k].p0.xs)∧(ims l)[k*28+1+1+1+1+1+1+1+1+1+1+1+1]?=some (.int .i64 l[k].p1.w)∧(ims l)[k*28+1+1+1+1+1+1+1+1+1+1+1+1+1]?=some (.int .i64 l[k].p1.h)∧(ims l)[k*28+1+1+1+1+1+1+1+1+1+1+1+1+1+1]?=some (.int .i64 l[k].p1.s)∧(ims l)[k*28+1+1+1+1+1+1+1+1+1+1+1+1+1+1+1]?=some (.sl l[k].p1.n l[k].p1.xs)∧(ims l)[k*28+1+1+1+1+1+1+1+1+1+1+1+1+1+1+1+1]?=some (.int .i64 l[k].p2.w)∧(ims l)[k*28+1+1+1+1+1+1+1+1+1+1+1+1+1+1+1+1+1]?=some (.int .i64 l[k].p2.h)∧(ims l)[k*28+1+1+1+1+1+1+1+1+1+1+1+1+1+1+1+1+1+1]?=some (.int .i64 l[k].p2.s)∧(ims l)[k*28+1+1+1+1+1+1+1+1+1+1+1+1+1+1+1+1+1+1+1]?=some (.sl l[k].p2.n l[k].p2.xs)∧(ims l)[k*28+1+1+1+1+1+1+1+1+1+1+1+1+1+1+1+1+1+1+1+1]?=some (.int .i64 l[k].p3.w)∧(ims l)[k*28+1+1+1+1+1+1+1+1+1+1+1+1+1+1+1+1+1+1+1+1+1]?=some (.int .i64 l[k].p3.h)∧(ims l)[k*28+1+1+1+1+1+1+1+1+1+1+1+1+1+1+1+1+1+1+1+1+1+1]?=some (.int .i64 l[k].p3.s)∧(ims l)[k*28+1+1+1+1+1+1+1+1+1+1+1+1+1+1+1+1+1+1+1+1+1+1+1]?=some (.sl l[k].p3.n l[k].p3.xs)∧(ims l)[k*28+1+1+1+1+1+1+1+1+1+1+1+1+1+1+1+1+1+1+1+1+1+1+1+1]?=some (.int .i64 l[k].p4.w)∧(ims l)[k*28+1+1+1+1+1+1+1+1+1+1+1+1+1+1+1+1+1+1+1+1+1+1+1+1+1]?=some (.int .i64 l[k].p4.h)∧(ims l)[k*28+1+1+1+1+1+1+1+1+1+1+1+1+1+1+1+1+1+1+1+1+1+1+1+1+1+1]?=some (.int .i64 l[k].p4.s)∧(ims l)[k*28+1+1+1+1+1+1+1+1+1+1+1+1+1+1+1+1+1+1+1+1+1+1+1+1+1+1+1]?=some (.sl l[k].p4.n l[k].p4.xs):=by
 have g:=fun j hj=>jKO h j hj
 exact ⟨g 0 (by omega),g 1 (by omega),g 2 (by omega),g 3 (by omega),g 4 (by omega),g 5 (by omega),g 6 (by omega),g 7 (by omega),g 8 (by omega),g 9 (by omega),g 10 (by omega),g 11 (by omega),g 12 (by omega),g 13 (by omega),g 14 (by omega),g 15 (by omega),g 16 (by omega),g 17 (by omega),g 18 (by omega),g 19 (by omega),g 20 (by omega),g 21 (by omega),g 22 (by omega),g 23 (by omega),g 24 (by omega),g 25 (by omega),g 26 (by omega),g 27 (by omega)⟩
theorem zUP {l:List Im} {k:Nat} (h:k < l.length):nAt (ims l) (k*28)=l[k].w∧nAt (ims l) (k*28+1)=l[k].h∧bAt (ims l) (k*28+1+1)=l[k].so∧nAt (ims l) (k*28+1+1+1)=l[k].c.a∧nAt (ims l) (k*28+1+1+1+1)=l[k].c.b∧nAt (ims l) (k*28+1+1+1+1+1)=l[k].c.c∧nAt (ims l) (k*28+1+1+1+1+1+1)=l[k].c.al∧nAt (ims l) (k*28+1+1+1+1+1+1+1)=l[k].c.f∧nAt (ims l) (k*28+1+1+1+1+1+1+1+1)=l[k].p0.w∧nAt (ims l) (k*28+1+1+1+1+1+1+1+1+1)=l[k].p0.h∧nAt (ims l) (k*28+1+1+1+1+1+1+1+1+1+1)=l[k].p0.s∧lAt (ims l) (k*28+1+1+1+1+1+1+1+1+1+1+1)=l[k].p0.n∧cAt (ims l) (k*28+1+1+1+1+1+1+1+1+1+1+1)=l[k].p0.xs∧nAt (ims l) (k*28+1+1+1+1+1+1+1+1+1+1+1+1)=l[k].p1.w∧nAt (ims l) (k*28+1+1+1+1+1+1+1+1+1+1+1+1+1)=l[k].p1.h∧nAt (ims l) (k*28+1+1+1+1+1+1+1+1+1+1+1+1+1+1)=l[k].p1.s∧lAt (ims l) (k*28+1+1+1+1+1+1+1+1+1+1+1+1+1+1+1)=l[k].p1.n∧cAt (ims l) (k*28+1+1+1+1+1+1+1+1+1+1+1+1+1+1+1)=l[k].p1.xs∧nAt (ims l) (k*28+1+1+1+1+1+1+1+1+1+1+1+1+1+1+1+1)=l[k].p2.w∧nAt (ims l) (k*28+1+1+1+1+1+1+1+1+1+1+1+1+1+1+1+1+1)=l[k].p2.h∧nAt (ims l) (k*28+1+1+1+1+1+1+1+1+1+1+1+1+1+1+1+1+1+1)=l[k].p2.s∧lAt (ims l) (k*28+1+1+1+1+1+1+1+1+1+1+1+1+1+1+1+1+1+1+1)=l[k].p2.n∧cAt (ims l) (k*28+1+1+1+1+1+1+1+1+1+1+1+1+1+1+1+1+1+1+1)=l[k].p2.xs∧nAt (ims l) (k*28+1+1+1+1+1+1+1+1+1+1+1+1+1+1+1+1+1+1+1+1)=l[k].p3.w∧nAt (ims l) (k*28+1+1+1+1+1+1+1+1+1+1+1+1+1+1+1+1+1+1+1+1+1)=l[k].p3.h∧nAt (ims l) (k*28+1+1+1+1+1+1+1+1+1+1+1+1+1+1+1+1+1+1+1+1+1+1)=l[k].p3.s∧lAt (ims l) (k*28+1+1+1+1+1+1+1+1+1+1+1+1+1+1+1+1+1+1+1+1+1+1+1)=l[k].p3.n∧cAt (ims l) (k*28+1+1+1+1+1+1+1+1+1+1+1+1+1+1+1+1+1+1+1+1+1+1+1)=l[k].p3.xs∧nAt (ims l) (k*28+1+1+1+1+1+1+1+1+1+1+1+1+1+1+1+1+1+1+1+1+1+1+1+1)=l[k].p4.w∧nAt (ims l) (k*28+1+1+1+1+1+1+1+1+1+1+1+1+1+1+1+1+1+1+1+1+1+1+1+1+1)=l[k].p4.h∧nAt (ims l) (k*28+1+1+1+1+1+1+1+1+1+1+1+1+1+1+1+1+1+1+1+1+1+1+1+1+1+1)=l[k].p4.s∧lAt (ims l) (k*28+1+1+1+1+1+1+1+1+1+1+1+1+1+1+1+1+1+1+1+1+1+1+1+1+1+1+1)=l[k].p4.n∧cAt (ims l) (k*28+1+1+1+1+1+1+1+1+1+1+1+1+1+1+1+1+1+1+1+1+1+1+1+1+1+1+1)=l[k].p4.xs:=by
 obtain ⟨e0,e1,e2,e3,e4,e5,e6,e7,e8,e9,e10,e11,e12,e13,e14,e15,e16,e17,e18,e19,e20,e21,e22,e23,e24,e25,e26,e27⟩:=zUO h
 simp only [nAt,bAt,lAt,cAt,e0,e1,e2,e3,e4,e5,e6,e7,e8,e9,e10,e11,e12,e13,e14,e15,e16,e17,e18,e19,e20,e21,e22,e23,e24,e25,e26,e27,and_self]
def imAt (xs:List DV) (i:Nat):Im:=⟨nAt xs i,nAt xs (i+1),bAt xs (i+2),⟨nAt xs (i+3),nAt xs (i+4),nAt xs (i+5),nAt xs (i+6),nAt xs (i+7)⟩,⟨nAt xs (i+8),nAt xs (i+9),nAt xs (i+10),lAt xs (i+11),cAt xs (i+11)⟩,⟨nAt xs (i+12),nAt xs (i+13),nAt xs (i+14),lAt xs (i+15),cAt xs (i+15)⟩,⟨nAt xs (i+16),nAt xs (i+17),nAt xs (i+18),lAt xs (i+19),cAt xs (i+19)⟩,⟨nAt xs (i+20),nAt xs (i+21),nAt xs (i+22),lAt xs (i+23),cAt xs (i+23)⟩,⟨nAt xs (i+24),nAt xs (i+25),nAt xs (i+26),lAt xs (i+27),cAt xs (i+27)⟩⟩
theorem jJm {l:List Im} {k:Nat} (h:k < l.length):imAt (ims l) (k*28)=l[k]:=by
 have e:=zUP h
 simp only [imAt,show k*28+2=k*28+1+1 from rfl,show k*28+3=k*28+1+1+1 from rfl,show k*28+4=k*28+1+1+1+1 from rfl,show k*28+5=k*28+1+1+1+1+1 from rfl,show k*28+6=k*28+1+1+1+1+1+1 from rfl,show k*28+7=k*28+1+1+1+1+1+1+1 from rfl,show k*28+8=k*28+1+1+1+1+1+1+1+1 from rfl,show k*28+9=k*28+1+1+1+1+1+1+1+1+1 from rfl,show k*28+10=k*28+1+1+1+1+1+1+1+1+1+1 from rfl,show k*28+11=k*28+1+1+1+1+1+1+1+1+1+1+1 from rfl,show k*28+12=k*28+1+1+1+1+1+1+1+1+1+1+1+1 from rfl,show k*28+13=k*28+1+1+1+1+1+1+1+1+1+1+1+1+1 from rfl,show k*28+14=k*28+1+1+1+1+1+1+1+1+1+1+1+1+1+1 from rfl,show k*28+15=k*28+1+1+1+1+1+1+1+1+1+1+1+1+1+1+1 from rfl,show k*28+16=k*28+1+1+1+1+1+1+1+1+1+1+1+1+1+1+1+1 from rfl,show k*28+17=k*28+1+1+1+1+1+1+1+1+1+1+1+1+1+1+1+1+1 from rfl,show k*28+18=k*28+1+1+1+1+1+1+1+1+1+1+1+1+1+1+1+1+1+1 from rfl,show k*28+19=k*28+1+1+1+1+1+1+1+1+1+1+1+1+1+1+1+1+1+1+1 from rfl,show k*28+20=k*28+1+1+1+1+1+1+1+1+1+1+1+1+1+1+1+1+1+1+1+1 from rfl,show k*28+21=k*28+1+1+1+1+1+1+1+1+1+1+1+1+1+1+1+1+1+1+1+1+1 from rfl,show k*28+22=k*28+1+1+1+1+1+1+1+1+1+1+1+1+1+1+1+1+1+1+1+1+1+1 from rfl,show k*28+23=k*28+1+1+1+1+1+1+1+1+1+1+1+1+1+1+1+1+1+1+1+1+1+1+1 from rfl,show k*28+24=k*28+1+1+1+1+1+1+1+1+1+1+1+1+1+1+1+1+1+1+1+1+1+1+1+1 from rfl,show k*28+25=k*28+1+1+1+1+1+1+1+1+1+1+1+1+1+1+1+1+1+1+1+1+1+1+1+1+1 from rfl,show k*28+26=k*28+1+1+1+1+1+1+1+1+1+1+1+1+1+1+1+1+1+1+1+1+1+1+1+1+1+1 from rfl,show k*28+27=k*28+1+1+1+1+1+1+1+1+1+1+1+1+1+1+1+1+1+1+1+1+1+1+1+1+1+1+1 from rfl,e]
def zYu (xs:List DV):List Im:=(List.range (xs.length / 28)).map fun k=>imAt xs (k*28)
theorem zZx (l:List Im):zYu (ims l)=l:=by
 have e:(ims l).length / 28=l.length:=by rw [zZ2]; omega
 unfold zYu
 rw [e]
 refine List.ext_getElem (by simp) fun i h1 h2=>?_
 simp only [List.getElem_map,List.getElem_range]
 exact jJm h2
def jVA (n:Nat) (xs:List DV):Prop:=(xs=ims (zYu xs)∧n=(zYu xs).length)∧∀ m∈zYu xs,m.isU
theorem jVA.of {n:Nat} {xs:List DV} (h:jVA n xs):∃ l:List Im,(∀ m∈l,m.isU)∧xs=ims l∧n=l.length:=⟨zYu xs,h.2,h.1.1,h.1.2⟩
def jVM (n:Nat) (xs:List DV):Prop:=xs=ops (zZ8 xs)∧n=(zZ8 xs).length
theorem zWq (o:Oq):ops [o]=o.cells:=by simp [ops]
def gOff (n c:Int):Int:=if modS n 3=0 then c else c+modS (IntKind.wrap .i64 (Int.tdiv n 3)) 9 - 4
structure Rw where
  k:Int
  im:Int
  x:Int
  y:Int
  ma:Int
  mx:Int
  my:Int
  op:Int
  ope:Int
  mo:Int
  fl:Int
def gOp (r:Rw) (push:Bool) (n:Int) (c:Rc) (free:Bool) (most:Int):Oq:=
 let m:=decide (modS r.ma 4=0)
 ⟨if push then 2 else 1,if push then 0 else modS r.im n,if push then 0 else gOff r.x c.a,if push then 0 else gOff r.y c.b,
  if m then 1+modS (IntKind.wrap .i64 (Int.tdiv r.ma 4)) n else 0,if m then gOff r.mx c.a else 0,if m then gOff r.my c.b else 0,
  if modS r.op 2=0 then zQS (IntKind.wrap .i64 (Int.tdiv r.op 2)) most else most,
  if free && decide (modS r.ope 2=0) then 1+modS (IntKind.wrap .i64 (Int.tdiv r.ope 2)) 12 else 4,
  if modS r.mo 2=0 then 1+modS (IntKind.wrap .i64 (Int.tdiv r.mo 2)) 12 else 1,
  push && decide (modS r.fl 2=0),push && decide (modS (IntKind.wrap .i64 (Int.tdiv r.fl 2)) 3=0)⟩
def rwAt (xs:List DV) (i:Nat):Rw:=⟨nAt xs i,nAt xs (i+1),nAt xs (i+2),nAt xs (i+3),nAt xs (i+4),nAt xs (i+5),nAt xs (i+6),nAt xs (i+7),nAt xs (i+8),nAt xs (i+9),nAt xs (i+10)⟩
structure Scn where
  b:Int
  x:Int
  y:Int
  w:Int
  h:Int
  tw:Int
  th:Int
  on:Nat
  oxs:List DV
  pn:Nat
  pxs:List DV
  rn:Nat
  rxs:List DV
def Scn.c (s:Scn):Rc:=⟨modS s.x 13 - 6,modS s.y 13 - 6,modS s.x 13 - 6+(1+modS s.w 5),modS s.y 13 - 6+(1+modS s.h 4)⟩
def Scn.gw (s:Scn):Int:=1+modS s.w 5
def Scn.gh (s:Scn):Int:=1+modS s.h 4
def Scn.gtw (s:Scn):Int:=1+modS s.tw s.gw
def Scn.gth (s:Scn):Int:=1+modS s.th s.gh
def Scn.most (s:Scn):Int:=gMax s.b
def Scn.bits (s:Scn):Int:=if s.most > 255 then 16 else 8
def Scn.tiles (s:Scn):Int:=IntKind.wrap .i64 ((cntS s.c s.gtw s.gth).1*(cntS s.c s.gtw s.gth).2.1)
def Scn.ord (s:Scn):List Int:=zJq (ints s.oxs) s.tiles
def Scn.pic (s:Scn) (k:Nat):Im:=zQT (nAt s.pxs (k*5)) (nAt s.pxs (k*5+1)) (nAt s.pxs (k*5+2)) (nAt s.pxs (k*5+3)) (lAt s.pxs (k*5+4)) (cAt s.pxs (k*5+4)) s.c.a s.c.b s.c.c s.c.d s.most
def Scn.pics (s:Scn) (k:Nat):List Im:=(List.range k).map s.pic
def Scn.solo (s:Scn):Im:=zQi s.gw s.gh ⟨s.most,0,0,s.most,s.most⟩
def Scn.ims (s:Scn):List Im:=if min s.pn 4=0 then [s.solo] else s.pics (min s.pn 4)
def Scn.step (s:Scn) (r:Rw) (z:List Oq × List Oq):List Oq × List Oq:=
 if modS r.k 8=0∧0 < z.2.length then (z.1++[popO],z.2.dropLast)
 else
  let o:=gOp r (decide (modS r.k 8 < 3)) s.ims.length s.c (ctxB z.2) s.most
  (z.1++[o],if modS r.k 8 < 3 then z.2++[o] else z.2)
def Scn.run (s:Scn):Nat→List Oq × List Oq
 | 0=>([],[])
 | k+1=>s.step (rwAt s.rxs (k*11)) (s.run k)
def Scn.ops (s:Scn):List Oq:=(s.run (min s.rn 9)).1++List.replicate (s.run (min s.rn 9)).2.length popO
def jJ5 (n:Nat) (xs:List DV):Prop:=xs.length=n*5∧∀ k,k < n→xs[k*5]?=some (.int .i64 (nAt xs (k*5)))∧xs[k*5+1]?=some (.int .i64 (nAt xs (k*5+1)))∧xs[k*5+1+1]?=some (.int .i64 (nAt xs (k*5+1+1)))∧xs[k*5+1+1+1]?=some (.int .i64 (nAt xs (k*5+1+1+1)))∧xs[k*5+1+1+1+1]?=some (.sl (lAt xs (k*5+1+1+1+1)) (cAt xs (k*5+1+1+1+1)))∧Is5 (lAt xs (k*5+1+1+1+1)) (cAt xs (k*5+1+1+1+1))
def jVy (n:Nat) (xs:List DV):Prop:=xs.length=n*11∧∀ i,i < n*11→xs[i]?=some (.int .i64 (nAt xs i))
def Scn.ok (s:Scn):Prop:=(s.oxs=is (ints s.oxs)∧s.on=s.oxs.length)∧jJ5 s.pn s.pxs∧jVy s.rn s.rxs
theorem Scn.facts (s:Scn):(0≤modS s.x 13∧modS s.x 13 < 13)∧(0≤modS s.y 13∧modS s.y 13 < 13)∧(1≤s.gw∧s.gw≤5)∧(1≤s.gh∧s.gh≤4)∧(1≤s.gtw∧s.gtw≤s.gw)∧(1≤s.gth∧s.gth≤s.gh):=by
 have a:=@zZr s.x 13 (by omega) (by omega)
 have b:=@zZr s.y 13 (by omega) (by omega)
 have c:=@zZr s.w 5 (by omega) (by omega)
 have d:=@zZr s.h 4 (by omega) (by omega)
 have e:1≤s.gw∧s.gw≤5:=by unfold Scn.gw; omega
 have f:1≤s.gh∧s.gh≤4:=by unfold Scn.gh; omega
 have g:=@zZr s.tw s.gw (by omega) (by omega)
 have h:=@zZr s.th s.gh (by omega) (by omega)
 exact ⟨a,b,e,f,by unfold Scn.gtw; omega,by unfold Scn.gth; omega⟩
theorem Scn.pics_succ (s:Scn) (k:Nat):s.pics (k+1)=s.pics k++[s.pic k]:=by simp [Scn.pics,List.range_succ]
theorem Scn.pics_len (s:Scn) (k:Nat):(s.pics k).length=k:=by simp [Scn.pics]
theorem Scn.ims_len (s:Scn):1≤s.ims.length∧s.ims.length≤4:=by
 unfold Scn.ims
 split
 ·simp
 ·rw [Scn.pics_len]; omega
theorem Scn.run_len (s:Scn) (k:Nat):(s.run k).1.length=k∧(s.run k).2.length≤k:=by
 induction k with
 | zero=>simp [Scn.run]
 | succ k ih=>
  simp only [Scn.run,Scn.step]
  split
  ·simp; omega
  ·simp only []
   split <;> simp <;> omega
theorem Scn.most_in (s:Scn):s.most=255∨s.most=65535:=by
 unfold Scn.most gMax
 split <;> simp
theorem Scn.ims_isU (s:Scn):∀ m∈s.ims,m.isU:=by
 intro m hm
 unfold Scn.ims at hm
 split at hm
 ·rw [List.mem_singleton] at hm; subst hm; exact zYQ _ _ _
 ·simp only [Scn.pics,List.mem_map] at hm
  obtain ⟨k,_,rfl⟩:=hm
  exact jXd _ _ _ _ _ _ _ _ _ _ _
theorem Scn.c_facts (s:Scn):s.c.c - s.c.a=s.gw∧s.c.d - s.c.b=s.gh ∧ -6≤s.c.a∧s.c.a≤6 ∧ -6≤s.c.b∧s.c.b≤6:=by
 have:=s.facts
 simp only [Scn.c,Scn.gw,Scn.gh] at this ⊢
 omega
theorem Scn.bits_of (s:Scn):(gMax s.b > 255→16=s.bits)∧(¬ gMax s.b > 255→8=s.bits):=by
 unfold Scn.bits Scn.most
 exact ⟨fun h=>by rw [if_pos h],fun h=>by rw [if_neg h]⟩
theorem cnt1 {n w:Int} (h:1≤w) (hw:w≤n) (hn:n≤5):1≤IntKind.wrap .i64 (Int.tdiv (IntKind.wrap .i64 (IntKind.wrap .i64 (IntKind.wrap .i64 n+w) - 1)) w)∧IntKind.wrap .i64 (Int.tdiv (IntKind.wrap .i64 (IntKind.wrap .i64 (IntKind.wrap .i64 n+w) - 1)) w)≤n:=by
 rw [IntWalk.i64_in n ⟨by omega,by omega⟩,IntWalk.i64_in (n+w) ⟨by omega,by omega⟩,IntWalk.i64_in (n+w - 1) ⟨by omega,by omega⟩,Int.tdiv_eq_ediv_of_nonneg (by omega)]
 have:1≤(n+w - 1) / w∧(n+w - 1) / w≤n:=by
  rcases (show w=1∨w=2∨w=3∨w=4∨w=5 by omega) with rfl | rfl | rfl | rfl | rfl <;> omega
 rw [IntWalk.i64_in _ ⟨by omega,by omega⟩]
 exact this
theorem Scn.cnt (s:Scn):(cntS s.c s.gtw s.gth).2.2=true∧(1≤(cntS s.c s.gtw s.gth).1∧(cntS s.c s.gtw s.gth).1≤5)∧1≤(cntS s.c s.gtw s.gth).2.1∧(cntS s.c s.gtw s.gth).2.1≤4:=by
 obtain ⟨f1,f2,f3,f4,f5,f6⟩:=s.facts
 have CF:=s.c_facts
 have he:Rc.empty s.c=false:=by
  rw [Rc.empty_iff]; omega
 unfold cntS
 rw [he,if_neg (by simp),CF.1,CF.2.1,if_neg (by rw [IntWalk.i64_in _ ⟨by omega,by omega⟩,IntWalk.i64_in _ ⟨by omega,by omega⟩]; omega)]
 have a:=cnt1 f5.1 f5.2 (by omega)
 have b:=cnt1 f6.1 f6.2 (by omega)
 exact ⟨rfl,⟨a.1,Int.le_trans a.2 (by omega)⟩,b.1,Int.le_trans b.2 (by omega)⟩
theorem Scn.tiles_in (s:Scn):0≤s.tiles∧s.tiles≤20:=by
 obtain ⟨_,a,b⟩:=s.cnt
 unfold Scn.tiles
 generalize (cntS s.c s.gtw s.gth).1=x at *
 generalize (cntS s.c s.gtw s.gth).2.1=y at *
 have h1:0≤x*y:=Int.mul_nonneg (by omega) (by omega)
 have h2:x*y≤5*4:=Int.mul_le_mul a.2 b.2 (by omega) (by omega)
 rw [IntWalk.i64_in _ ⟨by omega,by omega⟩]
 omega
theorem Scn.run_pop {s:Scn} {k:Nat} (h:modS (rwAt s.rxs (k*11)).k 8=0∧0 < (s.run k).2.length):s.run (k+1)=((s.run k).1++[popO],(s.run k).2.dropLast):=by
 simp only [Scn.run,Scn.step]
 rw [if_pos h]
theorem Scn.run_op {s:Scn} {k:Nat} (h:¬ (modS (rwAt s.rxs (k*11)).k 8=0∧0 < (s.run k).2.length)) {o:Oq} (ho:o=gOp (rwAt s.rxs (k*11)) (decide (modS (rwAt s.rxs (k*11)).k 8 < 3)) s.ims.length s.c (ctxB (s.run k).2) s.most) :
  (o.kind=2→s.run (k+1)=((s.run k).1++[o],(s.run k).2++[o]))∧(o.kind≠2→s.run (k+1)=((s.run k).1++[o],(s.run k).2)):=by
 have e:s.run (k+1)=((s.run k).1++[o],if modS (rwAt s.rxs (k*11)).k 8 < 3 then (s.run k).2++[o] else (s.run k).2):=by
  simp only [Scn.run,Scn.step]
  rw [if_neg h,← ho]
 have hk:o.kind=if modS (rwAt s.rxs (k*11)).k 8 < 3 then 2 else 1:=by
  rw [ho]
  simp [gOp]
 rw [e,hk]
 split <;> simp
theorem jYA {l:List Oq} (h:0 < l.length):ctxB l=(l[l.length - 1].iso && !l[l.length - 1].kno):=by
 unfold ctxB
 rw [List.getLast?_eq_getElem?,List.getElem?_eq_getElem (by omega)]
def gZ7 (xs:List RV):Option RV:=match xs with | [.d (.int _ w),.d (.int _ h)]=>some (RV.d (dQ (zQY w h))) | _=>none
def gZ8 (xs:List RV):Option RV:=match xs with | [.agg [.int _ w,.int _ h,.int _ s,.sl n xs]]=>some (RV.d (dQ (zQO w h s n))) | _=>none
def gZ9 (xs:List RV):Option RV:=match xs with | [.agg [.int _ w,.int _ h,.bool so,.int _ c0,.int _ c1,.int _ c2,.int _ ca,.int _ cf,.int _ w0,.int _ h0,.int _ s0,.sl n0 xs0,.int _ w1,.int _ h1,.int _ s1,.sl n1 xs1,.int _ w2,.int _ h2,.int _ s2,.sl n2 xs2,.int _ w3,.int _ h3,.int _ s3,.sl n3 xs3,.int _ w4,.int _ h4,.int _ s4,.sl n4 xs4]]=>some (RV.d (dQ (Im.formed ⟨w,h,so,⟨c0,c1,c2,ca,cf⟩,⟨w0,h0,s0,n0,xs0⟩,⟨w1,h1,s1,n1,xs1⟩,⟨w2,h2,s2,n2,xs2⟩,⟨w3,h3,s3,n3,xs3⟩,⟨w4,h4,s4,n4,xs4⟩⟩))) | _=>none
def gZ10 (xs:List RV):Option RV:=match xs with | [.agg [.int _ w,.int _ h,.bool so,.int _ c0,.int _ c1,.int _ c2,.int _ ca,.int _ cf,.int _ w0,.int _ h0,.int _ s0,.sl n0 xs0,.int _ w1,.int _ h1,.int _ s1,.sl n1 xs1,.int _ w2,.int _ h2,.int _ s2,.sl n2 xs2,.int _ w3,.int _ h3,.int _ s3,.sl n3 xs3,.int _ w4,.int _ h4,.int _ s4,.sl n4 xs4],.d (.int _ x),.d (.int _ y)]=>let a:=(Im.px ⟨w,h,so,⟨c0,c1,c2,ca,cf⟩,⟨w0,h0,s0,n0,xs0⟩,⟨w1,h1,s1,n1,xs1⟩,⟨w2,h2,s2,n2,xs2⟩,⟨w3,h3,s3,n3,xs3⟩,⟨w4,h4,s4,n4,xs4⟩⟩ x y); some (RV.agg [DV.int .u16 a.a,DV.int .u16 a.b,DV.int .u16 a.c,DV.int .u16 a.al,DV.int .u16 a.f]) | _=>none
def gZ11 (xs:List RV):Option RV:=match xs with | [.d (.int _ w),.d (.int _ h),.agg [.int _ c0,.int _ c1,.int _ c2,.int _ ca,.int _ cf]]=>let a:=(zQi w h ⟨c0,c1,c2,ca,cf⟩); some (RV.agg [DV.int .i64 a.w,DV.int .i64 a.h,DV.bool a.so,DV.int .u16 a.c.a,DV.int .u16 a.c.b,DV.int .u16 a.c.c,DV.int .u16 a.c.al,DV.int .u16 a.c.f,DV.int .i64 a.p0.w,DV.int .i64 a.p0.h,DV.int .i64 a.p0.s,DV.sl a.p0.n a.p0.xs,DV.int .i64 a.p1.w,DV.int .i64 a.p1.h,DV.int .i64 a.p1.s,DV.sl a.p1.n a.p1.xs,DV.int .i64 a.p2.w,DV.int .i64 a.p2.h,DV.int .i64 a.p2.s,DV.sl a.p2.n a.p2.xs,DV.int .i64 a.p3.w,DV.int .i64 a.p3.h,DV.int .i64 a.p3.s,DV.sl a.p3.n a.p3.xs,DV.int .i64 a.p4.w,DV.int .i64 a.p4.h,DV.int .i64 a.p4.s,DV.sl a.p4.n a.p4.xs]) | _=>none
def gZ12 (xs:List RV):Option RV:=match xs with | [.agg [.int _ w,.int _ h,.bool so,.int _ c0,.int _ c1,.int _ c2,.int _ ca,.int _ cf,.int _ w0,.int _ h0,.int _ s0,.sl n0 xs0,.int _ w1,.int _ h1,.int _ s1,.sl n1 xs1,.int _ w2,.int _ h2,.int _ s2,.sl n2 xs2,.int _ w3,.int _ h3,.int _ s3,.sl n3 xs3,.int _ w4,.int _ h4,.int _ s4,.sl n4 xs4],.d (.int _ most)]=>some (rJ (Im.valid ⟨w,h,so,⟨c0,c1,c2,ca,cf⟩,⟨w0,h0,s0,n0,xs0⟩,⟨w1,h1,s1,n1,xs1⟩,⟨w2,h2,s2,n2,xs2⟩,⟨w3,h3,s3,n3,xs3⟩,⟨w4,h4,s4,n4,xs4⟩⟩ most)) | _=>none
def gZ13 (xs:List RV):Option RV:=match xs with | []=>some (RV.tup [RV.tup [rJ 37,rJ 5]]) | [.agg [.int _ w,.int _ h,.bool so,.int _ c0,.int _ c1,.int _ c2,.int _ ca,.int _ cf,.int _ w0,.int _ h0,.int _ s0,.sl n0 xs0,.int _ w1,.int _ h1,.int _ s1,.sl n1 xs1,.int _ w2,.int _ h2,.int _ s2,.sl n2 xs2,.int _ w3,.int _ h3,.int _ s3,.sl n3 xs3,.int _ w4,.int _ h4,.int _ s4,.sl n4 xs4]]=>some (RV.d (dS (Im.pixels ⟨w,h,so,⟨c0,c1,c2,ca,cf⟩,⟨w0,h0,s0,n0,xs0⟩,⟨w1,h1,s1,n1,xs1⟩,⟨w2,h2,s2,n2,xs2⟩,⟨w3,h3,s3,n3,xs3⟩,⟨w4,h4,s4,n4,xs4⟩⟩).length (pxs (Im.pixels ⟨w,h,so,⟨c0,c1,c2,ca,cf⟩,⟨w0,h0,s0,n0,xs0⟩,⟨w1,h1,s1,n1,xs1⟩,⟨w2,h2,s2,n2,xs2⟩,⟨w3,h3,s3,n3,xs3⟩,⟨w4,h4,s4,n4,xs4⟩⟩)))) | _=>none
def gZ14 (xs:List RV):Option RV:=match xs with | [.d (.int _ n)]=>some (RV.d (dK (gMax n))) | _=>none
def gZ15 (xs:List RV):Option RV:=match xs with | [.d (.int _ n),.d (.int _ most)]=>some (RV.d (dK (zQS n most))) | _=>none
def gZ16 (xs:List RV):Option RV:=match xs with | []=>some (RV.tup [RV.tup [rJ 37,rJ 5]]) | [.agg [.int _ mood,.sl L xs],.d (.int _ n),.d (.int _ most)]=>some (RV.d (dS n.toNat (pxs (zQC mood L xs most n.toNat)))) | _=>none
def gZ17 (xs:List AV) (bs:List Bx):Option Ret:=match xs,bs with | [AV.one (Cl.d (DV.int _ w)),AV.one (Cl.d (DV.int _ h)),AV.one (Cl.d (DV.sl n xs))],[]=>some ⟨AV.tup [AV.agg [cJ (imOf w h (zQk xs)).w,cJ (imOf w h (zQk xs)).h,Cl.d (dQ (imOf w h (zQk xs)).so),cK (imOf w h (zQk xs)).c.a,cK (imOf w h (zQk xs)).c.b,cK (imOf w h (zQk xs)).c.c,cK (imOf w h (zQk xs)).c.al,cK (imOf w h (zQk xs)).c.f,cJ (imOf w h (zQk xs)).p0.w,cJ (imOf w h (zQk xs)).p0.h,cJ (imOf w h (zQk xs)).p0.s,Cl.ref 0 (imOf w h (zQk xs)).p0.n,cJ (imOf w h (zQk xs)).p1.w,cJ (imOf w h (zQk xs)).p1.h,cJ (imOf w h (zQk xs)).p1.s,Cl.ref 1 (imOf w h (zQk xs)).p1.n,cJ (imOf w h (zQk xs)).p2.w,cJ (imOf w h (zQk xs)).p2.h,cJ (imOf w h (zQk xs)).p2.s,Cl.ref 2 (imOf w h (zQk xs)).p2.n,cJ (imOf w h (zQk xs)).p3.w,cJ (imOf w h (zQk xs)).p3.h,cJ (imOf w h (zQk xs)).p3.s,Cl.ref 3 (imOf w h (zQk xs)).p3.n,cJ (imOf w h (zQk xs)).p4.w,cJ (imOf w h (zQk xs)).p4.h,cJ (imOf w h (zQk xs)).p4.s,Cl.ref 4 (imOf w h (zQk xs)).p4.n],AV.one (Cl.d (dQ (ofOk w h n)))],[Bx.row 34 1 (imOf w h (zQk xs)).p0.xs,Bx.row 34 1 (imOf w h (zQk xs)).p1.xs,Bx.row 34 1 (imOf w h (zQk xs)).p2.xs,Bx.row 34 1 (imOf w h (zQk xs)).p3.xs,Bx.row 34 1 (imOf w h (zQk xs)).p4.xs],true⟩ | _,_=>none
def gamI:Gam where
 pure:=fun f xs=>
  if f=14 then gZ0 xs else
  if f=125 then gZ7 xs else
  if f=92 then gZ7 xs else
  if f=146 then gZ7 xs else
  if f=126 then (match xs with | [.agg [.int _ w,.int _ h,.int _ s,.sl n xs]]=>some (RV.d (dQ (zY5 ⟨w,h,s,n,xs⟩))) | _=>none) else
  if f=147 then (match xs with | [.d (.int _ w),.d (.int _ h),.d (.int _ s)]=>some (rJ (lenW w h s)) | _=>none) else
  if f=127 then gZ8 xs else
  if f=129 then gZ8 xs else
  if f=122 then (match xs with | [.agg [.int _ c0,.int _ c1,.int _ c2,.int _ ca,.int _ cf],.d (.int _ most)]=>some (RV.d (dQ (Px.ok ⟨c0,c1,c2,ca,cf⟩ most))) | _=>none) else
  if f=99 then gZ9 xs else
  if f=102 then (match xs with | [.agg [.int _ w,.int _ h,.bool so,.int _ c0,.int _ c1,.int _ c2,.int _ ca,.int _ cf,.int _ w0,.int _ h0,.int _ s0,.sl n0 xs0,.int _ w1,.int _ h1,.int _ s1,.sl n1 xs1,.int _ w2,.int _ h2,.int _ s2,.sl n2 xs2,.int _ w3,.int _ h3,.int _ s3,.sl n3 xs3,.int _ w4,.int _ h4,.int _ s4,.sl n4 xs4]]=>some (RV.d (dQ (Im.inner ⟨w,h,so,⟨c0,c1,c2,ca,cf⟩,⟨w0,h0,s0,n0,xs0⟩,⟨w1,h1,s1,n1,xs1⟩,⟨w2,h2,s2,n2,xs2⟩,⟨w3,h3,s3,n3,xs3⟩,⟨w4,h4,s4,n4,xs4⟩⟩))) | _=>none) else
  if f=66 then gZ9 xs else
  if f=101 then gZ10 xs else
  if f=67 then gZ10 xs else
  if f=121 then (match xs with | [.agg [.int _ w,.int _ h,.bool so,.int _ c0,.int _ c1,.int _ c2,.int _ ca,.int _ cf,.int _ w0,.int _ h0,.int _ s0,.sl n0 xs0,.int _ w1,.int _ h1,.int _ s1,.sl n1 xs1,.int _ w2,.int _ h2,.int _ s2,.sl n2 xs2,.int _ w3,.int _ h3,.int _ s3,.sl n3 xs3,.int _ w4,.int _ h4,.int _ s4,.sl n4 xs4]]=>some (rJ (Im.shape ⟨w,h,so,⟨c0,c1,c2,ca,cf⟩,⟨w0,h0,s0,n0,xs0⟩,⟨w1,h1,s1,n1,xs1⟩,⟨w2,h2,s2,n2,xs2⟩,⟨w3,h3,s3,n3,xs3⟩,⟨w4,h4,s4,n4,xs4⟩⟩)) | _=>none) else
  if f=114 then gZ11 xs else
  if f=22 then gZ11 xs else
  if f=94 then gZ12 xs else
  if f=61 then gZ13 xs else
  if f=33 then gZ13 xs else
  if f=18 then gZ14 xs else
  if f=50 then gZ15 xs else
  if f=91 then (match xs with | [.agg [.int _ n0,.int _ n1,.int _ n2,.int _ n3,.int _ n4],.d (.int _ most)]=>let a:=(zZv n0 n1 n2 n3 n4 most); some (RV.agg [dK a.a,dK a.b,dK a.c,dK a.al,dK a.f]) | _=>none) else
  if f=47 then gZ16 xs else
  none
 modes:=fun f=>
  if f=100 then some ([true,true],0,2) else
  if f=108 then some ([true,true,true],0,5) else
  if f=48 then some ([true,true,true],0,5) else
  none
 proc:=fun f xs bs=>
  if f=100 then (match xs,bs with | [AV.one (Cl.d (DV.int _ w)),AV.one (Cl.d (DV.int _ h))],[]=>some ⟨AV.one (Cl.clo 128 [Cap.ptr 0 0,Cap.ptr 1 0]),[bC [cJ h],bC [cJ w]],false⟩ | _,_=>none) else
  if f=108 then gZ17 xs bs else
  if f=48 then gZ17 xs bs else
  none
 iter:=fun f cs=>
  if f=128 then (match cs with | [(true,[DV.int _ h]),(true,[DV.int _ w])]=>some ((w.toNat*h.toNat),fun _k=>[dJ ((_k % w.toNat:Nat):Int),dJ ((_k / w.toNat:Nat):Int)]) | _=>none) else
  none
section
attribute [local irreducible] Ans AnsO AnsG AnsN AnsI
theorem zK4 (n:Int):Ans prog 18 [rJ (n)] (RV.d (dK (gMax n))):=
 zQj (Γ:=gamI) Ann.leaf zQy Tryz.func18 rfl (Nat.le_of_ble_eq_true rfl) fun hwf=>by
  refine Eq.mpr (by kernel_rfl:_=(let a:=(modS n (3:Int)); tU2 ((Ans prog 14 [rJ n,rJ 3] (rJ a))∧True∧(((a==2)=true→True∧RV.d (dK 65535)=RV.d (dK (gMax n)))∧((a==2)=false→True∧RV.d (dK 255)=RV.d (dK (gMax n))))))) ?_
  delta tU2 dK rJ
  simp only [sS,zQH]
  unfold gMax; grind
theorem zXo (n most:Int):Ans prog 50 [rJ (n),RV.d (dK most)] (RV.d (dK (zQS n most))):=
 zQj (Γ:=gamI) Ann.leaf zQy Tryz.func50 rfl (Nat.le_of_ble_eq_true rfl) fun hwf=>by
  refine Eq.mpr (by kernel_rfl:_=(let a:=(modS n (8:Int)); let d:=(a==1); let c:=(dK (zQS n most)); let b:=(wK (Int.tdiv n (8:Int))); let e:=(dJ b); let f:=(wK ((wK most)+1)); let g:=(((a==3)=true→tU2 (((8:Int)≠0)∧(Ans prog 14 [RV.d e,rJ 2] (rJ (modS b (2:Int))))∧True∧((2:Int)≠0)∧tU2 (RV.d (dK (IntKind.wrap .u16 (wK (Int.tdiv (wK ((wK most)+(modS b (2:Int)))) (2:Int)))))=RV.d c)))∧((a==3)=false→tU2 (((a==4)=true→tU2 (((8:Int)≠0)∧(Ans prog 14 [RV.d e,rJ 4] (rJ (modS b (4:Int))))∧tU3 (RV.d (dK (IntKind.wrap .u16 (min (wK most) (modS b (4:Int)))))=RV.d c)))∧((a==4)=false→True∧((8:Int)≠0)∧tU2 ((Ans prog 14 [RV.d e,rJ f] (rJ (modS b f)))∧tU2 (RV.d (dK (IntKind.wrap .u16 (modS b f)))=RV.d c)))))); tU5 ((Ans prog 14 [rJ n,rJ 8] (rJ a))∧tU2 (((a==0)=true→True∧RV.d (dK 0)=RV.d c)∧((a==0)=false→tU2 ((d=true→((d=true→tU2 (RV.d (dK most)=RV.d c))∧(d=false→tU2 g)))∧(d=false→tU2 (((a==2)=true→tU2 (RV.d (dK most)=RV.d c))∧((a==2)=false→tU2 g))))))))) ?_
  delta tU2 tU3 tU5 dJ dK wK rJ
  simp only [sS,zQH,zK4]
  unfold zQS; grind
theorem zW8 (n0 n1 n2 n3 n4 most:Int):Ans prog 91 [RV.agg [dJ n0,dJ n1,dJ n2,dJ n3,dJ n4],RV.d (dK most)] (RV.agg [dK ((zZv n0 n1 n2 n3 n4 most).a),dK ((zZv n0 n1 n2 n3 n4 most).b),dK ((zZv n0 n1 n2 n3 n4 most).c),dK ((zZv n0 n1 n2 n3 n4 most).al),dK ((zZv n0 n1 n2 n3 n4 most).f)]):=
 zQj (Γ:=gamI) Ann.leaf zQy Tryz.func91 rfl (Nat.le_of_ble_eq_true rfl) fun hwf=>by
  refine Eq.mpr (by kernel_rfl:_=(let g:=(modS n3 (3:Int)); let c:=((5:Nat):Int); let a:=(zQS n4 most); let d:=(zZv n0 n1 n2 n3 n4 most); let e:=(dK a); let h:=(0≤(3:Int)∧(3:Int) < c); let i:=(wK (Int.tdiv n3 (3:Int))); let b:=(zQS i a); let f:=(dK b); let j:=(0≤(0:Int)∧(0:Int) < c); let k:=(0≤(1:Int)∧(1:Int) < c); let l:=(0≤(2:Int)∧(2:Int) < c); let m:=[dK d.a,dK d.b,dK d.c,dK d.al,dK d.f]; tU2 ((0≤(4:Int)∧(4:Int) < c)∧tU2 ((Ans prog 50 [rJ n4,RV.d (dK most)] (RV.d e))∧tU3 (h∧True∧(Ans prog 14 [rJ n3,rJ 3] (rJ g))∧True∧(((decide (g > 0))=true→h∧True∧((3:Int)≠0)∧True∧(Ans prog 50 [rJ i,RV.d e] (RV.d f))∧True∧j∧tU2 ((Ans prog 50 [rJ n0,RV.d f] (RV.d (dK (zQS n0 b))))∧k∧tU2 ((Ans prog 50 [rJ n1,RV.d f] (RV.d (dK (zQS n1 b))))∧l∧tU2 ((Ans prog 50 [rJ n2,RV.d f] (RV.d (dK (zQS n2 b))))∧tU5 ((true=true)∧RV.agg [dK (zQS n0 b),dK (zQS n1 b),dK (zQS n2 b),dK b,dK a]=RV.agg m)))))∧((decide (g > 0))=false→j∧tU2 ((Ans prog 50 [rJ n0,RV.d e] (RV.d (dK (zQS n0 a))))∧k∧tU2 ((Ans prog 50 [rJ n1,RV.d e] (RV.d (dK (zQS n1 a))))∧l∧tU2 ((Ans prog 50 [rJ n2,RV.d e] (RV.d (dK (zQS n2 a))))∧tU5 ((true=true)∧RV.agg [dK (zQS n0 a),dK (zQS n1 a),dK (zQS n2 a),dK a,dK a]=RV.agg m))))))))))) ?_
  delta tU2 tU3 tU5 dK wK rJ
  simp only [sS,zQH,zK4,zXo,zXo]
  simp [zZv]; grind
theorem zVL (mood:Int) (L:Nat) (xs:List DV) (n most:Int) (hx:Is5 L xs) (hn:n≤16777216):AnsO prog 47 [RV.agg [dJ mood,dS L xs],rJ (n),RV.d (dK most)] 37 5 n.toNat (pxs (zQC mood L xs most n.toNat)):=
 zXP (t:=6) (Γ:=gamI) (Ann.seq Ann.leaf (Ann.seq Ann.leaf (Ann.seq (Ann.seq Ann.leaf (Ann.loop ⟨Nat,fun k=>k≤n.toNat,fun k=>⟨[(1,aJ n),(2,AV.one (cK most)),(3,AV.one (Cl.ptr 3 0)),(7,AV.one (Cl.ref 5000 k)),(8,aJ (k:Int))],[(3,bC [cJ mood,Cl.d (dS L xs)]),(5000,Bx.row 37 5 (pxs (zQC mood L xs most k)))]⟩,fun k=>n.toNat - k⟩ fun k=>Ann.leaf)) Ann.leaf))) zQy Tryz.func47 rfl (Nat.le_of_ble_eq_true rfl) rfl fun hwf=>by
  refine Eq.mpr (by kernel_rfl:_=(let Q:=(zQC mood L xs most n.toNat); let s:=(modS mood (6:Int)); let j:=(zZv (0:Int) (0:Int) (0:Int) (0:Int) (0:Int) most); let q:=([dK 0,dK 0,dK 0,dK 0,dK 0]); let t:=([dK j.a,dK j.b,dK j.c,dK most,dK most]); let l:=(s==0); let m:=(s==1); let o:=(s==2); let R:=(dJ n=dJ n); let S:=(dK most=dK most); let T:=[dJ mood,dS L xs]; let g:=(T=T); let A:=fun (k:Nat)=>[dK (zZv (nAt xs ((Int.tmod (k:Int) (L:Int)).toNat*5)) (nAt xs ((Int.tmod (k:Int) (L:Int)).toNat*5+1)) (nAt xs ((Int.tmod (k:Int) (L:Int)).toNat*5+1+1)) (nAt xs ((Int.tmod (k:Int) (L:Int)).toNat*5+1+1+1)) (nAt xs ((Int.tmod (k:Int) (L:Int)).toNat*5+1+1+1+1)) most).a,dK (zZv (nAt xs ((Int.tmod (k:Int) (L:Int)).toNat*5)) (nAt xs ((Int.tmod (k:Int) (L:Int)).toNat*5+1)) (nAt xs ((Int.tmod (k:Int) (L:Int)).toNat*5+1+1)) (nAt xs ((Int.tmod (k:Int) (L:Int)).toNat*5+1+1+1)) (nAt xs ((Int.tmod (k:Int) (L:Int)).toNat*5+1+1+1+1)) most).b,dK (zZv (nAt xs ((Int.tmod (k:Int) (L:Int)).toNat*5)) (nAt xs ((Int.tmod (k:Int) (L:Int)).toNat*5+1)) (nAt xs ((Int.tmod (k:Int) (L:Int)).toNat*5+1+1)) (nAt xs ((Int.tmod (k:Int) (L:Int)).toNat*5+1+1+1)) (nAt xs ((Int.tmod (k:Int) (L:Int)).toNat*5+1+1+1+1)) most).c,dK (zZv (nAt xs ((Int.tmod (k:Int) (L:Int)).toNat*5)) (nAt xs ((Int.tmod (k:Int) (L:Int)).toNat*5+1)) (nAt xs ((Int.tmod (k:Int) (L:Int)).toNat*5+1+1)) (nAt xs ((Int.tmod (k:Int) (L:Int)).toNat*5+1+1+1)) (nAt xs ((Int.tmod (k:Int) (L:Int)).toNat*5+1+1+1+1)) most).al,dK (zZv (nAt xs ((Int.tmod (k:Int) (L:Int)).toNat*5)) (nAt xs ((Int.tmod (k:Int) (L:Int)).toNat*5+1)) (nAt xs ((Int.tmod (k:Int) (L:Int)).toNat*5+1+1)) (nAt xs ((Int.tmod (k:Int) (L:Int)).toNat*5+1+1+1)) (nAt xs ((Int.tmod (k:Int) (L:Int)).toNat*5+1+1+1+1)) most).f]; let u:=(Ans prog 14 [rJ mood,rJ 6] (rJ s)); let d:=fun (k:Nat)=>(pxs (zQC mood L xs most k)); let e:=fun (k:Nat)=>fun (k':Nat)=>(n.toNat - k' < n.toNat - k); let h:=fun (k:Nat)=>fun (k':Nat)=>(R∧S∧(0=0)∧(k+1=k')∧(dJ (wK ((k:Int)+1))=dJ (k':Int))∧True); let U:=fun (k:Nat)=>fun (k':Nat)=>((h k k')∧(g∧((d k)++(A k)=pxs (zQC mood L xs most k'))∧True)); let B:=[dK j.a,dK j.b,dK j.c,dK j.al,dK j.f]; let V:=(Ans prog 91 [RV.agg [dJ 0,dJ 0,dJ 0,dJ 0,dJ 0],RV.d (dK most)] (RV.agg B)); let v:=fun (k:Nat)=>fun (k':Nat)=>((h k k')∧(g∧((d k)++B=pxs (zQC mood L xs most k'))∧True)); let C:=fun (k:Nat)=>[dK (zZv (nAt xs ((k:Int).toNat*5)) (nAt xs ((k:Int).toNat*5+1)) (nAt xs ((k:Int).toNat*5+1+1)) (nAt xs ((k:Int).toNat*5+1+1+1)) (nAt xs ((k:Int).toNat*5+1+1+1+1)) most).a,dK (zZv (nAt xs ((k:Int).toNat*5)) (nAt xs ((k:Int).toNat*5+1)) (nAt xs ((k:Int).toNat*5+1+1)) (nAt xs ((k:Int).toNat*5+1+1+1)) (nAt xs ((k:Int).toNat*5+1+1+1+1)) most).b,dK (zZv (nAt xs ((k:Int).toNat*5)) (nAt xs ((k:Int).toNat*5+1)) (nAt xs ((k:Int).toNat*5+1+1)) (nAt xs ((k:Int).toNat*5+1+1+1)) (nAt xs ((k:Int).toNat*5+1+1+1+1)) most).c,dK (zZv (nAt xs ((k:Int).toNat*5)) (nAt xs ((k:Int).toNat*5+1)) (nAt xs ((k:Int).toNat*5+1+1)) (nAt xs ((k:Int).toNat*5+1+1+1)) (nAt xs ((k:Int).toNat*5+1+1+1+1)) most).al,dK (zZv (nAt xs ((k:Int).toNat*5)) (nAt xs ((k:Int).toNat*5+1)) (nAt xs ((k:Int).toNat*5+1+1)) (nAt xs ((k:Int).toNat*5+1+1+1)) (nAt xs ((k:Int).toNat*5+1+1+1+1)) most).f]; let W:=fun (k:Nat)=>fun (k':Nat)=>((h k k')∧(g∧((d k)++(C k)=pxs (zQC mood L xs most k'))∧True)); tU4 ((∃ k:Nat,(k≤n.toNat)∧((R∧S∧(0=0)∧(0=k)∧(dJ 0=dJ (k:Int))∧True)∧(g∧([]=pxs (zQC mood L xs most k))∧True)))∧∀ k:Nat,let X:=(zZk 5 10 k 1 (d k) (A k)); let Y:=(zZk 5 10 k 1 (d k) (C k)); let D:=(nAt xs ((k:Int).toNat*5)); let E:=(nAt xs ((k:Int).toNat*5+1)); let F:=(nAt xs ((k:Int).toNat*5+1+1)); let G:=(nAt xs ((k:Int).toNat*5+1+1+1)); let H:=(nAt xs ((k:Int).toNat*5+1+1+1+1)); let w:=(zZk 5 10 k 1 (d k) q); let x:=(zZk 5 10 k 1 (d k) B); let p:=(decide ((k:Int) > 0)); let y:=(((d k)[0]?=some (dK (nAt (d k) 0)))∧((d k)[1]?=some (dK (nAt (d k) 1)))∧((d k)[2]?=some (dK (nAt (d k) 2)))∧((d k)[3]?=some (dK (nAt (d k) 3)))∧((d k)[4]?=some (dK (nAt (d k) 4)))∧True); let i:=(Int.tmod (k:Int) (L:Int)); let I:=(nAt xs (i.toNat*5)); let J:=(nAt xs (i.toNat*5+1)); let K:=(nAt xs (i.toNat*5+1+1)); let M:=(nAt xs (i.toNat*5+1+1+1)); let N:=(nAt xs (i.toNat*5+1+1+1+1)); let O:=(zZv D E F G H most); let Z:=([dK O.a,dK O.b,dK O.c,dK most,dK most]); let r:=([dK (nAt (d k) 0),dK (nAt (d k) 1),dK (nAt (d k) 2),dK (nAt (d k) 3),dK (nAt (d k) 4)]); let z:=(zZk 5 10 k 1 (d k) r); let P:=(zZv I J K M N most); let z0:=([dK P.a,dK P.b,dK P.c,dK most,dK most]); (k≤n.toNat)→tU3 (((decide ((k:Int) < n))=true→tU6 (((decide ((L:Int) > 0))=true→tU4 (((L:Int)≠0)∧tU7 (((decide (i < (L:Int)))=true→tU3 ((0≤Int.tmod (k:Int) (L:Int)∧Int.tmod (k:Int) (L:Int) < (L:Int)∧i.toNat*5 < xs.length)∧((xs[i.toNat*5]?=some (dJ I))∧(xs[i.toNat*5+1]?=some (dJ J))∧(xs[i.toNat*5+1+1]?=some (dJ K))∧(xs[i.toNat*5+1+1+1]?=some (dJ M))∧(xs[i.toNat*5+1+1+1+1]?=some (dJ N))∧True)∧tU3 ((Ans prog 91 [RV.agg [dJ I,dJ J,dJ K,dJ M,dJ N],RV.d (dK most)] (RV.agg (A k)))∧tU4 (u∧tU2 ((l=true→tU5 (w∧tU4 (∃ k':Nat,(k'≤n.toNat)∧(e k k')∧((h k k')∧(g∧((d k)++q=pxs (zQC mood L xs most k'))∧True)))))∧(l=false→tU2 ((m=true→True∧tU8 ((zZk 5 10 k 1 (d k) z0)∧tU4 (∃ k':Nat,(k'≤n.toNat)∧(e k k')∧((h k k')∧(g∧((d k)++z0=pxs (zQC mood L xs most k'))∧True)))))∧(m=false→tU2 ((o=true→True∧(k≤maxLen)∧True∧((p=true→True∧(0≤(0:Int)∧(0:Int) < (k:Int))∧y∧tU4 (z∧tU4 (∃ k':Nat,(k'≤n.toNat)∧(e k k')∧((h k k')∧(g∧((d k)++r=pxs (zQC mood L xs most k'))∧True)))))∧(p=false→tU3 (X∧tU4 (∃ k':Nat,(k'≤n.toNat)∧(e k k')∧(U k k'))))))∧(o=false→tU3 (X∧tU4 (∃ k':Nat,(k'≤n.toNat)∧(e k k')∧(U k k')))))))))))))∧((decide (i < (L:Int)))=false→tU2 (V∧tU4 (u∧tU2 ((l=true→tU5 (w∧tU4 (∃ k':Nat,(k'≤n.toNat)∧(e k k')∧((h k k')∧(g∧((d k)++q=pxs (zQC mood L xs most k'))∧True)))))∧(l=false→tU2 ((m=true→True∧tU8 ((zZk 5 10 k 1 (d k) t)∧tU4 (∃ k':Nat,(k'≤n.toNat)∧(e k k')∧((h k k')∧(g∧((d k)++t=pxs (zQC mood L xs most k'))∧True)))))∧(m=false→tU2 ((o=true→True∧(k≤maxLen)∧True∧((p=true→True∧(0≤(0:Int)∧(0:Int) < (k:Int))∧y∧tU4 (z∧tU4 (∃ k':Nat,(k'≤n.toNat)∧(e k k')∧((h k k')∧(g∧((d k)++r=pxs (zQC mood L xs most k'))∧True)))))∧(p=false→tU3 (x∧tU4 (∃ k':Nat,(k'≤n.toNat)∧(e k k')∧(v k k'))))))∧(o=false→tU3 (x∧tU4 (∃ k':Nat,(k'≤n.toNat)∧(e k k')∧(v k k')))))))))))))))∧((decide ((L:Int) > 0))=false→tU6 (((decide ((k:Int) < (L:Int)))=true→tU3 ((0≤(k:Int)∧(k:Int) < (L:Int)∧(k:Int).toNat*5 < xs.length)∧((xs[(k:Int).toNat*5]?=some (dJ D))∧(xs[(k:Int).toNat*5+1]?=some (dJ E))∧(xs[(k:Int).toNat*5+1+1]?=some (dJ F))∧(xs[(k:Int).toNat*5+1+1+1]?=some (dJ G))∧(xs[(k:Int).toNat*5+1+1+1+1]?=some (dJ H))∧True)∧tU3 ((Ans prog 91 [RV.agg [dJ D,dJ E,dJ F,dJ G,dJ H],RV.d (dK most)] (RV.agg (C k)))∧tU4 (u∧tU2 ((l=true→tU5 (w∧tU4 (∃ k':Nat,(k'≤n.toNat)∧(e k k')∧((h k k')∧(g∧((d k)++q=pxs (zQC mood L xs most k'))∧True)))))∧(l=false→tU2 ((m=true→True∧tU8 ((zZk 5 10 k 1 (d k) Z)∧tU4 (∃ k':Nat,(k'≤n.toNat)∧(e k k')∧((h k k')∧(g∧((d k)++Z=pxs (zQC mood L xs most k'))∧True)))))∧(m=false→tU2 ((o=true→True∧(k≤maxLen)∧True∧((p=true→True∧(0≤(0:Int)∧(0:Int) < (k:Int))∧y∧tU4 (z∧tU4 (∃ k':Nat,(k'≤n.toNat)∧(e k k')∧((h k k')∧(g∧((d k)++r=pxs (zQC mood L xs most k'))∧True)))))∧(p=false→tU3 (Y∧tU4 (∃ k':Nat,(k'≤n.toNat)∧(e k k')∧(W k k'))))))∧(o=false→tU3 (Y∧tU4 (∃ k':Nat,(k'≤n.toNat)∧(e k k')∧(W k k')))))))))))))∧((decide ((k:Int) < (L:Int)))=false→tU2 (V∧tU4 (u∧tU2 ((l=true→tU5 (w∧tU4 (∃ k':Nat,(k'≤n.toNat)∧(e k k')∧((h k k')∧(g∧((d k)++q=pxs (zQC mood L xs most k'))∧True)))))∧(l=false→tU2 ((m=true→True∧tU8 ((zZk 5 10 k 1 (d k) t)∧tU4 (∃ k':Nat,(k'≤n.toNat)∧(e k k')∧((h k k')∧(g∧((d k)++t=pxs (zQC mood L xs most k'))∧True)))))∧(m=false→tU2 ((o=true→True∧(k≤maxLen)∧True∧((p=true→True∧(0≤(0:Int)∧(0:Int) < (k:Int))∧y∧tU4 (z∧tU4 (∃ k':Nat,(k'≤n.toNat)∧(e k k')∧((h k k')∧(g∧((d k)++r=pxs (zQC mood L xs most k'))∧True)))))∧(p=false→tU3 (x∧tU4 (∃ k':Nat,(k'≤n.toNat)∧(e k k')∧(v k k'))))))∧(o=false→tU3 (x∧tU4 (∃ k':Nat,(k'≤n.toNat)∧(e k k')∧(v k k'))))))))))))))))∧((decide ((k:Int) < n))=false→tU2 ((37=37∧5=5)∧(pxs Q).length=n.toNat*5∧k=n.toNat∧pxs (zQC mood L xs most k)=pxs Q)))))) ?_
  delta tU2 tU3 tU4 tU5 tU6 tU7 tU8 dJ dK wK dS rJ
  simp only [sS,zQH,zK4,zXo,zXo,zW8,zW8]
  refine ⟨⟨0,Nat.zero_le _,⟨rfl,rfl⟩,rfl⟩,fun k hk=>⟨fun hlt=>?_,fun hge=>?_⟩⟩
  ·have hkn:k < n.toNat:=by omega
   have hnn:n.toNat≤16777216:=by omega
   have tm:Int.tmod (k:Int) (L:Int)=((k % L:Nat):Int):=rfl
   simp only [tm,Int.toNat_natCast,Nat.add_assoc,Nat.reduceAdd]
   rcases Nat.eq_zero_or_pos L with hL | hL
   ·subst hL
    have P1:zZv 0 0 0 0 0 most=gPx1 0 xs most k:=by simp [gPx1,gNum]
    have P0:gPx1 0 xs most 0=gPx1 0 xs most k:=by simp [gPx1,gNum]
    simp only [P1]
    (repeat' (first | apply And.intro | intro)) <;> (first | assumption | omega | exact A _ (by omega) | rfl | (rw [zZI,zZY]; done) | (unfold maxLen; omega) | exact zJb (by omega) _ (by omega) | (apply zHH hkn hnn; simp_all [gPx,Px.ds,Px.zero]; done) | (obtain ⟨v0,v1,v2,v3,v4⟩:=zGA (mood:=mood) (L:=L) (xs:=xs) (most:=most) (k:=k) (by omega) (eq_of_beq (by assumption)); apply zHH hkn hnn; simp_all [gPx,Px.ds]; done) | (obtain ⟨v0,v1,v2,v3,v4⟩:=zGA (mood:=mood) (L:=0) (xs:=xs) (most:=most) (k:=k) (by omega) (eq_of_beq (by assumption)); apply zHH hkn hnn; simp_all [gPx,Px.ds]; done) | (have P2:=P0 (by omega); apply zHH hkn hnn; simp_all [gPx,Px.ds]; done))
   ·have hmod:=Nat.mod_lt k hL
    have P1:zZv (nAt xs (k % L*5)) (nAt xs (k % L*5+1)) (nAt xs (k % L*5+2)) (nAt xs (k % L*5+3)) (nAt xs (k % L*5+4)) most=gPx1 L xs most k:=by simp [gPx1,gNum,hL]
    simp only [P1]
    have P0:k=0→gPx1 L xs most 0=gPx1 L xs most k:=fun h=>by rw [h]
    have A:=hx.2
    have B:=hx.1
    (repeat' (first | apply And.intro | intro)) <;> (first | assumption | omega | exact A _ (by omega) | rfl | (rw [zZI,zZY]; done) | (unfold maxLen; omega) | exact zJb (by omega) _ (by omega) | (apply zHH hkn hnn; simp_all [gPx,Px.ds,Px.zero]; done) | (obtain ⟨v0,v1,v2,v3,v4⟩:=zGA (mood:=mood) (L:=L) (xs:=xs) (most:=most) (k:=k) (by omega) (eq_of_beq (by assumption)); apply zHH hkn hnn; simp_all [gPx,Px.ds]; done) | (obtain ⟨v0,v1,v2,v3,v4⟩:=zGA (mood:=mood) (L:=0) (xs:=xs) (most:=most) (k:=k) (by omega) (eq_of_beq (by assumption)); apply zHH hkn hnn; simp_all [gPx,Px.ds]; done) | (have P2:=P0 (by omega); apply zHH hkn hnn; simp_all [gPx,Px.ds]; done))
  ·have:k=n.toNat:=by omega
   subst this
   rw [zZI,zZY]
   exact ⟨rfl,rfl,rfl⟩
def jKA (b:Int):Int:=if b=8 then 255 else if b=16 then 65535 else 0
def jJZ (b:Int):Bool:=decide (b=8∨b=16)
def errO (bits:Int) (mn:Nat) (o:Oq) (l:List Oq):Int:=
 if ¬ (o.kind=1∨o.kind=2∨o.kind=3) then 9
 else if o.fields=false then 10
 else if o.kind=3 then (if l=[] then 18 else 0)
 else if (o.kind=1∧(o.image < 0∨o.image≥(mn:Int)))∨o.mask < 0∨o.mask > (mn:Int) then 11
 else if ¬ (zUe o.x=true∧zUe o.y=true∧zUe o.mx=true∧zUe o.my=true) then 12
 else if o.opac > jKA bits then 13
 else if ¬ (1≤o.oper∧o.oper < 13) then 14
 else if ¬ (1≤o.mode∧o.mode < 13) then 15
 else if o.oper≠4∧ctxB l=false then 16
 else if o.kind=2∧64≤l.length then 17
 else 0
def jYm (bits:Int) (c:Rc) (tw th:Int) (l:List Int) (mn pn:Nat):Int:=
 if jJZ bits=false then 1
 else if c.empty=true∨c.area > 16777216∨zUe c.a=false∨zUe c.b=false then 2
 else if (cntS c tw th).2.2=false then 3
 else if jKq l (IntKind.wrap .i64 ((cntS c tw th).1*(cntS c tw th).2.1))=false then 4
 else if (mn:Int) > 64∨(pn:Int) > 4096 then 5
 else 0
def gZ18 (xs:List RV):Option RV:=match xs with | [.agg [.int _ a,.int _ b,.int _ c,.int _ d],.d (.int _ w),.d (.int _ h)]=>some (RV.tup [rJ (cntS ⟨a,b,c,d⟩ w h).1,rJ (cntS ⟨a,b,c,d⟩ w h).2.1,RV.d (dQ (cntS ⟨a,b,c,d⟩ w h).2.2)]) | _=>none
def jVH:Gam where
 pure:=fun f xs=>
  if f=45 then gZ6 xs else
  if f=19 then gZ18 xs else
  none
 modes:=fun f=>
  none
 proc:=fun f xs bs=>
  none
 iter:=fun f cs=>
  none
theorem zGQ (a b c d w h:Int):Ans prog 19 [RV.agg [dJ a,dJ b,dJ c,dJ d],rJ (w),rJ (h)] (RV.tup [rJ (((cntS ⟨a,b,c,d⟩ w h).1)),rJ (((cntS ⟨a,b,c,d⟩ w h).2.1)),RV.d (dQ ((cntS ⟨a,b,c,d⟩ w h).2.2))]):=
 zQj (Γ:=jVH) Ann.leaf zQy Tryz.func19 rfl (Nat.le_of_ble_eq_true rfl) fun hwf=>by
  refine Eq.mpr (by kernel_rfl:_=(let g:=[rJ 0,rJ 0,RV.d (dQ false)]; let f:=[rJ (cntS ⟨a,b,c,d⟩ w h).1,rJ (cntS ⟨a,b,c,d⟩ w h).2.1,RV.d (dQ (cntS ⟨a,b,c,d⟩ w h).2.2)]; let e:=(RV.tup g=RV.tup f); tU5 ((Ans prog 45 [RV.agg [dJ a,dJ b,dJ c,dJ d]] (RV.d (dQ (Rc.empty ⟨a,b,c,d⟩))))∧True∧(((Rc.empty ⟨a,b,c,d⟩)=false→tU4 (((decide (w < 1))=false→tU4 (((decide (h < 1))=false→True∧tU8 (((decide (w > (wK (c - a))))=false→tU8 (((decide (h > (wK (d - b))))=true→tU3 e)∧((decide (h > (wK (d - b))))=false→tU7 ((w≠0)∧tU8 ((h≠0)∧tU4 ((true=true)∧RV.tup [rJ (wK ((wK (Int.tdiv (wK ((wK (c - a)) - 1)) w))+1)),rJ (wK ((wK (Int.tdiv (wK ((wK (d - b)) - 1)) h))+1)),RV.d (dQ true)]=RV.tup f))))))∧((decide (w > (wK (c - a))))=(!false)→tU4 e)))∧((decide (h < 1))=(!false)→tU6 e)))∧((decide (w < 1))=(!false)→tU8 e)))∧((Rc.empty ⟨a,b,c,d⟩)=(!false)→tU2 (tU8 e)))))) ?_
  delta tU2 tU3 tU4 tU5 tU6 tU7 tU8 dJ dQ wK rJ
  simp only [sS,zGU]
  unfold cntS
  cases he:Rc.empty ⟨a,b,c,d⟩
  ·obtain ⟨e1,e2,e3,e4,e5,e6⟩:=(Rc.empty_iff _).1 he
   simp only at e1 e2 e3 e4 e5 e6
   have w1:IntKind.wrap .i64 (c - a)=c - a:=by rw [IntKind.wrap_i64]; omega
   have w2:IntKind.wrap .i64 (d - b)=d - b:=by rw [IntKind.wrap_i64]; omega
   simp only [w1,w2]
   have hq:∀ W v:Int,1≤v→v≤W→W≤2147483648→IntKind.wrap .i64 (IntKind.wrap .i64 (Int.tdiv (IntKind.wrap .i64 (W - 1)) v)+1)=IntKind.wrap .i64 (Int.tdiv (IntKind.wrap .i64 (IntKind.wrap .i64 (W+v) - 1)) v):=fun W v h1 h2 h3=>by
    have a1:IntKind.wrap .i64 (W - 1)=W - 1:=by rw [IntKind.wrap_i64]; omega
    have a2:IntKind.wrap .i64 (W+v)=W+v:=by rw [IntKind.wrap_i64]; omega
    have a3:IntKind.wrap .i64 (W+v - 1)=W+v - 1:=by rw [IntKind.wrap_i64]; omega
    rw [a1,a2,a3,Int.tdiv_eq_ediv_of_nonneg (by omega),Int.tdiv_eq_ediv_of_nonneg (by omega)]
    have b1:(W+v - 1) / v=(W - 1) / v+1:=by rw [show W+v - 1=(W - 1)+1*v by omega,Int.add_mul_ediv_right _ _ (by omega)]
    rw [b1]
    have b2:0≤(W - 1) / v:=Int.ediv_nonneg (by omega) (by omega)
    have b3:(W - 1) / v≤W - 1:=Int.ediv_le_self _ (by omega)
    rw [IntKind.wrap_i64 ((W - 1) / v)]
    congr 1
    omega
   by_cases h1:w < 1 <;> by_cases h3:h < 1 <;> by_cases h2:c - a < w <;> by_cases h4:d - b < h <;> simp [h1,h2,h3,h4] <;> first | omega | exact ⟨by omega,by omega,hq _ _ (by omega) (by omega) (by omega),hq _ _ (by omega) (by omega) (by omega)⟩
  ·simp
theorem jQ7:∀ (l:List Oq) (k:Nat),(ops l).take (k*12)=ops (l.take k)
 | [],k=>by simp [ops]
 | o::l,0=>by simp [ops]
 | o::l,k+1=>by
  have e:ops (o::l)=o.cells++ops l:=by simp [ops]
  have e2:ops ((o::l).take (k+1))=o.cells++ops (l.take k):=by simp [ops]
  rw [e,e2,List.take_append,List.take_of_length_le (by simp [Oq.cells]; omega),← jQ7 l k]
  congr 2
  simp [Oq.cells]; omega
def zH8 (o:Oq) (st:List Oq):List Oq:=if o.kind=2 then st++[o] else if o.kind=3 then st.dropLast else st
def runO (bits:Int) (mn:Nat):List Oq→Int→List Oq→Int × Int
 | [],i,st=>if st=[] then (0,0) else (18,i)
 | o::r,i,st=>if errO bits mn o st=0 then runO bits mn r (i+1) (zH8 o st) else (errO bits mn o st,i)
def opsE (bits:Int) (c:Rc) (tw th:Int) (l:List Int) (mn:Nat) (ps:List Oq):Int × Int:=
 if jYm bits c tw th l mn ps.length=0 then runO bits mn ps 0 [] else (jYm bits c tw th l mn ps.length,0)
def gZ19 (xs:List RV):Option RV:=match xs with | [.agg [.int _ vk,.int _ vim,.int _ vx,.int _ vy,.int _ vma,.int _ vmx,.int _ vmy,.int _ vop,.int _ vope,.int _ vmo,.int _ vfl],.d (.bool push),.d (.int _ imgs),.agg [.int _ ca,.int _ cb,.int _ cc,.int _ cd],.d (.bool free),.d (.int _ most)]=>let a:=(gOp ⟨vk,vim,vx,vy,vma,vmx,vmy,vop,vope,vmo,vfl⟩ push imgs ⟨ca,cb,cc,cd⟩ free most); some (RV.agg [DV.int .i64 a.kind,DV.int .i64 a.image,DV.int .i64 a.x,DV.int .i64 a.y,DV.int .i64 a.mask,DV.int .i64 a.mx,DV.int .i64 a.my,DV.int .u16 a.opac,DV.int .i64 a.oper,DV.int .i64 a.mode,DV.bool a.iso,DV.bool a.kno]) | _=>none
def jVp:Gam where
 pure:=fun f xs=>
  if f=14 then gZ0 xs else
  if f=50 then gZ15 xs else
  if f=49 then (match xs with | [.d (.int _ n),.d (.int _ corner)]=>some (rJ (gOff n corner)) | _=>none) else
  if f=23 then gZ19 xs else
  none
 modes:=fun f=>
  none
 proc:=fun f xs bs=>
  none
 iter:=fun f cs=>
  none
theorem zVK (n corner:Int) (hc : -100≤corner∧corner≤100):Ans prog 49 [rJ (n),rJ (corner)] (rJ ((gOff n corner))):=
 zQj (Γ:=jVp) Ann.leaf zQy Tryz.func49 rfl (Nat.le_of_ble_eq_true rfl) fun hwf=>by
  refine Eq.mpr (by kernel_rfl:_=(let a:=(modS n (3:Int)); let c:=(dJ (gOff n corner)); let b:=(wK (Int.tdiv n (3:Int))); tU2 ((Ans prog 14 [rJ n,rJ 3] (rJ a))∧True∧(((a==0)=true→tU2 (rJ corner=RV.d c))∧((a==0)=false→tU2 (((3:Int)≠0)∧(Ans prog 14 [rJ b,rJ 9] (rJ (modS b (9:Int))))∧tU3 (rJ (wK ((wK (corner+(modS b (9:Int)))) - 4))=RV.d c))))))) ?_
  delta tU2 tU3 dJ wK rJ
  simp only [sS,zQH,zXo]
  have b:=@zZr (IntKind.wrap .i64 (Int.tdiv n 3)) 9 (by omega) (by omega)
  unfold gOff
  have w1:IntKind.wrap .i64 (corner+modS (IntKind.wrap .i64 (Int.tdiv n 3)) 9)=corner+modS (IntKind.wrap .i64 (Int.tdiv n 3)) 9:=IntWalk.i64_in _ ⟨by omega,by omega⟩
  have w2:IntKind.wrap .i64 (corner+modS (IntKind.wrap .i64 (Int.tdiv n 3)) 9 - 4)=corner+modS (IntKind.wrap .i64 (Int.tdiv n 3)) 9 - 4:=IntWalk.i64_in _ ⟨by omega,by omega⟩
  simp only [w1,w2]
  refine ⟨fun h=>?_,fun h=>⟨by decide,?_⟩⟩
  ·rw [if_pos (by simpa using h)]
  ·rw [if_neg (by simpa using h)]
theorem jJD (r:Rw) (push:Bool) (imgs:Int) (c:Rc) (free:Bool) (most:Int) (hc:(-100≤c.a∧c.a≤100) ∧ -100≤c.b∧c.b≤100) (hi:1≤imgs∧imgs≤100):Ans prog 23 [RV.agg [dJ r.k,dJ r.im,dJ r.x,dJ r.y,dJ r.ma,dJ r.mx,dJ r.my,dJ r.op,dJ r.ope,dJ r.mo,dJ r.fl],RV.d (dQ push),rJ (imgs),RV.agg [dJ c.a,dJ c.b,dJ c.c,dJ c.d],RV.d (dQ free),RV.d (dK most)] (RV.agg [dJ ((gOp r push imgs c free most).kind),dJ ((gOp r push imgs c free most).image),dJ ((gOp r push imgs c free most).x),dJ ((gOp r push imgs c free most).y),dJ ((gOp r push imgs c free most).mask),dJ ((gOp r push imgs c free most).mx),dJ ((gOp r push imgs c free most).my),dK ((gOp r push imgs c free most).opac),dJ ((gOp r push imgs c free most).oper),dJ ((gOp r push imgs c free most).mode),dQ ((gOp r push imgs c free most).iso),dQ ((gOp r push imgs c free most).kno)]):=
 zQj (Γ:=jVp) (let e:=(6,AV.one (Cl.ptr 6 0)); let f:=(13,AV.one (Cl.ptr 13 0)); let g:=(12,AV.one (Cl.ptr 12 0)); let a:=(gOp r push imgs c free most); let h:=(4,AV.one (Cl.d (dQ free))); let i:=(5,AV.one (cK most)); let b:=(6,bC [cJ r.k,cJ r.im,cJ r.x,cJ r.y,cJ r.ma,cJ r.mx,cJ r.my,cJ r.op,cJ r.ope,cJ r.mo,cJ r.fl]); let d:=(12,bC [cJ 0,cJ 0,cJ 0,cJ 0,cJ 0,cJ 0,cJ 0,cK 0,cJ 0,cJ 0,Cl.d (dQ false),Cl.d (dQ false)]); let j:=[h,e,g,f]; (Ann.seq Ann.leaf (Ann.seq Ann.leaf (Ann.cut ⟨Oq,fun q1:Oq=>q1=⟨a.kind,a.image,a.x,a.y,0,0,0,most,4,1,a.iso,a.kno⟩,fun q1:Oq=>⟨[(2,aJ imgs),h,i,e,(9,AV.one (Cl.ptr 9 0)),g,f],[b,(9,bC [cJ c.a,cJ c.b,cJ c.c,cJ c.d]),d,(13,bC [cJ q1.kind,cJ q1.image,cJ q1.x,cJ q1.y,cJ q1.mask,cJ q1.mx,cJ q1.my,cK q1.opac,cJ q1.oper,cJ q1.mode,Cl.d (dQ q1.iso),Cl.d (dQ q1.kno)])]⟩,fun q1:Oq=>0⟩ Ann.leaf fun q1=>(Ann.cut ⟨Oq,fun q2:Oq=>q2=⟨a.kind,a.image,a.x,a.y,a.mask,a.mx,a.my,most,4,1,a.iso,a.kno⟩,fun q2:Oq=>⟨[h,i,e,g,f],[b,d,(13,bC [cJ q2.kind,cJ q2.image,cJ q2.x,cJ q2.y,cJ q2.mask,cJ q2.mx,cJ q2.my,cK q2.opac,cJ q2.oper,cJ q2.mode,Cl.d (dQ q2.iso),Cl.d (dQ q2.kno)])]⟩,fun q2:Oq=>0⟩ Ann.leaf fun q2=>(Ann.cut ⟨Oq,fun q3:Oq=>q3=⟨a.kind,a.image,a.x,a.y,a.mask,a.mx,a.my,a.opac,4,1,a.iso,a.kno⟩,fun q3:Oq=>⟨j,[b,d,(13,bC [cJ q3.kind,cJ q3.image,cJ q3.x,cJ q3.y,cJ q3.mask,cJ q3.mx,cJ q3.my,cK q3.opac,cJ q3.oper,cJ q3.mode,Cl.d (dQ q3.iso),Cl.d (dQ q3.kno)])]⟩,fun q3:Oq=>0⟩ Ann.leaf fun q3=>(Ann.cut ⟨Oq,fun q4:Oq=>q4=⟨a.kind,a.image,a.x,a.y,a.mask,a.mx,a.my,a.opac,4,a.mode,a.iso,a.kno⟩,fun q4:Oq=>⟨j,[b,d,(13,bC [cJ q4.kind,cJ q4.image,cJ q4.x,cJ q4.y,cJ q4.mask,cJ q4.mx,cJ q4.my,cK q4.opac,cJ q4.oper,cJ q4.mode,Cl.d (dQ q4.iso),Cl.d (dQ q4.kno)])]⟩,fun q4:Oq=>0⟩ Ann.leaf fun q4=>Ann.leaf))))))) zQy Tryz.func23 rfl (Nat.le_of_ble_eq_true rfl) fun hwf=>by
  refine Eq.mpr (by kernel_rfl:_=(let g:=(modS r.mo (2:Int)); let h:=(modS r.op (2:Int)); let i:=(modS r.ma (4:Int)); let j:=(modS r.ope (2:Int)); let a:=(gOp r push imgs c free most); let k:=(wK (Int.tdiv r.fl (2:Int))); let l:=fun (q1:Oq)=>(q1=⟨a.kind,a.image,a.x,a.y,0,0,0,most,4,1,a.iso,a.kno⟩); let m:=(dQ free=dQ free); let z:=(dK most=dK most); let A:=((dJ imgs=dJ imgs)∧m∧z∧(0=0)∧(0=0)∧(0=0)∧(0=0)∧True); let B:=[dJ r.k,dJ r.im,dJ r.x,dJ r.y,dJ r.ma,dJ r.mx,dJ r.my,dJ r.op,dJ r.ope,dJ r.mo,dJ r.fl]; let b:=(B=B); let C:=[dJ c.a,dJ c.b,dJ c.c,dJ c.d]; let D:=(C=C); let E:=[dJ 0,dJ 0,dJ 0,dJ 0,dJ 0,dJ 0,dJ 0,dK 0,dJ 0,dJ 0,dQ false,dQ false]; let d:=(E=E); let n:=fun (q1:Oq)=>[dJ q1.kind,dJ q1.image,dJ q1.x,dJ q1.y,dJ q1.mask,dJ q1.mx,dJ q1.my,dK q1.opac,dJ q1.oper,dJ q1.mode,dQ q1.iso,dQ q1.kno]; let o:=(wK (Int.tdiv r.ma (4:Int))); let p:=fun (q2:Oq)=>(q2=⟨a.kind,a.image,a.x,a.y,a.mask,a.mx,a.my,most,4,1,a.iso,a.kno⟩); let F:=(m∧z∧(0=0)∧(0=0)∧(0=0)∧True); let q:=fun (q2:Oq)=>[dJ q2.kind,dJ q2.image,dJ q2.x,dJ q2.y,dJ q2.mask,dJ q2.mx,dJ q2.my,dK q2.opac,dJ q2.oper,dJ q2.mode,dQ q2.iso,dQ q2.kno]; let s:=(wK (Int.tdiv r.op (2:Int))); let t:=fun (q3:Oq)=>(q3=⟨a.kind,a.image,a.x,a.y,a.mask,a.mx,a.my,a.opac,4,1,a.iso,a.kno⟩); let e:=(m∧(0=0)∧(0=0)∧(0=0)∧True); let u:=fun (q3:Oq)=>[dJ q3.kind,dJ q3.image,dJ q3.x,dJ q3.y,dJ q3.mask,dJ q3.mx,dJ q3.my,dK q3.opac,dJ q3.oper,dJ q3.mode,dQ q3.iso,dQ q3.kno]; let v:=(wK (Int.tdiv r.mo (2:Int))); let w:=fun (q4:Oq)=>(q4=⟨a.kind,a.image,a.x,a.y,a.mask,a.mx,a.my,a.opac,4,a.mode,a.iso,a.kno⟩); let f:=fun (q4:Oq)=>[dJ q4.kind,dJ q4.image,dJ q4.x,dJ q4.y,dJ q4.mask,dJ q4.mx,dJ q4.my,dK q4.opac,dJ q4.oper,dJ q4.mode,dQ q4.iso,dQ q4.kno]; let x:=(wK (Int.tdiv r.ope (2:Int))); let y:=[dJ a.kind,dJ a.image,dJ a.x,dJ a.y,dJ a.mask,dJ a.mx,dJ a.my,dK a.opac,dJ a.oper,dJ a.mode,dQ a.iso,dQ a.kno]; tU7 ((True∧((push=true→tU4 ((Ans prog 14 [rJ r.fl,rJ 2] (rJ (modS r.fl (2:Int))))∧tU3 (((2:Int)≠0)∧(Ans prog 14 [rJ k,rJ 3] (rJ (modS k (3:Int))))∧tU5 ((true=true)∧∃ q1:Oq,(l q1)∧(A∧(b∧D∧d∧([dJ 2,dJ 0,dJ 0,dJ 0,dJ 0,dJ 0,dJ 0,dK most,dJ 4,dJ 1,dQ ((modS r.fl (2:Int))==0),dQ ((modS k (3:Int))==0)]=(n q1))∧True))))))∧(push=false→tU3 ((Ans prog 14 [rJ r.im,rJ imgs] (rJ (modS r.im imgs)))∧tU6 ((Ans prog 49 [rJ r.x,rJ c.a] (rJ (gOff r.x c.a)))∧tU4 ((Ans prog 49 [rJ r.y,rJ c.b] (rJ (gOff r.y c.b)))∧tU4 ((true=true)∧∃ q1:Oq,(l q1)∧(A∧(b∧D∧d∧([dJ 1,dJ (modS r.im imgs),dJ (gOff r.x c.a),dJ (gOff r.y c.b),dJ 0,dJ 0,dJ 0,dK most,dJ 4,dJ 1,dQ false,dQ false]=(n q1))∧True)))))))))∧∀ q1:Oq,(l q1)→(tU2 ((Ans prog 14 [rJ r.ma,rJ 4] (rJ i))∧True∧(((i==0)=true→tU2 (((4:Int)≠0)∧True∧(Ans prog 14 [rJ o,rJ imgs] (rJ (modS o imgs)))∧tU7 ((Ans prog 49 [rJ r.mx,rJ c.a] (rJ (gOff r.mx c.a)))∧tU4 ((Ans prog 49 [rJ r.my,rJ c.b] (rJ (gOff r.my c.b)))∧tU4 ((true=true)∧∃ q2:Oq,(p q2)∧(F∧(b∧d∧([dJ q1.kind,dJ q1.image,dJ q1.x,dJ q1.y,dJ (wK ((1:Int)+(modS o imgs))),dJ (gOff r.mx c.a),dJ (gOff r.my c.b),dK q1.opac,dJ q1.oper,dJ q1.mode,dQ q1.iso,dQ q1.kno]=(q q2))∧True)))))))∧((i==0)=false→∃ q2:Oq,(p q2)∧(F∧(b∧d∧((n q1)=(q q2))∧True))))))∧∀ q2:Oq,(p q2)→(tU2 ((Ans prog 14 [rJ r.op,rJ 2] (rJ h))∧True∧(((h==0)=true→tU2 (((2:Int)≠0)∧True∧(Ans prog 50 [rJ s,RV.d (dK most)] (RV.d (dK (zQS s most))))∧tU2 (∃ q3:Oq,(t q3)∧(e∧(b∧d∧([dJ q2.kind,dJ q2.image,dJ q2.x,dJ q2.y,dJ q2.mask,dJ q2.mx,dJ q2.my,dK (zQS s most),dJ q2.oper,dJ q2.mode,dQ q2.iso,dQ q2.kno]=(u q3))∧True)))))∧((h==0)=false→∃ q3:Oq,(t q3)∧(e∧(b∧d∧((q q2)=(u q3))∧True))))))∧∀ q3:Oq,(t q3)→(tU2 ((Ans prog 14 [rJ r.mo,rJ 2] (rJ g))∧True∧(((g==0)=true→tU2 (((2:Int)≠0)∧(Ans prog 14 [rJ v,rJ 12] (rJ (modS v (12:Int))))∧tU3 (∃ q4:Oq,(w q4)∧(e∧(b∧d∧([dJ q3.kind,dJ q3.image,dJ q3.x,dJ q3.y,dJ q3.mask,dJ q3.mx,dJ q3.my,dK q3.opac,dJ q3.oper,dJ (wK ((1:Int)+(modS v (12:Int)))),dQ q3.iso,dQ q3.kno]=(f q4))∧True)))))∧((g==0)=false→∃ q4:Oq,(w q4)∧(e∧(b∧d∧((u q3)=(f q4))∧True))))))∧∀ q4:Oq,(w q4)→tU2 ((free=true→tU2 ((Ans prog 14 [rJ r.ope,rJ 2] (rJ j))∧tU2 (((j==0)=true→tU2 (((2:Int)≠0)∧(Ans prog 14 [rJ x,rJ 12] (rJ (modS x (12:Int))))∧tU5 (RV.agg [dJ q4.kind,dJ q4.image,dJ q4.x,dJ q4.y,dJ q4.mask,dJ q4.mx,dJ q4.my,dK q4.opac,dJ (wK ((1:Int)+(modS x (12:Int)))),dJ q4.mode,dQ q4.iso,dQ q4.kno]=RV.agg y)))∧((j==0)=false→tU2 (RV.agg (f q4)=RV.agg y)))))∧(free=(!true)→tU3 (RV.agg (f q4)=RV.agg y)))))) ?_
  delta tU2 tU3 tU4 tU5 tU6 tU7 dJ dK dQ wK rJ
  simp only [sS,zQH,zXo]
  have oa:=fun n=>zVK n c.a hc.1
  have ob:=fun n=>zVK n c.b hc.2
  have b4:=@zZr (IntKind.wrap .i64 (Int.tdiv r.ma 4)) imgs (by omega) (by omega)
  have b12:=fun v=>@zZr v 12 (by omega) (by omega)
  have w4:IntKind.wrap .i64 (1+modS (IntKind.wrap .i64 (Int.tdiv r.ma 4)) imgs)=1+modS (IntKind.wrap .i64 (Int.tdiv r.ma 4)) imgs:=IntWalk.i64_in _ ⟨by omega,by omega⟩
  have w12:∀ v,IntKind.wrap .i64 (1+modS v 12)=1+modS v 12:=fun v=>by have:=b12 v; exact IntWalk.i64_in _ ⟨by omega,by omega⟩
  simp only [oa,ob,w4,w12,true_and]
  simp only [exists_eq_left,forall_eq,gOp,beq_iff_eq,beq_eq_false_iff_ne]
  (repeat' (first | apply And.intro | intro _)) <;> (first | decide | (simp_all; done) | (simp_all; rfl))
theorem zQB (w h:Int):Ans prog 125 [rJ (w),rJ (h)] (RV.d (dQ (zQY w h))):=
 zQj (Γ:=gamI) Ann.leaf zQy Tryz.func125 rfl (Nat.le_of_ble_eq_true rfl) fun hwf=>by
  refine Eq.mpr (by kernel_rfl:_=(let a:=(RV.d (dQ false)=RV.d (dQ (zQY w h))); tU4 (((decide (w≥1))=true→tU4 (((decide (h≥1))=true→tU2 ((h≠0)∧tU3 (RV.d (dQ (decide (w≤(wK (Int.tdiv (16777216:Int) h)))))=RV.d (dQ (zQY w h)))))∧((decide (h≥1))=(!true)→tU2 a)))∧((decide (w≥1))=(!true)→tU4 a)))) ?_
  delta tU2 tU3 tU4 dQ wK
  simp only [sS,zQH]
  have:=@zV8 w h
  grind [zQY]
theorem zZb (w h:Int):Ans prog 146 [rJ (w),rJ (h)] (RV.d (dQ (zQY w h))):=
 zQj (Γ:=gamI) Ann.leaf zQy Tryz.func146 rfl (Nat.le_of_ble_eq_true rfl) fun hwf=>by
  refine Eq.mpr (by kernel_rfl:_=(let a:=(RV.d (dQ false)=RV.d (dQ (zQY w h))); tU4 (((decide (w≥1))=true→tU4 (((decide (h≥1))=true→tU2 ((h≠0)∧tU3 (RV.d (dQ (decide (w≤(wK (Int.tdiv (16777216:Int) h)))))=RV.d (dQ (zQY w h)))))∧((decide (h≥1))=(!true)→tU2 a)))∧((decide (w≥1))=(!true)→tU4 a)))) ?_
  delta tU2 tU3 tU4 dQ wK
  simp only [sS,zQH,zQB]
  have:=@zV8 w h
  grind [zQY]
theorem zQL (w h:Int):Ans prog 92 [rJ (w),rJ (h)] (RV.d (dQ (zQY w h))):=
 zQj (Γ:=gamI) Ann.leaf zQy Tryz.func92 rfl (Nat.le_of_ble_eq_true rfl) fun hwf=>by
  refine Eq.mpr (by kernel_rfl:_=(let a:=(RV.d (dQ false)=RV.d (dQ (zQY w h))); tU4 (((decide (w≥1))=true→tU4 (((decide (h≥1))=true→tU4 (((decide (w≤16777216))=true→tU2 ((w≠0)∧tU3 (RV.d (dQ (decide (h≤(wK (Int.tdiv (16777216:Int) w)))))=RV.d (dQ (zQY w h)))))∧((decide (w≤16777216))=(!true)→tU2 a)))∧((decide (h≥1))=(!true)→tU4 a)))∧((decide (w≥1))=(!true)→tU6 a)))) ?_
  delta tU2 tU3 tU4 tU6 dQ wK
  simp only [sS,zQH,zQB,zZb]
  have h1:1≤w→1≤h→(h≤IntKind.wrap .i64 (Int.tdiv 16777216 w)↔w*h≤16777216):=fun a b=>by rw [zV8 b a,Int.mul_comm]
  have h2:=@zZ6 w h
  grind [zQY]
theorem zZh (w h s:Int):Ans prog 147 [rJ (w),rJ (h),rJ (s)] (rJ ((lenW w h s))):=
 zQj (Γ:=gamI) Ann.leaf zQy Tryz.func147 rfl (Nat.le_of_ble_eq_true rfl) fun hwf=>by
  refine Eq.mpr (by kernel_rfl:_=(tU8 (rJ (wK ((wK ((wK (h - 1))*s))+w))=rJ (lenW w h s)))) ?_
  delta tU8 wK rJ
  simp only [sS,zQH,zQB,zZb,zQL]
  simp [lenW]
theorem zZJ (w h s:Int) (n:Nat) (xs:List DV):Ans prog 127 [RV.agg [dJ w,dJ h,dJ s,dS n xs]] (RV.d (dQ (zQO w h s n))):=
 zQj (Γ:=gamI) Ann.leaf zQy Tryz.func127 rfl (Nat.le_of_ble_eq_true rfl) fun hwf=>by
  refine Eq.mpr (by kernel_rfl:_=(let a:=((true=true)∧RV.d (dQ false)=RV.d (dQ (zQO w h s n))); tU6 ((Ans prog 146 [rJ w,rJ h] (RV.d (dQ (zQY w h))))∧True∧(((zQY w h)=true→tU7 (((decide (s≥w))=true→tU5 (((decide (s≤16777216))=true→True∧tU8 ((Ans prog 147 [rJ w,rJ h,rJ s] (rJ (lenW w h s)))∧tU3 ((true=true)∧RV.d (dQ (decide ((n:Int)≥(lenW w h s))))=RV.d (dQ (zQO w h s n)))))∧((decide (s≤16777216))=(!true)→tU2 a)))∧((decide (s≥w))=(!true)→tU4 a)))∧((zQY w h)=(!true)→tU6 a))))) ?_
  delta tU2 tU3 tU4 tU5 tU6 tU7 tU8 dQ rJ
  simp only [sS,zQH,zQB,zZb,zQL,zZh]
  grind [zQO]
theorem zZD (w h s:Int) (n:Nat) (xs:List DV):Ans prog 129 [RV.agg [dJ w,dJ h,dJ s,dS n xs]] (RV.d (dQ (zQO w h s n))):=
 zQj (Γ:=gamI) Ann.leaf zQy Tryz.func129 rfl (Nat.le_of_ble_eq_true rfl) fun hwf=>by
  refine Eq.mpr (by kernel_rfl:_=(let a:=(RV.d (dQ false)=RV.d (dQ (zQO w h s n))); tU6 ((Ans prog 92 [rJ w,rJ h] (RV.d (dQ (zQY w h))))∧True∧(((zQY w h)=true→tU7 (((decide (s≥w))=true→tU5 (((decide (s≤16777216))=true→tU7 (tU8 (RV.d (dQ (decide ((n:Int)≥(wK ((wK ((wK (h - 1))*s))+w)))))=RV.d (dQ (zQO w h s n)))))∧((decide (s≤16777216))=(!true)→tU2 a)))∧((decide (s≥w))=(!true)→tU4 a)))∧((zQY w h)=(!true)→tU6 a))))) ?_
  delta tU2 tU4 tU5 tU6 tU7 tU8 dQ wK rJ
  simp only [sS,zQH,zQB,zZb,zQL,zZh,zZJ]
  grind [zQO,lenW]
theorem zXO (w h s:Int) (n:Nat) (xs:List DV):Ans prog 126 [RV.agg [dJ w,dJ h,dJ s,dS n xs]] (RV.d (dQ (zY5 ⟨w,h,s,n,xs⟩))):=
 zQj (Γ:=gamI) Ann.leaf zQy Tryz.func126 rfl (Nat.le_of_ble_eq_true rfl) fun hwf=>by
  refine Eq.mpr (by kernel_rfl:_=(let b:=(dQ (zY5 ⟨w,h,s,n,xs⟩)); let a:=(RV.d (dQ false)=RV.d b); tU6 (((w==0)=true→tU5 (((h==0)=true→tU5 (((s==0)=true→tU6 (RV.d (dQ ((n:Int)==0))=RV.d b))∧((s==0)=(!true)→tU2 a)))∧((h==0)=(!true)→tU4 a)))∧((w==0)=(!true)→tU6 a)))) ?_
  delta tU2 tU4 tU5 tU6 dQ
  simp only [sS,zQH,zQB,zZb,zQL,zZh,zZJ,zZD]
  simp [zY5]; grind
theorem zQU (c0 c1 c2 ca cf most:Int):Ans prog 122 [RV.agg [dK c0,dK c1,dK c2,dK ca,dK cf],RV.d (dK most)] (RV.d (dQ (Px.ok ⟨c0,c1,c2,ca,cf⟩ most))):=
 zQj (Γ:=gamI) (let a:=(2,AV.one (Cl.ptr 2 0)); let e:=(Ann.seq Ann.leaf (Ann.seq (Ann.sure true Ann.leaf) Ann.leaf)); let b:=(1,AV.one (cK most)); let c:=(8,AV.agg [cK c0,cK c1,cK c2]); let d:=[(2,bC [cK c0,cK c1,cK c2,cK ca,cK cf])]; (Ann.seq Ann.leaf (Ann.seq (Ann.seq Ann.leaf (Ann.link ⟨Unit,fun _u=>True,fun _u=>⟨[b,a,c,(9,aJ 0)],d⟩,fun _u=>0⟩ (fun _u=>e) (Ann.link ⟨Unit,fun _u=>(c0≤ca)∧True,fun _u=>⟨[b,a,c,(9,aJ 1)],d⟩,fun _u=>0⟩ (fun _u=>e) (Ann.link ⟨Unit,fun _u=>(c0≤ca)∧(c1≤ca)∧True,fun _u=>⟨[b,a,c,(9,aJ 2)],d⟩,fun _u=>0⟩ (fun _u=>e) (Ann.link ⟨Unit,fun _u=>(c0≤ca)∧(c1≤ca)∧(c2≤ca)∧True,fun _u=>⟨[b,a,c,(9,aJ 3)],d⟩,fun _u=>0⟩ (fun _u=>(Ann.seq Ann.leaf (Ann.seq (Ann.sure false Ann.leaf) Ann.leaf))) Ann.leaf))))) Ann.leaf))) zQy Tryz.func122 rfl (Nat.le_of_ble_eq_true rfl) fun hwf=>by
  refine Eq.mpr (by kernel_rfl:_=(let b:=(dK most=dK most); let e:=[dK c0,dK c1,dK c2]; let c:=(e=e); let f:=[dK c0,dK c1,dK c2,dK ca,dK cf]; let d:=((f=f)∧True); let a:=(dQ (Px.ok ⟨c0,c1,c2,ca,cf⟩ most)); let g:=((c0≤ca)∧(c1≤ca)∧True); let h:=((c0≤ca)∧(c1≤ca)∧(c2≤ca)∧True); tU5 ((∃ _u:Unit,True∧((b∧(0=0)∧c∧(dJ 0=dJ 0)∧True)∧d))∧((∀ _u:Unit,True→True∧(decide ((0:Int) < 3)=true∧(0≤(0:Int)∧(0:Int) < ((3:Nat):Int)∧(some (dK c0)=some (dK c0))∧True)∧tU5 (((decide (c0 > ca))=true→True∧RV.d (dQ false)=RV.d a)∧((decide (c0 > ca))=false→tU2 (∃ _u:Unit,((c0≤ca)∧True)∧((b∧(0=0)∧c∧(dJ (wK ((0:Int)+1))=dJ 1)∧True)∧d))))))∧(∀ _u:Unit,((c0≤ca)∧True)→True∧(decide ((1:Int) < 3)=true∧(0≤(1:Int)∧(1:Int) < ((3:Nat):Int)∧(some (dK c1)=some (dK c1))∧True)∧tU5 (((decide (c1 > ca))=true→True∧RV.d (dQ false)=RV.d a)∧((decide (c1 > ca))=false→tU2 (∃ _u:Unit,g∧((b∧(0=0)∧c∧(dJ (wK ((1:Int)+1))=dJ 2)∧True)∧d))))))∧(∀ _u:Unit,g→True∧(decide ((2:Int) < 3)=true∧(0≤(2:Int)∧(2:Int) < ((3:Nat):Int)∧(some (dK c2)=some (dK c2))∧True)∧tU5 (((decide (c2 > ca))=true→True∧RV.d (dQ false)=RV.d a)∧((decide (c2 > ca))=false→tU2 (∃ _u:Unit,h∧((b∧(0=0)∧c∧(dJ (wK ((2:Int)+1))=dJ 3)∧True)∧d))))))∧(∀ _u:Unit,h→True∧(decide ((3:Int) < 3)=false∧tU6 (((decide (ca≤cf))=true→tU6 (RV.d (dQ (decide (cf≤most)))=RV.d a))∧((decide (ca≤cf))=(!true)→tU2 (RV.d (dQ false)=RV.d a)))))∧True)))) ?_
  delta tU2 tU5 tU6 dJ dK dQ wK
  simp only [sS,zQH,zQB,zZb,zQL,zZh,zZJ,zZD,zXO]
  simp [Px.ok,w1_]; grind
theorem zQK (w h:Int) (so:Bool) (c0 c1 c2 ca cf w0 h0 s0:Int) (n0:Nat) (xs0:List DV) (w1 h1 s1:Int) (n1:Nat) (xs1:List DV) (w2 h2 s2:Int) (n2:Nat) (xs2:List DV) (w3 h3 s3:Int) (n3:Nat) (xs3:List DV) (w4 h4 s4:Int) (n4:Nat) (xs4:List DV):Ans prog 99 [RV.agg [dJ w,dJ h,dQ so,dK c0,dK c1,dK c2,dK ca,dK cf,dJ w0,dJ h0,dJ s0,dS n0 xs0,dJ w1,dJ h1,dJ s1,dS n1 xs1,dJ w2,dJ h2,dJ s2,dS n2 xs2,dJ w3,dJ h3,dJ s3,dS n3 xs3,dJ w4,dJ h4,dJ s4,dS n4 xs4]] (RV.d (dQ (Im.formed ⟨w,h,so,⟨c0,c1,c2,ca,cf⟩,⟨w0,h0,s0,n0,xs0⟩,⟨w1,h1,s1,n1,xs1⟩,⟨w2,h2,s2,n2,xs2⟩,⟨w3,h3,s3,n3,xs3⟩,⟨w4,h4,s4,n4,xs4⟩⟩))):=
 zQj (Γ:=gamI) (let a:=(zQY w h=true); let b:=(1,AV.one (Cl.ptr 1 0)); let f:=(Ann.seq Ann.leaf (Ann.seq (Ann.sure true Ann.leaf) Ann.leaf)); let c:=(so=true∨Px.mk c0 c1 c2 ca cf=Px.zero); let d:=(23,AV.agg [cJ w0,cJ h0,cJ s0,Cl.d (dS n0 xs0),cJ w1,cJ h1,cJ s1,Cl.d (dS n1 xs1),cJ w2,cJ h2,cJ s2,Cl.d (dS n2 xs2),cJ w3,cJ h3,cJ s3,Cl.d (dS n3 xs3),cJ w4,cJ h4,cJ s4,Cl.d (dS n4 xs4)]); let e:=[(1,bC [cJ w,cJ h,Cl.d (dQ so),cK c0,cK c1,cK c2,cK ca,cK cf,cJ w0,cJ h0,cJ s0,Cl.d (dS n0 xs0),cJ w1,cJ h1,cJ s1,Cl.d (dS n1 xs1),cJ w2,cJ h2,cJ s2,Cl.d (dS n2 xs2),cJ w3,cJ h3,cJ s3,Cl.d (dS n3 xs3),cJ w4,cJ h4,cJ s4,Cl.d (dS n4 xs4)])]; (Ann.seq Ann.leaf (Ann.seq Ann.leaf (Ann.seq (Ann.seq Ann.leaf (Ann.link ⟨Unit,fun _u=>a∧c∧True,fun _u=>⟨[b,d,(24,aJ 0)],e⟩,fun _u=>0⟩ (fun _u=>f) (Ann.link ⟨Unit,fun _u=>a∧c∧okPl so w h ⟨w0,h0,s0,n0,xs0⟩=true∧True,fun _u=>⟨[b,d,(24,aJ 1)],e⟩,fun _u=>0⟩ (fun _u=>f) (Ann.link ⟨Unit,fun _u=>a∧c∧okPl so w h ⟨w0,h0,s0,n0,xs0⟩=true∧okPl so w h ⟨w1,h1,s1,n1,xs1⟩=true∧True,fun _u=>⟨[b,d,(24,aJ 2)],e⟩,fun _u=>0⟩ (fun _u=>f) (Ann.link ⟨Unit,fun _u=>a∧c∧okPl so w h ⟨w0,h0,s0,n0,xs0⟩=true∧okPl so w h ⟨w1,h1,s1,n1,xs1⟩=true∧okPl so w h ⟨w2,h2,s2,n2,xs2⟩=true∧True,fun _u=>⟨[b,d,(24,aJ 3)],e⟩,fun _u=>0⟩ (fun _u=>f) (Ann.link ⟨Unit,fun _u=>a∧c∧okPl so w h ⟨w0,h0,s0,n0,xs0⟩=true∧okPl so w h ⟨w1,h1,s1,n1,xs1⟩=true∧okPl so w h ⟨w2,h2,s2,n2,xs2⟩=true∧okPl so w h ⟨w3,h3,s3,n3,xs3⟩=true∧True,fun _u=>⟨[b,d,(24,aJ 4)],e⟩,fun _u=>0⟩ (fun _u=>f) (Ann.link ⟨Unit,fun _u=>a∧c∧okPl so w h ⟨w0,h0,s0,n0,xs0⟩=true∧okPl so w h ⟨w1,h1,s1,n1,xs1⟩=true∧okPl so w h ⟨w2,h2,s2,n2,xs2⟩=true∧okPl so w h ⟨w3,h3,s3,n3,xs3⟩=true∧okPl so w h ⟨w4,h4,s4,n4,xs4⟩=true∧True,fun _u=>⟨[b,d,(24,aJ 5)],e⟩,fun _u=>0⟩ (fun _u=>(Ann.seq Ann.leaf (Ann.seq (Ann.sure false Ann.leaf) Ann.leaf))) Ann.leaf))))))) Ann.leaf)))) zQy Tryz.func99 rfl (Nat.le_of_ble_eq_true rfl) fun hwf=>by
  refine Eq.mpr (by kernel_rfl:_=(let Y:=(some (dS n4 xs4)=some (dS n4 xs4)); let Z:=(some (dS n3 xs3)=some (dS n3 xs3)); let z0:=(some (dS n2 xs2)=some (dS n2 xs2)); let z1:=(some (dS n1 xs1)=some (dS n1 xs1)); let z2:=(some (dS n0 xs0)=some (dS n0 xs0)); let o:=(zQY w h=true); let z3:=(!(((c0==0) && ((c1==0) && ((c2==0) && true))) && ((ca==0) && ((cf==0) && true)))); let b:=((5:Nat):Int); let s:=(!(zQO w4 h4 s4 n4)); let t:=(!(zQO w3 h3 s3 n3)); let u:=(!(zQO w2 h2 s2 n2)); let v:=(!(zQO w1 h1 s1 n1)); let x:=(!(zQO w0 h0 s0 n0)); let y:=(zY5 ⟨w0,h0,s0,n0,xs0⟩); let z:=(zY5 ⟨w1,h1,s1,n1,xs1⟩); let A:=(zY5 ⟨w2,h2,s2,n2,xs2⟩); let B:=(zY5 ⟨w3,h3,s3,n3,xs3⟩); let C:=(zY5 ⟨w4,h4,s4,n4,xs4⟩); let x3:=(RV.d (dQ (zQO w0 h0 s0 n0))); let x4:=(RV.d (dQ (zQO w1 h1 s1 n1))); let x5:=(RV.d (dQ (zQO w2 h2 s2 n2))); let x6:=(RV.d (dQ (zQO w3 h3 s3 n3))); let x7:=(RV.d (dQ (zQO w4 h4 s4 n4))); let i:=(dQ (Im.formed ⟨w,h,so,⟨c0,c1,c2,ca,cf⟩,⟨w0,h0,s0,n0,xs0⟩,⟨w1,h1,s1,n1,xs1⟩,⟨w2,h2,s2,n2,xs2⟩,⟨w3,h3,s3,n3,xs3⟩,⟨w4,h4,s4,n4,xs4⟩⟩)); let z4:=(decide ((5:Int) < 5)=false∧True∧RV.d (dQ true)=RV.d i); let D:=((h4 != h)=true→True∧RV.d (dQ false)=RV.d i); let E:=((h3 != h)=true→True∧RV.d (dQ false)=RV.d i); let F:=((h2 != h)=true→True∧RV.d (dQ false)=RV.d i); let G:=((h1 != h)=true→True∧RV.d (dQ false)=RV.d i); let H:=((h0 != h)=true→True∧RV.d (dQ false)=RV.d i); let a:=(RV.d (dQ false)=RV.d i); let z5:=((!C)=(!false)→tU2 a); let z6:=((!B)=(!false)→tU2 a); let z7:=((!A)=(!false)→tU2 a); let z8:=((!z)=(!false)→tU2 a); let z9:=((!y)=(!false)→tU2 a); let I:=(s=(!false)→tU6 a); let J:=(t=(!false)→tU6 a); let K:=(u=(!false)→tU6 a); let L:=(v=(!false)→tU6 a); let M:=(x=(!false)→tU6 a); let N:=((w4 != w)=(!false)→tU4 a); let O:=((w3 != w)=(!false)→tU4 a); let P:=((w2 != w)=(!false)→tU4 a); let Q:=((w1 != w)=(!false)→tU4 a); let R:=((w0 != w)=(!false)→tU4 a); let p:=(so=true∨Px.mk c0 c1 c2 ca cf=Px.zero); let S:=(o∧p∧True); let y0:=[dJ w0,dJ h0,dJ s0,dS n0 xs0,dJ w1,dJ h1,dJ s1,dS n1 xs1,dJ w2,dJ h2,dJ s2,dS n2 xs2,dJ w3,dJ h3,dJ s3,dS n3 xs3,dJ w4,dJ h4,dJ s4,dS n4 xs4]; let q:=(y0=y0); let y1:=[dJ w,dJ h,dQ so,dK c0,dK c1,dK c2,dK ca,dK cf,dJ w0,dJ h0,dJ s0,dS n0 xs0,dJ w1,dJ h1,dJ s1,dS n1 xs1,dJ w2,dJ h2,dJ s2,dS n2 xs2,dJ w3,dJ h3,dJ s3,dS n3 xs3,dJ w4,dJ h4,dJ s4,dS n4 xs4]; let r:=((y1=y1)∧True); let y2:=(((0=0)∧q∧(dJ 0=dJ 0)∧True)∧r); let y3:=[RV.agg [dJ w0,dJ h0,dJ s0,dS n0 xs0]]; let y4:=(Ans prog 126 y3 (RV.d (dQ y))); let T:=(Ans prog 127 y3 x3); let c:=(o∧p∧okPl so w h ⟨w0,h0,s0,n0,xs0⟩=true∧True); let j:=(((0=0)∧q∧(dJ (wK ((0:Int)+1))=dJ 1)∧True)∧r); let y5:=[RV.agg [dJ w1,dJ h1,dJ s1,dS n1 xs1]]; let y6:=(Ans prog 126 y5 (RV.d (dQ z))); let U:=(Ans prog 127 y5 x4); let d:=(o∧p∧okPl so w h ⟨w0,h0,s0,n0,xs0⟩=true∧okPl so w h ⟨w1,h1,s1,n1,xs1⟩=true∧True); let k:=(((0=0)∧q∧(dJ (wK ((1:Int)+1))=dJ 2)∧True)∧r); let y7:=[RV.agg [dJ w2,dJ h2,dJ s2,dS n2 xs2]]; let y8:=(Ans prog 126 y7 (RV.d (dQ A))); let V:=(Ans prog 127 y7 x5); let e:=(o∧p∧okPl so w h ⟨w0,h0,s0,n0,xs0⟩=true∧okPl so w h ⟨w1,h1,s1,n1,xs1⟩=true∧okPl so w h ⟨w2,h2,s2,n2,xs2⟩=true∧True); let l:=(((0=0)∧q∧(dJ (wK ((2:Int)+1))=dJ 3)∧True)∧r); let y9:=[RV.agg [dJ w3,dJ h3,dJ s3,dS n3 xs3]]; let x0:=(Ans prog 126 y9 (RV.d (dQ B))); let W:=(Ans prog 127 y9 x6); let f:=(o∧p∧okPl so w h ⟨w0,h0,s0,n0,xs0⟩=true∧okPl so w h ⟨w1,h1,s1,n1,xs1⟩=true∧okPl so w h ⟨w2,h2,s2,n2,xs2⟩=true∧okPl so w h ⟨w3,h3,s3,n3,xs3⟩=true∧True); let m:=(((0=0)∧q∧(dJ (wK ((3:Int)+1))=dJ 4)∧True)∧r); let x1:=[RV.agg [dJ w4,dJ h4,dJ s4,dS n4 xs4]]; let x2:=(Ans prog 126 x1 (RV.d (dQ C))); let X:=(Ans prog 127 x1 x7); let g:=(o∧p∧okPl so w h ⟨w0,h0,s0,n0,xs0⟩=true∧okPl so w h ⟨w1,h1,s1,n1,xs1⟩=true∧okPl so w h ⟨w2,h2,s2,n2,xs2⟩=true∧okPl so w h ⟨w3,h3,s3,n3,xs3⟩=true∧okPl so w h ⟨w4,h4,s4,n4,xs4⟩=true∧True); let n:=(((0=0)∧q∧(dJ (wK ((4:Int)+1))=dJ 5)∧True)∧r); tU6 ((Ans prog 125 [rJ w,rJ h] (RV.d (dQ (zQY w h))))∧tU2 (((!(zQY w h))=false→tU4 (((!so)=true→tU6 ((z3=true→True∧RV.d (dQ false)=RV.d i)∧(z3=false→tU3 ((∃ _u:Unit,S∧y2)∧((∀ _u:Unit,S→True∧(decide ((0:Int) < 5)=true∧(0≤(0:Int)∧(0:Int) < b∧(some (dJ w0)=some (dJ w0))∧(some (dJ h0)=some (dJ h0))∧(some (dJ s0)=some (dJ s0))∧z2∧True)∧tU5 ((so=true→True∧y4∧tU3 (((!y)=false→tU4 (((!so)=true→True∧T∧tU2 ((x=false→tU7 (((w0 != w)=false→tU8 (H∧((h0 != h)=false→tU2 (∃ _u:Unit,c∧j))))∧R))∧M))∧((!so)=(!true)→tU4 (∃ _u:Unit,c∧j))))∧z9))∧(so=(!true)→tU6 (((!so)=true→True∧T∧tU2 ((x=false→tU7 (((w0 != w)=false→tU8 (H∧((h0 != h)=false→tU2 (∃ _u:Unit,c∧j))))∧R))∧M))∧((!so)=(!true)→tU4 (∃ _u:Unit,c∧j)))))))∧(∀ _u:Unit,c→True∧(decide ((1:Int) < 5)=true∧(0≤(1:Int)∧(1:Int) < b∧(some (dJ w1)=some (dJ w1))∧(some (dJ h1)=some (dJ h1))∧(some (dJ s1)=some (dJ s1))∧z1∧True)∧tU5 ((so=true→True∧y6∧tU3 (((!z)=false→tU4 (((!so)=true→True∧U∧tU2 ((v=false→tU7 (((w1 != w)=false→tU8 (G∧((h1 != h)=false→tU2 (∃ _u:Unit,d∧k))))∧Q))∧L))∧((!so)=(!true)→tU4 (∃ _u:Unit,d∧k))))∧z8))∧(so=(!true)→tU6 (((!so)=true→True∧U∧tU2 ((v=false→tU7 (((w1 != w)=false→tU8 (G∧((h1 != h)=false→tU2 (∃ _u:Unit,d∧k))))∧Q))∧L))∧((!so)=(!true)→tU4 (∃ _u:Unit,d∧k)))))))∧(∀ _u:Unit,d→True∧(decide ((2:Int) < 5)=true∧(0≤(2:Int)∧(2:Int) < b∧(some (dJ w2)=some (dJ w2))∧(some (dJ h2)=some (dJ h2))∧(some (dJ s2)=some (dJ s2))∧z0∧True)∧tU5 ((so=true→True∧y8∧tU3 (((!A)=false→tU4 (((!so)=true→True∧V∧tU2 ((u=false→tU7 (((w2 != w)=false→tU8 (F∧((h2 != h)=false→tU2 (∃ _u:Unit,e∧l))))∧P))∧K))∧((!so)=(!true)→tU4 (∃ _u:Unit,e∧l))))∧z7))∧(so=(!true)→tU6 (((!so)=true→True∧V∧tU2 ((u=false→tU7 (((w2 != w)=false→tU8 (F∧((h2 != h)=false→tU2 (∃ _u:Unit,e∧l))))∧P))∧K))∧((!so)=(!true)→tU4 (∃ _u:Unit,e∧l)))))))∧(∀ _u:Unit,e→True∧(decide ((3:Int) < 5)=true∧(0≤(3:Int)∧(3:Int) < b∧(some (dJ w3)=some (dJ w3))∧(some (dJ h3)=some (dJ h3))∧(some (dJ s3)=some (dJ s3))∧Z∧True)∧tU5 ((so=true→True∧x0∧tU3 (((!B)=false→tU4 (((!so)=true→True∧W∧tU2 ((t=false→tU7 (((w3 != w)=false→tU8 (E∧((h3 != h)=false→tU2 (∃ _u:Unit,f∧m))))∧O))∧J))∧((!so)=(!true)→tU4 (∃ _u:Unit,f∧m))))∧z6))∧(so=(!true)→tU6 (((!so)=true→True∧W∧tU2 ((t=false→tU7 (((w3 != w)=false→tU8 (E∧((h3 != h)=false→tU2 (∃ _u:Unit,f∧m))))∧O))∧J))∧((!so)=(!true)→tU4 (∃ _u:Unit,f∧m)))))))∧(∀ _u:Unit,f→True∧(decide ((4:Int) < 5)=true∧(0≤(4:Int)∧(4:Int) < b∧(some (dJ w4)=some (dJ w4))∧(some (dJ h4)=some (dJ h4))∧(some (dJ s4)=some (dJ s4))∧Y∧True)∧tU5 ((so=true→True∧x2∧tU3 (((!C)=false→tU4 (((!so)=true→True∧X∧tU2 ((s=false→tU7 (((w4 != w)=false→tU8 (D∧((h4 != h)=false→tU2 (∃ _u:Unit,g∧n))))∧N))∧I))∧((!so)=(!true)→tU4 (∃ _u:Unit,g∧n))))∧z5))∧(so=(!true)→tU6 (((!so)=true→True∧X∧tU2 ((s=false→tU7 (((w4 != w)=false→tU8 (D∧((h4 != h)=false→tU2 (∃ _u:Unit,g∧n))))∧N))∧I))∧((!so)=(!true)→tU4 (∃ _u:Unit,g∧n)))))))∧(∀ _u:Unit,g→True∧z4)∧True)))))∧((!so)=(!true)→tU5 ((∃ _u:Unit,S∧y2)∧((∀ _u:Unit,S→True∧(decide ((0:Int) < 5)=true∧(0≤(0:Int)∧(0:Int) < b∧(some (dJ w0)=some (dJ w0))∧(some (dJ h0)=some (dJ h0))∧(some (dJ s0)=some (dJ s0))∧z2∧True)∧tU5 ((so=true→True∧y4∧tU3 (((!y)=false→tU4 (((!so)=true→True∧T∧tU2 ((x=false→tU7 (((w0 != w)=false→tU8 (H∧((h0 != h)=false→tU2 (∃ _u:Unit,c∧j))))∧R))∧M))∧((!so)=(!true)→tU4 (∃ _u:Unit,c∧j))))∧z9))∧(so=(!true)→tU6 (((!so)=true→True∧T∧tU2 ((x=false→tU7 (((w0 != w)=false→tU8 (H∧((h0 != h)=false→tU2 (∃ _u:Unit,c∧j))))∧R))∧M))∧((!so)=(!true)→tU4 (∃ _u:Unit,c∧j)))))))∧(∀ _u:Unit,c→True∧(decide ((1:Int) < 5)=true∧(0≤(1:Int)∧(1:Int) < b∧(some (dJ w1)=some (dJ w1))∧(some (dJ h1)=some (dJ h1))∧(some (dJ s1)=some (dJ s1))∧z1∧True)∧tU5 ((so=true→True∧y6∧tU3 (((!z)=false→tU4 (((!so)=true→True∧U∧tU2 ((v=false→tU7 (((w1 != w)=false→tU8 (G∧((h1 != h)=false→tU2 (∃ _u:Unit,d∧k))))∧Q))∧L))∧((!so)=(!true)→tU4 (∃ _u:Unit,d∧k))))∧z8))∧(so=(!true)→tU6 (((!so)=true→True∧U∧tU2 ((v=false→tU7 (((w1 != w)=false→tU8 (G∧((h1 != h)=false→tU2 (∃ _u:Unit,d∧k))))∧Q))∧L))∧((!so)=(!true)→tU4 (∃ _u:Unit,d∧k)))))))∧(∀ _u:Unit,d→True∧(decide ((2:Int) < 5)=true∧(0≤(2:Int)∧(2:Int) < b∧(some (dJ w2)=some (dJ w2))∧(some (dJ h2)=some (dJ h2))∧(some (dJ s2)=some (dJ s2))∧z0∧True)∧tU5 ((so=true→True∧y8∧tU3 (((!A)=false→tU4 (((!so)=true→True∧V∧tU2 ((u=false→tU7 (((w2 != w)=false→tU8 (F∧((h2 != h)=false→tU2 (∃ _u:Unit,e∧l))))∧P))∧K))∧((!so)=(!true)→tU4 (∃ _u:Unit,e∧l))))∧z7))∧(so=(!true)→tU6 (((!so)=true→True∧V∧tU2 ((u=false→tU7 (((w2 != w)=false→tU8 (F∧((h2 != h)=false→tU2 (∃ _u:Unit,e∧l))))∧P))∧K))∧((!so)=(!true)→tU4 (∃ _u:Unit,e∧l)))))))∧(∀ _u:Unit,e→True∧(decide ((3:Int) < 5)=true∧(0≤(3:Int)∧(3:Int) < b∧(some (dJ w3)=some (dJ w3))∧(some (dJ h3)=some (dJ h3))∧(some (dJ s3)=some (dJ s3))∧Z∧True)∧tU5 ((so=true→True∧x0∧tU3 (((!B)=false→tU4 (((!so)=true→True∧W∧tU2 ((t=false→tU7 (((w3 != w)=false→tU8 (E∧((h3 != h)=false→tU2 (∃ _u:Unit,f∧m))))∧O))∧J))∧((!so)=(!true)→tU4 (∃ _u:Unit,f∧m))))∧z6))∧(so=(!true)→tU6 (((!so)=true→True∧W∧tU2 ((t=false→tU7 (((w3 != w)=false→tU8 (E∧((h3 != h)=false→tU2 (∃ _u:Unit,f∧m))))∧O))∧J))∧((!so)=(!true)→tU4 (∃ _u:Unit,f∧m)))))))∧(∀ _u:Unit,f→True∧(decide ((4:Int) < 5)=true∧(0≤(4:Int)∧(4:Int) < b∧(some (dJ w4)=some (dJ w4))∧(some (dJ h4)=some (dJ h4))∧(some (dJ s4)=some (dJ s4))∧Y∧True)∧tU5 ((so=true→True∧x2∧tU3 (((!C)=false→tU4 (((!so)=true→True∧X∧tU2 ((s=false→tU7 (((w4 != w)=false→tU8 (D∧((h4 != h)=false→tU2 (∃ _u:Unit,g∧n))))∧N))∧I))∧((!so)=(!true)→tU4 (∃ _u:Unit,g∧n))))∧z5))∧(so=(!true)→tU6 (((!so)=true→True∧X∧tU2 ((s=false→tU7 (((w4 != w)=false→tU8 (D∧((h4 != h)=false→tU2 (∃ _u:Unit,g∧n))))∧N))∧I))∧((!so)=(!true)→tU4 (∃ _u:Unit,g∧n)))))))∧(∀ _u:Unit,g→True∧z4)∧True)))))∧((!(zQY w h))=(!false)→tU2 a))))) ?_
  delta tU2 tU3 tU4 tU5 tU6 tU7 tU8 dJ dK dQ wK dS rJ
  simp only [sS,zQH,zQB,zZb,zQL,zZh,zZJ,zZD,zXO,zQU]
  cases so <;> simp [w1_,Im.formed,Im.inner,okPl,Px.zero] <;> (repeat' (first | apply And.intro | intro)) <;> (first | assumption | (simp_all; done) | grind)
theorem zQV (w h:Int) (so:Bool) (c0 c1 c2 ca cf w0 h0 s0:Int) (n0:Nat) (xs0:List DV) (w1 h1 s1:Int) (n1:Nat) (xs1:List DV) (w2 h2 s2:Int) (n2:Nat) (xs2:List DV) (w3 h3 s3:Int) (n3:Nat) (xs3:List DV) (w4 h4 s4:Int) (n4:Nat) (xs4:List DV):Ans prog 102 [RV.agg [dJ w,dJ h,dQ so,dK c0,dK c1,dK c2,dK ca,dK cf,dJ w0,dJ h0,dJ s0,dS n0 xs0,dJ w1,dJ h1,dJ s1,dS n1 xs1,dJ w2,dJ h2,dJ s2,dS n2 xs2,dJ w3,dJ h3,dJ s3,dS n3 xs3,dJ w4,dJ h4,dJ s4,dS n4 xs4]] (RV.d (dQ (Im.inner ⟨w,h,so,⟨c0,c1,c2,ca,cf⟩,⟨w0,h0,s0,n0,xs0⟩,⟨w1,h1,s1,n1,xs1⟩,⟨w2,h2,s2,n2,xs2⟩,⟨w3,h3,s3,n3,xs3⟩,⟨w4,h4,s4,n4,xs4⟩⟩))):=
 zQj (Γ:=gamI) (let a:=(1,AV.one (Cl.ptr 1 0)); let c:=(Ann.seq (Ann.seq Ann.leaf (Ann.sure true Ann.leaf)) Ann.leaf); let b:=[(1,bC [cJ w,cJ h,Cl.d (dQ so),cK c0,cK c1,cK c2,cK ca,cK cf,cJ w0,cJ h0,cJ s0,Cl.d (dS n0 xs0),cJ w1,cJ h1,cJ s1,Cl.d (dS n1 xs1),cJ w2,cJ h2,cJ s2,Cl.d (dS n2 xs2),cJ w3,cJ h3,cJ s3,Cl.d (dS n3 xs3),cJ w4,cJ h4,cJ s4,Cl.d (dS n4 xs4)])]; (Ann.seq Ann.leaf (Ann.seq (Ann.seq Ann.leaf (Ann.link ⟨Unit,fun _u=>True,fun _u=>⟨[a,(3,aJ 0)],b⟩,fun _u=>0⟩ (fun _u=>c) (Ann.link ⟨Unit,fun _u=>okPl so w h ⟨w0,h0,s0,n0,xs0⟩=true∧True,fun _u=>⟨[a,(3,aJ 1)],b⟩,fun _u=>0⟩ (fun _u=>c) (Ann.link ⟨Unit,fun _u=>okPl so w h ⟨w0,h0,s0,n0,xs0⟩=true∧okPl so w h ⟨w1,h1,s1,n1,xs1⟩=true∧True,fun _u=>⟨[a,(3,aJ 2)],b⟩,fun _u=>0⟩ (fun _u=>c) (Ann.link ⟨Unit,fun _u=>okPl so w h ⟨w0,h0,s0,n0,xs0⟩=true∧okPl so w h ⟨w1,h1,s1,n1,xs1⟩=true∧okPl so w h ⟨w2,h2,s2,n2,xs2⟩=true∧True,fun _u=>⟨[a,(3,aJ 3)],b⟩,fun _u=>0⟩ (fun _u=>c) (Ann.link ⟨Unit,fun _u=>okPl so w h ⟨w0,h0,s0,n0,xs0⟩=true∧okPl so w h ⟨w1,h1,s1,n1,xs1⟩=true∧okPl so w h ⟨w2,h2,s2,n2,xs2⟩=true∧okPl so w h ⟨w3,h3,s3,n3,xs3⟩=true∧True,fun _u=>⟨[a,(3,aJ 4)],b⟩,fun _u=>0⟩ (fun _u=>c) (Ann.link ⟨Unit,fun _u=>okPl so w h ⟨w0,h0,s0,n0,xs0⟩=true∧okPl so w h ⟨w1,h1,s1,n1,xs1⟩=true∧okPl so w h ⟨w2,h2,s2,n2,xs2⟩=true∧okPl so w h ⟨w3,h3,s3,n3,xs3⟩=true∧okPl so w h ⟨w4,h4,s4,n4,xs4⟩=true∧True,fun _u=>⟨[a,(3,aJ 5)],b⟩,fun _u=>0⟩ (fun _u=>(Ann.seq (Ann.seq Ann.leaf (Ann.sure false Ann.leaf)) Ann.leaf)) Ann.leaf))))))) Ann.leaf))) zQy Tryz.func102 rfl (Nat.le_of_ble_eq_true rfl) fun hwf=>by
  refine Eq.mpr (by kernel_rfl:_=(let d:=((5:Nat):Int); let p:=(!(zQO w4 h4 s4 n4)); let q:=(!(zQO w3 h3 s3 n3)); let r:=(!(zQO w2 h2 s2 n2)); let s:=(!(zQO w1 h1 s1 n1)); let t:=(!(zQO w0 h0 s0 n0)); let u:=(Ans prog 129 [RV.agg [dJ w4,dJ h4,dJ s4,dS n4 xs4]] (RV.d (dQ (zQO w4 h4 s4 n4)))); let v:=(Ans prog 129 [RV.agg [dJ w3,dJ h3,dJ s3,dS n3 xs3]] (RV.d (dQ (zQO w3 h3 s3 n3)))); let x:=(Ans prog 129 [RV.agg [dJ w2,dJ h2,dJ s2,dS n2 xs2]] (RV.d (dQ (zQO w2 h2 s2 n2)))); let y:=(Ans prog 129 [RV.agg [dJ w1,dJ h1,dJ s1,dS n1 xs1]] (RV.d (dQ (zQO w1 h1 s1 n1)))); let z:=(Ans prog 129 [RV.agg [dJ w0,dJ h0,dJ s0,dS n0 xs0]] (RV.d (dQ (zQO w0 h0 s0 n0)))); let A:=[dJ w,dJ h,dQ so,dK c0,dK c1,dK c2,dK ca,dK cf,dJ w0,dJ h0,dJ s0,dS n0 xs0,dJ w1,dJ h1,dJ s1,dS n1 xs1,dJ w2,dJ h2,dJ s2,dS n2 xs2,dJ w3,dJ h3,dJ s3,dS n3 xs3,dJ w4,dJ h4,dJ s4,dS n4 xs4]; let c:=((A=A)∧True); let b:=(dQ (Im.inner ⟨w,h,so,⟨c0,c1,c2,ca,cf⟩,⟨w0,h0,s0,n0,xs0⟩,⟨w1,h1,s1,n1,xs1⟩,⟨w2,h2,s2,n2,xs2⟩,⟨w3,h3,s3,n3,xs3⟩,⟨w4,h4,s4,n4,xs4⟩⟩)); let B:=((h4 != h)=true→True∧RV.d (dQ false)=RV.d b); let C:=((h3 != h)=true→True∧RV.d (dQ false)=RV.d b); let D:=((h2 != h)=true→True∧RV.d (dQ false)=RV.d b); let E:=((h1 != h)=true→True∧RV.d (dQ false)=RV.d b); let F:=((h0 != h)=true→True∧RV.d (dQ false)=RV.d b); let a:=(RV.d (dQ false)=RV.d b); let G:=(p=(!false)→tU5 a); let H:=(q=(!false)→tU5 a); let I:=(r=(!false)→tU5 a); let J:=(s=(!false)→tU5 a); let K:=(t=(!false)→tU5 a); let L:=((w4 != w)=(!false)→tU3 a); let M:=((w3 != w)=(!false)→tU3 a); let N:=((w2 != w)=(!false)→tU3 a); let O:=((w1 != w)=(!false)→tU3 a); let P:=((w0 != w)=(!false)→tU3 a); let e:=(okPl so w h ⟨w0,h0,s0,n0,xs0⟩=true∧True); let k:=(((0=0)∧(dJ (wK ((0:Int)+1))=dJ 1)∧True)∧c); let f:=(okPl so w h ⟨w0,h0,s0,n0,xs0⟩=true∧okPl so w h ⟨w1,h1,s1,n1,xs1⟩=true∧True); let l:=(((0=0)∧(dJ (wK ((1:Int)+1))=dJ 2)∧True)∧c); let g:=(okPl so w h ⟨w0,h0,s0,n0,xs0⟩=true∧okPl so w h ⟨w1,h1,s1,n1,xs1⟩=true∧okPl so w h ⟨w2,h2,s2,n2,xs2⟩=true∧True); let m:=(((0=0)∧(dJ (wK ((2:Int)+1))=dJ 3)∧True)∧c); let i:=(okPl so w h ⟨w0,h0,s0,n0,xs0⟩=true∧okPl so w h ⟨w1,h1,s1,n1,xs1⟩=true∧okPl so w h ⟨w2,h2,s2,n2,xs2⟩=true∧okPl so w h ⟨w3,h3,s3,n3,xs3⟩=true∧True); let n:=(((0=0)∧(dJ (wK ((3:Int)+1))=dJ 4)∧True)∧c); let j:=(okPl so w h ⟨w0,h0,s0,n0,xs0⟩=true∧okPl so w h ⟨w1,h1,s1,n1,xs1⟩=true∧okPl so w h ⟨w2,h2,s2,n2,xs2⟩=true∧okPl so w h ⟨w3,h3,s3,n3,xs3⟩=true∧okPl so w h ⟨w4,h4,s4,n4,xs4⟩=true∧True); let o:=(((0=0)∧(dJ (wK ((4:Int)+1))=dJ 5)∧True)∧c); tU3 ((∃ _u:Unit,True∧(((0=0)∧(dJ 0=dJ 0)∧True)∧c))∧((∀ _u:Unit,True→tU2 (decide ((0:Int) < 5)=true∧tU2 ((0≤(0:Int)∧(0:Int) < d)∧tU6 ((so=true→tU4 (((w0 != 0)=false→tU5 (((h0 != 0)=false→tU5 (((s0 != 0)=false→tU6 (((decide ((n0:Int) > 0))=true→True∧RV.d (dQ false)=RV.d b)∧((decide ((n0:Int) > 0))=false→tU4 (((!so)=true→True∧z∧tU2 ((t=false→tU7 (((w0 != w)=false→tU7 (F∧((h0 != h)=false→tU3 (∃ _u:Unit,e∧k))))∧P))∧K))∧((!so)=(!true)→tU4 (∃ _u:Unit,e∧k))))))∧((s0 != 0)=(!false)→tU3 a)))∧((h0 != 0)=(!false)→tU5 a)))∧((w0 != 0)=(!false)→tU7 a)))∧(so=(!true)→tU5 (((!so)=true→True∧z∧tU2 ((t=false→tU7 (((w0 != w)=false→tU7 (F∧((h0 != h)=false→tU3 (∃ _u:Unit,e∧k))))∧P))∧K))∧((!so)=(!true)→tU4 (∃ _u:Unit,e∧k))))))))∧(∀ _u:Unit,e→tU2 (decide ((1:Int) < 5)=true∧tU2 ((0≤(1:Int)∧(1:Int) < d)∧tU6 ((so=true→tU4 (((w1 != 0)=false→tU5 (((h1 != 0)=false→tU5 (((s1 != 0)=false→tU6 (((decide ((n1:Int) > 0))=true→True∧RV.d (dQ false)=RV.d b)∧((decide ((n1:Int) > 0))=false→tU4 (((!so)=true→True∧y∧tU2 ((s=false→tU7 (((w1 != w)=false→tU7 (E∧((h1 != h)=false→tU3 (∃ _u:Unit,f∧l))))∧O))∧J))∧((!so)=(!true)→tU4 (∃ _u:Unit,f∧l))))))∧((s1 != 0)=(!false)→tU3 a)))∧((h1 != 0)=(!false)→tU5 a)))∧((w1 != 0)=(!false)→tU7 a)))∧(so=(!true)→tU5 (((!so)=true→True∧y∧tU2 ((s=false→tU7 (((w1 != w)=false→tU7 (E∧((h1 != h)=false→tU3 (∃ _u:Unit,f∧l))))∧O))∧J))∧((!so)=(!true)→tU4 (∃ _u:Unit,f∧l))))))))∧(∀ _u:Unit,f→tU2 (decide ((2:Int) < 5)=true∧tU2 ((0≤(2:Int)∧(2:Int) < d)∧tU6 ((so=true→tU4 (((w2 != 0)=false→tU5 (((h2 != 0)=false→tU5 (((s2 != 0)=false→tU6 (((decide ((n2:Int) > 0))=true→True∧RV.d (dQ false)=RV.d b)∧((decide ((n2:Int) > 0))=false→tU4 (((!so)=true→True∧x∧tU2 ((r=false→tU7 (((w2 != w)=false→tU7 (D∧((h2 != h)=false→tU3 (∃ _u:Unit,g∧m))))∧N))∧I))∧((!so)=(!true)→tU4 (∃ _u:Unit,g∧m))))))∧((s2 != 0)=(!false)→tU3 a)))∧((h2 != 0)=(!false)→tU5 a)))∧((w2 != 0)=(!false)→tU7 a)))∧(so=(!true)→tU5 (((!so)=true→True∧x∧tU2 ((r=false→tU7 (((w2 != w)=false→tU7 (D∧((h2 != h)=false→tU3 (∃ _u:Unit,g∧m))))∧N))∧I))∧((!so)=(!true)→tU4 (∃ _u:Unit,g∧m))))))))∧(∀ _u:Unit,g→tU2 (decide ((3:Int) < 5)=true∧tU2 ((0≤(3:Int)∧(3:Int) < d)∧tU6 ((so=true→tU4 (((w3 != 0)=false→tU5 (((h3 != 0)=false→tU5 (((s3 != 0)=false→tU6 (((decide ((n3:Int) > 0))=true→True∧RV.d (dQ false)=RV.d b)∧((decide ((n3:Int) > 0))=false→tU4 (((!so)=true→True∧v∧tU2 ((q=false→tU7 (((w3 != w)=false→tU7 (C∧((h3 != h)=false→tU3 (∃ _u:Unit,i∧n))))∧M))∧H))∧((!so)=(!true)→tU4 (∃ _u:Unit,i∧n))))))∧((s3 != 0)=(!false)→tU3 a)))∧((h3 != 0)=(!false)→tU5 a)))∧((w3 != 0)=(!false)→tU7 a)))∧(so=(!true)→tU5 (((!so)=true→True∧v∧tU2 ((q=false→tU7 (((w3 != w)=false→tU7 (C∧((h3 != h)=false→tU3 (∃ _u:Unit,i∧n))))∧M))∧H))∧((!so)=(!true)→tU4 (∃ _u:Unit,i∧n))))))))∧(∀ _u:Unit,i→tU2 (decide ((4:Int) < 5)=true∧tU2 ((0≤(4:Int)∧(4:Int) < d)∧tU6 ((so=true→tU4 (((w4 != 0)=false→tU5 (((h4 != 0)=false→tU5 (((s4 != 0)=false→tU6 (((decide ((n4:Int) > 0))=true→True∧RV.d (dQ false)=RV.d b)∧((decide ((n4:Int) > 0))=false→tU4 (((!so)=true→True∧u∧tU2 ((p=false→tU7 (((w4 != w)=false→tU7 (B∧((h4 != h)=false→tU3 (∃ _u:Unit,j∧o))))∧L))∧G))∧((!so)=(!true)→tU4 (∃ _u:Unit,j∧o))))))∧((s4 != 0)=(!false)→tU3 a)))∧((h4 != 0)=(!false)→tU5 a)))∧((w4 != 0)=(!false)→tU7 a)))∧(so=(!true)→tU5 (((!so)=true→True∧u∧tU2 ((p=false→tU7 (((w4 != w)=false→tU7 (B∧((h4 != h)=false→tU3 (∃ _u:Unit,j∧o))))∧L))∧G))∧((!so)=(!true)→tU4 (∃ _u:Unit,j∧o))))))))∧(∀ _u:Unit,j→tU2 (decide ((5:Int) < 5)=false∧tU3 ((so=false→tU6 (RV.d (dQ (((c0==0) && ((c1==0) && ((c2==0) && true))) && ((ca==0) && ((cf==0) && true))))=RV.d b))∧(so=(!false)→tU2 (RV.d (dQ true)=RV.d b)))))∧True)))) ?_
  delta tU2 tU3 tU4 tU5 tU6 tU7 dJ dK dQ wK dS
  simp only [sS,zQH,zQB,zZb,zQL,zZh,zZJ,zZD,zXO,zQU,zQK]
  cases so <;> simp [w1_,Im.inner,okPl,zY5,Px.zero] <;> (repeat' (first | apply And.intro | intro)) <;> (first | assumption | (simp_all; done) | grind)
theorem zQW (w h:Int) (so:Bool) (c0 c1 c2 ca cf w0 h0 s0:Int) (n0:Nat) (xs0:List DV) (w1 h1 s1:Int) (n1:Nat) (xs1:List DV) (w2 h2 s2:Int) (n2:Nat) (xs2:List DV) (w3 h3 s3:Int) (n3:Nat) (xs3:List DV) (w4 h4 s4:Int) (n4:Nat) (xs4:List DV):Ans prog 66 [RV.agg [dJ w,dJ h,dQ so,dK c0,dK c1,dK c2,dK ca,dK cf,dJ w0,dJ h0,dJ s0,dS n0 xs0,dJ w1,dJ h1,dJ s1,dS n1 xs1,dJ w2,dJ h2,dJ s2,dS n2 xs2,dJ w3,dJ h3,dJ s3,dS n3 xs3,dJ w4,dJ h4,dJ s4,dS n4 xs4]] (RV.d (dQ (Im.formed ⟨w,h,so,⟨c0,c1,c2,ca,cf⟩,⟨w0,h0,s0,n0,xs0⟩,⟨w1,h1,s1,n1,xs1⟩,⟨w2,h2,s2,n2,xs2⟩,⟨w3,h3,s3,n3,xs3⟩,⟨w4,h4,s4,n4,xs4⟩⟩))):=
 zQj (Γ:=gamI) Ann.leaf zQy Tryz.func66 rfl (Nat.le_of_ble_eq_true rfl) fun hwf=>by
  refine Eq.mpr (by kernel_rfl:_=(let a:=(dQ (Im.inner ⟨w,h,so,⟨c0,c1,c2,ca,cf⟩,⟨w0,h0,s0,n0,xs0⟩,⟨w1,h1,s1,n1,xs1⟩,⟨w2,h2,s2,n2,xs2⟩,⟨w3,h3,s3,n3,xs3⟩,⟨w4,h4,s4,n4,xs4⟩⟩)); let b:=(dQ (Im.formed ⟨w,h,so,⟨c0,c1,c2,ca,cf⟩,⟨w0,h0,s0,n0,xs0⟩,⟨w1,h1,s1,n1,xs1⟩,⟨w2,h2,s2,n2,xs2⟩,⟨w3,h3,s3,n3,xs3⟩,⟨w4,h4,s4,n4,xs4⟩⟩)); tU6 ((Ans prog 92 [rJ w,rJ h] (RV.d (dQ (zQY w h))))∧True∧(((zQY w h)=true→True∧(Ans prog 102 [RV.agg [dJ w,dJ h,dQ so,dK c0,dK c1,dK c2,dK ca,dK cf,dJ w0,dJ h0,dJ s0,dS n0 xs0,dJ w1,dJ h1,dJ s1,dS n1 xs1,dJ w2,dJ h2,dJ s2,dS n2 xs2,dJ w3,dJ h3,dJ s3,dS n3 xs3,dJ w4,dJ h4,dJ s4,dS n4 xs4]] (RV.d a))∧tU2 (RV.d a=RV.d b))∧((zQY w h)=(!true)→tU2 (RV.d (dQ false)=RV.d b)))))) ?_
  delta tU2 tU6 dJ dK dQ dS rJ
  simp only [sS,zQH,zQB,zZb,zQL,zZh,zZJ,zZD,zXO,zQU,zQK,zQV]
  simp [Im.formed]; grind
theorem zJA (w h:Int) (so:Bool) (c0 c1 c2 ca cf w0 h0 s0:Int) (n0:Nat) (xs0:List DV) (w1 h1 s1:Int) (n1:Nat) (xs1:List DV) (w2 h2 s2:Int) (n2:Nat) (xs2:List DV) (w3 h3 s3:Int) (n3:Nat) (xs3:List DV) (w4 h4 s4:Int) (n4:Nat) (xs4:List DV) (x y:Int) (hu:Im.isU ⟨w,h,so,⟨c0,c1,c2,ca,cf⟩,⟨w0,h0,s0,n0,xs0⟩,⟨w1,h1,s1,n1,xs1⟩,⟨w2,h2,s2,n2,xs2⟩,⟨w3,h3,s3,n3,xs3⟩,⟨w4,h4,s4,n4,xs4⟩⟩) (hf:Im.inner ⟨w,h,so,⟨c0,c1,c2,ca,cf⟩,⟨w0,h0,s0,n0,xs0⟩,⟨w1,h1,s1,n1,xs1⟩,⟨w2,h2,s2,n2,xs2⟩,⟨w3,h3,s3,n3,xs3⟩,⟨w4,h4,s4,n4,xs4⟩⟩=true) (hx:0≤x∧x < w) (hy:0≤y∧y < h):Ans prog 101 [RV.agg [dJ w,dJ h,dQ so,dK c0,dK c1,dK c2,dK ca,dK cf,dJ w0,dJ h0,dJ s0,dS n0 xs0,dJ w1,dJ h1,dJ s1,dS n1 xs1,dJ w2,dJ h2,dJ s2,dS n2 xs2,dJ w3,dJ h3,dJ s3,dS n3 xs3,dJ w4,dJ h4,dJ s4,dS n4 xs4],rJ (x),rJ (y)] (RV.agg [dK ((Im.px ⟨w,h,so,⟨c0,c1,c2,ca,cf⟩,⟨w0,h0,s0,n0,xs0⟩,⟨w1,h1,s1,n1,xs1⟩,⟨w2,h2,s2,n2,xs2⟩,⟨w3,h3,s3,n3,xs3⟩,⟨w4,h4,s4,n4,xs4⟩⟩ x y).a),dK ((Im.px ⟨w,h,so,⟨c0,c1,c2,ca,cf⟩,⟨w0,h0,s0,n0,xs0⟩,⟨w1,h1,s1,n1,xs1⟩,⟨w2,h2,s2,n2,xs2⟩,⟨w3,h3,s3,n3,xs3⟩,⟨w4,h4,s4,n4,xs4⟩⟩ x y).b),dK ((Im.px ⟨w,h,so,⟨c0,c1,c2,ca,cf⟩,⟨w0,h0,s0,n0,xs0⟩,⟨w1,h1,s1,n1,xs1⟩,⟨w2,h2,s2,n2,xs2⟩,⟨w3,h3,s3,n3,xs3⟩,⟨w4,h4,s4,n4,xs4⟩⟩ x y).c),dK ((Im.px ⟨w,h,so,⟨c0,c1,c2,ca,cf⟩,⟨w0,h0,s0,n0,xs0⟩,⟨w1,h1,s1,n1,xs1⟩,⟨w2,h2,s2,n2,xs2⟩,⟨w3,h3,s3,n3,xs3⟩,⟨w4,h4,s4,n4,xs4⟩⟩ x y).al),dK ((Im.px ⟨w,h,so,⟨c0,c1,c2,ca,cf⟩,⟨w0,h0,s0,n0,xs0⟩,⟨w1,h1,s1,n1,xs1⟩,⟨w2,h2,s2,n2,xs2⟩,⟨w3,h3,s3,n3,xs3⟩,⟨w4,h4,s4,n4,xs4⟩⟩ x y).f)]):=
 zQj (Γ:=gamI) (let a:=(7,AV.one (Cl.ptr 7 0)); let b:=(6,AV.one (Cl.ptr 6 0)); let g:=(Ann.seq Ann.leaf (Ann.seq (Ann.sure true Ann.leaf) Ann.leaf)); let c:=(1,aJ x); let d:=(2,aJ y); let e:=(15,AV.agg [cJ w0,cJ h0,cJ s0,Cl.d (dS n0 xs0),cJ w1,cJ h1,cJ s1,Cl.d (dS n1 xs1),cJ w2,cJ h2,cJ s2,Cl.d (dS n2 xs2),cJ w3,cJ h3,cJ s3,Cl.d (dS n3 xs3),cJ w4,cJ h4,cJ s4,Cl.d (dS n4 xs4)]); let k:=[cK 0,cK 0,cK 0,cK 0,cK 0]; let f:=(6,Bx.cells k); let h:=(dK (nAt xs0 ((wK ((wK (y*s0))+x)).toNat*1))); let i:=(dK (nAt xs1 ((wK ((wK (y*s1))+x)).toNat*1))); let j:=(dK (nAt xs2 ((wK ((wK (y*s2))+x)).toNat*1))); let l:=(dK (nAt xs3 ((wK ((wK (y*s3))+x)).toNat*1))); (Ann.seq Ann.leaf (Ann.seq Ann.leaf (Ann.seq Ann.leaf (Ann.seq (Ann.seq Ann.leaf (Ann.link ⟨Unit,fun _u=>True,fun _u=>⟨[c,d,b,a,e,(16,aJ 0)],[f,(7,Bx.cells k)]⟩,fun _u=>0⟩ (fun _u=>g) (Ann.link ⟨Unit,fun _u=>True,fun _u=>⟨[c,d,b,a,e,(16,aJ 1)],[f,(7,bC [Cl.d h,cK 0,cK 0,cK 0,cK 0])]⟩,fun _u=>0⟩ (fun _u=>g) (Ann.link ⟨Unit,fun _u=>True,fun _u=>⟨[c,d,b,a,e,(16,aJ 2)],[f,(7,bC [Cl.d h,Cl.d i,cK 0,cK 0,cK 0])]⟩,fun _u=>0⟩ (fun _u=>g) (Ann.link ⟨Unit,fun _u=>True,fun _u=>⟨[c,d,b,a,e,(16,aJ 3)],[f,(7,bC [Cl.d h,Cl.d i,Cl.d j,cK 0,cK 0])]⟩,fun _u=>0⟩ (fun _u=>g) (Ann.link ⟨Unit,fun _u=>True,fun _u=>⟨[c,d,b,a,e,(16,aJ 4)],[f,(7,bC [Cl.d h,Cl.d i,Cl.d j,Cl.d l,cK 0])]⟩,fun _u=>0⟩ (fun _u=>g) (Ann.link ⟨Unit,fun _u=>True,fun _u=>⟨[c,d,b,a,e,(16,aJ 5)],[f,(7,bC [Cl.d h,Cl.d i,Cl.d j,Cl.d l,cK (nAt xs4 ((wK ((wK (y*s4))+x)).toNat*1))])]⟩,fun _u=>0⟩ (fun _u=>(Ann.seq Ann.leaf (Ann.seq (Ann.sure false Ann.leaf) Ann.leaf))) Ann.leaf))))))) Ann.leaf))))) zQy Tryz.func101 rfl (Nat.le_of_ble_eq_true rfl) fun hwf=>by
  refine Eq.mpr (by kernel_rfl:_=(let a:=((5:Nat):Int); let g:=(Im.px ⟨w,h,so,⟨c0,c1,c2,ca,cf⟩,⟨w0,h0,s0,n0,xs0⟩,⟨w1,h1,s1,n1,xs1⟩,⟨w2,h2,s2,n2,xs2⟩,⟨w3,h3,s3,n3,xs3⟩,⟨w4,h4,s4,n4,xs4⟩⟩ x y); let z:=[dK g.a,dK g.b,dK g.c,dK g.al,dK g.f]; let c:=(dJ x=dJ x); let d:=(dJ y=dJ y); let A:=[dJ w0,dJ h0,dJ s0,dS n0 xs0,dJ w1,dJ h1,dJ s1,dS n1 xs1,dJ w2,dJ h2,dJ s2,dS n2 xs2,dJ w3,dJ h3,dJ s3,dS n3 xs3,dJ w4,dJ h4,dJ s4,dS n4 xs4]; let e:=(A=A); let B:=[dK 0,dK 0,dK 0,dK 0,dK 0]; let b:=(B=B); let l:=((wK (y*s0))+x); let m:=(wK l); let f:=(nAt xs0 (m.toNat*1)); let C:=(0≤(0:Int)∧(0:Int) < a); let D:=[dK f,dK 0,dK 0,dK 0,dK 0]; let n:=((wK (y*s1))+x); let o:=(wK n); let i:=(nAt xs1 (o.toNat*1)); let E:=(0≤(1:Int)∧(1:Int) < a); let F:=[dK f,dK i,dK 0,dK 0,dK 0]; let p:=((wK (y*s2))+x); let q:=(wK p); let j:=(nAt xs2 (q.toNat*1)); let G:=(0≤(2:Int)∧(2:Int) < a); let H:=[dK f,dK i,dK j,dK 0,dK 0]; let r:=((wK (y*s3))+x); let s:=(wK r); let t:=(nAt xs3 (s.toNat*1)); let I:=(0≤(3:Int)∧(3:Int) < a); let J:=[dK f,dK i,dK j,dK t,dK 0]; let u:=((wK (y*s4))+x); let k:=(wK u); let K:=(0≤(4:Int)∧(4:Int) < a); let v:=[dK f,dK i,dK j,dK t,dK (nAt xs4 (k.toNat*1))]; tU4 ((so=true→tU3 (RV.agg [dK c0,dK c1,dK c2,dK ca,dK cf]=RV.agg z))∧(so=false→tU4 ((∃ _u:Unit,True∧((c∧d∧(0=0)∧(0=0)∧e∧(dJ 0=dJ 0)∧True)∧(b∧b∧True)))∧((∀ _u:Unit,True→True∧(decide ((0:Int) < 5)=true∧True∧(0≤(0:Int)∧(0:Int) < a∧(some (dJ w0)=some (dJ w0))∧(some (dJ h0)=some (dJ h0))∧(some (dJ s0)=some (dJ s0))∧(some (dS n0 xs0)=some (dS n0 xs0))∧True)∧tU4 (tU8 ((0≤wK l∧wK l < (n0:Int)∧m.toNat*1 < xs0.length)∧((xs0[m.toNat*1]?=some (dK f))∧True)∧C∧tU3 (∃ _u:Unit,True∧((c∧d∧(0=0)∧(0=0)∧e∧(dJ (wK ((0:Int)+1))=dJ 1)∧True)∧(b∧(D=D)∧True)))))))∧(∀ _u:Unit,True→True∧(decide ((1:Int) < 5)=true∧True∧(0≤(1:Int)∧(1:Int) < a∧(some (dJ w1)=some (dJ w1))∧(some (dJ h1)=some (dJ h1))∧(some (dJ s1)=some (dJ s1))∧(some (dS n1 xs1)=some (dS n1 xs1))∧True)∧tU4 (tU8 ((0≤wK n∧wK n < (n1:Int)∧o.toNat*1 < xs1.length)∧((xs1[o.toNat*1]?=some (dK i))∧True)∧E∧tU3 (∃ _u:Unit,True∧((c∧d∧(0=0)∧(0=0)∧e∧(dJ (wK ((1:Int)+1))=dJ 2)∧True)∧(b∧(F=F)∧True)))))))∧(∀ _u:Unit,True→True∧(decide ((2:Int) < 5)=true∧True∧(0≤(2:Int)∧(2:Int) < a∧(some (dJ w2)=some (dJ w2))∧(some (dJ h2)=some (dJ h2))∧(some (dJ s2)=some (dJ s2))∧(some (dS n2 xs2)=some (dS n2 xs2))∧True)∧tU4 (tU8 ((0≤wK p∧wK p < (n2:Int)∧q.toNat*1 < xs2.length)∧((xs2[q.toNat*1]?=some (dK j))∧True)∧G∧tU3 (∃ _u:Unit,True∧((c∧d∧(0=0)∧(0=0)∧e∧(dJ (wK ((2:Int)+1))=dJ 3)∧True)∧(b∧(H=H)∧True)))))))∧(∀ _u:Unit,True→True∧(decide ((3:Int) < 5)=true∧True∧(0≤(3:Int)∧(3:Int) < a∧(some (dJ w3)=some (dJ w3))∧(some (dJ h3)=some (dJ h3))∧(some (dJ s3)=some (dJ s3))∧(some (dS n3 xs3)=some (dS n3 xs3))∧True)∧tU4 (tU8 ((0≤wK r∧wK r < (n3:Int)∧s.toNat*1 < xs3.length)∧((xs3[s.toNat*1]?=some (dK t))∧True)∧I∧tU3 (∃ _u:Unit,True∧((c∧d∧(0=0)∧(0=0)∧e∧(dJ (wK ((3:Int)+1))=dJ 4)∧True)∧(b∧(J=J)∧True)))))))∧(∀ _u:Unit,True→True∧(decide ((4:Int) < 5)=true∧True∧(0≤(4:Int)∧(4:Int) < a∧(some (dJ w4)=some (dJ w4))∧(some (dJ h4)=some (dJ h4))∧(some (dJ s4)=some (dJ s4))∧(some (dS n4 xs4)=some (dS n4 xs4))∧True)∧tU4 (tU8 ((0≤wK u∧wK u < (n4:Int)∧k.toNat*1 < xs4.length)∧((xs4[k.toNat*1]?=some (dK (nAt xs4 (k.toNat*1))))∧True)∧K∧tU3 (∃ _u:Unit,True∧((c∧d∧(0=0)∧(0=0)∧e∧(dJ (wK ((4:Int)+1))=dJ 5)∧True)∧(b∧(v=v)∧True)))))))∧(∀ _u:Unit,True→True∧(decide ((5:Int) < 5)=false∧C∧True∧E∧True∧G∧tU2 (I∧True∧K∧tU3 (RV.agg v=RV.agg z))))∧True)))))) ?_
  delta tU2 tU3 tU4 tU8 dJ dK wK dS
  simp only [sS,zQH,zQB,zQL,zQK,zQV,zQW]
  cases so with
  | true=>simp [Im.px]
  | false=>
   obtain ⟨u0,u1,u2,u3,u4⟩:=hu
   obtain ⟨hc,⟨v0,e0,e0'⟩,⟨v1,e1,e1'⟩,⟨v2,e2,e2'⟩,⟨v3,e3,e3'⟩,⟨v4,e4,e4'⟩⟩:=Im.inner_planes hf rfl
   simp only at v0 e0 e0' v1 e1 e1' v2 e2 e2' v3 e3 e3' v4 e4 e4'
   obtain ⟨a0,b0,d0⟩:=zXL u0 v0 (x:=x) (y:=y) ⟨hx.1,by omega⟩ ⟨hy.1,by omega⟩
   obtain ⟨a1,b1,d1⟩:=zXL u1 v1 (x:=x) (y:=y) ⟨hx.1,by omega⟩ ⟨hy.1,by omega⟩
   obtain ⟨a2,b2,d2⟩:=zXL u2 v2 (x:=x) (y:=y) ⟨hx.1,by omega⟩ ⟨hy.1,by omega⟩
   obtain ⟨a3,b3,d3⟩:=zXL u3 v3 (x:=x) (y:=y) ⟨hx.1,by omega⟩ ⟨hy.1,by omega⟩
   obtain ⟨a4,b4,d4⟩:=zXL u4 v4 (x:=x) (y:=y) ⟨hx.1,by omega⟩ ⟨hy.1,by omega⟩
   simp only at a0 b0 d0 a1 b1 d1 a2 b2 d2 a3 b3 d3 a4 b4 d4
   simp only [Nat.mul_one] at b0 b1 b2 b3 b4 d0 d1 d2 d3 d4
   have f0:=(List.getElem?_eq_some_iff.1 d0).2
   have f1:=(List.getElem?_eq_some_iff.1 d1).2
   have f2:=(List.getElem?_eq_some_iff.1 d2).2
   have f3:=(List.getElem?_eq_some_iff.1 d3).2
   have f4:=(List.getElem?_eq_some_iff.1 d4).2
   simp [w1_,f0,f1,f2,f3,f4,a0,a1,a2,a3,a4,b0,b1,b2,b3,b4,d0,d1,d2,d3,d4,Im.px,Pl.at_]
theorem zGP (w h:Int) (so:Bool) (c0 c1 c2 ca cf w0 h0 s0:Int) (n0:Nat) (xs0:List DV) (w1 h1 s1:Int) (n1:Nat) (xs1:List DV) (w2 h2 s2:Int) (n2:Nat) (xs2:List DV) (w3 h3 s3:Int) (n3:Nat) (xs3:List DV) (w4 h4 s4:Int) (n4:Nat) (xs4:List DV) (x y:Int) (hu:Im.isU ⟨w,h,so,⟨c0,c1,c2,ca,cf⟩,⟨w0,h0,s0,n0,xs0⟩,⟨w1,h1,s1,n1,xs1⟩,⟨w2,h2,s2,n2,xs2⟩,⟨w3,h3,s3,n3,xs3⟩,⟨w4,h4,s4,n4,xs4⟩⟩) (hf:Im.inner ⟨w,h,so,⟨c0,c1,c2,ca,cf⟩,⟨w0,h0,s0,n0,xs0⟩,⟨w1,h1,s1,n1,xs1⟩,⟨w2,h2,s2,n2,xs2⟩,⟨w3,h3,s3,n3,xs3⟩,⟨w4,h4,s4,n4,xs4⟩⟩=true) (hx:0≤x∧x < w) (hy:0≤y∧y < h):Ans prog 67 [RV.agg [dJ w,dJ h,dQ so,dK c0,dK c1,dK c2,dK ca,dK cf,dJ w0,dJ h0,dJ s0,dS n0 xs0,dJ w1,dJ h1,dJ s1,dS n1 xs1,dJ w2,dJ h2,dJ s2,dS n2 xs2,dJ w3,dJ h3,dJ s3,dS n3 xs3,dJ w4,dJ h4,dJ s4,dS n4 xs4],rJ (x),rJ (y)] (RV.agg [dK ((Im.px ⟨w,h,so,⟨c0,c1,c2,ca,cf⟩,⟨w0,h0,s0,n0,xs0⟩,⟨w1,h1,s1,n1,xs1⟩,⟨w2,h2,s2,n2,xs2⟩,⟨w3,h3,s3,n3,xs3⟩,⟨w4,h4,s4,n4,xs4⟩⟩ x y).a),dK ((Im.px ⟨w,h,so,⟨c0,c1,c2,ca,cf⟩,⟨w0,h0,s0,n0,xs0⟩,⟨w1,h1,s1,n1,xs1⟩,⟨w2,h2,s2,n2,xs2⟩,⟨w3,h3,s3,n3,xs3⟩,⟨w4,h4,s4,n4,xs4⟩⟩ x y).b),dK ((Im.px ⟨w,h,so,⟨c0,c1,c2,ca,cf⟩,⟨w0,h0,s0,n0,xs0⟩,⟨w1,h1,s1,n1,xs1⟩,⟨w2,h2,s2,n2,xs2⟩,⟨w3,h3,s3,n3,xs3⟩,⟨w4,h4,s4,n4,xs4⟩⟩ x y).c),dK ((Im.px ⟨w,h,so,⟨c0,c1,c2,ca,cf⟩,⟨w0,h0,s0,n0,xs0⟩,⟨w1,h1,s1,n1,xs1⟩,⟨w2,h2,s2,n2,xs2⟩,⟨w3,h3,s3,n3,xs3⟩,⟨w4,h4,s4,n4,xs4⟩⟩ x y).al),dK ((Im.px ⟨w,h,so,⟨c0,c1,c2,ca,cf⟩,⟨w0,h0,s0,n0,xs0⟩,⟨w1,h1,s1,n1,xs1⟩,⟨w2,h2,s2,n2,xs2⟩,⟨w3,h3,s3,n3,xs3⟩,⟨w4,h4,s4,n4,xs4⟩⟩ x y).f)]):=
 zQj (Γ:=gamI) (let a:=(7,AV.one (Cl.ptr 7 0)); let b:=(6,AV.one (Cl.ptr 6 0)); let c:=(3,AV.one (Cl.ptr 3 0)); let i:=(Ann.seq (Ann.seq Ann.leaf (Ann.sure true Ann.leaf)) Ann.leaf); let d:=(1,aJ x); let e:=(2,aJ y); let f:=(3,bC [cJ w,cJ h,Cl.d (dQ so),cK c0,cK c1,cK c2,cK ca,cK cf,cJ w0,cJ h0,cJ s0,Cl.d (dS n0 xs0),cJ w1,cJ h1,cJ s1,Cl.d (dS n1 xs1),cJ w2,cJ h2,cJ s2,Cl.d (dS n2 xs2),cJ w3,cJ h3,cJ s3,Cl.d (dS n3 xs3),cJ w4,cJ h4,cJ s4,Cl.d (dS n4 xs4)]); let g:=(6,bC [cK 0,cK 0,cK 0,cK 0,cK 0]); let j:=(dJ (wK ((wK (y*s0))+x))); let k:=(dJ (wK ((wK (y*s1))+x))); let l:=(dJ (wK ((wK (y*s2))+x))); let m:=(dJ (wK ((wK (y*s3))+x))); (Ann.seq Ann.leaf (Ann.seq Ann.leaf (Ann.seq Ann.leaf (Ann.seq (Ann.seq Ann.leaf (Ann.link ⟨Unit,fun _u=>True,fun _u=>⟨[d,e,c,b,a,(8,aJ 0)],[f,g,(7,bC [cJ 0,cJ 0,cJ 0,cJ 0,cJ 0])]⟩,fun _u=>0⟩ (fun _u=>i) (Ann.link ⟨Unit,fun _u=>True,fun _u=>⟨[d,e,c,b,a,(8,aJ 1)],[f,g,(7,bC [Cl.d j,cJ 0,cJ 0,cJ 0,cJ 0])]⟩,fun _u=>0⟩ (fun _u=>i) (Ann.link ⟨Unit,fun _u=>True,fun _u=>⟨[d,e,c,b,a,(8,aJ 2)],[f,g,(7,bC [Cl.d j,Cl.d k,cJ 0,cJ 0,cJ 0])]⟩,fun _u=>0⟩ (fun _u=>i) (Ann.link ⟨Unit,fun _u=>True,fun _u=>⟨[d,e,c,b,a,(8,aJ 3)],[f,g,(7,bC [Cl.d j,Cl.d k,Cl.d l,cJ 0,cJ 0])]⟩,fun _u=>0⟩ (fun _u=>i) (Ann.link ⟨Unit,fun _u=>True,fun _u=>⟨[d,e,c,b,a,(8,aJ 4)],[f,g,(7,bC [Cl.d j,Cl.d k,Cl.d l,Cl.d m,cJ 0])]⟩,fun _u=>0⟩ (fun _u=>i) (Ann.link ⟨Unit,fun _u=>True,fun _u=>⟨[d,e,c,b,a,(8,aJ 5)],[f,g,(7,bC [Cl.d j,Cl.d k,Cl.d l,Cl.d m,cJ (wK ((wK (y*s4))+x))])]⟩,fun _u=>0⟩ (fun _u=>(Ann.seq (Ann.seq Ann.leaf (Ann.sure false Ann.leaf)) Ann.leaf)) Ann.leaf))))))) Ann.leaf))))) zQy Tryz.func67 rfl (Nat.le_of_ble_eq_true rfl) fun hwf=>by
  refine Eq.mpr (by kernel_rfl:_=(let j:=((5:Nat):Int); let k:=(Im.px ⟨w,h,so,⟨c0,c1,c2,ca,cf⟩,⟨w0,h0,s0,n0,xs0⟩,⟨w1,h1,s1,n1,xs1⟩,⟨w2,h2,s2,n2,xs2⟩,⟨w3,h3,s3,n3,xs3⟩,⟨w4,h4,s4,n4,xs4⟩⟩ x y); let z:=[dK k.a,dK k.b,dK k.c,dK k.al,dK k.f]; let d:=(dJ x=dJ x); let e:=(dJ y=dJ y); let A:=[dJ w,dJ h,dQ so,dK c0,dK c1,dK c2,dK ca,dK cf,dJ w0,dJ h0,dJ s0,dS n0 xs0,dJ w1,dJ h1,dJ s1,dS n1 xs1,dJ w2,dJ h2,dJ s2,dS n2 xs2,dJ w3,dJ h3,dJ s3,dS n3 xs3,dJ w4,dJ h4,dJ s4,dS n4 xs4]; let f:=(A=A); let B:=[dK 0,dK 0,dK 0,dK 0,dK 0]; let g:=(B=B); let C:=[dJ 0,dJ 0,dJ 0,dJ 0,dJ 0]; let m:=(0≤(0:Int)∧(0:Int) < j); let r:=((wK (y*s0))+x); let a:=(wK r); let D:=[dJ a,dJ 0,dJ 0,dJ 0,dJ 0]; let n:=(0≤(1:Int)∧(1:Int) < j); let s:=((wK (y*s1))+x); let b:=(wK s); let E:=[dJ a,dJ b,dJ 0,dJ 0,dJ 0]; let o:=(0≤(2:Int)∧(2:Int) < j); let t:=((wK (y*s2))+x); let c:=(wK t); let F:=[dJ a,dJ b,dJ c,dJ 0,dJ 0]; let p:=(0≤(3:Int)∧(3:Int) < j); let u:=((wK (y*s3))+x); let i:=(wK u); let G:=[dJ a,dJ b,dJ c,dJ i,dJ 0]; let q:=(0≤(4:Int)∧(4:Int) < j); let v:=((wK (y*s4))+x); let l:=(wK v); let H:=[dJ a,dJ b,dJ c,dJ i,dJ l]; tU4 ((so=true→tU3 (RV.agg [dK c0,dK c1,dK c2,dK ca,dK cf]=RV.agg z))∧(so=false→tU4 ((∃ _u:Unit,True∧((d∧e∧(0=0)∧(0=0)∧(0=0)∧(dJ 0=dJ 0)∧True)∧(f∧g∧(C=C)∧True)))∧((∀ _u:Unit,True→tU2 (decide ((0:Int) < 5)=true∧tU4 (m∧tU5 (m∧tU4 (∃ _u:Unit,True∧((d∧e∧(0=0)∧(0=0)∧(0=0)∧(dJ (wK ((0:Int)+1))=dJ 1)∧True)∧(f∧g∧(D=D)∧True)))))))∧(∀ _u:Unit,True→tU2 (decide ((1:Int) < 5)=true∧tU4 (n∧tU5 (n∧tU4 (∃ _u:Unit,True∧((d∧e∧(0=0)∧(0=0)∧(0=0)∧(dJ (wK ((1:Int)+1))=dJ 2)∧True)∧(f∧g∧(E=E)∧True)))))))∧(∀ _u:Unit,True→tU2 (decide ((2:Int) < 5)=true∧tU4 (o∧tU5 (o∧tU4 (∃ _u:Unit,True∧((d∧e∧(0=0)∧(0=0)∧(0=0)∧(dJ (wK ((2:Int)+1))=dJ 3)∧True)∧(f∧g∧(F=F)∧True)))))))∧(∀ _u:Unit,True→tU2 (decide ((3:Int) < 5)=true∧tU4 (p∧tU5 (p∧tU4 (∃ _u:Unit,True∧((d∧e∧(0=0)∧(0=0)∧(0=0)∧(dJ (wK ((3:Int)+1))=dJ 4)∧True)∧(f∧g∧(G=G)∧True)))))))∧(∀ _u:Unit,True→tU2 (decide ((4:Int) < 5)=true∧tU4 (q∧tU5 (q∧tU4 (∃ _u:Unit,True∧((d∧e∧(0=0)∧(0=0)∧(0=0)∧(dJ (wK ((4:Int)+1))=dJ 5)∧True)∧(f∧g∧(H=H)∧True)))))))∧(∀ _u:Unit,True→tU2 (decide ((5:Int) < 5)=false∧True∧m∧tU2 (m∧True∧(0≤wK r∧wK r < (n0:Int)∧a.toNat*1 < xs0.length)∧((xs0[a.toNat*1]?=some (dK (nAt xs0 (a.toNat*1))))∧True)∧True∧n∧tU2 (n∧True∧(0≤wK s∧wK s < (n1:Int)∧b.toNat*1 < xs1.length)∧((xs1[b.toNat*1]?=some (dK (nAt xs1 (b.toNat*1))))∧True)∧True∧o∧tU2 (o∧True∧(0≤wK t∧wK t < (n2:Int)∧c.toNat*1 < xs2.length)∧((xs2[c.toNat*1]?=some (dK (nAt xs2 (c.toNat*1))))∧True)∧tU2 (p∧tU2 (p∧True∧(0≤wK u∧wK u < (n3:Int)∧i.toNat*1 < xs3.length)∧((xs3[i.toNat*1]?=some (dK (nAt xs3 (i.toNat*1))))∧True)∧True∧q∧tU2 (q∧True∧(0≤wK v∧wK v < (n4:Int)∧l.toNat*1 < xs4.length)∧((xs4[l.toNat*1]?=some (dK (nAt xs4 (l.toNat*1))))∧True)∧tU2 ((true=true)∧RV.agg [dK (nAt xs0 (a.toNat*1)),dK (nAt xs1 (b.toNat*1)),dK (nAt xs2 (c.toNat*1)),dK (nAt xs3 (i.toNat*1)),dK (nAt xs4 (l.toNat*1))]=RV.agg z)))))))))∧True)))))) ?_
  delta tU2 tU3 tU4 tU5 dJ dK dQ wK dS
  simp only [sS,zQH,zQB,zQL,zQK,zQV,zQW]
  cases so with
  | true=>simp [Im.px]
  | false=>
   obtain ⟨u0,u1,u2,u3,u4⟩:=hu
   obtain ⟨hc,⟨v0,e0,e0'⟩,⟨v1,e1,e1'⟩,⟨v2,e2,e2'⟩,⟨v3,e3,e3'⟩,⟨v4,e4,e4'⟩⟩:=Im.inner_planes hf rfl
   simp only at v0 e0 e0' v1 e1 e1' v2 e2 e2' v3 e3 e3' v4 e4 e4'
   obtain ⟨a0,b0,d0⟩:=zXL u0 v0 (x:=x) (y:=y) ⟨hx.1,by omega⟩ ⟨hy.1,by omega⟩
   obtain ⟨a1,b1,d1⟩:=zXL u1 v1 (x:=x) (y:=y) ⟨hx.1,by omega⟩ ⟨hy.1,by omega⟩
   obtain ⟨a2,b2,d2⟩:=zXL u2 v2 (x:=x) (y:=y) ⟨hx.1,by omega⟩ ⟨hy.1,by omega⟩
   obtain ⟨a3,b3,d3⟩:=zXL u3 v3 (x:=x) (y:=y) ⟨hx.1,by omega⟩ ⟨hy.1,by omega⟩
   obtain ⟨a4,b4,d4⟩:=zXL u4 v4 (x:=x) (y:=y) ⟨hx.1,by omega⟩ ⟨hy.1,by omega⟩
   simp only at a0 b0 d0 a1 b1 d1 a2 b2 d2 a3 b3 d3 a4 b4 d4
   simp only [Nat.mul_one] at b0 b1 b2 b3 b4 d0 d1 d2 d3 d4
   have f0:=(List.getElem?_eq_some_iff.1 d0).2
   have f1:=(List.getElem?_eq_some_iff.1 d1).2
   have f2:=(List.getElem?_eq_some_iff.1 d2).2
   have f3:=(List.getElem?_eq_some_iff.1 d3).2
   have f4:=(List.getElem?_eq_some_iff.1 d4).2
   simp [w1_,f0,f1,f2,f3,f4,a0,a1,a2,a3,a4,b0,b1,b2,b3,b4,d0,d1,d2,d3,d4,Im.px,Pl.at_]
theorem zZf (w h:Int) (so:Bool) (c0 c1 c2 ca cf w0 h0 s0:Int) (n0:Nat) (xs0:List DV) (w1 h1 s1:Int) (n1:Nat) (xs1:List DV) (w2 h2 s2:Int) (n2:Nat) (xs2:List DV) (w3 h3 s3:Int) (n3:Nat) (xs3:List DV) (w4 h4 s4:Int) (n4:Nat) (xs4:List DV):Ans prog 121 [RV.agg [dJ w,dJ h,dQ so,dK c0,dK c1,dK c2,dK ca,dK cf,dJ w0,dJ h0,dJ s0,dS n0 xs0,dJ w1,dJ h1,dJ s1,dS n1 xs1,dJ w2,dJ h2,dJ s2,dS n2 xs2,dJ w3,dJ h3,dJ s3,dS n3 xs3,dJ w4,dJ h4,dJ s4,dS n4 xs4]] (rJ ((Im.shape ⟨w,h,so,⟨c0,c1,c2,ca,cf⟩,⟨w0,h0,s0,n0,xs0⟩,⟨w1,h1,s1,n1,xs1⟩,⟨w2,h2,s2,n2,xs2⟩,⟨w3,h3,s3,n3,xs3⟩,⟨w4,h4,s4,n4,xs4⟩⟩))):=
 zQj (Γ:=gamI) Ann.leaf zQy Tryz.func121 rfl (Nat.le_of_ble_eq_true rfl) fun hwf=>by
  refine Eq.mpr (by kernel_rfl:_=(let a:=(dJ (Im.shape ⟨w,h,so,⟨c0,c1,c2,ca,cf⟩,⟨w0,h0,s0,n0,xs0⟩,⟨w1,h1,s1,n1,xs1⟩,⟨w2,h2,s2,n2,xs2⟩,⟨w3,h3,s3,n3,xs3⟩,⟨w4,h4,s4,n4,xs4⟩⟩)); let b:=(Im.formed ⟨w,h,so,⟨c0,c1,c2,ca,cf⟩,⟨w0,h0,s0,n0,xs0⟩,⟨w1,h1,s1,n1,xs1⟩,⟨w2,h2,s2,n2,xs2⟩,⟨w3,h3,s3,n3,xs3⟩,⟨w4,h4,s4,n4,xs4⟩⟩); tU6 ((Ans prog 125 [rJ w,rJ h] (RV.d (dQ (zQY w h))))∧tU2 (((!(zQY w h))=true→True∧rJ 6=RV.d a)∧((!(zQY w h))=false→True∧(Ans prog 99 [RV.agg [dJ w,dJ h,dQ so,dK c0,dK c1,dK c2,dK ca,dK cf,dJ w0,dJ h0,dJ s0,dS n0 xs0,dJ w1,dJ h1,dJ s1,dS n1 xs1,dJ w2,dJ h2,dJ s2,dS n2 xs2,dJ w3,dJ h3,dJ s3,dS n3 xs3,dJ w4,dJ h4,dJ s4,dS n4 xs4]] (RV.d (dQ b)))∧tU2 (((!b)=true→True∧rJ 7=RV.d a)∧((!b)=false→True∧rJ 0=RV.d a))))))) ?_
  delta tU2 tU6 dJ dK dQ dS rJ
  simp only [sS,zQH,zQB,zQL,zQK,zQV,zQW]
  simp [Im.shape,Im.formed]; (repeat' (first | apply And.intro | intro)) <;> (first | assumption | (simp_all; done) | grind)
theorem zJB (w h c0 c1 c2 ca cf:Int):Ans prog 114 [rJ (w),rJ (h),RV.agg [dK c0,dK c1,dK c2,dK ca,dK cf]] (RV.agg [dJ ((zQi w h ⟨c0,c1,c2,ca,cf⟩).w),dJ ((zQi w h ⟨c0,c1,c2,ca,cf⟩).h),dQ ((zQi w h ⟨c0,c1,c2,ca,cf⟩).so),dK (((zQi w h ⟨c0,c1,c2,ca,cf⟩).c).a),dK (((zQi w h ⟨c0,c1,c2,ca,cf⟩).c).b),dK (((zQi w h ⟨c0,c1,c2,ca,cf⟩).c).c),dK (((zQi w h ⟨c0,c1,c2,ca,cf⟩).c).al),dK (((zQi w h ⟨c0,c1,c2,ca,cf⟩).c).f),dJ (((zQi w h ⟨c0,c1,c2,ca,cf⟩).p0).w),dJ (((zQi w h ⟨c0,c1,c2,ca,cf⟩).p0).h),dJ (((zQi w h ⟨c0,c1,c2,ca,cf⟩).p0).s),dS (((zQi w h ⟨c0,c1,c2,ca,cf⟩).p0).n) (((zQi w h ⟨c0,c1,c2,ca,cf⟩).p0).xs),dJ (((zQi w h ⟨c0,c1,c2,ca,cf⟩).p1).w),dJ (((zQi w h ⟨c0,c1,c2,ca,cf⟩).p1).h),dJ (((zQi w h ⟨c0,c1,c2,ca,cf⟩).p1).s),dS (((zQi w h ⟨c0,c1,c2,ca,cf⟩).p1).n) (((zQi w h ⟨c0,c1,c2,ca,cf⟩).p1).xs),dJ (((zQi w h ⟨c0,c1,c2,ca,cf⟩).p2).w),dJ (((zQi w h ⟨c0,c1,c2,ca,cf⟩).p2).h),dJ (((zQi w h ⟨c0,c1,c2,ca,cf⟩).p2).s),dS (((zQi w h ⟨c0,c1,c2,ca,cf⟩).p2).n) (((zQi w h ⟨c0,c1,c2,ca,cf⟩).p2).xs),dJ (((zQi w h ⟨c0,c1,c2,ca,cf⟩).p3).w),dJ (((zQi w h ⟨c0,c1,c2,ca,cf⟩).p3).h),dJ (((zQi w h ⟨c0,c1,c2,ca,cf⟩).p3).s),dS (((zQi w h ⟨c0,c1,c2,ca,cf⟩).p3).n) (((zQi w h ⟨c0,c1,c2,ca,cf⟩).p3).xs),dJ (((zQi w h ⟨c0,c1,c2,ca,cf⟩).p4).w),dJ (((zQi w h ⟨c0,c1,c2,ca,cf⟩).p4).h),dJ (((zQi w h ⟨c0,c1,c2,ca,cf⟩).p4).s),dS (((zQi w h ⟨c0,c1,c2,ca,cf⟩).p4).n) (((zQi w h ⟨c0,c1,c2,ca,cf⟩).p4).xs)]):=
 zQj (Γ:=gamI) Ann.leaf zQy Tryz.func114 rfl (Nat.le_of_ble_eq_true rfl) fun hwf=>by
  refine Eq.mpr (by kernel_rfl:_=(let a:=(zQi w h ⟨c0,c1,c2,ca,cf⟩).p0; let b:=(zQi w h ⟨c0,c1,c2,ca,cf⟩).p1; let d:=(zQi w h ⟨c0,c1,c2,ca,cf⟩).p2; let e:=(zQi w h ⟨c0,c1,c2,ca,cf⟩).p3; let f:=(zQi w h ⟨c0,c1,c2,ca,cf⟩).p4; let g:=(zQi w h ⟨c0,c1,c2,ca,cf⟩).c; tU7 (RV.agg [dJ w,dJ h,dQ true,dK c0,dK c1,dK c2,dK ca,dK cf,dJ 0,dJ 0,dJ 0,dS 0 ([]),dJ 0,dJ 0,dJ 0,dS 0 ([]),dJ 0,dJ 0,dJ 0,dS 0 ([]),dJ 0,dJ 0,dJ 0,dS 0 ([]),dJ 0,dJ 0,dJ 0,dS 0 ([])]=RV.agg [dJ (zQi w h ⟨c0,c1,c2,ca,cf⟩).w,dJ (zQi w h ⟨c0,c1,c2,ca,cf⟩).h,dQ (zQi w h ⟨c0,c1,c2,ca,cf⟩).so,dK g.a,dK g.b,dK g.c,dK g.al,dK g.f,dJ a.w,dJ a.h,dJ a.s,dS a.n a.xs,dJ b.w,dJ b.h,dJ b.s,dS b.n b.xs,dJ d.w,dJ d.h,dJ d.s,dS d.n d.xs,dJ e.w,dJ e.h,dJ e.s,dS e.n e.xs,dJ f.w,dJ f.h,dJ f.s,dS f.n f.xs]))) ?_
  delta tU7 dJ dK dQ dS
  simp only [sS,zQH,zQB,zQL,zQK,zQV,zQW,zZf]
  simp [zQi,Pl.none,Px.zero]
theorem zGR (w h c0 c1 c2 ca cf:Int):Ans prog 22 [rJ (w),rJ (h),RV.agg [dK c0,dK c1,dK c2,dK ca,dK cf]] (RV.agg [dJ ((zQi w h ⟨c0,c1,c2,ca,cf⟩).w),dJ ((zQi w h ⟨c0,c1,c2,ca,cf⟩).h),dQ ((zQi w h ⟨c0,c1,c2,ca,cf⟩).so),dK (((zQi w h ⟨c0,c1,c2,ca,cf⟩).c).a),dK (((zQi w h ⟨c0,c1,c2,ca,cf⟩).c).b),dK (((zQi w h ⟨c0,c1,c2,ca,cf⟩).c).c),dK (((zQi w h ⟨c0,c1,c2,ca,cf⟩).c).al),dK (((zQi w h ⟨c0,c1,c2,ca,cf⟩).c).f),dJ (((zQi w h ⟨c0,c1,c2,ca,cf⟩).p0).w),dJ (((zQi w h ⟨c0,c1,c2,ca,cf⟩).p0).h),dJ (((zQi w h ⟨c0,c1,c2,ca,cf⟩).p0).s),dS (((zQi w h ⟨c0,c1,c2,ca,cf⟩).p0).n) (((zQi w h ⟨c0,c1,c2,ca,cf⟩).p0).xs),dJ (((zQi w h ⟨c0,c1,c2,ca,cf⟩).p1).w),dJ (((zQi w h ⟨c0,c1,c2,ca,cf⟩).p1).h),dJ (((zQi w h ⟨c0,c1,c2,ca,cf⟩).p1).s),dS (((zQi w h ⟨c0,c1,c2,ca,cf⟩).p1).n) (((zQi w h ⟨c0,c1,c2,ca,cf⟩).p1).xs),dJ (((zQi w h ⟨c0,c1,c2,ca,cf⟩).p2).w),dJ (((zQi w h ⟨c0,c1,c2,ca,cf⟩).p2).h),dJ (((zQi w h ⟨c0,c1,c2,ca,cf⟩).p2).s),dS (((zQi w h ⟨c0,c1,c2,ca,cf⟩).p2).n) (((zQi w h ⟨c0,c1,c2,ca,cf⟩).p2).xs),dJ (((zQi w h ⟨c0,c1,c2,ca,cf⟩).p3).w),dJ (((zQi w h ⟨c0,c1,c2,ca,cf⟩).p3).h),dJ (((zQi w h ⟨c0,c1,c2,ca,cf⟩).p3).s),dS (((zQi w h ⟨c0,c1,c2,ca,cf⟩).p3).n) (((zQi w h ⟨c0,c1,c2,ca,cf⟩).p3).xs),dJ (((zQi w h ⟨c0,c1,c2,ca,cf⟩).p4).w),dJ (((zQi w h ⟨c0,c1,c2,ca,cf⟩).p4).h),dJ (((zQi w h ⟨c0,c1,c2,ca,cf⟩).p4).s),dS (((zQi w h ⟨c0,c1,c2,ca,cf⟩).p4).n) (((zQi w h ⟨c0,c1,c2,ca,cf⟩).p4).xs)]):=
 zQj (Γ:=gamI) Ann.leaf zQy Tryz.func22 rfl (Nat.le_of_ble_eq_true rfl) fun hwf=>by
  refine Eq.mpr (by kernel_rfl:_=(let a:=(zQi w h ⟨c0,c1,c2,ca,cf⟩).p0; let b:=(zQi w h ⟨c0,c1,c2,ca,cf⟩).p1; let d:=(zQi w h ⟨c0,c1,c2,ca,cf⟩).p2; let e:=(zQi w h ⟨c0,c1,c2,ca,cf⟩).p3; let f:=(zQi w h ⟨c0,c1,c2,ca,cf⟩).p4; let g:=(zQi w h ⟨c0,c1,c2,ca,cf⟩).c; tU7 (RV.agg [dJ w,dJ h,dQ true,dK c0,dK c1,dK c2,dK ca,dK cf,dJ 0,dJ 0,dJ 0,dS 0 ([]),dJ 0,dJ 0,dJ 0,dS 0 ([]),dJ 0,dJ 0,dJ 0,dS 0 ([]),dJ 0,dJ 0,dJ 0,dS 0 ([]),dJ 0,dJ 0,dJ 0,dS 0 ([])]=RV.agg [dJ (zQi w h ⟨c0,c1,c2,ca,cf⟩).w,dJ (zQi w h ⟨c0,c1,c2,ca,cf⟩).h,dQ (zQi w h ⟨c0,c1,c2,ca,cf⟩).so,dK g.a,dK g.b,dK g.c,dK g.al,dK g.f,dJ a.w,dJ a.h,dJ a.s,dS a.n a.xs,dJ b.w,dJ b.h,dJ b.s,dS b.n b.xs,dJ d.w,dJ d.h,dJ d.s,dS d.n d.xs,dJ e.w,dJ e.h,dJ e.s,dS e.n e.xs,dJ f.w,dJ f.h,dJ f.s,dS f.n f.xs]))) ?_
  delta tU7 dJ dK dQ dS
  simp only [sS,zQH,zQB,zQL,zQK,zQV,zQW,zZf,zJB]
  simp [zQi,Pl.none,Px.zero]
end
section
attribute [local go_sem] Oper.semAt_some
theorem jQN {w:World} {a b:Bool × List DV} {l:Array Value} (h:zH2 w [a,b] l.toList):∃ x y,l=#[x,y]∧jZN w a x∧jZN w b y:=by
 obtain ⟨l⟩:=l
 match l,h with
 | [x,y],h=>exact ⟨x,y,rfl,h.1,h.2.1⟩
theorem zGJ {w:World} {n:Int} {v:Value} (h:jZN w (true,[.int .i64 n]) v):∃ g,v=.pointer (some ⟨g,0,none⟩)∧w.cell? ⟨g,0,none⟩=some (.int .i64 n):=by
 obtain ⟨g,e,h⟩:=h
 obtain ⟨u,hu,hc⟩:=h 0 _ rfl
 simp [DV.plain] at hu
 subst hu
 exact ⟨g,e,hc⟩
theorem RoundIn.any {n:Nat} {P:Program} {l:Nat} {f:FuncId} {tmps:Array Value} {assign body:Code} {w:World} {R:Ending→World→Prop} (h:RoundIn Fence.wide n P l f tmps assign body w R) (m:Nat):RoundIn Fence.wide m P l f tmps assign body w R:=
 ⟨h.1,fun c cs _=>h.2 c cs (room_wide _)⟩
set_option maxRecDepth 100000 in
set_option maxHeartbeats 2000000 in
theorem zWo (h w:Int) (hh:h≤16777216) (hw:w≤16777216):AnsI prog 128 [(true,[DV.int .i64 h]),(true,[DV.int .i64 w])] (w.toNat*h.toNat) (fun k=>[DV.int .i64 ((k % w.toNat:Nat):Int),DV.int .i64 ((k / w.toNat:Nat):Int)]):=by
 intro lb l m J Jx hcap hd hdx hround W hJ
 obtain ⟨a,b,rfl,ha,hb⟩:=jQN (hcap 0 W hJ)
 obtain ⟨gh,rfl,hch⟩:=zGJ ha
 obtain ⟨gw,rfl,hcw⟩:=zGJ hb
 have hc:∀ k W,J k W→W.cell? ⟨gh,0,none⟩=some (.int .i64 h)∧W.cell? ⟨gw,0,none⟩=some (.int .i64 w):=fun k W hk=>by
  obtain ⟨a,b,e,ha,hb⟩:=jQN (hcap k W hk)
  obtain ⟨g1,rfl,h1⟩:=zGJ ha
  obtain ⟨g2,rfl,h2⟩:=zGJ hb
  simp at e
  obtain ⟨rfl,rfl⟩:=e
  exact ⟨h1,h2⟩
 refine callsIn_of_wp Tryz.func128 rfl trivial ?_ rfl
 simp only [Tryz.ntmps128,List.size_toArray,List.length_cons,List.length_nil,Nat.reduceAdd,Nat.reduceSub,Array.replicate_succ,Array.replicate_zero,List.push_toArray,List.append_toArray,List.nil_append,List.cons_append]
 gi_wp2
 gi_loopg [7] (h.toNat) (fun g t7 wr=>∃ y:Nat,y≤h.toNat∧g=h.toNat - y∧t7=.int .i64 (y:Int)∧J (y*w.toNat) wr)
 case atStart=>exact ⟨0,by omega,by omega,rfl,by simpa using hJ⟩
 obtain ⟨y,hy,rfl,rfl,hJy⟩:=hrel
 have hc1:=(hc _ _ hJy).1
 have hc2:=(hc _ _ hJy).2
 by_cases hlt:(y:Int) < h
 ·gi_wp2
  gi_loopg [11] (w.toNat) (fun g t11 wr=>∃ x:Nat,x≤w.toNat∧g=w.toNat - x∧t11=.int .i64 (x:Int)∧J (y*w.toNat+x) wr)
  case atStart=>exact ⟨0,by omega,by omega,rfl,hJy⟩
  obtain ⟨x,hx,rfl,rfl,hJx⟩:=hrel
  by_cases hlx:(x:Int) < w
  ·have hW:0 < w.toNat:=by omega
   have hk:y*w.toNat+x < w.toNat*h.toNat:=by
    have h1:(y+1)*w.toNat≤h.toNat*w.toNat:=Nat.mul_le_mul_right _ (by omega)
    rw [Nat.mul_comm w.toNat,Nat.add_mul] at *
    omega
   have e1:(y*w.toNat+x) % w.toNat=x:=by rw [Nat.add_comm,Nat.add_mul_mod_self_right,Nat.mod_eq_of_lt (by omega)]
   have e2:(y*w.toNat+x) / w.toNat=y:=by rw [Nat.add_comm,Nat.add_mul_div_right _ _ hW,Nat.div_eq_of_lt (by omega),Nat.zero_add]
   have hY:=hround _ _ hk hJx
   simp only [e1,e2,zWT,List.map_cons,List.map_nil,DV.plain,Option.getD_some] at hY
   obtain ⟨f1,t1,a1,b1,hy1,hR1⟩:=hY
   gi_wp2
   refine ⟨fun h=>by (cases h),(RoundIn.any hR1 _).mono ?_⟩
   rintro e W1 (⟨rfl,hJ1⟩ | ⟨rfl,hx1⟩)
   ·have w1:IntKind.wrap .i64 ((x:Int)+1)=((x+1:Nat):Int):=by rw [IntWalk.i64_in _ ⟨by omega,by omega⟩]; omega
    gi_wp2
    gi_roundg (w.toNat - (x+1))
    ·exact ⟨x+1,by omega,rfl,by simp,hJ1⟩
    ·omega
   ·gi_wp2
    refine bodyPost_ret (results_none rfl _ _ _) rfl ?_
    exact ⟨⟨_,rfl⟩,.inr hx1⟩
  ·gi_wp2
   gi_roundg (h.toNat - (y+1))
   ·have hx':x=w.toNat:=by omega
    exact ⟨y+1,by omega,rfl,by simp,by rw [Nat.add_mul,Nat.one_mul]; rw [hx'] at hJx; exact hJx⟩
   ·omega
 ·have hy':y=h.toNat:=by omega
  gi_wp2
  go_end0
  exact ⟨⟨_,rfl⟩,.inl (by rw [Nat.mul_comm,← hy']; exact hJy)⟩
end
section
attribute [local irreducible] Ans AnsO AnsG AnsN AnsI
theorem zXX (w h:Int):AnsG prog 100 0 [aJ ((w)),aJ ((h))] [] ⟨AV.one (Cl.clo 128 [Cap.ptr 0 0,Cap.ptr 1 0]),[bC [cJ (h)],bC [cJ (w)]],false⟩:=
 zQz (Γ:=gamI) Ann.leaf zQy Tryz.func100 rfl (Nat.le_of_ble_eq_true rfl) rfl fun hwf hbx=>by
  refine Eq.mpr (by kernel_rfl:_=(tU5 (((((0=0)∧(0=0)∧True)∧True)∧(([dJ h]=[dJ h])∧([dJ w]=[dJ w])∧True))∧zQu ⟨AV.one (Cl.clo 128 [Cap.ptr 0 0,Cap.ptr 1 0]),[bC [cJ h],bC [cJ w]],false⟩))) ?_
  delta tU5 dJ cJ bC
  simp only [sS,zQH,zQB,zQL,zQU,zQK,zQV,zQW,zZf]
  simp [zQu]
theorem zWG (w h:Int) (so:Bool) (c0 c1 c2 ca cf w0 h0 s0:Int) (n0:Nat) (xs0:List DV) (w1 h1 s1:Int) (n1:Nat) (xs1:List DV) (w2 h2 s2:Int) (n2:Nat) (xs2:List DV) (w3 h3 s3:Int) (n3:Nat) (xs3:List DV) (w4 h4 s4:Int) (n4:Nat) (xs4:List DV) (most:Int) (hu:Im.isU ⟨w,h,so,⟨c0,c1,c2,ca,cf⟩,⟨w0,h0,s0,n0,xs0⟩,⟨w1,h1,s1,n1,xs1⟩,⟨w2,h2,s2,n2,xs2⟩,⟨w3,h3,s3,n3,xs3⟩,⟨w4,h4,s4,n4,xs4⟩⟩):Ans prog 94 [RV.agg [dJ w,dJ h,dQ so,dK c0,dK c1,dK c2,dK ca,dK cf,dJ w0,dJ h0,dJ s0,dS n0 xs0,dJ w1,dJ h1,dJ s1,dS n1 xs1,dJ w2,dJ h2,dJ s2,dS n2 xs2,dJ w3,dJ h3,dJ s3,dS n3 xs3,dJ w4,dJ h4,dJ s4,dS n4 xs4],RV.d (dK most)] (rJ ((Im.valid ⟨w,h,so,⟨c0,c1,c2,ca,cf⟩,⟨w0,h0,s0,n0,xs0⟩,⟨w1,h1,s1,n1,xs1⟩,⟨w2,h2,s2,n2,xs2⟩,⟨w3,h3,s3,n3,xs3⟩,⟨w4,h4,s4,n4,xs4⟩⟩ most))):=
 zQj (Γ:=gamI) (Ann.seq Ann.leaf (Ann.seq Ann.leaf (Ann.seq Ann.leaf (Ann.seq (Ann.seq Ann.leaf (Ann.range ⟨Nat,fun k=>k≤(w.toNat*h.toNat)∧Im.okTo ⟨w,h,so,⟨c0,c1,c2,ca,cf⟩,⟨w0,h0,s0,n0,xs0⟩,⟨w1,h1,s1,n1,xs1⟩,⟨w2,h2,s2,n2,xs2⟩,⟨w3,h3,s3,n3,xs3⟩,⟨w4,h4,s4,n4,xs4⟩⟩ most k=true,fun k=>⟨[(2,AV.one (Cl.ptr 2 0)),(3,AV.one (Cl.ptr 3 0)),(4,AV.one (Cl.ptr 4 0)),(24,AV.one (Cl.clo 128 [Cap.ptr 1024 0,Cap.ptr 2024 0]))],[(2,bC [cJ w,cJ h,Cl.d (dQ so),cK c0,cK c1,cK c2,cK ca,cK cf,cJ w0,cJ h0,cJ s0,Cl.d (dS n0 xs0),cJ w1,cJ h1,cJ s1,Cl.d (dS n1 xs1),cJ w2,cJ h2,cJ s2,Cl.d (dS n2 xs2),cJ w3,cJ h3,cJ s3,Cl.d (dS n3 xs3),cJ w4,cJ h4,cJ s4,Cl.d (dS n4 xs4)]),(3,bC [cK most]),(4,bC [cJ 0]),(1024,bC [cJ h]),(2024,bC [cJ w])]⟩,fun k=>k⟩ [2,3,4,24] (fun k=>Ann.leaf) (fun k=>Ann.leaf))) Ann.leaf)))) zQy Tryz.func94 rfl (Nat.le_of_ble_eq_true rfl) fun hwf=>by
  refine Eq.mpr (by kernel_rfl:_=(let i:=[(true,[dJ h]),(true,[dJ w])]; let d:=(w.toNat*h.toNat); let g:=[dJ w,dJ h,dQ so,dK c0,dK c1,dK c2,dK ca,dK cf,dJ w0,dJ h0,dJ s0,dS n0 xs0,dJ w1,dJ h1,dJ s1,dS n1 xs1,dJ w2,dJ h2,dJ s2,dS n2 xs2,dJ w3,dJ h3,dJ s3,dS n3 xs3,dJ w4,dJ h4,dJ s4,dS n4 xs4]; let n:=(Im.shape ⟨w,h,so,⟨c0,c1,c2,ca,cf⟩,⟨w0,h0,s0,n0,xs0⟩,⟨w1,h1,s1,n1,xs1⟩,⟨w2,h2,s2,n2,xs2⟩,⟨w3,h3,s3,n3,xs3⟩,⟨w4,h4,s4,n4,xs4⟩⟩); let o:=(dJ n); let p:=(n != 0); let e:=(dJ (Im.valid ⟨w,h,so,⟨c0,c1,c2,ca,cf⟩,⟨w0,h0,s0,n0,xs0⟩,⟨w1,h1,s1,n1,xs1⟩,⟨w2,h2,s2,n2,xs2⟩,⟨w3,h3,s3,n3,xs3⟩,⟨w4,h4,s4,n4,xs4⟩⟩ most)); let j:=(Px.ok ⟨c0,c1,c2,ca,cf⟩ most); let l:=fun (_k:Nat)=>[dJ ((_k % w.toNat:Nat):Int),dJ ((_k / w.toNat:Nat):Int)]; let q:=fun (k:Nat)=>(k≤d∧Im.okTo ⟨w,h,so,⟨c0,c1,c2,ca,cf⟩,⟨w0,h0,s0,n0,xs0⟩,⟨w1,h1,s1,n1,xs1⟩,⟨w2,h2,s2,n2,xs2⟩,⟨w3,h3,s3,n3,xs3⟩,⟨w4,h4,s4,n4,xs4⟩⟩ most k=true); let r:=(((0=0)∧(0=0)∧(0=0)∧((0=0)∧(0=0)∧True)∧True)∧((g=g)∧([dK most]=[dK most])∧([dJ 0]=[dJ 0])∧([dJ h]=[dJ h])∧([dJ w]=[dJ w])∧True)); let s:=fun (k:Nat)=>[dK (Im.px ⟨w,h,so,⟨c0,c1,c2,ca,cf⟩,⟨w0,h0,s0,n0,xs0⟩,⟨w1,h1,s1,n1,xs1⟩,⟨w2,h2,s2,n2,xs2⟩,⟨w3,h3,s3,n3,xs3⟩,⟨w4,h4,s4,n4,xs4⟩⟩ ((k % w.toNat:Nat):Int) ((k / w.toNat:Nat):Int)).a,dK (Im.px ⟨w,h,so,⟨c0,c1,c2,ca,cf⟩,⟨w0,h0,s0,n0,xs0⟩,⟨w1,h1,s1,n1,xs1⟩,⟨w2,h2,s2,n2,xs2⟩,⟨w3,h3,s3,n3,xs3⟩,⟨w4,h4,s4,n4,xs4⟩⟩ ((k % w.toNat:Nat):Int) ((k / w.toNat:Nat):Int)).b,dK (Im.px ⟨w,h,so,⟨c0,c1,c2,ca,cf⟩,⟨w0,h0,s0,n0,xs0⟩,⟨w1,h1,s1,n1,xs1⟩,⟨w2,h2,s2,n2,xs2⟩,⟨w3,h3,s3,n3,xs3⟩,⟨w4,h4,s4,n4,xs4⟩⟩ ((k % w.toNat:Nat):Int) ((k / w.toNat:Nat):Int)).c,dK (Im.px ⟨w,h,so,⟨c0,c1,c2,ca,cf⟩,⟨w0,h0,s0,n0,xs0⟩,⟨w1,h1,s1,n1,xs1⟩,⟨w2,h2,s2,n2,xs2⟩,⟨w3,h3,s3,n3,xs3⟩,⟨w4,h4,s4,n4,xs4⟩⟩ ((k % w.toNat:Nat):Int) ((k / w.toNat:Nat):Int)).al,dK (Im.px ⟨w,h,so,⟨c0,c1,c2,ca,cf⟩,⟨w0,h0,s0,n0,xs0⟩,⟨w1,h1,s1,n1,xs1⟩,⟨w2,h2,s2,n2,xs2⟩,⟨w3,h3,s3,n3,xs3⟩,⟨w4,h4,s4,n4,xs4⟩⟩ ((k % w.toNat:Nat):Int) ((k / w.toNat:Nat):Int)).f]; tU4 ((Ans prog 121 [RV.agg g] (RV.d o))∧tU3 ((p=true→tU2 (RV.d o=RV.d e))∧(p=false→tU2 ((so=true→tU3 ((Ans prog 122 [RV.agg [dK c0,dK c1,dK c2,dK ca,dK cf],RV.d (dK most)] (RV.d (dQ j)))∧True∧(((!j)=true→True∧rJ 8=RV.d e)∧((!j)=false→True∧rJ 0=RV.d e))))∧(so=false→tU4 ((AnsG prog 100 0 [aJ w,aJ h] [] ⟨AV.one (Cl.clo 128 [Cap.ptr 0 0,Cap.ptr 1 0]),[bC [cJ h],bC [cJ w]],false⟩)∧(AnsI prog 128 i d (fun _k=>(l _k)))∧(∀ _k,_k < d→(l _k).length=2∧zJP (l _k))∧(∃ k:Nat,(q k)∧(k=0)∧r)∧(∀ k:Nat,let m:=(Px.ok (Im.px ⟨w,h,so,⟨c0,c1,c2,ca,cf⟩,⟨w0,h0,s0,n0,xs0⟩,⟨w1,h1,s1,n1,xs1⟩,⟨w2,h2,s2,n2,xs2⟩,⟨w3,h3,s3,n3,xs3⟩,⟨w4,h4,s4,n4,xs4⟩⟩ ((k % w.toNat:Nat):Int) ((k / w.toNat:Nat):Int)) most); (q k)→((some i:Option (List (Bool × List DV)))=some i)∧(k < d→tU5 ((Ans prog 101 [RV.agg g,rJ ((k % w.toNat:Nat):Int),rJ ((k / w.toNat:Nat):Int)] (RV.agg (s k)))∧True∧(Ans prog 122 [RV.agg (s k),RV.d (dK most)] (RV.d (dQ m)))∧True∧(true=true)∧(((!m)=true→True∧rJ 8=RV.d e)∧((!m)=false→∃ k':Nat,(k'≤d∧Im.okTo ⟨w,h,so,⟨c0,c1,c2,ca,cf⟩,⟨w0,h0,s0,n0,xs0⟩,⟨w1,h1,s1,n1,xs1⟩,⟨w2,h2,s2,n2,xs2⟩,⟨w3,h3,s3,n3,xs3⟩,⟨w4,h4,s4,n4,xs4⟩⟩ most k'=true)∧(k'=k+1)∧r))))∧(k=d→True∧rJ 0=RV.d e)))))))))) ?_
  delta tU2 tU3 tU4 tU5 dJ dK dQ cJ dS rJ aJ bC
  simp only [sS,zQH,zQB,zQL,zQU,zQK,zQV,zQW,zZf,zXX]
  obtain ⟨m,hm⟩:∃ m:Im,m=⟨w,h,so,⟨c0,c1,c2,ca,cf⟩,⟨w0,h0,s0,n0,xs0⟩,⟨w1,h1,s1,n1,xs1⟩,⟨w2,h2,s2,n2,xs2⟩,⟨w3,h3,s3,n3,xs3⟩,⟨w4,h4,s4,n4,xs4⟩⟩:=⟨_,rfl⟩
  have pix:=fun (x y:Int) (hf:Im.inner ⟨w,h,so,⟨c0,c1,c2,ca,cf⟩,⟨w0,h0,s0,n0,xs0⟩,⟨w1,h1,s1,n1,xs1⟩,⟨w2,h2,s2,n2,xs2⟩,⟨w3,h3,s3,n3,xs3⟩,⟨w4,h4,s4,n4,xs4⟩⟩=true) hx hy=>zJA w h so c0 c1 c2 ca cf w0 h0 s0 n0 xs0 w1 h1 s1 n1 xs1 w2 h2 s2 n2 xs2 w3 h3 s3 n3 xs3 w4 h4 s4 n4 xs4 x y hu hf hx hy
  have ew:w=m.w:=by rw [hm]
  have eh:h=m.h:=by rw [hm]
  have es:so=m.so:=by rw [hm]
  have ec:(⟨c0,c1,c2,ca,cf⟩:Px)=m.c:=by rw [hm]
  rw [← hm] at pix hu
  simp only [← hm]
  refine ⟨fun q1=>(Im.valid_shape _ (by simpa using q1)).symm,fun q1=>?_⟩
  have q1:m.shape=0:=by simpa using q1
  obtain ⟨qf,qi⟩:=Im.shape_zero q1
  obtain ⟨f1,f2,f3,f4,f5⟩:=zZ6 qf
  refine ⟨fun hs=>?_,fun hs=>?_⟩
  ·rw [Im.valid_solid q1 (es ▸ hs),ec]
   cases m.c.ok most <;> simp
  ·rw [Im.valid_planes q1 (es ▸ hs),ew,eh]
   refine ⟨zWo m.h m.w f4 f3,jZo qf,⟨0,⟨Nat.zero_le _,rfl⟩,rfl⟩,fun k hk=>⟨fun hlt=>?_,fun he=>?_⟩⟩
   ·have hin:=Im.nth_in qf hlt
    have hs1:=Im.okTo_succ m most k
    have hle:=fun hn=>Im.okTo_le (m:=m) (most:=most) (k:=k+1) (n:=m.w.toNat*m.h.toNat) (by omega) hn
    rw [ew,eh] at pix
    refine ⟨pix _ _ qi hin.1 hin.2,zQU _ _ _ _ _ _,fun hb=>?_,fun hb=>⟨k+1,⟨by omega,?_⟩,rfl⟩⟩
    ·have hb:(m.nth k).ok most=false:=hb
     have:¬ m.okTo most (m.w.toNat*m.h.toNat)=true:=fun hn=>by
      have:=hle hn
      rw [hs1,hb] at this
      simp at this
     rw [if_neg this]
    ·have hb:(m.nth k).ok most=true:=hb
     rw [hs1,hk.2,hb]; rfl
   ·rw [← he,if_pos hk.2]
theorem zVT (w h:Int) (so:Bool) (c0 c1 c2 ca cf w0 h0 s0:Int) (n0:Nat) (xs0:List DV) (w1 h1 s1:Int) (n1:Nat) (xs1:List DV) (w2 h2 s2:Int) (n2:Nat) (xs2:List DV) (w3 h3 s3:Int) (n3:Nat) (xs3:List DV) (w4 h4 s4:Int) (n4:Nat) (xs4:List DV) (hu:Im.isU ⟨w,h,so,⟨c0,c1,c2,ca,cf⟩,⟨w0,h0,s0,n0,xs0⟩,⟨w1,h1,s1,n1,xs1⟩,⟨w2,h2,s2,n2,xs2⟩,⟨w3,h3,s3,n3,xs3⟩,⟨w4,h4,s4,n4,xs4⟩⟩):AnsO prog 61 [RV.agg [dJ w,dJ h,dQ so,dK c0,dK c1,dK c2,dK ca,dK cf,dJ w0,dJ h0,dJ s0,dS n0 xs0,dJ w1,dJ h1,dJ s1,dS n1 xs1,dJ w2,dJ h2,dJ s2,dS n2 xs2,dJ w3,dJ h3,dJ s3,dS n3 xs3,dJ w4,dJ h4,dJ s4,dS n4 xs4]] 37 5 ((Im.pixels ⟨w,h,so,⟨c0,c1,c2,ca,cf⟩,⟨w0,h0,s0,n0,xs0⟩,⟨w1,h1,s1,n1,xs1⟩,⟨w2,h2,s2,n2,xs2⟩,⟨w3,h3,s3,n3,xs3⟩,⟨w4,h4,s4,n4,xs4⟩⟩).length) (pxs (Im.pixels ⟨w,h,so,⟨c0,c1,c2,ca,cf⟩,⟨w0,h0,s0,n0,xs0⟩,⟨w1,h1,s1,n1,xs1⟩,⟨w2,h2,s2,n2,xs2⟩,⟨w3,h3,s3,n3,xs3⟩,⟨w4,h4,s4,n4,xs4⟩⟩)):=
 zXP (t:=2) (Γ:=gamI) (Ann.seq Ann.leaf (Ann.seq Ann.leaf (Ann.seq Ann.leaf (Ann.seq (Ann.seq Ann.leaf (Ann.range ⟨Nat,fun k=>k≤(w.toNat*h.toNat),fun k=>⟨[(1,AV.one (Cl.ptr 1 0)),(3,AV.one (Cl.ptr 3 0)),(19,AV.one (Cl.clo 128 [Cap.ptr 1019 0,Cap.ptr 2019 0]))],[(1,bC [cJ w,cJ h,Cl.d (dQ so),cK c0,cK c1,cK c2,cK ca,cK cf,cJ w0,cJ h0,cJ s0,Cl.d (dS n0 xs0),cJ w1,cJ h1,cJ s1,Cl.d (dS n1 xs1),cJ w2,cJ h2,cJ s2,Cl.d (dS n2 xs2),cJ w3,cJ h3,cJ s3,Cl.d (dS n3 xs3),cJ w4,cJ h4,cJ s4,Cl.d (dS n4 xs4)]),(3,bC [Cl.ref 5000 k]),(1019,bC [cJ h]),(2019,bC [cJ w]),(5000,Bx.row 37 5 (pxs (Im.list ⟨w,h,so,⟨c0,c1,c2,ca,cf⟩,⟨w0,h0,s0,n0,xs0⟩,⟨w1,h1,s1,n1,xs1⟩,⟨w2,h2,s2,n2,xs2⟩,⟨w3,h3,s3,n3,xs3⟩,⟨w4,h4,s4,n4,xs4⟩⟩ k)))]⟩,fun k=>k⟩ [1,3,19] (fun k=>Ann.leaf) (fun k=>Ann.leaf))) Ann.leaf)))) zQy Tryz.func61 rfl (Nat.le_of_ble_eq_true rfl) rfl fun hwf=>by
  refine Eq.mpr (by kernel_rfl:_=(let i:=[(true,[dJ h]),(true,[dJ w])]; let d:=(w.toNat*h.toNat); let g:=[dJ w,dJ h,dQ so,dK c0,dK c1,dK c2,dK ca,dK cf,dJ w0,dJ h0,dJ s0,dS n0 xs0,dJ w1,dJ h1,dJ s1,dS n1 xs1,dJ w2,dJ h2,dJ s2,dS n2 xs2,dJ w3,dJ h3,dJ s3,dS n3 xs3,dJ w4,dJ h4,dJ s4,dS n4 xs4]; let j:=(Im.formed ⟨w,h,so,⟨c0,c1,c2,ca,cf⟩,⟨w0,h0,s0,n0,xs0⟩,⟨w1,h1,s1,n1,xs1⟩,⟨w2,h2,s2,n2,xs2⟩,⟨w3,h3,s3,n3,xs3⟩,⟨w4,h4,s4,n4,xs4⟩⟩); let e:=(Im.pixels ⟨w,h,so,⟨c0,c1,c2,ca,cf⟩,⟨w0,h0,s0,n0,xs0⟩,⟨w1,h1,s1,n1,xs1⟩,⟨w2,h2,s2,n2,xs2⟩,⟨w3,h3,s3,n3,xs3⟩,⟨w4,h4,s4,n4,xs4⟩⟩); let l:=fun (_k:Nat)=>[dJ ((_k % w.toNat:Nat):Int),dJ ((_k / w.toNat:Nat):Int)]; let o:=((0=0)∧(0=0)∧((0=0)∧(0=0)∧True)∧True); let p:=(g=g); let q:=([dJ h]=[dJ h]); let r:=([dJ w]=[dJ w]); let m:=fun (k:Nat)=>(Im.list ⟨w,h,so,⟨c0,c1,c2,ca,cf⟩,⟨w0,h0,s0,n0,xs0⟩,⟨w1,h1,s1,n1,xs1⟩,⟨w2,h2,s2,n2,xs2⟩,⟨w3,h3,s3,n3,xs3⟩,⟨w4,h4,s4,n4,xs4⟩⟩ k); let n:=fun (k:Nat)=>[dK (Im.px ⟨w,h,so,⟨c0,c1,c2,ca,cf⟩,⟨w0,h0,s0,n0,xs0⟩,⟨w1,h1,s1,n1,xs1⟩,⟨w2,h2,s2,n2,xs2⟩,⟨w3,h3,s3,n3,xs3⟩,⟨w4,h4,s4,n4,xs4⟩⟩ ((k % w.toNat:Nat):Int) ((k / w.toNat:Nat):Int)).a,dK (Im.px ⟨w,h,so,⟨c0,c1,c2,ca,cf⟩,⟨w0,h0,s0,n0,xs0⟩,⟨w1,h1,s1,n1,xs1⟩,⟨w2,h2,s2,n2,xs2⟩,⟨w3,h3,s3,n3,xs3⟩,⟨w4,h4,s4,n4,xs4⟩⟩ ((k % w.toNat:Nat):Int) ((k / w.toNat:Nat):Int)).b,dK (Im.px ⟨w,h,so,⟨c0,c1,c2,ca,cf⟩,⟨w0,h0,s0,n0,xs0⟩,⟨w1,h1,s1,n1,xs1⟩,⟨w2,h2,s2,n2,xs2⟩,⟨w3,h3,s3,n3,xs3⟩,⟨w4,h4,s4,n4,xs4⟩⟩ ((k % w.toNat:Nat):Int) ((k / w.toNat:Nat):Int)).c,dK (Im.px ⟨w,h,so,⟨c0,c1,c2,ca,cf⟩,⟨w0,h0,s0,n0,xs0⟩,⟨w1,h1,s1,n1,xs1⟩,⟨w2,h2,s2,n2,xs2⟩,⟨w3,h3,s3,n3,xs3⟩,⟨w4,h4,s4,n4,xs4⟩⟩ ((k % w.toNat:Nat):Int) ((k / w.toNat:Nat):Int)).al,dK (Im.px ⟨w,h,so,⟨c0,c1,c2,ca,cf⟩,⟨w0,h0,s0,n0,xs0⟩,⟨w1,h1,s1,n1,xs1⟩,⟨w2,h2,s2,n2,xs2⟩,⟨w3,h3,s3,n3,xs3⟩,⟨w4,h4,s4,n4,xs4⟩⟩ ((k % w.toNat:Nat):Int) ((k / w.toNat:Nat):Int)).f]; let s:=fun (k:Nat)=>(pxs (m k)); tU3 ((Ans prog 99 [RV.agg g] (RV.d (dQ j)))∧True∧(((!j)=true→True∧e.length=0∧pxs e=[])∧((!j)=false→tU5 ((0≤(0:Int)∧(0:Int)≤wK (w*h)∧wK (w*h)≤(maxLen:Int)∧((10:Nat):Int)*(wK (w*h))≤281474976710656)∧tU6 ((AnsG prog 100 0 [aJ w,aJ h] [] ⟨AV.one (Cl.clo 128 [Cap.ptr 0 0,Cap.ptr 1 0]),[bC [cJ h],bC [cJ w]],false⟩)∧(AnsI prog 128 i d (fun _k=>(l _k)))∧(∀ _k,_k < d→(l _k).length=2∧zJP (l _k))∧(∃ k:Nat,(k≤d)∧(k=0)∧(o∧(p∧(((0:Int).toNat=k)∧True)∧q∧r∧(repl (0:Int).toNat [dK 0,dK 0,dK 0,dK 0,dK 0]=pxs (m k))∧True)))∧(∀ k:Nat,(k≤d)→((some i:Option (List (Bool × List DV)))=some i)∧(k < d→tU6 ((Ans prog 101 [RV.agg g,rJ ((k % w.toNat:Nat):Int),rJ ((k / w.toNat:Nat):Int)] (RV.agg (n k)))∧True∧(zZk 5 10 k 1 (s k) (n k))∧True∧(true=true)∧∃ k':Nat,(k'≤d)∧(k'=k+1)∧(o∧(p∧((k+1=k')∧True)∧q∧r∧((s k)++(n k)=pxs (Im.list ⟨w,h,so,⟨c0,c1,c2,ca,cf⟩,⟨w0,h0,s0,n0,xs0⟩,⟨w1,h1,s1,n1,xs1⟩,⟨w2,h2,s2,n2,xs2⟩,⟨w3,h3,s3,n3,xs3⟩,⟨w4,h4,s4,n4,xs4⟩⟩ k'))∧True))))∧(k=d→tU2 ((37=37∧5=5)∧(pxs e).length=e.length*5∧k=e.length∧pxs (m k)=pxs e)))))))))) ?_
  delta tU2 tU3 tU5 tU6 dJ dK dQ cJ wK dS rJ aJ bC
  simp only [sS,zQH,zQB,zQL,zQU,zQK,zQV,zQW,zZf,zXX]
  obtain ⟨m,hm⟩:∃ m:Im,m=⟨w,h,so,⟨c0,c1,c2,ca,cf⟩,⟨w0,h0,s0,n0,xs0⟩,⟨w1,h1,s1,n1,xs1⟩,⟨w2,h2,s2,n2,xs2⟩,⟨w3,h3,s3,n3,xs3⟩,⟨w4,h4,s4,n4,xs4⟩⟩:=⟨_,rfl⟩
  have pix:=fun (x y:Int) (hf:Im.inner ⟨w,h,so,⟨c0,c1,c2,ca,cf⟩,⟨w0,h0,s0,n0,xs0⟩,⟨w1,h1,s1,n1,xs1⟩,⟨w2,h2,s2,n2,xs2⟩,⟨w3,h3,s3,n3,xs3⟩,⟨w4,h4,s4,n4,xs4⟩⟩=true) hx hy=>zJA w h so c0 c1 c2 ca cf w0 h0 s0 n0 xs0 w1 h1 s1 n1 xs1 w2 h2 s2 n2 xs2 w3 h3 s3 n3 xs3 w4 h4 s4 n4 xs4 x y hu hf hx hy
  have ew:w=m.w:=by rw [hm]
  have eh:h=m.h:=by rw [hm]
  have es:so=m.so:=by rw [hm]
  have ec:(⟨c0,c1,c2,ca,cf⟩:Px)=m.c:=by rw [hm]
  rw [← hm] at pix hu
  simp only [← hm]
  have p0:m.formed=false→m.pixels=[]:=fun h=>by simp [Im.pixels,h]
  have fx:m.formed=true→zQY m.w m.h=true∧m.inner=true:=Im.formed_of
  rw [ew,eh] at pix
  rw [ew,eh]
  refine ⟨fun q1=>by rw [p0 q1]; exact ⟨rfl,rfl⟩,fun q1=>?_⟩
  obtain ⟨qf,qi⟩:=fx q1
  obtain ⟨f1,f2,f3,f4,f5⟩:=zZ6 qf
  obtain ⟨n1,n2⟩:=Im.count_le qf
  have wm:IntKind.wrap .i64 (m.w*m.h)=m.w*m.h:=IntWalk.i64_in _ ⟨by omega,by omega⟩
  rw [wm]
  refine ⟨⟨by omega,by omega,by unfold maxLen; omega,by omega⟩,zWo m.h m.w f4 f3,jZo qf,⟨0,Nat.zero_le _,rfl,rfl,rfl⟩,fun k hk=>⟨fun hlt=>?_,fun he=>?_⟩⟩
  ·have hin:=Im.nth_in qf hlt
   refine ⟨pix _ _ qi hin.1 hin.2,⟨by rw [zZI,Im.list_len],rfl,by unfold maxLen; omega,by omega⟩,k+1,by omega,rfl,rfl,?_⟩
   exact Im.pxs_succ m k
  ·rw [Im.pixels_of q1,he,Im.list_len,zZI,Im.list_len]
   exact ⟨rfl,rfl,rfl⟩
theorem zUl (w h:Int) (so:Bool) (c0 c1 c2 ca cf w0 h0 s0:Int) (n0:Nat) (xs0:List DV) (w1 h1 s1:Int) (n1:Nat) (xs1:List DV) (w2 h2 s2:Int) (n2:Nat) (xs2:List DV) (w3 h3 s3:Int) (n3:Nat) (xs3:List DV) (w4 h4 s4:Int) (n4:Nat) (xs4:List DV) (hu:Im.isU ⟨w,h,so,⟨c0,c1,c2,ca,cf⟩,⟨w0,h0,s0,n0,xs0⟩,⟨w1,h1,s1,n1,xs1⟩,⟨w2,h2,s2,n2,xs2⟩,⟨w3,h3,s3,n3,xs3⟩,⟨w4,h4,s4,n4,xs4⟩⟩):AnsO prog 33 [RV.agg [dJ w,dJ h,dQ so,dK c0,dK c1,dK c2,dK ca,dK cf,dJ w0,dJ h0,dJ s0,dS n0 xs0,dJ w1,dJ h1,dJ s1,dS n1 xs1,dJ w2,dJ h2,dJ s2,dS n2 xs2,dJ w3,dJ h3,dJ s3,dS n3 xs3,dJ w4,dJ h4,dJ s4,dS n4 xs4]] 37 5 ((Im.pixels ⟨w,h,so,⟨c0,c1,c2,ca,cf⟩,⟨w0,h0,s0,n0,xs0⟩,⟨w1,h1,s1,n1,xs1⟩,⟨w2,h2,s2,n2,xs2⟩,⟨w3,h3,s3,n3,xs3⟩,⟨w4,h4,s4,n4,xs4⟩⟩).length) (pxs (Im.pixels ⟨w,h,so,⟨c0,c1,c2,ca,cf⟩,⟨w0,h0,s0,n0,xs0⟩,⟨w1,h1,s1,n1,xs1⟩,⟨w2,h2,s2,n2,xs2⟩,⟨w3,h3,s3,n3,xs3⟩,⟨w4,h4,s4,n4,xs4⟩⟩)):=
 zXP (t:=2) (Γ:=gamI) (let a:=fun (yy:Nat)=>(4,aJ (yy:Int)); let b:=(1,bC [cJ w,cJ h,Cl.d (dQ so),cK c0,cK c1,cK c2,cK ca,cK cf,cJ w0,cJ h0,cJ s0,Cl.d (dS n0 xs0),cJ w1,cJ h1,cJ s1,Cl.d (dS n1 xs1),cJ w2,cJ h2,cJ s2,Cl.d (dS n2 xs2),cJ w3,cJ h3,cJ s3,Cl.d (dS n3 xs3),cJ w4,cJ h4,cJ s4,Cl.d (dS n4 xs4)]); (Ann.seq Ann.leaf (Ann.seq Ann.leaf (Ann.seq Ann.leaf (Ann.seq (Ann.seq Ann.leaf (Ann.loop ⟨Nat,fun yy=>yy≤h.toNat,fun yy=>⟨[(1,AV.one (Cl.ptr 1 0)),(3,AV.one (Cl.ref 5000 (yy*w.toNat))),(a yy)],[b,(5000,Bx.row 37 5 (pxs (Im.list ⟨w,h,so,⟨c0,c1,c2,ca,cf⟩,⟨w0,h0,s0,n0,xs0⟩,⟨w1,h1,s1,n1,xs1⟩,⟨w2,h2,s2,n2,xs2⟩,⟨w3,h3,s3,n3,xs3⟩,⟨w4,h4,s4,n4,xs4⟩⟩ (yy*w.toNat))))]⟩,fun yy=>h.toNat - yy⟩ fun yy=>(Ann.seq Ann.leaf (Ann.seq (Ann.seq Ann.leaf (Ann.loop ⟨Nat,fun xx=>xx≤w.toNat,fun xx=>⟨[(1,AV.one (Cl.ptr 1 0)),(3,AV.one (Cl.ref 6000 (yy*w.toNat+xx))),(a yy),(5,aJ (xx:Int))],[b,(6000,Bx.row 37 5 (pxs (Im.list ⟨w,h,so,⟨c0,c1,c2,ca,cf⟩,⟨w0,h0,s0,n0,xs0⟩,⟨w1,h1,s1,n1,xs1⟩,⟨w2,h2,s2,n2,xs2⟩,⟨w3,h3,s3,n3,xs3⟩,⟨w4,h4,s4,n4,xs4⟩⟩ (yy*w.toNat+xx))))]⟩,fun xx=>w.toNat - xx⟩ fun xx=>Ann.leaf)) Ann.leaf)))) Ann.leaf))))) zQy Tryz.func33 rfl (Nat.le_of_ble_eq_true rfl) rfl fun hwf=>by
  refine Eq.mpr (by kernel_rfl:_=(let e:=[dJ w,dJ h,dQ so,dK c0,dK c1,dK c2,dK ca,dK cf,dJ w0,dJ h0,dJ s0,dS n0 xs0,dJ w1,dJ h1,dJ s1,dS n1 xs1,dJ w2,dJ h2,dJ s2,dS n2 xs2,dJ w3,dJ h3,dJ s3,dS n3 xs3,dJ w4,dJ h4,dJ s4,dS n4 xs4]; let i:=(Im.formed ⟨w,h,so,⟨c0,c1,c2,ca,cf⟩,⟨w0,h0,s0,n0,xs0⟩,⟨w1,h1,s1,n1,xs1⟩,⟨w2,h2,s2,n2,xs2⟩,⟨w3,h3,s3,n3,xs3⟩,⟨w4,h4,s4,n4,xs4⟩⟩); let d:=(Im.pixels ⟨w,h,so,⟨c0,c1,c2,ca,cf⟩,⟨w0,h0,s0,n0,xs0⟩,⟨w1,h1,s1,n1,xs1⟩,⟨w2,h2,s2,n2,xs2⟩,⟨w3,h3,s3,n3,xs3⟩,⟨w4,h4,s4,n4,xs4⟩⟩); let g:=(e=e); let j:=fun (yy:Nat)=>(Im.list ⟨w,h,so,⟨c0,c1,c2,ca,cf⟩,⟨w0,h0,s0,n0,xs0⟩,⟨w1,h1,s1,n1,xs1⟩,⟨w2,h2,s2,n2,xs2⟩,⟨w3,h3,s3,n3,xs3⟩,⟨w4,h4,s4,n4,xs4⟩⟩ (yy*w.toNat)); let m:=fun (yy:Nat)=>(dJ (yy:Int)=dJ (yy:Int)); let k:=fun (yy:Nat)=>fun (xx:Nat)=>(Im.list ⟨w,h,so,⟨c0,c1,c2,ca,cf⟩,⟨w0,h0,s0,n0,xs0⟩,⟨w1,h1,s1,n1,xs1⟩,⟨w2,h2,s2,n2,xs2⟩,⟨w3,h3,s3,n3,xs3⟩,⟨w4,h4,s4,n4,xs4⟩⟩ (yy*w.toNat+xx)); let l:=fun (yy:Nat)=>fun (xx:Nat)=>[dK (Im.px ⟨w,h,so,⟨c0,c1,c2,ca,cf⟩,⟨w0,h0,s0,n0,xs0⟩,⟨w1,h1,s1,n1,xs1⟩,⟨w2,h2,s2,n2,xs2⟩,⟨w3,h3,s3,n3,xs3⟩,⟨w4,h4,s4,n4,xs4⟩⟩ (xx:Int) (yy:Int)).a,dK (Im.px ⟨w,h,so,⟨c0,c1,c2,ca,cf⟩,⟨w0,h0,s0,n0,xs0⟩,⟨w1,h1,s1,n1,xs1⟩,⟨w2,h2,s2,n2,xs2⟩,⟨w3,h3,s3,n3,xs3⟩,⟨w4,h4,s4,n4,xs4⟩⟩ (xx:Int) (yy:Int)).b,dK (Im.px ⟨w,h,so,⟨c0,c1,c2,ca,cf⟩,⟨w0,h0,s0,n0,xs0⟩,⟨w1,h1,s1,n1,xs1⟩,⟨w2,h2,s2,n2,xs2⟩,⟨w3,h3,s3,n3,xs3⟩,⟨w4,h4,s4,n4,xs4⟩⟩ (xx:Int) (yy:Int)).c,dK (Im.px ⟨w,h,so,⟨c0,c1,c2,ca,cf⟩,⟨w0,h0,s0,n0,xs0⟩,⟨w1,h1,s1,n1,xs1⟩,⟨w2,h2,s2,n2,xs2⟩,⟨w3,h3,s3,n3,xs3⟩,⟨w4,h4,s4,n4,xs4⟩⟩ (xx:Int) (yy:Int)).al,dK (Im.px ⟨w,h,so,⟨c0,c1,c2,ca,cf⟩,⟨w0,h0,s0,n0,xs0⟩,⟨w1,h1,s1,n1,xs1⟩,⟨w2,h2,s2,n2,xs2⟩,⟨w3,h3,s3,n3,xs3⟩,⟨w4,h4,s4,n4,xs4⟩⟩ (xx:Int) (yy:Int)).f]; let n:=fun (yy:Nat)=>fun (xx:Nat)=>(pxs (k yy xx)); tU3 ((Ans prog 66 [RV.agg e] (RV.d (dQ i)))∧True∧(((!i)=true→True∧d.length=0∧pxs d=[])∧((!i)=false→tU2 ((∃ yy:Nat,(yy≤h.toNat)∧(((0=0)∧(0=yy*w.toNat)∧(dJ 0=dJ (yy:Int))∧True)∧(g∧([]=pxs (j yy))∧True)))∧∀ yy:Nat,(yy≤h.toNat)→tU4 (((decide ((yy:Int) < h))=true→True∧((∃ xx:Nat,(xx≤w.toNat)∧(((0=0)∧(yy*w.toNat=(yy*w.toNat+xx))∧(m yy)∧(dJ 0=dJ (xx:Int))∧True)∧(g∧(pxs (j yy)=pxs (k yy xx))∧True)))∧∀ xx:Nat,(xx≤w.toNat)→tU4 (((decide ((xx:Int) < w))=true→tU4 ((Ans prog 67 [RV.agg e,rJ (xx:Int),rJ (yy:Int)] (RV.agg (l yy xx)))∧True∧(zZk 5 10 (yy*w.toNat+xx) 1 (n yy xx) (l yy xx))∧tU4 (∃ xx':Nat,(xx'≤w.toNat)∧(w.toNat - xx' < w.toNat - xx)∧(((0=0)∧((yy*w.toNat+xx)+1=(yy*w.toNat+xx'))∧(m yy)∧(dJ (wK ((xx:Int)+1))=dJ (xx':Int))∧True)∧(g∧((n yy xx)++(l yy xx)=pxs (Im.list ⟨w,h,so,⟨c0,c1,c2,ca,cf⟩,⟨w0,h0,s0,n0,xs0⟩,⟨w1,h1,s1,n1,xs1⟩,⟨w2,h2,s2,n2,xs2⟩,⟨w3,h3,s3,n3,xs3⟩,⟨w4,h4,s4,n4,xs4⟩⟩ (yy*w.toNat+xx')))∧True)))))∧((decide ((xx:Int) < w))=false→tU3 (∃ yy':Nat,(yy'≤h.toNat)∧(h.toNat - yy' < h.toNat - yy)∧(((0=0)∧((yy*w.toNat+xx)=yy'*w.toNat)∧(dJ (wK ((yy:Int)+1))=dJ (yy':Int))∧True)∧(g∧(pxs (k yy xx)=pxs (Im.list ⟨w,h,so,⟨c0,c1,c2,ca,cf⟩,⟨w0,h0,s0,n0,xs0⟩,⟨w1,h1,s1,n1,xs1⟩,⟨w2,h2,s2,n2,xs2⟩,⟨w3,h3,s3,n3,xs3⟩,⟨w4,h4,s4,n4,xs4⟩⟩ (yy'*w.toNat)))∧True)))))))∧((decide ((yy:Int) < h))=false→tU2 ((37=37∧5=5)∧(pxs d).length=d.length*5∧yy*w.toNat=d.length∧pxs (j yy)=pxs d))))))))) ?_
  delta tU2 tU3 tU4 dJ dK dQ wK dS rJ
  simp only [sS,zQH,zQB,zQL,zQU,zQK,zQV,zQW,zZf,zXX]
  obtain ⟨m,hm⟩:∃ m:Im,m=⟨w,h,so,⟨c0,c1,c2,ca,cf⟩,⟨w0,h0,s0,n0,xs0⟩,⟨w1,h1,s1,n1,xs1⟩,⟨w2,h2,s2,n2,xs2⟩,⟨w3,h3,s3,n3,xs3⟩,⟨w4,h4,s4,n4,xs4⟩⟩:=⟨_,rfl⟩
  have pix:=fun (x y:Int) (hf:Im.inner ⟨w,h,so,⟨c0,c1,c2,ca,cf⟩,⟨w0,h0,s0,n0,xs0⟩,⟨w1,h1,s1,n1,xs1⟩,⟨w2,h2,s2,n2,xs2⟩,⟨w3,h3,s3,n3,xs3⟩,⟨w4,h4,s4,n4,xs4⟩⟩=true) hx hy=>zGP w h so c0 c1 c2 ca cf w0 h0 s0 n0 xs0 w1 h1 s1 n1 xs1 w2 h2 s2 n2 xs2 w3 h3 s3 n3 xs3 w4 h4 s4 n4 xs4 x y hu hf hx hy
  have ew:w=m.w:=by rw [hm]
  have eh:h=m.h:=by rw [hm]
  have es:so=m.so:=by rw [hm]
  have ec:(⟨c0,c1,c2,ca,cf⟩:Px)=m.c:=by rw [hm]
  rw [← hm] at pix hu
  simp only [← hm]
  have p0:m.formed=false→m.pixels=[]:=fun h=>by simp [Im.pixels,h]
  have fx:m.formed=true→zQY m.w m.h=true∧m.inner=true:=Im.formed_of
  rw [ew,eh] at pix
  rw [ew,eh]
  refine ⟨fun q1=>by rw [p0 q1]; exact ⟨rfl,rfl⟩,fun q1=>?_⟩
  obtain ⟨qf,qi⟩:=fx q1
  obtain ⟨f1,f2,f3,f4,f5⟩:=zZ6 qf
  obtain ⟨n1,n2⟩:=Im.count_le qf
  refine ⟨⟨0,Nat.zero_le _,⟨by omega,rfl⟩,by rw [Nat.zero_mul]; rfl⟩,fun yy hy=>⟨fun hyl=>⟨⟨0,Nat.zero_le _,⟨by omega,rfl⟩,rfl⟩,fun xx hx=>⟨fun hxl=>?_,fun hxg=>?_⟩⟩,fun hyg=>?_⟩⟩
  ·have ha:=jKK (w:=m.w.toNat) (h:=m.h.toNat) (x:=xx) (y:=yy) (by omega) (by omega)
   refine ⟨pix _ _ qi ⟨by omega,by omega⟩ ⟨by omega,by omega⟩,⟨by rw [zZI,Im.list_len],rfl,by unfold maxLen; omega,by omega⟩,xx+1,by omega,by omega,⟨by omega,zXR (by omega)⟩,?_⟩
   have:=Im.pxs_succ m (yy*m.w.toNat+xx)
   rw [Im.nth_at (by omega)] at this
   exact this
  ·have hxe:xx=m.w.toNat:=by omega
   have e:yy*m.w.toNat+xx=(yy+1)*m.w.toNat:=by rw [Nat.add_mul,Nat.one_mul,hxe]
   exact ⟨yy+1,by omega,by omega,⟨e,zXR (by omega)⟩,by rw [e]⟩
  ·have hye:yy=m.h.toNat:=by omega
   rw [Im.pixels_of q1,hye,Nat.mul_comm m.h.toNat,Im.list_len,zZI,Im.list_len]
   exact ⟨rfl,rfl,rfl⟩
theorem zHD (w h:Int) (n:Nat) (xs:List DV) (hx:zH1 n xs):AnsG prog 108 0 [aJ ((w)),aJ ((h)),AV.one (Cl.d (dS n xs))] [] ⟨AV.tup [AV.agg [cJ (((imOf w h (zQk xs)).w)),cJ (((imOf w h (zQk xs)).h)),Cl.d (dQ ((imOf w h (zQk xs)).so)),cK (((imOf w h (zQk xs)).c.a)),cK (((imOf w h (zQk xs)).c.b)),cK (((imOf w h (zQk xs)).c.c)),cK (((imOf w h (zQk xs)).c.al)),cK (((imOf w h (zQk xs)).c.f)),cJ (((imOf w h (zQk xs)).p0.w)),cJ (((imOf w h (zQk xs)).p0.h)),cJ (((imOf w h (zQk xs)).p0.s)),Cl.ref 0 ((imOf w h (zQk xs)).p0.n),cJ (((imOf w h (zQk xs)).p1.w)),cJ (((imOf w h (zQk xs)).p1.h)),cJ (((imOf w h (zQk xs)).p1.s)),Cl.ref 1 ((imOf w h (zQk xs)).p1.n),cJ (((imOf w h (zQk xs)).p2.w)),cJ (((imOf w h (zQk xs)).p2.h)),cJ (((imOf w h (zQk xs)).p2.s)),Cl.ref 2 ((imOf w h (zQk xs)).p2.n),cJ (((imOf w h (zQk xs)).p3.w)),cJ (((imOf w h (zQk xs)).p3.h)),cJ (((imOf w h (zQk xs)).p3.s)),Cl.ref 3 ((imOf w h (zQk xs)).p3.n),cJ (((imOf w h (zQk xs)).p4.w)),cJ (((imOf w h (zQk xs)).p4.h)),cJ (((imOf w h (zQk xs)).p4.s)),Cl.ref 4 ((imOf w h (zQk xs)).p4.n)],AV.one (Cl.d (dQ (ofOk w h n)))],[Bx.row 34 1 ((imOf w h (zQk xs)).p0.xs),Bx.row 34 1 ((imOf w h (zQk xs)).p1.xs),Bx.row 34 1 ((imOf w h (zQk xs)).p2.xs),Bx.row 34 1 ((imOf w h (zQk xs)).p3.xs),Bx.row 34 1 ((imOf w h (zQk xs)).p4.xs)],true⟩:=
 zQz (Γ:=gamI) (let j:=(Ann.sure true Ann.leaf); let a:=(8,AV.one (Cl.ptr 8 0)); let b:=(6,AV.one (Cl.ptr 6 0)); let c:=(0,aJ w); let d:=(1,aJ h); let e:=(2,AV.one (Cl.d (dS n xs))); let r:=(cJ 0); let s:=(29,AV.one r); let f:=(6,bC [cJ 0,cJ 0,Cl.d (dQ false),cK 0,cK 0,cK 0,cK 0,cK 0,cJ 0,cJ 0,cJ 0,Cl.nil,cJ 0,cJ 0,cJ 0,Cl.nil,cJ 0,cJ 0,cJ 0,Cl.nil,cJ 0,cJ 0,cJ 0,Cl.nil,cJ 0,cJ 0,cJ 0,Cl.nil]); let t:=(8,bC [cJ w,cJ h,Cl.d (dQ false),cK 0,cK 0,cK 0,cK 0,cK 0,cJ 0,cJ 0,cJ 0,Cl.nil,cJ 0,cJ 0,cJ 0,Cl.nil,cJ 0,cJ 0,cJ 0,Cl.nil,cJ 0,cJ 0,cJ 0,Cl.nil,cJ 0,cJ 0,cJ 0,Cl.nil]); let l:=(35,AV.one (Cl.d (dS n xs))); let m:=(36,aJ (n:Int)); let o:=fun (k:Nat)=>(37,aJ (k:Int)); let u:=(cJ 1); let v:=(29,AV.one u); let x:=(8,bC [cJ w,cJ h,Cl.d (dQ false),cK 0,cK 0,cK 0,cK 0,cK 0,cJ w,cJ h,cJ w,Cl.ref 7000 (n:Int).toNat,cJ 0,cJ 0,cJ 0,Cl.nil,cJ 0,cJ 0,cJ 0,Cl.nil,cJ 0,cJ 0,cJ 0,Cl.nil,cJ 0,cJ 0,cJ 0,Cl.nil]); let g:=(7000,Bx.row 34 1 (zQq (zQk xs) Px.a n)); let y:=(cJ 2); let z:=(29,AV.one y); let A:=(8,bC [cJ w,cJ h,Cl.d (dQ false),cK 0,cK 0,cK 0,cK 0,cK 0,cJ w,cJ h,cJ w,Cl.ref 7000 (n:Int).toNat,cJ w,cJ h,cJ w,Cl.ref 7001 (n:Int).toNat,cJ 0,cJ 0,cJ 0,Cl.nil,cJ 0,cJ 0,cJ 0,Cl.nil,cJ 0,cJ 0,cJ 0,Cl.nil]); let i:=(7001,Bx.row 34 1 (zQq (zQk xs) Px.b n)); let B:=(cJ 3); let C:=(29,AV.one B); let D:=(8,bC [cJ w,cJ h,Cl.d (dQ false),cK 0,cK 0,cK 0,cK 0,cK 0,cJ w,cJ h,cJ w,Cl.ref 7000 (n:Int).toNat,cJ w,cJ h,cJ w,Cl.ref 7001 (n:Int).toNat,cJ w,cJ h,cJ w,Cl.ref 7002 (n:Int).toNat,cJ 0,cJ 0,cJ 0,Cl.nil,cJ 0,cJ 0,cJ 0,Cl.nil]); let p:=(7002,Bx.row 34 1 (zQq (zQk xs) Px.c n)); let E:=(cJ 4); let F:=(29,AV.one E); let G:=(8,bC [cJ w,cJ h,Cl.d (dQ false),cK 0,cK 0,cK 0,cK 0,cK 0,cJ w,cJ h,cJ w,Cl.ref 7000 (n:Int).toNat,cJ w,cJ h,cJ w,Cl.ref 7001 (n:Int).toNat,cJ w,cJ h,cJ w,Cl.ref 7002 (n:Int).toNat,cJ w,cJ h,cJ w,Cl.ref 7003 (n:Int).toNat,cJ 0,cJ 0,cJ 0,Cl.nil]); let q:=(7003,Bx.row 34 1 (zQq (zQk xs) Px.al n)); (Ann.seq Ann.leaf (Ann.seq Ann.leaf (Ann.seq Ann.leaf (Ann.seq (Ann.seq Ann.leaf (Ann.link ⟨Unit,fun _u=>True,fun _u=>⟨[c,d,e,b,a,s],[f,t]⟩,fun _u=>0⟩ (fun _u=>(Ann.seq Ann.leaf (Ann.seq j (Ann.seq (Ann.seq Ann.leaf (Ann.seq Ann.leaf (Ann.seq (Ann.seq Ann.leaf (Ann.loop ⟨Nat,fun k=>k≤n,fun k=>⟨[c,d,e,b,a,(9,AV.one r),(10,AV.one (Cl.ref 7000 (n:Int).toNat)),s,l,m,(o k)],[f,t,(7000,Bx.row 34 1 (zQq (zQk xs) Px.a k))]⟩,fun k=>n - k⟩ fun k=>Ann.leaf)) Ann.leaf))) Ann.leaf)))) (Ann.link ⟨Unit,fun _u=>True,fun _u=>⟨[c,d,e,b,a,v],[f,x,g]⟩,fun _u=>0⟩ (fun _u=>(Ann.seq Ann.leaf (Ann.seq j (Ann.seq (Ann.seq Ann.leaf (Ann.seq Ann.leaf (Ann.seq (Ann.seq Ann.leaf (Ann.loop ⟨Nat,fun k=>k≤n,fun k=>⟨[c,d,e,b,a,(9,AV.one u),(10,AV.one (Cl.ref 7001 (n:Int).toNat)),v,l,m,(o k)],[f,x,(7001,Bx.row 34 1 (zQq (zQk xs) Px.b k)),g]⟩,fun k=>n - k⟩ fun k=>Ann.leaf)) Ann.leaf))) Ann.leaf)))) (Ann.link ⟨Unit,fun _u=>True,fun _u=>⟨[c,d,e,b,a,z],[f,A,g,i]⟩,fun _u=>0⟩ (fun _u=>(Ann.seq Ann.leaf (Ann.seq j (Ann.seq (Ann.seq Ann.leaf (Ann.seq Ann.leaf (Ann.seq (Ann.seq Ann.leaf (Ann.loop ⟨Nat,fun k=>k≤n,fun k=>⟨[c,d,e,b,a,(9,AV.one y),(10,AV.one (Cl.ref 7002 (n:Int).toNat)),z,l,m,(o k)],[f,A,(7002,Bx.row 34 1 (zQq (zQk xs) Px.c k)),g,i]⟩,fun k=>n - k⟩ fun k=>Ann.leaf)) Ann.leaf))) Ann.leaf)))) (Ann.link ⟨Unit,fun _u=>True,fun _u=>⟨[c,d,e,b,a,C],[f,D,g,i,p]⟩,fun _u=>0⟩ (fun _u=>(Ann.seq Ann.leaf (Ann.seq j (Ann.seq (Ann.seq Ann.leaf (Ann.seq Ann.leaf (Ann.seq (Ann.seq Ann.leaf (Ann.loop ⟨Nat,fun k=>k≤n,fun k=>⟨[c,d,e,b,a,(9,AV.one B),(10,AV.one (Cl.ref 7003 (n:Int).toNat)),C,l,m,(o k)],[f,D,(7003,Bx.row 34 1 (zQq (zQk xs) Px.al k)),g,i,p]⟩,fun k=>n - k⟩ fun k=>Ann.leaf)) Ann.leaf))) Ann.leaf)))) (Ann.link ⟨Unit,fun _u=>True,fun _u=>⟨[c,d,e,b,a,F],[f,G,g,i,p,q]⟩,fun _u=>0⟩ (fun _u=>(Ann.seq Ann.leaf (Ann.seq j (Ann.seq (Ann.seq Ann.leaf (Ann.seq Ann.leaf (Ann.seq (Ann.seq Ann.leaf (Ann.loop ⟨Nat,fun k=>k≤n,fun k=>⟨[c,d,e,b,a,(9,AV.one E),(10,AV.one (Cl.ref 7004 (n:Int).toNat)),F,l,m,(o k)],[f,G,(7004,Bx.row 34 1 (zQq (zQk xs) Px.f k)),g,i,p,q]⟩,fun k=>n - k⟩ fun k=>Ann.leaf)) Ann.leaf))) Ann.leaf)))) (Ann.link ⟨Unit,fun _u=>True,fun _u=>⟨[c,d,e,b,a,(29,aJ 5)],[f,(8,bC [cJ w,cJ h,Cl.d (dQ false),cK 0,cK 0,cK 0,cK 0,cK 0,cJ w,cJ h,cJ w,Cl.ref 7000 (n:Int).toNat,cJ w,cJ h,cJ w,Cl.ref 7001 (n:Int).toNat,cJ w,cJ h,cJ w,Cl.ref 7002 (n:Int).toNat,cJ w,cJ h,cJ w,Cl.ref 7003 (n:Int).toNat,cJ w,cJ h,cJ w,Cl.ref 7004 (n:Int).toNat]),g,i,p,q,(7004,Bx.row 34 1 (zQq (zQk xs) Px.f n))]⟩,fun _u=>0⟩ (fun _u=>(Ann.seq Ann.leaf (Ann.seq (Ann.sure false Ann.leaf) Ann.leaf))) Ann.leaf))))))) Ann.leaf))))) zQy Tryz.func108 rfl (Nat.le_of_ble_eq_true rfl) rfl fun hwf hbx=>by
  refine Eq.mpr (by kernel_rfl:_=(let l:=((5:Nat):Int); let f:=(dS n xs=dS n xs); let b:=(imOf w h (zQk xs)); let F:=(imB 34 b); let G:=[(imV 0 b),AV.one (Cl.d (dQ (ofOk w h n)))]; let S:=(dQ false=dQ b.so); let T:=(dK 0=dK b.c.a); let U:=(dK 0=dK b.c.b); let V:=(dK 0=dK b.c.c); let W:=(dK 0=dK b.c.al); let X:=(dK 0=dK b.c.f); let Y:=(((((dJ 0=dJ b.w)∧(dJ 0=dJ b.h)∧S∧T∧U∧V∧W∧X∧(dJ 0=dJ b.p0.w)∧(dJ 0=dJ b.p0.h)∧(dJ 0=dJ b.p0.s)∧(0=b.p0.n)∧(dJ 0=dJ b.p1.w)∧(dJ 0=dJ b.p1.h)∧(dJ 0=dJ b.p1.s)∧(0=b.p1.n)∧(dJ 0=dJ b.p2.w)∧(dJ 0=dJ b.p2.h)∧(dJ 0=dJ b.p2.s)∧(0=b.p2.n)∧(dJ 0=dJ b.p3.w)∧(dJ 0=dJ b.p3.h)∧(dJ 0=dJ b.p3.s)∧(0=b.p3.n)∧(dJ 0=dJ b.p4.w)∧(dJ 0=dJ b.p4.h)∧(dJ 0=dJ b.p4.s)∧(0=b.p4.n)∧True)∧(dQ false=dQ (ofOk w h n))∧True)∧True)∧(([]=b.p0.xs)∧([]=b.p1.xs)∧([]=b.p2.xs)∧([]=b.p3.xs)∧([]=b.p4.xs)∧True)); let c:=(dJ w=dJ w); let d:=(dJ h=dJ h); let a:=(dJ 0=dJ 0); let p:=(dQ false=dQ false); let e:=(dK 0=dK 0); let i:=(a∧a∧p∧e∧e∧e∧e∧e∧a∧a∧a∧True∧a∧a∧a∧True∧a∧a∧a∧True∧a∧a∧a∧True∧a∧a∧a∧True∧True); let H:=(c∧d∧p∧e∧e∧e∧e∧e∧a∧a∧a∧True∧a∧a∧a∧True∧a∧a∧a∧True∧a∧a∧a∧True∧a∧a∧a∧True∧True); let r:=(0≤(n:Int)∧(n:Int)≤(n:Int)∧(n:Int)≤(maxLen:Int)∧((2:Nat):Int)*(n:Int)≤281474976710656); let g:=((n:Int).toNat=(n:Int).toNat); let m:=(dJ (n:Int)=dJ (n:Int)); let s:=fun (k:Nat)=>(dJ 0=dJ (k:Int)); let t:=fun (k:Nat)=>(0≤(k:Int)∧(k:Int) < (n:Int)∧(k:Int).toNat*5 < xs.length); let u:=fun (k:Nat)=>((xs[(k:Int).toNat*5]?=some (dK (nAt xs ((k:Int).toNat*5))))∧(xs[(k:Int).toNat*5+1]?=some (dK (nAt xs ((k:Int).toNat*5+1))))∧(xs[(k:Int).toNat*5+1+1]?=some (dK (nAt xs ((k:Int).toNat*5+1+1))))∧(xs[(k:Int).toNat*5+1+1+1]?=some (dK (nAt xs ((k:Int).toNat*5+1+1+1))))∧(xs[(k:Int).toNat*5+1+1+1+1]?=some (dK (nAt xs ((k:Int).toNat*5+1+1+1+1))))∧True); let v:=(0≤(0:Int)∧(0:Int) < ((3:Nat):Int)); let x:=(0≤(1:Int)∧(1:Int) < ((3:Nat):Int)); let y:=(0≤(2:Int)∧(2:Int) < ((3:Nat):Int)); let z:=fun (k:Nat)=>(0≤(k:Int)∧(k:Int) < (((n:Int).toNat:Nat):Int)); let A:=fun (k:Nat)=>fun (k':Nat)=>(dJ (wK ((k:Int)+1))=dJ (k':Int)); let I:=(c∧d∧p∧e∧e∧e∧e∧e∧c∧d∧c∧g∧a∧a∧a∧True∧a∧a∧a∧True∧a∧a∧a∧True∧a∧a∧a∧True∧True); let B:=(dJ 1=dJ 1); let j:=(zQq (zQk xs) Px.a n=zQq (zQk xs) Px.a n); let J:=(c∧d∧p∧e∧e∧e∧e∧e∧c∧d∧c∧g∧c∧d∧c∧g∧a∧a∧a∧True∧a∧a∧a∧True∧a∧a∧a∧True∧True); let C:=(dJ 2=dJ 2); let o:=(zQq (zQk xs) Px.b n=zQq (zQk xs) Px.b n); let K:=(c∧d∧p∧e∧e∧e∧e∧e∧c∧d∧c∧g∧c∧d∧c∧g∧c∧d∧c∧g∧a∧a∧a∧True∧a∧a∧a∧True∧True); let D:=(dJ 3=dJ 3); let q:=(zQq (zQk xs) Px.c n=zQq (zQk xs) Px.c n); let L:=(c∧d∧p∧e∧e∧e∧e∧e∧c∧d∧c∧g∧c∧d∧c∧g∧c∧d∧c∧g∧c∧d∧c∧g∧a∧a∧a∧True∧True); let E:=(dJ 4=dJ 4); let M:=(zQq (zQk xs) Px.al n=zQq (zQk xs) Px.al n); tU4 ((Ans prog 125 [rJ w,rJ h] (RV.d (dQ (zQY w h))))∧tU2 (((!(zQY w h))=false→tU7 ((((n:Int) != (wK (w*h)))=true→tU3 (Y∧zQu ⟨AV.tup G,F,true⟩))∧(((n:Int) != (wK (w*h)))=false→tU6 ((∃ _u:Unit,True∧((c∧d∧f∧(0=0)∧(0=0)∧a∧True)∧(i∧H∧True)))∧((∀ _u:Unit,True→True∧(decide ((0:Int) < 5)=true∧tU4 (r∧tU4 ((∃ k:Nat,(k≤n)∧((c∧d∧f∧(0=0)∧(0=0)∧a∧g∧a∧f∧m∧(s k)∧True)∧(i∧H∧(List.replicate (n:Int).toNat (dK 0)=zQq (zQk xs) Px.a k)∧True)))∧∀ k:Nat,let N:=(dK (nAt xs ((k:Int).toNat*5))); (k≤n)→True∧(((decide ((k:Int) < (n:Int)))=true→True∧(t k)∧(u k)∧tU6 (v∧tU2 (x∧tU2 (y∧tU7 ((0≤(0:Int)∧(0:Int) < l∧(some N=some N)∧True)∧(z k)∧((k:Int).toNat*1+1≤(zQq (zQk xs) Px.a k).length)∧tU2 (∃ k':Nat,(k'≤n)∧(n - k' < n - k)∧((c∧d∧f∧(0=0)∧(0=0)∧a∧g∧a∧f∧m∧(A k k')∧True)∧(i∧H∧(List.set (zQq (zQk xs) Px.a k) ((k:Int).toNat*1) N=zQq (zQk xs) Px.a k')∧True))))))))∧((decide ((k:Int) < (n:Int)))=false→tU7 ((0≤(0:Int)∧(0:Int) < l)∧tU3 (∃ _u:Unit,True∧((c∧d∧f∧(0=0)∧(0=0)∧(dJ (wK ((0:Int)+1))=dJ 1)∧True)∧(i∧I∧(zQq (zQk xs) Px.a k=zQq (zQk xs) Px.a n)∧True))))))))))∧(∀ _u:Unit,True→True∧(decide ((1:Int) < 5)=true∧tU4 (r∧tU4 ((∃ k:Nat,(k≤n)∧((c∧d∧f∧(0=0)∧(0=0)∧B∧g∧B∧f∧m∧(s k)∧True)∧(i∧I∧(List.replicate (n:Int).toNat (dK 0)=zQq (zQk xs) Px.b k)∧j∧True)))∧∀ k:Nat,let O:=(dK (nAt xs ((k:Int).toNat*5+1))); (k≤n)→True∧(((decide ((k:Int) < (n:Int)))=true→True∧(t k)∧(u k)∧tU6 (v∧tU2 (x∧tU2 (y∧tU7 ((0≤(1:Int)∧(1:Int) < l∧(some O=some O)∧True)∧(z k)∧((k:Int).toNat*1+1≤(zQq (zQk xs) Px.b k).length)∧tU2 (∃ k':Nat,(k'≤n)∧(n - k' < n - k)∧((c∧d∧f∧(0=0)∧(0=0)∧B∧g∧B∧f∧m∧(A k k')∧True)∧(i∧I∧(List.set (zQq (zQk xs) Px.b k) ((k:Int).toNat*1) O=zQq (zQk xs) Px.b k')∧j∧True))))))))∧((decide ((k:Int) < (n:Int)))=false→tU7 ((0≤(1:Int)∧(1:Int) < l)∧tU3 (∃ _u:Unit,True∧((c∧d∧f∧(0=0)∧(0=0)∧(dJ (wK ((1:Int)+1))=dJ 2)∧True)∧(i∧J∧j∧(zQq (zQk xs) Px.b k=zQq (zQk xs) Px.b n)∧True))))))))))∧(∀ _u:Unit,True→True∧(decide ((2:Int) < 5)=true∧tU4 (r∧tU4 ((∃ k:Nat,(k≤n)∧((c∧d∧f∧(0=0)∧(0=0)∧C∧g∧C∧f∧m∧(s k)∧True)∧(i∧J∧(List.replicate (n:Int).toNat (dK 0)=zQq (zQk xs) Px.c k)∧j∧o∧True)))∧∀ k:Nat,let P:=(dK (nAt xs ((k:Int).toNat*5+1+1))); (k≤n)→True∧(((decide ((k:Int) < (n:Int)))=true→True∧(t k)∧(u k)∧tU6 (v∧tU2 (x∧tU2 (y∧tU7 ((0≤(2:Int)∧(2:Int) < l∧(some P=some P)∧True)∧(z k)∧((k:Int).toNat*1+1≤(zQq (zQk xs) Px.c k).length)∧tU2 (∃ k':Nat,(k'≤n)∧(n - k' < n - k)∧((c∧d∧f∧(0=0)∧(0=0)∧C∧g∧C∧f∧m∧(A k k')∧True)∧(i∧J∧(List.set (zQq (zQk xs) Px.c k) ((k:Int).toNat*1) P=zQq (zQk xs) Px.c k')∧j∧o∧True))))))))∧((decide ((k:Int) < (n:Int)))=false→tU7 ((0≤(2:Int)∧(2:Int) < l)∧tU3 (∃ _u:Unit,True∧((c∧d∧f∧(0=0)∧(0=0)∧(dJ (wK ((2:Int)+1))=dJ 3)∧True)∧(i∧K∧j∧o∧(zQq (zQk xs) Px.c k=zQq (zQk xs) Px.c n)∧True))))))))))∧(∀ _u:Unit,True→True∧(decide ((3:Int) < 5)=true∧tU4 (r∧tU4 ((∃ k:Nat,(k≤n)∧((c∧d∧f∧(0=0)∧(0=0)∧D∧g∧D∧f∧m∧(s k)∧True)∧(i∧K∧(List.replicate (n:Int).toNat (dK 0)=zQq (zQk xs) Px.al k)∧j∧o∧q∧True)))∧∀ k:Nat,let Q:=(dK (nAt xs ((k:Int).toNat*5+1+1+1))); (k≤n)→True∧(((decide ((k:Int) < (n:Int)))=true→True∧(t k)∧(u k)∧tU6 (v∧tU2 (x∧tU2 (y∧tU7 ((0≤(3:Int)∧(3:Int) < l∧(some Q=some Q)∧True)∧(z k)∧((k:Int).toNat*1+1≤(zQq (zQk xs) Px.al k).length)∧tU2 (∃ k':Nat,(k'≤n)∧(n - k' < n - k)∧((c∧d∧f∧(0=0)∧(0=0)∧D∧g∧D∧f∧m∧(A k k')∧True)∧(i∧K∧(List.set (zQq (zQk xs) Px.al k) ((k:Int).toNat*1) Q=zQq (zQk xs) Px.al k')∧j∧o∧q∧True))))))))∧((decide ((k:Int) < (n:Int)))=false→tU7 ((0≤(3:Int)∧(3:Int) < l)∧tU3 (∃ _u:Unit,True∧((c∧d∧f∧(0=0)∧(0=0)∧(dJ (wK ((3:Int)+1))=dJ 4)∧True)∧(i∧L∧j∧o∧q∧(zQq (zQk xs) Px.al k=zQq (zQk xs) Px.al n)∧True))))))))))∧(∀ _u:Unit,True→True∧(decide ((4:Int) < 5)=true∧tU4 (r∧tU4 ((∃ k:Nat,(k≤n)∧((c∧d∧f∧(0=0)∧(0=0)∧E∧g∧E∧f∧m∧(s k)∧True)∧(i∧L∧(List.replicate (n:Int).toNat (dK 0)=zQq (zQk xs) Px.f k)∧j∧o∧q∧M∧True)))∧∀ k:Nat,let R:=(dK (nAt xs ((k:Int).toNat*5+1+1+1+1))); (k≤n)→True∧(((decide ((k:Int) < (n:Int)))=true→True∧(t k)∧(u k)∧tU6 (v∧tU2 (x∧tU2 (y∧tU7 ((0≤(4:Int)∧(4:Int) < l∧(some R=some R)∧True)∧(z k)∧((k:Int).toNat*1+1≤(zQq (zQk xs) Px.f k).length)∧tU2 (∃ k':Nat,(k'≤n)∧(n - k' < n - k)∧((c∧d∧f∧(0=0)∧(0=0)∧E∧g∧E∧f∧m∧(A k k')∧True)∧(i∧L∧(List.set (zQq (zQk xs) Px.f k) ((k:Int).toNat*1) R=zQq (zQk xs) Px.f k')∧j∧o∧q∧M∧True))))))))∧((decide ((k:Int) < (n:Int)))=false→tU7 ((0≤(4:Int)∧(4:Int) < l)∧tU3 (∃ _u:Unit,True∧((c∧d∧f∧(0=0)∧(0=0)∧(dJ (wK ((4:Int)+1))=dJ 5)∧True)∧(i∧(c∧d∧p∧e∧e∧e∧e∧e∧c∧d∧c∧g∧c∧d∧c∧g∧c∧d∧c∧g∧c∧d∧c∧g∧c∧d∧c∧g∧True)∧j∧o∧q∧M∧(zQq (zQk xs) Px.f k=zQq (zQk xs) Px.f n)∧True))))))))))∧(∀ _u:Unit,True→True∧(decide ((5:Int) < 5)=false∧tU3 ((((((dJ w=dJ b.w)∧(dJ h=dJ b.h)∧S∧T∧U∧V∧W∧X∧(dJ w=dJ b.p0.w)∧(dJ h=dJ b.p0.h)∧(dJ w=dJ b.p0.s)∧((n:Int).toNat=b.p0.n)∧(dJ w=dJ b.p1.w)∧(dJ h=dJ b.p1.h)∧(dJ w=dJ b.p1.s)∧((n:Int).toNat=b.p1.n)∧(dJ w=dJ b.p2.w)∧(dJ h=dJ b.p2.h)∧(dJ w=dJ b.p2.s)∧((n:Int).toNat=b.p2.n)∧(dJ w=dJ b.p3.w)∧(dJ h=dJ b.p3.h)∧(dJ w=dJ b.p3.s)∧((n:Int).toNat=b.p3.n)∧(dJ w=dJ b.p4.w)∧(dJ h=dJ b.p4.h)∧(dJ w=dJ b.p4.s)∧((n:Int).toNat=b.p4.n)∧True)∧(dQ true=dQ (ofOk w h n))∧True)∧True)∧((zQq (zQk xs) Px.a n=b.p0.xs)∧(zQq (zQk xs) Px.b n=b.p1.xs)∧(zQq (zQk xs) Px.c n=b.p2.xs)∧(zQq (zQk xs) Px.al n=b.p3.xs)∧(zQq (zQk xs) Px.f n=b.p4.xs)∧True))∧zQu ⟨AV.tup G,F,true⟩)))∧True)))))∧((!(zQY w h))=(!false)→tU4 (Y∧zQu ⟨AV.tup G,F,true⟩)))))) ?_
  delta tU2 tU3 tU4 tU6 tU7 dJ dK dQ wK dS rJ
  simp only [sS,zQH,zQB,zQL,zQU,zQK,zQV,zQW,zZf]
  obtain ⟨l,rfl,rfl⟩:=hx.of
  simp only [zZd,imV,imB,zQu,AV.flatV,AV.flatVL,Cl.flatV,zUV,Bx.flatVL,Bx.flatV,zUQ,true_and,and_true]
  simp only [DV.flat,true_and,and_true]
  have no:∀ {P:Prop},(imOf w h l=Im.zero→ofOk w h l.length=false→P)→(ofOk w h l.length=false)→P:=fun f h=>f (zWI h) h
  have le:=@zZ6 w h
  refine ⟨fun q1=>⟨fun q2=>?_,fun q2=>?_⟩,fun q1=>?_⟩
  ·obtain ⟨f1,f2,f3,f4,f5⟩:=le q1
   have wm:IntKind.wrap .i64 (w*h)=w*h:=IntWalk.i64_in _ ⟨by have:=Int.mul_nonneg (a:=w) (b:=h) (by omega) (by omega); omega,by omega⟩
   refine no (fun e1 e2=>?_) (by rw [wm] at q2; simp [ofOk,q1]; simpa using q2)
   rw [e1,e2]; simp [Im.zero,Px.zero,Pl.none]
  ·obtain ⟨f1,f2,f3,f4,f5⟩:=le q1
   have wm:IntKind.wrap .i64 (w*h)=w*h:=IntWalk.i64_in _ ⟨by have:=Int.mul_nonneg (a:=w) (b:=h) (by omega) (by omega); omega,by omega⟩
   have hl:(l.length:Int)=w*h:=by rw [wm] at q2; simpa using q2
   have hk:ofOk w h l.length=true:=by simp [ofOk,q1,hl]
   have hb:l.length≤16777216:=by omega
   rw [hk,zKo hk]
   simp only [ofIm,Px.zero,maxLen]
   (repeat' (first | apply And.intro | intro)) <;> (first | assumption | rfl | omega | (exact ⟨0,by omega,rfl,(zXk _ _).symm⟩) | exact jQX (by omega) | exact zYv (j:=1) (by omega) (by omega) | exact zYv (j:=2) (by omega) (by omega) | exact zYv (j:=3) (by omega) (by omega) | exact zYv (j:=4) (by omega) (by omega) | (rw [zZI]; omega) | (rw [zJY (by assumption)]; omega) | exact zKb (by assumption) (by assumption) (fun h=>(zZm h).1) | exact zKb (by assumption) (by assumption) (fun h=>(zZm h).2.1) | exact zKb (by assumption) (by assumption) (fun h=>(zZm h).2.2.1) | exact zKb (by assumption) (by assumption) (fun h=>(zZm h).2.2.2.1) | exact zKb (by assumption) (by assumption) (fun h=>(zZm h).2.2.2.2) | exact ⟨(),by decide,jJe (by assumption) (by assumption)⟩ | exact ⟨(),trivial⟩ | exact ⟨(),by decide⟩ | exact zJZ _ _ | (rw [jJe (by assumption) (by assumption)]; exact zJZ _ _) | exact jX1 (by assumption) (by assumption) (fun h=>(zZm h).1) (fun h=>(zZm h).2.1) (fun h=>(zZm h).2.2.1) (fun h=>(zZm h).2.2.2.1) (fun h=>(zZm h).2.2.2.2) | (rw [zJY (by omega)]; omega) | decide)
  ·refine no (fun e1 e2=>?_) (by simp [ofOk,q1])
   rw [e1,e2]; simp [Im.zero,Px.zero,Pl.none]
theorem zW7 (w h:Int) (n:Nat) (xs:List DV) (hx:zH1 n xs):AnsG prog 48 0 [aJ ((w)),aJ ((h)),AV.one (Cl.d (dS n xs))] [] ⟨AV.tup [AV.agg [cJ (((imOf w h (zQk xs)).w)),cJ (((imOf w h (zQk xs)).h)),Cl.d (dQ ((imOf w h (zQk xs)).so)),cK (((imOf w h (zQk xs)).c.a)),cK (((imOf w h (zQk xs)).c.b)),cK (((imOf w h (zQk xs)).c.c)),cK (((imOf w h (zQk xs)).c.al)),cK (((imOf w h (zQk xs)).c.f)),cJ (((imOf w h (zQk xs)).p0.w)),cJ (((imOf w h (zQk xs)).p0.h)),cJ (((imOf w h (zQk xs)).p0.s)),Cl.ref 0 ((imOf w h (zQk xs)).p0.n),cJ (((imOf w h (zQk xs)).p1.w)),cJ (((imOf w h (zQk xs)).p1.h)),cJ (((imOf w h (zQk xs)).p1.s)),Cl.ref 1 ((imOf w h (zQk xs)).p1.n),cJ (((imOf w h (zQk xs)).p2.w)),cJ (((imOf w h (zQk xs)).p2.h)),cJ (((imOf w h (zQk xs)).p2.s)),Cl.ref 2 ((imOf w h (zQk xs)).p2.n),cJ (((imOf w h (zQk xs)).p3.w)),cJ (((imOf w h (zQk xs)).p3.h)),cJ (((imOf w h (zQk xs)).p3.s)),Cl.ref 3 ((imOf w h (zQk xs)).p3.n),cJ (((imOf w h (zQk xs)).p4.w)),cJ (((imOf w h (zQk xs)).p4.h)),cJ (((imOf w h (zQk xs)).p4.s)),Cl.ref 4 ((imOf w h (zQk xs)).p4.n)],AV.one (Cl.d (dQ (ofOk w h n)))],[Bx.row 34 1 ((imOf w h (zQk xs)).p0.xs),Bx.row 34 1 ((imOf w h (zQk xs)).p1.xs),Bx.row 34 1 ((imOf w h (zQk xs)).p2.xs),Bx.row 34 1 ((imOf w h (zQk xs)).p3.xs),Bx.row 34 1 ((imOf w h (zQk xs)).p4.xs)],true⟩:=
 zQz (Γ:=gamI) (let v:=(Ann.seq (Ann.seq Ann.leaf (Ann.sure false Ann.leaf)) Ann.leaf); let b:=(8,AV.one (Cl.ptr 8 0)); let c:=(6,AV.one (Cl.ptr 6 0)); let f:=(Ann.seq (Ann.seq Ann.leaf (Ann.sure true Ann.leaf)) Ann.leaf); let g:=(0,aJ w); let j:=(1,aJ h); let d:=(2,AV.one (Cl.d (dS n xs))); let x:=(cJ 0); let e:=(6,bC [cJ 0,cJ 0,Cl.d (dQ false),cK 0,cK 0,cK 0,cK 0,cK 0,cJ 0,cJ 0,cJ 0,Cl.nil,cJ 0,cJ 0,cJ 0,Cl.nil,cJ 0,cJ 0,cJ 0,Cl.nil,cJ 0,cJ 0,cJ 0,Cl.nil,cJ 0,cJ 0,cJ 0,Cl.nil]); let y:=(cJ 1); let a:=(wK (w*h)).toNat; let k:=(List.replicate (wK (w*h)).toNat (dK 0)); let l:=(200039,Bx.row 34 1 k); let z:=(cJ 2); let p:=(300039,Bx.row 34 1 k); let A:=(cJ 3); let s:=(400039,Bx.row 34 1 k); let B:=(500039,Bx.row 34 1 k); let m:=(8,bC [cJ w,cJ h,Cl.d (dQ false),cK 0,cK 0,cK 0,cK 0,cK 0,cJ w,cJ h,cJ w,Cl.ref 200039 a,cJ w,cJ h,cJ w,Cl.ref 300039 a,cJ w,cJ h,cJ w,Cl.ref 400039 a,cJ w,cJ h,cJ w,Cl.ref 500039 a,cJ w,cJ h,cJ w,Cl.ref 600039 a]); let o:=fun (i:Nat)=>(10,aJ (i:Int)); let C:=fun (i:Nat)=>(300039,Bx.row 34 1 (zQq (zQk xs) Px.b i)); let t:=fun (i:Nat)=>(400039,Bx.row 34 1 (zQq (zQk xs) Px.c i)); let q:=fun (i:Nat)=>(500039,Bx.row 34 1 (zQq (zQk xs) Px.al i)); let r:=fun (i:Nat)=>(600039,Bx.row 34 1 (zQq (zQk xs) Px.f i)); let D:=fun (i:Nat)=>[e,m,(200039,Bx.row 34 1 (zQq (zQk xs) Px.a i)),(C i),(t i),(q i),(r i)]; let u:=fun (i:Nat)=>(200039,Bx.row 34 1 (List.set (zQq (zQk xs) Px.a i) ((i:Int).toNat*1) (dK (nAt xs ((i:Int).toNat*5+0+0))))); let E:=fun (i:Nat)=>(300039,Bx.row 34 1 (List.set (zQq (zQk xs) Px.b i) ((i:Int).toNat*1) (dK (nAt xs ((i:Int).toNat*5+0+1))))); (Ann.seq Ann.leaf (Ann.seq Ann.leaf (Ann.seq Ann.leaf (Ann.seq (Ann.seq Ann.leaf (Ann.link ⟨Unit,fun _u=>True,fun _u=>⟨[g,j,d,c,b,(9,AV.one x)],[e,(8,bC [cJ w,cJ h,Cl.d (dQ false),cK 0,cK 0,cK 0,cK 0,cK 0,cJ 0,cJ 0,cJ 0,Cl.nil,cJ 0,cJ 0,cJ 0,Cl.nil,cJ 0,cJ 0,cJ 0,Cl.nil,cJ 0,cJ 0,cJ 0,Cl.nil,cJ 0,cJ 0,cJ 0,Cl.nil])]⟩,fun _u=>0⟩ (fun _u=>f) (Ann.link ⟨Unit,fun _u=>True,fun _u=>⟨[g,j,d,c,b,(9,AV.one y)],[e,(8,bC [cJ w,cJ h,Cl.d (dQ false),cK 0,cK 0,cK 0,cK 0,cK 0,cJ w,cJ h,cJ w,Cl.ref 200039 a,cJ 0,cJ 0,cJ 0,Cl.nil,cJ 0,cJ 0,cJ 0,Cl.nil,cJ 0,cJ 0,cJ 0,Cl.nil,cJ 0,cJ 0,cJ 0,Cl.nil]),l]⟩,fun _u=>0⟩ (fun _u=>f) (Ann.link ⟨Unit,fun _u=>True,fun _u=>⟨[g,j,d,c,b,(9,AV.one z)],[e,(8,bC [cJ w,cJ h,Cl.d (dQ false),cK 0,cK 0,cK 0,cK 0,cK 0,cJ w,cJ h,cJ w,Cl.ref 200039 a,cJ w,cJ h,cJ w,Cl.ref 300039 a,cJ 0,cJ 0,cJ 0,Cl.nil,cJ 0,cJ 0,cJ 0,Cl.nil,cJ 0,cJ 0,cJ 0,Cl.nil]),l,p]⟩,fun _u=>0⟩ (fun _u=>f) (Ann.link ⟨Unit,fun _u=>True,fun _u=>⟨[g,j,d,c,b,(9,AV.one A)],[e,(8,bC [cJ w,cJ h,Cl.d (dQ false),cK 0,cK 0,cK 0,cK 0,cK 0,cJ w,cJ h,cJ w,Cl.ref 200039 a,cJ w,cJ h,cJ w,Cl.ref 300039 a,cJ w,cJ h,cJ w,Cl.ref 400039 a,cJ 0,cJ 0,cJ 0,Cl.nil,cJ 0,cJ 0,cJ 0,Cl.nil]),l,p,s]⟩,fun _u=>0⟩ (fun _u=>f) (Ann.link ⟨Unit,fun _u=>True,fun _u=>⟨[g,j,d,c,b,(9,aJ 4)],[e,(8,bC [cJ w,cJ h,Cl.d (dQ false),cK 0,cK 0,cK 0,cK 0,cK 0,cJ w,cJ h,cJ w,Cl.ref 200039 a,cJ w,cJ h,cJ w,Cl.ref 300039 a,cJ w,cJ h,cJ w,Cl.ref 400039 a,cJ w,cJ h,cJ w,Cl.ref 500039 a,cJ 0,cJ 0,cJ 0,Cl.nil]),l,p,s,B]⟩,fun _u=>0⟩ (fun _u=>f) (Ann.link ⟨Unit,fun _u=>True,fun _u=>⟨[g,j,d,c,b,(9,aJ 5)],[e,m,l,p,s,B,(600039,Bx.row 34 1 k)]⟩,fun _u=>0⟩ (fun _u=>v) Ann.leaf))))))) (Ann.seq (Ann.seq Ann.leaf (Ann.loop ⟨Nat,fun i=>i≤n,fun i=>⟨[d,c,b,(o i)],(D i)⟩,fun i=>n - i⟩ fun i=>(Ann.seq Ann.leaf (Ann.seq (Ann.seq (Ann.seq Ann.leaf (Ann.link ⟨Unit,fun _u=>True,fun _u=>⟨[d,c,b,(o i),(11,AV.one x)],(D i)⟩,fun _u=>0⟩ (fun _u=>f) (Ann.link ⟨Unit,fun _u=>True,fun _u=>⟨[d,c,b,(o i),(11,AV.one y)],[e,m,(u i),(C i),(t i),(q i),(r i)]⟩,fun _u=>0⟩ (fun _u=>f) (Ann.link ⟨Unit,fun _u=>True,fun _u=>⟨[d,c,b,(o i),(11,AV.one z)],[e,m,(u i),(E i),(t i),(q i),(r i)]⟩,fun _u=>0⟩ (fun _u=>f) (Ann.link ⟨Unit,fun _u=>True,fun _u=>⟨[d,c,b,(o i),(11,AV.one A)],[e,m,(u i),(E i),(400039,Bx.row 34 1 (List.set (zQq (zQk xs) Px.c i) ((i:Int).toNat*1) (dK (nAt xs ((i:Int).toNat*5+0+2))))),(q i),(r i)]⟩,fun _u=>0⟩ (fun _u=>v) Ann.leaf))))) Ann.leaf) Ann.leaf)))) Ann.leaf)))))) zQy Tryz.func48 rfl (Nat.le_of_ble_eq_true rfl) rfl fun hwf hbx=>by
  refine Eq.mpr (by kernel_rfl:_=(let q:=((5:Nat):Int); let k:=(dS n xs=dS n xs); let b:=(imOf w h (zQk xs)); let A:=(imB 34 b); let f:=(wK (w*h)); let B:=[(imV 0 b),AV.one (Cl.d (dQ (ofOk w h n)))]; let E:=(dQ false=dQ b.so); let F:=(dK 0=dK b.c.a); let G:=(dK 0=dK b.c.b); let H:=(dK 0=dK b.c.c); let I:=(dK 0=dK b.c.al); let J:=(dK 0=dK b.c.f); let K:=(((((dJ 0=dJ b.w)∧(dJ 0=dJ b.h)∧E∧F∧G∧H∧I∧J∧(dJ 0=dJ b.p0.w)∧(dJ 0=dJ b.p0.h)∧(dJ 0=dJ b.p0.s)∧(0=b.p0.n)∧(dJ 0=dJ b.p1.w)∧(dJ 0=dJ b.p1.h)∧(dJ 0=dJ b.p1.s)∧(0=b.p1.n)∧(dJ 0=dJ b.p2.w)∧(dJ 0=dJ b.p2.h)∧(dJ 0=dJ b.p2.s)∧(0=b.p2.n)∧(dJ 0=dJ b.p3.w)∧(dJ 0=dJ b.p3.h)∧(dJ 0=dJ b.p3.s)∧(0=b.p3.n)∧(dJ 0=dJ b.p4.w)∧(dJ 0=dJ b.p4.h)∧(dJ 0=dJ b.p4.s)∧(0=b.p4.n)∧True)∧(dQ false=dQ (ofOk w h n))∧True)∧True)∧(([]=b.p0.xs)∧([]=b.p1.xs)∧([]=b.p2.xs)∧([]=b.p3.xs)∧([]=b.p4.xs)∧True)); let c:=(dJ w=dJ w); let e:=(dJ h=dJ h); let a:=(dJ 0=dJ 0); let m:=(dQ false=dQ false); let d:=(dK 0=dK 0); let l:=(a∧a∧m∧d∧d∧d∧d∧d∧a∧a∧a∧True∧a∧a∧a∧True∧a∧a∧a∧True∧a∧a∧a∧True∧a∧a∧a∧True∧True); let r:=(0≤wK (w*h)∧wK (w*h)≤wK (w*h)∧wK (w*h)≤(maxLen:Int)∧((2:Nat):Int)*f≤281474976710656); let L:=(0≤(0:Int)∧(0:Int) < q); let M:=(dJ (wK ((0:Int)+1))=dJ 1); let g:=(f.toNat=f.toNat); let j:=(List.replicate f.toNat (dK 0)=List.replicate f.toNat (dK 0)); let N:=(0≤(1:Int)∧(1:Int) < q); let O:=(dJ (wK ((1:Int)+1))=dJ 2); let P:=(0≤(2:Int)∧(2:Int) < q); let Q:=(dJ (wK ((2:Int)+1))=dJ 3); let R:=(0≤(3:Int)∧(3:Int) < q); let S:=(0≤(4:Int)∧(4:Int) < q); let o:=(c∧e∧m∧d∧d∧d∧d∧d∧c∧e∧c∧g∧c∧e∧c∧g∧c∧e∧c∧g∧c∧e∧c∧g∧c∧e∧c∧g∧True); let u:=fun (i:Nat)=>(dJ (i:Int)=dJ (i:Int)); let T:=fun (i:Nat)=>(zQq (zQk xs) Px.b i=zQq (zQk xs) Px.b i); let C:=fun (i:Nat)=>(zQq (zQk xs) Px.c i=zQq (zQk xs) Px.c i); let v:=fun (i:Nat)=>(zQq (zQk xs) Px.al i=zQq (zQk xs) Px.al i); let x:=fun (i:Nat)=>(zQq (zQk xs) Px.f i=zQq (zQk xs) Px.f i); let s:=fun (i:Nat)=>(0≤(i:Int)∧(i:Int) < (n:Int)∧(i:Int).toNat*5 < xs.length); let t:=fun (i:Nat)=>(0≤(i:Int)∧(i:Int) < (f.toNat:Int)); let D:=fun (i:Nat)=>(List.set (zQq (zQk xs) Px.a i) ((i:Int).toNat*1) (dK (nAt xs ((i:Int).toNat*5+0+0)))=List.set (zQq (zQk xs) Px.a i) ((i:Int).toNat*1) (dK (nAt xs ((i:Int).toNat*5+0+0)))); let U:=fun (i:Nat)=>(List.set (zQq (zQk xs) Px.b i) ((i:Int).toNat*1) (dK (nAt xs ((i:Int).toNat*5+0+1)))=List.set (zQq (zQk xs) Px.b i) ((i:Int).toNat*1) (dK (nAt xs ((i:Int).toNat*5+0+1)))); tU4 ((Ans prog 92 [rJ w,rJ h] (RV.d (dQ (zQY w h))))∧tU2 (((!(zQY w h))=false→tU7 ((((n:Int) != f)=true→tU3 (K∧zQu ⟨AV.tup B,A,true⟩))∧(((n:Int) != f)=false→tU6 ((∃ _u:Unit,True∧((c∧e∧k∧(0=0)∧(0=0)∧a∧True)∧(l∧(c∧e∧m∧d∧d∧d∧d∧d∧a∧a∧a∧True∧a∧a∧a∧True∧a∧a∧a∧True∧a∧a∧a∧True∧a∧a∧a∧True∧True)∧True)))∧((∀ _u:Unit,True→tU2 (decide ((0:Int) < 5)=true∧tU7 (r∧tU2 (L∧tU4 (∃ _u:Unit,True∧((c∧e∧k∧(0=0)∧(0=0)∧M∧True)∧(l∧(c∧e∧m∧d∧d∧d∧d∧d∧c∧e∧c∧g∧a∧a∧a∧True∧a∧a∧a∧True∧a∧a∧a∧True∧a∧a∧a∧True∧True)∧j∧True)))))))∧(∀ _u:Unit,True→tU2 (decide ((1:Int) < 5)=true∧tU7 (r∧tU2 (N∧tU4 (∃ _u:Unit,True∧((c∧e∧k∧(0=0)∧(0=0)∧O∧True)∧(l∧(c∧e∧m∧d∧d∧d∧d∧d∧c∧e∧c∧g∧c∧e∧c∧g∧a∧a∧a∧True∧a∧a∧a∧True∧a∧a∧a∧True∧True)∧j∧j∧True)))))))∧(∀ _u:Unit,True→tU2 (decide ((2:Int) < 5)=true∧tU7 (r∧tU2 (P∧tU4 (∃ _u:Unit,True∧((c∧e∧k∧(0=0)∧(0=0)∧Q∧True)∧(l∧(c∧e∧m∧d∧d∧d∧d∧d∧c∧e∧c∧g∧c∧e∧c∧g∧c∧e∧c∧g∧a∧a∧a∧True∧a∧a∧a∧True∧True)∧j∧j∧j∧True)))))))∧(∀ _u:Unit,True→tU2 (decide ((3:Int) < 5)=true∧tU7 (r∧tU2 (R∧tU4 (∃ _u:Unit,True∧((c∧e∧k∧(0=0)∧(0=0)∧(dJ (wK ((3:Int)+1))=dJ 4)∧True)∧(l∧(c∧e∧m∧d∧d∧d∧d∧d∧c∧e∧c∧g∧c∧e∧c∧g∧c∧e∧c∧g∧c∧e∧c∧g∧a∧a∧a∧True∧True)∧j∧j∧j∧j∧True)))))))∧(∀ _u:Unit,True→tU2 (decide ((4:Int) < 5)=true∧tU7 (r∧tU2 (S∧tU4 (∃ _u:Unit,True∧((c∧e∧k∧(0=0)∧(0=0)∧(dJ (wK ((4:Int)+1))=dJ 5)∧True)∧(l∧o∧j∧j∧j∧j∧j∧True)))))))∧(∀ _u:Unit,True→tU2 (decide ((5:Int) < 5)=false∧True∧((∃ i:Nat,(i≤n)∧((k∧(0=0)∧(0=0)∧(dJ 0=dJ (i:Int))∧True)∧(l∧o∧(List.replicate f.toNat (dK 0)=zQq (zQk xs) Px.a i)∧(List.replicate f.toNat (dK 0)=zQq (zQk xs) Px.b i)∧(List.replicate f.toNat (dK 0)=zQq (zQk xs) Px.c i)∧(List.replicate f.toNat (dK 0)=zQq (zQk xs) Px.al i)∧(List.replicate f.toNat (dK 0)=zQq (zQk xs) Px.f i)∧True)))∧∀ i:Nat,let V:=(dK (nAt xs ((i:Int).toNat*5+4))); let W:=(dK (nAt xs ((i:Int).toNat*5+3))); let X:=(dK (nAt xs ((i:Int).toNat*5+0+1))); let Y:=(dK (nAt xs ((i:Int).toNat*5+0+0))); let y:=(zQq (zQk xs) Px.c i); let p:=((i:Int).toNat*1); let z:=(dK (nAt xs ((i:Int).toNat*5+0+2))); (i≤n)→tU4 (((decide ((i:Int) < (n:Int)))=true→True∧(∃ _u:Unit,True∧((k∧(0=0)∧(0=0)∧(u i)∧a∧True)∧(l∧o∧(zQq (zQk xs) Px.a i=zQq (zQk xs) Px.a i)∧(T i)∧(C i)∧(v i)∧(x i)∧True)))∧((∀ _u:Unit,True→tU2 (decide ((0:Int) < 3)=true∧tU2 (L∧tU6 ((s i)∧True∧(0≤(0:Int)∧(0:Int) < ((3:Nat):Int))∧((xs[(i:Int).toNat*5+0+0]?=some Y)∧True)∧(t i)∧((i:Int).toNat*1+1≤(zQq (zQk xs) Px.a i).length)∧(true=true)∧tU3 (∃ _u:Unit,True∧((k∧(0=0)∧(0=0)∧(u i)∧M∧True)∧(l∧o∧(D i)∧(T i)∧(C i)∧(v i)∧(x i)∧True)))))))∧(∀ _u:Unit,True→tU2 (decide ((1:Int) < 3)=true∧tU2 (N∧tU6 ((s i)∧True∧(0≤(1:Int)∧(1:Int) < ((3:Nat):Int))∧((xs[(i:Int).toNat*5+0+1]?=some X)∧True)∧(t i)∧((i:Int).toNat*1+1≤(zQq (zQk xs) Px.b i).length)∧(true=true)∧tU3 (∃ _u:Unit,True∧((k∧(0=0)∧(0=0)∧(u i)∧O∧True)∧(l∧o∧(D i)∧(U i)∧(C i)∧(v i)∧(x i)∧True)))))))∧(∀ _u:Unit,True→tU2 (decide ((2:Int) < 3)=true∧tU2 (P∧tU6 ((s i)∧True∧(0≤(2:Int)∧(2:Int) < ((3:Nat):Int))∧((xs[(i:Int).toNat*5+0+2]?=some z)∧True)∧(t i)∧((i:Int).toNat*1+1≤y.length)∧(true=true)∧tU3 (∃ _u:Unit,True∧((k∧(0=0)∧(0=0)∧(u i)∧Q∧True)∧(l∧o∧(D i)∧(U i)∧(List.set y p z=List.set y p z)∧(v i)∧(x i)∧True)))))))∧(∀ _u:Unit,True→tU2 (decide ((3:Int) < 3)=false∧True∧R∧tU4 (S∧tU5 ((s i)∧True∧((xs[(i:Int).toNat*5+3]?=some W)∧True)∧tU2 ((s i)∧True∧((xs[(i:Int).toNat*5+4]?=some V)∧True)∧(t i)∧((i:Int).toNat*1+1≤(zQq (zQk xs) Px.al i).length)∧(t i)∧((i:Int).toNat*1+1≤(zQq (zQk xs) Px.f i).length)∧(true=true)∧tU3 (∃ i':Nat,(i'≤n)∧(n - i' < n - i)∧((k∧(0=0)∧(0=0)∧(dJ (wK ((i:Int)+1))=dJ (i':Int))∧True)∧(l∧o∧(List.set (zQq (zQk xs) Px.a i) p Y=zQq (zQk xs) Px.a i')∧(List.set (zQq (zQk xs) Px.b i) p X=zQq (zQk xs) Px.b i')∧(List.set y p z=zQq (zQk xs) Px.c i')∧(List.set (zQq (zQk xs) Px.al i) p W=zQq (zQk xs) Px.al i')∧(List.set (zQq (zQk xs) Px.f i) p V=zQq (zQk xs) Px.f i')∧True))))))))∧True))∧((decide ((i:Int) < (n:Int)))=false→tU3 ((((((dJ w=dJ b.w)∧(dJ h=dJ b.h)∧E∧F∧G∧H∧I∧J∧(dJ w=dJ b.p0.w)∧(dJ h=dJ b.p0.h)∧(dJ w=dJ b.p0.s)∧(f.toNat=b.p0.n)∧(dJ w=dJ b.p1.w)∧(dJ h=dJ b.p1.h)∧(dJ w=dJ b.p1.s)∧(f.toNat=b.p1.n)∧(dJ w=dJ b.p2.w)∧(dJ h=dJ b.p2.h)∧(dJ w=dJ b.p2.s)∧(f.toNat=b.p2.n)∧(dJ w=dJ b.p3.w)∧(dJ h=dJ b.p3.h)∧(dJ w=dJ b.p3.s)∧(f.toNat=b.p3.n)∧(dJ w=dJ b.p4.w)∧(dJ h=dJ b.p4.h)∧(dJ w=dJ b.p4.s)∧(f.toNat=b.p4.n)∧True)∧(dQ true=dQ (ofOk w h n))∧True)∧True)∧((zQq (zQk xs) Px.a i=b.p0.xs)∧(zQq (zQk xs) Px.b i=b.p1.xs)∧(zQq (zQk xs) Px.c i=b.p2.xs)∧(zQq (zQk xs) Px.al i=b.p3.xs)∧(zQq (zQk xs) Px.f i=b.p4.xs)∧True))∧zQu ⟨AV.tup B,A,true⟩))))))∧True)))))∧((!(zQY w h))=(!false)→tU4 (K∧zQu ⟨AV.tup B,A,true⟩)))))) ?_
  delta tU2 tU3 tU4 tU5 tU6 tU7 dJ dK dQ wK dS rJ
  simp only [sS,zQH,zQB,zQL,zQU,zQK,zQV,zQW,zZf]
  obtain ⟨l,rfl,rfl⟩:=hx.of
  simp only [zZd,imV,imB,zQu,AV.flatV,AV.flatVL,Cl.flatV,zUV,Bx.flatVL,Bx.flatV,zUQ,true_and,and_true]
  simp only [DV.flat,true_and,and_true]
  have no:∀ {P:Prop},(imOf w h l=Im.zero→ofOk w h l.length=false→P)→(ofOk w h l.length=false)→P:=fun f h=>f (zWI h) h
  have le:=@zZ6 w h
  refine ⟨fun q1=>⟨fun q2=>?_,fun q2=>?_⟩,fun q1=>?_⟩
  ·obtain ⟨f1,f2,f3,f4,f5⟩:=le q1
   have wm:IntKind.wrap .i64 (w*h)=w*h:=IntWalk.i64_in _ ⟨by have:=Int.mul_nonneg (a:=w) (b:=h) (by omega) (by omega); omega,by omega⟩
   refine no (fun e1 e2=>?_) (by rw [wm] at q2; simp [ofOk,q1]; simpa using q2)
   rw [e1,e2]; simp [Im.zero,Px.zero,Pl.none]
  ·obtain ⟨f1,f2,f3,f4,f5⟩:=le q1
   have wm:IntKind.wrap .i64 (w*h)=w*h:=IntWalk.i64_in _ ⟨by have:=Int.mul_nonneg (a:=w) (b:=h) (by omega) (by omega); omega,by omega⟩
   have hl:(l.length:Int)=w*h:=by rw [wm] at q2; simpa using q2
   have hk:ofOk w h l.length=true:=by simp [ofOk,q1,hl]
   have hb:l.length≤16777216:=by omega
   rw [hk,zKo hk]
   simp only [ofIm,Px.zero,maxLen,wm]
   simp only [← hl,Int.toNat_natCast,Nat.add_zero]
   (repeat' (first | apply And.intro | intro)) <;> (first | (exact ⟨0,by omega,rfl,(zXk _ _).symm,(zXk _ _).symm,(zXk _ _).symm,(zXk _ _).symm,(zXk _ _).symm⟩) | (first | assumption | rfl | omega | (exact ⟨0,by omega,rfl,(zXk _ _).symm⟩) | exact jQX (by omega) | exact zYv (j:=1) (by omega) (by omega) | exact zYv (j:=2) (by omega) (by omega) | exact zYv (j:=3) (by omega) (by omega) | exact zYv (j:=4) (by omega) (by omega) | (rw [zZI]; omega) | (rw [zJY (by assumption)]; omega) | exact zKb (by assumption) (by assumption) (fun h=>(zZm h).1) | exact zKb (by assumption) (by assumption) (fun h=>(zZm h).2.1) | exact zKb (by assumption) (by assumption) (fun h=>(zZm h).2.2.1) | exact zKb (by assumption) (by assumption) (fun h=>(zZm h).2.2.2.1) | exact zKb (by assumption) (by assumption) (fun h=>(zZm h).2.2.2.2) | exact ⟨(),by decide,jJe (by assumption) (by assumption)⟩ | exact ⟨(),trivial⟩ | exact ⟨(),by decide⟩ | exact zJZ _ _ | (rw [jJe (by assumption) (by assumption)]; exact zJZ _ _) | exact jX1 (by assumption) (by assumption) (fun h=>(zZm h).1) (fun h=>(zZm h).2.1) (fun h=>(zZm h).2.2.1) (fun h=>(zZm h).2.2.2.1) (fun h=>(zZm h).2.2.2.2) | (rw [zJY (by omega)]; omega) | decide))
  ·refine no (fun e1 e2=>?_) (by simp [ofOk,q1])
   rw [e1,e2]; simp [Im.zero,Px.zero,Pl.none]
def pxR (p:Px):RV:=RV.agg [DV.int .u16 p.a,DV.int .u16 p.b,DV.int .u16 p.c,DV.int .u16 p.al,DV.int .u16 p.f]
theorem zUg (m:Im) (most:Int) (hu:m.isU):Ans prog 94 [imR m,RV.d (DV.int .u16 most)] (RV.d (DV.int .i64 (m.valid most))):=zWG ((m).w) ((m).h) ((m).so) (((m).c).a) (((m).c).b) (((m).c).c) (((m).c).al) (((m).c).f) (((m).p0).w) (((m).p0).h) (((m).p0).s) (((m).p0).n) (((m).p0).xs) (((m).p1).w) (((m).p1).h) (((m).p1).s) (((m).p1).n) (((m).p1).xs) (((m).p2).w) (((m).p2).h) (((m).p2).s) (((m).p2).n) (((m).p2).xs) (((m).p3).w) (((m).p3).h) (((m).p3).s) (((m).p3).n) (((m).p3).xs) (((m).p4).w) (((m).p4).h) (((m).p4).s) (((m).p4).n) (((m).p4).xs) most hu
theorem zWH (m:Im) (hu:m.isU):AnsO prog 61 [imR m] 37 5 m.pixels.length (pxs m.pixels):=zVT ((m).w) ((m).h) ((m).so) (((m).c).a) (((m).c).b) (((m).c).c) (((m).c).al) (((m).c).f) (((m).p0).w) (((m).p0).h) (((m).p0).s) (((m).p0).n) (((m).p0).xs) (((m).p1).w) (((m).p1).h) (((m).p1).s) (((m).p1).n) (((m).p1).xs) (((m).p2).w) (((m).p2).h) (((m).p2).s) (((m).p2).n) (((m).p2).xs) (((m).p3).w) (((m).p3).h) (((m).p3).s) (((m).p3).n) (((m).p3).xs) (((m).p4).w) (((m).p4).h) (((m).p4).s) (((m).p4).n) (((m).p4).xs)  hu
theorem zGS (m:Im) (hu:m.isU):AnsO prog 33 [imR m] 37 5 m.pixels.length (pxs m.pixels):=zUl ((m).w) ((m).h) ((m).so) (((m).c).a) (((m).c).b) (((m).c).c) (((m).c).al) (((m).c).f) (((m).p0).w) (((m).p0).h) (((m).p0).s) (((m).p0).n) (((m).p0).xs) (((m).p1).w) (((m).p1).h) (((m).p1).s) (((m).p1).n) (((m).p1).xs) (((m).p2).w) (((m).p2).h) (((m).p2).s) (((m).p2).n) (((m).p2).xs) (((m).p3).w) (((m).p3).h) (((m).p3).s) (((m).p3).n) (((m).p3).xs) (((m).p4).w) (((m).p4).h) (((m).p4).s) (((m).p4).n) (((m).p4).xs)  hu
theorem jQC (w h:Int) (n:Nat) (xs:List DV) (hx:zH1 n xs):AnsG prog 108 0 [AV.one (Cl.d (DV.int .i64 w)),AV.one (Cl.d (DV.int .i64 h)),AV.one (Cl.d (DV.sl n xs))] [] ⟨AV.tup [imV 0 (imOf w h (zQk xs)),AV.one (Cl.d (DV.bool (ofOk w h n)))],imB 34 (imOf w h (zQk xs)),true⟩:=zHD w h n xs hx
theorem zKd (w h:Int) (n:Nat) (xs:List DV) (hx:zH1 n xs):AnsG prog 48 0 [AV.one (Cl.d (DV.int .i64 w)),AV.one (Cl.d (DV.int .i64 h)),AV.one (Cl.d (DV.sl n xs))] [] ⟨AV.tup [imV 0 (imOf w h (zQk xs)),AV.one (Cl.d (DV.bool (ofOk w h n)))],imB 34 (imOf w h (zQk xs)),true⟩:=zW7 w h n xs hx
theorem zJK (w h:Int) (c:Px):Ans prog 22 [RV.d (DV.int .i64 w),RV.d (DV.int .i64 h),pxR c] (imR (zQi w h c)):=zGR w h c.a c.b c.c c.al c.f
def jVJ:Gam where
 pure:=fun f xs=>
  if f=14 then gZ0 xs else
  if f=47 then gZ16 xs else
  if f=22 then gZ11 xs else
  none
 modes:=fun f=>
  if f=48 then some ([true,true,true],0,5) else
  none
 proc:=fun f xs bs=>
  if f=48 then gZ17 xs bs else
  none
 iter:=fun f cs=>
  none
theorem zH4 (pw ph so mood:Int) (L:Nat) (xs:List DV) (x0 y0 x1 y1 most:Int) (hx:Is5 L xs) (hc:1≤x1 - x0∧x1 - x0≤100∧1≤y1 - y0∧y1 - y0≤100):Ans prog 21 [RV.agg [dJ pw,dJ ph,dJ so,dJ mood,dS L xs],RV.agg [dJ x0,dJ y0,dJ x1,dJ y1],RV.d (dK most)] (RV.agg [dJ ((zQT pw ph so mood L xs x0 y0 x1 y1 most).w),dJ ((zQT pw ph so mood L xs x0 y0 x1 y1 most).h),dQ ((zQT pw ph so mood L xs x0 y0 x1 y1 most).so),dK (((zQT pw ph so mood L xs x0 y0 x1 y1 most).c).a),dK (((zQT pw ph so mood L xs x0 y0 x1 y1 most).c).b),dK (((zQT pw ph so mood L xs x0 y0 x1 y1 most).c).c),dK (((zQT pw ph so mood L xs x0 y0 x1 y1 most).c).al),dK (((zQT pw ph so mood L xs x0 y0 x1 y1 most).c).f),dJ (((zQT pw ph so mood L xs x0 y0 x1 y1 most).p0).w),dJ (((zQT pw ph so mood L xs x0 y0 x1 y1 most).p0).h),dJ (((zQT pw ph so mood L xs x0 y0 x1 y1 most).p0).s),dS (((zQT pw ph so mood L xs x0 y0 x1 y1 most).p0).n) (((zQT pw ph so mood L xs x0 y0 x1 y1 most).p0).xs),dJ (((zQT pw ph so mood L xs x0 y0 x1 y1 most).p1).w),dJ (((zQT pw ph so mood L xs x0 y0 x1 y1 most).p1).h),dJ (((zQT pw ph so mood L xs x0 y0 x1 y1 most).p1).s),dS (((zQT pw ph so mood L xs x0 y0 x1 y1 most).p1).n) (((zQT pw ph so mood L xs x0 y0 x1 y1 most).p1).xs),dJ (((zQT pw ph so mood L xs x0 y0 x1 y1 most).p2).w),dJ (((zQT pw ph so mood L xs x0 y0 x1 y1 most).p2).h),dJ (((zQT pw ph so mood L xs x0 y0 x1 y1 most).p2).s),dS (((zQT pw ph so mood L xs x0 y0 x1 y1 most).p2).n) (((zQT pw ph so mood L xs x0 y0 x1 y1 most).p2).xs),dJ (((zQT pw ph so mood L xs x0 y0 x1 y1 most).p3).w),dJ (((zQT pw ph so mood L xs x0 y0 x1 y1 most).p3).h),dJ (((zQT pw ph so mood L xs x0 y0 x1 y1 most).p3).s),dS (((zQT pw ph so mood L xs x0 y0 x1 y1 most).p3).n) (((zQT pw ph so mood L xs x0 y0 x1 y1 most).p3).xs),dJ (((zQT pw ph so mood L xs x0 y0 x1 y1 most).p4).w),dJ (((zQT pw ph so mood L xs x0 y0 x1 y1 most).p4).h),dJ (((zQT pw ph so mood L xs x0 y0 x1 y1 most).p4).s),dS (((zQT pw ph so mood L xs x0 y0 x1 y1 most).p4).n) (((zQT pw ph so mood L xs x0 y0 x1 y1 most).p4).xs)]):=
 zQj (Γ:=jVJ) Ann.leaf zQy Tryz.func21 rfl (Nat.le_of_ble_eq_true rfl) fun hwf=>by
  refine Eq.mpr (by kernel_rfl:_=(let g:=((modS so (2:Int))==0); let p:=(wK (Int.tdiv pw (5:Int))); let k:=(modS p (3:Int)); let q:=[dJ mood,dS L xs]; let c:=(wK (x1 - x0)); let d:=(wK (y1 - y0)); let h:=(wK (c*d)); let l:=h.toNat; let a:=(pxs (zQC mood L xs most h.toNat)); let m:=(imOf c d (zQk a)); let r:=(Ans prog 14 [rJ so,rJ 2] (rJ (modS so (2:Int)))); let s:=(dJ c); let t:=(dJ d); let u:=(imR (zQi c d ⟨(nAt a 0),(nAt a 1),(nAt a 2),(nAt a 3),(nAt a 4)⟩)); let i:=(imR (zQT pw ph so mood L xs x0 y0 x1 y1 most)); let e:=(wK ((1:Int)+(modS pw (5:Int)))); let f:=(wK ((1:Int)+(modS ph (4:Int)))); let j:=(wK (e*f)); let n:=j.toNat; let b:=(pxs (zQC mood L xs most j.toNat)); let o:=(imOf e f (zQk b)); let v:=(dJ e); let w:=(dJ f); let x:=(imR (zQi e f ⟨(nAt b 0),(nAt b 1),(nAt b 2),(nAt b 3),(nAt b 4)⟩)); tU5 ((Ans prog 14 [rJ pw,rJ 5] (rJ (modS pw (5:Int))))∧tU3 ((Ans prog 14 [rJ ph,rJ 4] (rJ (modS ph (4:Int))))∧tU3 ((true=true)∧tU2 (((5:Int)≠0)∧(Ans prog 14 [rJ p,rJ 3] (rJ k))∧True∧(((k==0)=true→tU4 (tU8 ((true=true)∧tU6 ((AnsO prog 47 [RV.agg q,rJ h,RV.d (dK most)] 37 5 l a)∧tU3 (r∧True∧((g=true→tU3 ((0≤(0:Int)∧(0:Int) < (h.toNat:Int))∧((a[0]?=some (dK (nAt a 0)))∧(a[1]?=some (dK (nAt a 1)))∧(a[2]?=some (dK (nAt a 2)))∧(a[3]?=some (dK (nAt a 3)))∧(a[4]?=some (dK (nAt a 4)))∧True)∧(Ans prog 22 [RV.d s,RV.d t,RV.agg [dK (nAt a 0),dK (nAt a 1),dK (nAt a 2),dK (nAt a 3),dK (nAt a 4)]] u)∧True∧u=i))∧(g=false→tU3 ((AnsG prog 48 0 [AV.one (Cl.d s),AV.one (Cl.d t),AV.one (Cl.d (dS l a))] [] ⟨AV.tup [(imV 0 m),AV.one (Cl.d (dQ (ofOk c d l)))],(imB 34 m),true⟩)∧tU8 ((imR m)=i)))))))))∧((k==0)=false→tU6 ((AnsO prog 47 [RV.agg q,rJ j,RV.d (dK most)] 37 5 n b)∧tU3 (r∧True∧((g=true→tU3 ((0≤(0:Int)∧(0:Int) < (j.toNat:Int))∧((b[0]?=some (dK (nAt b 0)))∧(b[1]?=some (dK (nAt b 1)))∧(b[2]?=some (dK (nAt b 2)))∧(b[3]?=some (dK (nAt b 3)))∧(b[4]?=some (dK (nAt b 4)))∧True)∧(Ans prog 22 [RV.d v,RV.d w,RV.agg [dK (nAt b 0),dK (nAt b 1),dK (nAt b 2),dK (nAt b 3),dK (nAt b 4)]] x)∧True∧x=i))∧(g=false→tU3 ((AnsG prog 48 0 [AV.one (Cl.d v),AV.one (Cl.d w),AV.one (Cl.d (dS n b))] [] ⟨AV.tup [(imV 0 o),AV.one (Cl.d (dQ (ofOk e f n)))],(imB 34 o),true⟩)∧tU8 ((imR o)=i)))))))))))))) ?_
  delta tU2 tU3 tU4 tU5 tU6 tU8 dJ dK dQ wK dS rJ
  simp only [sS,zQH]
  have go:∀ W H:Int,(1≤W∧W≤100)→(1≤H∧H≤100)→0 < (IntKind.wrap .i64 (W*H)).toNat∧IntKind.wrap .i64 (W*H)≤16777216:=fun W H a b=>by have:=zGW a b; omega
  have b5:=@zZr pw 5 (by omega) (by omega)
  have b4:=@zZr ph 4 (by omega) (by omega)
  refine ⟨by omega,fun q1=>?_,fun q1=>?_⟩
  ·have hW:zX5 pw 5 x0 x1 pw=IntKind.wrap .i64 (x1 - x0):=by unfold zX5; rw [if_pos (by simpa using q1)]
   have hH:zX5 ph 4 y0 y1 pw=IntKind.wrap .i64 (y1 - y0):=by unfold zX5; rw [if_pos (by simpa using q1)]
   have gi:=zK0 pw ph so mood L xs x0 y0 x1 y1 most _ _ hW hH
   have cW:1≤IntKind.wrap .i64 (x1 - x0)∧IntKind.wrap .i64 (x1 - x0)≤100:=by rw [IntWalk.i64_in _ ⟨by omega,by omega⟩]; omega
   have cH:1≤IntKind.wrap .i64 (y1 - y0)∧IntKind.wrap .i64 (y1 - y0)≤100:=by rw [IntWalk.i64_in _ ⟨by omega,by omega⟩]; omega
   generalize IntKind.wrap .i64 (x1 - x0)=W at *
   generalize IntKind.wrap .i64 (y1 - y0)=H at *
   obtain ⟨g1,g2⟩:=go W H cW cH
   have pn:=zVL mood L xs (IntKind.wrap .i64 (W*H)) most hx g2
   refine ⟨pn,fun q2=>?_,fun q2=>?_⟩
   ·have hs:modS so 2=0:=by simpa using q2
    rw [if_pos hs] at gi
    obtain ⟨v0,v1,v2,v3,v4⟩:=zVD (mood:=mood) (L:=L) (xs:=xs) (most:=most) g1
    have f0:=zJb (mood:=mood) (L:=L) (xs:=xs) (most:=most) g1 0 (by omega)
    have f1:=zJb (mood:=mood) (L:=L) (xs:=xs) (most:=most) g1 1 (by omega)
    have f2:=zJb (mood:=mood) (L:=L) (xs:=xs) (most:=most) g1 2 (by omega)
    have f3:=zJb (mood:=mood) (L:=L) (xs:=xs) (most:=most) g1 3 (by omega)
    have f4:=zJb (mood:=mood) (L:=L) (xs:=xs) (most:=most) g1 4 (by omega)
    have g3:0 < IntKind.wrap .i64 (W*H):=by omega
    rw [gi]
    simp only [v0,v1,v2,v3,v4] at f0 f1 f2 f3 f4 ⊢
    exact ⟨⟨by omega,by omega⟩,⟨f0,f1,f2,f3,f4⟩,zJK W H ⟨_,_,_,_,_⟩,trivial⟩
   ·have hs:¬ modS so 2=0:=by simpa using q2
    rw [if_neg hs] at gi
    rw [gi]
    have po:=zKd W H _ (pxs (zQC mood L xs most (IntKind.wrap .i64 (W*H)).toNat)) (zUS _ _ _ _ rfl)
    simp only [zZd] at po ⊢
    exact ⟨po,trivial⟩
  ·have hW:zX5 pw 5 x0 x1 pw=IntKind.wrap .i64 (1+modS pw 5):=by unfold zX5; rw [if_neg (by simpa using q1)]
   have hH:zX5 ph 4 y0 y1 pw=IntKind.wrap .i64 (1+modS ph 4):=by unfold zX5; rw [if_neg (by simpa using q1)]
   have gi:=zK0 pw ph so mood L xs x0 y0 x1 y1 most _ _ hW hH
   have cW:1≤IntKind.wrap .i64 (1+modS pw 5)∧IntKind.wrap .i64 (1+modS pw 5)≤100:=by rw [IntWalk.i64_in _ ⟨by omega,by omega⟩]; omega
   have cH:1≤IntKind.wrap .i64 (1+modS ph 4)∧IntKind.wrap .i64 (1+modS ph 4)≤100:=by rw [IntWalk.i64_in _ ⟨by omega,by omega⟩]; omega
   generalize IntKind.wrap .i64 (1+modS pw 5)=W at *
   generalize IntKind.wrap .i64 (1+modS ph 4)=H at *
   obtain ⟨g1,g2⟩:=go W H cW cH
   have pn:=zVL mood L xs (IntKind.wrap .i64 (W*H)) most hx g2
   refine ⟨pn,fun q2=>?_,fun q2=>?_⟩
   ·have hs:modS so 2=0:=by simpa using q2
    rw [if_pos hs] at gi
    obtain ⟨v0,v1,v2,v3,v4⟩:=zVD (mood:=mood) (L:=L) (xs:=xs) (most:=most) g1
    have f0:=zJb (mood:=mood) (L:=L) (xs:=xs) (most:=most) g1 0 (by omega)
    have f1:=zJb (mood:=mood) (L:=L) (xs:=xs) (most:=most) g1 1 (by omega)
    have f2:=zJb (mood:=mood) (L:=L) (xs:=xs) (most:=most) g1 2 (by omega)
    have f3:=zJb (mood:=mood) (L:=L) (xs:=xs) (most:=most) g1 3 (by omega)
    have f4:=zJb (mood:=mood) (L:=L) (xs:=xs) (most:=most) g1 4 (by omega)
    have g3:0 < IntKind.wrap .i64 (W*H):=by omega
    rw [gi]
    simp only [v0,v1,v2,v3,v4] at f0 f1 f2 f3 f4 ⊢
    exact ⟨⟨by omega,by omega⟩,⟨f0,f1,f2,f3,f4⟩,zJK W H ⟨_,_,_,_,_⟩,trivial⟩
   ·have hs:¬ modS so 2=0:=by simpa using q2
    rw [if_neg hs] at gi
    rw [gi]
    have po:=zKd W H _ (pxs (zQC mood L xs most (IntKind.wrap .i64 (W*H)).toNat)) (zUS _ _ _ _ rfl)
    simp only [zZd] at po ⊢
    exact ⟨po,trivial⟩
def jVI:Gam where
 pure:=fun f xs=>
  if f=14 then gZ0 xs else
  if f=18 then gZ14 xs else
  if f=21 then (match xs with | [.agg [.int _ pw,.int _ ph,.int _ so,.int _ mood,.sl L xs],.agg [.int _ x0,.int _ y0,.int _ x1,.int _ y1],.d (.int _ most)]=>let a:=(zQT pw ph so mood L xs x0 y0 x1 y1 most); some (RV.agg [DV.int .i64 a.w,DV.int .i64 a.h,DV.bool a.so,DV.int .u16 a.c.a,DV.int .u16 a.c.b,DV.int .u16 a.c.c,DV.int .u16 a.c.al,DV.int .u16 a.c.f,DV.int .i64 a.p0.w,DV.int .i64 a.p0.h,DV.int .i64 a.p0.s,DV.sl a.p0.n a.p0.xs,DV.int .i64 a.p1.w,DV.int .i64 a.p1.h,DV.int .i64 a.p1.s,DV.sl a.p1.n a.p1.xs,DV.int .i64 a.p2.w,DV.int .i64 a.p2.h,DV.int .i64 a.p2.s,DV.sl a.p2.n a.p2.xs,DV.int .i64 a.p3.w,DV.int .i64 a.p3.h,DV.int .i64 a.p3.s,DV.sl a.p3.n a.p3.xs,DV.int .i64 a.p4.w,DV.int .i64 a.p4.h,DV.int .i64 a.p4.s,DV.sl a.p4.n a.p4.xs]) | _=>none) else
  if f=23 then gZ19 xs else
  if f=20 then gZ5 xs else
  if f=19 then gZ18 xs else
  if f=22 then gZ11 xs else
  none
 modes:=fun f=>
  none
 proc:=fun f xs bs=>
  none
 iter:=fun f cs=>
  none
theorem zH3 (s:Scn) (hs:s.ok):AnsG prog 9 0 [AV.agg [cJ (s.b),cJ (s.x),cJ (s.y),cJ (s.w),cJ (s.h),cJ (s.tw),cJ (s.th),Cl.d (dS s.on s.oxs),Cl.d (dS s.pn s.pxs),Cl.d (dS s.rn s.rxs)]] [] ⟨AV.agg [cJ (((s).bits)),cJ (((s).c.a)),cJ (((s).c.b)),cJ (((s).c.c)),cJ (((s).c.d)),cJ (((s).gtw)),cJ (((s).gth)),Cl.ref 0 ((s).ord.length),Cl.ref 1 ((s).ims.length),Cl.ref 2 ((s).ops.length)],[Bx.row 3 1 (is (s).ord),Bx.row 43 28 (ims (s).ims),Bx.row 51 12 (ops (s).ops)],false⟩:=
 zQz (Γ:=jVI) (let d:=(s.run (min s.rn 9)); let e:=(1,AV.one (Cl.ptr 1 0)); let a:=(4,AV.one (Cl.ptr 4 0)); let b:=(2,AV.one (Cl.ptr 2 0)); let f:=(3,AV.one (cK s.most)); let u:=[e,b,f,a]; let g:=(1,bC [cJ s.b,cJ s.x,cJ s.y,cJ s.w,cJ s.h,cJ s.tw,cJ s.th,Cl.d (dS s.on s.oxs),Cl.d (dS s.pn s.pxs),Cl.d (dS s.rn s.rxs)]); let c:=(2,bC [cJ 0,cJ 0,cJ 0,cJ 0,cJ 0,cJ 0,cJ 0,Cl.nil,Cl.nil,Cl.nil]); let v:=[g,c,(4,bC [cJ s.bits,cJ 0,cJ 0,cJ 0,cJ 0,cJ 0,cJ 0,Cl.nil,Cl.nil,Cl.nil])]; let n:=(7,aJ s.gw); let q:=(8,aJ s.gh); let r:=[e,b,f,a,n,q]; let h:=(7000,Bx.row 3 1 (is s.ord)); let i:=(5000,Bx.row 43 28 (ims s.ims)); let w:=(13,AV.one (Cl.ref 5002 d.2.length)); let x:=(5002,Bx.row 51 12 (ops d.2)); let l:=fun (k:Nat)=>(13,AV.one (Cl.ref 5002 (s.run k).2.length)); let m:=fun (k:Nat)=>(14,aJ (k:Int)); let y:=fun (k:Nat)=>(4,bC [cJ s.bits,cJ s.c.a,cJ s.c.b,cJ s.c.c,cJ s.c.d,cJ s.gtw,cJ s.gth,Cl.ref 7000 s.ord.length,Cl.ref 5000 s.ims.length,Cl.ref 5001 (s.run k).1.length]); let z:=fun (k:Nat)=>(5002,Bx.row 51 12 (ops (s.run k).2)); let A:=fun (k:Nat)=>(5001,Bx.row 51 12 (ops (s.run k).1)); let t:=fun (k:Nat)=>[g,c,(y k),(z k),h,i,(A k)]; let B:=fun (k:Nat)=>(15,aJ (modS (nAt s.rxs ((k:Int).toNat*11+0)) (8:Int))); (Ann.seq Ann.leaf (Ann.seq Ann.leaf (Ann.seq Ann.leaf (Ann.cut ⟨Unit,fun u1:Unit=>True,fun u1:Unit=>⟨u,v⟩,fun u1:Unit=>0⟩ Ann.leaf fun u1=>(Ann.seq Ann.leaf (Ann.cut ⟨Unit,fun u2:Unit=>True,fun u2:Unit=>⟨[e,b,f,a,(5,aJ s.c.a),(6,aJ s.c.b),n,q],v⟩,fun u2:Unit=>0⟩ Ann.leaf fun u2=>(Ann.seq Ann.leaf (Ann.cut ⟨Unit,fun u3:Unit=>True,fun u3:Unit=>⟨r,[g,c,(4,bC [cJ s.bits,cJ s.c.a,cJ s.c.b,cJ s.c.c,cJ s.c.d,cJ s.gtw,cJ s.gth,Cl.nil,Cl.nil,Cl.nil])]⟩,fun u3:Unit=>0⟩ Ann.leaf fun u3=>(Ann.seq Ann.leaf (Ann.cut ⟨Unit,fun u4:Unit=>True,fun u4:Unit=>⟨r,[g,c,(4,bC [cJ s.bits,cJ s.c.a,cJ s.c.b,cJ s.c.c,cJ s.c.d,cJ s.gtw,cJ s.gth,Cl.ref 7000 s.ord.length,Cl.nil,Cl.nil]),h]⟩,fun u4:Unit=>0⟩ Ann.leaf fun u4=>(Ann.cut ⟨Unit,fun u6:Unit=>True,fun u6:Unit=>⟨r,[g,c,(4,bC [cJ s.bits,cJ s.c.a,cJ s.c.b,cJ s.c.c,cJ s.c.d,cJ s.gtw,cJ s.gth,Cl.ref 7000 s.ord.length,Cl.ref 5000 (s.pics (min s.pn 4)).length,Cl.nil]),h,(5000,Bx.row 43 28 (ims (s.pics (min s.pn 4))))]⟩,fun u6:Unit=>0⟩ (Ann.seq Ann.leaf (Ann.loop ⟨Nat,fun p=>p≤min s.pn 4,fun p=>⟨[e,b,f,a,n,q,(12,aJ (p:Int))],[g,c,(4,bC [cJ s.bits,cJ s.c.a,cJ s.c.b,cJ s.c.c,cJ s.c.d,cJ s.gtw,cJ s.gth,Cl.ref 7000 s.ord.length,Cl.ref 5000 p,Cl.nil]),h,(5000,Bx.row 43 28 (ims (s.pics p)))]⟩,fun p=>min s.pn 4 - p⟩ fun p=>Ann.leaf)) fun u6=>(Ann.cut ⟨Unit,fun u5:Unit=>True,fun u5:Unit=>⟨u,[g,c,(4,bC [cJ s.bits,cJ s.c.a,cJ s.c.b,cJ s.c.c,cJ s.c.d,cJ s.gtw,cJ s.gth,Cl.ref 7000 s.ord.length,Cl.ref 5000 s.ims.length,Cl.nil]),h,i]⟩,fun u5:Unit=>0⟩ Ann.leaf fun u5=>(Ann.seq Ann.leaf (Ann.cut ⟨Unit,fun u7:Unit=>True,fun u7:Unit=>⟨[b,a,w],[c,(4,bC [cJ s.bits,cJ s.c.a,cJ s.c.b,cJ s.c.c,cJ s.c.d,cJ s.gtw,cJ s.gth,Cl.ref 7000 s.ord.length,Cl.ref 5000 s.ims.length,Cl.ref 5001 d.1.length]),x,h,i,(5001,Bx.row 51 12 (ops d.1))]⟩,fun u7:Unit=>0⟩ (Ann.seq Ann.leaf (Ann.loop ⟨Nat,fun k=>k≤min s.rn 9,fun k=>⟨[e,b,f,a,(l k),(m k)],(t k)⟩,fun k=>min s.rn 9 - k⟩ fun k=>(Ann.seq Ann.leaf (Ann.seq (Ann.seq Ann.leaf (Ann.seq Ann.leaf (Ann.cut ⟨Unit,fun u8:Unit=>¬ (modS (rwAt s.rxs (k*11)).k 8=0∧0 < (s.run k).2.length),fun u8:Unit=>⟨[e,b,f,a,(l k),(m k),(B k),(16,aJ (((s.run k).2.length:Nat):Int))],(t k)⟩,fun u8:Unit=>0⟩ Ann.leaf fun u8=>(Ann.cut ⟨Bool,fun fr:Bool=>fr=ctxB (s.run k).2,fun fr:Bool=>⟨[e,b,f,a,(l k),(m k),(B k),(17,AV.one (Cl.d (dQ fr)))],(t k)⟩,fun fr:Bool=>0⟩ Ann.leaf fun fr=>(Ann.cut ⟨Oq,fun o:Oq=>o=gOp (rwAt s.rxs (k*11)) (decide (modS (rwAt s.rxs (k*11)).k 8 < 3)) s.ims.length s.c (ctxB (s.run k).2) s.most,fun o:Oq=>⟨[e,b,f,a,(l k),(m k),(18,AV.one (Cl.ptr 18 0))],[g,c,(y k),(z k),(18,bC [cJ o.kind,cJ o.image,cJ o.x,cJ o.y,cJ o.mask,cJ o.mx,cJ o.my,cK o.opac,cJ o.oper,cJ o.mode,Cl.d (dQ o.iso),Cl.d (dQ o.kno)]),h,i,(A k)]⟩,fun o:Oq=>0⟩ Ann.leaf fun o=>Ann.leaf))))) Ann.leaf)))) fun u7=>(Ann.seq (Ann.seq Ann.leaf (Ann.loop ⟨Nat,fun j=>j≤d.2.length,fun j=>⟨[b,a,w,(19,aJ (j:Int))],[c,(4,bC [cJ s.bits,cJ s.c.a,cJ s.c.b,cJ s.c.c,cJ s.c.d,cJ s.gtw,cJ s.gth,Cl.ref 7000 s.ord.length,Cl.ref 5000 s.ims.length,Cl.ref 5001 (d.1++List.replicate j popO).length]),x,h,i,(5001,Bx.row 51 12 (ops (d.1++List.replicate j popO)))]⟩,fun j=>d.2.length - j⟩ fun j=>Ann.leaf)) Ann.leaf)))))))))))))))) zQy Tryz.func9 rfl (Nat.le_of_ble_eq_true rfl) rfl fun hwf hbx=>by
  refine Eq.mpr (by kernel_rfl:_=(let U:=(s.ims.length:Int); let B:=(cntS s.c s.gtw s.gth); let t:=(ims s.ims=ims s.ims); let u:=(s.pics (min s.pn 4)); let y2:=(((u.length:Nat):Int)==0); let e:=(is s.ord=is s.ord); let b:=(s.run (min s.rn 9)); let y3:=((b.2.length:Nat):Int); let E:=([dJ 3,dJ 0,dJ 0,dJ 0,dJ 0,dJ 0,dJ 0,dK 0,dJ 0,dJ 0,dQ false,dQ false]); let y4:=((0=0)∧(0=0)∧(dK (gMax s.b)=dK s.most)∧(0=0)∧True); let y5:=[dJ s.b,dJ s.x,dJ s.y,dJ s.w,dJ s.h,dJ s.tw,dJ s.th,dS s.on s.oxs,dS s.pn s.pxs,dS s.rn s.rxs]; let d:=(y5=y5); let a:=(dJ 0=dJ 0); let c:=(a∧a∧a∧a∧a∧a∧a∧tU3 True); let f:=(dK s.most=dK s.most); let g:=(dJ s.bits=dJ s.bits); let V:=(dJ s.gw=dJ s.gw); let W:=(dJ s.gh=dJ s.gh); let X:=((0=0)∧(0=0)∧f∧(0=0)∧V∧W∧True); let h:=(dJ s.c.a=dJ s.c.a); let i:=(dJ s.c.b=dJ s.c.b); let Y:=[dJ s.c.a,dJ s.c.b,dJ s.c.c,dJ s.c.d]; let y6:=(wK (B.1*B.2.1)); let F:=(zJq (ints s.oxs) y6); let l:=(dJ s.c.c=dJ s.c.c); let m:=(dJ s.c.d=dJ s.c.d); let n:=(dJ s.gtw=dJ s.gtw); let q:=(dJ s.gth=dJ s.gth); let r:=(s.ord.length=s.ord.length); let y7:=fun (p:Nat)=>(X∧(d∧c∧(g∧h∧i∧l∧m∧n∧q∧r∧(p=u.length)∧True∧True)∧e∧(ims (s.pics p)=ims u)∧True)); let y8:=(Im.ds (zQi s.gw s.gh ⟨s.most,(0:Int),(0:Int),s.most,s.most⟩)); let y9:=((0=0)∧(0=0)∧f∧(0=0)∧True); let y:=(s.ims.length=s.ims.length); let x0:=fun (k:Nat)=>(0≤(k:Int)∧(k:Int) < (s.rn:Int)∧(k:Int).toNat*11 < s.rxs.length); let Z:=fun (k:Nat)=>fun (k':Nat)=>(min s.rn 9 - k' < min s.rn 9 - k); let z0:=fun (k:Nat)=>fun (k':Nat)=>(dJ (wK ((k:Int)+1))=dJ (k':Int)); let z1:=fun (k:Nat)=>fun (k':Nat)=>(g∧h∧i∧l∧m∧n∧q∧r∧y∧((s.run k).1.length+1=(s.run k').1.length)∧True); let C:=fun (k:Nat)=>((s.run k).2.length=(s.run k).2.length); let D:=fun (k:Nat)=>(dJ (k:Int)=dJ (k:Int)); let G:=fun (k:Nat)=>(dJ (modS (nAt s.rxs ((k:Int).toNat*11+0)) (8:Int))=dJ (modS (nAt s.rxs ((k:Int).toNat*11+0)) (8:Int))); let x1:=fun (k:Nat)=>(g∧h∧i∧l∧m∧n∧q∧r∧y∧((s.run k).1.length=(s.run k).1.length)∧True); let x2:=fun (k:Nat)=>(ops (s.run k).2=ops (s.run k).2); let x3:=fun (k:Nat)=>(ops (s.run k).1=ops (s.run k).1); let H:=fun (k:Nat)=>(d∧c∧(x1 k)∧(x2 k)∧e∧t∧(x3 k)∧True); let x4:=fun (k:Nat)=>(((0=0)∧(0=0)∧f∧(0=0)∧(C k)∧(D k)∧(G k)∧(dJ (((s.run k).2.length:Nat):Int)=dJ (((s.run k).2.length:Nat):Int))∧True)∧(H k)); let x5:=fun (k:Nat)=>(0≤wK ((((s.run k).2.length:Nat):Int) - 1)∧wK ((((s.run k).2.length:Nat):Int) - 1) < (((s.run k).2.length:Nat):Int)); let x6:=fun (k:Nat)=>fun (o:Oq)=>(o=gOp (rwAt s.rxs (k*11)) (decide (modS (rwAt s.rxs (k*11)).k 8 < 3)) s.ims.length s.c (ctxB (s.run k).2) s.most); let x7:=fun (k:Nat)=>fun (k':Nat)=>fun (o:Oq)=>((ops (s.run k).1)++(Oq.cells o)=ops (s.run k').1); let x8:=fun (k:Nat)=>(((0=0)∧(0=0)∧((s.run k).2.length=b.2.length)∧True)∧(c∧(g∧h∧i∧l∧m∧n∧q∧r∧y∧((s.run k).1.length=b.1.length)∧True)∧(ops (s.run k).2=ops b.2)∧e∧t∧(ops (s.run k).1=ops b.1)∧True)); let x9:=fun (j:Nat)=>(j≤b.2.length); let w0:=(b.2.length=b.2.length); let w1:=(ops b.2=ops b.2); tU4 ((Ans prog 18 [rJ s.b] (RV.d (dK (gMax s.b))))∧tU4 ((tU2 (((decide ((gMax s.b) > 255))=true→tU2 (∃ u1:Unit,True∧(y4∧(d∧c∧((dJ 16=dJ s.bits)∧a∧a∧a∧a∧a∧a∧tU3 True)∧True))))∧((decide ((gMax s.b) > 255))=false→∃ u1:Unit,True∧(y4∧(d∧c∧((dJ 8=dJ s.bits)∧a∧a∧a∧a∧a∧a∧tU3 True)∧True)))))∧∀ u1:Unit,True→tU2 ((Ans prog 14 [rJ s.x,rJ 13] (rJ (modS s.x (13:Int))))∧tU3 ((Ans prog 14 [rJ s.y,rJ 13] (rJ (modS s.y (13:Int))))∧tU3 ((true=true)∧(tU2 ((Ans prog 14 [rJ s.w,rJ 5] (rJ (modS s.w (5:Int))))∧tU3 ((Ans prog 14 [rJ s.h,rJ 4] (rJ (modS s.h (4:Int))))∧tU3 ((true=true)∧∃ u2:Unit,True∧(((0=0)∧(0=0)∧f∧(0=0)∧(dJ (wK ((modS s.x (13:Int)) - 6))=dJ s.c.a)∧(dJ (wK ((modS s.y (13:Int)) - 6))=dJ s.c.b)∧(dJ (wK ((1:Int)+(modS s.w (5:Int))))=dJ s.gw)∧(dJ (wK ((1:Int)+(modS s.h (4:Int))))=dJ s.gh)∧True)∧(d∧c∧(g∧a∧a∧a∧a∧a∧a∧tU3 True)∧True))))))∧∀ u2:Unit,True→tU3 (tU8 ((tU3 ((Ans prog 14 [rJ s.tw,rJ s.gw] (rJ (modS s.tw s.gw)))∧tU4 ((Ans prog 14 [rJ s.th,rJ s.gh] (rJ (modS s.th s.gh)))∧tU5 ((true=true)∧∃ u3:Unit,True∧(X∧(d∧c∧(g∧h∧i∧(dJ (wK (s.c.a+s.gw))=dJ s.c.c)∧(dJ (wK (s.c.b+s.gh))=dJ s.c.d)∧(dJ (wK ((1:Int)+(modS s.tw s.gw)))=dJ s.gtw)∧(dJ (wK ((1:Int)+(modS s.th s.gh)))=dJ s.gth)∧tU3 True)∧True))))))∧∀ u3:Unit,True→tU6 ((Ans prog 19 [RV.agg Y,rJ s.gtw,rJ s.gth] (RV.tup [rJ B.1,rJ B.2.1,RV.d (dQ B.2.2)]))∧tU7 ((tU5 ((AnsO prog 20 [RV.d (dS s.on s.oxs),rJ y6] 3 1 F.length (is F))∧tU2 (∃ u4:Unit,True∧(X∧(d∧c∧(g∧h∧i∧l∧m∧n∧q∧(F.length=s.ord.length)∧tU2 True)∧(is F=is s.ord)∧True)))))∧∀ u4:Unit,True→(True∧((∃ p:Nat,(p≤min s.pn 4)∧(((0=0)∧(0=0)∧f∧(0=0)∧V∧W∧(dJ 0=dJ (p:Int))∧True)∧(d∧c∧(g∧h∧i∧l∧m∧n∧q∧r∧(0=p)∧True∧True)∧e∧([]=ims (s.pics p))∧True)))∧∀ p:Nat,let w2:=(decide ((p:Int) < (s.pn:Int))); let z2:=(nAt s.pxs ((p:Int).toNat*5)); let z3:=(nAt s.pxs ((p:Int).toNat*5+1)); let z4:=(nAt s.pxs ((p:Int).toNat*5+1+1)); let z5:=(nAt s.pxs ((p:Int).toNat*5+1+1+1)); let z:=((p:Int).toNat*5+1+1+1+1); let z6:=(zQT z2 z3 z4 z5 (lAt s.pxs z) (cAt s.pxs z) s.c.a s.c.b s.c.c s.c.d s.most); (p≤min s.pn 4)→tU6 ((w2=true→tU3 (((decide ((p:Int) < 4))=true→tU5 ((0≤(p:Int)∧(p:Int) < (s.pn:Int)∧(p:Int).toNat*5 < s.pxs.length)∧((s.pxs[(p:Int).toNat*5]?=some (dJ z2))∧(s.pxs[(p:Int).toNat*5+1]?=some (dJ z3))∧(s.pxs[(p:Int).toNat*5+1+1]?=some (dJ z4))∧(s.pxs[(p:Int).toNat*5+1+1+1]?=some (dJ z5))∧(s.pxs[(p:Int).toNat*5+1+1+1+1]?=some (dS (lAt s.pxs z) (cAt s.pxs z)))∧True)∧tU3 ((Ans prog 21 [RV.agg [dJ z2,dJ z3,dJ z4,dJ z5,dS (lAt s.pxs z) (cAt s.pxs z)],RV.agg Y,RV.d (dK s.most)] (imR z6))∧True∧(zZk 28 272 p 1 (ims (s.pics p)) (Im.ds z6))∧tU2 ((true=true)∧tU3 (∃ p':Nat,(p'≤min s.pn 4)∧(min s.pn 4 - p' < min s.pn 4 - p)∧(((0=0)∧(0=0)∧f∧(0=0)∧V∧W∧(dJ (wK ((p:Int)+1))=dJ (p':Int))∧True)∧(d∧c∧(g∧h∧i∧l∧m∧n∧q∧r∧(p+1=p')∧True∧True)∧e∧((ims (s.pics p))++(Im.ds z6)=ims (s.pics p'))∧True)))))))∧((decide ((p:Int) < 4))=false→∃ u6:Unit,True∧(y7 p))))∧(w2=(!true)→True∧∃ u6:Unit,True∧(y7 p)))))∧∀ u6:Unit,True→(tU2 ((u.length≤maxLen)∧True∧((y2=true→True∧tU8 ((Ans prog 22 [rJ s.gw,rJ s.gh,RV.agg [dK s.most,dK 0,dK 0,dK s.most,dK s.most]] (imR (zQi s.gw s.gh ⟨s.most,(0:Int),(0:Int),s.most,s.most⟩)))∧True∧(zZk 28 272 u.length 1 (ims u) y8)∧tU2 ((true=true)∧∃ u5:Unit,True∧(y9∧(d∧c∧(g∧h∧i∧l∧m∧n∧q∧r∧(u.length+1=s.ims.length)∧True∧True)∧e∧((ims u)++y8=ims s.ims)∧True)))))∧(y2=false→∃ u5:Unit,True∧(y9∧(d∧c∧(g∧h∧i∧l∧m∧n∧q∧r∧(u.length=s.ims.length)∧True∧True)∧e∧(ims u=ims s.ims)∧True))))))∧∀ u5:Unit,True→True∧(True∧((∃ k:Nat,(k≤min s.rn 9)∧(((0=0)∧(0=0)∧f∧(0=0)∧(0=(s.run k).2.length)∧(dJ 0=dJ (k:Int))∧True)∧(d∧c∧(g∧h∧i∧l∧m∧n∧q∧r∧y∧(0=(s.run k).1.length)∧True)∧([]=ops (s.run k).2)∧e∧t∧([]=ops (s.run k).1)∧True)))∧∀ k:Nat,let w3:=(decide ((k:Int) < (s.rn:Int))); let z7:=(ops (s.run k).1); let z8:=(¬ (modS (rwAt s.rxs (k*11)).k 8=0∧0 < (s.run k).2.length)); let v:=(ops (s.run k).2); let w:=(((s.run k).2.length:Nat):Int); let I:=(nAt s.rxs ((k:Int).toNat*11+1)); let J:=(nAt s.rxs ((k:Int).toNat*11)); let x:=(wK (w - 1)); let z9:=(bAt v (x.toNat*12+10)); let y0:=(nAt s.rxs ((k:Int).toNat*11+0)); let K:=(modS y0 (8:Int)); let y1:=(decide (K < 3)); let L:=(nAt s.rxs ((k:Int).toNat*11+1+1+1+1+1+1+1+1+1+1)); let M:=(nAt s.rxs ((k:Int).toNat*11+1+1+1+1+1+1+1+1+1)); let N:=(nAt s.rxs ((k:Int).toNat*11+1+1+1+1+1+1+1+1)); let O:=(nAt s.rxs ((k:Int).toNat*11+1+1+1+1+1+1+1)); let P:=(nAt s.rxs ((k:Int).toNat*11+1+1+1+1+1+1)); let Q:=(nAt s.rxs ((k:Int).toNat*11+1+1+1+1+1)); let R:=(nAt s.rxs ((k:Int).toNat*11+1+1+1+1)); let S:=(nAt s.rxs ((k:Int).toNat*11+1+1+1)); let T:=(nAt s.rxs ((k:Int).toNat*11+1+1)); (k≤min s.rn 9)→tU6 ((w3=true→tU3 (((decide ((k:Int) < 9))=true→tU3 ((x0 k)∧True∧((s.rxs[(k:Int).toNat*11+0]?=some (dJ y0))∧True)∧(Ans prog 14 [rJ y0,rJ 8] (rJ K))∧tU2 (((s.run k).2.length≤maxLen)∧True∧(tU3 (((K==0)=true→tU3 (((decide (w > 0))=true→tU4 ((zZk 12 88 (s.run k).1.length 1 z7 E)∧tU5 ((0≤wK (w - 1)∧wK (w - 1)≤w)∧tU4 (∃ k':Nat,(k'≤min s.rn 9)∧(Z k k')∧(((0=0)∧(0=0)∧f∧(0=0)∧(x.toNat=(s.run k').2.length)∧(z0 k k')∧True)∧(d∧c∧(z1 k k')∧(List.take (x.toNat*12) v=ops (s.run k').2)∧e∧t∧(z7++E=ops (s.run k').1)∧True))))))∧((decide (w > 0))=false→∃ u8:Unit,z8∧(x4 k))))∧((K==0)=(!true)→True∧∃ u8:Unit,z8∧(x4 k))))∧∀ u8:Unit,z8→(tU3 (((w==0)=false→tU3 ((x5 k)∧True∧((v[x.toNat*12+10]?=some (dQ z9))∧True)∧True∧((z9=true→tU3 ((x5 k)∧True∧((v[x.toNat*12+11]?=some (dQ (bAt v (x.toNat*12+11))))∧True)∧tU4 (∃ fr:Bool,(fr=ctxB (s.run k).2)∧(((0=0)∧(0=0)∧f∧(0=0)∧(C k)∧(D k)∧(G k)∧(dQ (!(bAt v (x.toNat*12+11)))=dQ fr)∧True)∧(H k)))))∧(z9=(!true)→tU3 (∃ fr:Bool,(fr=ctxB (s.run k).2)∧(((0=0)∧(0=0)∧f∧(0=0)∧(C k)∧(D k)∧(G k)∧(dQ false=dQ fr)∧True)∧(H k)))))))∧((w==0)=(!false)→tU2 (∃ fr:Bool,(fr=ctxB (s.run k).2)∧(((0=0)∧(0=0)∧f∧(0=0)∧(C k)∧(D k)∧(G k)∧(dQ true=dQ fr)∧True)∧(H k))))))∧∀ fr:Bool,(fr=ctxB (s.run k).2)→(tU3 ((x0 k)∧((s.rxs[(k:Int).toNat*11]?=some (dJ J))∧(s.rxs[(k:Int).toNat*11+1]?=some (dJ I))∧(s.rxs[(k:Int).toNat*11+1+1]?=some (dJ T))∧(s.rxs[(k:Int).toNat*11+1+1+1]?=some (dJ S))∧(s.rxs[(k:Int).toNat*11+1+1+1+1]?=some (dJ R))∧(s.rxs[(k:Int).toNat*11+1+1+1+1+1]?=some (dJ Q))∧(s.rxs[(k:Int).toNat*11+1+1+1+1+1+1]?=some (dJ P))∧(s.rxs[(k:Int).toNat*11+1+1+1+1+1+1+1]?=some (dJ O))∧(s.rxs[(k:Int).toNat*11+1+1+1+1+1+1+1+1]?=some (dJ N))∧(s.rxs[(k:Int).toNat*11+1+1+1+1+1+1+1+1+1]?=some (dJ M))∧(s.rxs[(k:Int).toNat*11+1+1+1+1+1+1+1+1+1+1]?=some (dJ L))∧True)∧tU4 ((s.ims.length≤maxLen)∧tU4 ((Ans prog 23 [RV.agg [dJ J,dJ I,dJ T,dJ S,dJ R,dJ Q,dJ P,dJ O,dJ N,dJ M,dJ L],RV.d (dQ y1),rJ U,RV.agg Y,RV.d (dQ fr),RV.d (dK s.most)] (RV.agg (Oq.cells (gOp ⟨J,I,T,S,R,Q,P,O,N,M,L⟩ y1 U s.c fr s.most))))∧tU2 ((true=true)∧∃ o:Oq,(x6 k o)∧(((0=0)∧(0=0)∧f∧(0=0)∧(C k)∧(D k)∧(0=0)∧True)∧(d∧c∧(x1 k)∧(x2 k)∧((Oq.cells (gOp ⟨J,I,T,S,R,Q,P,O,N,M,L⟩ y1 U s.c fr s.most))=(Oq.cells o))∧e∧t∧(x3 k)∧True)))))))∧∀ o:Oq,(x6 k o)→tU4 ((zZk 12 88 (s.run k).1.length 1 z7 (Oq.cells o))∧tU5 (((o.kind==2)=true→tU3 ((zZk 12 88 (s.run k).2.length 1 v (Oq.cells o))∧tU4 (∃ k':Nat,(k'≤min s.rn 9)∧(Z k k')∧(((0=0)∧(0=0)∧f∧(0=0)∧((s.run k).2.length+1=(s.run k').2.length)∧(z0 k k')∧True)∧(d∧c∧(z1 k k')∧(v++(Oq.cells o)=ops (s.run k').2)∧e∧t∧(x7 k k' o)∧True)))))∧((o.kind==2)=false→tU3 (∃ k':Nat,(k'≤min s.rn 9)∧(Z k k')∧(((0=0)∧(0=0)∧f∧(0=0)∧((s.run k).2.length=(s.run k').2.length)∧(z0 k k')∧True)∧(d∧c∧(z1 k k')∧(ops (s.run k).2=ops (s.run k').2)∧e∧t∧(x7 k k' o)∧True)))))))))∧((decide ((k:Int) < 9))=false→∃ u7:Unit,True∧(x8 k))))∧(w3=(!true)→True∧∃ u7:Unit,True∧(x8 k)))))∧∀ u7:Unit,True→True∧((∃ j:Nat,let w4:=(b.1++List.replicate j popO); (x9 j)∧(((0=0)∧(0=0)∧w0∧(dJ 0=dJ (j:Int))∧True)∧(c∧(g∧h∧i∧l∧m∧n∧q∧r∧y∧(b.1.length=w4.length)∧True)∧w1∧e∧t∧(ops b.1=ops w4)∧True)))∧∀ j:Nat,let A:=(b.1++List.replicate j popO); (x9 j)→tU2 ((b.2.length≤maxLen)∧True∧(((decide ((j:Int) < y3))=true→tU4 ((zZk 12 88 A.length 1 (ops A) E)∧tU5 (∃ j':Nat,let w5:=(b.1++List.replicate j' popO); (j'≤b.2.length)∧(b.2.length - j' < b.2.length - j)∧(((0=0)∧(0=0)∧w0∧(dJ (wK ((j:Int)+1))=dJ (j':Int))∧True)∧(c∧(g∧h∧i∧l∧m∧n∧q∧r∧y∧(A.length+1=w5.length)∧True)∧w1∧e∧t∧((ops A)++E=ops w5)∧True)))))∧((decide ((j:Int) < y3))=false→tU2 (((((dJ s.bits=dJ s.bits)∧(dJ s.c.a=dJ s.c.a)∧(dJ s.c.b=dJ s.c.b)∧(dJ s.c.c=dJ s.c.c)∧(dJ s.c.d=dJ s.c.d)∧(dJ s.gtw=dJ s.gtw)∧(dJ s.gth=dJ s.gth)∧(s.ord.length=s.ord.length)∧(s.ims.length=s.ims.length)∧(A.length=s.ops.length)∧True)∧True)∧(e∧t∧(ops A=ops s.ops)∧True))∧zQu ⟨AV.agg [cJ s.bits,cJ s.c.a,cJ s.c.b,cJ s.c.c,cJ s.c.d,cJ s.gtw,cJ s.gth,Cl.ref 0 s.ord.length,Cl.ref 1 s.ims.length,Cl.ref 2 s.ops.length],[Bx.row 3 1 (is s.ord),Bx.row 43 28 (ims s.ims),Bx.row 51 12 (ops s.ops)],false⟩)))))))))))))))) ?_
  delta tU2 tU3 tU4 tU5 tU6 tU7 tU8 dJ dK dQ cJ wK dS rJ
  simp only [sS,zQH,zK4]
  obtain ⟨⟨ho1,ho2⟩,⟨hp1,hp2⟩,⟨hr1,hr2⟩⟩:=hs
  obtain ⟨f1,f2,f3,f4,f5,f6⟩:=s.facts
  have CF:=s.c_facts
  have w1:IntKind.wrap .i64 (modS s.x 13 - 6)=s.c.a:=IntWalk.i64_in _ ⟨by omega,by omega⟩
  have w2:IntKind.wrap .i64 (modS s.y 13 - 6)=s.c.b:=IntWalk.i64_in _ ⟨by omega,by omega⟩
  have g1:s.gw=1+modS s.w 5:=rfl
  have g2:s.gh=1+modS s.h 4:=rfl
  have g3:s.gtw=1+modS s.tw s.gw:=rfl
  have g4:s.gth=1+modS s.th s.gh:=rfl
  have w3:IntKind.wrap .i64 (1+modS s.w 5)=s.gw:=IntWalk.i64_in _ ⟨by omega,by omega⟩
  have w4:IntKind.wrap .i64 (1+modS s.h 4)=s.gh:=IntWalk.i64_in _ ⟨by omega,by omega⟩
  have w5:IntKind.wrap .i64 (s.c.a+s.gw)=s.c.c:=by rw [IntWalk.i64_in _ ⟨by omega,by omega⟩]; omega
  have w6:IntKind.wrap .i64 (s.c.b+s.gh)=s.c.d:=by rw [IntWalk.i64_in _ ⟨by omega,by omega⟩]; omega
  have w7:IntKind.wrap .i64 (1+modS s.tw s.gw)=s.gtw:=IntWalk.i64_in _ ⟨by omega,by omega⟩
  have w8:IntKind.wrap .i64 (1+modS s.th s.gh)=s.gth:=IntWalk.i64_in _ ⟨by omega,by omega⟩
  have hm:=s.tiles_in
  have hM:∀ n:Nat,n≤100→n≤maxLen:=fun n h=>by unfold maxLen; omega
  have li:=s.ims_len
  have lk:=fun k=>s.run_len k
  have pq:1≤s.c.c - s.c.a∧s.c.c - s.c.a≤100∧1≤s.c.d - s.c.b∧s.c.d - s.c.b≤100:=by omega
  have BI:=s.bits_of
  refine ⟨⟨fun h=>⟨(),rfl,BI.1 h⟩,fun h=>⟨(),rfl,BI.2 h⟩⟩,⟨(),w1,w2,w3,w4⟩,⟨(),w5,w6,w7,w8⟩,zGQ _ _ _ _ _ _,⟨zVr _ _ _ ⟨ho1,ho2⟩ hm.1,(),rfl,rfl⟩,⟨⟨0,Nat.zero_le _,rfl,rfl,rfl⟩,fun p hp=>⟨fun h1=>⟨fun h2=>?_,fun h2=>?_⟩,fun h1=>?_⟩⟩,?_⟩
  ·obtain ⟨q0,q1,q2,q3,q4,q5⟩:=hp2 p (by omega)
   refine ⟨⟨by omega,by omega,by omega⟩,⟨q0,q1,q2,q3,q4⟩,zH4 _ _ _ _ _ _ _ _ _ _ _ q5 pq,⟨by rw [zZ2,s.pics_len],by rw [Im.ds_len],hM _ (by omega),by omega⟩,p+1,by omega,by omega,zXR (by omega),rfl,?_⟩
   rw [s.pics_succ,jZ9,jKN]; rfl
  ·have:p=min s.pn 4:=by omega
   subst this
   exact ⟨(),(s.pics_len _).symm,rfl⟩
  ·have:p=min s.pn 4:=by omega
   subst this
   exact ⟨(),(s.pics_len _).symm,rfl⟩
  have lp:=s.pics_len (min s.pn 4)
  refine ⟨⟨hM _ (by omega),fun h=>?_,fun h=>?_⟩,⟨⟨0,Nat.zero_le _,⟨rfl,rfl⟩,rfl,rfl,rfl⟩,fun k hk=>⟨fun h1=>⟨fun h2=>?_,fun h2=>?_⟩,fun h1=>?_⟩⟩,?_⟩
  ·have h0:min s.pn 4=0:=by rw [lp] at h; simpa using h
   have e1:s.ims=[s.solo]:=by unfold Scn.ims; rw [if_pos h0]
   have e2:s.pics (min s.pn 4)=[]:=by rw [h0]; rfl
   rw [e1,e2]
   exact ⟨zJK s.gw s.gh ⟨_,_,_,_,_⟩,⟨by simp [ims],by simp [Im.ds],hM _ (by simp),by simp⟩,(),rfl,by simp [ims]; rfl⟩
  ·have h0:¬ min s.pn 4=0:=by rw [lp] at h; simpa using h
   have e1:s.ims=s.pics (min s.pn 4):=by unfold Scn.ims; rw [if_neg h0]
   rw [e1]
   exact ⟨(),rfl,rfl⟩
  ·have lk1:=(lk k).1
   have lk2:=(lk k).2
   have ro:=fun i (h:i < 11)=>hr2 (k*11+i) (by omega)
   have wl:0 < (s.run k).2.length→IntKind.wrap .i64 (((s.run k).2.length:Int) - 1)=(((s.run k).2.length - 1:Nat):Int):=fun h=>by rw [IntWalk.i64_in _ ⟨by omega,by omega⟩]; omega
   have ws:IntKind.wrap .i64 ((k:Int)+1)=((k+1:Nat):Int):=zXR (by omega)
   refine ⟨⟨by omega,by omega,by omega⟩,ro 0 (by omega),hM _ (by omega),⟨fun a1=>⟨fun a2=>?_,fun a2=>⟨(),fun h=>a2 (by omega)⟩⟩,fun a1=>⟨(),fun h=>?_⟩⟩,fun hn=>⟨⟨fun a1=>?_,fun a1=>?_⟩,fun fr hfr=>⟨?_,fun o ho=>?_⟩⟩⟩
   ·have a3:0 < (s.run k).2.length:=by omega
    have a4:modS (nAt s.rxs (k*11)) 8=0:=by simpa using a1
    have rp:=Scn.run_pop (s:=s) (k:=k) ⟨a4,a3⟩
    rw [wl a3]
    refine ⟨⟨by rw [zQ5,lk1],rfl,hM _ (by omega),by omega⟩,⟨by omega,by omega⟩,k+1,by omega,by omega,⟨?_,ws⟩,?_,?_,?_⟩
    ·rw [rp]; simp
    ·rw [rp]; simp
    ·rw [rp,Int.toNat_natCast,jQ7,List.dropLast_eq_take]
    ·rw [rp,zYL,zWq]; rfl
   ·have a4:¬ modS (nAt s.rxs (k*11)) 8=0:=by simpa using a1
    exact a4 h.1
   ·have a3:0 < (s.run k).2.length:=by
     have:¬ (s.run k).2.length=0:=by simpa using a1
     omega
    have hl:(s.run k).2.length - 1 < (s.run k).2.length:=by omega
    have g10:(ops (s.run k).2)[((s.run k).2.length - 1)*12+10]?=some (.bool (s.run k).2[(s.run k).2.length - 1].iso):=zGh hl 10 (by omega)
    have g11:(ops (s.run k).2)[((s.run k).2.length - 1)*12+11]?=some (.bool (s.run k).2[(s.run k).2.length - 1].kno):=zGh hl 11 (by omega)
    have b10:bAt (ops (s.run k).2) (((s.run k).2.length - 1)*12+10)=(s.run k).2[(s.run k).2.length - 1].iso:=by simp only [bAt,g10]
    have b11:bAt (ops (s.run k).2) (((s.run k).2.length - 1)*12+11)=(s.run k).2[(s.run k).2.length - 1].kno:=by simp only [bAt,g11]
    rw [wl a3,Int.toNat_natCast,b10,b11,jYA a3]
    refine ⟨⟨by omega,by omega⟩,g10,fun h=>⟨⟨by omega,by omega⟩,g11,_,rfl,?_⟩,fun h=>⟨_,rfl,?_⟩⟩ <;> simp [h]
   ·have a3:(s.run k).2.length=0:=by simpa using a1
    rw [List.length_eq_zero_iff.1 a3]
    exact ⟨_,rfl,rfl⟩
   ·subst hfr
    refine ⟨⟨by omega,by omega,by omega⟩,⟨ro 0 (by omega),ro 1 (by omega),ro 2 (by omega),ro 3 (by omega),ro 4 (by omega),ro 5 (by omega),ro 6 (by omega),ro 7 (by omega),ro 8 (by omega),ro 9 (by omega),ro 10 (by omega)⟩,hM _ (by omega),jJD (rwAt s.rxs (k*11)) _ _ _ _ _ ⟨⟨by omega,by omega⟩,by omega,by omega⟩ ⟨by omega,by omega⟩,_,rfl,rfl⟩
   ·obtain ⟨r1,r2⟩:=Scn.run_op (s:=s) (k:=k) hn ho
    clear ho
    refine ⟨⟨by rw [zQ5,lk1],rfl,hM _ (by omega),by omega⟩,fun a1=>⟨⟨by rw [zQ5],rfl,hM _ (by omega),by omega⟩,k+1,by omega,by omega,⟨?_,ws⟩,?_,?_,?_⟩,fun a1=>⟨k+1,by omega,by omega,⟨?_,ws⟩,?_,?_,?_⟩⟩
    ·rw [r1 (by simpa using a1)]; simp
    ·rw [r1 (by simpa using a1)]; simp
    ·rw [r1 (by simpa using a1),zYL,zWq]
    ·rw [r1 (by simpa using a1),zYL,zWq]
    ·rw [r2 (by simpa using a1)]
    ·rw [r2 (by simpa using a1)]; simp
    ·rw [r2 (by simpa using a1)]
    ·rw [r2 (by simpa using a1),zYL,zWq]
  ·have:k=min s.rn 9:=by omega
   subst this
   exact ⟨(),rfl,rfl,rfl,rfl⟩
  ·have:k=min s.rn 9:=by omega
   subst this
   exact ⟨(),rfl,rfl,rfl,rfl⟩
  ·have e:s.ops=(s.run (min s.rn 9)).1++List.replicate (s.run (min s.rn 9)).2.length popO:=rfl
   have lr:=lk (min s.rn 9)
   rw [e]
   generalize s.run (min s.rn 9)=z at *
   refine ⟨⟨0,Nat.zero_le _,rfl,by simp,by simp⟩,fun j hj=>⟨hM _ (by omega),fun h=>?_,fun h=>?_⟩⟩
   ·have e2:z.1++List.replicate (j+1) popO=(z.1++List.replicate j popO)++[popO]:=by rw [List.append_assoc,List.replicate_succ']
    refine ⟨⟨by rw [zQ5],rfl,hM _ (by simp; omega),by simp; omega⟩,j+1,by omega,by omega,zXR (by omega),?_,?_⟩
    ·rw [e2]; simp; omega
    ·rw [e2,zYL _ [popO],zWq]; rfl
   ·have:j=z.2.length:=by omega
    subst this
    exact ⟨⟨rfl,rfl⟩,trivial⟩
structure Scr where
  bits:Int
  c:Rc
  tw:Int
  th:Int
  ord:List Int
  ims:List Im
  ops:List Oq
def Scr.frame (s:Scr):Int:=jYm s.bits s.c s.tw s.th s.ord s.ims.length s.ops.length
def Scr.run (s:Scr):Int × Int:=opsE s.bits s.c s.tw s.th s.ord s.ims.length s.ops
def eR (p:Int × Int):RV:=RV.tup [RV.d (DV.int .i64 p.1),RV.d (DV.int .i64 p.2)]
def fitL (lo hi:Int) (l:List Int):Bool:=l.all fun v=>decide (lo≤v∧v≤hi)
def fitR (size:Int) (sg:Bool) (v:Int):Bool:=if sg then decide (-(2 ^ (8*size - 1).toNat)≤v∧v < 2 ^ (8*size - 1).toNat) else decide (0≤v∧v < 2 ^ (8*size).toNat)
theorem jZK {f:Int→Bool} {l:List Int} {k:Nat} (h:k < l.length):(l.take (k+1)).all f=((l.take k).all f && f l[k]):=by
 rw [List.take_succ_eq_append_getElem h,List.all_append]
 simp
theorem zW1 {f:Int→Bool} {l:List Int} {k:Nat} (h:k < l.length) (hf:f l[k]=false):l.all f=false:=by
 rw [List.all_eq_false]
 exact ⟨l[k],List.getElem_mem h,by rw [hf]; simp⟩
theorem jZB (v:Int):fitR 1 false v=decide (0≤v∧v≤255):=by
 have:(2:Int) ^ ((8*1:Int).toNat)=256:=by decide
 unfold fitR
 rw [this]
 simp only [Bool.false_eq_true,if_false,decide_eq_decide]
 omega
theorem zHN (v:Int):fitR 4 false v=decide (0≤v∧v≤4294967295):=by
 have:(2:Int) ^ ((8*4:Int).toNat)=4294967296:=by decide
 unfold fitR
 rw [this]
 simp only [Bool.false_eq_true,if_false,decide_eq_decide]
 omega
theorem jZA (v:Int):fitR 4 true v=decide (-2147483648≤v∧v≤2147483647):=by
 have:(2:Int) ^ ((8*4 - 1:Int).toNat)=2147483648:=by decide
 unfold fitR
 rw [this]
 simp only [if_true,decide_eq_decide]
 omega
def gZ20 (xs:List RV):Option RV:=match xs with | [.d (.int _ v),.d (.int _ size),.d (.bool sg)]=>some (RV.d (dQ (fitR size sg v))) | _=>none
def jXc:Gam where
 pure:=fun f xs=>
  if f=93 then (match xs with | [.d (.int _ low),.d (.int _ high),.d (.sl n xs)]=>some (RV.d (dQ (fitL low high (ints xs)))) | _=>none) else
  if f=87 then gZ20 xs else
  none
 modes:=fun f=>
  none
 proc:=fun f xs bs=>
  none
 iter:=fun f cs=>
  none
theorem zYd (low high:Int) (l:List Int):Ans prog 93 [rJ (low),rJ (high),RV.d (dS l.length (is l))] (RV.d (dQ (fitL low high (ints (is l))))):=
 zQj (Γ:=jXc) (Ann.seq Ann.leaf (Ann.seq (Ann.seq Ann.leaf (Ann.loop ⟨Nat,fun k=>k≤l.length∧fitL low high (l.take k)=true,fun k=>⟨[(0,aJ low),(1,aJ high),(9,AV.one (Cl.d (dS l.length (is l)))),(10,aJ (l.length:Int)),(11,aJ (k:Int))],[]⟩,fun k=>l.length - k⟩ fun k=>Ann.leaf)) Ann.leaf)) zQy Tryz.func93 rfl (Nat.le_of_ble_eq_true rfl) fun hwf=>by
  refine Eq.mpr (by kernel_rfl:_=(let a:=(l.length:Int); let d:=fun (k:Nat)=>(k≤l.length∧fitL low high (l.take k)=true); let e:=(dJ low=dJ low); let f:=(dJ high=dJ high); let g:=(dS l.length (is l)=dS l.length (is l)); let h:=(dJ a=dJ a); let c:=(dQ (fitL low high (ints (is l)))); tU4 ((∃ k:Nat,(d k)∧((e∧f∧g∧h∧(dJ 0=dJ (k:Int))∧True)∧True))∧∀ k:Nat,let b:=(nAt (is l) ((k:Int).toNat*1)); (d k)→True∧(((decide ((k:Int) < a))=true→(0≤(k:Int)∧(k:Int) < a∧(k:Int).toNat*1 < (is l).length)∧(((is l)[(k:Int).toNat*1]?=some (dJ b))∧True)∧tU5 (((decide (b < low))=false→tU4 (((decide (b > high))=true→True∧RV.d (dQ false)=RV.d c)∧((decide (b > high))=false→tU2 (∃ k':Nat,(k'≤l.length∧fitL low high (l.take k')=true)∧(l.length - k' < l.length - k)∧((e∧f∧g∧h∧(dJ (wK ((k:Int)+1))=dJ (k':Int))∧True)∧True)))))∧((decide (b < low))=(!false)→tU2 (RV.d (dQ false)=RV.d c))))∧((decide ((k:Int) < a))=false→True∧RV.d (dQ true)=RV.d c))))) ?_
  delta tU2 tU4 tU5 dJ dQ wK dS
  simp only [sS]
  simp only [zQM]
  simp only [RV.wfs,RV.wf,DV.wf,maxLen] at hwf
  refine ⟨⟨0,⟨Nat.zero_le _,rfl⟩,rfl⟩,fun k hk=>⟨fun hlt=>?_,fun hge=>?_⟩⟩
  ·obtain ⟨k1,k2⟩:=hk
   have hk:k < l.length:=by omega
   obtain ⟨q1,q2⟩:=jKF hk
   have w1:IntKind.wrap .i64 ((k:Int)+1)=((k+1:Nat):Int):=by rw [IntWalk.i64_in _ ⟨by omega,by omega⟩]; omega
   simp only [Nat.mul_one,q2,w1]
   refine ⟨⟨by omega,by omega,by rw [zZA]; omega⟩,q1,fun h1=>⟨fun h2=>?_,fun h2=>?_⟩,fun h1=>?_⟩
   ·exact (zW1 hk (by simp; omega)).symm
   ·exact ⟨k+1,⟨by omega,by unfold fitL at k2 ⊢; rw [jZK hk,k2]; simp; omega⟩,by omega,rfl⟩
   ·exact (zW1 hk (by simp; omega)).symm
  ·obtain ⟨k1,k2⟩:=hk
   have:k=l.length:=by omega
   subst this
   rw [List.take_length] at k2
   exact k2.symm
theorem zY9 (l:List Int):Ans prog 51 [RV.d (dS l.length (is l))] (RV.d (dQ (fitL 0 255 (ints (is l))))):=
 zQj (Γ:=jXc) Ann.leaf zQy Tryz.func51 rfl (Nat.le_of_ble_eq_true rfl) fun hwf=>by
  refine Eq.mpr (by kernel_rfl:_=(let a:=(dQ (fitL (0:Int) (255:Int) (ints (is l)))); tU2 ((Ans prog 93 [rJ 0,rJ 255,RV.d (dS l.length (is l))] (RV.d a))∧True∧RV.d a=RV.d (dQ (fitL 0 255 (ints (is l))))))) ?_
  delta tU2 dQ dS rJ
  simp only [sS]
  simp only [zQM]
  have:=zYd 0 255 l
  simp only [zQM] at this
  exact this
theorem zYc (l:List Int):Ans prog 53 [RV.d (dS l.length (is l))] (RV.d (dQ (fitL 0 4294967295 (ints (is l))))):=
 zQj (Γ:=jXc) Ann.leaf zQy Tryz.func53 rfl (Nat.le_of_ble_eq_true rfl) fun hwf=>by
  refine Eq.mpr (by kernel_rfl:_=(let a:=(dQ (fitL (0:Int) (4294967295:Int) (ints (is l)))); tU2 ((Ans prog 93 [rJ 0,rJ 4294967295,RV.d (dS l.length (is l))] (RV.d a))∧True∧RV.d a=RV.d (dQ (fitL 0 4294967295 (ints (is l))))))) ?_
  delta tU2 dQ dS rJ
  simp only [sS]
  simp only [zQM]
  have:=zYd 0 4294967295 l
  simp only [zQM] at this
  exact this
theorem zYE (l:List Int):Ans prog 52 [RV.d (dS l.length (is l))] (RV.d (dQ (fitL (-2147483648) 2147483647 (ints (is l))))):=
 zQj (Γ:=jXc) Ann.leaf zQy Tryz.func52 rfl (Nat.le_of_ble_eq_true rfl) fun hwf=>by
  refine Eq.mpr (by kernel_rfl:_=(let a:=(dQ (fitL (-2147483648:Int) (2147483647:Int) (ints (is l)))); tU2 ((Ans prog 93 [rJ (-2147483648:Int),rJ 2147483647,RV.d (dS l.length (is l))] (RV.d a))∧True∧RV.d a=RV.d (dQ (fitL (-2147483648) 2147483647 (ints (is l))))))) ?_
  delta tU2 dQ dS rJ
  simp only [sS]
  simp only [zQM]
  have:=zYd (-2147483648) 2147483647 l
  simp only [zQM] at this
  exact this
theorem zVI (v size:Int) (sg:Bool) (hs:(size=1∧sg=false)∨size=4):Ans prog 87 [rJ (v),rJ (size),RV.d (dQ sg)] (RV.d (dQ (fitR size sg v))):=
 zQj (Γ:=jXc) Ann.leaf zQy Tryz.func87 rfl (Nat.le_of_ble_eq_true rfl) fun hwf=>by
  refine Eq.mpr (by kernel_rfl:_=(let a:=(dQ (fitR size sg v)); let c:=(RV.d (dQ false)=RV.d a); let b:=(wK ((8:Int)*size)); let d:=(wK (b - 1)); let e:=(0≤IntKind.wrap .u64 d); let f:=(IntKind.wrap .u64 d); let g:=(decide (v≥(wK ((-1:Int)*2 ^ min f.toNat 64)))); tU2 ((sg=true→tU5 (e∧tU2 ((g=true→tU5 (e∧tU3 (RV.d (dQ (decide (v < (wK ((1:Int)*2 ^ min f.toNat 64)))))=RV.d a)))∧(g=(!true)→tU2 c))))∧(sg=false→tU3 (((decide (v≥0))=true→tU4 ((0≤IntKind.wrap .u64 b)∧tU3 (RV.d (dQ (decide (v < (wK ((1:Int)*2 ^ min (IntKind.wrap .u64 b).toNat 64)))))=RV.d a)))∧((decide (v≥0))=(!true)→tU2 c)))))) ?_
  delta tU2 tU3 tU4 tU5 dQ wK
  simp only [sS]
  have e1:IntKind.wrap .i64 (8*1)=8:=by decide
  have e2:IntKind.wrap .i64 (8*4)=32:=by decide
  have e3:IntKind.wrap .u64 8=8:=by decide
  have e4:IntKind.wrap .u64 32=32:=by decide
  have e5:IntKind.wrap .u64 (IntKind.wrap .i64 (32 - 1))=31:=by decide
  have e6:IntKind.wrap .i64 (1*2 ^ min (8:Int).toNat 64)=256:=by decide
  have e7:IntKind.wrap .i64 (1*2 ^ min (32:Int).toNat 64)=4294967296:=by decide
  have e8:IntKind.wrap .i64 (1*2 ^ min (31:Int).toNat 64)=2147483648:=by decide
  have e9:IntKind.wrap .i64 (-1*2 ^ min (31:Int).toNat 64) = -2147483648:=by decide
  rcases hs with ⟨rfl,rfl⟩ | rfl
  ·rw [jZB]
   simp only [e1,e3,e6]
   refine ⟨fun h=>(by cases h),fun _=>⟨fun h=>⟨by omega,?_⟩,fun h=>?_⟩⟩
   ·rw [decide_eq_decide]; omega
   ·symm; simp; omega
  ·simp only [e2,e4,e5,e7,e8,e9]
   cases sg
   ·rw [zHN]
    refine ⟨fun h=>(by cases h),fun _=>⟨fun h=>⟨by omega,?_⟩,fun h=>?_⟩⟩
    ·rw [decide_eq_decide]; omega
    ·symm; simp; omega
   ·rw [jZA]
    refine ⟨fun _=>⟨by omega,fun h=>⟨by omega,?_⟩,fun h=>?_⟩,fun h=>(by cases h)⟩
    ·rw [decide_eq_decide]; omega
    ·symm; simp; omega
theorem zYi (size:Int) (sg:Bool) (l:List Int) (hs:(size=1∧sg=false)∨size=4):Ans prog 88 [rJ (size),RV.d (dQ sg),RV.d (dS l.length (is l))] (RV.d (dQ ((ints (is l)).all (fitR size sg)))):=
 zQj (Γ:=jXc) (Ann.seq Ann.leaf (Ann.seq (Ann.seq Ann.leaf (Ann.loop ⟨Nat,fun k=>k≤l.length∧(l.take k).all (fitR size sg)=true,fun k=>⟨[(0,aJ size),(1,AV.one (Cl.d (dQ sg))),(2,AV.one (Cl.d (dS l.length (is l)))),(7,aJ (k:Int))],[]⟩,fun k=>l.length - k⟩ fun k=>Ann.leaf)) Ann.leaf)) zQy Tryz.func88 rfl (Nat.le_of_ble_eq_true rfl) fun hwf=>by
  refine Eq.mpr (by kernel_rfl:_=(let b:=fun (k:Nat)=>(k≤l.length∧(l.take k).all (fitR size sg)=true); let c:=(dJ size=dJ size); let d:=(dS l.length (is l)=dS l.length (is l)); let e:=(dQ ((ints (is l)).all (fitR size sg))); tU2 ((∃ k:Nat,(b k)∧((c∧(dQ sg=dQ sg)∧d∧(dJ 0=dJ (k:Int))∧True)∧True))∧∀ k:Nat,let f:=(decide ((k:Int) < (l.length:Int))); let a:=(nAt (is l) ((k:Int).toNat*1)); (b k)→tU4 ((f=true→tU2 ((0≤(k:Int)∧(k:Int) < (l.length:Int)∧(k:Int).toNat*1 < (is l).length)∧(((is l)[(k:Int).toNat*1]?=some (dJ a))∧True)∧tU2 ((Ans prog 87 [rJ a,rJ size,RV.d (dQ sg)] (RV.d (dQ (fitR size sg a))))∧True∧(((!(fitR size sg a))=true→True∧RV.d (dQ false)=RV.d e)∧((!(fitR size sg a))=false→tU3 (∃ k':Nat,(k'≤l.length∧(l.take k').all (fitR size sg)=true)∧(l.length - k' < l.length - k)∧((c∧(dQ sg=dQ sg)∧d∧(dJ (wK ((k:Int)+1))=dJ (k':Int))∧True)∧True)))))))∧(f=false→True∧RV.d (dQ true)=RV.d e))))) ?_
  delta tU2 tU3 tU4 dJ dQ wK dS rJ
  simp only [sS]
  simp only [zQM]
  simp only [RV.wfs,RV.wf,DV.wf,maxLen] at hwf
  refine ⟨⟨0,⟨Nat.zero_le _,rfl⟩,rfl⟩,fun k hk=>⟨fun hlt=>?_,fun hge=>?_⟩⟩
  ·obtain ⟨k1,k2⟩:=hk
   have hk:k < l.length:=by omega
   obtain ⟨q1,q2⟩:=jKF hk
   have w1:IntKind.wrap .i64 ((k:Int)+1)=((k+1:Nat):Int):=by rw [IntWalk.i64_in _ ⟨by omega,by omega⟩]; omega
   simp only [Nat.mul_one,q2,w1]
   refine ⟨⟨by omega,by omega,by rw [zZA]; omega⟩,q1,zVI _ _ _ hs,fun h1=>(zW1 hk h1).symm,fun h1=>⟨k+1,⟨by omega,by rw [jZK hk,k2,h1]; rfl⟩,by omega,rfl⟩⟩
  ·obtain ⟨k1,k2⟩:=hk
   have:k=l.length:=by omega
   subst this
   rw [List.take_length] at k2
   exact k2.symm
end
def imQ (xs:List DV) (i:Nat):Im:=⟨(nAt xs (i)),(nAt xs (i+1)),(bAt xs (i+1+1)),⟨(nAt xs (i+1+1+1)),(nAt xs (i+1+1+1+1)),(nAt xs (i+1+1+1+1+1)),(nAt xs (i+1+1+1+1+1+1)),(nAt xs (i+1+1+1+1+1+1+1))⟩,⟨(nAt xs (i+1+1+1+1+1+1+1+1)),(nAt xs (i+1+1+1+1+1+1+1+1+1)),(nAt xs (i+1+1+1+1+1+1+1+1+1+1)),(lAt xs (i+1+1+1+1+1+1+1+1+1+1+1)),(cAt xs (i+1+1+1+1+1+1+1+1+1+1+1))⟩,⟨(nAt xs (i+1+1+1+1+1+1+1+1+1+1+1+1)),(nAt xs (i+1+1+1+1+1+1+1+1+1+1+1+1+1)),(nAt xs (i+1+1+1+1+1+1+1+1+1+1+1+1+1+1)),(lAt xs (i+1+1+1+1+1+1+1+1+1+1+1+1+1+1+1)),(cAt xs (i+1+1+1+1+1+1+1+1+1+1+1+1+1+1+1))⟩,⟨(nAt xs (i+1+1+1+1+1+1+1+1+1+1+1+1+1+1+1+1)),(nAt xs (i+1+1+1+1+1+1+1+1+1+1+1+1+1+1+1+1+1)),(nAt xs (i+1+1+1+1+1+1+1+1+1+1+1+1+1+1+1+1+1+1)),(lAt xs (i+1+1+1+1+1+1+1+1+1+1+1+1+1+1+1+1+1+1+1)),(cAt xs (i+1+1+1+1+1+1+1+1+1+1+1+1+1+1+1+1+1+1+1))⟩,⟨(nAt xs (i+1+1+1+1+1+1+1+1+1+1+1+1+1+1+1+1+1+1+1+1)),(nAt xs (i+1+1+1+1+1+1+1+1+1+1+1+1+1+1+1+1+1+1+1+1+1)),(nAt xs (i+1+1+1+1+1+1+1+1+1+1+1+1+1+1+1+1+1+1+1+1+1+1)),(lAt xs (i+1+1+1+1+1+1+1+1+1+1+1+1+1+1+1+1+1+1+1+1+1+1+1)),(cAt xs (i+1+1+1+1+1+1+1+1+1+1+1+1+1+1+1+1+1+1+1+1+1+1+1))⟩,⟨(nAt xs (i+1+1+1+1+1+1+1+1+1+1+1+1+1+1+1+1+1+1+1+1+1+1+1+1)),(nAt xs (i+1+1+1+1+1+1+1+1+1+1+1+1+1+1+1+1+1+1+1+1+1+1+1+1+1)),(nAt xs (i+1+1+1+1+1+1+1+1+1+1+1+1+1+1+1+1+1+1+1+1+1+1+1+1+1+1)),(lAt xs (i+1+1+1+1+1+1+1+1+1+1+1+1+1+1+1+1+1+1+1+1+1+1+1+1+1+1+1)),(cAt xs (i+1+1+1+1+1+1+1+1+1+1+1+1+1+1+1+1+1+1+1+1+1+1+1+1+1+1+1))⟩⟩
def imQr (xs:List DV) (i:Nat):Prop:=(xs[i]?=some (DV.int .i64 (nAt xs (i))))∧(xs[i+1]?=some (DV.int .i64 (nAt xs (i+1))))∧(xs[i+1+1]?=some (DV.bool (bAt xs (i+1+1))))∧(xs[i+1+1+1]?=some (DV.int .u16 (nAt xs (i+1+1+1))))∧(xs[i+1+1+1+1]?=some (DV.int .u16 (nAt xs (i+1+1+1+1))))∧(xs[i+1+1+1+1+1]?=some (DV.int .u16 (nAt xs (i+1+1+1+1+1))))∧(xs[i+1+1+1+1+1+1]?=some (DV.int .u16 (nAt xs (i+1+1+1+1+1+1))))∧(xs[i+1+1+1+1+1+1+1]?=some (DV.int .u16 (nAt xs (i+1+1+1+1+1+1+1))))∧(xs[i+1+1+1+1+1+1+1+1]?=some (DV.int .i64 (nAt xs (i+1+1+1+1+1+1+1+1))))∧(xs[i+1+1+1+1+1+1+1+1+1]?=some (DV.int .i64 (nAt xs (i+1+1+1+1+1+1+1+1+1))))∧(xs[i+1+1+1+1+1+1+1+1+1+1]?=some (DV.int .i64 (nAt xs (i+1+1+1+1+1+1+1+1+1+1))))∧(xs[i+1+1+1+1+1+1+1+1+1+1+1]?=some (DV.sl (lAt xs (i+1+1+1+1+1+1+1+1+1+1+1)) (cAt xs (i+1+1+1+1+1+1+1+1+1+1+1))))∧(xs[i+1+1+1+1+1+1+1+1+1+1+1+1]?=some (DV.int .i64 (nAt xs (i+1+1+1+1+1+1+1+1+1+1+1+1))))∧(xs[i+1+1+1+1+1+1+1+1+1+1+1+1+1]?=some (DV.int .i64 (nAt xs (i+1+1+1+1+1+1+1+1+1+1+1+1+1))))∧(xs[i+1+1+1+1+1+1+1+1+1+1+1+1+1+1]?=some (DV.int .i64 (nAt xs (i+1+1+1+1+1+1+1+1+1+1+1+1+1+1))))∧(xs[i+1+1+1+1+1+1+1+1+1+1+1+1+1+1+1]?=some (DV.sl (lAt xs (i+1+1+1+1+1+1+1+1+1+1+1+1+1+1+1)) (cAt xs (i+1+1+1+1+1+1+1+1+1+1+1+1+1+1+1))))∧(xs[i+1+1+1+1+1+1+1+1+1+1+1+1+1+1+1+1]?=some (DV.int .i64 (nAt xs (i+1+1+1+1+1+1+1+1+1+1+1+1+1+1+1+1))))∧(xs[i+1+1+1+1+1+1+1+1+1+1+1+1+1+1+1+1+1]?=some (DV.int .i64 (nAt xs (i+1+1+1+1+1+1+1+1+1+1+1+1+1+1+1+1+1))))∧(xs[i+1+1+1+1+1+1+1+1+1+1+1+1+1+1+1+1+1+1]?=some (DV.int .i64 (nAt xs (i+1+1+1+1+1+1+1+1+1+1+1+1+1+1+1+1+1+1))))∧(xs[i+1+1+1+1+1+1+1+1+1+1+1+1+1+1+1+1+1+1+1]?=some (DV.sl (lAt xs (i+1+1+1+1+1+1+1+1+1+1+1+1+1+1+1+1+1+1+1)) (cAt xs (i+1+1+1+1+1+1+1+1+1+1+1+1+1+1+1+1+1+1+1))))∧(xs[i+1+1+1+1+1+1+1+1+1+1+1+1+1+1+1+1+1+1+1+1]?=some (DV.int .i64 (nAt xs (i+1+1+1+1+1+1+1+1+1+1+1+1+1+1+1+1+1+1+1+1))))∧(xs[i+1+1+1+1+1+1+1+1+1+1+1+1+1+1+1+1+1+1+1+1+1]?=some (DV.int .i64 (nAt xs (i+1+1+1+1+1+1+1+1+1+1+1+1+1+1+1+1+1+1+1+1+1))))∧(xs[i+1+1+1+1+1+1+1+1+1+1+1+1+1+1+1+1+1+1+1+1+1+1]?=some (DV.int .i64 (nAt xs (i+1+1+1+1+1+1+1+1+1+1+1+1+1+1+1+1+1+1+1+1+1+1))))∧(xs[i+1+1+1+1+1+1+1+1+1+1+1+1+1+1+1+1+1+1+1+1+1+1+1]?=some (DV.sl (lAt xs (i+1+1+1+1+1+1+1+1+1+1+1+1+1+1+1+1+1+1+1+1+1+1+1)) (cAt xs (i+1+1+1+1+1+1+1+1+1+1+1+1+1+1+1+1+1+1+1+1+1+1+1))))∧(xs[i+1+1+1+1+1+1+1+1+1+1+1+1+1+1+1+1+1+1+1+1+1+1+1+1]?=some (DV.int .i64 (nAt xs (i+1+1+1+1+1+1+1+1+1+1+1+1+1+1+1+1+1+1+1+1+1+1+1+1))))∧(xs[i+1+1+1+1+1+1+1+1+1+1+1+1+1+1+1+1+1+1+1+1+1+1+1+1+1]?=some (DV.int .i64 (nAt xs (i+1+1+1+1+1+1+1+1+1+1+1+1+1+1+1+1+1+1+1+1+1+1+1+1+1))))∧(xs[i+1+1+1+1+1+1+1+1+1+1+1+1+1+1+1+1+1+1+1+1+1+1+1+1+1+1]?=some (DV.int .i64 (nAt xs (i+1+1+1+1+1+1+1+1+1+1+1+1+1+1+1+1+1+1+1+1+1+1+1+1+1+1))))∧(xs[i+1+1+1+1+1+1+1+1+1+1+1+1+1+1+1+1+1+1+1+1+1+1+1+1+1+1+1]?=some (DV.sl (lAt xs (i+1+1+1+1+1+1+1+1+1+1+1+1+1+1+1+1+1+1+1+1+1+1+1+1+1+1+1)) (cAt xs (i+1+1+1+1+1+1+1+1+1+1+1+1+1+1+1+1+1+1+1+1+1+1+1+1+1+1+1))))∧True
def oqQ (xs:List DV) (i:Nat):Oq:=⟨(nAt xs (i)),(nAt xs (i+1)),(nAt xs (i+1+1)),(nAt xs (i+1+1+1)),(nAt xs (i+1+1+1+1)),(nAt xs (i+1+1+1+1+1)),(nAt xs (i+1+1+1+1+1+1)),(nAt xs (i+1+1+1+1+1+1+1)),(nAt xs (i+1+1+1+1+1+1+1+1)),(nAt xs (i+1+1+1+1+1+1+1+1+1)),(bAt xs (i+1+1+1+1+1+1+1+1+1+1)),(bAt xs (i+1+1+1+1+1+1+1+1+1+1+1))⟩
def oqQr (xs:List DV) (i:Nat):Prop:=(xs[i]?=some (DV.int .i64 (nAt xs (i))))∧(xs[i+1]?=some (DV.int .i64 (nAt xs (i+1))))∧(xs[i+1+1]?=some (DV.int .i64 (nAt xs (i+1+1))))∧(xs[i+1+1+1]?=some (DV.int .i64 (nAt xs (i+1+1+1))))∧(xs[i+1+1+1+1]?=some (DV.int .i64 (nAt xs (i+1+1+1+1))))∧(xs[i+1+1+1+1+1]?=some (DV.int .i64 (nAt xs (i+1+1+1+1+1))))∧(xs[i+1+1+1+1+1+1]?=some (DV.int .i64 (nAt xs (i+1+1+1+1+1+1))))∧(xs[i+1+1+1+1+1+1+1]?=some (DV.int .u16 (nAt xs (i+1+1+1+1+1+1+1))))∧(xs[i+1+1+1+1+1+1+1+1]?=some (DV.int .i64 (nAt xs (i+1+1+1+1+1+1+1+1))))∧(xs[i+1+1+1+1+1+1+1+1+1]?=some (DV.int .i64 (nAt xs (i+1+1+1+1+1+1+1+1+1))))∧(xs[i+1+1+1+1+1+1+1+1+1+1]?=some (DV.bool (bAt xs (i+1+1+1+1+1+1+1+1+1+1))))∧(xs[i+1+1+1+1+1+1+1+1+1+1+1]?=some (DV.bool (bAt xs (i+1+1+1+1+1+1+1+1+1+1+1))))∧True
def pxQ (xs:List DV) (i:Nat):Px:=⟨(nAt xs (i)),(nAt xs (i+1)),(nAt xs (i+1+1)),(nAt xs (i+1+1+1)),(nAt xs (i+1+1+1+1))⟩
def pxQr (xs:List DV) (i:Nat):Prop:=(xs[i]?=some (DV.int .u16 (nAt xs (i))))∧(xs[i+1]?=some (DV.int .u16 (nAt xs (i+1))))∧(xs[i+1+1]?=some (DV.int .u16 (nAt xs (i+1+1))))∧(xs[i+1+1+1]?=some (DV.int .u16 (nAt xs (i+1+1+1))))∧(xs[i+1+1+1+1]?=some (DV.int .u16 (nAt xs (i+1+1+1+1))))∧True
def imC (m:Im):List Cl:=[Cl.d (DV.int .i64 m.w),Cl.d (DV.int .i64 m.h),Cl.d (DV.bool m.so),Cl.d (DV.int .u16 m.c.a),Cl.d (DV.int .u16 m.c.b),Cl.d (DV.int .u16 m.c.c),Cl.d (DV.int .u16 m.c.al),Cl.d (DV.int .u16 m.c.f),Cl.d (DV.int .i64 m.p0.w),Cl.d (DV.int .i64 m.p0.h),Cl.d (DV.int .i64 m.p0.s),Cl.d (DV.sl m.p0.n m.p0.xs),Cl.d (DV.int .i64 m.p1.w),Cl.d (DV.int .i64 m.p1.h),Cl.d (DV.int .i64 m.p1.s),Cl.d (DV.sl m.p1.n m.p1.xs),Cl.d (DV.int .i64 m.p2.w),Cl.d (DV.int .i64 m.p2.h),Cl.d (DV.int .i64 m.p2.s),Cl.d (DV.sl m.p2.n m.p2.xs),Cl.d (DV.int .i64 m.p3.w),Cl.d (DV.int .i64 m.p3.h),Cl.d (DV.int .i64 m.p3.s),Cl.d (DV.sl m.p3.n m.p3.xs),Cl.d (DV.int .i64 m.p4.w),Cl.d (DV.int .i64 m.p4.h),Cl.d (DV.int .i64 m.p4.s),Cl.d (DV.sl m.p4.n m.p4.xs)]
def oqC (m:Oq):List Cl:=[Cl.d (DV.int .i64 m.kind),Cl.d (DV.int .i64 m.image),Cl.d (DV.int .i64 m.x),Cl.d (DV.int .i64 m.y),Cl.d (DV.int .i64 m.mask),Cl.d (DV.int .i64 m.mx),Cl.d (DV.int .i64 m.my),Cl.d (DV.int .u16 m.opac),Cl.d (DV.int .i64 m.oper),Cl.d (DV.int .i64 m.mode),Cl.d (DV.bool m.iso),Cl.d (DV.bool m.kno)]
def oqD (m:Oq):AV:=AV.agg [Cl.d (DV.int .i64 m.kind),Cl.d (DV.int .i64 m.image),Cl.d (DV.int .i64 m.x),Cl.d (DV.int .i64 m.y),Cl.d (DV.int .i64 m.mask),Cl.d (DV.int .i64 m.mx),Cl.d (DV.int .i64 m.my),Cl.d (DV.int .u16 m.opac),Cl.d (DV.int .i64 m.oper),Cl.d (DV.int .i64 m.mode),Cl.d (DV.bool m.iso),Cl.d (DV.bool m.kno)]
def pxC (m:Px):List Cl:=[Cl.d (DV.int .u16 m.a),Cl.d (DV.int .u16 m.b),Cl.d (DV.int .u16 m.c),Cl.d (DV.int .u16 m.al),Cl.d (DV.int .u16 m.f)]
def pxD (m:Px):AV:=AV.agg [Cl.d (DV.int .u16 m.a),Cl.d (DV.int .u16 m.b),Cl.d (DV.int .u16 m.c),Cl.d (DV.int .u16 m.al),Cl.d (DV.int .u16 m.f)]
def zXm (m:Im):Int:=if m.so then 19 else 9+10*(m.w*m.h)
def zQ0:List Im→Int
 | []=>0
 | m::l=>zXm m+zQ0 l
theorem zKh:∀ (l m:List Im),zQ0 (l++m)=zQ0 l+zQ0 m
 | [],m=>by simp [zQ0]
 | a::l,m=>by rw [List.cons_append,zQ0,zQ0,zKh l m]; omega
def opOk (o:Oq):Bool:=fitL 0 255 [o.kind,o.image,o.mask,o.oper,o.mode] && fitL (-2147483648) 2147483647 [o.x,o.y,o.mx,o.my]
def zX6 (s:Scr):Bool:=
 fitL 0 255 [s.bits] && fitL (-2147483648) 2147483647 [s.c.a,s.c.b,s.c.c,s.c.d] && fitL 0 4294967295 [s.tw,s.th] && fitL 0 4294967295 s.ord && decide (s.ims.length≤64) && decide (s.ops.length≤4096)
def zXp (s:Scr) (l:List Im):Int:=34+4*(s.ord.length:Int)+24*(s.ops.length:Int)+zQ0 l
def zZU (s:Scr):Bool:=zX6 s && s.ims.all Im.formed && s.ops.all opOk && decide (zXp s s.ims≤67108864)
section
attribute [local irreducible] Ans AnsO AnsG AnsN AnsI
theorem zGY (m:Im):(m.valid 0=0∨m.valid 0=8)↔m.formed=true:=by
 unfold Im.valid Im.formed
 cases zQY m.w m.h <;> cases m.inner <;> simp
 repeat' split
 all_goals omega
theorem all_take' {α:Type} {f:α→Bool} {l:List α} {k:Nat} (h:k < l.length):(l.take (k+1)).all f=((l.take k).all f && f l[k]):=by
 rw [List.take_succ_eq_append_getElem h,List.all_append]
 simp
theorem all_false' {α:Type} {f:α→Bool} {l:List α} {k:Nat} (h:k < l.length) (hf:f l[k]=false):l.all f=false:=by
 rw [List.all_eq_false]
 exact ⟨l[k],List.getElem_mem h,by rw [hf]; simp⟩
theorem zV9 {m:Im} (h:m.formed=true):19≤zXm m∧zXm m≤167772169∧1≤m.w*m.h∧m.w*m.h≤16777216:=by
 have h1:zQY m.w m.h=true:=by unfold Im.formed at h; exact (Bool.and_eq_true_iff.1 h).1
 have h2:1≤m.w*m.h∧m.w*m.h≤16777216:=by
  simp only [zQY,Bool.and_eq_true,decide_eq_true_eq] at h1
  have:0 < m.w*m.h:=Int.mul_pos (by omega) (by omega)
  omega
 unfold zXm
 split <;> omega
theorem zVs {l:List Im} {k:Nat} (h:k < l.length):zQ0 (l.take (k+1))=zQ0 (l.take k)+zXm l[k]:=by
 rw [List.take_succ_eq_append_getElem h,zKh]
 simp [zQ0]
theorem zXE {l:List Im} (h:l.all Im.formed=true):0≤zQ0 l∧zQ0 l≤167772169*(l.length:Int):=by
 induction l with
 | nil=>simp [zQ0]
 | cons m l ih=>
  simp only [List.all_cons,Bool.and_eq_true] at h
  have:=ih h.2
  have:=zV9 h.1
  simp only [zQ0,List.length_cons]
  omega
def jVr:Gam where
 pure:=fun f xs=>
  if f=94 then gZ12 xs else
  if f=51 then (match xs with | [.d (.sl n xs)]=>some (RV.d (dQ (fitL 0 255 (ints xs)))) | _=>none) else
  if f=52 then (match xs with | [.d (.sl n xs)]=>some (RV.d (dQ (fitL (-2147483648) 2147483647 (ints xs)))) | _=>none) else
  if f=53 then (match xs with | [.d (.sl n xs)]=>some (RV.d (dQ (fitL 0 4294967295 (ints xs)))) | _=>none) else
  if f=54 then gZ9 xs else
  none
 modes:=fun f=>
  none
 proc:=fun f xs bs=>
  none
 iter:=fun f cs=>
  none
theorem zJn (m:Im) (hu:m.isU):Ans prog 54 [RV.agg [dJ m.w,dJ m.h,dQ m.so,dK m.c.a,dK m.c.b,dK m.c.c,dK m.c.al,dK m.c.f,dJ m.p0.w,dJ m.p0.h,dJ m.p0.s,dS m.p0.n m.p0.xs,dJ m.p1.w,dJ m.p1.h,dJ m.p1.s,dS m.p1.n m.p1.xs,dJ m.p2.w,dJ m.p2.h,dJ m.p2.s,dS m.p2.n m.p2.xs,dJ m.p3.w,dJ m.p3.h,dJ m.p3.s,dS m.p3.n m.p3.xs,dJ m.p4.w,dJ m.p4.h,dJ m.p4.s,dS m.p4.n m.p4.xs]] (RV.d (dQ (Im.formed m))):=
 zQj (Γ:=jVr) Ann.leaf zQy Tryz.func54 rfl (Nat.le_of_ble_eq_true rfl) fun hwf=>by
  refine Eq.mpr (by kernel_rfl:_=(let a:=(Im.valid m (0:Int)); let b:=(a==0); tU3 ((Ans prog 94 [(imR m),RV.d (dK 0)] (rJ a))∧tU4 ((b=false→tU4 (RV.d (dQ (a==8))=RV.d (dQ (Im.formed m))))∧(b=(!false)→tU2 (RV.d (dQ true)=RV.d (dQ (Im.formed m)))))))) ?_
  delta tU2 tU3 tU4 dK dQ rJ
  simp only [sS]
  have:=zUg m 0 hu
  have hf:=zGY m
  refine ⟨this,fun q1=>?_,fun q1=>?_⟩
  ·have q1:¬ m.valid 0=0:=by simpa using q1
   by_cases q2:m.valid 0=8
   ·rw [hf.1 (.inr q2),q2]; rfl
   ·cases q3:m.formed with
    | true=>have:=hf.2 q3; omega
    | false=>simp [q2]
  ·have q1:m.valid 0=0:=by simpa using q1
   exact (hf.1 (.inl q1)).symm
theorem zXZ (s:Scr) (hM:∀ m∈s.ims,m.isU) (hos:s.ord.length≤17592186044416):Ans prog 24 [RV.agg [dJ s.bits,dJ s.c.a,dJ s.c.b,dJ s.c.c,dJ s.c.d,dJ s.tw,dJ s.th,dS s.ord.length (is s.ord),dS s.ims.length (ims s.ims),dS s.ops.length (ops s.ops)]] (RV.d (dQ (zZU s))):=
 zQj (Γ:=jVr) (let a:=(dS s.ims.length (ims s.ims)); let b:=(dS s.ops.length (ops s.ops)); (Ann.seq Ann.leaf (Ann.seq Ann.leaf (Ann.seq Ann.leaf (Ann.seq (Ann.seq Ann.leaf (Ann.loop ⟨Nat,fun k=>k≤s.ims.length∧(s.ims.take k).all Im.formed=true,fun k=>⟨[(1,AV.one (Cl.ptr 1 0)),(3,aJ (zXp s (s.ims.take k))),(69,AV.one (Cl.d a)),(70,aJ (s.ims.length:Int)),(71,aJ (k:Int))],[(1,bC [cJ s.bits,cJ s.c.a,cJ s.c.b,cJ s.c.c,cJ s.c.d,cJ s.tw,cJ s.th,Cl.d (dS s.ord.length (is s.ord)),Cl.d a,Cl.d b])]⟩,fun k=>s.ims.length - k⟩ fun k=>Ann.leaf)) (Ann.seq (Ann.seq Ann.leaf (Ann.loop ⟨Nat,fun j=>j≤s.ops.length∧(s.ops.take j).all opOk=true,fun j=>⟨[(3,aJ (zXp s s.ims)),(93,AV.one (Cl.d b)),(94,aJ (s.ops.length:Int)),(95,aJ (j:Int))],[]⟩,fun j=>s.ops.length - j⟩ fun j=>Ann.leaf)) Ann.leaf)))))) zQy Tryz.func24 rfl (Nat.le_of_ble_eq_true rfl) fun hwf=>by
  refine Eq.mpr (by kernel_rfl:_=(let h:=(ints ([dJ s.bits])); let t:=(!(fitL 0 4294967295 (ints (is s.ord)))); let e:=(zXp s s.ims); let d:=(dQ (zZU s)); let c:=(RV.d (dQ false)=RV.d d); let a:=(s.ops.length:Int); let b:=(s.ims.length:Int); let i:=([dJ s.tw,dJ s.th]); let u:=(!(fitL 0 4294967295 (ints i))); let l:=([dJ s.c.a,dJ s.c.b,dJ s.c.c,dJ s.c.d]); let v:=(!(fitL (-2147483648) 2147483647 (ints l))); let w:=fun (k:Nat)=>(k≤s.ims.length∧(s.ims.take k).all Im.formed=true); let m:=(dS s.ims.length (ims s.ims)=dS s.ims.length (ims s.ims)); let n:=(dJ b=dJ b); let x:=[dJ s.bits,dJ s.c.a,dJ s.c.b,dJ s.c.c,dJ s.c.d,dJ s.tw,dJ s.th,dS s.ord.length (is s.ord),dS s.ims.length (ims s.ims),dS s.ops.length (ops s.ops)]; let o:=((x=x)∧True); let y:=fun (k':Nat)=>(k'≤s.ims.length∧(s.ims.take k').all Im.formed=true); let z:=fun (k:Nat)=>fun (k':Nat)=>(s.ims.length - k' < s.ims.length - k); let A:=fun (k:Nat)=>fun (k':Nat)=>(dJ (wK ((k:Int)+1))=dJ (k':Int)); let B:=fun (j:Nat)=>(j≤s.ops.length∧(s.ops.take j).all opOk=true); let C:=(dS s.ops.length (ops s.ops)=dS s.ops.length (ops s.ops)); let D:=(dJ a=dJ a); tU5 ((Ans prog 51 [RV.d (dS 1 ([dJ s.bits]))] (RV.d (dQ (fitL 0 255 h))))∧tU2 (((!(fitL 0 255 h))=false→tU5 (tU8 ((Ans prog 52 [RV.d (dS 4 l)] (RV.d (dQ (fitL (-2147483648) 2147483647 (ints l)))))∧tU3 ((v=false→tU5 ((Ans prog 53 [RV.d (dS 2 i)] (RV.d (dQ (fitL 0 4294967295 (ints i)))))∧tU3 ((u=false→tU2 ((Ans prog 53 [RV.d (dS s.ord.length (is s.ord))] (RV.d (dQ (fitL 0 4294967295 (ints (is s.ord))))))∧tU3 ((t=false→tU6 (((decide (b > 64))=false→tU5 (((decide (a > 4096))=true→True∧RV.d (dQ false)=RV.d d)∧((decide (a > 4096))=false→tU7 (tU8 ((∃ k:Nat,(w k)∧(((0=0)∧(dJ (wK ((wK ((34:Int)+(wK ((4:Int)*(s.ord.length:Int)))))+(wK ((24:Int)*a))))=dJ (zXp s (s.ims.take k)))∧m∧n∧(dJ 0=dJ (k:Int))∧True)∧o))∧∀ k:Nat,let p:=((k:Int).toNat*28); let E:=(!(bAt (ims s.ims) ((k:Int).toNat*28+1+1))); let q:=(zXp s (s.ims.take k)); let f:=(imQ (ims s.ims) p); (w k)→True∧(((decide ((k:Int) < b))=true→(0≤(k:Int)∧(k:Int) < b∧(k:Int).toNat*28 < (ims s.ims).length)∧(imQr (ims s.ims) p)∧tU3 ((Ans prog 54 [imR f] (RV.d (dQ (Im.formed f))))∧True∧(((!(Im.formed f))=true→True∧RV.d (dQ false)=RV.d d)∧((!(Im.formed f))=false→tU4 ((E=true→tU6 (tU8 (∃ k':Nat,(y k')∧(z k k')∧(((0=0)∧(dJ (wK (q+(wK ((9:Int)+(wK ((10:Int)*(wK ((nAt (ims s.ims) p)*(nAt (ims s.ims) ((k:Int).toNat*28+1))))))))))=dJ (zXp s (s.ims.take k')))∧m∧n∧(A k k')∧True)∧o))))∧(E=false→tU8 (∃ k':Nat,(y k')∧(z k k')∧(((0=0)∧(dJ (wK (q+(wK ((9:Int)+(wK ((10:Int)*1))))))=dJ (zXp s (s.ims.take k')))∧m∧n∧(A k k')∧True)∧o))))))))∧((decide ((k:Int) < b))=false→tU4 ((∃ j:Nat,(B j)∧(((dJ q=dJ e)∧C∧D∧(dJ 0=dJ (j:Int))∧True)∧True))∧∀ j:Nat,let g:=([dJ (nAt (ops s.ops) ((j:Int).toNat*12)),dJ (nAt (ops s.ops) ((j:Int).toNat*12+1)),dJ (nAt (ops s.ops) ((j:Int).toNat*12+1+1+1+1)),dJ (nAt (ops s.ops) ((j:Int).toNat*12+1+1+1+1+1+1+1+1)),dJ (nAt (ops s.ops) ((j:Int).toNat*12+1+1+1+1+1+1+1+1+1))]); let r:=([dJ (nAt (ops s.ops) ((j:Int).toNat*12+1+1)),dJ (nAt (ops s.ops) ((j:Int).toNat*12+1+1+1)),dJ (nAt (ops s.ops) ((j:Int).toNat*12+1+1+1+1+1)),dJ (nAt (ops s.ops) ((j:Int).toNat*12+1+1+1+1+1+1))]); let F:=(!(fitL (-2147483648) 2147483647 (ints r))); (B j)→True∧(((decide ((j:Int) < a))=true→(0≤(j:Int)∧(j:Int) < a∧(j:Int).toNat*12 < (ops s.ops).length)∧(oqQr (ops s.ops) ((j:Int).toNat*12))∧tU5 (tU8 ((Ans prog 51 [RV.d (dS 5 g)] (RV.d (dQ (fitL 0 255 (ints g)))))∧tU2 (((!(fitL 0 255 (ints g)))=false→True∧tU8 ((Ans prog 52 [RV.d (dS 4 r)] (RV.d (dQ (fitL (-2147483648) 2147483647 (ints r)))))∧tU2 ((F=true→True∧RV.d (dQ false)=RV.d d)∧(F=false→tU2 (∃ j':Nat,(j'≤s.ops.length∧(s.ops.take j').all opOk=true)∧(s.ops.length - j' < s.ops.length - j)∧(((dJ e=dJ e)∧C∧D∧(dJ (wK ((j:Int)+1))=dJ (j':Int))∧True)∧True))))))∧((!(fitL 0 255 (ints g)))=(!false)→tU2 c)))))∧((decide ((j:Int) < a))=false→tU3 (RV.d (dQ (decide (e≤67108864)))=RV.d d)))))))))))∧((decide (b > 64))=(!false)→tU2 c)))∧(t=(!false)→tU4 c))))∧(u=(!false)→tU6 c))))∧(v=(!false)→tU8 c)))))∧((!(fitL 0 255 h))=(!false)→tU2 (tU8 c)))))) ?_
  delta tU2 tU3 tU4 tU5 tU6 tU7 tU8 dJ dQ wK dS
  simp only [sS,imQ,imQr,oqQr]
  have a1:=zY9 [s.bits]
  have a2:=zYE [s.c.a,s.c.b,s.c.c,s.c.d]
  have a3:=zYc [s.tw,s.th]
  have a4:=zYc s.ord
  clear hwf
  have fal:zX6 s=false→false=zZU s:=fun h=>by simp [zZU,h]
  simp only [zQM] at a4 ⊢
  refine ⟨a1,fun h1=>⟨a2,fun h2=>⟨a3,fun h3=>⟨a4,fun h4=>⟨fun h5=>⟨fun h6=>?_,fun h6=>?_⟩,fun h5=>?_⟩,fun h4=>?_⟩,fun h3=>?_⟩,fun h2=>?_⟩,fun h1=>?_⟩
  ·exact fal (by simp [zX6]; omega)
  ·have g1:fitL 0 255 [s.bits]=true:=h1
   have g2:fitL (-2147483648) 2147483647 [s.c.a,s.c.b,s.c.c,s.c.d]=true:=h2
   have g3:fitL 0 4294967295 [s.tw,s.th]=true:=h3
   have hd:zX6 s=true:=by simp only [zX6,g1,g2,g3,h4,Bool.and_true,Bool.true_and,Bool.and_eq_true,decide_eq_true_eq]; omega
   have w0:∀ n:Int,-1000000000000000≤n→n≤1000000000000000→IntKind.wrap .i64 n=n:=fun n a b=>IntWalk.i64_in _ ⟨by omega,by omega⟩
   have hs0:IntKind.wrap .i64 (IntKind.wrap .i64 (34+IntKind.wrap .i64 (4*(s.ord.length:Int)))+IntKind.wrap .i64 (24*(s.ops.length:Int)))=zXp s []:=by
    rw [w0 (4*(s.ord.length:Int)) (by omega) (by omega),w0 (34+4*(s.ord.length:Int)) (by omega) (by omega),w0 (24*(s.ops.length:Int)) (by omega) (by omega),w0 _ (by omega) (by omega)]
    simp [zXp,zQ0]
   refine ⟨⟨0,⟨Nat.zero_le _,by simp⟩,by rw [hs0]; rfl,rfl⟩,fun k hk=>⟨fun hlt=>?_,fun hge=>?_⟩⟩
   ·obtain ⟨k1,k2⟩:=hk
    have hk:k < s.ims.length:=by omega
    have q1:=zUO hk
    have q2:=zUP hk
    have w1:IntKind.wrap .i64 ((k:Int)+1)=((k+1:Nat):Int):=by rw [w0 _ (by omega) (by omega)]; omega
    have wf:=zJn s.ims[k] (hM _ (List.getElem_mem hk))
    simp only [q2,w1]
    refine ⟨⟨by omega,by omega,by rw [zZ2]; omega⟩,q1,wf,fun h7=>?_,fun h7=>?_⟩
    ·have h7:s.ims[k].formed=false:=h7
     simp [zZU,all_false' hk h7]
    ·have h7:s.ims[k].formed=true:=h7
     have hz:=zV9 h7
     have hzl:=zXE k2
     have hl:(s.ims.take k).length≤64:=by rw [List.length_take]; omega
     have hz2:zXp s (s.ims.take (k+1))=zXp s (s.ims.take k)+zXm s.ims[k]:=by simp only [zXp,zVs hk]; omega
     have hz3:0≤zXp s (s.ims.take k)∧zXp s (s.ims.take k)≤100000000000000:=by simp only [zXp]; omega
     have hin:k+1≤s.ims.length∧(s.ims.take (k+1)).all Im.formed=true:=⟨by omega,by rw [all_take' hk,k2,h7]; rfl⟩
     refine ⟨fun h8=>⟨k+1,hin,by omega,?_,rfl⟩,fun h8=>⟨k+1,hin,by omega,?_,rfl⟩⟩
     ·have hsz:zXm s.ims[k]=9+10*(s.ims[k].w*s.ims[k].h):=by unfold zXm; rw [if_neg (by rw [h8]; simp)]
      rw [hz2,hsz]
      generalize s.ims[k].w*s.ims[k].h=a at *
      rw [w0 a (by omega) (by omega),w0 (10*a) (by omega) (by omega),w0 (9+10*a) (by omega) (by omega),w0 _ (by omega) (by omega)]
     ·have hsz:zXm s.ims[k]=19:=by unfold zXm; rw [if_pos h8]
      rw [hz2,hsz]
      rw [w0 (10*1) (by omega) (by omega),w0 (9+10*1) (by omega) (by omega),w0 _ (by omega) (by omega)]
      omega
   ·obtain ⟨k1,k2⟩:=hk
    have:k=s.ims.length:=by omega
    subst this
    rw [List.take_length] at k2
    refine ⟨⟨0,⟨Nat.zero_le _,by simp⟩,by rw [List.take_length],rfl⟩,fun j hj=>⟨fun hlt=>?_,fun hge=>?_⟩⟩
    ·obtain ⟨j1,j2⟩:=hj
     have hj:j < s.ops.length:=by omega
     have q1:=zVx hj
     have q2:=zVy hj
     have w1:IntKind.wrap .i64 ((j:Int)+1)=((j+1:Nat):Int):=by rw [w0 _ (by omega) (by omega)]; omega
     have b1:=zY9 [s.ops[j].kind,s.ops[j].image,s.ops[j].mask,s.ops[j].oper,s.ops[j].mode]
     have b2:=zYE [s.ops[j].x,s.ops[j].y,s.ops[j].mx,s.ops[j].my]
     simp only [q2,w1]
     have bad:opOk s.ops[j]=false→false=zZU s:=fun h=>by simp [zZU,all_false' hj h]
     refine ⟨⟨by omega,by omega,by rw [zQ5]; omega⟩,q1,b1,fun h7=>⟨b2,fun h8=>bad ?_,fun h8=>⟨j+1,⟨by omega,?_⟩,by omega,rfl⟩⟩,fun h7=>bad ?_⟩
     ·have h8:fitL (-2147483648) 2147483647 [s.ops[j].x,s.ops[j].y,s.ops[j].mx,s.ops[j].my]=false:=h8
      simp [opOk,h8]
     ·have h7:fitL 0 255 [s.ops[j].kind,s.ops[j].image,s.ops[j].mask,s.ops[j].oper,s.ops[j].mode]=true:=h7
      have h8:fitL (-2147483648) 2147483647 [s.ops[j].x,s.ops[j].y,s.ops[j].mx,s.ops[j].my]=true:=h8
      rw [all_take' hj,j2]
      simp [opOk,h7,h8]
     ·have h7:fitL 0 255 [s.ops[j].kind,s.ops[j].image,s.ops[j].mask,s.ops[j].oper,s.ops[j].mode]=false:=h7
      simp [opOk,h7]
    ·obtain ⟨j1,j2⟩:=hj
     have:j=s.ops.length:=by omega
     subst this
     rw [List.take_length] at j2
     simp [zZU,hd,k2,j2]
  ·exact fal (by simp [zX6]; omega)
  ·exact fal (by simp [zX6,h4])
  ·have h3:fitL 0 4294967295 [s.tw,s.th]=false:=h3
   exact fal (by simp [zX6,h3])
  ·have h2:fitL (-2147483648) 2147483647 [s.c.a,s.c.b,s.c.c,s.c.d]=false:=h2
   exact fal (by simp [zX6,h2])
  ·have h1:fitL 0 255 [s.bits]=false:=h1
   exact fal (by simp [zX6,h1])
end
end Go.Proofs.YtheidkkebdhmkaaGreatDoor
