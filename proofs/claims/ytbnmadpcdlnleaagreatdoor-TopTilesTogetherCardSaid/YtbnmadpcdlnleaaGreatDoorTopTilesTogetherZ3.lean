/-
  Part 3 of what TopTilesTogether rests on.
-/
import Derived.Test.YtbnmadpcdlnleaaGreatDoorTopTilesTogetherZ2
import Derived.Test.YtbnmadpcdlnleaaGreatDoorProg
import Derived.RangeFuncCalls
import Derived.RegionIn
namespace Go.Proofs.YtbnmadpcdlnleaaGreatDoor
open Go.IntKind (wrap)
open Go.RowKit
set_option linter.unusedVariables false
set_option linter.unusedSimpArgs false
set_option maxRecDepth 20000
structure Oq where
  kind:Int
  image:Int
  x:Int
  y:Int
  mask:Int
  mx:Int
  my:Int
  opac:Int
  oper:Int
  mode:Int
  iso:Bool
  kno:Bool
deriving DecidableEq
def popO:Oq:=⟨3,0,0,0,0,0,0,0,0,0,false,false⟩
def Oq.fields (o:Oq):Bool:=
 if o.kind=3 then decide (o=popO)
 else !(decide (o.kind=1) && (o.iso || o.kno)) && !(decide (o.kind=2) && decide (o.image≠0∨o.x≠0∨o.y≠0)) && decide (o.mask≠0∨o.mx=0∧o.my=0)
def Oq.spare (o:Oq):Bool:=
 if o.kind=3 then !decide (o=popO)
 else if o.kind=1 then o.iso || o.kno || decide (o.mask=0∧(o.mx≠0∨o.my≠0))
 else decide (o.image≠0∨o.x≠0∨o.y≠0) || decide (o.mask=0∧(o.mx≠0∨o.my≠0))
theorem Oq.spare_fields {o:Oq} (h:o.kind=1∨o.kind=2∨o.kind=3):o.spare=!o.fields:=by
 rcases h with h | h | h <;> simp only [Oq.spare,Oq.fields,h] <;> cases o.iso <;> cases o.kno <;> by_cases h1:o.image=0 <;> by_cases h2:o.x=0 <;> by_cases h3:o.y=0 <;> by_cases h4:o.mask=0 <;> by_cases h5:o.mx=0 <;> by_cases h6:o.my=0 <;> simp [h1,h2,h3,h4,h5,h6]
def zXd (v:Int):Bool:=decide (-1048576≤v∧v≤1048576)
def Oq.cells (o:Oq):List DV:=[.int .i64 o.kind,.int .i64 o.image,.int .i64 o.x,.int .i64 o.y,.int .i64 o.mask,.int .i64 o.mx,.int .i64 o.my,.int .u16 o.opac,.int .i64 o.oper,.int .i64 o.mode,.bool o.iso,.bool o.kno]
def oqAt (xs:List DV) (i:Nat):Oq:=⟨nAt xs i,nAt xs (i+1),nAt xs (i+2),nAt xs (i+3),nAt xs (i+4),nAt xs (i+5),nAt xs (i+6),nAt xs (i+7),nAt xs (i+8),nAt xs (i+9),bAt xs (i+10),bAt xs (i+11)⟩
def ops (l:List Oq):List DV:=l.flatMap Oq.cells
theorem zZh (l:List Oq):(ops l).length=l.length*12:=by
 induction l with
 | nil=>rfl
 | cons o l ih=>simp only [ops,List.flatMap_cons,List.length_append,List.length_cons] at ih ⊢; rw [ih]; simp [Oq.cells]; omega
theorem zYY (l m:List Oq):ops (l++m)=ops l++ops m:=by simp [ops]
theorem jQQ {l:List Oq} {k:Nat} (h:k < l.length) (j:Nat) (hj:j < 12):(ops l)[k*12+j]?=l[k].cells[j]?:=by
 induction l generalizing k with
 | nil=>simp at h
 | cons o l ih=>
  have e:ops (o::l)=o.cells++ops l:=by simp [ops]
  rw [e]
  cases k with
  | zero=>simp only [List.getElem_cons_zero]; rw [List.getElem?_append_left (by simp [Oq.cells]; omega)]; simp
  | succ k=>
   rw [List.getElem?_append_right (by simp [Oq.cells]; omega)]
   have:=ih (k:=k) (by simpa using h)
   simp only [List.getElem_cons_succ]
   rw [← this]
   congr 1
   simp [Oq.cells]; omega
theorem zWd {l:List Oq} {k:Nat} (h:k < l.length):(ops l)[k*12]?=some (.int .i64 l[k].kind)∧(ops l)[k*12+1]?=some (.int .i64 l[k].image)∧(ops l)[k*12+1+1]?=some (.int .i64 l[k].x)∧(ops l)[k*12+1+1+1]?=some (.int .i64 l[k].y)∧(ops l)[k*12+1+1+1+1]?=some (.int .i64 l[k].mask)∧(ops l)[k*12+1+1+1+1+1]?=some (.int .i64 l[k].mx)∧(ops l)[k*12+1+1+1+1+1+1]?=some (.int .i64 l[k].my)∧(ops l)[k*12+1+1+1+1+1+1+1]?=some (.int .u16 l[k].opac)∧(ops l)[k*12+1+1+1+1+1+1+1+1]?=some (.int .i64 l[k].oper)∧(ops l)[k*12+1+1+1+1+1+1+1+1+1]?=some (.int .i64 l[k].mode)∧(ops l)[k*12+1+1+1+1+1+1+1+1+1+1]?=some (.bool l[k].iso)∧(ops l)[k*12+1+1+1+1+1+1+1+1+1+1+1]?=some (.bool l[k].kno):=by
 have g:=fun j hj=>jQQ h j hj
 refine ⟨g 0 (by omega),g 1 (by omega),g 2 (by omega),g 3 (by omega),g 4 (by omega),g 5 (by omega),g 6 (by omega),g 7 (by omega),g 8 (by omega),g 9 (by omega),g 10 (by omega),g 11 (by omega)⟩
theorem zWe {l:List Oq} {k:Nat} (h:k < l.length):nAt (ops l) (k*12)=l[k].kind∧nAt (ops l) (k*12+1)=l[k].image∧nAt (ops l) (k*12+1+1)=l[k].x∧nAt (ops l) (k*12+1+1+1)=l[k].y∧nAt (ops l) (k*12+1+1+1+1)=l[k].mask∧nAt (ops l) (k*12+1+1+1+1+1)=l[k].mx∧nAt (ops l) (k*12+1+1+1+1+1+1)=l[k].my∧nAt (ops l) (k*12+1+1+1+1+1+1+1)=l[k].opac∧nAt (ops l) (k*12+1+1+1+1+1+1+1+1)=l[k].oper∧nAt (ops l) (k*12+1+1+1+1+1+1+1+1+1)=l[k].mode∧bAt (ops l) (k*12+1+1+1+1+1+1+1+1+1+1)=l[k].iso∧bAt (ops l) (k*12+1+1+1+1+1+1+1+1+1+1+1)=l[k].kno:=by
 obtain ⟨e0,e1,e2,e3,e4,e5,e6,e7,e8,e9,e10,e11⟩:=zWd h
 simp only [nAt,bAt,e0,e1,e2,e3,e4,e5,e6,e7,e8,e9,e10,e11,and_self]
theorem jWq {l:List Oq} {k:Nat} (h:k < l.length):oqAt (ops l) (k*12)=l[k]:=by
 obtain ⟨e0,e1,e2,e3,e4,e5,e6,e7,e8,e9,e10,e11⟩:=zWe h
 simp only [oqAt,show k*12+2=k*12+1+1 from rfl,show k*12+3=k*12+1+1+1 from rfl,show k*12+4=k*12+1+1+1+1 from rfl,show k*12+5=k*12+1+1+1+1+1 from rfl,show k*12+6=k*12+1+1+1+1+1+1 from rfl,show k*12+7=k*12+1+1+1+1+1+1+1 from rfl,show k*12+8=k*12+1+1+1+1+1+1+1+1 from rfl,show k*12+9=k*12+1+1+1+1+1+1+1+1+1 from rfl,show k*12+10=k*12+1+1+1+1+1+1+1+1+1+1 from rfl,show k*12+11=k*12+1+1+1+1+1+1+1+1+1+1+1 from rfl,e0,e1,e2,e3,e4,e5,e6,e7,e8,e9,e10,e11]
def zQb (xs:List DV):List Oq:=(List.range (xs.length / 12)).map fun k=>oqAt xs (k*12)
theorem zQG (l:List Oq):zQb (ops l)=l:=by
 have e:(ops l).length / 12=l.length:=by rw [zZh]; omega
 unfold zQb
 rw [e]
 refine List.ext_getElem (by simp) fun i h1 h2=>?_
 simp only [List.getElem_map,List.getElem_range]
 exact jWq h2
def ctxB (l:List Oq):Bool:=match l.getLast? with
 | none=>true
 | some o=>o.iso && !o.kno
open Go.Proofs.Tryz (prog)
theorem zQf:prog.follows .mixedOrders=true:=by kernel_rfl
def gZ0 (xs:List RV):Option RV:=match xs with | [.d (.int _ n),.d (.int _ k)]=>some (rJ (modS n k)) | _=>none
def gamM:Gam where
 pure:=fun f xs=>
  if f=27 then gZ0 xs else
  none
 modes:=fun f=>
  none
 proc:=fun f xs bs=>
  none
 iter:=fun f cs=>
  none
theorem zQn (n k:Int):Ans prog 27 [rJ (n),rJ (k)] (rJ ((modS n k))):=
 zQa (Γ:=gamM) aL zQf Tryz.func27 rfl (nL rfl) fun hwf=>by
  refine Eq.mpr (by kernel_rfl:_=(True∧True∧True∧(((decide (k < 1))=true→True∧rJ (0:Int)=rJ (modS n k))∧((decide (k < 1))=false→True∧True∧(k≠0)∧True∧True∧True∧(k≠0)∧True∧rJ (Int.tmod (wK ((Int.tmod n k)+k)) k)=rJ (modS n k))))) ?_
  delta wK rJ
  simp only [true_and,and_true,RV.d.injEq,DV.int.injEq,forall_const,Bool.not_false,Bool.not_true]
  unfold modS; grind
section
attribute [local irreducible] Ans AnsO AnsG AnsN AnsI
theorem jWL (e n:Nat) (b:Bool) (l:List Int):zQC ⟨.tup [.one (.ref 0 n),.one (.d (.bool b))],[.row e 1 (is l)],true⟩=True:=by
 simp only [zQC,AV.flatV,AV.flatVL,Cl.flatV,DV.flat,Bx.flatVL,Bx.flatV,true_and,and_true,eq_iff_iff,iff_true]
 intro d hd
 obtain ⟨i,_,rfl⟩:=List.mem_map.1 hd
 rfl
def gZ1 (xs:List RV):Option RV:=match xs with | []=>some (RV.tup [RV.tup [rJ 3,rJ 1]]) | [.d (.sl n xs),.d (.int _ m)]=>some (RV.d (dS (zJL (ints xs) m).length (is (zJL (ints xs) m)))) | _=>none
def gZ2 (xs:List AV) (bs:List Bx):Option Ret:=match xs,bs with | [AV.one (Cl.d (DV.sl n xs)),AV.one (Cl.d (DV.int _ m))],[]=>some ⟨AV.tup [AV.one (Cl.ref 0 (zXi (ints xs) m).length),AV.one (Cl.d (dQ (zZC (ints xs) m)))],[Bx.row 3 1 (is (zXi (ints xs) m))],true⟩ | _,_=>none
def gamO:Gam where
 pure:=fun f xs=>
  if f=27 then gZ0 xs else
  if f=28 then (match xs with | [.d (.sl n xs),.d (.int _ i)]=>some (rJ (atS (ints xs) i)) | _=>none) else
  if f=31 then gZ1 xs else
  none
 modes:=fun f=>
  if f=79 then some ([true,true],0,1) else
  none
 proc:=fun f xs bs=>
  if f=79 then gZ2 xs bs else
  none
 iter:=fun f cs=>
  none
theorem jUa (n:Nat) (xs:List DV) (i:Int) (hx:xs=is (ints xs)∧n=xs.length):Ans prog 28 [rD (dS n xs),rJ (i)] (rJ ((atS (ints xs) i))):=
 zQa (Γ:=gamO) aL zQf Tryz.func28 rfl (nL rfl) fun hwf=>by
  refine Eq.mpr (by kernel_rfl:_=(let a:=(dJ (atS (ints xs) i)); let b:=(dJ (nAt xs (i.toNat*1))); tU4 (((decide (i < 0))=false→tU5 (((decide (i≥(n:Int)))=true→True∧rJ 0=rD a)∧((decide (i≥(n:Int)))=false→tU2 ((0≤i∧i < (n:Int)∧i.toNat*1 < xs.length)∧((xs[i.toNat*1]?=some b)∧True)∧True∧rD b=rD a))))∧((decide (i < 0))=(!false)→tU2 (rJ 0=rD a))))) ?_
  delta dJ rJ
  simp only [sS,zQn]
  obtain ⟨hx,rfl⟩:=hx
  generalize hl:ints xs=l at *
  subst hx
  simp only [zQH,Nat.mul_one]
  refine ⟨fun h1=>⟨fun h2=>?_,fun h2=>?_⟩,fun h1=>by simp [atS,h1]⟩
  ·have:l[i.toNat]?=none:=List.getElem?_eq_none (by omega)
   simp [atS,h1,this]
  ·have h:i.toNat < l.length:=by omega
   refine ⟨by omega,?_,?_⟩
   ·rw [zGG h]; exact jYv h
   ·rw [zGG h]; simp [atS,h1,List.getElem?_eq_getElem h]
theorem zUf (n:Nat) (xs:List DV) (m:Int) (hx:xs=is (ints xs)∧n=xs.length) (hm:0≤m):AnsO prog 31 [rD (dS n xs),rJ (m)] 3 1 ((zJL (ints xs) m).length) (is (zJL (ints xs) m)):=
 zVw (t:=4) (Γ:=gamO) (let a:=(0,aO (cD (dS n xs))); let b:=(1,aJ m); (aQ aL (aQ aL (aQ aL (aQ (aQ aL (Ann.loop ⟨Nat,fun k=>k≤m.toNat,fun k=>⟨[a,b,(5,aO (Cl.ref 1005 m.toNat)),(6,aJ (k:Int))],[(1005,bR 3 1 (is (upto k)++List.replicate (m.toNat - k) (dJ 0)))]⟩,fun k=>m.toNat - k⟩ fun k=>aL)) (aQ aL (aQ (aQ aL (Ann.loop ⟨Nat,fun j=>j≤m.toNat,fun j=>⟨[a,b,(5,aO (cD (dS (m.toNat - j) (is (stp (ints xs) m.toNat j).1)))),(7,aO (Cl.ref 1007 j)),(8,aJ (j:Int))],[(1007,bR 3 1 (is (stp (ints xs) m.toNat j).2))]⟩,fun j=>m.toNat - j⟩ fun j=>aL)) aL))))))) zQf Tryz.func31 rfl (nL rfl) rfl fun hwf=>by
  refine Eq.mpr (by kernel_rfl:_=(let t:=((0:Int).toNat*1); let f:=(dS n xs=dS n xs); let b:=(zJL (ints xs) m); let g:=(dJ m=dJ m); tU5 ((((n:Int)==0)=false→tU3 (((decide (m > 64))=true→True∧b.length=0∧is b=[])∧((decide (m > 64))=false→True∧(0≤m∧m≤m∧m≤(maxLen:Int)∧((8:Nat):Int)*m≤281474976710656)∧tU2 ((∃ k:Nat,(k≤m.toNat)∧((f∧g∧(m.toNat=m.toNat)∧(dJ 0=dJ (k:Int))∧True)∧((List.replicate m.toNat (dJ 0)=is (upto k)++List.replicate (m.toNat - k) (dJ 0))∧True)))∧∀ k:Nat,let o:=(is (upto k)++List.replicate (m.toNat - k) (dJ 0)); (k≤m.toNat)→tU3 (((decide ((k:Int) < m))=true→tU3 ((0≤(k:Int)∧(k:Int) < (m.toNat:Int))∧(k*1+1≤o.length)∧tU3 (∃ k':Nat,(k'≤m.toNat)∧(m.toNat - k' < m.toNat - k)∧((f∧g∧(m.toNat=m.toNat)∧(dJ (wK ((k:Int)+1))=dJ (k':Int))∧True)∧((List.set o (k*1) (dJ (k:Int))=is (upto k')++List.replicate (m.toNat - k') (dJ 0))∧True)))))∧((decide ((k:Int) < m))=false→tU2 ((∃ j:Nat,(j≤m.toNat)∧((f∧g∧(dS m.toNat o=dS (m.toNat - j) (is (stp (ints xs) m.toNat j).1))∧(0=j)∧(dJ 0=dJ (j:Int))∧True)∧(([]=is (stp (ints xs) m.toNat j).2)∧True)))∧∀ j:Nat,let h:=(stp (ints xs) m.toNat j); let d:=(is h.1); let c:=(atS (ints xs) (j:Int)); let a:=(((m.toNat - j):Nat):Int); let i:=(modS c a - 0); let p:=(List.take (i.toNat*1) (List.drop t d)); let e:=(modS c a); let l:=(e+1); let q:=(a - wK l); let r:=(nAt d (e.toNat*1)); let s:=(List.take (q.toNat*1) (List.drop ((wK l).toNat*1) d)); (j≤m.toNat)→tU3 (((decide (a > 0))=true→tU2 ((Ans prog 28 [rD (dS n xs),rJ (j:Int)] (rJ c))∧tU2 ((Ans prog 27 [rJ c,rJ a] (rJ e))∧tU4 ((0≤modS c a∧modS c a < a∧e.toNat*1 < d.length)∧((d[e.toNat*1]?=some (dJ r))∧True)∧True∧(zZL 1 8 j 1 (is h.2) ([dJ r]))∧tU3 ((0≤(0:Int)∧(0:Int)≤modS c a∧modS c a≤a)∧(zZL 1 8 0 i.toNat ([]) p)∧tU3 ((0≤wK l∧wK l≤a∧a≤a)∧(zZL 1 8 i.toNat q.toNat p s)∧True∧(true=true)∧tU3 (∃ j':Nat,(j'≤m.toNat)∧(m.toNat - j' < m.toNat - j)∧((f∧g∧(dS (i.toNat+q.toNat) (p++s)=dS (m.toNat - j') (is (stp (ints xs) m.toNat j').1))∧(j+1=j')∧(dJ (wK ((j:Int)+1))=dJ (j':Int))∧True)∧(((is h.2)++([dJ r])=is (stp (ints xs) m.toNat j').2)∧True)))))))))∧((decide (a > 0))=false→tU2 ((3=3∧1=1)∧(is b).length=b.length*1∧j=b.length∧is h.2=is b))))))))))∧(((n:Int)==0)=(!false)→tU2 (b.length=0∧is b=[]))))) ?_
  delta dJ wK dS rJ
  simp only [sS,zQn]
  obtain ⟨hx,rfl⟩:=hx
  generalize hl:ints xs=l at *
  subst hx
  have z0:l.length=0→zJL l m=[]:=fun h=>by simp [zJL,h]
  have z1:64 < m→zJL l m=[]:=fun h=>by simp [zJL,h]
  refine ⟨fun hne=>⟨fun hbig=>by rw [z1 hbig]; exact ⟨rfl,rfl⟩,fun hsm=>?_⟩,fun he=>by rw [z0 (by simpa [zQH] using he)]; exact ⟨rfl,rfl⟩⟩
  have hll:l.length≠0:=by simpa [zQH] using hne
  have hp:zJL l m=(stp l m.toNat m.toNat).2:=by unfold zJL; rw [if_neg (by omega)]
  obtain ⟨N,rfl⟩:∃ N:Nat,m=(N:Int):=⟨m.toNat,by omega⟩
  rw [hp]
  simp only [Int.toNat_natCast,Nat.mul_one,maxLen]
  have hN:N≤64:=by omega
  have wr:∀ n:Int,-1000000≤n→n≤1000000→wrap .i64 n=n:=fun n h h'=>by rw [IntKind.wrap_i64]; omega
  refine ⟨by omega,⟨0,Nat.zero_le _,rfl,by simp [upto,is]⟩,fun k hk=>⟨fun hlt=>?_,fun hge=>⟨⟨0,Nat.zero_le _,⟨⟨rfl,?_⟩,rfl,rfl⟩,rfl⟩,fun j hj=>⟨fun hlt=>?_,fun hge=>?_⟩⟩⟩⟩
  ·refine ⟨by omega,by rw [List.length_append,zQH,zVW,List.length_replicate]; omega,k+1,by omega,by omega,by rw [wr _ (by omega) (by omega)]; omega,jVG (by omega)⟩
  ·have:k=N:=by omega
   subst this
   simp [stp]
  ·obtain ⟨h1,h2⟩:=zU6 l hN j (by omega)
   have hK:=jYr (v:=atS l j) (m:=(stp l N j).1.length) (by omega) (by omega)
   have e1:(stp l N (j+1)).1=(stp l N j).1.take (modS (atS l j) (stp l N j).1.length).toNat++(stp l N j).1.drop ((modS (atS l j) (stp l N j).1.length).toNat+1):=rfl
   have e2:(stp l N (j+1)).2=(stp l N j).2++[((stp l N j).1[(modS (atS l j) (stp l N j).1.length).toNat]?).getD 0]:=rfl
   have ha:=jUa l.length (is l) (j:Int) ⟨by rw [zZD],by rw [zQH]⟩
   rw [zZD] at ha
   generalize (stp l N j).1=r at *
   generalize (stp l N j).2=o at *
   subst h2
   rw [h1] at hK e1 e2
   generalize hg:modS (atS l (o.length:Int)) ((N - o.length:Nat):Int)=g at *
   obtain ⟨K,rfl⟩:∃ K:Nat,g=(K:Int):=⟨g.toNat,by omega⟩
   simp only [Int.toNat_natCast] at hK e1 e2 ⊢
   have w1:wrap .i64 ((K:Int)+1)=((K+1:Nat):Int):=by rw [wr _ (by omega) (by omega)]; omega
   have t1:((K:Int) - 0).toNat=K:=by omega
   have t2:(((N - o.length:Nat):Int) - ((K+1:Nat):Int)).toNat=N - o.length - (K+1):=by omega
   have t3:Int.toNat 0=0:=rfl
   have hKr:K < r.length:=by omega
   have d1:List.take (N - o.length - (K+1)) (List.drop (K+1) (is r))=is (r.drop (K+1)):=by rw [jUP,List.take_of_length_le (by rw [zQH,List.length_drop]; omega)]
   simp only [w1,t1,t2,t3,Int.toNat_natCast,List.drop_zero,d1,jUO,zQH,zZL,Nat.mul_one,zKN,zGG hKr,List.getElem?_eq_getElem hKr,Option.getD_some,maxLen] at e2 ⊢
   refine ⟨ha,⟨by omega,by omega,hKr⟩,jYv hKr,⟨trivial,rfl,by omega,by omega⟩,by omega,⟨rfl,?_,by omega,by omega⟩,by omega,⟨?_,?_,by omega,by omega⟩,o.length+1,by omega,by omega,⟨⟨by omega,by rw [e1]⟩,rfl,by rw [wr _ (by omega) (by omega)]; omega⟩,by rw [e2,← zKN]; rfl⟩
   all_goals simp
   all_goals omega
  ·have:j=N:=by omega
   subst this
   have h2:=(zU6 l hN j (Nat.le_refl _)).2
   rw [zQH,h2]
   exact ⟨rfl,rfl,rfl⟩
theorem zVn (n:Nat) (xs:List DV) (m:Int) (hx:xs=is (ints xs)∧n=xs.length):AnsG prog 79 0 [aO (cD (dS n xs)),aJ ((m))] [] ⟨AV.tup [aO (Cl.ref 0 ((zXi (ints xs) m).length)),aO (cD (dQ (zZC (ints xs) m)))],[bR 3 1 (is (zXi (ints xs) m))],true⟩:=
 zZp (Γ:=gamO) (let a:=(seqL (ints xs) m); Ann.seq aL (aQ aL (aQ aL (aQ aL (aQ (aQ aL (Ann.loop ⟨Nat,fun k=>k≤m.toNat∧zJ8 (a.take k) m,fun k=>⟨[(0,aO (cD (dS n xs))),(1,aJ m),(6,aO (Cl.ref 1006 m.toNat)),(7,aO (Cl.ref 1007 m.toNat)),(31,aJ (m.toNat:Int)),(32,aJ (k:Int))],[(1006,bR 3 1 (zXR a k)),(1007,bR 4 1 (zYd (a.take k) m.toNat))]⟩,fun k=>m.toNat - k⟩ fun k=>aL)) aL))))) zQf Tryz.func79 rfl (nL rfl) rfl fun hwf hbx=>by
  refine Eq.mpr (by kernel_rfl:_=(let E:=(dS n xs=dS n xs); let F:=(zZC (ints xs) m); let v:=(decide ((n:Int) > 0)); let u:=(m.toNat=m.toNat); let q:=(m.toNat:Int); let r:=(zXi (ints xs) m); let Q:=(((m.toNat=r.length)∧(dQ true=dQ F)∧True)∧True); let c:=[bR 3 1 (is r)]; let d:=[aO (Cl.ref 0 r.length),aO (cD (dQ F))]; let a:=(seqL (ints xs) m); let e:=((((0=r.length)∧(dQ false=dQ F)∧True)∧True)∧(([]=is r)∧True)); let R:=(0≤m∧m≤m∧m≤(maxLen:Int)∧((8:Nat):Int)*m≤281474976710656); let S:=(0≤m∧m≤m∧m≤(maxLen:Int)∧((1:Nat):Int)*m≤281474976710656); let w:=fun (k:Nat)=>(k≤m.toNat∧zJ8 (a.take k) m); let G:=(dJ m=dJ m); let H:=(dJ q=dJ q); let b:=fun (k:Nat)=>(0≤(k:Int)∧(k:Int) < q); let f:=fun (k:Nat)=>(((List.set (List.set (zXR a k) (k*1) (dJ (k:Int))) (k*1) (dJ (nAt xs (k*1))))[k*1]?=some (dJ (nAt (List.set (List.set (zXR a k) (k*1) (dJ (k:Int))) (k*1) (dJ (nAt xs (k*1)))) (k*1))))∧True); let x:=fun (k:Nat)=>(0≤nAt (List.set (List.set (zXR a k) (k*1) (dJ (k:Int))) (k*1) (dJ (nAt xs (k*1)))) (k*1)∧nAt (List.set (List.set (zXR a k) (k*1) (dJ (k:Int))) (k*1) (dJ (nAt xs (k*1)))) (k*1) < q); let y:=fun (k':Nat)=>(k'≤m.toNat∧zJ8 (a.take k') m); let z:=fun (k:Nat)=>fun (k':Nat)=>(m.toNat - k' < m.toNat - k); let A:=fun (k:Nat)=>fun (k':Nat)=>(E∧G∧u∧u∧H∧(dJ (wK ((k:Int)+1))=dJ (k':Int))∧True); let g:=fun (k:Nat)=>(((List.set (zXR a k) (k*1) (dJ (k:Int)))[k*1]?=some (dJ (nAt (List.set (zXR a k) (k*1) (dJ (k:Int))) (k*1))))∧True); let B:=fun (k:Nat)=>(0≤nAt (List.set (zXR a k) (k*1) (dJ (k:Int))) (k*1)∧nAt (List.set (zXR a k) (k*1) (dJ (k:Int))) (k*1) < q); tU5 (((decide (m < 0))=false→tU4 (((decide (m > 16777216))=false→tU4 ((((n:Int) != 0)=true→tU6 ((((n:Int) != m)=true→tU2 (e∧zQC ⟨AV.tup d,c,true⟩))∧(((n:Int) != m)=false→True∧R∧tU2 (S∧tU2 ((m.toNat≤maxLen)∧True∧((∃ k:Nat,(w k)∧((E∧G∧u∧u∧H∧(dJ 0=dJ (k:Int))∧True)∧((List.replicate m.toNat (dJ 0)=zXR a k)∧(List.replicate m.toNat (dQ false)=zYd (a.take k) m.toNat)∧True)))∧∀ k:Nat,let T:=(decide ((k:Int) < q)); let I:=(zXR a k); let s:=(k*1); let J:=(dJ (nAt xs s)); let C:=(List.set I s (dJ (k:Int))); let h:=(zYd (a.take k) m.toNat); let i:=(nAt C s); let K:=(bAt h (i.toNat*1)); let j:=(nAt (List.set C s J) s); let L:=(bAt h (j.toNat*1)); (w k)→True∧((T=true→tU5 ((b k)∧(k*1+1≤I.length)∧tU3 ((v=true→tU4 ((0≤(k:Int)∧(k:Int) < (n:Int)∧k*1 < xs.length)∧((xs[k*1]?=some J)∧True)∧(b k)∧(k*1+1≤C.length)∧tU2 ((b k)∧(f k)∧tU2 (((decide (j < 0))=false→tU2 ((b k)∧(f k)∧tU4 (((decide (j≥m))=false→tU3 ((b k)∧(f k)∧(x k)∧((h[j.toNat*1]?=some (dQ L))∧True)∧True∧((L=true→tU2 (e∧zQC ⟨AV.tup d,c,true⟩))∧(L=false→tU3 ((b k)∧(f k)∧(x k)∧(j.toNat*1+1≤h.length)∧tU2 (∃ k':Nat,(y k')∧(z k k')∧((A k k')∧((List.set C s J=zXR a k')∧(List.set h (j.toNat*1) (dQ true)=zYd (a.take k') m.toNat)∧True))))))))∧((decide (j≥m))=(!false)→tU3 (e∧zQC ⟨AV.tup d,c,true⟩)))))∧((decide (j < 0))=(!false)→tU5 (e∧zQC ⟨AV.tup d,c,true⟩))))))∧(v=false→tU2 ((b k)∧(g k)∧tU2 (((decide (i < 0))=false→tU2 ((b k)∧(g k)∧tU4 (((decide (i≥m))=false→tU3 ((b k)∧(g k)∧(B k)∧((h[i.toNat*1]?=some (dQ K))∧True)∧True∧((K=true→tU2 (e∧zQC ⟨AV.tup d,c,true⟩))∧(K=false→tU3 ((b k)∧(g k)∧(B k)∧(i.toNat*1+1≤h.length)∧tU2 (∃ k':Nat,(y k')∧(z k k')∧((A k k')∧((List.set I s (dJ (k:Int))=zXR a k')∧(List.set h (i.toNat*1) (dQ true)=zYd (a.take k') m.toNat)∧True))))))))∧((decide (i≥m))=(!false)→tU3 (e∧zQC ⟨AV.tup d,c,true⟩)))))∧((decide (i < 0))=(!false)→tU5 (e∧zQC ⟨AV.tup d,c,true⟩))))))))∧(T=false→tU3 ((Q∧((zXR a k=is r)∧True))∧zQC ⟨AV.tup d,c,true⟩)))))))))∧(((n:Int) != 0)=(!true)→tU3 (R∧tU2 (S∧tU2 ((m.toNat≤maxLen)∧True∧((∃ k:Nat,(w k)∧((E∧G∧u∧u∧H∧(dJ 0=dJ (k:Int))∧True)∧((List.replicate m.toNat (dJ 0)=zXR a k)∧(List.replicate m.toNat (dQ false)=zYd (a.take k) m.toNat)∧True)))∧∀ k:Nat,let U:=(decide ((k:Int) < q)); let M:=(zXR a k); let t:=(k*1); let N:=(dJ (nAt xs t)); let D:=(List.set M t (dJ (k:Int))); let l:=(zYd (a.take k) m.toNat); let o:=(nAt D t); let O:=(bAt l (o.toNat*1)); let p:=(nAt (List.set D t N) t); let P:=(bAt l (p.toNat*1)); (w k)→True∧((U=true→tU5 ((b k)∧(k*1+1≤M.length)∧tU3 ((v=true→tU4 ((0≤(k:Int)∧(k:Int) < (n:Int)∧k*1 < xs.length)∧((xs[k*1]?=some N)∧True)∧(b k)∧(k*1+1≤D.length)∧tU2 ((b k)∧(f k)∧tU2 (((decide (p < 0))=false→tU2 ((b k)∧(f k)∧tU4 (((decide (p≥m))=false→tU3 ((b k)∧(f k)∧(x k)∧((l[p.toNat*1]?=some (dQ P))∧True)∧True∧((P=true→tU2 (e∧zQC ⟨AV.tup d,c,true⟩))∧(P=false→tU3 ((b k)∧(f k)∧(x k)∧(p.toNat*1+1≤l.length)∧tU2 (∃ k':Nat,(y k')∧(z k k')∧((A k k')∧((List.set D t N=zXR a k')∧(List.set l (p.toNat*1) (dQ true)=zYd (a.take k') m.toNat)∧True))))))))∧((decide (p≥m))=(!false)→tU3 (e∧zQC ⟨AV.tup d,c,true⟩)))))∧((decide (p < 0))=(!false)→tU5 (e∧zQC ⟨AV.tup d,c,true⟩))))))∧(v=false→tU2 ((b k)∧(g k)∧tU2 (((decide (o < 0))=false→tU2 ((b k)∧(g k)∧tU4 (((decide (o≥m))=false→tU3 ((b k)∧(g k)∧(B k)∧((l[o.toNat*1]?=some (dQ O))∧True)∧True∧((O=true→tU2 (e∧zQC ⟨AV.tup d,c,true⟩))∧(O=false→tU3 ((b k)∧(g k)∧(B k)∧(o.toNat*1+1≤l.length)∧tU2 (∃ k':Nat,(y k')∧(z k k')∧((A k k')∧((List.set M t (dJ (k:Int))=zXR a k')∧(List.set l (o.toNat*1) (dQ true)=zYd (a.take k') m.toNat)∧True))))))))∧((decide (o≥m))=(!false)→tU3 (e∧zQC ⟨AV.tup d,c,true⟩)))))∧((decide (o < 0))=(!false)→tU5 (e∧zQC ⟨AV.tup d,c,true⟩))))))))∧(U=false→tU3 ((Q∧((zXR a k=is r)∧True))∧zQC ⟨AV.tup d,c,true⟩))))))))))∧((decide (m > 16777216))=(!false)→tU3 (e∧zQC ⟨AV.tup d,c,true⟩))))∧((decide (m < 0))=(!false)→tU5 (e∧zQC ⟨AV.tup d,c,true⟩))))) ?_
  delta dJ dQ wK dS
  simp only [sS,zQn]
  obtain ⟨hx,rfl⟩:=hx
  generalize hl:ints xs=l at *
  subst hx
  simp only [zQH,jWL,and_true]
  refine ⟨fun h0=>⟨fun hM=>⟨fun hp=>⟨fun hne=>?_,fun he=>?_⟩,fun hz=>?_⟩,fun hM=>(by have e:=jZ0 (l:=l) (m:=m) (.inr (.inl (by omega))); rw [e.1,e.2]; exact ⟨⟨rfl,rfl⟩,rfl⟩)⟩,fun h0=>(by have e:=jZ0 (l:=l) (m:=m) (.inl (by omega)); rw [e.1,e.2]; exact ⟨⟨rfl,rfl⟩,rfl⟩)⟩
  ·have e:=jZ0 (l:=l) (m:=m) (.inr (.inr (.inl ⟨by simpa using hp,by simpa using hne⟩)))
   rw [e.1,e.2]; exact ⟨⟨rfl,rfl⟩,rfl⟩
  ·have hl:l.length=0∨(l.length:Int)=m:=.inr (by simpa using he)
   have hp':l.length≠0:=by simpa using hp
   have hS:=jQA hl
   refine ⟨⟨by omega,by omega,by unfold maxLen; omega,by omega⟩,⟨by omega,by omega,by unfold maxLen; omega,by omega⟩,by unfold maxLen; omega,⟨0,⟨by omega,by simp [zJ8]⟩,rfl,by simp [zXR,hS,is],by simp [zYd,List.map_const']⟩,fun k hk=>⟨fun hlt=>?_,fun hge=>?_⟩⟩
   ·have hkS:k < (seqL l m).length:=by omega
    have hkl:k < l.length:=by omega
    have hv0:nAt (is l) k=(seqL l m)[k]:=by
     rw [zGG hkl]
     simp [seqL,show l≠[] by intro e; subst e; simp at hkl]
    have hi:(is l)[k]?=some (.int .i64 (seqL l m)[k]):=by rw [jYv hkl,← zGG hkl,hv0]
    have hv:(seqL l m)[k]=(seqL l m)[k]:=rfl
    have f1:=zWu (Nat.le_of_lt hkS)
    have f2:=jXC hkS hv
    have f3:=jZf hkS
    have f4:=jXD hkS
    have f5:=zWu (S:=seqL l m) (k:=k+1) (by omega)
    have r:=jZZ (by omega) (by omega) hS hkS hk.2 rfl (Bad:=(0=(zXi l m).length∧false=zZC l m)∧[]=is (zXi l m)) (fun hb=>by have e:=jZ0 (l:=l) (m:=m) (.inr (.inr (.inr hb))); rw [e.1,e.2]; exact ⟨⟨rfl,rfl⟩,rfl⟩)
    simp only [Nat.mul_one,List.set_set,List.length_set,f1,f2,f3,f4,f5,hv0,hi] at r ⊢
    refine ⟨by omega,by omega,fun _=>⟨by omega,trivial,by omega,by omega,by omega,trivial,fun a=>⟨by omega,trivial,fun b=>?_,(r.1 a).2⟩,r.2⟩,fun hz=>absurd (by omega) hz⟩
    obtain ⟨r1,r2,r3,r4⟩:=(r.1 a).1 b
    refine ⟨by omega,trivial,r1,r2,r3,fun c=>?_⟩
    obtain ⟨s1,s2,_,k',s3,s4,⟨rfl,s6⟩,s7,_⟩:=r4 c
    exact ⟨by omega,trivial,s1,s2,k+1,s3,s4,s6,rfl,s7⟩
   ·have hkm:k=(seqL l m).length:=by omega
    have hg:=hk.2
    rw [List.take_of_length_le (by omega)] at hg
    have e:=jQO (by omega) (by omega) hl hg
    rw [e.1,e.2]
    exact ⟨⟨by omega,rfl⟩,by rw [hkm,jXE]⟩
  ·have hl:l.length=0∨(l.length:Int)=m:=.inl (by simpa using hz)
   have hz':l.length=0:=by simpa using hz
   have hS:=jQA hl
   refine ⟨⟨by omega,by omega,by unfold maxLen; omega,by omega⟩,⟨by omega,by omega,by unfold maxLen; omega,by omega⟩,by unfold maxLen; omega,⟨0,⟨by omega,by simp [zJ8]⟩,rfl,by simp [zXR,hS,is],by simp [zYd,List.map_const']⟩,fun k hk=>⟨fun hlt=>?_,fun hge=>?_⟩⟩
   ·have hkS:k < (seqL l m).length:=by omega
    have hv:(k:Int)=(seqL l m)[k]:=by
     simp [seqL,show l=[] by exact List.eq_nil_of_length_eq_zero hz',upto]
    have f1:=zWu (Nat.le_of_lt hkS)
    have f2:=jXC hkS hv
    have f3:=jZf hkS
    have f4:=jXD hkS
    have f5:=zWu (S:=seqL l m) (k:=k+1) (by omega)
    have r:=jZZ (by omega) (by omega) hS hkS hk.2 rfl (Bad:=(0=(zXi l m).length∧false=zZC l m)∧[]=is (zXi l m)) (fun hb=>by have e:=jZ0 (l:=l) (m:=m) (.inr (.inr (.inr hb))); rw [e.1,e.2]; exact ⟨⟨rfl,rfl⟩,rfl⟩)
    simp only [Nat.mul_one,List.set_set,List.length_set,f1,f2,f3,f4,f5] at r ⊢
    refine ⟨by omega,by omega,fun hp=>absurd hp (by omega),fun _=>⟨by omega,trivial,fun a=>⟨by omega,trivial,fun b=>?_,(r.1 a).2⟩,r.2⟩⟩
    obtain ⟨r1,r2,r3,r4⟩:=(r.1 a).1 b
    refine ⟨by omega,trivial,r1,r2,r3,fun c=>?_⟩
    obtain ⟨s1,s2,_,k',s3,s4,⟨rfl,s6⟩,s7,_⟩:=r4 c
    exact ⟨by omega,trivial,s1,s2,k+1,s3,s4,s6,rfl,s7⟩
   ·have hkm:k=(seqL l m).length:=by omega
    have hg:=hk.2
    rw [List.take_of_length_le (by omega)] at hg
    have e:=jQO (by omega) (by omega) hl hg
    rw [e.1,e.2]
    exact ⟨⟨by omega,rfl⟩,by rw [hkm,jXE]⟩
end
def zXB (l:Int) (xs:List DV):Bool:=(ints xs).all fun v=>decide (-l≤v) && decide (v≤l)
def gZ3 (xs:List RV):Option RV:=match xs with | [.agg [.int _ a,.int _ b,.int _ c,.int _ d]]=>some (RV.d (dQ (Rc.valid ⟨a,b,c,d⟩))) | _=>none
def gZ4 (xs:List RV):Option RV:=match xs with | [.agg [.int _ a,.int _ b,.int _ c,.int _ d]]=>some (RV.d (dQ (Rc.empty ⟨a,b,c,d⟩))) | _=>none
def gZ5 (xs:List RV):Option RV:=match xs with | [.agg [.int _ a,.int _ b,.int _ c,.int _ d]]=>some (rJ (Rc.area ⟨a,b,c,d⟩)) | _=>none
def gZ6 (xs:List RV):Option RV:=match xs with | [.agg [.int _ a,.int _ b,.int _ c,.int _ d],.agg [.int _ a',.int _ b',.int _ c',.int _ d']]=>some (RV.d (dQ (Rc.covers ⟨a,b,c,d⟩ ⟨a',b',c',d'⟩))) | _=>none
def gZ7 (xs:List RV):Option RV:=match xs with | [.agg [.int _ a,.int _ b,.int _ c,.int _ d],.agg [.int _ a',.int _ b',.int _ c',.int _ d']]=>some (RV.agg [dJ (Rc.inter ⟨a,b,c,d⟩ ⟨a',b',c',d'⟩).a,dJ (Rc.inter ⟨a,b,c,d⟩ ⟨a',b',c',d'⟩).b,dJ (Rc.inter ⟨a,b,c,d⟩ ⟨a',b',c',d'⟩).c,dJ (Rc.inter ⟨a,b,c,d⟩ ⟨a',b',c',d'⟩).d]) | _=>none
def gam:Gam where
 pure:=fun f xs=>
  if f=162 then (match xs with | [.d (.int _ l),.d (.sl n xs)]=>some (RV.d (dQ (zXB l xs))) | _=>none) else
  if f=85 then gZ3 xs else
  if f=84 then gZ3 xs else
  if f=40 then gZ4 xs else
  if f=207 then (match xs with | [.agg [.int _ a,.int _ b,.int _ c,.int _ d]]=>some (RV.agg [dJ (Rc.clean ⟨a,b,c,d⟩).a,dJ (Rc.clean ⟨a,b,c,d⟩).b,dJ (Rc.clean ⟨a,b,c,d⟩).c,dJ (Rc.clean ⟨a,b,c,d⟩).d]) | _=>none) else
  if f=151 then gZ5 xs else
  if f=104 then (match xs with | [.agg [.int _ a,.int _ b,.int _ c,.int _ d],.d (.int _ x),.d (.int _ y)]=>some (RV.d (dQ (Rc.has ⟨a,b,c,d⟩ x y))) | _=>none) else
  if f=41 then gZ6 xs else
  if f=157 then gZ7 xs else
  if f=39 then gZ4 xs else
  none
 modes:=fun f=>
  none
 proc:=fun f xs bs=>
  none
 iter:=fun f cs=>
  none
theorem zQS (a b c d:Int):Ans prog 84 [rA [dJ a,dJ b,dJ c,dJ d]] (rD (dQ (Rc.valid ⟨a,b,c,d⟩))):=
 zQa (Γ:=gam) aL zQf Tryz.func84 rfl (nL rfl) fun hwf=>by
  refine Eq.mpr (by kernel_rfl:_=(let f:=(decide (d≥(-1073741824:Int))); let g:=(decide (c≥(-1073741824:Int))); let h:=(decide (b≥(-1073741824:Int))); let i:=(decide (a≥(-1073741824:Int))); let e:=(dQ (Rc.valid ⟨a,b,c,d⟩)); True∧True∧True∧True∧True∧True∧((i=true→True∧True∧True∧True∧True∧(((decide (a≤1073741824))=true→True∧True∧True∧True∧True∧((h=true→True∧True∧True∧True∧True∧(((decide (b≤1073741824))=true→True∧True∧True∧True∧True∧((g=true→True∧True∧True∧True∧True∧(((decide (c≤1073741824))=true→True∧True∧True∧True∧True∧((f=true→True∧True∧True∧True∧True∧rD (dQ (decide (d≤1073741824)))=rD e)∧(f=(!true)→True∧True∧rD (dQ false)=rD e)))∧((decide (c≤1073741824))=(!true)→True∧True∧True∧True∧rD (dQ false)=rD e)))∧(g=(!true)→True∧True∧True∧True∧True∧True∧rD (dQ false)=rD e)))∧((decide (b≤1073741824))=(!true)→True∧True∧True∧True∧True∧True∧True∧True∧rD (dQ false)=rD e)))∧(h=(!true)→True∧True∧True∧True∧True∧True∧True∧True∧True∧True∧rD (dQ false)=rD e)))∧((decide (a≤1073741824))=(!true)→True∧True∧True∧True∧True∧True∧True∧True∧True∧True∧True∧True∧rD (dQ false)=rD e)))∧(i=(!true)→True∧True∧True∧True∧True∧True∧True∧True∧True∧True∧True∧True∧True∧True∧rD (dQ false)=rD e)))) ?_
  delta dQ
  simp only [true_and,and_true,RV.d.injEq,RV.agg.injEq,RV.tup.injEq,DV.bool.injEq,DV.int.injEq,List.cons.injEq,forall_const,Bool.not_false,Bool.not_true,Bool.not_eq_true',Bool.not_eq_false']
  grind [Rc.valid,okC]
theorem zQ1 (a b c d:Int):Ans prog 39 [rA [dJ a,dJ b,dJ c,dJ d]] (rD (dQ (Rc.empty ⟨a,b,c,d⟩))):=
 zQa (Γ:=gam) aL zQf Tryz.func39 rfl (nL rfl) fun hwf=>by
  refine Eq.mpr (by kernel_rfl:_=(let e:=(dQ (Rc.empty ⟨a,b,c,d⟩)); True∧True∧True∧(Ans prog 84 [rA [dJ a,dJ b,dJ c,dJ d]] (rD (dQ (Rc.valid ⟨a,b,c,d⟩))))∧True∧True∧(((!(Rc.valid ⟨a,b,c,d⟩))=false→True∧True∧True∧True∧True∧True∧True∧(((decide (a≥c))=false→True∧True∧True∧True∧True∧True∧True∧rD (dQ (decide (b≥d)))=rD e)∧((decide (a≥c))=(!false)→True∧True∧rD (dQ true)=rD e)))∧((!(Rc.valid ⟨a,b,c,d⟩))=(!false)→True∧True∧True∧True∧rD (dQ true)=rD e)))) ?_
  delta dJ dQ
  simp only [true_and,and_true,RV.d.injEq,RV.agg.injEq,RV.tup.injEq,DV.bool.injEq,DV.int.injEq,List.cons.injEq,forall_const,Bool.not_false,Bool.not_true,Bool.not_eq_true',Bool.not_eq_false',zQS,zQn]
  grind [Rc.empty]
theorem zGr (l:Int) (n:Nat) (xs:List DV) (hx:xs=is (ints xs)) (hn:n=xs.length) (hl:0≤l∧l≤4611686018427387904):Ans prog 162 [rJ (l),rD (dS n xs)] (rD (dQ (zXB l xs))):=
 zQa (Γ:=gam) (aQ aL (aQ (aQ aL (Ann.loop ⟨Nat,fun k=>k≤n∧zXB l (xs.take k)=true,fun k=>⟨[(0,aJ l),(1,aO (cD (dS n xs))),(7,aO (cD (dS n xs))),(8,aJ (n:Int)),(9,aJ (k:Int))],[]⟩,fun k=>n - k⟩ fun k=>aL)) aL)) zQf Tryz.func162 rfl (nL rfl) fun hwf=>by
  refine Eq.mpr (by kernel_rfl:_=(let c:=(dQ (zXB l xs)); let a:=(dS n xs=dS n xs); let d:=fun (k:Nat)=>(k≤n∧zXB l (xs.take k)=true); let e:=(dJ l=dJ l); let f:=(dJ (n:Int)=dJ (n:Int)); True∧True∧True∧True∧((∃ k:Nat,(d k)∧((e∧a∧a∧f∧(dJ (0:Int)=dJ (k:Int))∧True)∧True))∧∀ k:Nat,let b:=(nAt xs (k*1)); let g:=(decide (b < (wK (0 - l)))); (d k)→True∧(((decide ((k:Int) < (n:Int)))=true→(0≤(k:Int)∧(k:Int) < (n:Int)∧k*1 < xs.length)∧((xs[k*1]?=some (dJ b))∧True)∧True∧True∧True∧True∧True∧True∧((g=false→True∧True∧True∧True∧(((decide (b > l))=true→True∧rD (dQ false)=rD c)∧((decide (b > l))=false→True∧True∧∃ k':Nat,(k'≤n∧zXB l (xs.take k')=true)∧(n - k' < n - k)∧((e∧a∧a∧f∧(dJ (wK ((k:Int)+1))=dJ (k':Int))∧True)∧True))))∧(g=(!false)→True∧True∧rD (dQ false)=rD c)))∧((decide ((k:Int) < (n:Int)))=false→True∧rD (dQ true)=rD c))))) ?_
  delta dJ dQ wK dS
  simp only [true_and,and_true,RV.d.injEq,RV.agg.injEq,RV.tup.injEq,DV.bool.injEq,DV.int.injEq,List.cons.injEq,forall_const,Bool.not_false,Bool.not_true,Bool.not_eq_true',Bool.not_eq_false',zQS,zQn,zQ1]
  obtain ⟨L,rfl⟩:∃ L,xs=is L:=⟨_,hx⟩
  subst hn
  simp only [RV.wfs,RV.wf,DV.wf,zQH,IntKind.min,IntKind.max,IntKind.signed,IntKind.bits,and_true,maxLen] at hwf
  simp only [zQH,Int.toNat_natCast,Nat.mul_one,decide_eq_true_eq,decide_eq_false_iff_not]
  have hsucc:∀ k (h:k < L.length),zXB l (is (L.take (k+1)))=(zXB l (is (L.take k)) && (decide (-l≤L[k]) && decide (L[k]≤l))):=fun k h=>by
   simp only [zXB,zZD,List.take_add_one,List.all_append,List.getElem?_eq_getElem h,Option.toList_some,List.all_cons,List.all_nil,Bool.and_true]
  have htake:∀ k,(is L).take k=is (L.take k):=fun k=>by simp [is]
  have hall:∀ k (h:k < L.length),zXB l (is L)=true → -l≤L[k]∧L[k]≤l:=fun k h hw=>by
   simp only [zXB,zZD,List.all_eq_true] at hw
   have:=hw L[k] (List.getElem_mem h)
   simpa using this
  refine ⟨⟨0,⟨by omega,by simp [zXB,ints]⟩,rfl⟩,fun k hk=>⟨fun hlt=>?_,fun hge=>?_⟩⟩
  ·have hlt':k < L.length:=by omega
   have h1:=hsucc k hlt'
   have h2:=hall k hlt'
   have hw:=jGM hwf.2.2 hlt'
   rw [zGG hlt',jYv hlt',IntWalk.i64_in (0 - l) ⟨by omega,by omega⟩]
   refine ⟨by omega,rfl,fun h3=>⟨fun h4=>?_,fun h4=>⟨k+1,⟨by omega,?_⟩,by omega,?_⟩⟩,fun h3=>?_⟩
   ·cases h5:zXB l (is L) with
    | false=>rfl
    | true=>have:=h2 h5; omega
   ·rw [htake,h1,← htake,hk.2]; simp; omega
   ·rw [IntWalk.i64_in _ ⟨by omega,by omega⟩]; omega
   ·cases h5:zXB l (is L) with
    | false=>rfl
    | true=>have:=h2 h5; omega
  ·have:k=L.length:=by omega
   subst this
   have:=hk.2
   rw [htake,List.take_length] at this
   exact this.symm
theorem zZ4 (a b c d:Int):Ans prog 85 [rA [dJ a,dJ b,dJ c,dJ d]] (rD (dQ (Rc.valid ⟨a,b,c,d⟩))):=
 zQa (Γ:=gam) aL zQf Tryz.func85 rfl (nL rfl) fun hwf=>by
  refine Eq.mpr (by kernel_rfl:_=(let e:=(dQ (zXB (1073741824:Int) ([dJ a,dJ b,dJ c,dJ d]))); True∧True∧True∧True∧True∧True∧True∧True∧True∧True∧True∧(Ans prog 162 [rJ (1073741824:Int),rD (dS 4 ([dJ a,dJ b,dJ c,dJ d]))] (rD e))∧True∧rD e=rD (dQ (Rc.valid ⟨a,b,c,d⟩)))) ?_
  delta dJ dQ dS rJ
  simp only [true_and,and_true,RV.d.injEq,RV.agg.injEq,RV.tup.injEq,DV.bool.injEq,DV.int.injEq,List.cons.injEq,forall_const,Bool.not_false,Bool.not_true,Bool.not_eq_true',Bool.not_eq_false',zQS,zQn,zQ1]
  exact ⟨zGr _ _ _ rfl rfl (by omega),by grind [zXB,ints,Rc.valid,okC]⟩
theorem zQK (a b c d:Int):Ans prog 40 [rA [dJ a,dJ b,dJ c,dJ d]] (rD (dQ (Rc.empty ⟨a,b,c,d⟩))):=
 zQa (Γ:=gam) aL zQf Tryz.func40 rfl (nL rfl) fun hwf=>by
  refine Eq.mpr (by kernel_rfl:_=(let e:=(dQ (Rc.empty ⟨a,b,c,d⟩)); True∧True∧True∧(Ans prog 85 [rA [dJ a,dJ b,dJ c,dJ d]] (rD (dQ (Rc.valid ⟨a,b,c,d⟩))))∧True∧True∧(((!(Rc.valid ⟨a,b,c,d⟩))=false→True∧True∧True∧True∧True∧True∧True∧(((decide (a≥c))=false→True∧True∧True∧True∧True∧True∧True∧rD (dQ (decide (b≥d)))=rD e)∧((decide (a≥c))=(!false)→True∧True∧rD (dQ true)=rD e)))∧((!(Rc.valid ⟨a,b,c,d⟩))=(!false)→True∧True∧True∧True∧rD (dQ true)=rD e)))) ?_
  delta dJ dQ
  simp only [true_and,and_true,RV.d.injEq,RV.agg.injEq,RV.tup.injEq,DV.bool.injEq,DV.int.injEq,List.cons.injEq,forall_const,Bool.not_false,Bool.not_true,Bool.not_eq_true',Bool.not_eq_false',zQS,zQn,zQ1,zZ4]
  grind [Rc.empty]
theorem zYm (a b c d:Int):Ans prog 207 [rA [dJ a,dJ b,dJ c,dJ d]] (rA [dJ ((Rc.clean ⟨a,b,c,d⟩).a),dJ ((Rc.clean ⟨a,b,c,d⟩).b),dJ ((Rc.clean ⟨a,b,c,d⟩).c),dJ ((Rc.clean ⟨a,b,c,d⟩).d)]):=
 zQa (Γ:=gam) aL zQf Tryz.func207 rfl (nL rfl) fun hwf=>by
  refine Eq.mpr (by kernel_rfl:_=(let e:=[dJ a,dJ b,dJ c,dJ d]; let f:=(let aA:=(Rc.clean ⟨a,b,c,d⟩); [dJ aA.a,dJ aA.b,dJ aA.c,dJ aA.d]); True∧True∧True∧(Ans prog 40 [rA e] (rD (dQ (Rc.empty ⟨a,b,c,d⟩))))∧(((Rc.empty ⟨a,b,c,d⟩)=true→True∧True∧rA [dJ (0:Int),dJ (0:Int),dJ (0:Int),dJ (0:Int)]=rA f)∧((Rc.empty ⟨a,b,c,d⟩)=false→True∧True∧rA e=rA f)))) ?_
  delta dJ dQ
  simp only [true_and,and_true,RV.d.injEq,RV.agg.injEq,RV.tup.injEq,DV.bool.injEq,DV.int.injEq,List.cons.injEq,forall_const,Bool.not_false,Bool.not_true,Bool.not_eq_true',Bool.not_eq_false',zQS,zQn,zQ1,zZ4,zQK]
  grind [Rc.clean,Rc.zero]
theorem zX3 (a b c d:Int):Ans prog 151 [rA [dJ a,dJ b,dJ c,dJ d]] (rJ ((Rc.area ⟨a,b,c,d⟩))):=
 zQa (Γ:=gam) aL zQf Tryz.func151 rfl (nL rfl) fun hwf=>by
  refine Eq.mpr (by kernel_rfl:_=(True∧True∧True∧(Ans prog 207 [rA [dJ a,dJ b,dJ c,dJ d]] ((let aA:=(Rc.clean ⟨a,b,c,d⟩); rA [dJ aA.a,dJ aA.b,dJ aA.c,dJ aA.d])))∧True∧True∧True∧True∧True∧True∧True∧True∧True∧True∧True∧True∧True∧rJ (wK ((wK ((Rc.clean ⟨a,b,c,d⟩).c - (Rc.clean ⟨a,b,c,d⟩).a))*(wK ((Rc.clean ⟨a,b,c,d⟩).d - (Rc.clean ⟨a,b,c,d⟩).b))))=rJ (Rc.area ⟨a,b,c,d⟩))) ?_
  delta dJ wK rJ
  simp only [true_and,and_true,RV.d.injEq,RV.agg.injEq,RV.tup.injEq,DV.bool.injEq,DV.int.injEq,List.cons.injEq,forall_const,Bool.not_false,Bool.not_true,Bool.not_eq_true',Bool.not_eq_false',zQS,zQn,zQ1,zZ4,zQK,zYm]
  exact Rc.area_wrap _
theorem zJJ (a b c d x y:Int):Ans prog 104 [rA [dJ a,dJ b,dJ c,dJ d],rJ (x),rJ (y)] (rD (dQ (Rc.has ⟨a,b,c,d⟩ x y))):=
 zQa (Γ:=gam) aL zQf Tryz.func104 rfl (nL rfl) fun hwf=>by
  refine Eq.mpr (by kernel_rfl:_=(let e:=(dQ (Rc.has ⟨a,b,c,d⟩ x y)); True∧True∧True∧(Ans prog 40 [rA [dJ a,dJ b,dJ c,dJ d]] (rD (dQ (Rc.empty ⟨a,b,c,d⟩))))∧True∧True∧(((!(Rc.empty ⟨a,b,c,d⟩))=true→True∧True∧True∧True∧True∧True∧(((decide (a≤x))=true→True∧True∧True∧True∧True∧True∧(((decide (x < c))=true→True∧True∧True∧True∧True∧True∧(((decide (b≤y))=true→True∧True∧True∧True∧True∧True∧rD (dQ (decide (y < d)))=rD e)∧((decide (b≤y))=(!true)→True∧True∧rD (dQ false)=rD e)))∧((decide (x < c))=(!true)→True∧True∧True∧True∧rD (dQ false)=rD e)))∧((decide (a≤x))=(!true)→True∧True∧True∧True∧True∧True∧rD (dQ false)=rD e)))∧((!(Rc.empty ⟨a,b,c,d⟩))=(!true)→True∧True∧True∧True∧True∧True∧True∧True∧rD (dQ false)=rD e)))) ?_
  delta dJ dQ
  simp only [true_and,and_true,RV.d.injEq,RV.agg.injEq,RV.tup.injEq,DV.bool.injEq,DV.int.injEq,List.cons.injEq,forall_const,Bool.not_false,Bool.not_true,Bool.not_eq_true',Bool.not_eq_false',zQS,zQn,zQ1,zZ4,zQK,zYm,zX3]
  grind [Rc.has]
theorem zQu (a b c d a' b' c' d':Int):Ans prog 157 [rA [dJ a,dJ b,dJ c,dJ d],rA [dJ a',dJ b',dJ c',dJ d']] (rA [dJ ((Rc.inter ⟨a,b,c,d⟩ ⟨a',b',c',d'⟩).a),dJ ((Rc.inter ⟨a,b,c,d⟩ ⟨a',b',c',d'⟩).b),dJ ((Rc.inter ⟨a,b,c,d⟩ ⟨a',b',c',d'⟩).c),dJ ((Rc.inter ⟨a,b,c,d⟩ ⟨a',b',c',d'⟩).d)]):=
 zQa (Γ:=gam) aL zQf Tryz.func157 rfl (nL rfl) fun hwf=>by
  refine Eq.mpr (by kernel_rfl:_=(let h:=[dJ (0:Int),dJ (0:Int),dJ (0:Int),dJ (0:Int)]; let e:=(Rc.inter ⟨a,b,c,d⟩ ⟨a',b',c',d'⟩); let g:=[dJ e.a,dJ e.b,dJ e.c,dJ e.d]; let f:=(Rc.clean ⟨(max a a'),(max b b'),(min c c'),(min d d')⟩); let i:=[dJ f.a,dJ f.b,dJ f.c,dJ f.d]; True∧True∧True∧True∧(Ans prog 40 [rA [dJ a,dJ b,dJ c,dJ d]] (rD (dQ (Rc.empty ⟨a,b,c,d⟩))))∧True∧(((Rc.empty ⟨a,b,c,d⟩)=false→True∧(Ans prog 40 [rA [dJ a',dJ b',dJ c',dJ d']] (rD (dQ (Rc.empty ⟨a',b',c',d'⟩))))∧True∧(((Rc.empty ⟨a',b',c',d'⟩)=true→True∧True∧rA h=rA g)∧((Rc.empty ⟨a',b',c',d'⟩)=false→True∧True∧True∧True∧True∧True∧True∧True∧True∧True∧True∧True∧True∧True∧True∧True∧True∧True∧True∧True∧True∧(Ans prog 207 [rA [dJ (max a a'),dJ (max b b'),dJ (min c c'),dJ (min d d')]] (rA i))∧True∧rA i=rA g)))∧((Rc.empty ⟨a,b,c,d⟩)=(!false)→True∧True∧True∧rA h=rA g)))) ?_
  delta dJ dQ
  simp only [true_and,and_true,RV.d.injEq,RV.agg.injEq,RV.tup.injEq,DV.bool.injEq,DV.int.injEq,List.cons.injEq,forall_const,Bool.not_false,Bool.not_true,Bool.not_eq_true',Bool.not_eq_false',zQS,zQn,zQ1,zZ4,zQK,zYm,zX3,zJJ]
  cases h1:Rc.empty ⟨a,b,c,d⟩ <;> cases h2:Rc.empty ⟨a',b',c',d'⟩ <;> simp [Rc.inter,h1,h2,Rc.zero]
theorem zGs (a b c d a' b' c' d':Int):Ans prog 41 [rA [dJ a,dJ b,dJ c,dJ d],rA [dJ a',dJ b',dJ c',dJ d']] (rD (dQ (Rc.covers ⟨a,b,c,d⟩ ⟨a',b',c',d'⟩))):=
 zQa (Γ:=gam) aL zQf Tryz.func41 rfl (nL rfl) fun hwf=>by
  refine Eq.mpr (by kernel_rfl:_=(let e:=(dQ (Rc.covers ⟨a,b,c,d⟩ ⟨a',b',c',d'⟩)); True∧True∧True∧True∧(Ans prog 40 [rA [dJ a',dJ b',dJ c',dJ d']] (rD (dQ (Rc.empty ⟨a',b',c',d'⟩))))∧True∧(((Rc.empty ⟨a',b',c',d'⟩)=false→True∧(Ans prog 40 [rA [dJ a,dJ b,dJ c,dJ d]] (rD (dQ (Rc.empty ⟨a,b,c,d⟩))))∧True∧True∧(((!(Rc.empty ⟨a,b,c,d⟩))=true→True∧True∧True∧True∧True∧True∧True∧(((decide (a≤a'))=true→True∧True∧True∧True∧True∧True∧True∧(((decide (b≤b'))=true→True∧True∧True∧True∧True∧True∧True∧(((decide (c'≤c))=true→True∧True∧True∧True∧True∧True∧True∧True∧rD (dQ (decide (d'≤d)))=rD e)∧((decide (c'≤c))=(!true)→True∧True∧True∧rD (dQ false)=rD e)))∧((decide (b≤b'))=(!true)→True∧True∧True∧True∧True∧rD (dQ false)=rD e)))∧((decide (a≤a'))=(!true)→True∧True∧True∧True∧True∧True∧True∧rD (dQ false)=rD e)))∧((!(Rc.empty ⟨a,b,c,d⟩))=(!true)→True∧True∧True∧True∧True∧True∧True∧True∧True∧rD (dQ false)=rD e)))∧((Rc.empty ⟨a',b',c',d'⟩)=(!false)→True∧True∧rD (dQ true)=rD e)))) ?_
  delta dJ dQ
  simp only [true_and,and_true,RV.d.injEq,RV.agg.injEq,RV.tup.injEq,DV.bool.injEq,DV.int.injEq,List.cons.injEq,forall_const,Bool.not_false,Bool.not_true,Bool.not_eq_true',Bool.not_eq_false',zQS,zQn,zQ1,zZ4,zQK,zYm,zX3,zJJ,zQu]
  grind [Rc.covers]
section
attribute [local irreducible] Ans AnsO AnsG AnsN AnsI
def cntS (r:Rc) (w h:Int):Int × Int × Bool:=
 if r.empty then (0,0,false)
 else if w < 1∨wrap .i64 (r.c - r.a) < w∨h < 1∨wrap .i64 (r.d - r.b) < h then (0,0,false)
 else (wrap .i64 (Int.tdiv (wrap .i64 (wrap .i64 (wrap .i64 (r.c - r.a)+w) - 1)) w),wrap .i64 (Int.tdiv (wrap .i64 (wrap .i64 (wrap .i64 (r.d - r.b)+h) - 1)) h),true)
def zX4 (r:Rc) (w h i:Int):Rc × Bool:=
 if (cntS r w h).2.2=false∨i < 0∨wrap .i64 (Int.tdiv i (cntS r w h).1)≥(cntS r w h).2.1 then (Rc.zero,false)
 else
  let x:=wrap .i64 (r.a+wrap .i64 (Int.tmod i (cntS r w h).1*w))
  let y:=wrap .i64 (r.b+wrap .i64 (wrap .i64 (Int.tdiv i (cntS r w h).1)*h))
  (⟨x,y,min (wrap .i64 (x+w)) r.c,min (wrap .i64 (y+h)) r.d⟩,true)
def gZ8 (xs:List RV):Option RV:=match xs with | [.agg [.int _ a,.int _ b,.int _ c,.int _ d],.d (.int _ w),.d (.int _ h)]=>some (RV.tup [rJ (cntS ⟨a,b,c,d⟩ w h).1,rJ (cntS ⟨a,b,c,d⟩ w h).2.1,RV.d (dQ (cntS ⟨a,b,c,d⟩ w h).2.2)]) | _=>none
def gZ9 (xs:List RV):Option RV:=match xs with | [.agg [.int _ a,.int _ b,.int _ c,.int _ d],.d (.int _ w),.d (.int _ h),.d (.int _ i)]=>some (RV.tup [RV.agg [dJ (zX4 ⟨a,b,c,d⟩ w h i).1.a,dJ (zX4 ⟨a,b,c,d⟩ w h i).1.b,dJ (zX4 ⟨a,b,c,d⟩ w h i).1.c,dJ (zX4 ⟨a,b,c,d⟩ w h i).1.d],RV.d (dQ (zX4 ⟨a,b,c,d⟩ w h i).2)]) | _=>none
def gamW:Gam where
 pure:=fun f xs=>
  if f=40 then gZ4 xs else
  if f=78 then gZ8 xs else
  if f=80 then gZ9 xs else
  none
 modes:=fun f=>
  none
 proc:=fun f xs bs=>
  none
 iter:=fun f cs=>
  none
theorem zJq (a b c d w h:Int):Ans prog 78 [rA [dJ a,dJ b,dJ c,dJ d],rJ (w),rJ (h)] (rT [rJ (((cntS ⟨a,b,c,d⟩ w h).1)),rJ (((cntS ⟨a,b,c,d⟩ w h).2.1)),rD (dQ ((cntS ⟨a,b,c,d⟩ w h).2.2))]):=
 zQa (Γ:=gamW) aL zQf Tryz.func78 rfl (nL rfl) fun hwf=>by
  refine Eq.mpr (by kernel_rfl:_=(let g:=[rJ 0,rJ 0,rD (dQ false)]; let f:=[rJ (cntS ⟨a,b,c,d⟩ w h).1,rJ (cntS ⟨a,b,c,d⟩ w h).2.1,rD (dQ (cntS ⟨a,b,c,d⟩ w h).2.2)]; let e:=(rT g=rT f); tU5 ((Ans prog 40 [rA [dJ a,dJ b,dJ c,dJ d]] (rD (dQ (Rc.empty ⟨a,b,c,d⟩))))∧(((Rc.empty ⟨a,b,c,d⟩)=true→tU3 e)∧((Rc.empty ⟨a,b,c,d⟩)=false→tU4 (tU8 ((true=true)∧tU3 (((decide (w < 1))=false→tU5 (((decide (w > (wK (c - a))))=false→tU4 (((decide (h < 1))=false→tU4 (((decide (h > (wK (d - b))))=true→tU3 e)∧((decide (h > (wK (d - b))))=false→tU5 ((w≠0)∧tU5 ((h≠0)∧tU3 ((true=true)∧rT [rJ (wK (Int.tdiv (wK ((wK ((wK (c - a))+w)) - 1)) w)),rJ (wK (Int.tdiv (wK ((wK ((wK (d - b))+h)) - 1)) h)),rD (dQ true)]=rT f))))))∧((decide (h < 1))=(!false)→tU4 e)))∧((decide (w > (wK (c - a))))=(!false)→tU6 e)))∧((decide (w < 1))=(!false)→tU8 e))))))))) ?_
  delta dJ dQ wK rJ
  simp only [sS,zQK]
  unfold cntS
  cases he:Rc.empty ⟨a,b,c,d⟩ <;> by_cases h1:w < 1 <;> by_cases h2:wrap .i64 (c - a) < w <;> by_cases h3:h < 1 <;> by_cases h4:wrap .i64 (d - b) < h <;> simp [h1,h2,h3,h4] <;> omega
theorem jQv (a b c d w h i:Int) (hz:(cntS ⟨a,b,c,d⟩ w h).2.2=true→(cntS ⟨a,b,c,d⟩ w h).1≠0):Ans prog 80 [rA [dJ a,dJ b,dJ c,dJ d],rJ (w),rJ (h),rJ (i)] (rT [rA [dJ ((zX4 ⟨a,b,c,d⟩ w h i).1.a),dJ ((zX4 ⟨a,b,c,d⟩ w h i).1.b),dJ ((zX4 ⟨a,b,c,d⟩ w h i).1.c),dJ ((zX4 ⟨a,b,c,d⟩ w h i).1.d)],rD (dQ ((zX4 ⟨a,b,c,d⟩ w h i).2))]):=
 zQa (Γ:=gamW) aL zQf Tryz.func80 rfl (nL rfl) fun hwf=>by
  refine Eq.mpr (by kernel_rfl:_=(let e:=((cntS ⟨a,b,c,d⟩ w h).1≠0); let f:=(wK (Int.tdiv i (cntS ⟨a,b,c,d⟩ w h).1)); let m:=[rA [dJ 0,dJ 0,dJ 0,dJ 0],rD (dQ false)]; let j:=[(let aA:=(zX4 ⟨a,b,c,d⟩ w h i); rA [dJ aA.1.a,dJ aA.1.b,dJ aA.1.c,dJ aA.1.d]),rD (dQ (zX4 ⟨a,b,c,d⟩ w h i).2)]; let g:=(rT m=rT j); let k:=(wK (a+(wK ((Int.tmod i (cntS ⟨a,b,c,d⟩ w h).1)*w)))); let l:=(wK (b+(wK (f*h)))); tU6 ((Ans prog 78 [rA [dJ a,dJ b,dJ c,dJ d],rJ w,rJ h] (rT [rJ (cntS ⟨a,b,c,d⟩ w h).1,rJ (cntS ⟨a,b,c,d⟩ w h).2.1,rD (dQ (cntS ⟨a,b,c,d⟩ w h).2.2)]))∧tU2 (tU8 (((!(cntS ⟨a,b,c,d⟩ w h).2.2)=false→tU4 (((decide (i < 0))=false→tU2 (e∧tU3 (((decide (f≥(cntS ⟨a,b,c,d⟩ w h).2.1))=true→tU3 g)∧((decide (f≥(cntS ⟨a,b,c,d⟩ w h).2.1))=false→tU4 (e∧tU7 (e∧tU5 ((true=true)∧True∧tU8 (tU8 (rT [rA [dJ k,dJ l,dJ (min (wK (k+w)) c),dJ (min (wK (l+h)) d)],rD (dQ true)]=rT j)))))))))∧((decide (i < 0))=(!false)→tU4 g)))∧((!(cntS ⟨a,b,c,d⟩ w h).2.2)=(!false)→tU6 g)))))) ?_
  delta dJ dQ wK rJ
  simp only [sS,zQK,zJq]
  unfold zX4
  generalize cntS ⟨a,b,c,d⟩ w h=T at *
  obtain ⟨n1,n2,ok⟩:=T
  simp only at hz ⊢
  cases ok <;> by_cases h1:i < 0 <;> by_cases h2:wrap .i64 (Int.tdiv i n1)≥n2 <;> simp [h1,h2,Rc.zero] <;> simp at hz <;> simp [hz] <;> omega
end
def Im.ds (m:Im):List DV:=[.int .i64 m.w,.int .i64 m.h,.bool m.so,.int .u16 m.c.a,.int .u16 m.c.b,.int .u16 m.c.c,.int .u16 m.c.al,.int .u16 m.c.f,.int .i64 m.p0.w,.int .i64 m.p0.h,.int .i64 m.p0.s,.sl m.p0.n m.p0.xs,.int .i64 m.p1.w,.int .i64 m.p1.h,.int .i64 m.p1.s,.sl m.p1.n m.p1.xs,.int .i64 m.p2.w,.int .i64 m.p2.h,.int .i64 m.p2.s,.sl m.p2.n m.p2.xs,.int .i64 m.p3.w,.int .i64 m.p3.h,.int .i64 m.p3.s,.sl m.p3.n m.p3.xs,.int .i64 m.p4.w,.int .i64 m.p4.h,.int .i64 m.p4.s,.sl m.p4.n m.p4.xs]
theorem Im.ds_len (m:Im):m.ds.length=28:=rfl
def ims (l:List Im):List DV:=l.flatMap Im.ds
theorem zJP (l:List Im):(ims l).length=l.length*28:=by
 induction l with
 | nil=>rfl
 | cons o l ih=>simp only [ims,List.flatMap_cons,List.length_append,List.length_cons] at ih ⊢; rw [ih,Im.ds_len]; omega
theorem jJ9 (l m:List Im):ims (l++m)=ims l++ims m:=by simp [ims]
theorem jWD (m:Im) (l:List Im):ims (m::l)=m.ds++ims l:=by simp [ims]
theorem jUU (m:Im):ims [m]=m.ds:=by simp [ims]
theorem jUV {l:List Im} {k:Nat} (h:k < l.length) (j:Nat) (hj:j < 28):(ims l)[k*28+j]?=l[k].ds[j]?:=by
 induction l generalizing k with
 | nil=>simp at h
 | cons o l ih=>
  rw [jWD]
  cases k with
  | zero=>simp only [List.getElem_cons_zero]; rw [List.getElem?_append_left (by rw [Im.ds_len]; omega)]; simp
  | succ k=>
   rw [List.getElem?_append_right (by rw [Im.ds_len]; omega)]
   have:=ih (k:=k) (by simpa using h)
   simp only [List.getElem_cons_succ]
   rw [← this]
   congr 1
   rw [Im.ds_len]; omega
theorem jJr {l:List Im} {k:Nat} (h:k < l.length):(ims l)[k*28]?=some (.int .i64 l[k].w)∧(ims l)[k*28+1]?=some (.int .i64 l[k].h)∧(ims l)[k*28+1+1]?=some (.bool l[k].so)∧(ims l)[k*28+1+1+1]?=some (.int .u16 l[k].c.a)∧(ims l)[k*28+1+1+1+1]?=some (.int .u16 l[k].c.b)∧(ims l)[k*28+1+1+1+1+1]?=some (.int .u16 l[k].c.c)∧(ims l)[k*28+1+1+1+1+1+1]?=some (.int .u16 l[k].c.al)∧(ims l)[k*28+1+1+1+1+1+1+1]?=some (.int .u16 l[k].c.f)∧(ims l)[k*28+1+1+1+1+1+1+1+1]?=some (.int .i64 l[k].p0.w)∧(ims l)[k*28+1+1+1+1+1+1+1+1+1]?=some (.int .i64 l[k].p0.h)∧(ims l)[k*28+1+1+1+1+1+1+1+1+1+1]?=some (.int .i64 l[k].p0.s)∧(ims l)[k*28+1+1+1+1+1+1+1+1+1+1+1]?=some (.sl l[k].p0.n l[k].p0.xs)∧(ims l)[k*28+1+1+1+1+1+1+1+1+1+1+1+1]?=some (.int .i64 l[k].p1.w)∧(ims l)[k*28+1+1+1+1+1+1+1+1+1+1+1+1+1]?=some (.int .i64 l[k].p1.h)∧(ims l)[k*28+1+1+1+1+1+1+1+1+1+1+1+1+1+1]?=some (.int .i64 l[k].p1.s)∧(ims l)[k*28+1+1+1+1+1+1+1+1+1+1+1+1+1+1+1]?=some (.sl l[k].p1.n l[k].p1.xs)∧(ims l)[k*28+1+1+1+1+1+1+1+1+1+1+1+1+1+1+1+1]?=some (.int .i64 l[k].p2.w)∧(ims l)[k*28+1+1+1+1+1+1+1+1+1+1+1+1+1+1+1+1+1]?=some (.int .i64 l[k].p2.h)∧(ims l)[k*28+1+1+1+1+1+1+1+1+1+1+1+1+1+1+1+1+1+1]?=some (.int .i64 l[k].p2.s)∧(ims l)[k*28+1+1+1+1+1+1+1+1+1+1+1+1+1+1+1+1+1+1+1]?=some (.sl l[k].p2.n l[k].p2.xs)∧(ims l)[k*28+1+1+1+1+1+1+1+1+1+1+1+1+1+1+1+1+1+1+1+1]?=some (.int .i64 l[k].p3.w)∧(ims l)[k*28+1+1+1+1+1+1+1+1+1+1+1+1+1+1+1+1+1+1+1+1+1]?=some (.int .i64 l[k].p3.h)∧(ims l)[k*28+1+1+1+1+1+1+1+1+1+1+1+1+1+1+1+1+1+1+1+1+1+1]?=some (.int .i64 l[k].p3.s)∧(ims l)[k*28+1+1+1+1+1+1+1+1+1+1+1+1+1+1+1+1+1+1+1+1+1+1+1]?=some (.sl l[k].p3.n l[k].p3.xs)∧(ims l)[k*28+1+1+1+1+1+1+1+1+1+1+1+1+1+1+1+1+1+1+1+1+1+1+1+1]?=some (.int .i64 l[k].p4.w)∧(ims l)[k*28+1+1+1+1+1+1+1+1+1+1+1+1+1+1+1+1+1+1+1+1+1+1+1+1+1]?=some (.int .i64 l[k].p4.h)∧(ims l)[k*28+1+1+1+1+1+1+1+1+1+1+1+1+1+1+1+1+1+1+1+1+1+1+1+1+1+1]?=some (.int .i64 l[k].p4.s)∧(ims l)[k*28+1+1+1+1+1+1+1+1+1+1+1+1+1+1+1+1+1+1+1+1+1+1+1+1+1+1+1]?=some (.sl l[k].p4.n l[k].p4.xs):=by
 have g:=fun j hj=>jUV h j hj
 exact ⟨g 0 (by omega),g 1 (by omega),g 2 (by omega),g 3 (by omega),g 4 (by omega),g 5 (by omega),g 6 (by omega),g 7 (by omega),g 8 (by omega),g 9 (by omega),g 10 (by omega),g 11 (by omega),g 12 (by omega),g 13 (by omega),g 14 (by omega),g 15 (by omega),g 16 (by omega),g 17 (by omega),g 18 (by omega),g 19 (by omega),g 20 (by omega),g 21 (by omega),g 22 (by omega),g 23 (by omega),g 24 (by omega),g 25 (by omega),g 26 (by omega),g 27 (by omega)⟩
theorem jJs {l:List Im} {k:Nat} (h:k < l.length):nAt (ims l) (k*28)=l[k].w∧nAt (ims l) (k*28+1)=l[k].h∧bAt (ims l) (k*28+1+1)=l[k].so∧nAt (ims l) (k*28+1+1+1)=l[k].c.a∧nAt (ims l) (k*28+1+1+1+1)=l[k].c.b∧nAt (ims l) (k*28+1+1+1+1+1)=l[k].c.c∧nAt (ims l) (k*28+1+1+1+1+1+1)=l[k].c.al∧nAt (ims l) (k*28+1+1+1+1+1+1+1)=l[k].c.f∧nAt (ims l) (k*28+1+1+1+1+1+1+1+1)=l[k].p0.w∧nAt (ims l) (k*28+1+1+1+1+1+1+1+1+1)=l[k].p0.h∧nAt (ims l) (k*28+1+1+1+1+1+1+1+1+1+1)=l[k].p0.s∧lAt (ims l) (k*28+1+1+1+1+1+1+1+1+1+1+1)=l[k].p0.n∧cAt (ims l) (k*28+1+1+1+1+1+1+1+1+1+1+1)=l[k].p0.xs∧nAt (ims l) (k*28+1+1+1+1+1+1+1+1+1+1+1+1)=l[k].p1.w∧nAt (ims l) (k*28+1+1+1+1+1+1+1+1+1+1+1+1+1)=l[k].p1.h∧nAt (ims l) (k*28+1+1+1+1+1+1+1+1+1+1+1+1+1+1)=l[k].p1.s∧lAt (ims l) (k*28+1+1+1+1+1+1+1+1+1+1+1+1+1+1+1)=l[k].p1.n∧cAt (ims l) (k*28+1+1+1+1+1+1+1+1+1+1+1+1+1+1+1)=l[k].p1.xs∧nAt (ims l) (k*28+1+1+1+1+1+1+1+1+1+1+1+1+1+1+1+1)=l[k].p2.w∧nAt (ims l) (k*28+1+1+1+1+1+1+1+1+1+1+1+1+1+1+1+1+1)=l[k].p2.h∧nAt (ims l) (k*28+1+1+1+1+1+1+1+1+1+1+1+1+1+1+1+1+1+1)=l[k].p2.s∧lAt (ims l) (k*28+1+1+1+1+1+1+1+1+1+1+1+1+1+1+1+1+1+1+1)=l[k].p2.n∧cAt (ims l) (k*28+1+1+1+1+1+1+1+1+1+1+1+1+1+1+1+1+1+1+1)=l[k].p2.xs∧nAt (ims l) (k*28+1+1+1+1+1+1+1+1+1+1+1+1+1+1+1+1+1+1+1+1)=l[k].p3.w∧nAt (ims l) (k*28+1+1+1+1+1+1+1+1+1+1+1+1+1+1+1+1+1+1+1+1+1)=l[k].p3.h∧nAt (ims l) (k*28+1+1+1+1+1+1+1+1+1+1+1+1+1+1+1+1+1+1+1+1+1+1)=l[k].p3.s∧lAt (ims l) (k*28+1+1+1+1+1+1+1+1+1+1+1+1+1+1+1+1+1+1+1+1+1+1+1)=l[k].p3.n∧cAt (ims l) (k*28+1+1+1+1+1+1+1+1+1+1+1+1+1+1+1+1+1+1+1+1+1+1+1)=l[k].p3.xs∧nAt (ims l) (k*28+1+1+1+1+1+1+1+1+1+1+1+1+1+1+1+1+1+1+1+1+1+1+1+1)=l[k].p4.w∧nAt (ims l) (k*28+1+1+1+1+1+1+1+1+1+1+1+1+1+1+1+1+1+1+1+1+1+1+1+1+1)=l[k].p4.h∧nAt (ims l) (k*28+1+1+1+1+1+1+1+1+1+1+1+1+1+1+1+1+1+1+1+1+1+1+1+1+1+1)=l[k].p4.s∧lAt (ims l) (k*28+1+1+1+1+1+1+1+1+1+1+1+1+1+1+1+1+1+1+1+1+1+1+1+1+1+1+1)=l[k].p4.n∧cAt (ims l) (k*28+1+1+1+1+1+1+1+1+1+1+1+1+1+1+1+1+1+1+1+1+1+1+1+1+1+1+1)=l[k].p4.xs:=by
 obtain ⟨e0,e1,e2,e3,e4,e5,e6,e7,e8,e9,e10,e11,e12,e13,e14,e15,e16,e17,e18,e19,e20,e21,e22,e23,e24,e25,e26,e27⟩:=jJr h
 simp only [nAt,bAt,lAt,cAt,e0,e1,e2,e3,e4,e5,e6,e7,e8,e9,e10,e11,e12,e13,e14,e15,e16,e17,e18,e19,e20,e21,e22,e23,e24,e25,e26,e27,and_self]
def imAt (xs:List DV) (i:Nat):Im:=⟨nAt xs i,nAt xs (i+1),bAt xs (i+2),⟨nAt xs (i+3),nAt xs (i+4),nAt xs (i+5),nAt xs (i+6),nAt xs (i+7)⟩,⟨nAt xs (i+8),nAt xs (i+9),nAt xs (i+10),lAt xs (i+11),cAt xs (i+11)⟩,⟨nAt xs (i+12),nAt xs (i+13),nAt xs (i+14),lAt xs (i+15),cAt xs (i+15)⟩,⟨nAt xs (i+16),nAt xs (i+17),nAt xs (i+18),lAt xs (i+19),cAt xs (i+19)⟩,⟨nAt xs (i+20),nAt xs (i+21),nAt xs (i+22),lAt xs (i+23),cAt xs (i+23)⟩,⟨nAt xs (i+24),nAt xs (i+25),nAt xs (i+26),lAt xs (i+27),cAt xs (i+27)⟩⟩
theorem jWE {l:List Im} {k:Nat} (h:k < l.length):imAt (ims l) (k*28)=l[k]:=by
 have e:=jJs h
 simp only [imAt,show k*28+2=k*28+1+1 from rfl,show k*28+3=k*28+1+1+1 from rfl,show k*28+4=k*28+1+1+1+1 from rfl,show k*28+5=k*28+1+1+1+1+1 from rfl,show k*28+6=k*28+1+1+1+1+1+1 from rfl,show k*28+7=k*28+1+1+1+1+1+1+1 from rfl,show k*28+8=k*28+1+1+1+1+1+1+1+1 from rfl,show k*28+9=k*28+1+1+1+1+1+1+1+1+1 from rfl,show k*28+10=k*28+1+1+1+1+1+1+1+1+1+1 from rfl,show k*28+11=k*28+1+1+1+1+1+1+1+1+1+1+1 from rfl,show k*28+12=k*28+1+1+1+1+1+1+1+1+1+1+1+1 from rfl,show k*28+13=k*28+1+1+1+1+1+1+1+1+1+1+1+1+1 from rfl,show k*28+14=k*28+1+1+1+1+1+1+1+1+1+1+1+1+1+1 from rfl,show k*28+15=k*28+1+1+1+1+1+1+1+1+1+1+1+1+1+1+1 from rfl,show k*28+16=k*28+1+1+1+1+1+1+1+1+1+1+1+1+1+1+1+1 from rfl,show k*28+17=k*28+1+1+1+1+1+1+1+1+1+1+1+1+1+1+1+1+1 from rfl,show k*28+18=k*28+1+1+1+1+1+1+1+1+1+1+1+1+1+1+1+1+1+1 from rfl,show k*28+19=k*28+1+1+1+1+1+1+1+1+1+1+1+1+1+1+1+1+1+1+1 from rfl,show k*28+20=k*28+1+1+1+1+1+1+1+1+1+1+1+1+1+1+1+1+1+1+1+1 from rfl,show k*28+21=k*28+1+1+1+1+1+1+1+1+1+1+1+1+1+1+1+1+1+1+1+1+1 from rfl,show k*28+22=k*28+1+1+1+1+1+1+1+1+1+1+1+1+1+1+1+1+1+1+1+1+1+1 from rfl,show k*28+23=k*28+1+1+1+1+1+1+1+1+1+1+1+1+1+1+1+1+1+1+1+1+1+1+1 from rfl,show k*28+24=k*28+1+1+1+1+1+1+1+1+1+1+1+1+1+1+1+1+1+1+1+1+1+1+1+1 from rfl,show k*28+25=k*28+1+1+1+1+1+1+1+1+1+1+1+1+1+1+1+1+1+1+1+1+1+1+1+1+1 from rfl,show k*28+26=k*28+1+1+1+1+1+1+1+1+1+1+1+1+1+1+1+1+1+1+1+1+1+1+1+1+1+1 from rfl,show k*28+27=k*28+1+1+1+1+1+1+1+1+1+1+1+1+1+1+1+1+1+1+1+1+1+1+1+1+1+1+1 from rfl,e]
def zQc (xs:List DV):List Im:=(List.range (xs.length / 28)).map fun k=>imAt xs (k*28)
theorem zZd (l:List Im):zQc (ims l)=l:=by
 have e:(ims l).length / 28=l.length:=by rw [zJP]; omega
 unfold zQc
 rw [e]
 refine List.ext_getElem (by simp) fun i h1 h2=>?_
 simp only [List.getElem_map,List.getElem_range]
 exact jWE h2
def jW8 (n:Nat) (xs:List DV):Prop:=(xs=ims (zQc xs)∧n=(zQc xs).length)∧∀ m∈zQc xs,m.isU
theorem jVn {n:Nat} {l:List Im} (hn:n=l.length) (h:∀ m∈l,m.isU):jW8 n (ims l):=⟨⟨by rw [zZd],by rw [zZd]; exact hn⟩,by rw [zZd]; exact h⟩
theorem jW8.of {n:Nat} {xs:List DV} (h:jW8 n xs):∃ l:List Im,(∀ m∈l,m.isU)∧xs=ims l∧n=l.length:=⟨zQc xs,h.2,h.1.1,h.1.2⟩
def jGL (n:Nat) (xs:List DV):Prop:=xs=ops (zQb xs)∧n=(zQb xs).length
theorem jXe {n:Nat} {l:List Oq} (h:n=l.length):jGL n (ops l):=⟨by rw [zQG],by rw [zQG]; exact h⟩
theorem zGA (o:Oq):ops [o]=o.cells:=by simp [ops]
def gOff (n c:Int):Int:=if modS n 3=0 then c else c+modS (wrap .i64 (Int.tdiv n 3)) 9 - 4
structure Rw where
  k:Int
  im:Int
  x:Int
  y:Int
  ma:Int
  mx:Int
  my:Int
  op:Int
  ope:Int
  mo:Int
  fl:Int
def gOp (r:Rw) (push:Bool) (n:Int) (c:Rc) (free:Bool) (most:Int):Oq:=
 let m:=decide (modS r.ma 4=0)
 ⟨if push then 2 else 1,if push then 0 else modS r.im n,if push then 0 else gOff r.x c.a,if push then 0 else gOff r.y c.b,
  if m then 1+modS (wrap .i64 (Int.tdiv r.ma 4)) n else 0,if m then gOff r.mx c.a else 0,if m then gOff r.my c.b else 0,
  if modS r.op 2=0 then zQN (wrap .i64 (Int.tdiv r.op 2)) most else most,
  if free && decide (modS r.ope 2=0) then 1+modS (wrap .i64 (Int.tdiv r.ope 2)) 12 else 4,
  if modS r.mo 2=0 then 1+modS (wrap .i64 (Int.tdiv r.mo 2)) 12 else 1,
  push && decide (modS r.fl 2=0),push && decide (modS (wrap .i64 (Int.tdiv r.fl 2)) 3=0)⟩
def rwAt (xs:List DV) (i:Nat):Rw:=⟨nAt xs i,nAt xs (i+1),nAt xs (i+2),nAt xs (i+3),nAt xs (i+4),nAt xs (i+5),nAt xs (i+6),nAt xs (i+7),nAt xs (i+8),nAt xs (i+9),nAt xs (i+10)⟩
structure Scn where
  b:Int
  x:Int
  y:Int
  w:Int
  h:Int
  tw:Int
  th:Int
  on:Nat
  oxs:List DV
  pn:Nat
  pxs:List DV
  rn:Nat
  rxs:List DV
def Scn.c (s:Scn):Rc:=⟨modS s.x 13 - 6,modS s.y 13 - 6,modS s.x 13 - 6+(1+modS s.w 5),modS s.y 13 - 6+(1+modS s.h 4)⟩
def Scn.gw (s:Scn):Int:=1+modS s.w 5
def Scn.gh (s:Scn):Int:=1+modS s.h 4
def Scn.gtw (s:Scn):Int:=1+modS s.tw s.gw
def Scn.gth (s:Scn):Int:=1+modS s.th s.gh
def Scn.most (s:Scn):Int:=gMax s.b
def Scn.bits (s:Scn):Int:=if s.most > 255 then 16 else 8
def Scn.tiles (s:Scn):Int:=wrap .i64 ((cntS s.c s.gtw s.gth).1*(cntS s.c s.gtw s.gth).2.1)
def Scn.ord (s:Scn):List Int:=zJL (ints s.oxs) s.tiles
def Scn.pic (s:Scn) (k:Nat):Im:=zQO (nAt s.pxs (k*5)) (nAt s.pxs (k*5+1)) (nAt s.pxs (k*5+2)) (nAt s.pxs (k*5+3)) (lAt s.pxs (k*5+4)) (cAt s.pxs (k*5+4)) s.c.a s.c.b s.c.c s.c.d s.most
def Scn.pics (s:Scn) (k:Nat):List Im:=(List.range k).map s.pic
def Scn.solo (s:Scn):Im:=zQd s.gw s.gh ⟨s.most,0,0,s.most,s.most⟩
def Scn.ims (s:Scn):List Im:=if min s.pn 4=0 then [s.solo] else s.pics (min s.pn 4)
def Scn.step (s:Scn) (r:Rw) (z:List Oq × List Oq):List Oq × List Oq:=
 if modS r.k 8=0∧0 < z.2.length then (z.1++[popO],z.2.dropLast)
 else
  let o:=gOp r (decide (modS r.k 8 < 3)) s.ims.length s.c (ctxB z.2) s.most
  (z.1++[o],if modS r.k 8 < 3 then z.2++[o] else z.2)
def Scn.run (s:Scn):Nat→List Oq × List Oq
 | 0=>([],[])
 | k+1=>s.step (rwAt s.rxs (k*11)) (s.run k)
def Scn.ops (s:Scn):List Oq:=(s.run (min s.rn 9)).1++List.replicate (s.run (min s.rn 9)).2.length popO
def jUo (n:Nat) (xs:List DV):Prop:=xs.length=n*5∧∀ k,k < n→xs[k*5]?=some (.int .i64 (nAt xs (k*5)))∧xs[k*5+1]?=some (.int .i64 (nAt xs (k*5+1)))∧xs[k*5+1+1]?=some (.int .i64 (nAt xs (k*5+1+1)))∧xs[k*5+1+1+1]?=some (.int .i64 (nAt xs (k*5+1+1+1)))∧xs[k*5+1+1+1+1]?=some (.sl (lAt xs (k*5+1+1+1+1)) (cAt xs (k*5+1+1+1+1)))∧Is5 (lAt xs (k*5+1+1+1+1)) (cAt xs (k*5+1+1+1+1))
def jGK (n:Nat) (xs:List DV):Prop:=xs.length=n*11∧∀ i,i < n*11→xs[i]?=some (.int .i64 (nAt xs i))
def Scn.ok (s:Scn):Prop:=(s.oxs=is (ints s.oxs)∧s.on=s.oxs.length)∧jUo s.pn s.pxs∧jGK s.rn s.rxs
theorem Scn.facts (s:Scn):(0≤modS s.x 13∧modS s.x 13 < 13)∧(0≤modS s.y 13∧modS s.y 13 < 13)∧(1≤s.gw∧s.gw≤5)∧(1≤s.gh∧s.gh≤4)∧(1≤s.gtw∧s.gtw≤s.gw)∧(1≤s.gth∧s.gth≤s.gh):=by
 have a:=@zZK s.x 13 (by omega) (by omega)
 have b:=@zZK s.y 13 (by omega) (by omega)
 have c:=@zZK s.w 5 (by omega) (by omega)
 have d:=@zZK s.h 4 (by omega) (by omega)
 have e:1≤s.gw∧s.gw≤5:=by unfold Scn.gw; omega
 have f:1≤s.gh∧s.gh≤4:=by unfold Scn.gh; omega
 have g:=@zZK s.tw s.gw (by omega) (by omega)
 have h:=@zZK s.th s.gh (by omega) (by omega)
 exact ⟨a,b,e,f,by unfold Scn.gtw; omega,by unfold Scn.gth; omega⟩
theorem Scn.pics_succ (s:Scn) (k:Nat):s.pics (k+1)=s.pics k++[s.pic k]:=by simp [Scn.pics,List.range_succ]
theorem Scn.pics_len (s:Scn) (k:Nat):(s.pics k).length=k:=by simp [Scn.pics]
theorem Scn.ims_len (s:Scn):1≤s.ims.length∧s.ims.length≤4:=by
 unfold Scn.ims
 split
 ·simp
 ·rw [Scn.pics_len]; omega
theorem Scn.run_len (s:Scn) (k:Nat):(s.run k).1.length=k∧(s.run k).2.length≤k:=by
 induction k with
 | zero=>simp [Scn.run]
 | succ k ih=>
  simp only [Scn.run,Scn.step]
  split
  ·simp; omega
  ·simp only []
   split <;> simp <;> omega
theorem Scn.most_in (s:Scn):s.most=255∨s.most=65535:=by
 unfold Scn.most gMax
 split <;> simp
theorem Scn.ims_isU (s:Scn):∀ m∈s.ims,m.isU:=by
 intro m hm
 unfold Scn.ims at hm
 split at hm
 ·rw [List.mem_singleton] at hm; subst hm; exact zVC _ _ _
 ·simp only [Scn.pics,List.mem_map] at hm
  obtain ⟨k,_,rfl⟩:=hm
  exact jKd _ _ _ _ _ _ _ _ _ _ _
theorem Scn.c_facts (s:Scn):s.c.c - s.c.a=s.gw∧s.c.d - s.c.b=s.gh ∧ -6≤s.c.a∧s.c.a≤6 ∧ -6≤s.c.b∧s.c.b≤6:=by
 have:=s.facts
 simp only [Scn.c,Scn.gw,Scn.gh] at this ⊢
 omega
theorem Scn.bits_of (s:Scn):(gMax s.b > 255→16=s.bits)∧(¬ gMax s.b > 255→8=s.bits):=by
 unfold Scn.bits Scn.most
 exact ⟨fun h=>by rw [if_pos h],fun h=>by rw [if_neg h]⟩
theorem cnt1 {n w:Int} (h:1≤w) (hw:w≤n) (hn:n≤5):1≤wrap .i64 (Int.tdiv (wrap .i64 (wrap .i64 (wrap .i64 n+w) - 1)) w)∧wrap .i64 (Int.tdiv (wrap .i64 (wrap .i64 (wrap .i64 n+w) - 1)) w)≤n:=by
 rw [IntWalk.i64_in n ⟨by omega,by omega⟩,IntWalk.i64_in (n+w) ⟨by omega,by omega⟩,IntWalk.i64_in (n+w - 1) ⟨by omega,by omega⟩,Int.tdiv_eq_ediv_of_nonneg (by omega)]
 have:1≤(n+w - 1) / w∧(n+w - 1) / w≤n:=by
  rcases (show w=1∨w=2∨w=3∨w=4∨w=5 by omega) with rfl | rfl | rfl | rfl | rfl <;> omega
 rw [IntWalk.i64_in _ ⟨by omega,by omega⟩]
 exact this
theorem Scn.cnt (s:Scn):(cntS s.c s.gtw s.gth).2.2=true∧(1≤(cntS s.c s.gtw s.gth).1∧(cntS s.c s.gtw s.gth).1≤5)∧1≤(cntS s.c s.gtw s.gth).2.1∧(cntS s.c s.gtw s.gth).2.1≤4:=by
 obtain ⟨f1,f2,f3,f4,f5,f6⟩:=s.facts
 have CF:=s.c_facts
 have he:Rc.empty s.c=false:=by
  rw [Rc.empty_iff]; omega
 unfold cntS
 rw [he,if_neg (by simp),CF.1,CF.2.1,if_neg (by rw [IntWalk.i64_in _ ⟨by omega,by omega⟩,IntWalk.i64_in _ ⟨by omega,by omega⟩]; omega)]
 have a:=cnt1 f5.1 f5.2 (by omega)
 have b:=cnt1 f6.1 f6.2 (by omega)
 exact ⟨rfl,⟨a.1,Int.le_trans a.2 (by omega)⟩,b.1,Int.le_trans b.2 (by omega)⟩
theorem Scn.tiles_in (s:Scn):0≤s.tiles∧s.tiles≤20:=by
 obtain ⟨_,a,b⟩:=s.cnt
 unfold Scn.tiles
 generalize (cntS s.c s.gtw s.gth).1=x at *
 generalize (cntS s.c s.gtw s.gth).2.1=y at *
 have h1:0≤x*y:=Int.mul_nonneg (by omega) (by omega)
 have h2:x*y≤5*4:=Int.mul_le_mul a.2 b.2 (by omega) (by omega)
 rw [IntWalk.i64_in _ ⟨by omega,by omega⟩]
 omega
theorem Scn.run_pop {s:Scn} {k:Nat} (h:modS (rwAt s.rxs (k*11)).k 8=0∧0 < (s.run k).2.length):s.run (k+1)=((s.run k).1++[popO],(s.run k).2.dropLast):=by
 simp only [Scn.run,Scn.step]
 rw [if_pos h]
theorem Scn.run_op {s:Scn} {k:Nat} (h:¬ (modS (rwAt s.rxs (k*11)).k 8=0∧0 < (s.run k).2.length)) {o:Oq} (ho:o=gOp (rwAt s.rxs (k*11)) (decide (modS (rwAt s.rxs (k*11)).k 8 < 3)) s.ims.length s.c (ctxB (s.run k).2) s.most) :
  (o.kind=2→s.run (k+1)=((s.run k).1++[o],(s.run k).2++[o]))∧(o.kind≠2→s.run (k+1)=((s.run k).1++[o],(s.run k).2)):=by
 have e:s.run (k+1)=((s.run k).1++[o],if modS (rwAt s.rxs (k*11)).k 8 < 3 then (s.run k).2++[o] else (s.run k).2):=by
  simp only [Scn.run,Scn.step]
  rw [if_neg h,← ho]
 have hk:o.kind=if modS (rwAt s.rxs (k*11)).k 8 < 3 then 2 else 1:=by
  rw [ho]
  simp [gOp]
 rw [e,hk]
 split <;> simp
theorem jVN {l:List Oq} (h:0 < l.length):ctxB l=(l[l.length - 1].iso && !l[l.length - 1].kno):=by
 unfold ctxB
 rw [List.getLast?_eq_getElem?,List.getElem?_eq_getElem (by omega)]
def gZ10 (xs:List RV):Option RV:=match xs with | [.d (.int _ w),.d (.int _ h)]=>some (RV.d (dQ (zQ4 w h))) | _=>none
def gZ11 (xs:List RV):Option RV:=match xs with | [.agg [.int _ w,.int _ h,.int _ s,.sl n xs]]=>some (RV.d (dQ (zQI w h s n))) | _=>none
def gZ12 (xs:List RV):Option RV:=match xs with | [.agg [.int _ c0,.int _ c1,.int _ c2,.int _ ca,.int _ cf],.d (.int _ most)]=>some (RV.d (dQ (Px.ok ⟨c0,c1,c2,ca,cf⟩ most))) | _=>none
def gZ13 (xs:List RV):Option RV:=match xs with | [.agg [.int _ w,.int _ h,.bool so,.int _ c0,.int _ c1,.int _ c2,.int _ ca,.int _ cf,.int _ w0,.int _ h0,.int _ s0,.sl n0 xs0,.int _ w1,.int _ h1,.int _ s1,.sl n1 xs1,.int _ w2,.int _ h2,.int _ s2,.sl n2 xs2,.int _ w3,.int _ h3,.int _ s3,.sl n3 xs3,.int _ w4,.int _ h4,.int _ s4,.sl n4 xs4]]=>some (RV.d (dQ (Im.formed ⟨w,h,so,⟨c0,c1,c2,ca,cf⟩,⟨w0,h0,s0,n0,xs0⟩,⟨w1,h1,s1,n1,xs1⟩,⟨w2,h2,s2,n2,xs2⟩,⟨w3,h3,s3,n3,xs3⟩,⟨w4,h4,s4,n4,xs4⟩⟩))) | _=>none
def gZ14 (xs:List RV):Option RV:=match xs with | [.agg [.int _ w,.int _ h,.bool so,.int _ c0,.int _ c1,.int _ c2,.int _ ca,.int _ cf,.int _ w0,.int _ h0,.int _ s0,.sl n0 xs0,.int _ w1,.int _ h1,.int _ s1,.sl n1 xs1,.int _ w2,.int _ h2,.int _ s2,.sl n2 xs2,.int _ w3,.int _ h3,.int _ s3,.sl n3 xs3,.int _ w4,.int _ h4,.int _ s4,.sl n4 xs4],.d (.int _ x),.d (.int _ y)]=>some (RV.agg [dK (Im.px ⟨w,h,so,⟨c0,c1,c2,ca,cf⟩,⟨w0,h0,s0,n0,xs0⟩,⟨w1,h1,s1,n1,xs1⟩,⟨w2,h2,s2,n2,xs2⟩,⟨w3,h3,s3,n3,xs3⟩,⟨w4,h4,s4,n4,xs4⟩⟩ x y).a,dK (Im.px ⟨w,h,so,⟨c0,c1,c2,ca,cf⟩,⟨w0,h0,s0,n0,xs0⟩,⟨w1,h1,s1,n1,xs1⟩,⟨w2,h2,s2,n2,xs2⟩,⟨w3,h3,s3,n3,xs3⟩,⟨w4,h4,s4,n4,xs4⟩⟩ x y).b,dK (Im.px ⟨w,h,so,⟨c0,c1,c2,ca,cf⟩,⟨w0,h0,s0,n0,xs0⟩,⟨w1,h1,s1,n1,xs1⟩,⟨w2,h2,s2,n2,xs2⟩,⟨w3,h3,s3,n3,xs3⟩,⟨w4,h4,s4,n4,xs4⟩⟩ x y).c,dK (Im.px ⟨w,h,so,⟨c0,c1,c2,ca,cf⟩,⟨w0,h0,s0,n0,xs0⟩,⟨w1,h1,s1,n1,xs1⟩,⟨w2,h2,s2,n2,xs2⟩,⟨w3,h3,s3,n3,xs3⟩,⟨w4,h4,s4,n4,xs4⟩⟩ x y).al,dK (Im.px ⟨w,h,so,⟨c0,c1,c2,ca,cf⟩,⟨w0,h0,s0,n0,xs0⟩,⟨w1,h1,s1,n1,xs1⟩,⟨w2,h2,s2,n2,xs2⟩,⟨w3,h3,s3,n3,xs3⟩,⟨w4,h4,s4,n4,xs4⟩⟩ x y).f]) | _=>none
def gZ15 (xs:List RV):Option RV:=match xs with | [.d (.int _ w),.d (.int _ h),.agg [.int _ c0,.int _ c1,.int _ c2,.int _ ca,.int _ cf]]=>some (RV.agg [dJ (zQd w h ⟨c0,c1,c2,ca,cf⟩).w,dJ (zQd w h ⟨c0,c1,c2,ca,cf⟩).h,dQ (zQd w h ⟨c0,c1,c2,ca,cf⟩).so,dK (zQd w h ⟨c0,c1,c2,ca,cf⟩).c.a,dK (zQd w h ⟨c0,c1,c2,ca,cf⟩).c.b,dK (zQd w h ⟨c0,c1,c2,ca,cf⟩).c.c,dK (zQd w h ⟨c0,c1,c2,ca,cf⟩).c.al,dK (zQd w h ⟨c0,c1,c2,ca,cf⟩).c.f,dJ (zQd w h ⟨c0,c1,c2,ca,cf⟩).p0.w,dJ (zQd w h ⟨c0,c1,c2,ca,cf⟩).p0.h,dJ (zQd w h ⟨c0,c1,c2,ca,cf⟩).p0.s,dS (zQd w h ⟨c0,c1,c2,ca,cf⟩).p0.n (zQd w h ⟨c0,c1,c2,ca,cf⟩).p0.xs,dJ (zQd w h ⟨c0,c1,c2,ca,cf⟩).p1.w,dJ (zQd w h ⟨c0,c1,c2,ca,cf⟩).p1.h,dJ (zQd w h ⟨c0,c1,c2,ca,cf⟩).p1.s,dS (zQd w h ⟨c0,c1,c2,ca,cf⟩).p1.n (zQd w h ⟨c0,c1,c2,ca,cf⟩).p1.xs,dJ (zQd w h ⟨c0,c1,c2,ca,cf⟩).p2.w,dJ (zQd w h ⟨c0,c1,c2,ca,cf⟩).p2.h,dJ (zQd w h ⟨c0,c1,c2,ca,cf⟩).p2.s,dS (zQd w h ⟨c0,c1,c2,ca,cf⟩).p2.n (zQd w h ⟨c0,c1,c2,ca,cf⟩).p2.xs,dJ (zQd w h ⟨c0,c1,c2,ca,cf⟩).p3.w,dJ (zQd w h ⟨c0,c1,c2,ca,cf⟩).p3.h,dJ (zQd w h ⟨c0,c1,c2,ca,cf⟩).p3.s,dS (zQd w h ⟨c0,c1,c2,ca,cf⟩).p3.n (zQd w h ⟨c0,c1,c2,ca,cf⟩).p3.xs,dJ (zQd w h ⟨c0,c1,c2,ca,cf⟩).p4.w,dJ (zQd w h ⟨c0,c1,c2,ca,cf⟩).p4.h,dJ (zQd w h ⟨c0,c1,c2,ca,cf⟩).p4.s,dS (zQd w h ⟨c0,c1,c2,ca,cf⟩).p4.n (zQd w h ⟨c0,c1,c2,ca,cf⟩).p4.xs]) | _=>none
def gZ16 (xs:List RV):Option RV:=match xs with | [.agg [.int _ w,.int _ h,.bool so,.int _ c0,.int _ c1,.int _ c2,.int _ ca,.int _ cf,.int _ w0,.int _ h0,.int _ s0,.sl n0 xs0,.int _ w1,.int _ h1,.int _ s1,.sl n1 xs1,.int _ w2,.int _ h2,.int _ s2,.sl n2 xs2,.int _ w3,.int _ h3,.int _ s3,.sl n3 xs3,.int _ w4,.int _ h4,.int _ s4,.sl n4 xs4],.d (.int _ most)]=>some (rJ (Im.valid ⟨w,h,so,⟨c0,c1,c2,ca,cf⟩,⟨w0,h0,s0,n0,xs0⟩,⟨w1,h1,s1,n1,xs1⟩,⟨w2,h2,s2,n2,xs2⟩,⟨w3,h3,s3,n3,xs3⟩,⟨w4,h4,s4,n4,xs4⟩⟩ most)) | _=>none
def gZ17 (xs:List RV):Option RV:=match xs with | [.agg [.int _ w,.int _ h,.bool so,.int _ c0,.int _ c1,.int _ c2,.int _ ca,.int _ cf,.int _ w0,.int _ h0,.int _ s0,.sl n0 xs0,.int _ w1,.int _ h1,.int _ s1,.sl n1 xs1,.int _ w2,.int _ h2,.int _ s2,.sl n2 xs2,.int _ w3,.int _ h3,.int _ s3,.sl n3 xs3,.int _ w4,.int _ h4,.int _ s4,.sl n4 xs4],.d (.int _ x),.d (.int _ y)]=>some (RV.agg [dK (Im.at_ ⟨w,h,so,⟨c0,c1,c2,ca,cf⟩,⟨w0,h0,s0,n0,xs0⟩,⟨w1,h1,s1,n1,xs1⟩,⟨w2,h2,s2,n2,xs2⟩,⟨w3,h3,s3,n3,xs3⟩,⟨w4,h4,s4,n4,xs4⟩⟩ x y).a,dK (Im.at_ ⟨w,h,so,⟨c0,c1,c2,ca,cf⟩,⟨w0,h0,s0,n0,xs0⟩,⟨w1,h1,s1,n1,xs1⟩,⟨w2,h2,s2,n2,xs2⟩,⟨w3,h3,s3,n3,xs3⟩,⟨w4,h4,s4,n4,xs4⟩⟩ x y).b,dK (Im.at_ ⟨w,h,so,⟨c0,c1,c2,ca,cf⟩,⟨w0,h0,s0,n0,xs0⟩,⟨w1,h1,s1,n1,xs1⟩,⟨w2,h2,s2,n2,xs2⟩,⟨w3,h3,s3,n3,xs3⟩,⟨w4,h4,s4,n4,xs4⟩⟩ x y).c,dK (Im.at_ ⟨w,h,so,⟨c0,c1,c2,ca,cf⟩,⟨w0,h0,s0,n0,xs0⟩,⟨w1,h1,s1,n1,xs1⟩,⟨w2,h2,s2,n2,xs2⟩,⟨w3,h3,s3,n3,xs3⟩,⟨w4,h4,s4,n4,xs4⟩⟩ x y).al,dK (Im.at_ ⟨w,h,so,⟨c0,c1,c2,ca,cf⟩,⟨w0,h0,s0,n0,xs0⟩,⟨w1,h1,s1,n1,xs1⟩,⟨w2,h2,s2,n2,xs2⟩,⟨w3,h3,s3,n3,xs3⟩,⟨w4,h4,s4,n4,xs4⟩⟩ x y).f]) | _=>none
def gZ18 (xs:List RV):Option RV:=match xs with | [.d (.int _ n)]=>some (RV.d (dK (gMax n))) | _=>none
def gZ19 (xs:List RV):Option RV:=match xs with | [.d (.int _ n),.d (.int _ most)]=>some (RV.d (dK (zQN n most))) | _=>none
def gZ20 (xs:List RV):Option RV:=match xs with | []=>some (RV.tup [RV.tup [rJ 37,rJ 5]]) | [.agg [.int _ mood,.sl L xs],.d (.int _ n),.d (.int _ most)]=>some (RV.d (dS n.toNat (pxs (zQq mood L xs most n.toNat)))) | _=>none
def gZ21 (xs:List AV) (bs:List Bx):Option Ret:=match xs,bs with | [AV.one (Cl.d (DV.int _ w)),AV.one (Cl.d (DV.int _ h)),AV.one (Cl.d (DV.sl n xs))],[]=>some ⟨AV.tup [AV.agg [cJ (imOf w h (zQe xs)).w,cJ (imOf w h (zQe xs)).h,Cl.d (dQ (imOf w h (zQe xs)).so),cK (imOf w h (zQe xs)).c.a,cK (imOf w h (zQe xs)).c.b,cK (imOf w h (zQe xs)).c.c,cK (imOf w h (zQe xs)).c.al,cK (imOf w h (zQe xs)).c.f,cJ (imOf w h (zQe xs)).p0.w,cJ (imOf w h (zQe xs)).p0.h,cJ (imOf w h (zQe xs)).p0.s,Cl.ref 0 (imOf w h (zQe xs)).p0.n,cJ (imOf w h (zQe xs)).p1.w,cJ (imOf w h (zQe xs)).p1.h,cJ (imOf w h (zQe xs)).p1.s,Cl.ref 1 (imOf w h (zQe xs)).p1.n,cJ (imOf w h (zQe xs)).p2.w,cJ (imOf w h (zQe xs)).p2.h,cJ (imOf w h (zQe xs)).p2.s,Cl.ref 2 (imOf w h (zQe xs)).p2.n,cJ (imOf w h (zQe xs)).p3.w,cJ (imOf w h (zQe xs)).p3.h,cJ (imOf w h (zQe xs)).p3.s,Cl.ref 3 (imOf w h (zQe xs)).p3.n,cJ (imOf w h (zQe xs)).p4.w,cJ (imOf w h (zQe xs)).p4.h,cJ (imOf w h (zQe xs)).p4.s,Cl.ref 4 (imOf w h (zQe xs)).p4.n],AV.one (Cl.d (dQ (ofOk w h n)))],[Bx.row 34 1 (imOf w h (zQe xs)).p0.xs,Bx.row 34 1 (imOf w h (zQe xs)).p1.xs,Bx.row 34 1 (imOf w h (zQe xs)).p2.xs,Bx.row 34 1 (imOf w h (zQe xs)).p3.xs,Bx.row 34 1 (imOf w h (zQe xs)).p4.xs],true⟩ | _,_=>none
def gamI:Gam where
 pure:=fun f xs=>
  if f=27 then gZ0 xs else
  if f=83 then gZ10 xs else
  if f=86 then gZ10 xs else
  if f=257 then gZ10 xs else
  if f=237 then (match xs with | [.agg [.int _ w,.int _ h,.int _ s,.sl n xs]]=>some (RV.d (dQ (zZc ⟨w,h,s,n,xs⟩))) | _=>none) else
  if f=258 then (match xs with | [.d (.int _ w),.d (.int _ h),.d (.int _ s)]=>some (rJ (lenW w h s)) | _=>none) else
  if f=238 then gZ11 xs else
  if f=163 then gZ11 xs else
  if f=117 then gZ12 xs else
  if f=231 then gZ12 xs else
  if f=208 then gZ13 xs else
  if f=87 then (match xs with | [.agg [.int _ w,.int _ h,.bool so,.int _ c0,.int _ c1,.int _ c2,.int _ ca,.int _ cf,.int _ w0,.int _ h0,.int _ s0,.sl n0 xs0,.int _ w1,.int _ h1,.int _ s1,.sl n1 xs1,.int _ w2,.int _ h2,.int _ s2,.sl n2 xs2,.int _ w3,.int _ h3,.int _ s3,.sl n3 xs3,.int _ w4,.int _ h4,.int _ s4,.sl n4 xs4]]=>some (RV.d (dQ (Im.inner ⟨w,h,so,⟨c0,c1,c2,ca,cf⟩,⟨w0,h0,s0,n0,xs0⟩,⟨w1,h1,s1,n1,xs1⟩,⟨w2,h2,s2,n2,xs2⟩,⟨w3,h3,s3,n3,xs3⟩,⟨w4,h4,s4,n4,xs4⟩⟩))) | _=>none) else
  if f=42 then gZ13 xs else
  if f=155 then gZ14 xs else
  if f=43 then gZ14 xs else
  if f=153 then (match xs with | [.agg [.int _ w,.int _ h,.bool so,.int _ c0,.int _ c1,.int _ c2,.int _ ca,.int _ cf,.int _ w0,.int _ h0,.int _ s0,.sl n0 xs0,.int _ w1,.int _ h1,.int _ s1,.sl n1 xs1,.int _ w2,.int _ h2,.int _ s2,.sl n2 xs2,.int _ w3,.int _ h3,.int _ s3,.sl n3 xs3,.int _ w4,.int _ h4,.int _ s4,.sl n4 xs4]]=>some (rJ (Im.shape ⟨w,h,so,⟨c0,c1,c2,ca,cf⟩,⟨w0,h0,s0,n0,xs0⟩,⟨w1,h1,s1,n1,xs1⟩,⟨w2,h2,s2,n2,xs2⟩,⟨w3,h3,s3,n3,xs3⟩,⟨w4,h4,s4,n4,xs4⟩⟩)) | _=>none) else
  if f=33 then gZ15 xs else
  if f=76 then gZ16 xs else
  if f=215 then gZ17 xs else
  if f=13 then gZ17 xs else
  if f=30 then gZ18 xs else
  if f=45 then gZ19 xs else
  if f=150 then (match xs with | [.agg [.int _ n0,.int _ n1,.int _ n2,.int _ n3,.int _ n4],.d (.int _ most)]=>let a:=(zZI n0 n1 n2 n3 n4 most); some (RV.agg [dK a.a,dK a.b,dK a.c,dK a.al,dK a.f]) | _=>none) else
  if f=73 then gZ20 xs else
  none
 modes:=fun f=>
  if f=154 then some ([true,true],0,2) else
  if f=38 then some ([true,true,true],0,5) else
  if f=74 then some ([true,true,true],0,5) else
  none
 proc:=fun f xs bs=>
  if f=154 then (match xs,bs with | [AV.one (Cl.d (DV.int _ w)),AV.one (Cl.d (DV.int _ h))],[]=>some ⟨AV.one (Cl.clo 209 [Cap.ptr 0 0,Cap.ptr 1 0]),[bC [cJ h],bC [cJ w]],false⟩ | _,_=>none) else
  if f=38 then gZ21 xs bs else
  if f=74 then gZ21 xs bs else
  none
 iter:=fun f cs=>
  if f=209 then (match cs with | [(true,[DV.int _ h]),(true,[DV.int _ w])]=>some ((w.toNat*h.toNat),fun _k=>[dJ ((_k % w.toNat:Nat):Int),dJ ((_k / w.toNat:Nat):Int)]) | _=>none) else
  none
section
attribute [local irreducible] Ans AnsO AnsG AnsN AnsI
theorem zWD (n:Int):Ans prog 30 [rJ (n)] (rD (dK (gMax n))):=
 zQa (Γ:=gamI) aL zQf Tryz.func30 rfl (nL rfl) fun hwf=>by
  refine Eq.mpr (by kernel_rfl:_=(let a:=(modS n (3:Int)); tU2 ((Ans prog 27 [rJ n,rJ 3] (rJ a))∧True∧(((a==2)=true→True∧rD (dK 65535)=rD (dK (gMax n)))∧((a==2)=false→True∧rD (dK 255)=rD (dK (gMax n))))))) ?_
  delta dK rJ
  simp only [sS,zQn]
  unfold gMax; grind
theorem zXX (n most:Int):Ans prog 45 [rJ (n),rD (dK most)] (rD (dK (zQN n most))):=
 zQa (Γ:=gamI) aL zQf Tryz.func45 rfl (nL rfl) fun hwf=>by
  refine Eq.mpr (by kernel_rfl:_=(let a:=(modS n (8:Int)); let d:=(a==1); let c:=(dK (zQN n most)); let b:=(wK (Int.tdiv n (8:Int))); let e:=(dJ b); let f:=(wK ((wK most)+1)); let g:=(((a==3)=true→tU2 (((8:Int)≠0)∧(Ans prog 27 [rD e,rJ 2] (rJ (modS b (2:Int))))∧True∧((2:Int)≠0)∧tU2 (rD (dK (wrap .u16 (wK (Int.tdiv (wK ((wK most)+(modS b (2:Int)))) (2:Int)))))=rD c)))∧((a==3)=false→tU2 (((a==4)=true→tU2 (((8:Int)≠0)∧(Ans prog 27 [rD e,rJ 4] (rJ (modS b (4:Int))))∧tU3 (rD (dK (wrap .u16 (min (wK most) (modS b (4:Int)))))=rD c)))∧((a==4)=false→True∧((8:Int)≠0)∧tU2 ((Ans prog 27 [rD e,rJ f] (rJ (modS b f)))∧tU2 (rD (dK (wrap .u16 (modS b f)))=rD c)))))); tU5 ((Ans prog 27 [rJ n,rJ 8] (rJ a))∧tU2 (((a==0)=true→True∧rD (dK 0)=rD c)∧((a==0)=false→tU2 ((d=true→((d=true→tU2 (rD (dK most)=rD c))∧(d=false→tU2 g)))∧(d=false→tU2 (((a==2)=true→tU2 (rD (dK most)=rD c))∧((a==2)=false→tU2 g))))))))) ?_
  delta dJ dK wK rJ
  simp only [sS,zQn,zWD]
  unfold zQN; grind
theorem zHq (n0 n1 n2 n3 n4 most:Int):Ans prog 150 [rA [dJ n0,dJ n1,dJ n2,dJ n3,dJ n4],rD (dK most)] (rA [dK ((zZI n0 n1 n2 n3 n4 most).a),dK ((zZI n0 n1 n2 n3 n4 most).b),dK ((zZI n0 n1 n2 n3 n4 most).c),dK ((zZI n0 n1 n2 n3 n4 most).al),dK ((zZI n0 n1 n2 n3 n4 most).f)]):=
 zQa (Γ:=gamI) aL zQf Tryz.func150 rfl (nL rfl) fun hwf=>by
  refine Eq.mpr (by kernel_rfl:_=(let g:=(modS n3 (3:Int)); let c:=((5:Nat):Int); let d:=(zZI n0 n1 n2 n3 n4 most); let a:=(zQN n4 most); let e:=(dK a); let h:=(0≤(3:Int)∧(3:Int) < c); let i:=(wK (Int.tdiv n3 (3:Int))); let b:=(zQN i a); let f:=(dK b); let j:=(0≤(0:Int)∧(0:Int) < c); let k:=(0≤(1:Int)∧(1:Int) < c); let l:=(0≤(2:Int)∧(2:Int) < c); let m:=[dK d.a,dK d.b,dK d.c,dK d.al,dK d.f]; tU2 ((0≤(4:Int)∧(4:Int) < c)∧tU2 ((Ans prog 45 [rJ n4,rD (dK most)] (rD e))∧tU3 (h∧True∧(Ans prog 27 [rJ n3,rJ 3] (rJ g))∧True∧(((decide (g > 0))=true→h∧True∧((3:Int)≠0)∧True∧(Ans prog 45 [rJ i,rD e] (rD f))∧True∧j∧tU2 ((Ans prog 45 [rJ n0,rD f] (rD (dK (zQN n0 b))))∧k∧tU2 ((Ans prog 45 [rJ n1,rD f] (rD (dK (zQN n1 b))))∧l∧tU2 ((Ans prog 45 [rJ n2,rD f] (rD (dK (zQN n2 b))))∧tU5 ((true=true)∧rA [dK (zQN n0 b),dK (zQN n1 b),dK (zQN n2 b),dK b,dK a]=rA m)))))∧((decide (g > 0))=false→j∧tU2 ((Ans prog 45 [rJ n0,rD e] (rD (dK (zQN n0 a))))∧k∧tU2 ((Ans prog 45 [rJ n1,rD e] (rD (dK (zQN n1 a))))∧l∧tU2 ((Ans prog 45 [rJ n2,rD e] (rD (dK (zQN n2 a))))∧tU5 ((true=true)∧rA [dK (zQN n0 a),dK (zQN n1 a),dK (zQN n2 a),dK a,dK a]=rA m))))))))))) ?_
  delta dK wK rJ
  simp only [sS,zQn,zWD,zXX,zXX]
  simp [zZI]; grind
theorem zUy (mood:Int) (L:Nat) (xs:List DV) (n most:Int) (hx:Is5 L xs) (hn:n≤16777216):AnsO prog 73 [rA [dJ mood,dS L xs],rJ (n),rD (dK most)] 37 5 n.toNat (pxs (zQq mood L xs most n.toNat)):=
 zVw (t:=6) (Γ:=gamI) (aQ aL (aQ aL (aQ (aQ aL (Ann.loop ⟨Nat,fun k=>k≤n.toNat,fun k=>⟨[(1,aJ n),(2,aO (cK most)),(3,aO (Cl.ptr 3 0)),(7,aO (Cl.ref 5000 k)),(8,aJ (k:Int))],[(3,bC [cJ mood,cD (dS L xs)]),(5000,bR 37 5 (pxs (zQq mood L xs most k)))]⟩,fun k=>n.toNat - k⟩ fun k=>aL)) aL))) zQf Tryz.func73 rfl (nL rfl) rfl fun hwf=>by
  refine Eq.mpr (by kernel_rfl:_=(let Q:=(zQq mood L xs most n.toNat); let q:=([dK 0,dK 0,dK 0,dK 0,dK 0]); let s:=(modS mood (6:Int)); let j:=(s==2); let l:=(s==1); let m:=(s==0); let o:=(zZI (0:Int) (0:Int) (0:Int) (0:Int) (0:Int) most); let z:=([dK o.a,dK o.b,dK o.c,dK most,dK most]); let R:=(dJ n=dJ n); let S:=(dK most=dK most); let T:=[dJ mood,dS L xs]; let g:=(T=T); let A:=fun (k:Nat)=>(let aA:=(zZI (nAt xs ((Int.tmod (k:Int) (L:Int)).toNat*5)) (nAt xs ((Int.tmod (k:Int) (L:Int)).toNat*5+1)) (nAt xs ((Int.tmod (k:Int) (L:Int)).toNat*5+1+1)) (nAt xs ((Int.tmod (k:Int) (L:Int)).toNat*5+1+1+1)) (nAt xs ((Int.tmod (k:Int) (L:Int)).toNat*5+1+1+1+1)) most); [dK aA.a,dK aA.b,dK aA.c,dK aA.al,dK aA.f]); let t:=(Ans prog 27 [rJ mood,rJ 6] (rJ s)); let d:=fun (k:Nat)=>(pxs (zQq mood L xs most k)); let e:=fun (k:Nat)=>fun (k':Nat)=>(n.toNat - k' < n.toNat - k); let h:=fun (k:Nat)=>fun (k':Nat)=>(R∧S∧(0=0)∧(k+1=k')∧(dJ (wK ((k:Int)+1))=dJ (k':Int))∧True); let U:=fun (k:Nat)=>fun (k':Nat)=>((h k k')∧(g∧((d k)++(A k)=pxs (zQq mood L xs most k'))∧True)); let B:=[dK o.a,dK o.b,dK o.c,dK o.al,dK o.f]; let V:=(Ans prog 150 [rA [dJ 0,dJ 0,dJ 0,dJ 0,dJ 0],rD (dK most)] (rA B)); let u:=fun (k:Nat)=>fun (k':Nat)=>((h k k')∧(g∧((d k)++B=pxs (zQq mood L xs most k'))∧True)); let C:=fun (k:Nat)=>(let aA:=(zZI (nAt xs (k*5)) (nAt xs (k*5+1)) (nAt xs (k*5+1+1)) (nAt xs (k*5+1+1+1)) (nAt xs (k*5+1+1+1+1)) most); [dK aA.a,dK aA.b,dK aA.c,dK aA.al,dK aA.f]); let W:=fun (k:Nat)=>fun (k':Nat)=>((h k k')∧(g∧((d k)++(C k)=pxs (zQq mood L xs most k'))∧True)); tU4 ((∃ k:Nat,(k≤n.toNat)∧((R∧S∧(0=0)∧(0=k)∧(dJ 0=dJ (k:Int))∧True)∧(g∧([]=pxs (zQq mood L xs most k))∧True)))∧∀ k:Nat,let X:=(zZL 5 10 k 1 (d k) (A k)); let Y:=(zZL 5 10 k 1 (d k) (C k)); let Z:=(zZL 5 10 k 1 (d k) z); let D:=(nAt xs (k*5)); let E:=(nAt xs (k*5+1)); let F:=(nAt xs (k*5+1+1)); let G:=(nAt xs (k*5+1+1+1)); let H:=(nAt xs (k*5+1+1+1+1)); let v:=(zZL 5 10 k 1 (d k) B); let w:=(zZL 5 10 k 1 (d k) q); let p:=(decide ((k:Int) > 0)); let i:=(Int.tmod (k:Int) (L:Int)); let z0:=(decide (i < (L:Int))); let I:=(nAt xs (i.toNat*5)); let J:=(nAt xs (i.toNat*5+1)); let K:=(nAt xs (i.toNat*5+1+1)); let M:=(nAt xs (i.toNat*5+1+1+1)); let N:=(nAt xs (i.toNat*5+1+1+1+1)); let x:=(((d k)[0]?=some (dK (nAt (d k) 0)))∧((d k)[1]?=some (dK (nAt (d k) 1)))∧((d k)[2]?=some (dK (nAt (d k) 2)))∧((d k)[3]?=some (dK (nAt (d k) 3)))∧((d k)[4]?=some (dK (nAt (d k) 4)))∧True); let r:=([dK (nAt (d k) 0),dK (nAt (d k) 1),dK (nAt (d k) 2),dK (nAt (d k) 3),dK (nAt (d k) 4)]); let y:=(zZL 5 10 k 1 (d k) r); let O:=(zZI D E F G H most); let z1:=([dK O.a,dK O.b,dK O.c,dK most,dK most]); let P:=(zZI I J K M N most); let z2:=([dK P.a,dK P.b,dK P.c,dK most,dK most]); (k≤n.toNat)→tU3 (((decide ((k:Int) < n))=true→tU6 (((decide ((L:Int) > 0))=true→tU4 (((L:Int)≠0)∧tU7 ((z0=true→tU3 ((0≤Int.tmod (k:Int) (L:Int)∧Int.tmod (k:Int) (L:Int) < (L:Int)∧i.toNat*5 < xs.length)∧((xs[i.toNat*5]?=some (dJ I))∧(xs[i.toNat*5+1]?=some (dJ J))∧(xs[i.toNat*5+1+1]?=some (dJ K))∧(xs[i.toNat*5+1+1+1]?=some (dJ M))∧(xs[i.toNat*5+1+1+1+1]?=some (dJ N))∧True)∧tU3 ((Ans prog 150 [rA [dJ I,dJ J,dJ K,dJ M,dJ N],rD (dK most)] (rA (A k)))∧tU4 (t∧tU2 ((m=true→tU5 (w∧tU4 (∃ k':Nat,(k'≤n.toNat)∧(e k k')∧((h k k')∧(g∧((d k)++q=pxs (zQq mood L xs most k'))∧True)))))∧(m=false→tU2 ((l=true→True∧tU8 ((zZL 5 10 k 1 (d k) z2)∧tU4 (∃ k':Nat,(k'≤n.toNat)∧(e k k')∧((h k k')∧(g∧((d k)++z2=pxs (zQq mood L xs most k'))∧True)))))∧(l=false→tU2 ((j=true→True∧(k≤maxLen)∧True∧((p=true→True∧(0≤(0:Int)∧(0:Int) < (k:Int))∧x∧tU4 (y∧tU4 (∃ k':Nat,(k'≤n.toNat)∧(e k k')∧((h k k')∧(g∧((d k)++r=pxs (zQq mood L xs most k'))∧True)))))∧(p=false→tU3 (X∧tU4 (∃ k':Nat,(k'≤n.toNat)∧(e k k')∧(U k k'))))))∧(j=false→tU3 (X∧tU4 (∃ k':Nat,(k'≤n.toNat)∧(e k k')∧(U k k')))))))))))))∧(z0=false→tU2 (V∧tU4 (t∧tU2 ((m=true→tU5 (w∧tU4 (∃ k':Nat,(k'≤n.toNat)∧(e k k')∧((h k k')∧(g∧((d k)++q=pxs (zQq mood L xs most k'))∧True)))))∧(m=false→tU2 ((l=true→True∧tU8 (Z∧tU4 (∃ k':Nat,(k'≤n.toNat)∧(e k k')∧((h k k')∧(g∧((d k)++z=pxs (zQq mood L xs most k'))∧True)))))∧(l=false→tU2 ((j=true→True∧(k≤maxLen)∧True∧((p=true→True∧(0≤(0:Int)∧(0:Int) < (k:Int))∧x∧tU4 (y∧tU4 (∃ k':Nat,(k'≤n.toNat)∧(e k k')∧((h k k')∧(g∧((d k)++r=pxs (zQq mood L xs most k'))∧True)))))∧(p=false→tU3 (v∧tU4 (∃ k':Nat,(k'≤n.toNat)∧(e k k')∧(u k k'))))))∧(j=false→tU3 (v∧tU4 (∃ k':Nat,(k'≤n.toNat)∧(e k k')∧(u k k')))))))))))))))∧((decide ((L:Int) > 0))=false→tU6 (((decide ((k:Int) < (L:Int)))=true→tU3 ((0≤(k:Int)∧(k:Int) < (L:Int)∧k*5 < xs.length)∧((xs[k*5]?=some (dJ D))∧(xs[k*5+1]?=some (dJ E))∧(xs[k*5+1+1]?=some (dJ F))∧(xs[k*5+1+1+1]?=some (dJ G))∧(xs[k*5+1+1+1+1]?=some (dJ H))∧True)∧tU3 ((Ans prog 150 [rA [dJ D,dJ E,dJ F,dJ G,dJ H],rD (dK most)] (rA (C k)))∧tU4 (t∧tU2 ((m=true→tU5 (w∧tU4 (∃ k':Nat,(k'≤n.toNat)∧(e k k')∧((h k k')∧(g∧((d k)++q=pxs (zQq mood L xs most k'))∧True)))))∧(m=false→tU2 ((l=true→True∧tU8 ((zZL 5 10 k 1 (d k) z1)∧tU4 (∃ k':Nat,(k'≤n.toNat)∧(e k k')∧((h k k')∧(g∧((d k)++z1=pxs (zQq mood L xs most k'))∧True)))))∧(l=false→tU2 ((j=true→True∧(k≤maxLen)∧True∧((p=true→True∧(0≤(0:Int)∧(0:Int) < (k:Int))∧x∧tU4 (y∧tU4 (∃ k':Nat,(k'≤n.toNat)∧(e k k')∧((h k k')∧(g∧((d k)++r=pxs (zQq mood L xs most k'))∧True)))))∧(p=false→tU3 (Y∧tU4 (∃ k':Nat,(k'≤n.toNat)∧(e k k')∧(W k k'))))))∧(j=false→tU3 (Y∧tU4 (∃ k':Nat,(k'≤n.toNat)∧(e k k')∧(W k k')))))))))))))∧((decide ((k:Int) < (L:Int)))=false→tU2 (V∧tU4 (t∧tU2 ((m=true→tU5 (w∧tU4 (∃ k':Nat,(k'≤n.toNat)∧(e k k')∧((h k k')∧(g∧((d k)++q=pxs (zQq mood L xs most k'))∧True)))))∧(m=false→tU2 ((l=true→True∧tU8 (Z∧tU4 (∃ k':Nat,(k'≤n.toNat)∧(e k k')∧((h k k')∧(g∧((d k)++z=pxs (zQq mood L xs most k'))∧True)))))∧(l=false→tU2 ((j=true→True∧(k≤maxLen)∧True∧((p=true→True∧(0≤(0:Int)∧(0:Int) < (k:Int))∧x∧tU4 (y∧tU4 (∃ k':Nat,(k'≤n.toNat)∧(e k k')∧((h k k')∧(g∧((d k)++r=pxs (zQq mood L xs most k'))∧True)))))∧(p=false→tU3 (v∧tU4 (∃ k':Nat,(k'≤n.toNat)∧(e k k')∧(u k k'))))))∧(j=false→tU3 (v∧tU4 (∃ k':Nat,(k'≤n.toNat)∧(e k k')∧(u k k'))))))))))))))))∧((decide ((k:Int) < n))=false→tU2 ((37=37∧5=5)∧(pxs Q).length=n.toNat*5∧k=n.toNat∧pxs (zQq mood L xs most k)=pxs Q)))))) ?_
  delta dJ dK wK dS rJ
  simp only [sS,zQn,zWD,zXX,zXX,zHq,zHq]
  refine ⟨⟨0,Nat.zero_le _,⟨rfl,rfl⟩,rfl⟩,fun k hk=>⟨fun hlt=>?_,fun hge=>?_⟩⟩
  ·have hkn:k < n.toNat:=by omega
   have hnn:n.toNat≤16777216:=by omega
   have tm:Int.tmod (k:Int) (L:Int)=((k % L:Nat):Int):=rfl
   simp only [tm,Int.toNat_natCast,Nat.add_assoc,Nat.reduceAdd]
   rcases Nat.eq_zero_or_pos L with hL | hL
   ·subst hL
    have P1:zZI 0 0 0 0 0 most=gPx1 0 xs most k:=by simp [gPx1,gNum]
    have P0:gPx1 0 xs most 0=gPx1 0 xs most k:=by simp [gPx1,gNum]
    simp only [P1]
    (repeat' (first | apply And.intro | intro)) <;> (first | assumption | omega | exact A _ (by omega) | rfl | (rw [zQx,zXk]; done) | (unfold maxLen; omega) | exact zKo (by omega) _ (by omega) | (apply jXr hkn hnn; simp_all [gPx,Px.ds,Px.zero]; done) | (obtain ⟨v0,v1,v2,v3,v4⟩:=jZc (mood:=mood) (L:=L) (xs:=xs) (most:=most) (k:=k) (by omega) (eq_of_beq (by assumption)); apply jXr hkn hnn; simp_all [gPx,Px.ds]; done) | (obtain ⟨v0,v1,v2,v3,v4⟩:=jZc (mood:=mood) (L:=0) (xs:=xs) (most:=most) (k:=k) (by omega) (eq_of_beq (by assumption)); apply jXr hkn hnn; simp_all [gPx,Px.ds]; done) | (have P2:=P0 (by omega); apply jXr hkn hnn; simp_all [gPx,Px.ds]; done))
   ·have hmod:=Nat.mod_lt k hL
    have P1:zZI (nAt xs (k % L*5)) (nAt xs (k % L*5+1)) (nAt xs (k % L*5+2)) (nAt xs (k % L*5+3)) (nAt xs (k % L*5+4)) most=gPx1 L xs most k:=by simp [gPx1,gNum,hL]
    simp only [P1]
    have P0:k=0→gPx1 L xs most 0=gPx1 L xs most k:=fun h=>by rw [h]
    have A:=hx.2
    have B:=hx.1
    (repeat' (first | apply And.intro | intro)) <;> (first | assumption | omega | exact A _ (by omega) | rfl | (rw [zQx,zXk]; done) | (unfold maxLen; omega) | exact zKo (by omega) _ (by omega) | (apply jXr hkn hnn; simp_all [gPx,Px.ds,Px.zero]; done) | (obtain ⟨v0,v1,v2,v3,v4⟩:=jZc (mood:=mood) (L:=L) (xs:=xs) (most:=most) (k:=k) (by omega) (eq_of_beq (by assumption)); apply jXr hkn hnn; simp_all [gPx,Px.ds]; done) | (obtain ⟨v0,v1,v2,v3,v4⟩:=jZc (mood:=mood) (L:=0) (xs:=xs) (most:=most) (k:=k) (by omega) (eq_of_beq (by assumption)); apply jXr hkn hnn; simp_all [gPx,Px.ds]; done) | (have P2:=P0 (by omega); apply jXr hkn hnn; simp_all [gPx,Px.ds]; done))
  ·have:k=n.toNat:=by omega
   subst this
   rw [zQx,zXk]
   exact ⟨rfl,rfl,rfl⟩
def zZJ (op:Int):ByteArray:=if 1≤op∧op < 13 then sAt zZV (op.toNat*4) else ⟨#[]⟩
def zXY (op:Int) (i:Nat):Int:=if 1≤op∧op < 13 then nAt zZV (op.toNat*4+i) else 0
def zZQ (op:Int):ByteArray:=if 1≤op∧op < 13 then sAt zVc op.toNat else ⟨#[]⟩
theorem zYQ {op:Int} (h:1≤op∧op < 13):op=1∨op=2∨op=3∨op=4∨op=5∨op=6∨op=7∨op=8∨op=9∨op=10∨op=11∨op=12:=by omega
theorem zUl (op:Int):((zZJ op).toList==(⟨#[]⟩:ByteArray).toList)=!decide (1≤op∧op < 13):=by
 by_cases h:1≤op∧op < 13
 ·rcases zYQ h with rfl | rfl | rfl | rfl | rfl | rfl | rfl | rfl | rfl | rfl | rfl | rfl <;> decide +kernel
 ·simp [zZJ,h]
theorem zVs (op:Int):((zZQ op).toList==(⟨#[]⟩:ByteArray).toList)=!decide (1≤op∧op < 13):=by
 by_cases h:1≤op∧op < 13
 ·rcases zYQ h with rfl | rfl | rfl | rfl | rfl | rfl | rfl | rfl | rfl | rfl | rfl | rfl <;> decide +kernel
 ·simp [zZQ,h]
def gZ22 (xs:List RV):Option RV:=match xs with | [.d (.int _ op)]=>some (RV.tup [RV.agg [DV.str (zZJ op),dJ (zXY op 1),dJ (zXY op 2),dJ (zXY op 3)],RV.d (dQ (decide (1≤op∧op < 13)))]) | _=>none
def gZ23 (xs:List RV):Option RV:=match xs with | [.d (.int _ op)]=>some (RV.d (DV.str (zZJ op))) | _=>none
def gZ24 (xs:List RV):Option RV:=match xs with | [.d (.int _ op)]=>some (RV.d (dQ (decide (1≤op∧op < 13)))) | _=>none
def gZ25 (xs:List RV):Option RV:=match xs with | [.d (.int _ op)]=>some (RV.d (DV.str (zZQ op))) | _=>none
def jXq:Gam where
 pure:=fun f xs=>
  if f=216 then gZ22 xs else
  if f=165 then gZ23 xs else
  if f=217 then gZ24 xs else
  if f=166 then gZ25 xs else
  if f=266 then gZ23 xs else
  if f=267 then gZ25 xs else
  if f=248 then gZ24 xs else
  if f=249 then gZ24 xs else
  none
 modes:=fun f=>
  none
 proc:=fun f xs bs=>
  none
 iter:=fun f cs=>
  none
theorem zQl (op:Int):Ans prog 216 [rJ (op)] (rT [rA [DV.str (zZJ op),dJ (zXY op 1),dJ (zXY op 2),dJ (zXY op 3)],rD (dQ (decide (1≤op∧op < 13)))]):=
 zQa (Γ:=jXq) aL zQf Tryz.func216 rfl (nL rfl) fun hwf=>by
  refine Eq.mpr (by kernel_rfl:_=(let b:=(sAt zZV (0+op.toNat*4)); let c:=(nAt zZV (0+op.toNat*4+1)); let d:=(nAt zZV (0+op.toNat*4+1+1)); let e:=(nAt zZV (0+op.toNat*4+1+1+1)); let f:=[rA [DV.str (⟨#[]⟩:ByteArray),dJ 0,dJ 0,dJ 0],rD (dQ false)]; let a:=[rA [DV.str (zZJ op),dJ (zXY op 1),dJ (zXY op 2),dJ (zXY op 3)],rD (dQ (decide (1≤op∧op < 13)))]; tU5 (((decide (op < 1))=false→tU3 (((decide (op≥13))=true→tU3 (rT f=rT a))∧((decide (op≥13))=false→True∧(0≤op∧op < ((13:Nat):Int))∧((zZV[0+op.toNat*4]?=some (DV.str b))∧(zZV[0+op.toNat*4+1]?=some (dJ c))∧(zZV[0+op.toNat*4+1+1]?=some (dJ d))∧(zZV[0+op.toNat*4+1+1+1]?=some (dJ e))∧True)∧tU2 (rT [rA [DV.str b,dJ c,dJ d,dJ e],rD (dQ true)]=rT a))))∧((decide (op < 1))=(!false)→tU4 (rT f=rT a))))) ?_
  delta dJ dQ
  simp only [sS]
  refine ⟨fun h1=>⟨fun h2=>?_,fun h2=>⟨⟨by omega,by omega⟩,?_⟩⟩,fun h1=>?_⟩
  ·have h:¬ (1≤op∧op < 13):=by omega
   simp [zZJ,zXY,h]
  ·have h:1≤op∧op < 13:=by omega
   clear h1 h2
   rcases zYQ h with rfl | rfl | rfl | rfl | rfl | rfl | rfl | rfl | rfl | rfl | rfl | rfl <;> exact ⟨⟨rfl,rfl,rfl,rfl⟩,⟨rfl,rfl,rfl,rfl⟩,rfl⟩
  ·have h:¬ (1≤op∧op < 13):=by omega
   simp [zZJ,zXY,h]
theorem zQz (op:Int):Ans prog 165 [rJ (op)] (rD (DV.str (zZJ op))):=
 zQa (Γ:=jXq) aL zQf Tryz.func165 rfl (nL rfl) fun hwf=>by
  refine Eq.mpr (by kernel_rfl:_=(tU2 ((Ans prog 216 [rJ op] (rT [rA [DV.str (zZJ op),dJ (zXY op 1),dJ (zXY op 2),dJ (zXY op 3)],rD (dQ (decide (1≤op∧op < 13)))]))∧True∧tU8 (rD (DV.str (zZJ op))=rD (DV.str (zZJ op)))))) ?_
  delta dJ dQ rJ
  simp only [sS,zQl]
theorem zQJ (op:Int):Ans prog 217 [rJ (op)] (rD (dQ (decide (1≤op∧op < 13)))):=
 zQa (Γ:=jXq) aL zQf Tryz.func217 rfl (nL rfl) fun hwf=>by
  refine Eq.mpr (by kernel_rfl:_=(let a:=(dQ (decide (1≤op∧op < 13))); tU4 (((decide (op≥1))=true→tU4 (rD (dQ (decide (op≤12)))=rD a))∧((decide (op≥1))=(!true)→tU2 (rD (dQ false)=rD a))))) ?_
  delta dQ
  simp only [sS,zQl,zQz]
  by_cases h:op≥1 <;> simp [h] <;> omega
theorem zQ6 (op:Int):Ans prog 166 [rJ (op)] (rD (DV.str (zZQ op))):=
 zQa (Γ:=jXq) aL zQf Tryz.func166 rfl (nL rfl) fun hwf=>by
  refine Eq.mpr (by kernel_rfl:_=(let a:=(DV.str (sAt zVc (0+op.toNat*1))); tU2 ((Ans prog 217 [rJ op] (rD (dQ (decide (1≤op∧op < 13)))))∧True∧(((!(decide (1≤op∧op < 13)))=true→True∧rD (DV.str (⟨#[]⟩:ByteArray))=rD (DV.str (zZQ op)))∧((!(decide (1≤op∧op < 13)))=false→True∧(0≤op∧op < ((13:Nat):Int))∧((zVc[0+op.toNat*1]?=some a)∧True)∧True∧rD a=rD (DV.str (zZQ op))))))) ?_
  delta dQ rJ
  simp only [sS,zQl,zQz,zQJ]
  refine ⟨fun h=>by simp [zZQ,h],fun h=>⟨⟨by omega,by omega⟩,?_⟩⟩
  rcases zYQ h with rfl | rfl | rfl | rfl | rfl | rfl | rfl | rfl | rfl | rfl | rfl | rfl <;> exact ⟨rfl,rfl⟩
theorem zZj (op:Int):Ans prog 266 [rJ (op)] (rD (DV.str (zZJ op))):=
 zQa (Γ:=jXq) aL zQf Tryz.func266 rfl (nL rfl) fun hwf=>by
  refine Eq.mpr (by kernel_rfl:_=(let a:=(DV.str (zZJ op)); let b:=(DV.str (⟨#[]⟩:ByteArray)); let c:=(DV.str (sAt ([DV.str (⟨#[]⟩:ByteArray),DV.str (⟨#[99,108,101,97,114]⟩:ByteArray),DV.str (⟨#[115,114,99]⟩:ByteArray),DV.str (⟨#[100,115,116]⟩:ByteArray),DV.str (⟨#[115,114,99,45,111,118,101,114]⟩:ByteArray),DV.str (⟨#[100,115,116,45,111,118,101,114]⟩:ByteArray),DV.str (⟨#[115,114,99,45,105,110]⟩:ByteArray),DV.str (⟨#[100,115,116,45,105,110]⟩:ByteArray),DV.str (⟨#[115,114,99,45,111,117,116]⟩:ByteArray),DV.str (⟨#[100,115,116,45,111,117,116]⟩:ByteArray),DV.str (⟨#[115,114,99,45,97,116,111,112]⟩:ByteArray),DV.str (⟨#[100,115,116,45,97,116,111,112]⟩:ByteArray),DV.str (⟨#[120,111,114]⟩:ByteArray)]) (op.toNat*1))); tU6 (((decide (op < 1))=false→tU2 ((13≤maxLen)∧tU2 (((decide (op≥((13:Nat):Int)))=true→True∧rD b=rD a)∧((decide (op≥((13:Nat):Int)))=false→tU2 ((0≤op∧op < ((13:Nat):Int))∧((([DV.str (⟨#[]⟩:ByteArray),DV.str (⟨#[99,108,101,97,114]⟩:ByteArray),DV.str (⟨#[115,114,99]⟩:ByteArray),DV.str (⟨#[100,115,116]⟩:ByteArray),DV.str (⟨#[115,114,99,45,111,118,101,114]⟩:ByteArray),DV.str (⟨#[100,115,116,45,111,118,101,114]⟩:ByteArray),DV.str (⟨#[115,114,99,45,105,110]⟩:ByteArray),DV.str (⟨#[100,115,116,45,105,110]⟩:ByteArray),DV.str (⟨#[115,114,99,45,111,117,116]⟩:ByteArray),DV.str (⟨#[100,115,116,45,111,117,116]⟩:ByteArray),DV.str (⟨#[115,114,99,45,97,116,111,112]⟩:ByteArray),DV.str (⟨#[100,115,116,45,97,116,111,112]⟩:ByteArray),DV.str (⟨#[120,111,114]⟩:ByteArray)])[op.toNat*1]?=some c)∧True)∧True∧rD c=rD a)))))∧((decide (op < 1))=(!false)→tU2 (rD b=rD a))))) ?_
  simp only [sS,zQl,zQz,zQJ,zQ6]
  refine ⟨fun h1=>⟨by decide,fun h2=>?_,fun h2=>⟨⟨by omega,by omega⟩,?_⟩⟩,fun h1=>?_⟩
  ·have h:¬ (1≤op∧op < 13):=by omega
   simp [zZJ,h]
  ·have h:1≤op∧op < 13:=by omega
   clear h1 h2
   rcases zYQ h with rfl | rfl | rfl | rfl | rfl | rfl | rfl | rfl | rfl | rfl | rfl | rfl <;> exact ⟨rfl,rfl⟩
  ·have h:¬ (1≤op∧op < 13):=by omega
   simp [zZJ,h]
theorem zZb (op:Int):Ans prog 267 [rJ (op)] (rD (DV.str (zZQ op))):=
 zQa (Γ:=jXq) aL zQf Tryz.func267 rfl (nL rfl) fun hwf=>by
  refine Eq.mpr (by kernel_rfl:_=(let a:=(DV.str (zZQ op)); let b:=(DV.str (⟨#[]⟩:ByteArray)); let c:=(DV.str (sAt ([DV.str (⟨#[]⟩:ByteArray),DV.str (⟨#[110,111,114,109,97,108]⟩:ByteArray),DV.str (⟨#[109,117,108,116,105,112,108,121]⟩:ByteArray),DV.str (⟨#[115,99,114,101,101,110]⟩:ByteArray),DV.str (⟨#[111,118,101,114,108,97,121]⟩:ByteArray),DV.str (⟨#[100,97,114,107,101,110]⟩:ByteArray),DV.str (⟨#[108,105,103,104,116,101,110]⟩:ByteArray),DV.str (⟨#[99,111,108,111,114,45,100,111,100,103,101]⟩:ByteArray),DV.str (⟨#[99,111,108,111,114,45,98,117,114,110]⟩:ByteArray),DV.str (⟨#[104,97,114,100,45,108,105,103,104,116]⟩:ByteArray),DV.str (⟨#[115,111,102,116,45,108,105,103,104,116]⟩:ByteArray),DV.str (⟨#[100,105,102,102,101,114,101,110,99,101]⟩:ByteArray),DV.str (⟨#[101,120,99,108,117,115,105,111,110]⟩:ByteArray)]) (op.toNat*1))); tU6 (((decide (op < 1))=false→tU2 ((13≤maxLen)∧tU2 (((decide (op≥((13:Nat):Int)))=true→True∧rD b=rD a)∧((decide (op≥((13:Nat):Int)))=false→tU2 ((0≤op∧op < ((13:Nat):Int))∧((([DV.str (⟨#[]⟩:ByteArray),DV.str (⟨#[110,111,114,109,97,108]⟩:ByteArray),DV.str (⟨#[109,117,108,116,105,112,108,121]⟩:ByteArray),DV.str (⟨#[115,99,114,101,101,110]⟩:ByteArray),DV.str (⟨#[111,118,101,114,108,97,121]⟩:ByteArray),DV.str (⟨#[100,97,114,107,101,110]⟩:ByteArray),DV.str (⟨#[108,105,103,104,116,101,110]⟩:ByteArray),DV.str (⟨#[99,111,108,111,114,45,100,111,100,103,101]⟩:ByteArray),DV.str (⟨#[99,111,108,111,114,45,98,117,114,110]⟩:ByteArray),DV.str (⟨#[104,97,114,100,45,108,105,103,104,116]⟩:ByteArray),DV.str (⟨#[115,111,102,116,45,108,105,103,104,116]⟩:ByteArray),DV.str (⟨#[100,105,102,102,101,114,101,110,99,101]⟩:ByteArray),DV.str (⟨#[101,120,99,108,117,115,105,111,110]⟩:ByteArray)])[op.toNat*1]?=some c)∧True)∧True∧rD c=rD a)))))∧((decide (op < 1))=(!false)→tU2 (rD b=rD a))))) ?_
  simp only [sS,zQl,zQz,zQJ,zQ6,zZj]
  refine ⟨fun h1=>⟨by decide,fun h2=>?_,fun h2=>⟨⟨by omega,by omega⟩,?_⟩⟩,fun h1=>?_⟩
  ·have h:¬ (1≤op∧op < 13):=by omega
   simp [zZQ,h]
  ·have h:1≤op∧op < 13:=by omega
   clear h1 h2
   rcases zYQ h with rfl | rfl | rfl | rfl | rfl | rfl | rfl | rfl | rfl | rfl | rfl | rfl <;> exact ⟨rfl,rfl⟩
  ·have h:¬ (1≤op∧op < 13):=by omega
   simp [zZQ,h]
theorem zXp (op:Int):Ans prog 248 [rJ (op)] (rD (dQ (decide (1≤op∧op < 13)))):=
 zQa (Γ:=jXq) aL zQf Tryz.func248 rfl (nL rfl) fun hwf=>by
  refine Eq.mpr (by kernel_rfl:_=(tU2 ((Ans prog 266 [rJ op] (rD (DV.str (zZJ op))))∧tU2 (rD (dQ (!((zZJ op).toList==(⟨#[]⟩:ByteArray).toList)))=rD (dQ (decide (1≤op∧op < 13))))))) ?_
  delta dQ rJ
  simp only [sS,zQl,zQz,zQJ,zQ6,zZj,zZb]
  rw [zUl]; simp
theorem zZ6 (op:Int):Ans prog 249 [rJ (op)] (rD (dQ (decide (1≤op∧op < 13)))):=
 zQa (Γ:=jXq) aL zQf Tryz.func249 rfl (nL rfl) fun hwf=>by
  refine Eq.mpr (by kernel_rfl:_=(tU2 ((Ans prog 267 [rJ op] (rD (DV.str (zZQ op))))∧tU2 (rD (dQ (!((zZQ op).toList==(⟨#[]⟩:ByteArray).toList)))=rD (dQ (decide (1≤op∧op < 13))))))) ?_
  delta dQ rJ
  simp only [sS,zQl,zQz,zQJ,zQ6,zZj,zZb,zXp]
  rw [zVs]; simp
def gZ26 (xs:List RV):Option RV:=match xs with | [.d (.sl n xs)]=>some (RV.d (dQ ((ints xs).all zXd))) | _=>none
def gZ27 (xs:List RV):Option RV:=match xs with | [.agg [.int _ okind,.int _ oimage,.int _ ox,.int _ oy,.int _ omask,.int _ omx,.int _ omy,.int _ oopac,.int _ ooper,.int _ omode,.bool oiso,.bool okno]]=>some (RV.d (dQ (Oq.fields ⟨okind,oimage,ox,oy,omask,omx,omy,oopac,ooper,omode,oiso,okno⟩))) | _=>none
def gZ28 (xs:List RV):Option RV:=match xs with | [.d (.sl n xs)]=>some (RV.d (dQ (ctxB (zQb xs)))) | _=>none
def jUY:Gam where
 pure:=fun f xs=>
  if f=152 then gZ26 xs else
  if f=164 then gZ27 xs else
  if f=167 then gZ28 xs else
  none
 modes:=fun f=>
  none
 proc:=fun f xs bs=>
  none
 iter:=fun f cs=>
  none
theorem zZf (o:Oq):Ans prog 164 [rA [dJ o.kind,dJ o.image,dJ o.x,dJ o.y,dJ o.mask,dJ o.mx,dJ o.my,dK o.opac,dJ o.oper,dJ o.mode,dQ o.iso,dQ o.kno]] (rD (dQ (Oq.fields ⟨o.kind,o.image,o.x,o.y,o.mask,o.mx,o.my,o.opac,o.oper,o.mode,o.iso,o.kno⟩))):=
 zQa (Γ:=jUY) aL zQf Tryz.func164 rfl (nL rfl) fun hwf=>by
  refine Eq.mpr (by kernel_rfl:_=(let a:=(dQ (Oq.fields ⟨o.kind,o.image,o.x,o.y,o.mask,o.mx,o.my,o.opac,o.oper,o.mode,o.iso,o.kno⟩)); let b:=(rD (dQ false)=rD a); let c:=(((o.mask != 0)=false→tU4 (((o.mx==0)=true→tU6 (rD (dQ (o.my==0))=rD a))∧((o.mx==0)=(!true)→tU3 b)))∧((o.mask != 0)=(!false)→tU2 (rD (dQ true)=rD a))); let d:=(((o.kind==2)=true→tU4 (((o.image != 0)=false→tU5 (((o.x != 0)=false→tU6 (((o.y != 0)=true→True∧rD (dQ false)=rD a)∧((o.y != 0)=false→tU4 c)))∧((o.x != 0)=(!false)→tU4 b)))∧((o.image != 0)=(!false)→tU6 b)))∧((o.kind==2)=(!true)→tU6 c)); tU6 (((o.kind==3)=true→tU4 (rD (dQ ((o.kind==3) && ((o.image==0) && ((o.x==0) && ((o.y==0) && ((o.mask==0) && ((o.mx==0) && ((o.my==0) && ((o.opac==0) && ((o.oper==0) && ((o.mode==0) && ((o.iso==false) && ((o.kno==false) && true)))))))))))))=rD a))∧((o.kind==3)=false→tU4 (((o.kind==1)=true→tU3 ((o.iso=false→tU5 ((o.kno=true→True∧rD (dQ false)=rD a)∧(o.kno=false→tU4 d)))∧(o.iso=(!false)→tU4 b)))∧((o.kind==1)=(!true)→tU6 d)))))) ?_
  delta dQ
  simp only [sS,zQl,zQz,zQJ,zQ6,zZj,zZb,zXp,zZ6]
  obtain ⟨okind,oimage,ox,oy,omask,omx,omy,oopac,ooper,omode,oiso,okno⟩:=o
  simp only [Oq.fields,popO,Oq.mk.injEq]
  have hb:∀ a c:Int,(a==c)=decide (a=c):=fun _ _=>rfl
  have hn:∀ a c:Int,(a != c)=!decide (a=c):=fun _ _=>rfl
  simp only [hb,hn]
  cases oiso <;> cases okno <;> by_cases h3:okind=3 <;> by_cases h1:okind=1 <;> by_cases h2:okind=2 <;> by_cases h0:omask=0 <;> simp [h3,h1,h2,h0,Bool.or_assoc] <;> first | omega | grind | skip
theorem zJB (n:Nat) (xs:List DV) (hx:xs=is (ints xs)∧n=xs.length):Ans prog 152 [rD (dS n xs)] (rD (dQ ((ints xs).all zXd))):=
 zQa (Γ:=jUY) (aQ aL (aQ (aQ aL (Ann.loop ⟨Nat,fun k=>k≤n∧((ints xs).take k).all zXd=true,fun k=>⟨[(0,aO (cD (dS n xs))),(5,aO (cD (dS n xs))),(6,aJ (n:Int)),(7,aJ (k:Int))],[]⟩,fun k=>n - k⟩ fun k=>aL)) aL)) zQf Tryz.func152 rfl (nL rfl) fun hwf=>by
  refine Eq.mpr (by kernel_rfl:_=(let a:=(dS n xs=dS n xs); let d:=fun (k:Nat)=>(k≤n∧((ints xs).take k).all zXd=true); let e:=(dJ (n:Int)=dJ (n:Int)); let b:=(dQ ((ints xs).all zXd)); tU4 ((∃ k:Nat,(d k)∧((a∧a∧e∧(dJ 0=dJ (k:Int))∧True)∧True))∧∀ k:Nat,let c:=(nAt xs (k*1)); let f:=(decide (c > 1048576)); let g:=(decide (c < (-1048576:Int))); (d k)→True∧(((decide ((k:Int) < (n:Int)))=true→(0≤(k:Int)∧(k:Int) < (n:Int)∧k*1 < xs.length)∧((xs[k*1]?=some (dJ c))∧True)∧tU4 ((g=false→tU3 ((f=true→True∧rD (dQ false)=rD b)∧(f=false→tU2 (∃ k':Nat,(k'≤n∧((ints xs).take k').all zXd=true)∧(n - k' < n - k)∧((a∧a∧e∧(dJ (wK ((k:Int)+1))=dJ (k':Int))∧True)∧True)))))∧(g=(!false)→tU2 (rD (dQ false)=rD b))))∧((decide ((k:Int) < (n:Int)))=false→True∧rD (dQ true)=rD b))))) ?_
  delta dJ dQ wK dS
  simp only [sS,zQl,zQz,zQJ,zQ6,zZj,zZb,zXp,zZ6,zZf]
  obtain ⟨hx,rfl⟩:=hx
  generalize hl:ints xs=l at *
  subst hx
  simp only [zQH,Nat.mul_one] at *
  simp only [RV.wfs,RV.wf,DV.wf,maxLen,zQH] at hwf
  have stop:∀ k,k < l.length→zXd (l[k]?.getD 0)=false→l.all zXd=false:=fun k hk h=>by
   rw [List.getElem?_eq_getElem hk] at h
   exact List.all_eq_false.2 ⟨l[k],List.getElem_mem hk,by simpa using h⟩
  refine ⟨⟨0,⟨Nat.zero_le _,rfl⟩,rfl⟩,fun k hk=>⟨fun hlt=>?_,fun hge=>?_⟩⟩
  ·have h:k < l.length:=by omega
   have e:=zGG h
   have s0:=stop k h
   rw [List.getElem?_eq_getElem h] at s0
   simp only [Option.getD_some] at s0
   rw [e]
   refine ⟨⟨by omega,by omega,h⟩,jYv h,fun h1=>⟨fun h2=>(s0 (by simp [zXd]; omega)).symm,fun h2=>⟨k+1,⟨by omega,?_⟩,by omega,by rw [IntKind.wrap_i64]; omega⟩⟩,fun h1=>(s0 (by simp [zXd]; omega)).symm⟩
   rw [List.take_succ_eq_append_getElem h,List.all_append,hk.2]
   simp [zXd]; omega
  ·have:k=l.length:=by omega
   subst this
   rw [List.take_length] at hk
   exact hk.2.symm
theorem zVg (n:Nat) (xs:List DV) (hO:xs=ops (zQb xs)∧n=(zQb xs).length):Ans prog 167 [rD (dS n xs)] (rD (dQ (ctxB (zQb xs)))):=
 zQa (Γ:=jUY) aL zQf Tryz.func167 rfl (nL rfl) fun hwf=>by
  refine Eq.mpr (by kernel_rfl:_=(let b:=(dQ (ctxB (zQb xs))); let a:=(wK ((n:Int) - 1)); let d:=(a.toNat*12+1+1+1+1+1+1+1+1+1+1+1); let c:=(bAt xs (a.toNat*12+1+1+1+1+1+1+1+1+1+1)); tU4 ((((n:Int)==0)=true→True∧rD (dQ true)=rD b)∧(((n:Int)==0)=false→tU4 ((0≤wK ((n:Int) - 1)∧wK ((n:Int) - 1) < (n:Int)∧a.toNat*12 < xs.length)∧((xs[a.toNat*12]?=some (dJ (nAt xs (a.toNat*12))))∧(xs[a.toNat*12+1]?=some (dJ (nAt xs (a.toNat*12+1))))∧(xs[a.toNat*12+1+1]?=some (dJ (nAt xs (a.toNat*12+1+1))))∧(xs[a.toNat*12+1+1+1]?=some (dJ (nAt xs (a.toNat*12+1+1+1))))∧(xs[a.toNat*12+1+1+1+1]?=some (dJ (nAt xs (a.toNat*12+1+1+1+1))))∧(xs[a.toNat*12+1+1+1+1+1]?=some (dJ (nAt xs (a.toNat*12+1+1+1+1+1))))∧(xs[a.toNat*12+1+1+1+1+1+1]?=some (dJ (nAt xs (a.toNat*12+1+1+1+1+1+1))))∧(xs[a.toNat*12+1+1+1+1+1+1+1]?=some (dK (nAt xs (a.toNat*12+1+1+1+1+1+1+1))))∧(xs[a.toNat*12+1+1+1+1+1+1+1+1]?=some (dJ (nAt xs (a.toNat*12+1+1+1+1+1+1+1+1))))∧(xs[a.toNat*12+1+1+1+1+1+1+1+1+1]?=some (dJ (nAt xs (a.toNat*12+1+1+1+1+1+1+1+1+1))))∧(xs[a.toNat*12+1+1+1+1+1+1+1+1+1+1]?=some (dQ c))∧(xs[a.toNat*12+1+1+1+1+1+1+1+1+1+1+1]?=some (dQ (bAt xs d)))∧True)∧tU5 ((c=true→tU5 (rD (dQ (!(bAt xs d)))=rD b))∧(c=(!true)→tU2 (rD (dQ false)=rD b)))))))) ?_
  delta dJ dK dQ wK
  simp only [sS,zQG,zQl,zQz,zQJ,zQ6,zZj,zZb,zXp,zZ6,zZf]
  obtain ⟨hO,rfl⟩:=hO
  generalize zQb xs=l at *
  subst hO
  simp only [RV.wfs,RV.wf,DV.wf,maxLen] at hwf
  refine ⟨fun h=>?_,fun h=>?_⟩
  ·have:l=[]:=by simpa using h
   subst this; rfl
  ·obtain ⟨N,hN⟩:∃ N,l.length=N+1:=⟨l.length - 1,by have:l≠[]:=fun e=>(by subst e; simp at h); have:=List.length_pos_iff.2 this; omega⟩
   have e:wrap .i64 ((l.length:Int) - 1)=(N:Int):=by rw [IntKind.wrap_i64]; omega
   have hN2:N < l.length:=by omega
   have q1:=zWd hN2
   have q2:=zWe hN2
   have q3:ctxB l=(l[N].iso && !l[N].kno):=by
    unfold ctxB
    rw [List.getLast?_eq_getElem?,show l.length - 1=N by omega,List.getElem?_eq_getElem hN2]
   simp only [e,Int.toNat_natCast,q3,q2,zZh]
   refine ⟨⟨by omega,by omega,by omega⟩,q1,fun h=>by rw [h]; rfl,fun h=>by rw [h]; rfl⟩
def zQP (b:Int):Int:=if b=8 then 255 else if b=16 then 65535 else 0
def zYL (b:Int):Bool:=decide (b=8∨b=16)
def errO (bits:Int) (mn:Nat) (o:Oq) (l:List Oq):Int:=
 if ¬ (o.kind=1∨o.kind=2∨o.kind=3) then 9
 else if o.fields=false then 10
 else if o.kind=3 then (if l=[] then 18 else 0)
 else if (o.kind=1∧(o.image < 0∨o.image≥(mn:Int)))∨o.mask < 0∨o.mask > (mn:Int) then 11
 else if ¬ (zXd o.x=true∧zXd o.y=true∧zXd o.mx=true∧zXd o.my=true) then 12
 else if o.opac > zQP bits then 13
 else if ¬ (1≤o.oper∧o.oper < 13) then 14
 else if ¬ (1≤o.mode∧o.mode < 13) then 15
 else if o.oper≠4∧ctxB l=false then 16
 else if o.kind=2∧64≤l.length then 17
 else 0
def zUI (bits:Int) (mn:Nat) (ps:List Oq) (i:Int) (l:List Oq):Int:=
 if 0≤i then match ps[i.toNat]? with
  | some o=>errO bits mn o l
  | none=>21
 else 21
def gZ29 (xs:List RV):Option RV:=match xs with | [.d (.int _ b)]=>some (RV.tup [RV.d (dK (zQP b)),RV.d (dQ (zYL b))]) | _=>none
def gZ30 (xs:List RV):Option RV:=match xs with | [.agg [.int _ bits,.int _ cx0,.int _ cy0,.int _ cx1,.int _ cy1,.int _ tw,.int _ th,.sl on oxs,.sl mn mxs,.sl pn pxs],.d (.int _ at_),.d (.sl n xs)]=>some (rJ (zUI bits mn (zQb pxs) at_ (zQb xs))) | _=>none
def jUX:Gam where
 pure:=fun f xs=>
  if f=165 then gZ23 xs else
  if f=166 then gZ25 xs else
  if f=152 then gZ26 xs else
  if f=164 then gZ27 xs else
  if f=167 then gZ28 xs else
  if f=47 then gZ29 xs else
  if f=14 then gZ29 xs else
  if f=88 then gZ30 xs else
  none
 modes:=fun f=>
  none
 proc:=fun f xs bs=>
  none
 iter:=fun f cs=>
  none
theorem zZ2 (b:Int):Ans prog 47 [rJ (b)] (rT [rD (dK (zQP b)),rD (dQ (zYL b))]):=
 zQa (Γ:=jUX) aL zQf Tryz.func47 rfl (nL rfl) fun hwf=>by
  refine Eq.mpr (by kernel_rfl:_=(let a:=[rD (dK (zQP b)),rD (dQ (zYL b))]; tU5 (((b==8)=true→tU2 (rT [rD (dK 255),rD (dQ true)]=rT a))∧((b==8)=false→tU2 (((b==16)=true→tU2 (rT [rD (dK 65535),rD (dQ true)]=rT a))∧((b==16)=false→tU2 (rT [rD (dK 0),rD (dQ false)]=rT a))))))) ?_
  delta dK dQ
  simp only [sS,zQl,zQz,zQJ,zQ6,zZj,zZb,zXp,zZ6,zZf]
  simp [zQP,zYL]; grind
theorem zKf (b:Int):Ans prog 14 [rJ (b)] (rT [rD (dK (zQP b)),rD (dQ (zYL b))]):=
 zQa (Γ:=jUX) aL zQf Tryz.func14 rfl (nL rfl) fun hwf=>by
  refine Eq.mpr (by kernel_rfl:_=(let a:=[rD (dK (zQP b)),rD (dQ (zYL b))]; tU5 (((b==8)=true→tU2 (rT [rD (dK 255),rD (dQ true)]=rT a))∧((b==8)=false→tU2 (((b==16)=true→tU2 (rT [rD (dK 65535),rD (dQ true)]=rT a))∧((b==16)=false→tU2 (rT [rD (dK 0),rD (dQ false)]=rT a))))))) ?_
  delta dK dQ
  simp only [sS,zQl,zQz,zQJ,zQ6,zZj,zZb,zXp,zZ6,zZf,zZ2]
  simp [zQP,zYL]; grind
theorem zU1 (bits cx0 cy0 cx1 cy1 tw th:Int) (on:Nat) (oxs:List DV) (mn:Nat) (mxs:List DV) (pn:Nat) (pxs:List DV) (at_:Int) (n:Nat) (xs:List DV) (hP:pxs=ops (zQb pxs)∧pn=(zQb pxs).length) (hO:xs=ops (zQb xs)∧n=(zQb xs).length):Ans prog 88 [rA [dJ bits,dJ cx0,dJ cy0,dJ cx1,dJ cy1,dJ tw,dJ th,dS on oxs,dS mn mxs,dS pn pxs],rJ (at_),rD (dS n xs)] (rJ ((zUI bits mn (zQb pxs) at_ (zQb xs)))):=
 zQa (Γ:=jUX) aL zQf Tryz.func88 rfl (nL rfl) fun hwf=>by
  refine Eq.mpr (by kernel_rfl:_=(let f:=(nAt pxs (at_.toNat*12+1+1)); let g:=(nAt pxs (at_.toNat*12+1+1+1)); let h:=(nAt pxs (at_.toNat*12+1+1+1+1+1)); let l:=(bAt pxs (at_.toNat*12+1+1+1+1+1+1+1+1+1+1)); let i:=(nAt pxs (at_.toNat*12+1+1+1+1+1+1)); let m:=(bAt pxs (at_.toNat*12+1+1+1+1+1+1+1+1+1+1+1)); let j:=(nAt pxs (at_.toNat*12+1+1+1+1+1+1+1)); let y:=(decide (j > (zQP bits))); let c:=(nAt pxs (at_.toNat*12+1)); let o:=(decide (c≥(mn:Int))); let k:=(nAt pxs (at_.toNat*12+1+1+1+1+1+1+1+1+1)); let r:=(zZQ k); let e:=(nAt pxs (at_.toNat*12+1+1+1+1)); let z:=(decide (e > (mn:Int))); let p:=(decide (e < 0)); let d:=(nAt pxs (at_.toNat*12+1+1+1+1+1+1+1+1)); let s:=(zZJ d); let b:=(nAt pxs (at_.toNat*12)); let q:=(b==3); let t:=([dJ f,dJ g,dJ h,dJ i]); let A:=(!((ints t).all zXd)); let a:=(dJ (zUI bits mn (zQb pxs) at_ (zQb xs))); let B:=(dJ d); let C:=(dJ k); let u:=(Ans prog 164 [rA [dJ b,dJ c,dJ f,dJ g,dJ e,dJ h,dJ i,dK j,dJ d,dJ k,dQ l,dQ m]] (rD (dQ (Oq.fields ⟨b,c,f,g,e,h,i,j,d,k,l,m⟩)))); let v:=(Ans prog 152 [rD (dS 4 t)] (rD (dQ ((ints t).all zXd)))); let D:=(((b==2)=true→tU5 (((decide ((n:Int)≥64))=true→True∧rJ 17=rD a)∧((decide ((n:Int)≥64))=false→True∧rJ 0=rD a)))∧((b==2)=(!true)→tU3 (rJ 0=rD a))); let w:=((A=true→True∧rJ 12=rD a)∧(A=false→tU5 ((y=true→True∧rJ 13=rD a)∧(y=false→tU2 ((Ans prog 165 [rD B] (rD (DV.str s)))∧tU2 (((s.toList==(⟨#[]⟩:ByteArray).toList)=true→True∧rJ 14=rD a)∧((s.toList==(⟨#[]⟩:ByteArray).toList)=false→tU2 ((Ans prog 166 [rD C] (rD (DV.str r)))∧tU2 (((r.toList==(⟨#[]⟩:ByteArray).toList)=true→True∧rJ 15=rD a)∧((r.toList==(⟨#[]⟩:ByteArray).toList)=false→tU4 (((d != 4)=true→True∧(Ans prog 167 [rD (dS n xs)] (rD (dQ (ctxB (zQb xs)))))∧tU3 (((!(ctxB (zQb xs)))=true→True∧rJ 16=rD a)∧((!(ctxB (zQb xs)))=false→tU4 D)))∧((d != 4)=(!true)→tU6 D)))))))))))); let E:=((p=true→((p=true→True∧rJ 11=rD a)∧(p=false→True∧tU8 (v∧tU2 w))))∧(p=false→tU7 ((z=true→True∧rJ 11=rD a)∧(z=false→True∧tU8 (v∧tU2 w))))); let F:=((q=true→True∧rJ 0=rD a)∧(q=false→tU4 (((b==1)=true→tU4 (((decide (c < 0))=false→True∧tU8 ((o=true→((o=true→True∧rJ 11=rD a)∧(o=false→True∧tU8 (v∧tU2 w))))∧(o=false→tU4 E)))∧((decide (c < 0))=(!false)→tU4 (rJ 11=rD a))))∧((b==1)=(!true)→tU6 E)))); let x:=(((!(Oq.fields ⟨b,c,f,g,e,h,i,j,d,k,l,m⟩))=true→True∧rJ 10=rD a)∧((!(Oq.fields ⟨b,c,f,g,e,h,i,j,d,k,l,m⟩))=false→tU4 ((q=true→tU5 ((((n:Int)==0)=true→True∧rJ 18=rD a)∧(((n:Int)==0)=false→tU4 F)))∧(q=(!true)→tU6 F)))); tU5 (((decide (at_ < 0))=false→tU6 (((decide (at_≥(pn:Int)))=true→True∧rJ 21=rD a)∧((decide (at_≥(pn:Int)))=false→tU3 ((0≤at_∧at_ < (pn:Int)∧at_.toNat*12 < pxs.length)∧((pxs[at_.toNat*12]?=some (dJ b))∧(pxs[at_.toNat*12+1]?=some (dJ c))∧(pxs[at_.toNat*12+1+1]?=some (dJ f))∧(pxs[at_.toNat*12+1+1+1]?=some (dJ g))∧(pxs[at_.toNat*12+1+1+1+1]?=some (dJ e))∧(pxs[at_.toNat*12+1+1+1+1+1]?=some (dJ h))∧(pxs[at_.toNat*12+1+1+1+1+1+1]?=some (dJ i))∧(pxs[at_.toNat*12+1+1+1+1+1+1+1]?=some (dK j))∧(pxs[at_.toNat*12+1+1+1+1+1+1+1+1]?=some B)∧(pxs[at_.toNat*12+1+1+1+1+1+1+1+1+1]?=some C)∧(pxs[at_.toNat*12+1+1+1+1+1+1+1+1+1+1]?=some (dQ l))∧(pxs[at_.toNat*12+1+1+1+1+1+1+1+1+1+1+1]?=some (dQ m))∧True)∧tU4 ((Ans prog 47 [rJ bits] (rT [rD (dK (zQP bits)),rD (dQ (zYL bits))]))∧True∧tU8 (((b != 1)=true→tU5 (((b != 2)=true→tU5 (((b != 3)=true→True∧rJ 9=rD a)∧((b != 3)=false→True∧u∧tU2 x)))∧((b != 2)=(!true)→tU3 (u∧tU2 x))))∧((b != 1)=(!true)→tU5 (u∧tU2 x))))))))∧((decide (at_ < 0))=(!false)→tU2 (rJ 21=rD a))))) ?_
  delta dJ dK dQ dS rJ
  simp only [sS,zQG,zQl,zQz,zQJ,zQ6,zZj,zZb,zXp,zZ6,zZf,zZ2,zKf]
  obtain ⟨hO,rfl⟩:=hO
  obtain ⟨hP,rfl⟩:=hP
  generalize zQb pxs=ps at *
  generalize zQb xs=l at *
  subst hO hP
  simp only [RV.wfs,RV.wf,DV.wf,maxLen] at hwf
  have hctx:=zVg l.length (ops l) ⟨by rw [zQG],by rw [zQG]⟩
  rw [zQG] at hctx
  have hnear:=fun a b c d=>zJB 4 [DV.int .i64 a,DV.int .i64 b,DV.int .i64 c,DV.int .i64 d] ⟨by simp [ints,is],rfl⟩
  have e0:at_ < 0→zUI bits mn ps at_ l=21:=fun h=>by unfold zUI; rw [if_neg (by omega)]
  have e1:¬ at_ < 0→at_≥(ps.length:Int)→zUI bits mn ps at_ l=21:=fun h h1=>by unfold zUI; rw [if_pos (by omega),List.getElem?_eq_none (by omega)]
  have e2:∀ (h:¬ at_ < 0) (h2:at_.toNat < ps.length),zUI bits mn ps at_ l=errO bits mn ps[at_.toNat] l:=fun h h1=>by unfold zUI; rw [if_pos (by omega),List.getElem?_eq_getElem h1]
  refine ⟨fun h0=>⟨fun h1=>(e1 h0 h1).symm,fun h1=>?_⟩,fun h0=>(e0 h0).symm⟩
  have hk:at_.toNat < ps.length:=by omega
  have q1:=zWd hk
  have q2:=zWe hk
  have q3:=zZh ps
  rw [e2 h0 hk]
  simp only [q2,q3]
  refine ⟨⟨by omega,by omega,by omega⟩,q1,?_⟩
  have hsp:=@Oq.spare_fields ps[at_.toNat]
  generalize ps[at_.toNat]=o at *
  clear e0 e1 e2 q1 q2 q3 h0 h1 hk
  have hl:l.length=0↔l=[]:=by simp
  simp only [ints,List.map_cons,List.map_nil,List.all_cons,List.all_nil,Bool.and_true] at hnear ⊢
  have hfl:=zZf o
  have heta:(⟨o.kind,o.image,o.x,o.y,o.mask,o.mx,o.my,o.opac,o.oper,o.mode,o.iso,o.kno⟩:Oq)=o:=rfl
  simp only [heta] at hfl ⊢
  clear heta
  have hnm:=zUl o.oper
  have hmd:=zVs o.mode
  simp only [hnm,hmd,beq_iff_eq,beq_eq_false_iff_ne,bne_iff_ne,bne_eq_false_iff_eq,Bool.not_eq_true',Bool.not_eq_false',decide_eq_true_eq,decide_eq_false_iff_not]
  (repeat' (first | apply And.intro | intro _)) <;> (first | exact hnear _ _ _ _ | exact hctx | exact hfl | exact R18_far_ans _ | exact R18_spare_ans _ | (unfold errO; clear hnear hctx hfl; grind))
def zXl (bits:Int) (c:Rc) (tw th:Int) (l:List Int) (mn pn:Nat):Int:=
 if zYL bits=false then 1
 else if c.empty=true∨c.area > 16777216∨zXd c.a=false∨zXd c.b=false then 2
 else if (cntS c tw th).2.2=false then 3
 else if zZC l (wrap .i64 ((cntS c tw th).1*(cntS c tw th).2.1))=false then 4
 else if (mn:Int) > 64∨(pn:Int) > 4096 then 5
 else 0
def gZ31 (xs:List RV):Option RV:=match xs with | [.agg [.int _ bits,.int _ cx0,.int _ cy0,.int _ cx1,.int _ cy1,.int _ tw,.int _ th,.sl on oxs,.sl mn mxs,.sl pn pxs]]=>some (rJ (zXl bits ⟨cx0,cy0,cx1,cy1⟩ tw th (ints oxs) mn pn)) | _=>none
def jGC:Gam where
 pure:=fun f xs=>
  if f=152 then gZ26 xs else
  if f=47 then gZ29 xs else
  if f=40 then gZ4 xs else
  if f=151 then gZ5 xs else
  if f=39 then gZ4 xs else
  if f=78 then gZ8 xs else
  if f=9 then gZ8 xs else
  if f=75 then gZ31 xs else
  none
 modes:=fun f=>
  if f=79 then some ([true,true],0,1) else
  none
 proc:=fun f xs bs=>
  if f=79 then gZ2 xs bs else
  none
 iter:=fun f cs=>
  none
theorem zYV (a b c d w h:Int):Ans prog 9 [rA [dJ a,dJ b,dJ c,dJ d],rJ (w),rJ (h)] (rT [rJ (((cntS ⟨a,b,c,d⟩ w h).1)),rJ (((cntS ⟨a,b,c,d⟩ w h).2.1)),rD (dQ ((cntS ⟨a,b,c,d⟩ w h).2.2))]):=
 zQa (Γ:=jGC) aL zQf Tryz.func9 rfl (nL rfl) fun hwf=>by
  refine Eq.mpr (by kernel_rfl:_=(let g:=[rJ 0,rJ 0,rD (dQ false)]; let f:=[rJ (cntS ⟨a,b,c,d⟩ w h).1,rJ (cntS ⟨a,b,c,d⟩ w h).2.1,rD (dQ (cntS ⟨a,b,c,d⟩ w h).2.2)]; let e:=(rT g=rT f); tU5 ((Ans prog 39 [rA [dJ a,dJ b,dJ c,dJ d]] (rD (dQ (Rc.empty ⟨a,b,c,d⟩))))∧True∧(((Rc.empty ⟨a,b,c,d⟩)=false→tU4 (((decide (w < 1))=false→tU4 (((decide (h < 1))=false→True∧tU8 (((decide (w > (wK (c - a))))=false→tU8 (((decide (h > (wK (d - b))))=true→tU3 e)∧((decide (h > (wK (d - b))))=false→tU7 ((w≠0)∧tU8 ((h≠0)∧tU4 ((true=true)∧rT [rJ (wK ((wK (Int.tdiv (wK ((wK (c - a)) - 1)) w))+1)),rJ (wK ((wK (Int.tdiv (wK ((wK (d - b)) - 1)) h))+1)),rD (dQ true)]=rT f))))))∧((decide (w > (wK (c - a))))=(!false)→tU4 e)))∧((decide (h < 1))=(!false)→tU6 e)))∧((decide (w < 1))=(!false)→tU8 e)))∧((Rc.empty ⟨a,b,c,d⟩)=(!false)→tU2 (tU8 e)))))) ?_
  delta dJ dQ wK rJ
  simp only [sS,zQK,zQ1,zX3,zZ2,zKf]
  unfold cntS
  cases he:Rc.empty ⟨a,b,c,d⟩
  ·obtain ⟨e1,e2,e3,e4,e5,e6⟩:=(Rc.empty_iff _).1 he
   simp only at e1 e2 e3 e4 e5 e6
   have w1:wrap .i64 (c - a)=c - a:=by rw [IntKind.wrap_i64]; omega
   have w2:wrap .i64 (d - b)=d - b:=by rw [IntKind.wrap_i64]; omega
   simp only [w1,w2]
   have hq:∀ W v:Int,1≤v→v≤W→W≤2147483648→wrap .i64 (wrap .i64 (Int.tdiv (wrap .i64 (W - 1)) v)+1)=wrap .i64 (Int.tdiv (wrap .i64 (wrap .i64 (W+v) - 1)) v):=fun W v h1 h2 h3=>by
    have a1:wrap .i64 (W - 1)=W - 1:=by rw [IntKind.wrap_i64]; omega
    have a2:wrap .i64 (W+v)=W+v:=by rw [IntKind.wrap_i64]; omega
    have a3:wrap .i64 (W+v - 1)=W+v - 1:=by rw [IntKind.wrap_i64]; omega
    rw [a1,a2,a3,Int.tdiv_eq_ediv_of_nonneg (by omega),Int.tdiv_eq_ediv_of_nonneg (by omega)]
    have b1:(W+v - 1) / v=(W - 1) / v+1:=by rw [show W+v - 1=(W - 1)+1*v by omega,Int.add_mul_ediv_right _ _ (by omega)]
    rw [b1]
    have b2:0≤(W - 1) / v:=Int.ediv_nonneg (by omega) (by omega)
    have b3:(W - 1) / v≤W - 1:=Int.ediv_le_self _ (by omega)
    rw [IntKind.wrap_i64 ((W - 1) / v)]
    congr 1
    omega
   by_cases h1:w < 1 <;> by_cases h3:h < 1 <;> by_cases h2:c - a < w <;> by_cases h4:d - b < h <;> simp [h1,h2,h3,h4] <;> first | omega | exact ⟨by omega,by omega,hq _ _ (by omega) (by omega) (by omega),hq _ _ (by omega) (by omega) (by omega)⟩
  ·simp
theorem zJf (bits cx0 cy0 cx1 cy1 tw th:Int) (on:Nat) (oxs:List DV) (mn:Nat) (mxs:List DV) (pn:Nat) (pxs:List DV) (hO:oxs=is (ints oxs)∧on=oxs.length):Ans prog 75 [rA [dJ bits,dJ cx0,dJ cy0,dJ cx1,dJ cy1,dJ tw,dJ th,dS on oxs,dS mn mxs,dS pn pxs]] (rJ ((zXl bits ⟨cx0,cy0,cx1,cy1⟩ tw th (ints oxs) mn pn))):=
 zQa (Γ:=jGC) aL zQf Tryz.func75 rfl (nL rfl) fun hwf=>by
  refine Eq.mpr (by kernel_rfl:_=(let c:=([dJ cx0,dJ cy0]); let f:=(!((ints c).all zXd)); let a:=(dJ (zXl bits ⟨cx0,cy0,cx1,cy1⟩ tw th (ints oxs) mn pn)); let g:=[dJ cx0,dJ cy0,dJ cx1,dJ cy1]; let h:=[rA g]; let d:=(Rc.empty ⟨cx0,cy0,cx1,cy1⟩); let e:=(Rc.area ⟨cx0,cy0,cx1,cy1⟩); let b:=(wK ((cntS ⟨cx0,cy0,cx1,cy1⟩ tw th).1*(cntS ⟨cx0,cy0,cx1,cy1⟩ tw th).2.1)); tU4 ((Ans prog 47 [rJ bits] (rT [rD (dK (zQP bits)),rD (dQ (zYL bits))]))∧tU7 (((!(zYL bits))=true→True∧rJ 1=rD a)∧((!(zYL bits))=false→tU5 ((Ans prog 40 h (rD (dQ d)))∧True∧((d=false→True∧(Ans prog 151 h (rJ e))∧tU3 (((decide (e > 16777216))=false→tU5 ((Ans prog 152 [rD (dS 2 c)] (rD (dQ ((ints c).all zXd))))∧tU2 ((f=true→True∧rJ 2=rD a)∧(f=false→tU5 ((Ans prog 78 [rA g,rJ tw,rJ th] (rT [rJ (cntS ⟨cx0,cy0,cx1,cy1⟩ tw th).1,rJ (cntS ⟨cx0,cy0,cx1,cy1⟩ tw th).2.1,rD (dQ (cntS ⟨cx0,cy0,cx1,cy1⟩ tw th).2.2)]))∧True∧tU8 (((!(cntS ⟨cx0,cy0,cx1,cy1⟩ tw th).2.2)=true→True∧rJ 3=rD a)∧((!(cntS ⟨cx0,cy0,cx1,cy1⟩ tw th).2.2)=false→tU5 ((AnsG prog 79 0 [aO (cD (dS on oxs)),aJ b] [] ⟨AV.tup [aO (Cl.ref 0 (zXi (ints oxs) b).length),aO (cD (dQ (zZC (ints oxs) b)))],[bR 3 1 (is (zXi (ints oxs) b))],true⟩)∧tU7 (((!(zZC (ints oxs) b))=true→True∧rJ 4=rD a)∧((!(zZC (ints oxs) b))=false→tU5 (((decide ((mn:Int) > 64))=false→tU5 (((decide ((pn:Int) > 4096))=true→True∧rJ 5=rD a)∧((decide ((pn:Int) > 4096))=false→True∧rJ 0=rD a)))∧((decide ((mn:Int) > 64))=(!false)→tU2 (rJ 5=rD a)))))))))))))∧((decide (e > 16777216))=(!false)→tU2 (rJ 2=rD a))))∧(d=(!false)→tU4 (rJ 2=rD a))))))))) ?_
  delta dJ dK dQ wK dS rJ aJ
  simp only [sS,zQK,zQ1,zX3,zZ2,zKf,zYV]
  obtain ⟨hO,rfl⟩:=hO
  generalize ints oxs=l at *
  subst hO
  have hord:=fun M=>zVn (is l).length (is l) M ⟨by rw [zZD],rfl⟩
  have hnear:=fun a b=>zJB 2 [DV.int .i64 a,DV.int .i64 b] ⟨by simp [ints,is],rfl⟩
  have hcnt:=zJq cx0 cy0 cx1 cy1 tw th
  simp only [zZD] at hord
  simp only [ints,List.map_cons,List.map_nil,List.all_cons,List.all_nil,Bool.and_true] at hnear ⊢
  have he:1=1:=rfl
  (repeat' (first | apply And.intro | intro _)) <;> (first | exact hnear _ _ | exact hcnt | exact hord _ | exact R18_far_ans _ | rfl | (unfold zXl; clear hnear hcnt hord; simp only; grind))
theorem jQP:∀ (l:List Oq) (k:Nat),(ops l).take (k*12)=ops (l.take k)
 | [],k=>by simp [ops]
 | o::l,0=>by simp [ops]
 | o::l,k+1=>by
  have e:ops (o::l)=o.cells++ops l:=by simp [ops]
  have e2:ops ((o::l).take (k+1))=o.cells++ops (l.take k):=by simp [ops]
  rw [e,e2,List.take_append,List.take_of_length_le (by simp [Oq.cells]; omega),← jQP l k]
  congr 2
  simp [Oq.cells]; omega
def zXr (o:Oq) (st:List Oq):List Oq:=if o.kind=2 then st++[o] else if o.kind=3 then st.dropLast else st
def runO (bits:Int) (mn:Nat):List Oq→Int→List Oq→Int × Int
 | [],i,st=>if st=[] then (0,0) else (18,i)
 | o::r,i,st=>if errO bits mn o st=0 then runO bits mn r (i+1) (zXr o st) else (errO bits mn o st,i)
def opsE (bits:Int) (c:Rc) (tw th:Int) (l:List Int) (mn:Nat) (ps:List Oq):Int × Int:=
 if zXl bits c tw th l mn ps.length=0 then runO bits mn ps 0 [] else (zXl bits c tw th l mn ps.length,0)
def gZ32 (xs:List RV):Option RV:=match xs with | [.agg [.int _ bits,.int _ cx0,.int _ cy0,.int _ cx1,.int _ cy1,.int _ tw,.int _ th,.sl on oxs,.sl mn mxs,.sl pn pxs]]=>some (RV.tup [rJ (opsE bits ⟨cx0,cy0,cx1,cy1⟩ tw th (ints oxs) mn (zQb pxs)).1,rJ (opsE bits ⟨cx0,cy0,cx1,cy1⟩ tw th (ints oxs) mn (zQb pxs)).2]) | _=>none
def jGU:Gam where
 pure:=fun f xs=>
  if f=88 then gZ30 xs else
  if f=75 then gZ31 xs else
  if f=46 then gZ32 xs else
  none
 modes:=fun f=>
  none
 proc:=fun f xs bs=>
  none
 iter:=fun f cs=>
  none
theorem zKh (bits cx0 cy0 cx1 cy1 tw th:Int) (on:Nat) (oxs:List DV) (mn:Nat) (mxs:List DV) (pn:Nat) (pxs:List DV) (hP:pxs=ops (zQb pxs)∧pn=(zQb pxs).length) (hO:oxs=is (ints oxs)∧on=oxs.length):Ans prog 46 [rA [dJ bits,dJ cx0,dJ cy0,dJ cx1,dJ cy1,dJ tw,dJ th,dS on oxs,dS mn mxs,dS pn pxs]] (rT [rJ (((opsE bits ⟨cx0,cy0,cx1,cy1⟩ tw th (ints oxs) mn (zQb pxs)).1)),rJ (((opsE bits ⟨cx0,cy0,cx1,cy1⟩ tw th (ints oxs) mn (zQb pxs)).2))]):=
 zQa (Γ:=jGU) (aQ aL (aQ aL (aQ aL (aQ (aQ aL (Ann.loop ⟨Nat × List Oq,fun z:Nat × List Oq=>z.1≤pn∧z.2.length≤64∧runO bits mn ((zQb pxs).drop z.1) (z.1:Int) z.2=runO bits mn (zQb pxs) 0 [],fun z:Nat × List Oq=>⟨[(1,aO (Cl.ptr 1 0)),(5,aO (Cl.ref 1005 z.2.length)),(15,aO (cD (dS pn pxs))),(16,aJ (pn:Int)),(17,aJ (z.1:Int))],[(1,bC [cJ bits,cJ cx0,cJ cy0,cJ cx1,cJ cy1,cJ tw,cJ th,cD (dS on oxs),cD (dS mn mxs),cD (dS pn pxs)]),(1005,bR 61 12 (ops z.2))]⟩,fun z:Nat × List Oq=>pn - z.1⟩ fun z=>aL)) aL)))) zQf Tryz.func46 rfl (nL rfl) fun hwf=>by
  refine Eq.mpr (by kernel_rfl:_=(let b:=[dJ bits,dJ cx0,dJ cy0,dJ cx1,dJ cy1,dJ tw,dJ th,dS on oxs,dS mn mxs,dS pn pxs]; let l:=(dJ (zXl bits ⟨cx0,cy0,cx1,cy1⟩ tw th (ints oxs) mn pn)); let c:=[rJ (opsE bits ⟨cx0,cy0,cx1,cy1⟩ tw th (ints oxs) mn (zQb pxs)).1,rJ (opsE bits ⟨cx0,cy0,cx1,cy1⟩ tw th (ints oxs) mn (zQb pxs)).2]; let m:=fun (z:Nat × List Oq)=>(z.1≤pn∧z.2.length≤64∧runO bits mn ((zQb pxs).drop z.1) (z.1:Int) z.2=runO bits mn (zQb pxs) 0 []); let d:=(dS pn pxs=dS pn pxs); let e:=(dJ (pn:Int)=dJ (pn:Int)); let f:=(b=b); let j:=fun (z':Nat × List Oq)=>(z'.1≤pn∧z'.2.length≤64∧runO bits mn ((zQb pxs).drop z'.1) (z'.1:Int) z'.2=runO bits mn (zQb pxs) 0 []); let k:=fun (z:Nat × List Oq)=>fun (z':Nat × List Oq)=>(dJ (wK ((z.1:Int)+1))=dJ (z'.1:Int)); tU4 ((Ans prog 75 [rA b] (rD l))∧tU3 ((((zXl bits ⟨cx0,cy0,cx1,cy1⟩ tw th (ints oxs) mn pn) != 0)=true→tU3 (rT [rD l,rJ 0]=rT c))∧(((zXl bits ⟨cx0,cy0,cx1,cy1⟩ tw th (ints oxs) mn pn) != 0)=false→tU5 ((∃ z:Nat × List Oq,(m z)∧(((0=0)∧(0=z.2.length)∧d∧e∧(dJ 0=dJ (z.1:Int))∧True)∧(f∧([]=ops z.2)∧True)))∧∀ z:Nat × List Oq,let n:=(decide ((z.1:Int) < (pn:Int))); let o:=(nAt pxs ((z.1:Int).toNat*12+1)); let p:=(nAt pxs ((z.1:Int).toNat*12+1+1)); let q:=(nAt pxs ((z.1:Int).toNat*12+1+1+1)); let r:=(nAt pxs ((z.1:Int).toNat*12+1+1+1+1)); let s:=(nAt pxs ((z.1:Int).toNat*12+1+1+1+1+1)); let t:=(nAt pxs ((z.1:Int).toNat*12+1+1+1+1+1+1)); let u:=(nAt pxs ((z.1:Int).toNat*12+1+1+1+1+1+1+1)); let v:=(nAt pxs ((z.1:Int).toNat*12+1+1+1+1+1+1+1+1)); let w:=(nAt pxs ((z.1:Int).toNat*12+1+1+1+1+1+1+1+1+1)); let x:=(bAt pxs ((z.1:Int).toNat*12+1+1+1+1+1+1+1+1+1+1)); let y:=(bAt pxs ((z.1:Int).toNat*12+1+1+1+1+1+1+1+1+1+1+1)); let g:=(z.2.length:Int); let h:=(g - 1); let a:=(nAt pxs ((z.1:Int).toNat*12)); let i:=(zUI bits mn (zQb pxs) (z.1:Int) (zQb (ops z.2))); let A:=([dJ a,dJ o,dJ p,dJ q,dJ r,dJ s,dJ t,dK u,dJ v,dJ w,dQ x,dQ y]); (m z)→True∧((n=true→True∧(0≤(z.1:Int)∧(z.1:Int) < (pn:Int)∧(z.1:Int).toNat*12 < pxs.length)∧((pxs[(z.1:Int).toNat*12]?=some (dJ a))∧(pxs[(z.1:Int).toNat*12+1]?=some (dJ o))∧(pxs[(z.1:Int).toNat*12+1+1]?=some (dJ p))∧(pxs[(z.1:Int).toNat*12+1+1+1]?=some (dJ q))∧(pxs[(z.1:Int).toNat*12+1+1+1+1]?=some (dJ r))∧(pxs[(z.1:Int).toNat*12+1+1+1+1+1]?=some (dJ s))∧(pxs[(z.1:Int).toNat*12+1+1+1+1+1+1]?=some (dJ t))∧(pxs[(z.1:Int).toNat*12+1+1+1+1+1+1+1]?=some (dK u))∧(pxs[(z.1:Int).toNat*12+1+1+1+1+1+1+1+1]?=some (dJ v))∧(pxs[(z.1:Int).toNat*12+1+1+1+1+1+1+1+1+1]?=some (dJ w))∧(pxs[(z.1:Int).toNat*12+1+1+1+1+1+1+1+1+1+1]?=some (dQ x))∧(pxs[(z.1:Int).toNat*12+1+1+1+1+1+1+1+1+1+1+1]?=some (dQ y))∧True)∧tU6 ((Ans prog 88 [rA b,rJ (z.1:Int),rD (dS z.2.length (ops z.2))] (rJ i))∧tU3 (((i != 0)=true→tU4 (rT [rJ i,rJ (z.1:Int)]=rT c))∧((i != 0)=false→tU4 (((a==2)=true→tU3 ((zZL 12 88 z.2.length 1 (ops z.2) A)∧tU3 (∃ z':Nat × List Oq,(j z')∧(pn - z'.1 < pn - z.1)∧(((0=0)∧(z.2.length+1=z'.2.length)∧d∧e∧(k z z')∧True)∧(f∧((ops z.2)++A=ops z'.2)∧True)))))∧((a==2)=false→tU2 (((a==3)=true→tU2 ((z.2.length≤maxLen)∧True∧(0≤wK h∧wK h≤g)∧tU3 (∃ z':Nat × List Oq,(j z')∧(pn - z'.1 < pn - z.1)∧(((0=0)∧((wK h).toNat=z'.2.length)∧d∧e∧(k z z')∧True)∧(f∧(List.take ((wK h).toNat*12) (ops z.2)=ops z'.2)∧True)))))∧((a==3)=false→tU2 (∃ z':Nat × List Oq,(j z')∧(pn - z'.1 < pn - z.1)∧(((0=0)∧(z.2.length=z'.2.length)∧d∧e∧(k z z')∧True)∧(f∧(ops z.2=ops z'.2)∧True)))))))))))∧(n=false→True∧(z.2.length≤maxLen)∧True∧(((decide (g > 0))=true→tU5 ((true=true)∧rT [rJ 18,rJ (pn:Int)]=rT c))∧((decide (g > 0))=false→tU2 (rT [rJ 0,rJ 0]=rT c))))))))))) ?_
  delta dJ dK dQ wK dS rJ
  simp only [sS,zQG]
  obtain ⟨hP,rfl⟩:=hP
  have hfr:=zJf bits cx0 cy0 cx1 cy1 tw th on oxs mn mxs (zQb pxs).length pxs hO
  have hop:=fun i st=>zU1 bits cx0 cy0 cx1 cy1 tw th on oxs mn mxs (zQb pxs).length pxs i (List.length st) (ops st) ⟨hP,rfl⟩ ⟨by rw [zQG],by rw [zQG]⟩
  simp only [zQG] at hop
  generalize zQb pxs=ps at *
  subst hP
  simp only [RV.wfs,RV.wf,DV.wf,DV.wfs,maxLen] at hwf
  have hpl:ps.length≤9223372036854775807:=by omega
  have hE:∀ E:Int,zXl bits ⟨cx0,cy0,cx1,cy1⟩ tw th (ints oxs) mn ps.length=E→opsE bits ⟨cx0,cy0,cx1,cy1⟩ tw th (ints oxs) mn ps=if E=0 then runO bits mn ps 0 [] else (E,0):=fun E h=>by unfold opsE; rw [h]
  generalize zXl bits ⟨cx0,cy0,cx1,cy1⟩ tw th (ints oxs) mn ps.length=FE at *
  rw [hE FE rfl]
  clear hE
  refine ⟨hfr,fun hne=>?_,fun he=>⟨?_,fun z hz=>⟨fun hlt=>?_,fun hge=>?_⟩⟩⟩
  ·have:FE≠0:=by simpa using hne
   simp [this]
  ·exact ⟨(0,[]),⟨Nat.zero_le _,Nat.zero_le _,rfl⟩,⟨rfl,rfl⟩,rfl⟩
  ·obtain ⟨k,st⟩:=z
   obtain ⟨z1,z2,z3⟩:=hz
   simp only at *
   have hk:k < ps.length:=by omega
   have q1:=zWd hk
   have q2:=zWe hk
   have q3:=zZh ps
   have q4:=zZh st
   have hoe:zUI bits mn ps (k:Int) st=errO bits mn ps[k] st:=by unfold zUI; rw [if_pos (by omega),Int.toNat_natCast,List.getElem?_eq_getElem hk]
   have hop1:=hop (k:Int) st
   have hd:ps.drop k=ps[k]::ps.drop (k+1):=List.drop_eq_getElem_cons hk
   rw [hd] at z3
   simp only [runO] at z3
   simp only [hoe] at hop1 ⊢
   have hF:FE=0:=by simpa using he
   have hpush:errO bits mn ps[k] st=0→ps[k].kind=2→st.length < 64:=fun h1 h2=>by
    unfold errO at h1
    grind
   have hpop:errO bits mn ps[k] st=0→ps[k].kind=3→st≠[]:=fun h1 h2=>by
    unfold errO at h1
    grind
   have w1:wrap .i64 ((k:Int)+1)=((k+1:Nat):Int):=by rw [IntKind.wrap_i64]; omega
   simp only [q2,hF,if_true]
   refine ⟨⟨by omega,by omega,by omega⟩,q1,hop1,fun hne=>?_,fun h0=>?_⟩
   ·have h0:errO bits mn ps[k] st≠0:=by simpa using hne
    rw [if_neg h0] at z3
    rw [← z3]; exact ⟨rfl,rfl⟩
   ·have h0:errO bits mn ps[k] st=0:=by simpa using h0
    rw [if_pos h0] at z3
    have s2:ps[k].kind=2→runO bits mn (ps.drop (k+1)) ((k+1:Nat):Int) (st++[ps[k]])=runO bits mn ps 0 []:=fun h=>by
     rw [← z3]; simp [zXr,h]
    have s3:ps[k].kind=3→runO bits mn (ps.drop (k+1)) ((k+1:Nat):Int) st.dropLast=runO bits mn ps 0 []:=fun h=>by
     rw [← z3]; simp [zXr,h]
    have s1:ps[k].kind≠2→ps[k].kind≠3→runO bits mn (ps.drop (k+1)) ((k+1:Nat):Int) st=runO bits mn ps 0 []:=fun h h'=>by
     rw [← z3]; simp [zXr,h,h']
    have hd2:st≠[]→wrap .i64 ((st.length:Int) - 1)=((st.length - 1:Nat):Int):=fun h=>by
     have:=List.length_pos_iff.2 h
     rw [IntKind.wrap_i64]; omega
    have hd3:(ops st).take ((st.length - 1)*12)=ops st.dropLast:=by rw [jQP,List.dropLast_eq_take]
    have cells:ops [ps[k]]=ps[k].cells:=by simp [ops]
    refine ⟨fun h2=>?_,fun h2=>⟨fun h3=>?_,fun h3=>?_⟩⟩
    ·have h2:ps[k].kind=2:=by simpa using h2
     have hl:=hpush h0 h2
     refine ⟨⟨by rw [q4],rfl,by simp only [maxLen]; omega,by omega⟩,(k+1,st++[ps[k]]),⟨by omega,by simp; omega,s2 h2⟩,by omega,⟨by simp,w1⟩,by rw [zYY,cells]; rfl⟩
    ·have h3:ps[k].kind=3:=by simpa using h3
     have hne:=hpop h0 h3
     rw [hd2 hne]
     simp only [Int.toNat_natCast]
     refine ⟨by simp only [maxLen]; omega,⟨by omega,by omega⟩,(k+1,st.dropLast),⟨by omega,by simp; omega,s3 h3⟩,by omega,⟨by simp,w1⟩,hd3⟩
    ·have h2:ps[k].kind≠2:=by simpa using h2
     have h3:ps[k].kind≠3:=by simpa using h3
     exact ⟨(k+1,st),⟨by omega,z2,s1 h2 h3⟩,by omega,⟨rfl,w1⟩,rfl⟩
  ·obtain ⟨k,st⟩:=z
   obtain ⟨z1,z2,z3⟩:=hz
   simp only at *
   have hk:k=ps.length:=by omega
   subst hk
   rw [List.drop_length] at z3
   simp only [runO] at z3
   have hF:FE=0:=by simpa using he
   simp only [hF,if_true]
   rw [← z3]
   refine ⟨by simp only [maxLen]; omega,fun h=>?_,fun h=>?_⟩
   ·have:st≠[]:=fun e=>by subst e; simp at h
    simp [this]
   ·have:st=[]:=List.length_eq_zero_iff.1 (by omega)
    simp [this]
def gZ33 (xs:List RV):Option RV:=match xs with | [.agg [.int _ vk,.int _ vim,.int _ vx,.int _ vy,.int _ vma,.int _ vmx,.int _ vmy,.int _ vop,.int _ vope,.int _ vmo,.int _ vfl],.d (.bool push),.d (.int _ imgs),.agg [.int _ ca,.int _ cb,.int _ cc,.int _ cd],.d (.bool free),.d (.int _ most)]=>some (RV.agg [dJ (gOp ⟨vk,vim,vx,vy,vma,vmx,vmy,vop,vope,vmo,vfl⟩ push imgs ⟨ca,cb,cc,cd⟩ free most).kind,dJ (gOp ⟨vk,vim,vx,vy,vma,vmx,vmy,vop,vope,vmo,vfl⟩ push imgs ⟨ca,cb,cc,cd⟩ free most).image,dJ (gOp ⟨vk,vim,vx,vy,vma,vmx,vmy,vop,vope,vmo,vfl⟩ push imgs ⟨ca,cb,cc,cd⟩ free most).x,dJ (gOp ⟨vk,vim,vx,vy,vma,vmx,vmy,vop,vope,vmo,vfl⟩ push imgs ⟨ca,cb,cc,cd⟩ free most).y,dJ (gOp ⟨vk,vim,vx,vy,vma,vmx,vmy,vop,vope,vmo,vfl⟩ push imgs ⟨ca,cb,cc,cd⟩ free most).mask,dJ (gOp ⟨vk,vim,vx,vy,vma,vmx,vmy,vop,vope,vmo,vfl⟩ push imgs ⟨ca,cb,cc,cd⟩ free most).mx,dJ (gOp ⟨vk,vim,vx,vy,vma,vmx,vmy,vop,vope,vmo,vfl⟩ push imgs ⟨ca,cb,cc,cd⟩ free most).my,dK (gOp ⟨vk,vim,vx,vy,vma,vmx,vmy,vop,vope,vmo,vfl⟩ push imgs ⟨ca,cb,cc,cd⟩ free most).opac,dJ (gOp ⟨vk,vim,vx,vy,vma,vmx,vmy,vop,vope,vmo,vfl⟩ push imgs ⟨ca,cb,cc,cd⟩ free most).oper,dJ (gOp ⟨vk,vim,vx,vy,vma,vmx,vmy,vop,vope,vmo,vfl⟩ push imgs ⟨ca,cb,cc,cd⟩ free most).mode,dQ (gOp ⟨vk,vim,vx,vy,vma,vmx,vmy,vop,vope,vmo,vfl⟩ push imgs ⟨ca,cb,cc,cd⟩ free most).iso,dQ (gOp ⟨vk,vim,vx,vy,vma,vmx,vmy,vop,vope,vmo,vfl⟩ push imgs ⟨ca,cb,cc,cd⟩ free most).kno]) | _=>none
def jGD:Gam where
 pure:=fun f xs=>
  if f=27 then gZ0 xs else
  if f=45 then gZ19 xs else
  if f=44 then (match xs with | [.d (.int _ n),.d (.int _ corner)]=>some (rJ (gOff n corner)) | _=>none) else
  if f=15 then gZ33 xs else
  none
 modes:=fun f=>
  none
 proc:=fun f xs bs=>
  none
 iter:=fun f cs=>
  none
theorem zUx (n corner:Int) (hc : -100≤corner∧corner≤100):Ans prog 44 [rJ (n),rJ (corner)] (rJ ((gOff n corner))):=
 zQa (Γ:=jGD) aL zQf Tryz.func44 rfl (nL rfl) fun hwf=>by
  refine Eq.mpr (by kernel_rfl:_=(let a:=(modS n (3:Int)); let c:=(dJ (gOff n corner)); let b:=(wK (Int.tdiv n (3:Int))); tU2 ((Ans prog 27 [rJ n,rJ 3] (rJ a))∧True∧(((a==0)=true→tU2 (rJ corner=rD c))∧((a==0)=false→tU2 (((3:Int)≠0)∧(Ans prog 27 [rJ b,rJ 9] (rJ (modS b (9:Int))))∧tU3 (rJ (wK ((wK (corner+(modS b (9:Int)))) - 4))=rD c))))))) ?_
  delta dJ wK rJ
  simp only [sS,zQn,zXX]
  have b:=@zZK (wrap .i64 (Int.tdiv n 3)) 9 (by omega) (by omega)
  unfold gOff
  have w1:wrap .i64 (corner+modS (wrap .i64 (Int.tdiv n 3)) 9)=corner+modS (wrap .i64 (Int.tdiv n 3)) 9:=IntWalk.i64_in _ ⟨by omega,by omega⟩
  have w2:wrap .i64 (corner+modS (wrap .i64 (Int.tdiv n 3)) 9 - 4)=corner+modS (wrap .i64 (Int.tdiv n 3)) 9 - 4:=IntWalk.i64_in _ ⟨by omega,by omega⟩
  simp only [w1,w2]
  refine ⟨fun h=>?_,fun h=>⟨by decide,?_⟩⟩
  ·rw [if_pos (by simpa using h)]
  ·rw [if_neg (by simpa using h)]
theorem jW9 (r:Rw) (push:Bool) (imgs:Int) (c:Rc) (free:Bool) (most:Int) (hc:(-100≤c.a∧c.a≤100) ∧ -100≤c.b∧c.b≤100) (hi:1≤imgs∧imgs≤100):Ans prog 15 [rA [dJ r.k,dJ r.im,dJ r.x,dJ r.y,dJ r.ma,dJ r.mx,dJ r.my,dJ r.op,dJ r.ope,dJ r.mo,dJ r.fl],rD (dQ push),rJ (imgs),rA [dJ c.a,dJ c.b,dJ c.c,dJ c.d],rD (dQ free),rD (dK most)] (rA [dJ ((gOp r push imgs c free most).kind),dJ ((gOp r push imgs c free most).image),dJ ((gOp r push imgs c free most).x),dJ ((gOp r push imgs c free most).y),dJ ((gOp r push imgs c free most).mask),dJ ((gOp r push imgs c free most).mx),dJ ((gOp r push imgs c free most).my),dK ((gOp r push imgs c free most).opac),dJ ((gOp r push imgs c free most).oper),dJ ((gOp r push imgs c free most).mode),dQ ((gOp r push imgs c free most).iso),dQ ((gOp r push imgs c free most).kno)]):=
 zQa (Γ:=jGD) (let e:=(6,aO (Cl.ptr 6 0)); let f:=(13,aO (Cl.ptr 13 0)); let g:=(12,aO (Cl.ptr 12 0)); let a:=(gOp r push imgs c free most); let h:=(4,aO (cD (dQ free))); let i:=(5,aO (cK most)); let b:=(6,bC [cJ r.k,cJ r.im,cJ r.x,cJ r.y,cJ r.ma,cJ r.mx,cJ r.my,cJ r.op,cJ r.ope,cJ r.mo,cJ r.fl]); let d:=(12,bC [cJ 0,cJ 0,cJ 0,cJ 0,cJ 0,cJ 0,cJ 0,cK 0,cJ 0,cJ 0,cD (dQ false),cD (dQ false)]); let j:=[h,e,g,f]; (aQ aL (aQ aL (Ann.cut ⟨Oq,fun q1:Oq=>q1=⟨a.kind,a.image,a.x,a.y,0,0,0,most,4,1,a.iso,a.kno⟩,fun q1:Oq=>⟨[(2,aJ imgs),h,i,e,(9,aO (Cl.ptr 9 0)),g,f],[b,(9,bC [cJ c.a,cJ c.b,cJ c.c,cJ c.d]),d,(13,bC [cJ q1.kind,cJ q1.image,cJ q1.x,cJ q1.y,cJ q1.mask,cJ q1.mx,cJ q1.my,cK q1.opac,cJ q1.oper,cJ q1.mode,cD (dQ q1.iso),cD (dQ q1.kno)])]⟩,fun q1:Oq=>0⟩ aL fun q1=>(Ann.cut ⟨Oq,fun q2:Oq=>q2=⟨a.kind,a.image,a.x,a.y,a.mask,a.mx,a.my,most,4,1,a.iso,a.kno⟩,fun q2:Oq=>⟨[h,i,e,g,f],[b,d,(13,bC [cJ q2.kind,cJ q2.image,cJ q2.x,cJ q2.y,cJ q2.mask,cJ q2.mx,cJ q2.my,cK q2.opac,cJ q2.oper,cJ q2.mode,cD (dQ q2.iso),cD (dQ q2.kno)])]⟩,fun q2:Oq=>0⟩ aL fun q2=>(Ann.cut ⟨Oq,fun q3:Oq=>q3=⟨a.kind,a.image,a.x,a.y,a.mask,a.mx,a.my,a.opac,4,1,a.iso,a.kno⟩,fun q3:Oq=>⟨j,[b,d,(13,bC [cJ q3.kind,cJ q3.image,cJ q3.x,cJ q3.y,cJ q3.mask,cJ q3.mx,cJ q3.my,cK q3.opac,cJ q3.oper,cJ q3.mode,cD (dQ q3.iso),cD (dQ q3.kno)])]⟩,fun q3:Oq=>0⟩ aL fun q3=>(Ann.cut ⟨Oq,fun q4:Oq=>q4=⟨a.kind,a.image,a.x,a.y,a.mask,a.mx,a.my,a.opac,4,a.mode,a.iso,a.kno⟩,fun q4:Oq=>⟨j,[b,d,(13,bC [cJ q4.kind,cJ q4.image,cJ q4.x,cJ q4.y,cJ q4.mask,cJ q4.mx,cJ q4.my,cK q4.opac,cJ q4.oper,cJ q4.mode,cD (dQ q4.iso),cD (dQ q4.kno)])]⟩,fun q4:Oq=>0⟩ aL fun q4=>aL))))))) zQf Tryz.func15 rfl (nL rfl) fun hwf=>by
  refine Eq.mpr (by kernel_rfl:_=(let g:=(modS r.mo (2:Int)); let h:=(modS r.op (2:Int)); let i:=(modS r.ma (4:Int)); let j:=(modS r.ope (2:Int)); let a:=(gOp r push imgs c free most); let k:=(wK (Int.tdiv r.fl (2:Int))); let l:=fun (q1:Oq)=>(q1=⟨a.kind,a.image,a.x,a.y,0,0,0,most,4,1,a.iso,a.kno⟩); let m:=(dQ free=dQ free); let z:=(dK most=dK most); let A:=((dJ imgs=dJ imgs)∧m∧z∧(0=0)∧(0=0)∧(0=0)∧(0=0)∧True); let B:=[dJ r.k,dJ r.im,dJ r.x,dJ r.y,dJ r.ma,dJ r.mx,dJ r.my,dJ r.op,dJ r.ope,dJ r.mo,dJ r.fl]; let b:=(B=B); let C:=[dJ c.a,dJ c.b,dJ c.c,dJ c.d]; let D:=(C=C); let E:=[dJ 0,dJ 0,dJ 0,dJ 0,dJ 0,dJ 0,dJ 0,dK 0,dJ 0,dJ 0,dQ false,dQ false]; let d:=(E=E); let n:=fun (q1:Oq)=>[dJ q1.kind,dJ q1.image,dJ q1.x,dJ q1.y,dJ q1.mask,dJ q1.mx,dJ q1.my,dK q1.opac,dJ q1.oper,dJ q1.mode,dQ q1.iso,dQ q1.kno]; let o:=(wK (Int.tdiv r.ma (4:Int))); let p:=fun (q2:Oq)=>(q2=⟨a.kind,a.image,a.x,a.y,a.mask,a.mx,a.my,most,4,1,a.iso,a.kno⟩); let F:=(m∧z∧(0=0)∧(0=0)∧(0=0)∧True); let q:=fun (q2:Oq)=>[dJ q2.kind,dJ q2.image,dJ q2.x,dJ q2.y,dJ q2.mask,dJ q2.mx,dJ q2.my,dK q2.opac,dJ q2.oper,dJ q2.mode,dQ q2.iso,dQ q2.kno]; let s:=(wK (Int.tdiv r.op (2:Int))); let t:=fun (q3:Oq)=>(q3=⟨a.kind,a.image,a.x,a.y,a.mask,a.mx,a.my,a.opac,4,1,a.iso,a.kno⟩); let e:=(m∧(0=0)∧(0=0)∧(0=0)∧True); let u:=fun (q3:Oq)=>[dJ q3.kind,dJ q3.image,dJ q3.x,dJ q3.y,dJ q3.mask,dJ q3.mx,dJ q3.my,dK q3.opac,dJ q3.oper,dJ q3.mode,dQ q3.iso,dQ q3.kno]; let v:=(wK (Int.tdiv r.mo (2:Int))); let w:=fun (q4:Oq)=>(q4=⟨a.kind,a.image,a.x,a.y,a.mask,a.mx,a.my,a.opac,4,a.mode,a.iso,a.kno⟩); let f:=fun (q4:Oq)=>[dJ q4.kind,dJ q4.image,dJ q4.x,dJ q4.y,dJ q4.mask,dJ q4.mx,dJ q4.my,dK q4.opac,dJ q4.oper,dJ q4.mode,dQ q4.iso,dQ q4.kno]; let x:=(wK (Int.tdiv r.ope (2:Int))); let y:=[dJ a.kind,dJ a.image,dJ a.x,dJ a.y,dJ a.mask,dJ a.mx,dJ a.my,dK a.opac,dJ a.oper,dJ a.mode,dQ a.iso,dQ a.kno]; tU7 ((True∧((push=true→tU4 ((Ans prog 27 [rJ r.fl,rJ 2] (rJ (modS r.fl (2:Int))))∧tU3 (((2:Int)≠0)∧(Ans prog 27 [rJ k,rJ 3] (rJ (modS k (3:Int))))∧tU5 ((true=true)∧∃ q1:Oq,(l q1)∧(A∧(b∧D∧d∧([dJ 2,dJ 0,dJ 0,dJ 0,dJ 0,dJ 0,dJ 0,dK most,dJ 4,dJ 1,dQ ((modS r.fl (2:Int))==0),dQ ((modS k (3:Int))==0)]=(n q1))∧True))))))∧(push=false→tU3 ((Ans prog 27 [rJ r.im,rJ imgs] (rJ (modS r.im imgs)))∧tU6 ((Ans prog 44 [rJ r.x,rJ c.a] (rJ (gOff r.x c.a)))∧tU4 ((Ans prog 44 [rJ r.y,rJ c.b] (rJ (gOff r.y c.b)))∧tU4 ((true=true)∧∃ q1:Oq,(l q1)∧(A∧(b∧D∧d∧([dJ 1,dJ (modS r.im imgs),dJ (gOff r.x c.a),dJ (gOff r.y c.b),dJ 0,dJ 0,dJ 0,dK most,dJ 4,dJ 1,dQ false,dQ false]=(n q1))∧True)))))))))∧∀ q1:Oq,(l q1)→(tU2 ((Ans prog 27 [rJ r.ma,rJ 4] (rJ i))∧True∧(((i==0)=true→tU2 (((4:Int)≠0)∧True∧(Ans prog 27 [rJ o,rJ imgs] (rJ (modS o imgs)))∧tU7 ((Ans prog 44 [rJ r.mx,rJ c.a] (rJ (gOff r.mx c.a)))∧tU4 ((Ans prog 44 [rJ r.my,rJ c.b] (rJ (gOff r.my c.b)))∧tU4 ((true=true)∧∃ q2:Oq,(p q2)∧(F∧(b∧d∧([dJ q1.kind,dJ q1.image,dJ q1.x,dJ q1.y,dJ (wK ((1:Int)+(modS o imgs))),dJ (gOff r.mx c.a),dJ (gOff r.my c.b),dK q1.opac,dJ q1.oper,dJ q1.mode,dQ q1.iso,dQ q1.kno]=(q q2))∧True)))))))∧((i==0)=false→∃ q2:Oq,(p q2)∧(F∧(b∧d∧((n q1)=(q q2))∧True))))))∧∀ q2:Oq,(p q2)→(tU2 ((Ans prog 27 [rJ r.op,rJ 2] (rJ h))∧True∧(((h==0)=true→tU2 (((2:Int)≠0)∧True∧(Ans prog 45 [rJ s,rD (dK most)] (rD (dK (zQN s most))))∧tU2 (∃ q3:Oq,(t q3)∧(e∧(b∧d∧([dJ q2.kind,dJ q2.image,dJ q2.x,dJ q2.y,dJ q2.mask,dJ q2.mx,dJ q2.my,dK (zQN s most),dJ q2.oper,dJ q2.mode,dQ q2.iso,dQ q2.kno]=(u q3))∧True)))))∧((h==0)=false→∃ q3:Oq,(t q3)∧(e∧(b∧d∧((q q2)=(u q3))∧True))))))∧∀ q3:Oq,(t q3)→(tU2 ((Ans prog 27 [rJ r.mo,rJ 2] (rJ g))∧True∧(((g==0)=true→tU2 (((2:Int)≠0)∧(Ans prog 27 [rJ v,rJ 12] (rJ (modS v (12:Int))))∧tU3 (∃ q4:Oq,(w q4)∧(e∧(b∧d∧([dJ q3.kind,dJ q3.image,dJ q3.x,dJ q3.y,dJ q3.mask,dJ q3.mx,dJ q3.my,dK q3.opac,dJ q3.oper,dJ (wK ((1:Int)+(modS v (12:Int)))),dQ q3.iso,dQ q3.kno]=(f q4))∧True)))))∧((g==0)=false→∃ q4:Oq,(w q4)∧(e∧(b∧d∧((u q3)=(f q4))∧True))))))∧∀ q4:Oq,(w q4)→tU2 ((free=true→tU2 ((Ans prog 27 [rJ r.ope,rJ 2] (rJ j))∧tU2 (((j==0)=true→tU2 (((2:Int)≠0)∧(Ans prog 27 [rJ x,rJ 12] (rJ (modS x (12:Int))))∧tU5 (rA [dJ q4.kind,dJ q4.image,dJ q4.x,dJ q4.y,dJ q4.mask,dJ q4.mx,dJ q4.my,dK q4.opac,dJ (wK ((1:Int)+(modS x (12:Int)))),dJ q4.mode,dQ q4.iso,dQ q4.kno]=rA y)))∧((j==0)=false→tU2 (rA (f q4)=rA y)))))∧(free=(!true)→tU3 (rA (f q4)=rA y)))))) ?_
  delta dJ dK dQ wK rJ
  simp only [sS,zQn,zXX]
  have oa:=fun n=>zUx n c.a hc.1
  have ob:=fun n=>zUx n c.b hc.2
  have b4:=@zZK (wrap .i64 (Int.tdiv r.ma 4)) imgs (by omega) (by omega)
  have b12:=fun v=>@zZK v 12 (by omega) (by omega)
  have w4:wrap .i64 (1+modS (wrap .i64 (Int.tdiv r.ma 4)) imgs)=1+modS (wrap .i64 (Int.tdiv r.ma 4)) imgs:=IntWalk.i64_in _ ⟨by omega,by omega⟩
  have w12:∀ v,wrap .i64 (1+modS v 12)=1+modS v 12:=fun v=>by have:=b12 v; exact IntWalk.i64_in _ ⟨by omega,by omega⟩
  simp only [oa,ob,w4,w12,true_and]
  simp only [exists_eq_left,forall_eq,gOp,beq_iff_eq,beq_eq_false_iff_ne]
  (repeat' (first | apply And.intro | intro _)) <;> (first | decide | (simp_all; done) | (simp_all; rfl))
theorem zQp (w h:Int):Ans prog 83 [rJ (w),rJ (h)] (rD (dQ (zQ4 w h))):=
 zQa (Γ:=gamI) aL zQf Tryz.func83 rfl (nL rfl) fun hwf=>by
  refine Eq.mpr (by kernel_rfl:_=(let a:=(rD (dQ false)=rD (dQ (zQ4 w h))); tU4 (((decide (w≥1))=true→tU4 (((decide (h≥1))=true→tU2 ((h≠0)∧tU3 (rD (dQ (decide (w≤(wK (Int.tdiv (16777216:Int) h)))))=rD (dQ (zQ4 w h)))))∧((decide (h≥1))=(!true)→tU2 a)))∧((decide (w≥1))=(!true)→tU4 a)))) ?_
  delta dQ wK
  simp only [sS,zQn]
  have:=@zU8 w h
  grind [zQ4]
theorem zQ5 (w h:Int):Ans prog 257 [rJ (w),rJ (h)] (rD (dQ (zQ4 w h))):=
 zQa (Γ:=gamI) aL zQf Tryz.func257 rfl (nL rfl) fun hwf=>by
  refine Eq.mpr (by kernel_rfl:_=(let a:=(rD (dQ false)=rD (dQ (zQ4 w h))); tU4 (((decide (w≥1))=true→tU4 (((decide (h≥1))=true→tU2 ((h≠0)∧tU3 (rD (dQ (decide (w≤(wK (Int.tdiv (16777216:Int) h)))))=rD (dQ (zQ4 w h)))))∧((decide (h≥1))=(!true)→tU2 a)))∧((decide (w≥1))=(!true)→tU4 a)))) ?_
  delta dQ wK
  simp only [sS,zQn,zQp]
  have:=@zU8 w h
  grind [zQ4]
theorem zQA (w h:Int):Ans prog 86 [rJ (w),rJ (h)] (rD (dQ (zQ4 w h))):=
 zQa (Γ:=gamI) aL zQf Tryz.func86 rfl (nL rfl) fun hwf=>by
  refine Eq.mpr (by kernel_rfl:_=(let a:=(rD (dQ false)=rD (dQ (zQ4 w h))); tU4 (((decide (w≥1))=true→tU4 (((decide (h≥1))=true→tU4 (((decide (w≤16777216))=true→tU2 ((w≠0)∧tU3 (rD (dQ (decide (h≤(wK (Int.tdiv (16777216:Int) w)))))=rD (dQ (zQ4 w h)))))∧((decide (w≤16777216))=(!true)→tU2 a)))∧((decide (h≥1))=(!true)→tU4 a)))∧((decide (w≥1))=(!true)→tU6 a)))) ?_
  delta dQ wK
  simp only [sS,zQn,zQp,zQ5]
  have h1:1≤w→1≤h→(h≤wrap .i64 (Int.tdiv 16777216 w)↔w*h≤16777216):=fun a b=>by rw [zU8 b a,Int.mul_comm]
  have h2:=@zXE w h
  grind [zQ4]
theorem zZa (w h s:Int):Ans prog 258 [rJ (w),rJ (h),rJ (s)] (rJ ((lenW w h s))):=
 zQa (Γ:=gamI) aL zQf Tryz.func258 rfl (nL rfl) fun hwf=>by
  refine Eq.mpr (by kernel_rfl:_=(tU8 (rJ (wK ((wK ((wK (h - 1))*s))+w))=rJ (lenW w h s)))) ?_
  delta wK rJ
  simp only [sS,zQn,zQp,zQ5,zQA]
  simp [lenW]
theorem zZB (w h s:Int) (n:Nat) (xs:List DV):Ans prog 238 [rA [dJ w,dJ h,dJ s,dS n xs]] (rD (dQ (zQI w h s n))):=
 zQa (Γ:=gamI) aL zQf Tryz.func238 rfl (nL rfl) fun hwf=>by
  refine Eq.mpr (by kernel_rfl:_=(let a:=((true=true)∧rD (dQ false)=rD (dQ (zQI w h s n))); tU6 ((Ans prog 257 [rJ w,rJ h] (rD (dQ (zQ4 w h))))∧True∧(((zQ4 w h)=true→tU7 (((decide (s≥w))=true→tU5 (((decide (s≤16777216))=true→True∧tU8 ((Ans prog 258 [rJ w,rJ h,rJ s] (rJ (lenW w h s)))∧tU3 ((true=true)∧rD (dQ (decide ((n:Int)≥(lenW w h s))))=rD (dQ (zQI w h s n)))))∧((decide (s≤16777216))=(!true)→tU2 a)))∧((decide (s≥w))=(!true)→tU4 a)))∧((zQ4 w h)=(!true)→tU6 a))))) ?_
  delta dQ rJ
  simp only [sS,zQn,zQp,zQ5,zQA,zZa]
  grind [zQI]
theorem zZo (w h s:Int) (n:Nat) (xs:List DV):Ans prog 163 [rA [dJ w,dJ h,dJ s,dS n xs]] (rD (dQ (zQI w h s n))):=
 zQa (Γ:=gamI) aL zQf Tryz.func163 rfl (nL rfl) fun hwf=>by
  refine Eq.mpr (by kernel_rfl:_=(let a:=(rD (dQ false)=rD (dQ (zQI w h s n))); tU6 ((Ans prog 86 [rJ w,rJ h] (rD (dQ (zQ4 w h))))∧True∧(((zQ4 w h)=true→tU7 (((decide (s≥w))=true→tU5 (((decide (s≤16777216))=true→tU7 (tU8 (rD (dQ (decide ((n:Int)≥(wK ((wK ((wK (h - 1))*s))+w)))))=rD (dQ (zQI w h s n)))))∧((decide (s≤16777216))=(!true)→tU2 a)))∧((decide (s≥w))=(!true)→tU4 a)))∧((zQ4 w h)=(!true)→tU6 a))))) ?_
  delta dQ wK rJ
  simp only [sS,zQn,zQp,zQ5,zQA,zZa,zZB]
  grind [zQI,lenW]
theorem zXN (w h s:Int) (n:Nat) (xs:List DV):Ans prog 237 [rA [dJ w,dJ h,dJ s,dS n xs]] (rD (dQ (zZc ⟨w,h,s,n,xs⟩))):=
 zQa (Γ:=gamI) aL zQf Tryz.func237 rfl (nL rfl) fun hwf=>by
  refine Eq.mpr (by kernel_rfl:_=(let b:=(dQ (zZc ⟨w,h,s,n,xs⟩)); let a:=(rD (dQ false)=rD b); tU6 (((w==0)=true→tU5 (((h==0)=true→tU5 (((s==0)=true→tU6 (rD (dQ ((n:Int)==0))=rD b))∧((s==0)=(!true)→tU2 a)))∧((h==0)=(!true)→tU4 a)))∧((w==0)=(!true)→tU6 a)))) ?_
  delta dQ
  simp only [sS,zQn,zQp,zQ5,zQA,zZa,zZB,zZo]
  simp [zZc]; grind
theorem zQv (c0 c1 c2 ca cf most:Int):Ans prog 117 [rA [dK c0,dK c1,dK c2,dK ca,dK cf],rD (dK most)] (rD (dQ (Px.ok ⟨c0,c1,c2,ca,cf⟩ most))):=
 zQa (Γ:=gamI) (let a:=(2,aO (Cl.ptr 2 0)); let e:=(aQ aL (aQ (Ann.sure true aL) aL)); let b:=(1,aO (cK most)); let c:=(8,AV.agg [cK c0,cK c1,cK c2]); let d:=[(2,bC [cK c0,cK c1,cK c2,cK ca,cK cf])]; (aQ aL (aQ (aQ aL (Ann.link ⟨Unit,fun _u=>True,fun _u=>⟨[b,a,c,(9,aJ 0)],d⟩,fun _u=>0⟩ (fun _u=>e) (Ann.link ⟨Unit,fun _u=>(c0≤ca)∧True,fun _u=>⟨[b,a,c,(9,aJ 1)],d⟩,fun _u=>0⟩ (fun _u=>e) (Ann.link ⟨Unit,fun _u=>(c0≤ca)∧(c1≤ca)∧True,fun _u=>⟨[b,a,c,(9,aJ 2)],d⟩,fun _u=>0⟩ (fun _u=>e) (Ann.link ⟨Unit,fun _u=>(c0≤ca)∧(c1≤ca)∧(c2≤ca)∧True,fun _u=>⟨[b,a,c,(9,aJ 3)],d⟩,fun _u=>0⟩ (fun _u=>(aQ aL (aQ (Ann.sure false aL) aL))) aL))))) aL))) zQf Tryz.func117 rfl (nL rfl) fun hwf=>by
  refine Eq.mpr (by kernel_rfl:_=(let b:=(dK most=dK most); let e:=[dK c0,dK c1,dK c2]; let c:=(e=e); let f:=[dK c0,dK c1,dK c2,dK ca,dK cf]; let d:=((f=f)∧True); let a:=(dQ (Px.ok ⟨c0,c1,c2,ca,cf⟩ most)); let g:=((c0≤ca)∧(c1≤ca)∧True); let h:=((c0≤ca)∧(c1≤ca)∧(c2≤ca)∧True); tU5 ((∃ _u:Unit,True∧((b∧(0=0)∧c∧(dJ 0=dJ 0)∧True)∧d))∧((∀ _u:Unit,True→True∧(decide ((0:Int) < 3)=true∧(0≤(0:Int)∧(0:Int) < ((3:Nat):Int)∧(some (dK c0)=some (dK c0))∧True)∧tU5 (((decide (c0 > ca))=true→True∧rD (dQ false)=rD a)∧((decide (c0 > ca))=false→tU2 (∃ _u:Unit,((c0≤ca)∧True)∧((b∧(0=0)∧c∧(dJ (wK ((0:Int)+1))=dJ 1)∧True)∧d))))))∧(∀ _u:Unit,((c0≤ca)∧True)→True∧(decide ((1:Int) < 3)=true∧(0≤(1:Int)∧(1:Int) < ((3:Nat):Int)∧(some (dK c1)=some (dK c1))∧True)∧tU5 (((decide (c1 > ca))=true→True∧rD (dQ false)=rD a)∧((decide (c1 > ca))=false→tU2 (∃ _u:Unit,g∧((b∧(0=0)∧c∧(dJ (wK ((1:Int)+1))=dJ 2)∧True)∧d))))))∧(∀ _u:Unit,g→True∧(decide ((2:Int) < 3)=true∧(0≤(2:Int)∧(2:Int) < ((3:Nat):Int)∧(some (dK c2)=some (dK c2))∧True)∧tU5 (((decide (c2 > ca))=true→True∧rD (dQ false)=rD a)∧((decide (c2 > ca))=false→tU2 (∃ _u:Unit,h∧((b∧(0=0)∧c∧(dJ (wK ((2:Int)+1))=dJ 3)∧True)∧d))))))∧(∀ _u:Unit,h→True∧(decide ((3:Int) < 3)=false∧tU6 (((decide (ca≤cf))=true→tU6 (rD (dQ (decide (cf≤most)))=rD a))∧((decide (ca≤cf))=(!true)→tU2 (rD (dQ false)=rD a)))))∧True)))) ?_
  delta dJ dK dQ wK
  simp only [sS,zQn,zQp,zQ5,zQA,zZa,zZB,zZo,zXN]
  simp [Px.ok,w1_]; grind
theorem zQL (c0 c1 c2 ca cf most:Int):Ans prog 231 [rA [dK c0,dK c1,dK c2,dK ca,dK cf],rD (dK most)] (rD (dQ (Px.ok ⟨c0,c1,c2,ca,cf⟩ most))):=
 zQa (Γ:=gamI) aL zQf Tryz.func231 rfl (nL rfl) fun hwf=>by
  refine Eq.mpr (by kernel_rfl:_=(let b:=(dQ (Px.ok ⟨c0,c1,c2,ca,cf⟩ most)); let a:=(rD (dQ false)=rD b); tU3 ((0≤(0:Int)∧(0:Int) < ((3:Nat):Int))∧tU5 (((decide (c0≤ca))=true→True∧(0≤(1:Int)∧(1:Int) < ((3:Nat):Int))∧tU6 (((decide (c1≤ca))=true→True∧(0≤(2:Int)∧(2:Int) < ((3:Nat):Int))∧tU6 (((decide (c2≤ca))=true→tU7 (((decide (ca≤cf))=true→tU6 (rD (dQ (decide (cf≤most)))=rD b))∧((decide (ca≤cf))=(!true)→tU2 a)))∧((decide (c2≤ca))=(!true)→tU4 a)))∧((decide (c1≤ca))=(!true)→tU6 a)))∧((decide (c0≤ca))=(!true)→tU8 a))))) ?_
  delta dQ
  simp only [sS,zQn,zQp,zQ5,zQA,zZa,zZB,zZo,zXN,zQv]
  simp [Px.ok]; grind
theorem zQD (w h:Int) (so:Bool) (c0 c1 c2 ca cf w0 h0 s0:Int) (n0:Nat) (xs0:List DV) (w1 h1 s1:Int) (n1:Nat) (xs1:List DV) (w2 h2 s2:Int) (n2:Nat) (xs2:List DV) (w3 h3 s3:Int) (n3:Nat) (xs3:List DV) (w4 h4 s4:Int) (n4:Nat) (xs4:List DV):Ans prog 208 [rA [dJ w,dJ h,dQ so,dK c0,dK c1,dK c2,dK ca,dK cf,dJ w0,dJ h0,dJ s0,dS n0 xs0,dJ w1,dJ h1,dJ s1,dS n1 xs1,dJ w2,dJ h2,dJ s2,dS n2 xs2,dJ w3,dJ h3,dJ s3,dS n3 xs3,dJ w4,dJ h4,dJ s4,dS n4 xs4]] (rD (dQ (Im.formed ⟨w,h,so,⟨c0,c1,c2,ca,cf⟩,⟨w0,h0,s0,n0,xs0⟩,⟨w1,h1,s1,n1,xs1⟩,⟨w2,h2,s2,n2,xs2⟩,⟨w3,h3,s3,n3,xs3⟩,⟨w4,h4,s4,n4,xs4⟩⟩))):=
 zQa (Γ:=gamI) (let a:=(zQ4 w h=true); let b:=(1,aO (Cl.ptr 1 0)); let f:=(aQ aL (aQ (Ann.sure true aL) aL)); let c:=(so=true∨Px.mk c0 c1 c2 ca cf=Px.zero); let d:=(23,AV.agg [cJ w0,cJ h0,cJ s0,cD (dS n0 xs0),cJ w1,cJ h1,cJ s1,cD (dS n1 xs1),cJ w2,cJ h2,cJ s2,cD (dS n2 xs2),cJ w3,cJ h3,cJ s3,cD (dS n3 xs3),cJ w4,cJ h4,cJ s4,cD (dS n4 xs4)]); let e:=[(1,bC [cJ w,cJ h,cD (dQ so),cK c0,cK c1,cK c2,cK ca,cK cf,cJ w0,cJ h0,cJ s0,cD (dS n0 xs0),cJ w1,cJ h1,cJ s1,cD (dS n1 xs1),cJ w2,cJ h2,cJ s2,cD (dS n2 xs2),cJ w3,cJ h3,cJ s3,cD (dS n3 xs3),cJ w4,cJ h4,cJ s4,cD (dS n4 xs4)])]; (aQ aL (aQ aL (aQ (aQ aL (Ann.link ⟨Unit,fun _u=>a∧c∧True,fun _u=>⟨[b,d,(24,aJ 0)],e⟩,fun _u=>0⟩ (fun _u=>f) (Ann.link ⟨Unit,fun _u=>a∧c∧okPl so w h ⟨w0,h0,s0,n0,xs0⟩=true∧True,fun _u=>⟨[b,d,(24,aJ 1)],e⟩,fun _u=>0⟩ (fun _u=>f) (Ann.link ⟨Unit,fun _u=>a∧c∧okPl so w h ⟨w0,h0,s0,n0,xs0⟩=true∧okPl so w h ⟨w1,h1,s1,n1,xs1⟩=true∧True,fun _u=>⟨[b,d,(24,aJ 2)],e⟩,fun _u=>0⟩ (fun _u=>f) (Ann.link ⟨Unit,fun _u=>a∧c∧okPl so w h ⟨w0,h0,s0,n0,xs0⟩=true∧okPl so w h ⟨w1,h1,s1,n1,xs1⟩=true∧okPl so w h ⟨w2,h2,s2,n2,xs2⟩=true∧True,fun _u=>⟨[b,d,(24,aJ 3)],e⟩,fun _u=>0⟩ (fun _u=>f) (Ann.link ⟨Unit,fun _u=>a∧c∧okPl so w h ⟨w0,h0,s0,n0,xs0⟩=true∧okPl so w h ⟨w1,h1,s1,n1,xs1⟩=true∧okPl so w h ⟨w2,h2,s2,n2,xs2⟩=true∧okPl so w h ⟨w3,h3,s3,n3,xs3⟩=true∧True,fun _u=>⟨[b,d,(24,aJ 4)],e⟩,fun _u=>0⟩ (fun _u=>f) (Ann.link ⟨Unit,fun _u=>a∧c∧okPl so w h ⟨w0,h0,s0,n0,xs0⟩=true∧okPl so w h ⟨w1,h1,s1,n1,xs1⟩=true∧okPl so w h ⟨w2,h2,s2,n2,xs2⟩=true∧okPl so w h ⟨w3,h3,s3,n3,xs3⟩=true∧okPl so w h ⟨w4,h4,s4,n4,xs4⟩=true∧True,fun _u=>⟨[b,d,(24,aJ 5)],e⟩,fun _u=>0⟩ (fun _u=>(aQ aL (aQ (Ann.sure false aL) aL))) aL))))))) aL)))) zQf Tryz.func208 rfl (nL rfl) fun hwf=>by
  refine Eq.mpr (by kernel_rfl:_=(let Y:=(some (dS n4 xs4)=some (dS n4 xs4)); let Z:=(some (dS n3 xs3)=some (dS n3 xs3)); let z0:=(some (dS n2 xs2)=some (dS n2 xs2)); let z1:=(some (dS n1 xs1)=some (dS n1 xs1)); let z2:=(some (dS n0 xs0)=some (dS n0 xs0)); let o:=(zQ4 w h=true); let z3:=(!(((c0==0) && ((c1==0) && ((c2==0) && true))) && ((ca==0) && ((cf==0) && true)))); let b:=((5:Nat):Int); let s:=(!(zQI w4 h4 s4 n4)); let t:=(!(zQI w3 h3 s3 n3)); let u:=(!(zQI w2 h2 s2 n2)); let v:=(!(zQI w1 h1 s1 n1)); let x:=(!(zQI w0 h0 s0 n0)); let i:=(dQ (Im.formed ⟨w,h,so,⟨c0,c1,c2,ca,cf⟩,⟨w0,h0,s0,n0,xs0⟩,⟨w1,h1,s1,n1,xs1⟩,⟨w2,h2,s2,n2,xs2⟩,⟨w3,h3,s3,n3,xs3⟩,⟨w4,h4,s4,n4,xs4⟩⟩)); let z4:=(decide ((5:Int) < 5)=false∧True∧rD (dQ true)=rD i); let y:=((h4 != h)=true→True∧rD (dQ false)=rD i); let z:=((h3 != h)=true→True∧rD (dQ false)=rD i); let A:=((h2 != h)=true→True∧rD (dQ false)=rD i); let B:=((h1 != h)=true→True∧rD (dQ false)=rD i); let C:=((h0 != h)=true→True∧rD (dQ false)=rD i); let a:=(rD (dQ false)=rD i); let D:=(s=(!false)→tU6 a); let E:=(t=(!false)→tU6 a); let F:=(u=(!false)→tU6 a); let G:=(v=(!false)→tU6 a); let H:=(x=(!false)→tU6 a); let I:=((w4 != w)=(!false)→tU4 a); let J:=((w3 != w)=(!false)→tU4 a); let K:=((w2 != w)=(!false)→tU4 a); let L:=((w1 != w)=(!false)→tU4 a); let M:=((w0 != w)=(!false)→tU4 a); let p:=(so=true∨Px.mk c0 c1 c2 ca cf=Px.zero); let N:=(o∧p∧True); let z5:=[dJ w0,dJ h0,dJ s0,dS n0 xs0,dJ w1,dJ h1,dJ s1,dS n1 xs1,dJ w2,dJ h2,dJ s2,dS n2 xs2,dJ w3,dJ h3,dJ s3,dS n3 xs3,dJ w4,dJ h4,dJ s4,dS n4 xs4]; let q:=(z5=z5); let z6:=[dJ w,dJ h,dQ so,dK c0,dK c1,dK c2,dK ca,dK cf,dJ w0,dJ h0,dJ s0,dS n0 xs0,dJ w1,dJ h1,dJ s1,dS n1 xs1,dJ w2,dJ h2,dJ s2,dS n2 xs2,dJ w3,dJ h3,dJ s3,dS n3 xs3,dJ w4,dJ h4,dJ s4,dS n4 xs4]; let r:=((z6=z6)∧True); let z7:=(((0=0)∧q∧(dJ 0=dJ 0)∧True)∧r); let T:=[rA [dJ w0,dJ h0,dJ s0,dS n0 xs0]]; let O:=(Ans prog 238 T (rD (dQ (zQI w0 h0 s0 n0)))); let c:=(o∧p∧okPl so w h ⟨w0,h0,s0,n0,xs0⟩=true∧True); let j:=(((0=0)∧q∧(dJ (wK ((0:Int)+1))=dJ 1)∧True)∧r); let U:=[rA [dJ w1,dJ h1,dJ s1,dS n1 xs1]]; let P:=(Ans prog 238 U (rD (dQ (zQI w1 h1 s1 n1)))); let d:=(o∧p∧okPl so w h ⟨w0,h0,s0,n0,xs0⟩=true∧okPl so w h ⟨w1,h1,s1,n1,xs1⟩=true∧True); let k:=(((0=0)∧q∧(dJ (wK ((1:Int)+1))=dJ 2)∧True)∧r); let V:=[rA [dJ w2,dJ h2,dJ s2,dS n2 xs2]]; let Q:=(Ans prog 238 V (rD (dQ (zQI w2 h2 s2 n2)))); let e:=(o∧p∧okPl so w h ⟨w0,h0,s0,n0,xs0⟩=true∧okPl so w h ⟨w1,h1,s1,n1,xs1⟩=true∧okPl so w h ⟨w2,h2,s2,n2,xs2⟩=true∧True); let l:=(((0=0)∧q∧(dJ (wK ((2:Int)+1))=dJ 3)∧True)∧r); let W:=[rA [dJ w3,dJ h3,dJ s3,dS n3 xs3]]; let R:=(Ans prog 238 W (rD (dQ (zQI w3 h3 s3 n3)))); let f:=(o∧p∧okPl so w h ⟨w0,h0,s0,n0,xs0⟩=true∧okPl so w h ⟨w1,h1,s1,n1,xs1⟩=true∧okPl so w h ⟨w2,h2,s2,n2,xs2⟩=true∧okPl so w h ⟨w3,h3,s3,n3,xs3⟩=true∧True); let m:=(((0=0)∧q∧(dJ (wK ((3:Int)+1))=dJ 4)∧True)∧r); let X:=[rA [dJ w4,dJ h4,dJ s4,dS n4 xs4]]; let S:=(Ans prog 238 X (rD (dQ (zQI w4 h4 s4 n4)))); let g:=(o∧p∧okPl so w h ⟨w0,h0,s0,n0,xs0⟩=true∧okPl so w h ⟨w1,h1,s1,n1,xs1⟩=true∧okPl so w h ⟨w2,h2,s2,n2,xs2⟩=true∧okPl so w h ⟨w3,h3,s3,n3,xs3⟩=true∧okPl so w h ⟨w4,h4,s4,n4,xs4⟩=true∧True); let n:=(((0=0)∧q∧(dJ (wK ((4:Int)+1))=dJ 5)∧True)∧r); tU6 ((Ans prog 83 [rJ w,rJ h] (rD (dQ (zQ4 w h))))∧tU2 (((!(zQ4 w h))=false→tU4 (((!so)=true→tU6 ((z3=true→True∧rD (dQ false)=rD i)∧(z3=false→tU3 ((∃ _u:Unit,N∧z7)∧((∀ _u:Unit,N→True∧(decide ((0:Int) < 5)=true∧(0≤(0:Int)∧(0:Int) < b∧(some (dJ w0)=some (dJ w0))∧(some (dJ h0)=some (dJ h0))∧(some (dJ s0)=some (dJ s0))∧z2∧True)∧tU5 ((so=true→True∧(Ans prog 237 T (rD (dQ (zZc ⟨w0,h0,s0,n0,xs0⟩))))∧tU3 (((!(zZc ⟨w0,h0,s0,n0,xs0⟩))=false→tU4 (((!so)=true→True∧O∧tU2 ((x=false→tU7 (((w0 != w)=false→tU8 (C∧((h0 != h)=false→tU2 (∃ _u:Unit,c∧j))))∧M))∧H))∧((!so)=(!true)→tU4 (∃ _u:Unit,c∧j))))∧((!(zZc ⟨w0,h0,s0,n0,xs0⟩))=(!false)→tU2 a)))∧(so=(!true)→tU6 (((!so)=true→True∧O∧tU2 ((x=false→tU7 (((w0 != w)=false→tU8 (C∧((h0 != h)=false→tU2 (∃ _u:Unit,c∧j))))∧M))∧H))∧((!so)=(!true)→tU4 (∃ _u:Unit,c∧j)))))))∧(∀ _u:Unit,c→True∧(decide ((1:Int) < 5)=true∧(0≤(1:Int)∧(1:Int) < b∧(some (dJ w1)=some (dJ w1))∧(some (dJ h1)=some (dJ h1))∧(some (dJ s1)=some (dJ s1))∧z1∧True)∧tU5 ((so=true→True∧(Ans prog 237 U (rD (dQ (zZc ⟨w1,h1,s1,n1,xs1⟩))))∧tU3 (((!(zZc ⟨w1,h1,s1,n1,xs1⟩))=false→tU4 (((!so)=true→True∧P∧tU2 ((v=false→tU7 (((w1 != w)=false→tU8 (B∧((h1 != h)=false→tU2 (∃ _u:Unit,d∧k))))∧L))∧G))∧((!so)=(!true)→tU4 (∃ _u:Unit,d∧k))))∧((!(zZc ⟨w1,h1,s1,n1,xs1⟩))=(!false)→tU2 a)))∧(so=(!true)→tU6 (((!so)=true→True∧P∧tU2 ((v=false→tU7 (((w1 != w)=false→tU8 (B∧((h1 != h)=false→tU2 (∃ _u:Unit,d∧k))))∧L))∧G))∧((!so)=(!true)→tU4 (∃ _u:Unit,d∧k)))))))∧(∀ _u:Unit,d→True∧(decide ((2:Int) < 5)=true∧(0≤(2:Int)∧(2:Int) < b∧(some (dJ w2)=some (dJ w2))∧(some (dJ h2)=some (dJ h2))∧(some (dJ s2)=some (dJ s2))∧z0∧True)∧tU5 ((so=true→True∧(Ans prog 237 V (rD (dQ (zZc ⟨w2,h2,s2,n2,xs2⟩))))∧tU3 (((!(zZc ⟨w2,h2,s2,n2,xs2⟩))=false→tU4 (((!so)=true→True∧Q∧tU2 ((u=false→tU7 (((w2 != w)=false→tU8 (A∧((h2 != h)=false→tU2 (∃ _u:Unit,e∧l))))∧K))∧F))∧((!so)=(!true)→tU4 (∃ _u:Unit,e∧l))))∧((!(zZc ⟨w2,h2,s2,n2,xs2⟩))=(!false)→tU2 a)))∧(so=(!true)→tU6 (((!so)=true→True∧Q∧tU2 ((u=false→tU7 (((w2 != w)=false→tU8 (A∧((h2 != h)=false→tU2 (∃ _u:Unit,e∧l))))∧K))∧F))∧((!so)=(!true)→tU4 (∃ _u:Unit,e∧l)))))))∧(∀ _u:Unit,e→True∧(decide ((3:Int) < 5)=true∧(0≤(3:Int)∧(3:Int) < b∧(some (dJ w3)=some (dJ w3))∧(some (dJ h3)=some (dJ h3))∧(some (dJ s3)=some (dJ s3))∧Z∧True)∧tU5 ((so=true→True∧(Ans prog 237 W (rD (dQ (zZc ⟨w3,h3,s3,n3,xs3⟩))))∧tU3 (((!(zZc ⟨w3,h3,s3,n3,xs3⟩))=false→tU4 (((!so)=true→True∧R∧tU2 ((t=false→tU7 (((w3 != w)=false→tU8 (z∧((h3 != h)=false→tU2 (∃ _u:Unit,f∧m))))∧J))∧E))∧((!so)=(!true)→tU4 (∃ _u:Unit,f∧m))))∧((!(zZc ⟨w3,h3,s3,n3,xs3⟩))=(!false)→tU2 a)))∧(so=(!true)→tU6 (((!so)=true→True∧R∧tU2 ((t=false→tU7 (((w3 != w)=false→tU8 (z∧((h3 != h)=false→tU2 (∃ _u:Unit,f∧m))))∧J))∧E))∧((!so)=(!true)→tU4 (∃ _u:Unit,f∧m)))))))∧(∀ _u:Unit,f→True∧(decide ((4:Int) < 5)=true∧(0≤(4:Int)∧(4:Int) < b∧(some (dJ w4)=some (dJ w4))∧(some (dJ h4)=some (dJ h4))∧(some (dJ s4)=some (dJ s4))∧Y∧True)∧tU5 ((so=true→True∧(Ans prog 237 X (rD (dQ (zZc ⟨w4,h4,s4,n4,xs4⟩))))∧tU3 (((!(zZc ⟨w4,h4,s4,n4,xs4⟩))=false→tU4 (((!so)=true→True∧S∧tU2 ((s=false→tU7 (((w4 != w)=false→tU8 (y∧((h4 != h)=false→tU2 (∃ _u:Unit,g∧n))))∧I))∧D))∧((!so)=(!true)→tU4 (∃ _u:Unit,g∧n))))∧((!(zZc ⟨w4,h4,s4,n4,xs4⟩))=(!false)→tU2 a)))∧(so=(!true)→tU6 (((!so)=true→True∧S∧tU2 ((s=false→tU7 (((w4 != w)=false→tU8 (y∧((h4 != h)=false→tU2 (∃ _u:Unit,g∧n))))∧I))∧D))∧((!so)=(!true)→tU4 (∃ _u:Unit,g∧n)))))))∧(∀ _u:Unit,g→True∧z4)∧True)))))∧((!so)=(!true)→tU5 ((∃ _u:Unit,N∧z7)∧((∀ _u:Unit,N→True∧(decide ((0:Int) < 5)=true∧(0≤(0:Int)∧(0:Int) < b∧(some (dJ w0)=some (dJ w0))∧(some (dJ h0)=some (dJ h0))∧(some (dJ s0)=some (dJ s0))∧z2∧True)∧tU5 ((so=true→True∧(Ans prog 237 T (rD (dQ (zZc ⟨w0,h0,s0,n0,xs0⟩))))∧tU3 (((!(zZc ⟨w0,h0,s0,n0,xs0⟩))=false→tU4 (((!so)=true→True∧O∧tU2 ((x=false→tU7 (((w0 != w)=false→tU8 (C∧((h0 != h)=false→tU2 (∃ _u:Unit,c∧j))))∧M))∧H))∧((!so)=(!true)→tU4 (∃ _u:Unit,c∧j))))∧((!(zZc ⟨w0,h0,s0,n0,xs0⟩))=(!false)→tU2 a)))∧(so=(!true)→tU6 (((!so)=true→True∧O∧tU2 ((x=false→tU7 (((w0 != w)=false→tU8 (C∧((h0 != h)=false→tU2 (∃ _u:Unit,c∧j))))∧M))∧H))∧((!so)=(!true)→tU4 (∃ _u:Unit,c∧j)))))))∧(∀ _u:Unit,c→True∧(decide ((1:Int) < 5)=true∧(0≤(1:Int)∧(1:Int) < b∧(some (dJ w1)=some (dJ w1))∧(some (dJ h1)=some (dJ h1))∧(some (dJ s1)=some (dJ s1))∧z1∧True)∧tU5 ((so=true→True∧(Ans prog 237 U (rD (dQ (zZc ⟨w1,h1,s1,n1,xs1⟩))))∧tU3 (((!(zZc ⟨w1,h1,s1,n1,xs1⟩))=false→tU4 (((!so)=true→True∧P∧tU2 ((v=false→tU7 (((w1 != w)=false→tU8 (B∧((h1 != h)=false→tU2 (∃ _u:Unit,d∧k))))∧L))∧G))∧((!so)=(!true)→tU4 (∃ _u:Unit,d∧k))))∧((!(zZc ⟨w1,h1,s1,n1,xs1⟩))=(!false)→tU2 a)))∧(so=(!true)→tU6 (((!so)=true→True∧P∧tU2 ((v=false→tU7 (((w1 != w)=false→tU8 (B∧((h1 != h)=false→tU2 (∃ _u:Unit,d∧k))))∧L))∧G))∧((!so)=(!true)→tU4 (∃ _u:Unit,d∧k)))))))∧(∀ _u:Unit,d→True∧(decide ((2:Int) < 5)=true∧(0≤(2:Int)∧(2:Int) < b∧(some (dJ w2)=some (dJ w2))∧(some (dJ h2)=some (dJ h2))∧(some (dJ s2)=some (dJ s2))∧z0∧True)∧tU5 ((so=true→True∧(Ans prog 237 V (rD (dQ (zZc ⟨w2,h2,s2,n2,xs2⟩))))∧tU3 (((!(zZc ⟨w2,h2,s2,n2,xs2⟩))=false→tU4 (((!so)=true→True∧Q∧tU2 ((u=false→tU7 (((w2 != w)=false→tU8 (A∧((h2 != h)=false→tU2 (∃ _u:Unit,e∧l))))∧K))∧F))∧((!so)=(!true)→tU4 (∃ _u:Unit,e∧l))))∧((!(zZc ⟨w2,h2,s2,n2,xs2⟩))=(!false)→tU2 a)))∧(so=(!true)→tU6 (((!so)=true→True∧Q∧tU2 ((u=false→tU7 (((w2 != w)=false→tU8 (A∧((h2 != h)=false→tU2 (∃ _u:Unit,e∧l))))∧K))∧F))∧((!so)=(!true)→tU4 (∃ _u:Unit,e∧l)))))))∧(∀ _u:Unit,e→True∧(decide ((3:Int) < 5)=true∧(0≤(3:Int)∧(3:Int) < b∧(some (dJ w3)=some (dJ w3))∧(some (dJ h3)=some (dJ h3))∧(some (dJ s3)=some (dJ s3))∧Z∧True)∧tU5 ((so=true→True∧(Ans prog 237 W (rD (dQ (zZc ⟨w3,h3,s3,n3,xs3⟩))))∧tU3 (((!(zZc ⟨w3,h3,s3,n3,xs3⟩))=false→tU4 (((!so)=true→True∧R∧tU2 ((t=false→tU7 (((w3 != w)=false→tU8 (z∧((h3 != h)=false→tU2 (∃ _u:Unit,f∧m))))∧J))∧E))∧((!so)=(!true)→tU4 (∃ _u:Unit,f∧m))))∧((!(zZc ⟨w3,h3,s3,n3,xs3⟩))=(!false)→tU2 a)))∧(so=(!true)→tU6 (((!so)=true→True∧R∧tU2 ((t=false→tU7 (((w3 != w)=false→tU8 (z∧((h3 != h)=false→tU2 (∃ _u:Unit,f∧m))))∧J))∧E))∧((!so)=(!true)→tU4 (∃ _u:Unit,f∧m)))))))∧(∀ _u:Unit,f→True∧(decide ((4:Int) < 5)=true∧(0≤(4:Int)∧(4:Int) < b∧(some (dJ w4)=some (dJ w4))∧(some (dJ h4)=some (dJ h4))∧(some (dJ s4)=some (dJ s4))∧Y∧True)∧tU5 ((so=true→True∧(Ans prog 237 X (rD (dQ (zZc ⟨w4,h4,s4,n4,xs4⟩))))∧tU3 (((!(zZc ⟨w4,h4,s4,n4,xs4⟩))=false→tU4 (((!so)=true→True∧S∧tU2 ((s=false→tU7 (((w4 != w)=false→tU8 (y∧((h4 != h)=false→tU2 (∃ _u:Unit,g∧n))))∧I))∧D))∧((!so)=(!true)→tU4 (∃ _u:Unit,g∧n))))∧((!(zZc ⟨w4,h4,s4,n4,xs4⟩))=(!false)→tU2 a)))∧(so=(!true)→tU6 (((!so)=true→True∧S∧tU2 ((s=false→tU7 (((w4 != w)=false→tU8 (y∧((h4 != h)=false→tU2 (∃ _u:Unit,g∧n))))∧I))∧D))∧((!so)=(!true)→tU4 (∃ _u:Unit,g∧n)))))))∧(∀ _u:Unit,g→True∧z4)∧True)))))∧((!(zQ4 w h))=(!false)→tU2 a))))) ?_
  delta dJ dK dQ wK dS rJ
  simp only [sS,zQn,zQp,zQ5,zQA,zZa,zZB,zZo,zXN,zQv,zQL]
  cases so <;> simp [w1_,Im.formed,Im.inner,okPl,Px.zero] <;> (repeat' (first | apply And.intro | intro)) <;> (first | assumption | (simp_all; done) | grind)
theorem zQZ (w h:Int) (so:Bool) (c0 c1 c2 ca cf w0 h0 s0:Int) (n0:Nat) (xs0:List DV) (w1 h1 s1:Int) (n1:Nat) (xs1:List DV) (w2 h2 s2:Int) (n2:Nat) (xs2:List DV) (w3 h3 s3:Int) (n3:Nat) (xs3:List DV) (w4 h4 s4:Int) (n4:Nat) (xs4:List DV):Ans prog 87 [rA [dJ w,dJ h,dQ so,dK c0,dK c1,dK c2,dK ca,dK cf,dJ w0,dJ h0,dJ s0,dS n0 xs0,dJ w1,dJ h1,dJ s1,dS n1 xs1,dJ w2,dJ h2,dJ s2,dS n2 xs2,dJ w3,dJ h3,dJ s3,dS n3 xs3,dJ w4,dJ h4,dJ s4,dS n4 xs4]] (rD (dQ (Im.inner ⟨w,h,so,⟨c0,c1,c2,ca,cf⟩,⟨w0,h0,s0,n0,xs0⟩,⟨w1,h1,s1,n1,xs1⟩,⟨w2,h2,s2,n2,xs2⟩,⟨w3,h3,s3,n3,xs3⟩,⟨w4,h4,s4,n4,xs4⟩⟩))):=
 zQa (Γ:=gamI) (let a:=(1,aO (Cl.ptr 1 0)); let c:=(aQ (aQ aL (Ann.sure true aL)) aL); let b:=[(1,bC [cJ w,cJ h,cD (dQ so),cK c0,cK c1,cK c2,cK ca,cK cf,cJ w0,cJ h0,cJ s0,cD (dS n0 xs0),cJ w1,cJ h1,cJ s1,cD (dS n1 xs1),cJ w2,cJ h2,cJ s2,cD (dS n2 xs2),cJ w3,cJ h3,cJ s3,cD (dS n3 xs3),cJ w4,cJ h4,cJ s4,cD (dS n4 xs4)])]; (aQ aL (aQ (aQ aL (Ann.link ⟨Unit,fun _u=>True,fun _u=>⟨[a,(3,aJ 0)],b⟩,fun _u=>0⟩ (fun _u=>c) (Ann.link ⟨Unit,fun _u=>okPl so w h ⟨w0,h0,s0,n0,xs0⟩=true∧True,fun _u=>⟨[a,(3,aJ 1)],b⟩,fun _u=>0⟩ (fun _u=>c) (Ann.link ⟨Unit,fun _u=>okPl so w h ⟨w0,h0,s0,n0,xs0⟩=true∧okPl so w h ⟨w1,h1,s1,n1,xs1⟩=true∧True,fun _u=>⟨[a,(3,aJ 2)],b⟩,fun _u=>0⟩ (fun _u=>c) (Ann.link ⟨Unit,fun _u=>okPl so w h ⟨w0,h0,s0,n0,xs0⟩=true∧okPl so w h ⟨w1,h1,s1,n1,xs1⟩=true∧okPl so w h ⟨w2,h2,s2,n2,xs2⟩=true∧True,fun _u=>⟨[a,(3,aJ 3)],b⟩,fun _u=>0⟩ (fun _u=>c) (Ann.link ⟨Unit,fun _u=>okPl so w h ⟨w0,h0,s0,n0,xs0⟩=true∧okPl so w h ⟨w1,h1,s1,n1,xs1⟩=true∧okPl so w h ⟨w2,h2,s2,n2,xs2⟩=true∧okPl so w h ⟨w3,h3,s3,n3,xs3⟩=true∧True,fun _u=>⟨[a,(3,aJ 4)],b⟩,fun _u=>0⟩ (fun _u=>c) (Ann.link ⟨Unit,fun _u=>okPl so w h ⟨w0,h0,s0,n0,xs0⟩=true∧okPl so w h ⟨w1,h1,s1,n1,xs1⟩=true∧okPl so w h ⟨w2,h2,s2,n2,xs2⟩=true∧okPl so w h ⟨w3,h3,s3,n3,xs3⟩=true∧okPl so w h ⟨w4,h4,s4,n4,xs4⟩=true∧True,fun _u=>⟨[a,(3,aJ 5)],b⟩,fun _u=>0⟩ (fun _u=>(aQ (aQ aL (Ann.sure false aL)) aL)) aL))))))) aL))) zQf Tryz.func87 rfl (nL rfl) fun hwf=>by
  refine Eq.mpr (by kernel_rfl:_=(let d:=((5:Nat):Int); let p:=(!(zQI w4 h4 s4 n4)); let q:=(!(zQI w3 h3 s3 n3)); let r:=(!(zQI w2 h2 s2 n2)); let s:=(!(zQI w1 h1 s1 n1)); let t:=(!(zQI w0 h0 s0 n0)); let u:=(Ans prog 163 [rA [dJ w4,dJ h4,dJ s4,dS n4 xs4]] (rD (dQ (zQI w4 h4 s4 n4)))); let v:=(Ans prog 163 [rA [dJ w3,dJ h3,dJ s3,dS n3 xs3]] (rD (dQ (zQI w3 h3 s3 n3)))); let x:=(Ans prog 163 [rA [dJ w2,dJ h2,dJ s2,dS n2 xs2]] (rD (dQ (zQI w2 h2 s2 n2)))); let y:=(Ans prog 163 [rA [dJ w1,dJ h1,dJ s1,dS n1 xs1]] (rD (dQ (zQI w1 h1 s1 n1)))); let z:=(Ans prog 163 [rA [dJ w0,dJ h0,dJ s0,dS n0 xs0]] (rD (dQ (zQI w0 h0 s0 n0)))); let A:=[dJ w,dJ h,dQ so,dK c0,dK c1,dK c2,dK ca,dK cf,dJ w0,dJ h0,dJ s0,dS n0 xs0,dJ w1,dJ h1,dJ s1,dS n1 xs1,dJ w2,dJ h2,dJ s2,dS n2 xs2,dJ w3,dJ h3,dJ s3,dS n3 xs3,dJ w4,dJ h4,dJ s4,dS n4 xs4]; let c:=((A=A)∧True); let b:=(dQ (Im.inner ⟨w,h,so,⟨c0,c1,c2,ca,cf⟩,⟨w0,h0,s0,n0,xs0⟩,⟨w1,h1,s1,n1,xs1⟩,⟨w2,h2,s2,n2,xs2⟩,⟨w3,h3,s3,n3,xs3⟩,⟨w4,h4,s4,n4,xs4⟩⟩)); let B:=((h4 != h)=true→True∧rD (dQ false)=rD b); let C:=((h3 != h)=true→True∧rD (dQ false)=rD b); let D:=((h2 != h)=true→True∧rD (dQ false)=rD b); let E:=((h1 != h)=true→True∧rD (dQ false)=rD b); let F:=((h0 != h)=true→True∧rD (dQ false)=rD b); let a:=(rD (dQ false)=rD b); let G:=(p=(!false)→tU5 a); let H:=(q=(!false)→tU5 a); let I:=(r=(!false)→tU5 a); let J:=(s=(!false)→tU5 a); let K:=(t=(!false)→tU5 a); let L:=((w4 != w)=(!false)→tU3 a); let M:=((w3 != w)=(!false)→tU3 a); let N:=((w2 != w)=(!false)→tU3 a); let O:=((w1 != w)=(!false)→tU3 a); let P:=((w0 != w)=(!false)→tU3 a); let e:=(okPl so w h ⟨w0,h0,s0,n0,xs0⟩=true∧True); let k:=(((0=0)∧(dJ (wK ((0:Int)+1))=dJ 1)∧True)∧c); let f:=(okPl so w h ⟨w0,h0,s0,n0,xs0⟩=true∧okPl so w h ⟨w1,h1,s1,n1,xs1⟩=true∧True); let l:=(((0=0)∧(dJ (wK ((1:Int)+1))=dJ 2)∧True)∧c); let g:=(okPl so w h ⟨w0,h0,s0,n0,xs0⟩=true∧okPl so w h ⟨w1,h1,s1,n1,xs1⟩=true∧okPl so w h ⟨w2,h2,s2,n2,xs2⟩=true∧True); let m:=(((0=0)∧(dJ (wK ((2:Int)+1))=dJ 3)∧True)∧c); let i:=(okPl so w h ⟨w0,h0,s0,n0,xs0⟩=true∧okPl so w h ⟨w1,h1,s1,n1,xs1⟩=true∧okPl so w h ⟨w2,h2,s2,n2,xs2⟩=true∧okPl so w h ⟨w3,h3,s3,n3,xs3⟩=true∧True); let n:=(((0=0)∧(dJ (wK ((3:Int)+1))=dJ 4)∧True)∧c); let j:=(okPl so w h ⟨w0,h0,s0,n0,xs0⟩=true∧okPl so w h ⟨w1,h1,s1,n1,xs1⟩=true∧okPl so w h ⟨w2,h2,s2,n2,xs2⟩=true∧okPl so w h ⟨w3,h3,s3,n3,xs3⟩=true∧okPl so w h ⟨w4,h4,s4,n4,xs4⟩=true∧True); let o:=(((0=0)∧(dJ (wK ((4:Int)+1))=dJ 5)∧True)∧c); tU3 ((∃ _u:Unit,True∧(((0=0)∧(dJ 0=dJ 0)∧True)∧c))∧((∀ _u:Unit,True→tU2 (decide ((0:Int) < 5)=true∧tU2 ((0≤(0:Int)∧(0:Int) < d)∧tU6 ((so=true→tU4 (((w0 != 0)=false→tU5 (((h0 != 0)=false→tU5 (((s0 != 0)=false→tU6 (((decide ((n0:Int) > 0))=true→True∧rD (dQ false)=rD b)∧((decide ((n0:Int) > 0))=false→tU4 (((!so)=true→True∧z∧tU2 ((t=false→tU7 (((w0 != w)=false→tU7 (F∧((h0 != h)=false→tU3 (∃ _u:Unit,e∧k))))∧P))∧K))∧((!so)=(!true)→tU4 (∃ _u:Unit,e∧k))))))∧((s0 != 0)=(!false)→tU3 a)))∧((h0 != 0)=(!false)→tU5 a)))∧((w0 != 0)=(!false)→tU7 a)))∧(so=(!true)→tU5 (((!so)=true→True∧z∧tU2 ((t=false→tU7 (((w0 != w)=false→tU7 (F∧((h0 != h)=false→tU3 (∃ _u:Unit,e∧k))))∧P))∧K))∧((!so)=(!true)→tU4 (∃ _u:Unit,e∧k))))))))∧(∀ _u:Unit,e→tU2 (decide ((1:Int) < 5)=true∧tU2 ((0≤(1:Int)∧(1:Int) < d)∧tU6 ((so=true→tU4 (((w1 != 0)=false→tU5 (((h1 != 0)=false→tU5 (((s1 != 0)=false→tU6 (((decide ((n1:Int) > 0))=true→True∧rD (dQ false)=rD b)∧((decide ((n1:Int) > 0))=false→tU4 (((!so)=true→True∧y∧tU2 ((s=false→tU7 (((w1 != w)=false→tU7 (E∧((h1 != h)=false→tU3 (∃ _u:Unit,f∧l))))∧O))∧J))∧((!so)=(!true)→tU4 (∃ _u:Unit,f∧l))))))∧((s1 != 0)=(!false)→tU3 a)))∧((h1 != 0)=(!false)→tU5 a)))∧((w1 != 0)=(!false)→tU7 a)))∧(so=(!true)→tU5 (((!so)=true→True∧y∧tU2 ((s=false→tU7 (((w1 != w)=false→tU7 (E∧((h1 != h)=false→tU3 (∃ _u:Unit,f∧l))))∧O))∧J))∧((!so)=(!true)→tU4 (∃ _u:Unit,f∧l))))))))∧(∀ _u:Unit,f→tU2 (decide ((2:Int) < 5)=true∧tU2 ((0≤(2:Int)∧(2:Int) < d)∧tU6 ((so=true→tU4 (((w2 != 0)=false→tU5 (((h2 != 0)=false→tU5 (((s2 != 0)=false→tU6 (((decide ((n2:Int) > 0))=true→True∧rD (dQ false)=rD b)∧((decide ((n2:Int) > 0))=false→tU4 (((!so)=true→True∧x∧tU2 ((r=false→tU7 (((w2 != w)=false→tU7 (D∧((h2 != h)=false→tU3 (∃ _u:Unit,g∧m))))∧N))∧I))∧((!so)=(!true)→tU4 (∃ _u:Unit,g∧m))))))∧((s2 != 0)=(!false)→tU3 a)))∧((h2 != 0)=(!false)→tU5 a)))∧((w2 != 0)=(!false)→tU7 a)))∧(so=(!true)→tU5 (((!so)=true→True∧x∧tU2 ((r=false→tU7 (((w2 != w)=false→tU7 (D∧((h2 != h)=false→tU3 (∃ _u:Unit,g∧m))))∧N))∧I))∧((!so)=(!true)→tU4 (∃ _u:Unit,g∧m))))))))∧(∀ _u:Unit,g→tU2 (decide ((3:Int) < 5)=true∧tU2 ((0≤(3:Int)∧(3:Int) < d)∧tU6 ((so=true→tU4 (((w3 != 0)=false→tU5 (((h3 != 0)=false→tU5 (((s3 != 0)=false→tU6 (((decide ((n3:Int) > 0))=true→True∧rD (dQ false)=rD b)∧((decide ((n3:Int) > 0))=false→tU4 (((!so)=true→True∧v∧tU2 ((q=false→tU7 (((w3 != w)=false→tU7 (C∧((h3 != h)=false→tU3 (∃ _u:Unit,i∧n))))∧M))∧H))∧((!so)=(!true)→tU4 (∃ _u:Unit,i∧n))))))∧((s3 != 0)=(!false)→tU3 a)))∧((h3 != 0)=(!false)→tU5 a)))∧((w3 != 0)=(!false)→tU7 a)))∧(so=(!true)→tU5 (((!so)=true→True∧v∧tU2 ((q=false→tU7 (((w3 != w)=false→tU7 (C∧((h3 != h)=false→tU3 (∃ _u:Unit,i∧n))))∧M))∧H))∧((!so)=(!true)→tU4 (∃ _u:Unit,i∧n))))))))∧(∀ _u:Unit,i→tU2 (decide ((4:Int) < 5)=true∧tU2 ((0≤(4:Int)∧(4:Int) < d)∧tU6 ((so=true→tU4 (((w4 != 0)=false→tU5 (((h4 != 0)=false→tU5 (((s4 != 0)=false→tU6 (((decide ((n4:Int) > 0))=true→True∧rD (dQ false)=rD b)∧((decide ((n4:Int) > 0))=false→tU4 (((!so)=true→True∧u∧tU2 ((p=false→tU7 (((w4 != w)=false→tU7 (B∧((h4 != h)=false→tU3 (∃ _u:Unit,j∧o))))∧L))∧G))∧((!so)=(!true)→tU4 (∃ _u:Unit,j∧o))))))∧((s4 != 0)=(!false)→tU3 a)))∧((h4 != 0)=(!false)→tU5 a)))∧((w4 != 0)=(!false)→tU7 a)))∧(so=(!true)→tU5 (((!so)=true→True∧u∧tU2 ((p=false→tU7 (((w4 != w)=false→tU7 (B∧((h4 != h)=false→tU3 (∃ _u:Unit,j∧o))))∧L))∧G))∧((!so)=(!true)→tU4 (∃ _u:Unit,j∧o))))))))∧(∀ _u:Unit,j→tU2 (decide ((5:Int) < 5)=false∧tU3 ((so=false→tU6 (rD (dQ (((c0==0) && ((c1==0) && ((c2==0) && true))) && ((ca==0) && ((cf==0) && true))))=rD b))∧(so=(!false)→tU2 (rD (dQ true)=rD b)))))∧True)))) ?_
  delta dJ dK dQ wK dS
  simp only [sS,zQn,zQp,zQ5,zQA,zZa,zZB,zZo,zXN,zQv,zQL,zQD]
  cases so <;> simp [w1_,Im.inner,okPl,zZc,Px.zero] <;> (repeat' (first | apply And.intro | intro)) <;> (first | assumption | (simp_all; done) | grind)
theorem zQ7 (w h:Int) (so:Bool) (c0 c1 c2 ca cf w0 h0 s0:Int) (n0:Nat) (xs0:List DV) (w1 h1 s1:Int) (n1:Nat) (xs1:List DV) (w2 h2 s2:Int) (n2:Nat) (xs2:List DV) (w3 h3 s3:Int) (n3:Nat) (xs3:List DV) (w4 h4 s4:Int) (n4:Nat) (xs4:List DV):Ans prog 42 [rA [dJ w,dJ h,dQ so,dK c0,dK c1,dK c2,dK ca,dK cf,dJ w0,dJ h0,dJ s0,dS n0 xs0,dJ w1,dJ h1,dJ s1,dS n1 xs1,dJ w2,dJ h2,dJ s2,dS n2 xs2,dJ w3,dJ h3,dJ s3,dS n3 xs3,dJ w4,dJ h4,dJ s4,dS n4 xs4]] (rD (dQ (Im.formed ⟨w,h,so,⟨c0,c1,c2,ca,cf⟩,⟨w0,h0,s0,n0,xs0⟩,⟨w1,h1,s1,n1,xs1⟩,⟨w2,h2,s2,n2,xs2⟩,⟨w3,h3,s3,n3,xs3⟩,⟨w4,h4,s4,n4,xs4⟩⟩))):=
 zQa (Γ:=gamI) aL zQf Tryz.func42 rfl (nL rfl) fun hwf=>by
  refine Eq.mpr (by kernel_rfl:_=(let a:=(dQ (Im.inner ⟨w,h,so,⟨c0,c1,c2,ca,cf⟩,⟨w0,h0,s0,n0,xs0⟩,⟨w1,h1,s1,n1,xs1⟩,⟨w2,h2,s2,n2,xs2⟩,⟨w3,h3,s3,n3,xs3⟩,⟨w4,h4,s4,n4,xs4⟩⟩)); let b:=(dQ (Im.formed ⟨w,h,so,⟨c0,c1,c2,ca,cf⟩,⟨w0,h0,s0,n0,xs0⟩,⟨w1,h1,s1,n1,xs1⟩,⟨w2,h2,s2,n2,xs2⟩,⟨w3,h3,s3,n3,xs3⟩,⟨w4,h4,s4,n4,xs4⟩⟩)); tU6 ((Ans prog 86 [rJ w,rJ h] (rD (dQ (zQ4 w h))))∧True∧(((zQ4 w h)=true→True∧(Ans prog 87 [rA [dJ w,dJ h,dQ so,dK c0,dK c1,dK c2,dK ca,dK cf,dJ w0,dJ h0,dJ s0,dS n0 xs0,dJ w1,dJ h1,dJ s1,dS n1 xs1,dJ w2,dJ h2,dJ s2,dS n2 xs2,dJ w3,dJ h3,dJ s3,dS n3 xs3,dJ w4,dJ h4,dJ s4,dS n4 xs4]] (rD a))∧tU2 (rD a=rD b))∧((zQ4 w h)=(!true)→tU2 (rD (dQ false)=rD b)))))) ?_
  delta dJ dK dQ dS rJ
  simp only [sS,zQn,zQp,zQ5,zQA,zZa,zZB,zZo,zXN,zQv,zQL,zQD,zQZ]
  simp [Im.formed]; grind
theorem zKO (w h:Int) (so:Bool) (c0 c1 c2 ca cf w0 h0 s0:Int) (n0:Nat) (xs0:List DV) (w1 h1 s1:Int) (n1:Nat) (xs1:List DV) (w2 h2 s2:Int) (n2:Nat) (xs2:List DV) (w3 h3 s3:Int) (n3:Nat) (xs3:List DV) (w4 h4 s4:Int) (n4:Nat) (xs4:List DV) (x y:Int) (hu:Im.isU ⟨w,h,so,⟨c0,c1,c2,ca,cf⟩,⟨w0,h0,s0,n0,xs0⟩,⟨w1,h1,s1,n1,xs1⟩,⟨w2,h2,s2,n2,xs2⟩,⟨w3,h3,s3,n3,xs3⟩,⟨w4,h4,s4,n4,xs4⟩⟩) (hf:Im.inner ⟨w,h,so,⟨c0,c1,c2,ca,cf⟩,⟨w0,h0,s0,n0,xs0⟩,⟨w1,h1,s1,n1,xs1⟩,⟨w2,h2,s2,n2,xs2⟩,⟨w3,h3,s3,n3,xs3⟩,⟨w4,h4,s4,n4,xs4⟩⟩=true) (hx:0≤x∧x < w) (hy:0≤y∧y < h):Ans prog 155 [rA [dJ w,dJ h,dQ so,dK c0,dK c1,dK c2,dK ca,dK cf,dJ w0,dJ h0,dJ s0,dS n0 xs0,dJ w1,dJ h1,dJ s1,dS n1 xs1,dJ w2,dJ h2,dJ s2,dS n2 xs2,dJ w3,dJ h3,dJ s3,dS n3 xs3,dJ w4,dJ h4,dJ s4,dS n4 xs4],rJ (x),rJ (y)] (rA [dK ((Im.px ⟨w,h,so,⟨c0,c1,c2,ca,cf⟩,⟨w0,h0,s0,n0,xs0⟩,⟨w1,h1,s1,n1,xs1⟩,⟨w2,h2,s2,n2,xs2⟩,⟨w3,h3,s3,n3,xs3⟩,⟨w4,h4,s4,n4,xs4⟩⟩ x y).a),dK ((Im.px ⟨w,h,so,⟨c0,c1,c2,ca,cf⟩,⟨w0,h0,s0,n0,xs0⟩,⟨w1,h1,s1,n1,xs1⟩,⟨w2,h2,s2,n2,xs2⟩,⟨w3,h3,s3,n3,xs3⟩,⟨w4,h4,s4,n4,xs4⟩⟩ x y).b),dK ((Im.px ⟨w,h,so,⟨c0,c1,c2,ca,cf⟩,⟨w0,h0,s0,n0,xs0⟩,⟨w1,h1,s1,n1,xs1⟩,⟨w2,h2,s2,n2,xs2⟩,⟨w3,h3,s3,n3,xs3⟩,⟨w4,h4,s4,n4,xs4⟩⟩ x y).c),dK ((Im.px ⟨w,h,so,⟨c0,c1,c2,ca,cf⟩,⟨w0,h0,s0,n0,xs0⟩,⟨w1,h1,s1,n1,xs1⟩,⟨w2,h2,s2,n2,xs2⟩,⟨w3,h3,s3,n3,xs3⟩,⟨w4,h4,s4,n4,xs4⟩⟩ x y).al),dK ((Im.px ⟨w,h,so,⟨c0,c1,c2,ca,cf⟩,⟨w0,h0,s0,n0,xs0⟩,⟨w1,h1,s1,n1,xs1⟩,⟨w2,h2,s2,n2,xs2⟩,⟨w3,h3,s3,n3,xs3⟩,⟨w4,h4,s4,n4,xs4⟩⟩ x y).f)]):=
 zQa (Γ:=gamI) (let a:=(7,aO (Cl.ptr 7 0)); let b:=(6,aO (Cl.ptr 6 0)); let g:=(aQ aL (aQ (Ann.sure true aL) aL)); let c:=(1,aJ x); let d:=(2,aJ y); let e:=(15,AV.agg [cJ w0,cJ h0,cJ s0,cD (dS n0 xs0),cJ w1,cJ h1,cJ s1,cD (dS n1 xs1),cJ w2,cJ h2,cJ s2,cD (dS n2 xs2),cJ w3,cJ h3,cJ s3,cD (dS n3 xs3),cJ w4,cJ h4,cJ s4,cD (dS n4 xs4)]); let k:=[cK 0,cK 0,cK 0,cK 0,cK 0]; let f:=(6,Bx.cells k); let h:=(dK (nAt xs0 ((wK ((wK (y*s0))+x)).toNat*1))); let i:=(dK (nAt xs1 ((wK ((wK (y*s1))+x)).toNat*1))); let j:=(dK (nAt xs2 ((wK ((wK (y*s2))+x)).toNat*1))); let l:=(dK (nAt xs3 ((wK ((wK (y*s3))+x)).toNat*1))); (aQ aL (aQ aL (aQ aL (aQ (aQ aL (Ann.link ⟨Unit,fun _u=>True,fun _u=>⟨[c,d,b,a,e,(16,aJ 0)],[f,(7,Bx.cells k)]⟩,fun _u=>0⟩ (fun _u=>g) (Ann.link ⟨Unit,fun _u=>True,fun _u=>⟨[c,d,b,a,e,(16,aJ 1)],[f,(7,bC [cD h,cK 0,cK 0,cK 0,cK 0])]⟩,fun _u=>0⟩ (fun _u=>g) (Ann.link ⟨Unit,fun _u=>True,fun _u=>⟨[c,d,b,a,e,(16,aJ 2)],[f,(7,bC [cD h,cD i,cK 0,cK 0,cK 0])]⟩,fun _u=>0⟩ (fun _u=>g) (Ann.link ⟨Unit,fun _u=>True,fun _u=>⟨[c,d,b,a,e,(16,aJ 3)],[f,(7,bC [cD h,cD i,cD j,cK 0,cK 0])]⟩,fun _u=>0⟩ (fun _u=>g) (Ann.link ⟨Unit,fun _u=>True,fun _u=>⟨[c,d,b,a,e,(16,aJ 4)],[f,(7,bC [cD h,cD i,cD j,cD l,cK 0])]⟩,fun _u=>0⟩ (fun _u=>g) (Ann.link ⟨Unit,fun _u=>True,fun _u=>⟨[c,d,b,a,e,(16,aJ 5)],[f,(7,bC [cD h,cD i,cD j,cD l,cK (nAt xs4 ((wK ((wK (y*s4))+x)).toNat*1))])]⟩,fun _u=>0⟩ (fun _u=>(aQ aL (aQ (Ann.sure false aL) aL))) aL))))))) aL))))) zQf Tryz.func155 rfl (nL rfl) fun hwf=>by
  refine Eq.mpr (by kernel_rfl:_=(let a:=((5:Nat):Int); let g:=(Im.px ⟨w,h,so,⟨c0,c1,c2,ca,cf⟩,⟨w0,h0,s0,n0,xs0⟩,⟨w1,h1,s1,n1,xs1⟩,⟨w2,h2,s2,n2,xs2⟩,⟨w3,h3,s3,n3,xs3⟩,⟨w4,h4,s4,n4,xs4⟩⟩ x y); let z:=[dK g.a,dK g.b,dK g.c,dK g.al,dK g.f]; let c:=(dJ x=dJ x); let d:=(dJ y=dJ y); let A:=[dJ w0,dJ h0,dJ s0,dS n0 xs0,dJ w1,dJ h1,dJ s1,dS n1 xs1,dJ w2,dJ h2,dJ s2,dS n2 xs2,dJ w3,dJ h3,dJ s3,dS n3 xs3,dJ w4,dJ h4,dJ s4,dS n4 xs4]; let e:=(A=A); let B:=[dK 0,dK 0,dK 0,dK 0,dK 0]; let b:=(B=B); let l:=((wK (y*s0))+x); let m:=(wK l); let f:=(nAt xs0 (m.toNat*1)); let C:=(0≤(0:Int)∧(0:Int) < a); let D:=[dK f,dK 0,dK 0,dK 0,dK 0]; let n:=((wK (y*s1))+x); let o:=(wK n); let i:=(nAt xs1 (o.toNat*1)); let E:=(0≤(1:Int)∧(1:Int) < a); let F:=[dK f,dK i,dK 0,dK 0,dK 0]; let p:=((wK (y*s2))+x); let q:=(wK p); let j:=(nAt xs2 (q.toNat*1)); let G:=(0≤(2:Int)∧(2:Int) < a); let H:=[dK f,dK i,dK j,dK 0,dK 0]; let r:=((wK (y*s3))+x); let s:=(wK r); let t:=(nAt xs3 (s.toNat*1)); let I:=(0≤(3:Int)∧(3:Int) < a); let J:=[dK f,dK i,dK j,dK t,dK 0]; let u:=((wK (y*s4))+x); let k:=(wK u); let K:=(0≤(4:Int)∧(4:Int) < a); let v:=[dK f,dK i,dK j,dK t,dK (nAt xs4 (k.toNat*1))]; tU4 ((so=true→tU3 (rA [dK c0,dK c1,dK c2,dK ca,dK cf]=rA z))∧(so=false→tU4 ((∃ _u:Unit,True∧((c∧d∧(0=0)∧(0=0)∧e∧(dJ 0=dJ 0)∧True)∧(b∧b∧True)))∧((∀ _u:Unit,True→True∧(decide ((0:Int) < 5)=true∧True∧(0≤(0:Int)∧(0:Int) < a∧(some (dJ w0)=some (dJ w0))∧(some (dJ h0)=some (dJ h0))∧(some (dJ s0)=some (dJ s0))∧(some (dS n0 xs0)=some (dS n0 xs0))∧True)∧tU4 (tU8 ((0≤wK l∧wK l < (n0:Int)∧m.toNat*1 < xs0.length)∧((xs0[m.toNat*1]?=some (dK f))∧True)∧C∧tU3 (∃ _u:Unit,True∧((c∧d∧(0=0)∧(0=0)∧e∧(dJ (wK ((0:Int)+1))=dJ 1)∧True)∧(b∧(D=D)∧True)))))))∧(∀ _u:Unit,True→True∧(decide ((1:Int) < 5)=true∧True∧(0≤(1:Int)∧(1:Int) < a∧(some (dJ w1)=some (dJ w1))∧(some (dJ h1)=some (dJ h1))∧(some (dJ s1)=some (dJ s1))∧(some (dS n1 xs1)=some (dS n1 xs1))∧True)∧tU4 (tU8 ((0≤wK n∧wK n < (n1:Int)∧o.toNat*1 < xs1.length)∧((xs1[o.toNat*1]?=some (dK i))∧True)∧E∧tU3 (∃ _u:Unit,True∧((c∧d∧(0=0)∧(0=0)∧e∧(dJ (wK ((1:Int)+1))=dJ 2)∧True)∧(b∧(F=F)∧True)))))))∧(∀ _u:Unit,True→True∧(decide ((2:Int) < 5)=true∧True∧(0≤(2:Int)∧(2:Int) < a∧(some (dJ w2)=some (dJ w2))∧(some (dJ h2)=some (dJ h2))∧(some (dJ s2)=some (dJ s2))∧(some (dS n2 xs2)=some (dS n2 xs2))∧True)∧tU4 (tU8 ((0≤wK p∧wK p < (n2:Int)∧q.toNat*1 < xs2.length)∧((xs2[q.toNat*1]?=some (dK j))∧True)∧G∧tU3 (∃ _u:Unit,True∧((c∧d∧(0=0)∧(0=0)∧e∧(dJ (wK ((2:Int)+1))=dJ 3)∧True)∧(b∧(H=H)∧True)))))))∧(∀ _u:Unit,True→True∧(decide ((3:Int) < 5)=true∧True∧(0≤(3:Int)∧(3:Int) < a∧(some (dJ w3)=some (dJ w3))∧(some (dJ h3)=some (dJ h3))∧(some (dJ s3)=some (dJ s3))∧(some (dS n3 xs3)=some (dS n3 xs3))∧True)∧tU4 (tU8 ((0≤wK r∧wK r < (n3:Int)∧s.toNat*1 < xs3.length)∧((xs3[s.toNat*1]?=some (dK t))∧True)∧I∧tU3 (∃ _u:Unit,True∧((c∧d∧(0=0)∧(0=0)∧e∧(dJ (wK ((3:Int)+1))=dJ 4)∧True)∧(b∧(J=J)∧True)))))))∧(∀ _u:Unit,True→True∧(decide ((4:Int) < 5)=true∧True∧(0≤(4:Int)∧(4:Int) < a∧(some (dJ w4)=some (dJ w4))∧(some (dJ h4)=some (dJ h4))∧(some (dJ s4)=some (dJ s4))∧(some (dS n4 xs4)=some (dS n4 xs4))∧True)∧tU4 (tU8 ((0≤wK u∧wK u < (n4:Int)∧k.toNat*1 < xs4.length)∧((xs4[k.toNat*1]?=some (dK (nAt xs4 (k.toNat*1))))∧True)∧K∧tU3 (∃ _u:Unit,True∧((c∧d∧(0=0)∧(0=0)∧e∧(dJ (wK ((4:Int)+1))=dJ 5)∧True)∧(b∧(v=v)∧True)))))))∧(∀ _u:Unit,True→True∧(decide ((5:Int) < 5)=false∧C∧True∧E∧True∧G∧tU2 (I∧True∧K∧tU3 (rA v=rA z))))∧True)))))) ?_
  delta dJ dK wK dS
  simp only [sS,zQn,zQp,zQA,zQD,zQZ,zQ7]
  cases so with
  | true=>simp [Im.px]
  | false=>
   obtain ⟨u0,u1,u2,u3,u4⟩:=hu
   obtain ⟨hc,⟨v0,e0,e0'⟩,⟨v1,e1,e1'⟩,⟨v2,e2,e2'⟩,⟨v3,e3,e3'⟩,⟨v4,e4,e4'⟩⟩:=Im.inner_planes hf rfl
   simp only at v0 e0 e0' v1 e1 e1' v2 e2 e2' v3 e3 e3' v4 e4 e4'
   obtain ⟨a0,b0,d0⟩:=zYn u0 v0 (x:=x) (y:=y) ⟨hx.1,by omega⟩ ⟨hy.1,by omega⟩
   obtain ⟨a1,b1,d1⟩:=zYn u1 v1 (x:=x) (y:=y) ⟨hx.1,by omega⟩ ⟨hy.1,by omega⟩
   obtain ⟨a2,b2,d2⟩:=zYn u2 v2 (x:=x) (y:=y) ⟨hx.1,by omega⟩ ⟨hy.1,by omega⟩
   obtain ⟨a3,b3,d3⟩:=zYn u3 v3 (x:=x) (y:=y) ⟨hx.1,by omega⟩ ⟨hy.1,by omega⟩
   obtain ⟨a4,b4,d4⟩:=zYn u4 v4 (x:=x) (y:=y) ⟨hx.1,by omega⟩ ⟨hy.1,by omega⟩
   simp only at a0 b0 d0 a1 b1 d1 a2 b2 d2 a3 b3 d3 a4 b4 d4
   simp only [Nat.mul_one] at b0 b1 b2 b3 b4 d0 d1 d2 d3 d4
   have f0:=(List.getElem?_eq_some_iff.1 d0).2
   have f1:=(List.getElem?_eq_some_iff.1 d1).2
   have f2:=(List.getElem?_eq_some_iff.1 d2).2
   have f3:=(List.getElem?_eq_some_iff.1 d3).2
   have f4:=(List.getElem?_eq_some_iff.1 d4).2
   simp [w1_,f0,f1,f2,f3,f4,a0,a1,a2,a3,a4,b0,b1,b2,b3,b4,d0,d1,d2,d3,d4,Im.px,Pl.at_]
theorem jZs (w h:Int) (so:Bool) (c0 c1 c2 ca cf w0 h0 s0:Int) (n0:Nat) (xs0:List DV) (w1 h1 s1:Int) (n1:Nat) (xs1:List DV) (w2 h2 s2:Int) (n2:Nat) (xs2:List DV) (w3 h3 s3:Int) (n3:Nat) (xs3:List DV) (w4 h4 s4:Int) (n4:Nat) (xs4:List DV) (x y:Int) (hu:Im.isU ⟨w,h,so,⟨c0,c1,c2,ca,cf⟩,⟨w0,h0,s0,n0,xs0⟩,⟨w1,h1,s1,n1,xs1⟩,⟨w2,h2,s2,n2,xs2⟩,⟨w3,h3,s3,n3,xs3⟩,⟨w4,h4,s4,n4,xs4⟩⟩) (hf:Im.inner ⟨w,h,so,⟨c0,c1,c2,ca,cf⟩,⟨w0,h0,s0,n0,xs0⟩,⟨w1,h1,s1,n1,xs1⟩,⟨w2,h2,s2,n2,xs2⟩,⟨w3,h3,s3,n3,xs3⟩,⟨w4,h4,s4,n4,xs4⟩⟩=true) (hx:0≤x∧x < w) (hy:0≤y∧y < h):Ans prog 43 [rA [dJ w,dJ h,dQ so,dK c0,dK c1,dK c2,dK ca,dK cf,dJ w0,dJ h0,dJ s0,dS n0 xs0,dJ w1,dJ h1,dJ s1,dS n1 xs1,dJ w2,dJ h2,dJ s2,dS n2 xs2,dJ w3,dJ h3,dJ s3,dS n3 xs3,dJ w4,dJ h4,dJ s4,dS n4 xs4],rJ (x),rJ (y)] (rA [dK ((Im.px ⟨w,h,so,⟨c0,c1,c2,ca,cf⟩,⟨w0,h0,s0,n0,xs0⟩,⟨w1,h1,s1,n1,xs1⟩,⟨w2,h2,s2,n2,xs2⟩,⟨w3,h3,s3,n3,xs3⟩,⟨w4,h4,s4,n4,xs4⟩⟩ x y).a),dK ((Im.px ⟨w,h,so,⟨c0,c1,c2,ca,cf⟩,⟨w0,h0,s0,n0,xs0⟩,⟨w1,h1,s1,n1,xs1⟩,⟨w2,h2,s2,n2,xs2⟩,⟨w3,h3,s3,n3,xs3⟩,⟨w4,h4,s4,n4,xs4⟩⟩ x y).b),dK ((Im.px ⟨w,h,so,⟨c0,c1,c2,ca,cf⟩,⟨w0,h0,s0,n0,xs0⟩,⟨w1,h1,s1,n1,xs1⟩,⟨w2,h2,s2,n2,xs2⟩,⟨w3,h3,s3,n3,xs3⟩,⟨w4,h4,s4,n4,xs4⟩⟩ x y).c),dK ((Im.px ⟨w,h,so,⟨c0,c1,c2,ca,cf⟩,⟨w0,h0,s0,n0,xs0⟩,⟨w1,h1,s1,n1,xs1⟩,⟨w2,h2,s2,n2,xs2⟩,⟨w3,h3,s3,n3,xs3⟩,⟨w4,h4,s4,n4,xs4⟩⟩ x y).al),dK ((Im.px ⟨w,h,so,⟨c0,c1,c2,ca,cf⟩,⟨w0,h0,s0,n0,xs0⟩,⟨w1,h1,s1,n1,xs1⟩,⟨w2,h2,s2,n2,xs2⟩,⟨w3,h3,s3,n3,xs3⟩,⟨w4,h4,s4,n4,xs4⟩⟩ x y).f)]):=
 zQa (Γ:=gamI) (let a:=(7,aO (Cl.ptr 7 0)); let b:=(6,aO (Cl.ptr 6 0)); let c:=(3,aO (Cl.ptr 3 0)); let i:=(aQ (aQ aL (Ann.sure true aL)) aL); let d:=(1,aJ x); let e:=(2,aJ y); let f:=(3,bC [cJ w,cJ h,cD (dQ so),cK c0,cK c1,cK c2,cK ca,cK cf,cJ w0,cJ h0,cJ s0,cD (dS n0 xs0),cJ w1,cJ h1,cJ s1,cD (dS n1 xs1),cJ w2,cJ h2,cJ s2,cD (dS n2 xs2),cJ w3,cJ h3,cJ s3,cD (dS n3 xs3),cJ w4,cJ h4,cJ s4,cD (dS n4 xs4)]); let g:=(6,bC [cK 0,cK 0,cK 0,cK 0,cK 0]); let j:=(dJ (wK ((wK (y*s0))+x))); let k:=(dJ (wK ((wK (y*s1))+x))); let l:=(dJ (wK ((wK (y*s2))+x))); let m:=(dJ (wK ((wK (y*s3))+x))); (aQ aL (aQ aL (aQ aL (aQ (aQ aL (Ann.link ⟨Unit,fun _u=>True,fun _u=>⟨[d,e,c,b,a,(8,aJ 0)],[f,g,(7,bC [cJ 0,cJ 0,cJ 0,cJ 0,cJ 0])]⟩,fun _u=>0⟩ (fun _u=>i) (Ann.link ⟨Unit,fun _u=>True,fun _u=>⟨[d,e,c,b,a,(8,aJ 1)],[f,g,(7,bC [cD j,cJ 0,cJ 0,cJ 0,cJ 0])]⟩,fun _u=>0⟩ (fun _u=>i) (Ann.link ⟨Unit,fun _u=>True,fun _u=>⟨[d,e,c,b,a,(8,aJ 2)],[f,g,(7,bC [cD j,cD k,cJ 0,cJ 0,cJ 0])]⟩,fun _u=>0⟩ (fun _u=>i) (Ann.link ⟨Unit,fun _u=>True,fun _u=>⟨[d,e,c,b,a,(8,aJ 3)],[f,g,(7,bC [cD j,cD k,cD l,cJ 0,cJ 0])]⟩,fun _u=>0⟩ (fun _u=>i) (Ann.link ⟨Unit,fun _u=>True,fun _u=>⟨[d,e,c,b,a,(8,aJ 4)],[f,g,(7,bC [cD j,cD k,cD l,cD m,cJ 0])]⟩,fun _u=>0⟩ (fun _u=>i) (Ann.link ⟨Unit,fun _u=>True,fun _u=>⟨[d,e,c,b,a,(8,aJ 5)],[f,g,(7,bC [cD j,cD k,cD l,cD m,cJ (wK ((wK (y*s4))+x))])]⟩,fun _u=>0⟩ (fun _u=>(aQ (aQ aL (Ann.sure false aL)) aL)) aL))))))) aL))))) zQf Tryz.func43 rfl (nL rfl) fun hwf=>by
  refine Eq.mpr (by kernel_rfl:_=(let j:=((5:Nat):Int); let k:=(Im.px ⟨w,h,so,⟨c0,c1,c2,ca,cf⟩,⟨w0,h0,s0,n0,xs0⟩,⟨w1,h1,s1,n1,xs1⟩,⟨w2,h2,s2,n2,xs2⟩,⟨w3,h3,s3,n3,xs3⟩,⟨w4,h4,s4,n4,xs4⟩⟩ x y); let z:=[dK k.a,dK k.b,dK k.c,dK k.al,dK k.f]; let d:=(dJ x=dJ x); let e:=(dJ y=dJ y); let A:=[dJ w,dJ h,dQ so,dK c0,dK c1,dK c2,dK ca,dK cf,dJ w0,dJ h0,dJ s0,dS n0 xs0,dJ w1,dJ h1,dJ s1,dS n1 xs1,dJ w2,dJ h2,dJ s2,dS n2 xs2,dJ w3,dJ h3,dJ s3,dS n3 xs3,dJ w4,dJ h4,dJ s4,dS n4 xs4]; let f:=(A=A); let B:=[dK 0,dK 0,dK 0,dK 0,dK 0]; let g:=(B=B); let C:=[dJ 0,dJ 0,dJ 0,dJ 0,dJ 0]; let m:=(0≤(0:Int)∧(0:Int) < j); let r:=((wK (y*s0))+x); let a:=(wK r); let D:=[dJ a,dJ 0,dJ 0,dJ 0,dJ 0]; let n:=(0≤(1:Int)∧(1:Int) < j); let s:=((wK (y*s1))+x); let b:=(wK s); let E:=[dJ a,dJ b,dJ 0,dJ 0,dJ 0]; let o:=(0≤(2:Int)∧(2:Int) < j); let t:=((wK (y*s2))+x); let c:=(wK t); let F:=[dJ a,dJ b,dJ c,dJ 0,dJ 0]; let p:=(0≤(3:Int)∧(3:Int) < j); let u:=((wK (y*s3))+x); let i:=(wK u); let G:=[dJ a,dJ b,dJ c,dJ i,dJ 0]; let q:=(0≤(4:Int)∧(4:Int) < j); let v:=((wK (y*s4))+x); let l:=(wK v); let H:=[dJ a,dJ b,dJ c,dJ i,dJ l]; tU4 ((so=true→tU3 (rA [dK c0,dK c1,dK c2,dK ca,dK cf]=rA z))∧(so=false→tU4 ((∃ _u:Unit,True∧((d∧e∧(0=0)∧(0=0)∧(0=0)∧(dJ 0=dJ 0)∧True)∧(f∧g∧(C=C)∧True)))∧((∀ _u:Unit,True→tU2 (decide ((0:Int) < 5)=true∧tU4 (m∧tU5 (m∧tU4 (∃ _u:Unit,True∧((d∧e∧(0=0)∧(0=0)∧(0=0)∧(dJ (wK ((0:Int)+1))=dJ 1)∧True)∧(f∧g∧(D=D)∧True)))))))∧(∀ _u:Unit,True→tU2 (decide ((1:Int) < 5)=true∧tU4 (n∧tU5 (n∧tU4 (∃ _u:Unit,True∧((d∧e∧(0=0)∧(0=0)∧(0=0)∧(dJ (wK ((1:Int)+1))=dJ 2)∧True)∧(f∧g∧(E=E)∧True)))))))∧(∀ _u:Unit,True→tU2 (decide ((2:Int) < 5)=true∧tU4 (o∧tU5 (o∧tU4 (∃ _u:Unit,True∧((d∧e∧(0=0)∧(0=0)∧(0=0)∧(dJ (wK ((2:Int)+1))=dJ 3)∧True)∧(f∧g∧(F=F)∧True)))))))∧(∀ _u:Unit,True→tU2 (decide ((3:Int) < 5)=true∧tU4 (p∧tU5 (p∧tU4 (∃ _u:Unit,True∧((d∧e∧(0=0)∧(0=0)∧(0=0)∧(dJ (wK ((3:Int)+1))=dJ 4)∧True)∧(f∧g∧(G=G)∧True)))))))∧(∀ _u:Unit,True→tU2 (decide ((4:Int) < 5)=true∧tU4 (q∧tU5 (q∧tU4 (∃ _u:Unit,True∧((d∧e∧(0=0)∧(0=0)∧(0=0)∧(dJ (wK ((4:Int)+1))=dJ 5)∧True)∧(f∧g∧(H=H)∧True)))))))∧(∀ _u:Unit,True→tU2 (decide ((5:Int) < 5)=false∧True∧m∧tU2 (m∧True∧(0≤wK r∧wK r < (n0:Int)∧a.toNat*1 < xs0.length)∧((xs0[a.toNat*1]?=some (dK (nAt xs0 (a.toNat*1))))∧True)∧True∧n∧tU2 (n∧True∧(0≤wK s∧wK s < (n1:Int)∧b.toNat*1 < xs1.length)∧((xs1[b.toNat*1]?=some (dK (nAt xs1 (b.toNat*1))))∧True)∧True∧o∧tU2 (o∧True∧(0≤wK t∧wK t < (n2:Int)∧c.toNat*1 < xs2.length)∧((xs2[c.toNat*1]?=some (dK (nAt xs2 (c.toNat*1))))∧True)∧tU2 (p∧tU2 (p∧True∧(0≤wK u∧wK u < (n3:Int)∧i.toNat*1 < xs3.length)∧((xs3[i.toNat*1]?=some (dK (nAt xs3 (i.toNat*1))))∧True)∧True∧q∧tU2 (q∧True∧(0≤wK v∧wK v < (n4:Int)∧l.toNat*1 < xs4.length)∧((xs4[l.toNat*1]?=some (dK (nAt xs4 (l.toNat*1))))∧True)∧tU2 ((true=true)∧rA [dK (nAt xs0 (a.toNat*1)),dK (nAt xs1 (b.toNat*1)),dK (nAt xs2 (c.toNat*1)),dK (nAt xs3 (i.toNat*1)),dK (nAt xs4 (l.toNat*1))]=rA z)))))))))∧True)))))) ?_
  delta dJ dK dQ wK dS
  simp only [sS,zQn,zQp,zQA,zQD,zQZ,zQ7]
  cases so with
  | true=>simp [Im.px]
  | false=>
   obtain ⟨u0,u1,u2,u3,u4⟩:=hu
   obtain ⟨hc,⟨v0,e0,e0'⟩,⟨v1,e1,e1'⟩,⟨v2,e2,e2'⟩,⟨v3,e3,e3'⟩,⟨v4,e4,e4'⟩⟩:=Im.inner_planes hf rfl
   simp only at v0 e0 e0' v1 e1 e1' v2 e2 e2' v3 e3 e3' v4 e4 e4'
   obtain ⟨a0,b0,d0⟩:=zYn u0 v0 (x:=x) (y:=y) ⟨hx.1,by omega⟩ ⟨hy.1,by omega⟩
   obtain ⟨a1,b1,d1⟩:=zYn u1 v1 (x:=x) (y:=y) ⟨hx.1,by omega⟩ ⟨hy.1,by omega⟩
   obtain ⟨a2,b2,d2⟩:=zYn u2 v2 (x:=x) (y:=y) ⟨hx.1,by omega⟩ ⟨hy.1,by omega⟩
   obtain ⟨a3,b3,d3⟩:=zYn u3 v3 (x:=x) (y:=y) ⟨hx.1,by omega⟩ ⟨hy.1,by omega⟩
   obtain ⟨a4,b4,d4⟩:=zYn u4 v4 (x:=x) (y:=y) ⟨hx.1,by omega⟩ ⟨hy.1,by omega⟩
   simp only at a0 b0 d0 a1 b1 d1 a2 b2 d2 a3 b3 d3 a4 b4 d4
   simp only [Nat.mul_one] at b0 b1 b2 b3 b4 d0 d1 d2 d3 d4
   have f0:=(List.getElem?_eq_some_iff.1 d0).2
   have f1:=(List.getElem?_eq_some_iff.1 d1).2
   have f2:=(List.getElem?_eq_some_iff.1 d2).2
   have f3:=(List.getElem?_eq_some_iff.1 d3).2
   have f4:=(List.getElem?_eq_some_iff.1 d4).2
   simp [w1_,f0,f1,f2,f3,f4,a0,a1,a2,a3,a4,b0,b1,b2,b3,b4,d0,d1,d2,d3,d4,Im.px,Pl.at_]
theorem zZE (w h:Int) (so:Bool) (c0 c1 c2 ca cf w0 h0 s0:Int) (n0:Nat) (xs0:List DV) (w1 h1 s1:Int) (n1:Nat) (xs1:List DV) (w2 h2 s2:Int) (n2:Nat) (xs2:List DV) (w3 h3 s3:Int) (n3:Nat) (xs3:List DV) (w4 h4 s4:Int) (n4:Nat) (xs4:List DV):Ans prog 153 [rA [dJ w,dJ h,dQ so,dK c0,dK c1,dK c2,dK ca,dK cf,dJ w0,dJ h0,dJ s0,dS n0 xs0,dJ w1,dJ h1,dJ s1,dS n1 xs1,dJ w2,dJ h2,dJ s2,dS n2 xs2,dJ w3,dJ h3,dJ s3,dS n3 xs3,dJ w4,dJ h4,dJ s4,dS n4 xs4]] (rJ ((Im.shape ⟨w,h,so,⟨c0,c1,c2,ca,cf⟩,⟨w0,h0,s0,n0,xs0⟩,⟨w1,h1,s1,n1,xs1⟩,⟨w2,h2,s2,n2,xs2⟩,⟨w3,h3,s3,n3,xs3⟩,⟨w4,h4,s4,n4,xs4⟩⟩))):=
 zQa (Γ:=gamI) aL zQf Tryz.func153 rfl (nL rfl) fun hwf=>by
  refine Eq.mpr (by kernel_rfl:_=(let a:=(dJ (Im.shape ⟨w,h,so,⟨c0,c1,c2,ca,cf⟩,⟨w0,h0,s0,n0,xs0⟩,⟨w1,h1,s1,n1,xs1⟩,⟨w2,h2,s2,n2,xs2⟩,⟨w3,h3,s3,n3,xs3⟩,⟨w4,h4,s4,n4,xs4⟩⟩)); let b:=(Im.formed ⟨w,h,so,⟨c0,c1,c2,ca,cf⟩,⟨w0,h0,s0,n0,xs0⟩,⟨w1,h1,s1,n1,xs1⟩,⟨w2,h2,s2,n2,xs2⟩,⟨w3,h3,s3,n3,xs3⟩,⟨w4,h4,s4,n4,xs4⟩⟩); tU6 ((Ans prog 83 [rJ w,rJ h] (rD (dQ (zQ4 w h))))∧tU2 (((!(zQ4 w h))=true→True∧rJ 6=rD a)∧((!(zQ4 w h))=false→True∧(Ans prog 208 [rA [dJ w,dJ h,dQ so,dK c0,dK c1,dK c2,dK ca,dK cf,dJ w0,dJ h0,dJ s0,dS n0 xs0,dJ w1,dJ h1,dJ s1,dS n1 xs1,dJ w2,dJ h2,dJ s2,dS n2 xs2,dJ w3,dJ h3,dJ s3,dS n3 xs3,dJ w4,dJ h4,dJ s4,dS n4 xs4]] (rD (dQ b)))∧tU2 (((!b)=true→True∧rJ 7=rD a)∧((!b)=false→True∧rJ 0=rD a))))))) ?_
  delta dJ dK dQ dS rJ
  simp only [sS,zQn,zQp,zQA,zQD,zQZ,zQ7]
  simp [Im.shape,Im.formed]; (repeat' (first | apply And.intro | intro)) <;> (first | assumption | (simp_all; done) | grind)
theorem jZt (w h c0 c1 c2 ca cf:Int):Ans prog 33 [rJ (w),rJ (h),rA [dK c0,dK c1,dK c2,dK ca,dK cf]] (rA [dJ ((zQd w h ⟨c0,c1,c2,ca,cf⟩).w),dJ ((zQd w h ⟨c0,c1,c2,ca,cf⟩).h),dQ ((zQd w h ⟨c0,c1,c2,ca,cf⟩).so),dK (((zQd w h ⟨c0,c1,c2,ca,cf⟩).c).a),dK (((zQd w h ⟨c0,c1,c2,ca,cf⟩).c).b),dK (((zQd w h ⟨c0,c1,c2,ca,cf⟩).c).c),dK (((zQd w h ⟨c0,c1,c2,ca,cf⟩).c).al),dK (((zQd w h ⟨c0,c1,c2,ca,cf⟩).c).f),dJ (((zQd w h ⟨c0,c1,c2,ca,cf⟩).p0).w),dJ (((zQd w h ⟨c0,c1,c2,ca,cf⟩).p0).h),dJ (((zQd w h ⟨c0,c1,c2,ca,cf⟩).p0).s),dS (((zQd w h ⟨c0,c1,c2,ca,cf⟩).p0).n) (((zQd w h ⟨c0,c1,c2,ca,cf⟩).p0).xs),dJ (((zQd w h ⟨c0,c1,c2,ca,cf⟩).p1).w),dJ (((zQd w h ⟨c0,c1,c2,ca,cf⟩).p1).h),dJ (((zQd w h ⟨c0,c1,c2,ca,cf⟩).p1).s),dS (((zQd w h ⟨c0,c1,c2,ca,cf⟩).p1).n) (((zQd w h ⟨c0,c1,c2,ca,cf⟩).p1).xs),dJ (((zQd w h ⟨c0,c1,c2,ca,cf⟩).p2).w),dJ (((zQd w h ⟨c0,c1,c2,ca,cf⟩).p2).h),dJ (((zQd w h ⟨c0,c1,c2,ca,cf⟩).p2).s),dS (((zQd w h ⟨c0,c1,c2,ca,cf⟩).p2).n) (((zQd w h ⟨c0,c1,c2,ca,cf⟩).p2).xs),dJ (((zQd w h ⟨c0,c1,c2,ca,cf⟩).p3).w),dJ (((zQd w h ⟨c0,c1,c2,ca,cf⟩).p3).h),dJ (((zQd w h ⟨c0,c1,c2,ca,cf⟩).p3).s),dS (((zQd w h ⟨c0,c1,c2,ca,cf⟩).p3).n) (((zQd w h ⟨c0,c1,c2,ca,cf⟩).p3).xs),dJ (((zQd w h ⟨c0,c1,c2,ca,cf⟩).p4).w),dJ (((zQd w h ⟨c0,c1,c2,ca,cf⟩).p4).h),dJ (((zQd w h ⟨c0,c1,c2,ca,cf⟩).p4).s),dS (((zQd w h ⟨c0,c1,c2,ca,cf⟩).p4).n) (((zQd w h ⟨c0,c1,c2,ca,cf⟩).p4).xs)]):=
 zQa (Γ:=gamI) aL zQf Tryz.func33 rfl (nL rfl) fun hwf=>by
  refine Eq.mpr (by kernel_rfl:_=(tU7 (rA [dJ w,dJ h,dQ true,dK c0,dK c1,dK c2,dK ca,dK cf,dJ 0,dJ 0,dJ 0,dS 0 ([]),dJ 0,dJ 0,dJ 0,dS 0 ([]),dJ 0,dJ 0,dJ 0,dS 0 ([]),dJ 0,dJ 0,dJ 0,dS 0 ([]),dJ 0,dJ 0,dJ 0,dS 0 ([])]=(let aA:=(zQd w h ⟨c0,c1,c2,ca,cf⟩); rA [dJ aA.w,dJ aA.h,dQ aA.so,dK aA.c.a,dK aA.c.b,dK aA.c.c,dK aA.c.al,dK aA.c.f,dJ aA.p0.w,dJ aA.p0.h,dJ aA.p0.s,dS aA.p0.n aA.p0.xs,dJ aA.p1.w,dJ aA.p1.h,dJ aA.p1.s,dS aA.p1.n aA.p1.xs,dJ aA.p2.w,dJ aA.p2.h,dJ aA.p2.s,dS aA.p2.n aA.p2.xs,dJ aA.p3.w,dJ aA.p3.h,dJ aA.p3.s,dS aA.p3.n aA.p3.xs,dJ aA.p4.w,dJ aA.p4.h,dJ aA.p4.s,dS aA.p4.n aA.p4.xs])))) ?_
  delta dJ dK dQ dS
  simp only [sS,zQn,zQp,zQA,zQD,zQZ,zQ7,zZE]
  simp [zQd,Pl.none,Px.zero]
end
section
attribute [local go_sem] Oper.semAt_some
theorem jYR {w:World} {a b:Bool × List DV} {l:Array Value} (h:jXR w [a,b] l.toList):∃ x y,l=#[x,y]∧jJG w a x∧jJG w b y:=by
 obtain ⟨l⟩:=l
 match l,h with
 | [x,y],h=>exact ⟨x,y,rfl,h.1,h.2.1⟩
theorem jZl {w:World} {n:Int} {v:Value} (h:jJG w (true,[.int .i64 n]) v):∃ g,v=.pointer (some ⟨g,0,none⟩)∧w.cell? ⟨g,0,none⟩=some (.int .i64 n):=by
 obtain ⟨g,e,h⟩:=h
 obtain ⟨u,hu,hc⟩:=h 0 _ rfl
 simp [DV.plain] at hu
 subst hu
 exact ⟨g,e,hc⟩
theorem RoundIn.any {n:Nat} {P:Program} {l:Nat} {f:FuncId} {tmps:Array Value} {assign body:Code} {w:World} {R:Ending→World→Prop} (h:RoundIn Fence.wide n P l f tmps assign body w R) (m:Nat):RoundIn Fence.wide m P l f tmps assign body w R:=
 ⟨h.1,fun c cs _=>h.2 c cs (room_wide _)⟩
set_option maxRecDepth 100000 in
set_option maxHeartbeats 2000000 in
theorem jYl (h w:Int) (hh:h≤16777216) (hw:w≤16777216):AnsI prog 209 [(true,[DV.int .i64 h]),(true,[DV.int .i64 w])] (w.toNat*h.toNat) (fun k=>[DV.int .i64 ((k % w.toNat:Nat):Int),DV.int .i64 ((k / w.toNat:Nat):Int)]):=by
 intro lb l m J Jx hcap hd hdx hround W hJ
 obtain ⟨a,b,rfl,ha,hb⟩:=jYR (hcap 0 W hJ)
 obtain ⟨gh,rfl,hch⟩:=jZl ha
 obtain ⟨gw,rfl,hcw⟩:=jZl hb
 have hc:∀ k W,J k W→W.cell? ⟨gh,0,none⟩=some (.int .i64 h)∧W.cell? ⟨gw,0,none⟩=some (.int .i64 w):=fun k W hk=>by
  obtain ⟨a,b,e,ha,hb⟩:=jYR (hcap k W hk)
  obtain ⟨g1,rfl,h1⟩:=jZl ha
  obtain ⟨g2,rfl,h2⟩:=jZl hb
  simp at e
  obtain ⟨rfl,rfl⟩:=e
  exact ⟨h1,h2⟩
 refine callsIn_of_wp Tryz.func209 rfl trivial ?_ rfl
 simp only [Tryz.ntmps209,List.size_toArray,List.length_cons,List.length_nil,Nat.reduceAdd,Nat.reduceSub,Array.replicate_succ,Array.replicate_zero,List.push_toArray,List.append_toArray,List.nil_append,List.cons_append]
 gi_wp2
 gi_loopg [7] (h.toNat) (fun g t7 wr=>∃ y:Nat,y≤h.toNat∧g=h.toNat - y∧t7=.int .i64 (y:Int)∧J (y*w.toNat) wr)
 case atStart=>exact ⟨0,by omega,by omega,rfl,by simpa using hJ⟩
 obtain ⟨y,hy,rfl,rfl,hJy⟩:=hrel
 have hc1:=(hc _ _ hJy).1
 have hc2:=(hc _ _ hJy).2
 by_cases hlt:(y:Int) < h
 ·gi_wp2
  gi_loopg [11] (w.toNat) (fun g t11 wr=>∃ x:Nat,x≤w.toNat∧g=w.toNat - x∧t11=.int .i64 (x:Int)∧J (y*w.toNat+x) wr)
  case atStart=>exact ⟨0,by omega,by omega,rfl,hJy⟩
  obtain ⟨x,hx,rfl,rfl,hJx⟩:=hrel
  by_cases hlx:(x:Int) < w
  ·have hW:0 < w.toNat:=by omega
   have hk:y*w.toNat+x < w.toNat*h.toNat:=by
    have h1:(y+1)*w.toNat≤h.toNat*w.toNat:=Nat.mul_le_mul_right _ (by omega)
    rw [Nat.mul_comm w.toNat,Nat.add_mul] at *
    omega
   have e1:(y*w.toNat+x) % w.toNat=x:=by rw [Nat.add_comm,Nat.add_mul_mod_self_right,Nat.mod_eq_of_lt (by omega)]
   have e2:(y*w.toNat+x) / w.toNat=y:=by rw [Nat.add_comm,Nat.add_mul_div_right _ _ hW,Nat.div_eq_of_lt (by omega),Nat.zero_add]
   have hY:=hround _ _ hk hJx
   simp only [e1,e2,zG3,List.map_cons,List.map_nil,DV.plain,Option.getD_some] at hY
   obtain ⟨f1,t1,a1,b1,hy1,hR1⟩:=hY
   gi_wp2
   refine ⟨fun h=>by (cases h),(RoundIn.any hR1 _).mono ?_⟩
   rintro e W1 (⟨rfl,hJ1⟩ | ⟨rfl,hx1⟩)
   ·have w1:wrap .i64 ((x:Int)+1)=((x+1:Nat):Int):=by rw [IntWalk.i64_in _ ⟨by omega,by omega⟩]; omega
    gi_wp2
    gi_roundg (w.toNat - (x+1))
    ·exact ⟨x+1,by omega,rfl,by simp,hJ1⟩
    ·omega
   ·gi_wp2
    refine bodyPost_ret (results_none rfl _ _ _) rfl ?_
    exact ⟨⟨_,rfl⟩,.inr hx1⟩
  ·gi_wp2
   gi_roundg (h.toNat - (y+1))
   ·have hx':x=w.toNat:=by omega
    exact ⟨y+1,by omega,rfl,by simp,by rw [Nat.add_mul,Nat.one_mul]; rw [hx'] at hJx; exact hJx⟩
   ·omega
 ·have hy':y=h.toNat:=by omega
  gi_wp2
  go_end0
  exact ⟨⟨_,rfl⟩,.inl (by rw [Nat.mul_comm,← hy']; exact hJy)⟩
end
section
attribute [local irreducible] Ans AnsO AnsG AnsN AnsI
theorem zYG (w h:Int):AnsG prog 154 0 [aJ ((w)),aJ ((h))] [] ⟨aO (Cl.clo 209 [Cap.ptr 0 0,Cap.ptr 1 0]),[bC [cJ (h)],bC [cJ (w)]],false⟩:=
 zZp (Γ:=gamI) aL zQf Tryz.func154 rfl (nL rfl) rfl fun hwf hbx=>by
  refine Eq.mpr (by kernel_rfl:_=(tU5 (((((0=0)∧(0=0)∧True)∧True)∧(([dJ h]=[dJ h])∧([dJ w]=[dJ w])∧True))∧zQC ⟨aO (Cl.clo 209 [Cap.ptr 0 0,Cap.ptr 1 0]),[bC [cJ h],bC [cJ w]],false⟩))) ?_
  delta dJ cJ bC
  simp only [sS,zQn,zQp,zQA,zQv,zQL,zQD,zQZ,zQ7,zZE]
  simp [zQC]
theorem zGP (w h:Int) (so:Bool) (c0 c1 c2 ca cf w0 h0 s0:Int) (n0:Nat) (xs0:List DV) (w1 h1 s1:Int) (n1:Nat) (xs1:List DV) (w2 h2 s2:Int) (n2:Nat) (xs2:List DV) (w3 h3 s3:Int) (n3:Nat) (xs3:List DV) (w4 h4 s4:Int) (n4:Nat) (xs4:List DV) (most:Int) (hu:Im.isU ⟨w,h,so,⟨c0,c1,c2,ca,cf⟩,⟨w0,h0,s0,n0,xs0⟩,⟨w1,h1,s1,n1,xs1⟩,⟨w2,h2,s2,n2,xs2⟩,⟨w3,h3,s3,n3,xs3⟩,⟨w4,h4,s4,n4,xs4⟩⟩):Ans prog 76 [rA [dJ w,dJ h,dQ so,dK c0,dK c1,dK c2,dK ca,dK cf,dJ w0,dJ h0,dJ s0,dS n0 xs0,dJ w1,dJ h1,dJ s1,dS n1 xs1,dJ w2,dJ h2,dJ s2,dS n2 xs2,dJ w3,dJ h3,dJ s3,dS n3 xs3,dJ w4,dJ h4,dJ s4,dS n4 xs4],rD (dK most)] (rJ ((Im.valid ⟨w,h,so,⟨c0,c1,c2,ca,cf⟩,⟨w0,h0,s0,n0,xs0⟩,⟨w1,h1,s1,n1,xs1⟩,⟨w2,h2,s2,n2,xs2⟩,⟨w3,h3,s3,n3,xs3⟩,⟨w4,h4,s4,n4,xs4⟩⟩ most))):=
 zQa (Γ:=gamI) (aQ aL (aQ aL (aQ aL (aQ (aQ aL (Ann.range ⟨Nat,fun k=>k≤(w.toNat*h.toNat)∧Im.okTo ⟨w,h,so,⟨c0,c1,c2,ca,cf⟩,⟨w0,h0,s0,n0,xs0⟩,⟨w1,h1,s1,n1,xs1⟩,⟨w2,h2,s2,n2,xs2⟩,⟨w3,h3,s3,n3,xs3⟩,⟨w4,h4,s4,n4,xs4⟩⟩ most k=true,fun k=>⟨[(2,aO (Cl.ptr 2 0)),(3,aO (Cl.ptr 3 0)),(4,aO (Cl.ptr 4 0)),(24,aO (Cl.clo 209 [Cap.ptr 1024 0,Cap.ptr 2024 0]))],[(2,bC [cJ w,cJ h,cD (dQ so),cK c0,cK c1,cK c2,cK ca,cK cf,cJ w0,cJ h0,cJ s0,cD (dS n0 xs0),cJ w1,cJ h1,cJ s1,cD (dS n1 xs1),cJ w2,cJ h2,cJ s2,cD (dS n2 xs2),cJ w3,cJ h3,cJ s3,cD (dS n3 xs3),cJ w4,cJ h4,cJ s4,cD (dS n4 xs4)]),(3,bC [cK most]),(4,bC [cJ 0]),(1024,bC [cJ h]),(2024,bC [cJ w])]⟩,fun k=>k⟩ [2,3,4,24] (fun k=>aL) (fun k=>aL))) aL)))) zQf Tryz.func76 rfl (nL rfl) fun hwf=>by
  refine Eq.mpr (by kernel_rfl:_=(let l:=[(true,[dJ h]),(true,[dJ w])]; let d:=(w.toNat*h.toNat); let g:=[dJ w,dJ h,dQ so,dK c0,dK c1,dK c2,dK ca,dK cf,dJ w0,dJ h0,dJ s0,dS n0 xs0,dJ w1,dJ h1,dJ s1,dS n1 xs1,dJ w2,dJ h2,dJ s2,dS n2 xs2,dJ w3,dJ h3,dJ s3,dS n3 xs3,dJ w4,dJ h4,dJ s4,dS n4 xs4]; let o:=(Im.shape ⟨w,h,so,⟨c0,c1,c2,ca,cf⟩,⟨w0,h0,s0,n0,xs0⟩,⟨w1,h1,s1,n1,xs1⟩,⟨w2,h2,s2,n2,xs2⟩,⟨w3,h3,s3,n3,xs3⟩,⟨w4,h4,s4,n4,xs4⟩⟩); let p:=(dJ o); let q:=(o != 0); let e:=(dJ (Im.valid ⟨w,h,so,⟨c0,c1,c2,ca,cf⟩,⟨w0,h0,s0,n0,xs0⟩,⟨w1,h1,s1,n1,xs1⟩,⟨w2,h2,s2,n2,xs2⟩,⟨w3,h3,s3,n3,xs3⟩,⟨w4,h4,s4,n4,xs4⟩⟩ most)); let m:=(Px.ok ⟨c0,c1,c2,ca,cf⟩ most); let n:=fun (_k:Nat)=>[dJ ((_k % w.toNat:Nat):Int),dJ ((_k / w.toNat:Nat):Int)]; let r:=fun (k:Nat)=>(k≤d∧Im.okTo ⟨w,h,so,⟨c0,c1,c2,ca,cf⟩,⟨w0,h0,s0,n0,xs0⟩,⟨w1,h1,s1,n1,xs1⟩,⟨w2,h2,s2,n2,xs2⟩,⟨w3,h3,s3,n3,xs3⟩,⟨w4,h4,s4,n4,xs4⟩⟩ most k=true); let s:=(((0=0)∧(0=0)∧(0=0)∧((0=0)∧(0=0)∧True)∧True)∧((g=g)∧([dK most]=[dK most])∧([dJ 0]=[dJ 0])∧([dJ h]=[dJ h])∧([dJ w]=[dJ w])∧True)); let t:=fun (k:Nat)=>(let aA:=(Im.px ⟨w,h,so,⟨c0,c1,c2,ca,cf⟩,⟨w0,h0,s0,n0,xs0⟩,⟨w1,h1,s1,n1,xs1⟩,⟨w2,h2,s2,n2,xs2⟩,⟨w3,h3,s3,n3,xs3⟩,⟨w4,h4,s4,n4,xs4⟩⟩ ((k % w.toNat:Nat):Int) ((k / w.toNat:Nat):Int)); [dK aA.a,dK aA.b,dK aA.c,dK aA.al,dK aA.f]); tU4 ((Ans prog 153 [rA g] (rD p))∧tU3 ((q=true→tU2 (rD p=rD e))∧(q=false→tU2 ((so=true→tU3 ((Ans prog 117 [rA [dK c0,dK c1,dK c2,dK ca,dK cf],rD (dK most)] (rD (dQ m)))∧True∧(((!m)=true→True∧rJ 8=rD e)∧((!m)=false→True∧rJ 0=rD e))))∧(so=false→tU4 ((AnsG prog 154 0 [aJ w,aJ h] [] ⟨aO (Cl.clo 209 [Cap.ptr 0 0,Cap.ptr 1 0]),[bC [cJ h],bC [cJ w]],false⟩)∧(AnsI prog 209 l d (fun _k=>(n _k)))∧(∀ _k,_k < d→(n _k).length=2∧zWa (n _k))∧(∃ k:Nat,(r k)∧(k=0)∧s)∧(∀ k:Nat,let i:=((k / w.toNat:Nat):Int); let j:=((k % w.toNat:Nat):Int); (r k)→((some l:Option (List (Bool × List DV)))=some l)∧(k < d→tU5 ((Ans prog 155 [rA g,rJ j,rJ i] (rA (t k)))∧True∧(Ans prog 117 [rA (t k),rD (dK most)] (rD (dQ (Px.ok (Im.px ⟨w,h,so,⟨c0,c1,c2,ca,cf⟩,⟨w0,h0,s0,n0,xs0⟩,⟨w1,h1,s1,n1,xs1⟩,⟨w2,h2,s2,n2,xs2⟩,⟨w3,h3,s3,n3,xs3⟩,⟨w4,h4,s4,n4,xs4⟩⟩ j i) most))))∧True∧(true=true)∧(((!(Px.ok (Im.px ⟨w,h,so,⟨c0,c1,c2,ca,cf⟩,⟨w0,h0,s0,n0,xs0⟩,⟨w1,h1,s1,n1,xs1⟩,⟨w2,h2,s2,n2,xs2⟩,⟨w3,h3,s3,n3,xs3⟩,⟨w4,h4,s4,n4,xs4⟩⟩ j i) most))=true→True∧rJ 8=rD e)∧((!(Px.ok (Im.px ⟨w,h,so,⟨c0,c1,c2,ca,cf⟩,⟨w0,h0,s0,n0,xs0⟩,⟨w1,h1,s1,n1,xs1⟩,⟨w2,h2,s2,n2,xs2⟩,⟨w3,h3,s3,n3,xs3⟩,⟨w4,h4,s4,n4,xs4⟩⟩ j i) most))=false→∃ k':Nat,(k'≤d∧Im.okTo ⟨w,h,so,⟨c0,c1,c2,ca,cf⟩,⟨w0,h0,s0,n0,xs0⟩,⟨w1,h1,s1,n1,xs1⟩,⟨w2,h2,s2,n2,xs2⟩,⟨w3,h3,s3,n3,xs3⟩,⟨w4,h4,s4,n4,xs4⟩⟩ most k'=true)∧(k'=k+1)∧s))))∧(k=d→True∧rJ 0=rD e)))))))))) ?_
  delta dJ dK dQ cJ dS rJ aJ bC
  simp only [sS,zQn,zQp,zQA,zQv,zQL,zQD,zQZ,zQ7,zZE,zYG]
  obtain ⟨m,hm⟩:∃ m:Im,m=⟨w,h,so,⟨c0,c1,c2,ca,cf⟩,⟨w0,h0,s0,n0,xs0⟩,⟨w1,h1,s1,n1,xs1⟩,⟨w2,h2,s2,n2,xs2⟩,⟨w3,h3,s3,n3,xs3⟩,⟨w4,h4,s4,n4,xs4⟩⟩:=⟨_,rfl⟩
  have pix:=fun (x y:Int) (hf:Im.inner ⟨w,h,so,⟨c0,c1,c2,ca,cf⟩,⟨w0,h0,s0,n0,xs0⟩,⟨w1,h1,s1,n1,xs1⟩,⟨w2,h2,s2,n2,xs2⟩,⟨w3,h3,s3,n3,xs3⟩,⟨w4,h4,s4,n4,xs4⟩⟩=true) hx hy=>zKO w h so c0 c1 c2 ca cf w0 h0 s0 n0 xs0 w1 h1 s1 n1 xs1 w2 h2 s2 n2 xs2 w3 h3 s3 n3 xs3 w4 h4 s4 n4 xs4 x y hu hf hx hy
  have ew:w=m.w:=by rw [hm]
  have eh:h=m.h:=by rw [hm]
  have es:so=m.so:=by rw [hm]
  have ec:(⟨c0,c1,c2,ca,cf⟩:Px)=m.c:=by rw [hm]
  rw [← hm] at pix hu
  simp only [← hm]
  refine ⟨fun q1=>(Im.valid_shape _ (by simpa using q1)).symm,fun q1=>?_⟩
  have q1:m.shape=0:=by simpa using q1
  obtain ⟨qf,qi⟩:=Im.shape_zero q1
  obtain ⟨f1,f2,f3,f4,f5⟩:=zXE qf
  refine ⟨fun hs=>?_,fun hs=>?_⟩
  ·rw [Im.valid_solid q1 (es ▸ hs),ec]
   cases m.c.ok most <;> simp
  ·rw [Im.valid_planes q1 (es ▸ hs),ew,eh]
   refine ⟨jYl m.h m.w f4 f3,jWB qf,⟨0,⟨Nat.zero_le _,rfl⟩,rfl⟩,fun k hk=>⟨fun hlt=>?_,fun he=>?_⟩⟩
   ·have hin:=Im.nth_in qf hlt
    have hs1:=Im.okTo_succ m most k
    have hle:=fun hn=>Im.okTo_le (m:=m) (most:=most) (k:=k+1) (n:=m.w.toNat*m.h.toNat) (by omega) hn
    rw [ew,eh] at pix
    refine ⟨pix _ _ qi hin.1 hin.2,zQv _ _ _ _ _ _,fun hb=>?_,fun hb=>⟨k+1,⟨by omega,?_⟩,rfl⟩⟩
    ·have hb:(m.nth k).ok most=false:=hb
     have:¬ m.okTo most (m.w.toNat*m.h.toNat)=true:=fun hn=>by
      have:=hle hn
      rw [hs1,hb] at this
      simp at this
     rw [if_neg this]
    ·have hb:(m.nth k).ok most=true:=hb
     rw [hs1,hk.2,hb]; rfl
   ·rw [← he,if_pos hk.2]
theorem jXh (w h:Int) (so:Bool) (c0 c1 c2 ca cf w0 h0 s0:Int) (n0:Nat) (xs0:List DV) (w1 h1 s1:Int) (n1:Nat) (xs1:List DV) (w2 h2 s2:Int) (n2:Nat) (xs2:List DV) (w3 h3 s3:Int) (n3:Nat) (xs3:List DV) (w4 h4 s4:Int) (n4:Nat) (xs4:List DV) (x y:Int) (hu:Im.isU ⟨w,h,so,⟨c0,c1,c2,ca,cf⟩,⟨w0,h0,s0,n0,xs0⟩,⟨w1,h1,s1,n1,xs1⟩,⟨w2,h2,s2,n2,xs2⟩,⟨w3,h3,s3,n3,xs3⟩,⟨w4,h4,s4,n4,xs4⟩⟩):Ans prog 215 [rA [dJ w,dJ h,dQ so,dK c0,dK c1,dK c2,dK ca,dK cf,dJ w0,dJ h0,dJ s0,dS n0 xs0,dJ w1,dJ h1,dJ s1,dS n1 xs1,dJ w2,dJ h2,dJ s2,dS n2 xs2,dJ w3,dJ h3,dJ s3,dS n3 xs3,dJ w4,dJ h4,dJ s4,dS n4 xs4],rJ (x),rJ (y)] (rA [dK ((Im.at_ ⟨w,h,so,⟨c0,c1,c2,ca,cf⟩,⟨w0,h0,s0,n0,xs0⟩,⟨w1,h1,s1,n1,xs1⟩,⟨w2,h2,s2,n2,xs2⟩,⟨w3,h3,s3,n3,xs3⟩,⟨w4,h4,s4,n4,xs4⟩⟩ x y).a),dK ((Im.at_ ⟨w,h,so,⟨c0,c1,c2,ca,cf⟩,⟨w0,h0,s0,n0,xs0⟩,⟨w1,h1,s1,n1,xs1⟩,⟨w2,h2,s2,n2,xs2⟩,⟨w3,h3,s3,n3,xs3⟩,⟨w4,h4,s4,n4,xs4⟩⟩ x y).b),dK ((Im.at_ ⟨w,h,so,⟨c0,c1,c2,ca,cf⟩,⟨w0,h0,s0,n0,xs0⟩,⟨w1,h1,s1,n1,xs1⟩,⟨w2,h2,s2,n2,xs2⟩,⟨w3,h3,s3,n3,xs3⟩,⟨w4,h4,s4,n4,xs4⟩⟩ x y).c),dK ((Im.at_ ⟨w,h,so,⟨c0,c1,c2,ca,cf⟩,⟨w0,h0,s0,n0,xs0⟩,⟨w1,h1,s1,n1,xs1⟩,⟨w2,h2,s2,n2,xs2⟩,⟨w3,h3,s3,n3,xs3⟩,⟨w4,h4,s4,n4,xs4⟩⟩ x y).al),dK ((Im.at_ ⟨w,h,so,⟨c0,c1,c2,ca,cf⟩,⟨w0,h0,s0,n0,xs0⟩,⟨w1,h1,s1,n1,xs1⟩,⟨w2,h2,s2,n2,xs2⟩,⟨w3,h3,s3,n3,xs3⟩,⟨w4,h4,s4,n4,xs4⟩⟩ x y).f)]):=
 zQa (Γ:=gamI) aL zQf Tryz.func215 rfl (nL rfl) fun hwf=>by
  refine Eq.mpr (by kernel_rfl:_=(let e:=[dJ w,dJ h,dQ so,dK c0,dK c1,dK c2,dK ca,dK cf,dJ w0,dJ h0,dJ s0,dS n0 xs0,dJ w1,dJ h1,dJ s1,dS n1 xs1,dJ w2,dJ h2,dJ s2,dS n2 xs2,dJ w3,dJ h3,dJ s3,dS n3 xs3,dJ w4,dJ h4,dJ s4,dS n4 xs4]; let d:=(Im.formed ⟨w,h,so,⟨c0,c1,c2,ca,cf⟩,⟨w0,h0,s0,n0,xs0⟩,⟨w1,h1,s1,n1,xs1⟩,⟨w2,h2,s2,n2,xs2⟩,⟨w3,h3,s3,n3,xs3⟩,⟨w4,h4,s4,n4,xs4⟩⟩); let i:=[dK 0,dK 0,dK 0,dK 0,dK 0]; let a:=(Im.at_ ⟨w,h,so,⟨c0,c1,c2,ca,cf⟩,⟨w0,h0,s0,n0,xs0⟩,⟨w1,h1,s1,n1,xs1⟩,⟨w2,h2,s2,n2,xs2⟩,⟨w3,h3,s3,n3,xs3⟩,⟨w4,h4,s4,n4,xs4⟩⟩ x y); let f:=[dK a.a,dK a.b,dK a.c,dK a.al,dK a.f]; let b:=(rA i=rA f); let c:=(Im.px ⟨w,h,so,⟨c0,c1,c2,ca,cf⟩,⟨w0,h0,s0,n0,xs0⟩,⟨w1,h1,s1,n1,xs1⟩,⟨w2,h2,s2,n2,xs2⟩,⟨w3,h3,s3,n3,xs3⟩,⟨w4,h4,s4,n4,xs4⟩⟩ x y); let g:=[dK c.a,dK c.b,dK c.c,dK c.al,dK c.f]; tU3 ((Ans prog 208 [rA e] (rD (dQ d)))∧tU2 (((!d)=false→tU4 (((decide (x < 0))=false→tU6 (((decide (x≥w))=false→tU4 (((decide (y < 0))=false→tU5 (((decide (y≥h))=true→tU2 b)∧((decide (y≥h))=false→tU3 ((Ans prog 155 [rA e,rJ x,rJ y] (rA g))∧True∧rA g=rA f))))∧((decide (y < 0))=(!false)→tU3 b)))∧((decide (x≥w))=(!false)→tU5 b)))∧((decide (x < 0))=(!false)→tU7 b)))∧((!d)=(!false)→True∧tU8 b))))) ?_
  delta dJ dK dQ dS rJ
  simp only [sS,zQn,zQp,zQA,zQv,zQL,zQD,zQZ,zQ7,zZE,zYG]
  obtain ⟨m,hm⟩:∃ m:Im,m=⟨w,h,so,⟨c0,c1,c2,ca,cf⟩,⟨w0,h0,s0,n0,xs0⟩,⟨w1,h1,s1,n1,xs1⟩,⟨w2,h2,s2,n2,xs2⟩,⟨w3,h3,s3,n3,xs3⟩,⟨w4,h4,s4,n4,xs4⟩⟩:=⟨_,rfl⟩
  have pix:=fun (x y:Int) (hf:Im.inner ⟨w,h,so,⟨c0,c1,c2,ca,cf⟩,⟨w0,h0,s0,n0,xs0⟩,⟨w1,h1,s1,n1,xs1⟩,⟨w2,h2,s2,n2,xs2⟩,⟨w3,h3,s3,n3,xs3⟩,⟨w4,h4,s4,n4,xs4⟩⟩=true) hx hy=>zKO w h so c0 c1 c2 ca cf w0 h0 s0 n0 xs0 w1 h1 s1 n1 xs1 w2 h2 s2 n2 xs2 w3 h3 s3 n3 xs3 w4 h4 s4 n4 xs4 x y hu hf hx hy
  have ew:w=m.w:=by rw [hm]
  have eh:h=m.h:=by rw [hm]
  have es:so=m.so:=by rw [hm]
  have ec:(⟨c0,c1,c2,ca,cf⟩:Px)=m.c:=by rw [hm]
  rw [← hm] at pix hu
  simp only [← hm]
  rw [ew,eh] at pix
  rw [ew,eh]
  have out:(m.formed=false∨x < 0∨m.w≤x∨y < 0∨m.h≤y)→0=(m.at_ x y).a∧0=(m.at_ x y).b∧0=(m.at_ x y).c∧0=(m.at_ x y).al∧0=(m.at_ x y).f:=fun h=>by rw [Im.at_out h]; exact ⟨rfl,rfl,rfl,rfl,rfl⟩
  refine ⟨fun q1=>⟨fun q2=>⟨fun q3=>⟨fun q4=>⟨fun q5=>out (by omega),fun q5=>?_⟩,fun q4=>out (by omega)⟩,fun q3=>out (by omega)⟩,fun q2=>out (by omega)⟩,fun q1=>out (.inl q1)⟩
  rw [Im.at_in q1 ⟨by omega,by omega⟩ ⟨by omega,by omega⟩]
  exact ⟨pix _ _ (Im.formed_of q1).2 ⟨by omega,by omega⟩ ⟨by omega,by omega⟩,rfl,rfl,rfl,rfl,rfl⟩
theorem zHo (w h:Int) (so:Bool) (c0 c1 c2 ca cf w0 h0 s0:Int) (n0:Nat) (xs0:List DV) (w1 h1 s1:Int) (n1:Nat) (xs1:List DV) (w2 h2 s2:Int) (n2:Nat) (xs2:List DV) (w3 h3 s3:Int) (n3:Nat) (xs3:List DV) (w4 h4 s4:Int) (n4:Nat) (xs4:List DV) (x y:Int) (hu:Im.isU ⟨w,h,so,⟨c0,c1,c2,ca,cf⟩,⟨w0,h0,s0,n0,xs0⟩,⟨w1,h1,s1,n1,xs1⟩,⟨w2,h2,s2,n2,xs2⟩,⟨w3,h3,s3,n3,xs3⟩,⟨w4,h4,s4,n4,xs4⟩⟩):Ans prog 13 [rA [dJ w,dJ h,dQ so,dK c0,dK c1,dK c2,dK ca,dK cf,dJ w0,dJ h0,dJ s0,dS n0 xs0,dJ w1,dJ h1,dJ s1,dS n1 xs1,dJ w2,dJ h2,dJ s2,dS n2 xs2,dJ w3,dJ h3,dJ s3,dS n3 xs3,dJ w4,dJ h4,dJ s4,dS n4 xs4],rJ (x),rJ (y)] (rA [dK ((Im.at_ ⟨w,h,so,⟨c0,c1,c2,ca,cf⟩,⟨w0,h0,s0,n0,xs0⟩,⟨w1,h1,s1,n1,xs1⟩,⟨w2,h2,s2,n2,xs2⟩,⟨w3,h3,s3,n3,xs3⟩,⟨w4,h4,s4,n4,xs4⟩⟩ x y).a),dK ((Im.at_ ⟨w,h,so,⟨c0,c1,c2,ca,cf⟩,⟨w0,h0,s0,n0,xs0⟩,⟨w1,h1,s1,n1,xs1⟩,⟨w2,h2,s2,n2,xs2⟩,⟨w3,h3,s3,n3,xs3⟩,⟨w4,h4,s4,n4,xs4⟩⟩ x y).b),dK ((Im.at_ ⟨w,h,so,⟨c0,c1,c2,ca,cf⟩,⟨w0,h0,s0,n0,xs0⟩,⟨w1,h1,s1,n1,xs1⟩,⟨w2,h2,s2,n2,xs2⟩,⟨w3,h3,s3,n3,xs3⟩,⟨w4,h4,s4,n4,xs4⟩⟩ x y).c),dK ((Im.at_ ⟨w,h,so,⟨c0,c1,c2,ca,cf⟩,⟨w0,h0,s0,n0,xs0⟩,⟨w1,h1,s1,n1,xs1⟩,⟨w2,h2,s2,n2,xs2⟩,⟨w3,h3,s3,n3,xs3⟩,⟨w4,h4,s4,n4,xs4⟩⟩ x y).al),dK ((Im.at_ ⟨w,h,so,⟨c0,c1,c2,ca,cf⟩,⟨w0,h0,s0,n0,xs0⟩,⟨w1,h1,s1,n1,xs1⟩,⟨w2,h2,s2,n2,xs2⟩,⟨w3,h3,s3,n3,xs3⟩,⟨w4,h4,s4,n4,xs4⟩⟩ x y).f)]):=
 zQa (Γ:=gamI) aL zQf Tryz.func13 rfl (nL rfl) fun hwf=>by
  refine Eq.mpr (by kernel_rfl:_=(let e:=[dJ w,dJ h,dQ so,dK c0,dK c1,dK c2,dK ca,dK cf,dJ w0,dJ h0,dJ s0,dS n0 xs0,dJ w1,dJ h1,dJ s1,dS n1 xs1,dJ w2,dJ h2,dJ s2,dS n2 xs2,dJ w3,dJ h3,dJ s3,dS n3 xs3,dJ w4,dJ h4,dJ s4,dS n4 xs4]; let d:=(Im.formed ⟨w,h,so,⟨c0,c1,c2,ca,cf⟩,⟨w0,h0,s0,n0,xs0⟩,⟨w1,h1,s1,n1,xs1⟩,⟨w2,h2,s2,n2,xs2⟩,⟨w3,h3,s3,n3,xs3⟩,⟨w4,h4,s4,n4,xs4⟩⟩); let i:=[dK 0,dK 0,dK 0,dK 0,dK 0]; let a:=(Im.at_ ⟨w,h,so,⟨c0,c1,c2,ca,cf⟩,⟨w0,h0,s0,n0,xs0⟩,⟨w1,h1,s1,n1,xs1⟩,⟨w2,h2,s2,n2,xs2⟩,⟨w3,h3,s3,n3,xs3⟩,⟨w4,h4,s4,n4,xs4⟩⟩ x y); let f:=[dK a.a,dK a.b,dK a.c,dK a.al,dK a.f]; let b:=(rA i=rA f); let c:=(Im.px ⟨w,h,so,⟨c0,c1,c2,ca,cf⟩,⟨w0,h0,s0,n0,xs0⟩,⟨w1,h1,s1,n1,xs1⟩,⟨w2,h2,s2,n2,xs2⟩,⟨w3,h3,s3,n3,xs3⟩,⟨w4,h4,s4,n4,xs4⟩⟩ x y); let g:=[dK c.a,dK c.b,dK c.c,dK c.al,dK c.f]; tU3 ((Ans prog 42 [rA e] (rD (dQ d)))∧tU2 (((!d)=false→tU4 (((decide (x < 0))=false→tU6 (((decide (x≥w))=false→tU4 (((decide (y < 0))=false→tU5 (((decide (y≥h))=true→tU2 b)∧((decide (y≥h))=false→tU3 ((Ans prog 43 [rA e,rJ x,rJ y] (rA g))∧True∧rA g=rA f))))∧((decide (y < 0))=(!false)→tU3 b)))∧((decide (x≥w))=(!false)→tU5 b)))∧((decide (x < 0))=(!false)→tU7 b)))∧((!d)=(!false)→True∧tU8 b))))) ?_
  delta dJ dK dQ dS rJ
  simp only [sS,zQn,zQp,zQA,zQv,zQL,zQD,zQZ,zQ7,zZE,zYG]
  obtain ⟨m,hm⟩:∃ m:Im,m=⟨w,h,so,⟨c0,c1,c2,ca,cf⟩,⟨w0,h0,s0,n0,xs0⟩,⟨w1,h1,s1,n1,xs1⟩,⟨w2,h2,s2,n2,xs2⟩,⟨w3,h3,s3,n3,xs3⟩,⟨w4,h4,s4,n4,xs4⟩⟩:=⟨_,rfl⟩
  have pix:=fun (x y:Int) (hf:Im.inner ⟨w,h,so,⟨c0,c1,c2,ca,cf⟩,⟨w0,h0,s0,n0,xs0⟩,⟨w1,h1,s1,n1,xs1⟩,⟨w2,h2,s2,n2,xs2⟩,⟨w3,h3,s3,n3,xs3⟩,⟨w4,h4,s4,n4,xs4⟩⟩=true) hx hy=>jZs w h so c0 c1 c2 ca cf w0 h0 s0 n0 xs0 w1 h1 s1 n1 xs1 w2 h2 s2 n2 xs2 w3 h3 s3 n3 xs3 w4 h4 s4 n4 xs4 x y hu hf hx hy
  have ew:w=m.w:=by rw [hm]
  have eh:h=m.h:=by rw [hm]
  have es:so=m.so:=by rw [hm]
  have ec:(⟨c0,c1,c2,ca,cf⟩:Px)=m.c:=by rw [hm]
  rw [← hm] at pix hu
  simp only [← hm]
  rw [ew,eh] at pix
  rw [ew,eh]
  have out:(m.formed=false∨x < 0∨m.w≤x∨y < 0∨m.h≤y)→0=(m.at_ x y).a∧0=(m.at_ x y).b∧0=(m.at_ x y).c∧0=(m.at_ x y).al∧0=(m.at_ x y).f:=fun h=>by rw [Im.at_out h]; exact ⟨rfl,rfl,rfl,rfl,rfl⟩
  refine ⟨fun q1=>⟨fun q2=>⟨fun q3=>⟨fun q4=>⟨fun q5=>out (by omega),fun q5=>?_⟩,fun q4=>out (by omega)⟩,fun q3=>out (by omega)⟩,fun q2=>out (by omega)⟩,fun q1=>out (.inl q1)⟩
  rw [Im.at_in q1 ⟨by omega,by omega⟩ ⟨by omega,by omega⟩]
  exact ⟨pix _ _ (Im.formed_of q1).2 ⟨by omega,by omega⟩ ⟨by omega,by omega⟩,rfl,rfl,rfl,rfl,rfl⟩
theorem jXg (w h:Int) (n:Nat) (xs:List DV) (hx:jXQ n xs):AnsG prog 38 0 [aJ ((w)),aJ ((h)),aO (cD (dS n xs))] [] ⟨AV.tup [AV.agg [cJ (((imOf w h (zQe xs)).w)),cJ (((imOf w h (zQe xs)).h)),cD (dQ ((imOf w h (zQe xs)).so)),cK (((imOf w h (zQe xs)).c.a)),cK (((imOf w h (zQe xs)).c.b)),cK (((imOf w h (zQe xs)).c.c)),cK (((imOf w h (zQe xs)).c.al)),cK (((imOf w h (zQe xs)).c.f)),cJ (((imOf w h (zQe xs)).p0.w)),cJ (((imOf w h (zQe xs)).p0.h)),cJ (((imOf w h (zQe xs)).p0.s)),Cl.ref 0 ((imOf w h (zQe xs)).p0.n),cJ (((imOf w h (zQe xs)).p1.w)),cJ (((imOf w h (zQe xs)).p1.h)),cJ (((imOf w h (zQe xs)).p1.s)),Cl.ref 1 ((imOf w h (zQe xs)).p1.n),cJ (((imOf w h (zQe xs)).p2.w)),cJ (((imOf w h (zQe xs)).p2.h)),cJ (((imOf w h (zQe xs)).p2.s)),Cl.ref 2 ((imOf w h (zQe xs)).p2.n),cJ (((imOf w h (zQe xs)).p3.w)),cJ (((imOf w h (zQe xs)).p3.h)),cJ (((imOf w h (zQe xs)).p3.s)),Cl.ref 3 ((imOf w h (zQe xs)).p3.n),cJ (((imOf w h (zQe xs)).p4.w)),cJ (((imOf w h (zQe xs)).p4.h)),cJ (((imOf w h (zQe xs)).p4.s)),Cl.ref 4 ((imOf w h (zQe xs)).p4.n)],aO (cD (dQ (ofOk w h n)))],[bR 34 1 ((imOf w h (zQe xs)).p0.xs),bR 34 1 ((imOf w h (zQe xs)).p1.xs),bR 34 1 ((imOf w h (zQe xs)).p2.xs),bR 34 1 ((imOf w h (zQe xs)).p3.xs),bR 34 1 ((imOf w h (zQe xs)).p4.xs)],true⟩:=
 zZp (Γ:=gamI) (let j:=(Ann.sure true aL); let a:=(8,aO (Cl.ptr 8 0)); let b:=(6,aO (Cl.ptr 6 0)); let c:=(0,aJ w); let d:=(1,aJ h); let e:=(2,aO (cD (dS n xs))); let r:=(cJ 0); let s:=(29,aO r); let f:=(6,bC [cJ 0,cJ 0,cD (dQ false),cK 0,cK 0,cK 0,cK 0,cK 0,cJ 0,cJ 0,cJ 0,Cl.nil,cJ 0,cJ 0,cJ 0,Cl.nil,cJ 0,cJ 0,cJ 0,Cl.nil,cJ 0,cJ 0,cJ 0,Cl.nil,cJ 0,cJ 0,cJ 0,Cl.nil]); let t:=(8,bC [cJ w,cJ h,cD (dQ false),cK 0,cK 0,cK 0,cK 0,cK 0,cJ 0,cJ 0,cJ 0,Cl.nil,cJ 0,cJ 0,cJ 0,Cl.nil,cJ 0,cJ 0,cJ 0,Cl.nil,cJ 0,cJ 0,cJ 0,Cl.nil,cJ 0,cJ 0,cJ 0,Cl.nil]); let l:=(35,aO (cD (dS n xs))); let m:=(36,aJ (n:Int)); let o:=fun (k:Nat)=>(37,aJ (k:Int)); let u:=(cJ 1); let v:=(29,aO u); let x:=(8,bC [cJ w,cJ h,cD (dQ false),cK 0,cK 0,cK 0,cK 0,cK 0,cJ w,cJ h,cJ w,Cl.ref 7000 (n:Int).toNat,cJ 0,cJ 0,cJ 0,Cl.nil,cJ 0,cJ 0,cJ 0,Cl.nil,cJ 0,cJ 0,cJ 0,Cl.nil,cJ 0,cJ 0,cJ 0,Cl.nil]); let g:=(7000,bR 34 1 (zQh (zQe xs) Px.a n)); let y:=(cJ 2); let z:=(29,aO y); let A:=(8,bC [cJ w,cJ h,cD (dQ false),cK 0,cK 0,cK 0,cK 0,cK 0,cJ w,cJ h,cJ w,Cl.ref 7000 (n:Int).toNat,cJ w,cJ h,cJ w,Cl.ref 7001 (n:Int).toNat,cJ 0,cJ 0,cJ 0,Cl.nil,cJ 0,cJ 0,cJ 0,Cl.nil,cJ 0,cJ 0,cJ 0,Cl.nil]); let i:=(7001,bR 34 1 (zQh (zQe xs) Px.b n)); let B:=(cJ 3); let C:=(29,aO B); let D:=(8,bC [cJ w,cJ h,cD (dQ false),cK 0,cK 0,cK 0,cK 0,cK 0,cJ w,cJ h,cJ w,Cl.ref 7000 (n:Int).toNat,cJ w,cJ h,cJ w,Cl.ref 7001 (n:Int).toNat,cJ w,cJ h,cJ w,Cl.ref 7002 (n:Int).toNat,cJ 0,cJ 0,cJ 0,Cl.nil,cJ 0,cJ 0,cJ 0,Cl.nil]); let p:=(7002,bR 34 1 (zQh (zQe xs) Px.c n)); let E:=(cJ 4); let F:=(29,aO E); let G:=(8,bC [cJ w,cJ h,cD (dQ false),cK 0,cK 0,cK 0,cK 0,cK 0,cJ w,cJ h,cJ w,Cl.ref 7000 (n:Int).toNat,cJ w,cJ h,cJ w,Cl.ref 7001 (n:Int).toNat,cJ w,cJ h,cJ w,Cl.ref 7002 (n:Int).toNat,cJ w,cJ h,cJ w,Cl.ref 7003 (n:Int).toNat,cJ 0,cJ 0,cJ 0,Cl.nil]); let q:=(7003,bR 34 1 (zQh (zQe xs) Px.al n)); (aQ aL (aQ aL (aQ aL (aQ (aQ aL (Ann.link ⟨Unit,fun _u=>True,fun _u=>⟨[c,d,e,b,a,s],[f,t]⟩,fun _u=>0⟩ (fun _u=>(aQ aL (aQ j (aQ (aQ aL (aQ aL (aQ (aQ aL (Ann.loop ⟨Nat,fun k=>k≤n,fun k=>⟨[c,d,e,b,a,(9,aO r),(10,aO (Cl.ref 7000 (n:Int).toNat)),s,l,m,(o k)],[f,t,(7000,bR 34 1 (zQh (zQe xs) Px.a k))]⟩,fun k=>n - k⟩ fun k=>aL)) aL))) aL)))) (Ann.link ⟨Unit,fun _u=>True,fun _u=>⟨[c,d,e,b,a,v],[f,x,g]⟩,fun _u=>0⟩ (fun _u=>(aQ aL (aQ j (aQ (aQ aL (aQ aL (aQ (aQ aL (Ann.loop ⟨Nat,fun k=>k≤n,fun k=>⟨[c,d,e,b,a,(9,aO u),(10,aO (Cl.ref 7001 (n:Int).toNat)),v,l,m,(o k)],[f,x,(7001,bR 34 1 (zQh (zQe xs) Px.b k)),g]⟩,fun k=>n - k⟩ fun k=>aL)) aL))) aL)))) (Ann.link ⟨Unit,fun _u=>True,fun _u=>⟨[c,d,e,b,a,z],[f,A,g,i]⟩,fun _u=>0⟩ (fun _u=>(aQ aL (aQ j (aQ (aQ aL (aQ aL (aQ (aQ aL (Ann.loop ⟨Nat,fun k=>k≤n,fun k=>⟨[c,d,e,b,a,(9,aO y),(10,aO (Cl.ref 7002 (n:Int).toNat)),z,l,m,(o k)],[f,A,(7002,bR 34 1 (zQh (zQe xs) Px.c k)),g,i]⟩,fun k=>n - k⟩ fun k=>aL)) aL))) aL)))) (Ann.link ⟨Unit,fun _u=>True,fun _u=>⟨[c,d,e,b,a,C],[f,D,g,i,p]⟩,fun _u=>0⟩ (fun _u=>(aQ aL (aQ j (aQ (aQ aL (aQ aL (aQ (aQ aL (Ann.loop ⟨Nat,fun k=>k≤n,fun k=>⟨[c,d,e,b,a,(9,aO B),(10,aO (Cl.ref 7003 (n:Int).toNat)),C,l,m,(o k)],[f,D,(7003,bR 34 1 (zQh (zQe xs) Px.al k)),g,i,p]⟩,fun k=>n - k⟩ fun k=>aL)) aL))) aL)))) (Ann.link ⟨Unit,fun _u=>True,fun _u=>⟨[c,d,e,b,a,F],[f,G,g,i,p,q]⟩,fun _u=>0⟩ (fun _u=>(aQ aL (aQ j (aQ (aQ aL (aQ aL (aQ (aQ aL (Ann.loop ⟨Nat,fun k=>k≤n,fun k=>⟨[c,d,e,b,a,(9,aO E),(10,aO (Cl.ref 7004 (n:Int).toNat)),F,l,m,(o k)],[f,G,(7004,bR 34 1 (zQh (zQe xs) Px.f k)),g,i,p,q]⟩,fun k=>n - k⟩ fun k=>aL)) aL))) aL)))) (Ann.link ⟨Unit,fun _u=>True,fun _u=>⟨[c,d,e,b,a,(29,aJ 5)],[f,(8,bC [cJ w,cJ h,cD (dQ false),cK 0,cK 0,cK 0,cK 0,cK 0,cJ w,cJ h,cJ w,Cl.ref 7000 (n:Int).toNat,cJ w,cJ h,cJ w,Cl.ref 7001 (n:Int).toNat,cJ w,cJ h,cJ w,Cl.ref 7002 (n:Int).toNat,cJ w,cJ h,cJ w,Cl.ref 7003 (n:Int).toNat,cJ w,cJ h,cJ w,Cl.ref 7004 (n:Int).toNat]),g,i,p,q,(7004,bR 34 1 (zQh (zQe xs) Px.f n))]⟩,fun _u=>0⟩ (fun _u=>(aQ aL (aQ (Ann.sure false aL) aL))) aL))))))) aL))))) zQf Tryz.func38 rfl (nL rfl) rfl fun hwf hbx=>by
  refine Eq.mpr (by kernel_rfl:_=(let l:=((5:Nat):Int); let f:=(dS n xs=dS n xs); let b:=(imOf w h (zQe xs)); let F:=(imB 34 b); let G:=[(imV 0 b),aO (cD (dQ (ofOk w h n)))]; let S:=(dQ false=dQ b.so); let T:=(dK 0=dK b.c.a); let U:=(dK 0=dK b.c.b); let V:=(dK 0=dK b.c.c); let W:=(dK 0=dK b.c.al); let X:=(dK 0=dK b.c.f); let Y:=(((((dJ 0=dJ b.w)∧(dJ 0=dJ b.h)∧S∧T∧U∧V∧W∧X∧(dJ 0=dJ b.p0.w)∧(dJ 0=dJ b.p0.h)∧(dJ 0=dJ b.p0.s)∧(0=b.p0.n)∧(dJ 0=dJ b.p1.w)∧(dJ 0=dJ b.p1.h)∧(dJ 0=dJ b.p1.s)∧(0=b.p1.n)∧(dJ 0=dJ b.p2.w)∧(dJ 0=dJ b.p2.h)∧(dJ 0=dJ b.p2.s)∧(0=b.p2.n)∧(dJ 0=dJ b.p3.w)∧(dJ 0=dJ b.p3.h)∧(dJ 0=dJ b.p3.s)∧(0=b.p3.n)∧(dJ 0=dJ b.p4.w)∧(dJ 0=dJ b.p4.h)∧(dJ 0=dJ b.p4.s)∧(0=b.p4.n)∧True)∧(dQ false=dQ (ofOk w h n))∧True)∧True)∧(([]=b.p0.xs)∧([]=b.p1.xs)∧([]=b.p2.xs)∧([]=b.p3.xs)∧([]=b.p4.xs)∧True)); let c:=(dJ w=dJ w); let d:=(dJ h=dJ h); let a:=(dJ 0=dJ 0); let p:=(dQ false=dQ false); let e:=(dK 0=dK 0); let i:=(a∧a∧p∧e∧e∧e∧e∧e∧a∧a∧a∧True∧a∧a∧a∧True∧a∧a∧a∧True∧a∧a∧a∧True∧a∧a∧a∧True∧True); let H:=(c∧d∧p∧e∧e∧e∧e∧e∧a∧a∧a∧True∧a∧a∧a∧True∧a∧a∧a∧True∧a∧a∧a∧True∧a∧a∧a∧True∧True); let r:=(0≤(n:Int)∧(n:Int)≤(n:Int)∧(n:Int)≤(maxLen:Int)∧((2:Nat):Int)*(n:Int)≤281474976710656); let g:=(n=n); let m:=(dJ (n:Int)=dJ (n:Int)); let s:=fun (k:Nat)=>(dJ 0=dJ (k:Int)); let t:=fun (k:Nat)=>(0≤(k:Int)∧(k:Int) < (n:Int)∧k*5 < xs.length); let u:=fun (k:Nat)=>((xs[k*5]?=some (dK (nAt xs (k*5))))∧(xs[k*5+1]?=some (dK (nAt xs (k*5+1))))∧(xs[k*5+1+1]?=some (dK (nAt xs (k*5+1+1))))∧(xs[k*5+1+1+1]?=some (dK (nAt xs (k*5+1+1+1))))∧(xs[k*5+1+1+1+1]?=some (dK (nAt xs (k*5+1+1+1+1))))∧True); let v:=(0≤(0:Int)∧(0:Int) < ((3:Nat):Int)); let x:=(0≤(1:Int)∧(1:Int) < ((3:Nat):Int)); let y:=(0≤(2:Int)∧(2:Int) < ((3:Nat):Int)); let z:=fun (k:Nat)=>(0≤(k:Int)∧(k:Int) < ((n:Nat):Int)); let A:=fun (k:Nat)=>fun (k':Nat)=>(dJ (wK ((k:Int)+1))=dJ (k':Int)); let I:=(c∧d∧p∧e∧e∧e∧e∧e∧c∧d∧c∧g∧a∧a∧a∧True∧a∧a∧a∧True∧a∧a∧a∧True∧a∧a∧a∧True∧True); let B:=(dJ 1=dJ 1); let j:=(zQh (zQe xs) Px.a n=zQh (zQe xs) Px.a n); let J:=(c∧d∧p∧e∧e∧e∧e∧e∧c∧d∧c∧g∧c∧d∧c∧g∧a∧a∧a∧True∧a∧a∧a∧True∧a∧a∧a∧True∧True); let C:=(dJ 2=dJ 2); let o:=(zQh (zQe xs) Px.b n=zQh (zQe xs) Px.b n); let K:=(c∧d∧p∧e∧e∧e∧e∧e∧c∧d∧c∧g∧c∧d∧c∧g∧c∧d∧c∧g∧a∧a∧a∧True∧a∧a∧a∧True∧True); let D:=(dJ 3=dJ 3); let q:=(zQh (zQe xs) Px.c n=zQh (zQe xs) Px.c n); let L:=(c∧d∧p∧e∧e∧e∧e∧e∧c∧d∧c∧g∧c∧d∧c∧g∧c∧d∧c∧g∧c∧d∧c∧g∧a∧a∧a∧True∧True); let E:=(dJ 4=dJ 4); let M:=(zQh (zQe xs) Px.al n=zQh (zQe xs) Px.al n); tU4 ((Ans prog 83 [rJ w,rJ h] (rD (dQ (zQ4 w h))))∧tU2 (((!(zQ4 w h))=false→tU7 ((((n:Int) != (wK (w*h)))=true→tU3 (Y∧zQC ⟨AV.tup G,F,true⟩))∧(((n:Int) != (wK (w*h)))=false→tU6 ((∃ _u:Unit,True∧((c∧d∧f∧(0=0)∧(0=0)∧a∧True)∧(i∧H∧True)))∧((∀ _u:Unit,True→True∧(decide ((0:Int) < 5)=true∧tU4 (r∧tU4 ((∃ k:Nat,(k≤n)∧((c∧d∧f∧(0=0)∧(0=0)∧a∧g∧a∧f∧m∧(s k)∧True)∧(i∧H∧(List.replicate n (dK 0)=zQh (zQe xs) Px.a k)∧True)))∧∀ k:Nat,let N:=(dK (nAt xs (k*5))); (k≤n)→True∧(((decide ((k:Int) < (n:Int)))=true→True∧(t k)∧(u k)∧tU6 (v∧tU2 (x∧tU2 (y∧tU7 ((0≤(0:Int)∧(0:Int) < l∧(some N=some N)∧True)∧(z k)∧(k*1+1≤(zQh (zQe xs) Px.a k).length)∧tU2 (∃ k':Nat,(k'≤n)∧(n - k' < n - k)∧((c∧d∧f∧(0=0)∧(0=0)∧a∧g∧a∧f∧m∧(A k k')∧True)∧(i∧H∧(List.set (zQh (zQe xs) Px.a k) (k*1) N=zQh (zQe xs) Px.a k')∧True))))))))∧((decide ((k:Int) < (n:Int)))=false→tU7 ((0≤(0:Int)∧(0:Int) < l)∧tU3 (∃ _u:Unit,True∧((c∧d∧f∧(0=0)∧(0=0)∧(dJ (wK ((0:Int)+1))=dJ 1)∧True)∧(i∧I∧(zQh (zQe xs) Px.a k=zQh (zQe xs) Px.a n)∧True))))))))))∧(∀ _u:Unit,True→True∧(decide ((1:Int) < 5)=true∧tU4 (r∧tU4 ((∃ k:Nat,(k≤n)∧((c∧d∧f∧(0=0)∧(0=0)∧B∧g∧B∧f∧m∧(s k)∧True)∧(i∧I∧(List.replicate n (dK 0)=zQh (zQe xs) Px.b k)∧j∧True)))∧∀ k:Nat,let O:=(dK (nAt xs (k*5+1))); (k≤n)→True∧(((decide ((k:Int) < (n:Int)))=true→True∧(t k)∧(u k)∧tU6 (v∧tU2 (x∧tU2 (y∧tU7 ((0≤(1:Int)∧(1:Int) < l∧(some O=some O)∧True)∧(z k)∧(k*1+1≤(zQh (zQe xs) Px.b k).length)∧tU2 (∃ k':Nat,(k'≤n)∧(n - k' < n - k)∧((c∧d∧f∧(0=0)∧(0=0)∧B∧g∧B∧f∧m∧(A k k')∧True)∧(i∧I∧(List.set (zQh (zQe xs) Px.b k) (k*1) O=zQh (zQe xs) Px.b k')∧j∧True))))))))∧((decide ((k:Int) < (n:Int)))=false→tU7 ((0≤(1:Int)∧(1:Int) < l)∧tU3 (∃ _u:Unit,True∧((c∧d∧f∧(0=0)∧(0=0)∧(dJ (wK ((1:Int)+1))=dJ 2)∧True)∧(i∧J∧j∧(zQh (zQe xs) Px.b k=zQh (zQe xs) Px.b n)∧True))))))))))∧(∀ _u:Unit,True→True∧(decide ((2:Int) < 5)=true∧tU4 (r∧tU4 ((∃ k:Nat,(k≤n)∧((c∧d∧f∧(0=0)∧(0=0)∧C∧g∧C∧f∧m∧(s k)∧True)∧(i∧J∧(List.replicate n (dK 0)=zQh (zQe xs) Px.c k)∧j∧o∧True)))∧∀ k:Nat,let P:=(dK (nAt xs (k*5+1+1))); (k≤n)→True∧(((decide ((k:Int) < (n:Int)))=true→True∧(t k)∧(u k)∧tU6 (v∧tU2 (x∧tU2 (y∧tU7 ((0≤(2:Int)∧(2:Int) < l∧(some P=some P)∧True)∧(z k)∧(k*1+1≤(zQh (zQe xs) Px.c k).length)∧tU2 (∃ k':Nat,(k'≤n)∧(n - k' < n - k)∧((c∧d∧f∧(0=0)∧(0=0)∧C∧g∧C∧f∧m∧(A k k')∧True)∧(i∧J∧(List.set (zQh (zQe xs) Px.c k) (k*1) P=zQh (zQe xs) Px.c k')∧j∧o∧True))))))))∧((decide ((k:Int) < (n:Int)))=false→tU7 ((0≤(2:Int)∧(2:Int) < l)∧tU3 (∃ _u:Unit,True∧((c∧d∧f∧(0=0)∧(0=0)∧(dJ (wK ((2:Int)+1))=dJ 3)∧True)∧(i∧K∧j∧o∧(zQh (zQe xs) Px.c k=zQh (zQe xs) Px.c n)∧True))))))))))∧(∀ _u:Unit,True→True∧(decide ((3:Int) < 5)=true∧tU4 (r∧tU4 ((∃ k:Nat,(k≤n)∧((c∧d∧f∧(0=0)∧(0=0)∧D∧g∧D∧f∧m∧(s k)∧True)∧(i∧K∧(List.replicate n (dK 0)=zQh (zQe xs) Px.al k)∧j∧o∧q∧True)))∧∀ k:Nat,let Q:=(dK (nAt xs (k*5+1+1+1))); (k≤n)→True∧(((decide ((k:Int) < (n:Int)))=true→True∧(t k)∧(u k)∧tU6 (v∧tU2 (x∧tU2 (y∧tU7 ((0≤(3:Int)∧(3:Int) < l∧(some Q=some Q)∧True)∧(z k)∧(k*1+1≤(zQh (zQe xs) Px.al k).length)∧tU2 (∃ k':Nat,(k'≤n)∧(n - k' < n - k)∧((c∧d∧f∧(0=0)∧(0=0)∧D∧g∧D∧f∧m∧(A k k')∧True)∧(i∧K∧(List.set (zQh (zQe xs) Px.al k) (k*1) Q=zQh (zQe xs) Px.al k')∧j∧o∧q∧True))))))))∧((decide ((k:Int) < (n:Int)))=false→tU7 ((0≤(3:Int)∧(3:Int) < l)∧tU3 (∃ _u:Unit,True∧((c∧d∧f∧(0=0)∧(0=0)∧(dJ (wK ((3:Int)+1))=dJ 4)∧True)∧(i∧L∧j∧o∧q∧(zQh (zQe xs) Px.al k=zQh (zQe xs) Px.al n)∧True))))))))))∧(∀ _u:Unit,True→True∧(decide ((4:Int) < 5)=true∧tU4 (r∧tU4 ((∃ k:Nat,(k≤n)∧((c∧d∧f∧(0=0)∧(0=0)∧E∧g∧E∧f∧m∧(s k)∧True)∧(i∧L∧(List.replicate n (dK 0)=zQh (zQe xs) Px.f k)∧j∧o∧q∧M∧True)))∧∀ k:Nat,let R:=(dK (nAt xs (k*5+1+1+1+1))); (k≤n)→True∧(((decide ((k:Int) < (n:Int)))=true→True∧(t k)∧(u k)∧tU6 (v∧tU2 (x∧tU2 (y∧tU7 ((0≤(4:Int)∧(4:Int) < l∧(some R=some R)∧True)∧(z k)∧(k*1+1≤(zQh (zQe xs) Px.f k).length)∧tU2 (∃ k':Nat,(k'≤n)∧(n - k' < n - k)∧((c∧d∧f∧(0=0)∧(0=0)∧E∧g∧E∧f∧m∧(A k k')∧True)∧(i∧L∧(List.set (zQh (zQe xs) Px.f k) (k*1) R=zQh (zQe xs) Px.f k')∧j∧o∧q∧M∧True))))))))∧((decide ((k:Int) < (n:Int)))=false→tU7 ((0≤(4:Int)∧(4:Int) < l)∧tU3 (∃ _u:Unit,True∧((c∧d∧f∧(0=0)∧(0=0)∧(dJ (wK ((4:Int)+1))=dJ 5)∧True)∧(i∧(c∧d∧p∧e∧e∧e∧e∧e∧c∧d∧c∧g∧c∧d∧c∧g∧c∧d∧c∧g∧c∧d∧c∧g∧c∧d∧c∧g∧True)∧j∧o∧q∧M∧(zQh (zQe xs) Px.f k=zQh (zQe xs) Px.f n)∧True))))))))))∧(∀ _u:Unit,True→True∧(decide ((5:Int) < 5)=false∧tU3 ((((((dJ w=dJ b.w)∧(dJ h=dJ b.h)∧S∧T∧U∧V∧W∧X∧(dJ w=dJ b.p0.w)∧(dJ h=dJ b.p0.h)∧(dJ w=dJ b.p0.s)∧(n=b.p0.n)∧(dJ w=dJ b.p1.w)∧(dJ h=dJ b.p1.h)∧(dJ w=dJ b.p1.s)∧(n=b.p1.n)∧(dJ w=dJ b.p2.w)∧(dJ h=dJ b.p2.h)∧(dJ w=dJ b.p2.s)∧(n=b.p2.n)∧(dJ w=dJ b.p3.w)∧(dJ h=dJ b.p3.h)∧(dJ w=dJ b.p3.s)∧(n=b.p3.n)∧(dJ w=dJ b.p4.w)∧(dJ h=dJ b.p4.h)∧(dJ w=dJ b.p4.s)∧(n=b.p4.n)∧True)∧(dQ true=dQ (ofOk w h n))∧True)∧True)∧((zQh (zQe xs) Px.a n=b.p0.xs)∧(zQh (zQe xs) Px.b n=b.p1.xs)∧(zQh (zQe xs) Px.c n=b.p2.xs)∧(zQh (zQe xs) Px.al n=b.p3.xs)∧(zQh (zQe xs) Px.f n=b.p4.xs)∧True))∧zQC ⟨AV.tup G,F,true⟩)))∧True)))))∧((!(zQ4 w h))=(!false)→tU4 (Y∧zQC ⟨AV.tup G,F,true⟩)))))) ?_
  delta dJ dK dQ wK dS rJ
  simp only [sS,zQn,zQp,zQA,zQv,zQL,zQD,zQZ,zQ7,zZE]
  obtain ⟨l,rfl,rfl⟩:=hx.of
  simp only [zZq,imV,imB,zQC,AV.flatV,AV.flatVL,Cl.flatV,jQg,Bx.flatVL,Bx.flatV,jQb,true_and,and_true]
  simp only [DV.flat,true_and,and_true]
  have no:∀ {P:Prop},(imOf w h l=Im.zero→ofOk w h l.length=false→P)→(ofOk w h l.length=false)→P:=fun f h=>f (zGQ h) h
  have le:=@zXE w h
  refine ⟨fun q1=>⟨fun q2=>?_,fun q2=>?_⟩,fun q1=>?_⟩
  ·obtain ⟨f1,f2,f3,f4,f5⟩:=le q1
   have wm:wrap .i64 (w*h)=w*h:=IntWalk.i64_in _ ⟨by have:=Int.mul_nonneg (a:=w) (b:=h) (by omega) (by omega); omega,by omega⟩
   refine no (fun e1 e2=>?_) (by rw [wm] at q2; simp [ofOk,q1]; simpa using q2)
   rw [e1,e2]; simp [Im.zero,Px.zero,Pl.none]
  ·obtain ⟨f1,f2,f3,f4,f5⟩:=le q1
   have wm:wrap .i64 (w*h)=w*h:=IntWalk.i64_in _ ⟨by have:=Int.mul_nonneg (a:=w) (b:=h) (by omega) (by omega); omega,by omega⟩
   have hl:(l.length:Int)=w*h:=by rw [wm] at q2; simpa using q2
   have hk:ofOk w h l.length=true:=by simp [ofOk,q1,hl]
   have hb:l.length≤16777216:=by omega
   rw [hk,zVI hk]
   simp only [ofIm,Px.zero,maxLen]
   (repeat' (first | apply And.intro | intro)) <;> (first | assumption | rfl | omega | (exact ⟨0,by omega,rfl,(zXS _ _).symm⟩) | exact jY7 (by omega) | exact zJu (j:=1) (by omega) (by omega) | exact zJu (j:=2) (by omega) (by omega) | exact zJu (j:=3) (by omega) (by omega) | exact zJu (j:=4) (by omega) (by omega) | (rw [zQx]; omega) | (rw [zVd (by assumption)]; omega) | exact zVr (by assumption) (by assumption) (fun h=>(zQU h).1) | exact zVr (by assumption) (by assumption) (fun h=>(zQU h).2.1) | exact zVr (by assumption) (by assumption) (fun h=>(zQU h).2.2.1) | exact zVr (by assumption) (by assumption) (fun h=>(zQU h).2.2.2.1) | exact zVr (by assumption) (by assumption) (fun h=>(zQU h).2.2.2.2) | exact ⟨(),by decide,jWw (by assumption) (by assumption)⟩ | exact ⟨(),trivial⟩ | exact ⟨(),by decide⟩ | exact zVe _ _ | (rw [jWw (by assumption) (by assumption)]; exact zVe _ _) | exact jK9 (by assumption) (by assumption) (fun h=>(zQU h).1) (fun h=>(zQU h).2.1) (fun h=>(zQU h).2.2.1) (fun h=>(zQU h).2.2.2.1) (fun h=>(zQU h).2.2.2.2) | (rw [zVd (by omega)]; omega) | decide)
  ·refine no (fun e1 e2=>?_) (by simp [ofOk,q1])
   rw [e1,e2]; simp [Im.zero,Px.zero,Pl.none]
theorem zHn (w h:Int) (n:Nat) (xs:List DV) (hx:jXQ n xs):AnsG prog 74 0 [aJ ((w)),aJ ((h)),aO (cD (dS n xs))] [] ⟨AV.tup [AV.agg [cJ (((imOf w h (zQe xs)).w)),cJ (((imOf w h (zQe xs)).h)),cD (dQ ((imOf w h (zQe xs)).so)),cK (((imOf w h (zQe xs)).c.a)),cK (((imOf w h (zQe xs)).c.b)),cK (((imOf w h (zQe xs)).c.c)),cK (((imOf w h (zQe xs)).c.al)),cK (((imOf w h (zQe xs)).c.f)),cJ (((imOf w h (zQe xs)).p0.w)),cJ (((imOf w h (zQe xs)).p0.h)),cJ (((imOf w h (zQe xs)).p0.s)),Cl.ref 0 ((imOf w h (zQe xs)).p0.n),cJ (((imOf w h (zQe xs)).p1.w)),cJ (((imOf w h (zQe xs)).p1.h)),cJ (((imOf w h (zQe xs)).p1.s)),Cl.ref 1 ((imOf w h (zQe xs)).p1.n),cJ (((imOf w h (zQe xs)).p2.w)),cJ (((imOf w h (zQe xs)).p2.h)),cJ (((imOf w h (zQe xs)).p2.s)),Cl.ref 2 ((imOf w h (zQe xs)).p2.n),cJ (((imOf w h (zQe xs)).p3.w)),cJ (((imOf w h (zQe xs)).p3.h)),cJ (((imOf w h (zQe xs)).p3.s)),Cl.ref 3 ((imOf w h (zQe xs)).p3.n),cJ (((imOf w h (zQe xs)).p4.w)),cJ (((imOf w h (zQe xs)).p4.h)),cJ (((imOf w h (zQe xs)).p4.s)),Cl.ref 4 ((imOf w h (zQe xs)).p4.n)],aO (cD (dQ (ofOk w h n)))],[bR 34 1 ((imOf w h (zQe xs)).p0.xs),bR 34 1 ((imOf w h (zQe xs)).p1.xs),bR 34 1 ((imOf w h (zQe xs)).p2.xs),bR 34 1 ((imOf w h (zQe xs)).p3.xs),bR 34 1 ((imOf w h (zQe xs)).p4.xs)],true⟩:=
 zZp (Γ:=gamI) (let v:=(aQ (aQ aL (Ann.sure false aL)) aL); let b:=(8,aO (Cl.ptr 8 0)); let c:=(6,aO (Cl.ptr 6 0)); let f:=(aQ (aQ aL (Ann.sure true aL)) aL); let g:=(0,aJ w); let j:=(1,aJ h); let d:=(2,aO (cD (dS n xs))); let x:=(cJ 0); let e:=(6,bC [cJ 0,cJ 0,cD (dQ false),cK 0,cK 0,cK 0,cK 0,cK 0,cJ 0,cJ 0,cJ 0,Cl.nil,cJ 0,cJ 0,cJ 0,Cl.nil,cJ 0,cJ 0,cJ 0,Cl.nil,cJ 0,cJ 0,cJ 0,Cl.nil,cJ 0,cJ 0,cJ 0,Cl.nil]); let y:=(cJ 1); let a:=(wK (w*h)).toNat; let k:=(List.replicate (wK (w*h)).toNat (dK 0)); let l:=(200039,bR 34 1 k); let z:=(cJ 2); let p:=(300039,bR 34 1 k); let A:=(cJ 3); let s:=(400039,bR 34 1 k); let B:=(500039,bR 34 1 k); let m:=(8,bC [cJ w,cJ h,cD (dQ false),cK 0,cK 0,cK 0,cK 0,cK 0,cJ w,cJ h,cJ w,Cl.ref 200039 a,cJ w,cJ h,cJ w,Cl.ref 300039 a,cJ w,cJ h,cJ w,Cl.ref 400039 a,cJ w,cJ h,cJ w,Cl.ref 500039 a,cJ w,cJ h,cJ w,Cl.ref 600039 a]); let o:=fun (i:Nat)=>(10,aJ (i:Int)); let C:=fun (i:Nat)=>(300039,bR 34 1 (zQh (zQe xs) Px.b i)); let t:=fun (i:Nat)=>(400039,bR 34 1 (zQh (zQe xs) Px.c i)); let q:=fun (i:Nat)=>(500039,bR 34 1 (zQh (zQe xs) Px.al i)); let r:=fun (i:Nat)=>(600039,bR 34 1 (zQh (zQe xs) Px.f i)); let D:=fun (i:Nat)=>[e,m,(200039,bR 34 1 (zQh (zQe xs) Px.a i)),(C i),(t i),(q i),(r i)]; let u:=fun (i:Nat)=>(200039,bR 34 1 (List.set (zQh (zQe xs) Px.a i) ((i:Int).toNat*1) (dK (nAt xs ((i:Int).toNat*5+0+0))))); let E:=fun (i:Nat)=>(300039,bR 34 1 (List.set (zQh (zQe xs) Px.b i) ((i:Int).toNat*1) (dK (nAt xs ((i:Int).toNat*5+0+1))))); (aQ aL (aQ aL (aQ aL (aQ (aQ aL (Ann.link ⟨Unit,fun _u=>True,fun _u=>⟨[g,j,d,c,b,(9,aO x)],[e,(8,bC [cJ w,cJ h,cD (dQ false),cK 0,cK 0,cK 0,cK 0,cK 0,cJ 0,cJ 0,cJ 0,Cl.nil,cJ 0,cJ 0,cJ 0,Cl.nil,cJ 0,cJ 0,cJ 0,Cl.nil,cJ 0,cJ 0,cJ 0,Cl.nil,cJ 0,cJ 0,cJ 0,Cl.nil])]⟩,fun _u=>0⟩ (fun _u=>f) (Ann.link ⟨Unit,fun _u=>True,fun _u=>⟨[g,j,d,c,b,(9,aO y)],[e,(8,bC [cJ w,cJ h,cD (dQ false),cK 0,cK 0,cK 0,cK 0,cK 0,cJ w,cJ h,cJ w,Cl.ref 200039 a,cJ 0,cJ 0,cJ 0,Cl.nil,cJ 0,cJ 0,cJ 0,Cl.nil,cJ 0,cJ 0,cJ 0,Cl.nil,cJ 0,cJ 0,cJ 0,Cl.nil]),l]⟩,fun _u=>0⟩ (fun _u=>f) (Ann.link ⟨Unit,fun _u=>True,fun _u=>⟨[g,j,d,c,b,(9,aO z)],[e,(8,bC [cJ w,cJ h,cD (dQ false),cK 0,cK 0,cK 0,cK 0,cK 0,cJ w,cJ h,cJ w,Cl.ref 200039 a,cJ w,cJ h,cJ w,Cl.ref 300039 a,cJ 0,cJ 0,cJ 0,Cl.nil,cJ 0,cJ 0,cJ 0,Cl.nil,cJ 0,cJ 0,cJ 0,Cl.nil]),l,p]⟩,fun _u=>0⟩ (fun _u=>f) (Ann.link ⟨Unit,fun _u=>True,fun _u=>⟨[g,j,d,c,b,(9,aO A)],[e,(8,bC [cJ w,cJ h,cD (dQ false),cK 0,cK 0,cK 0,cK 0,cK 0,cJ w,cJ h,cJ w,Cl.ref 200039 a,cJ w,cJ h,cJ w,Cl.ref 300039 a,cJ w,cJ h,cJ w,Cl.ref 400039 a,cJ 0,cJ 0,cJ 0,Cl.nil,cJ 0,cJ 0,cJ 0,Cl.nil]),l,p,s]⟩,fun _u=>0⟩ (fun _u=>f) (Ann.link ⟨Unit,fun _u=>True,fun _u=>⟨[g,j,d,c,b,(9,aJ 4)],[e,(8,bC [cJ w,cJ h,cD (dQ false),cK 0,cK 0,cK 0,cK 0,cK 0,cJ w,cJ h,cJ w,Cl.ref 200039 a,cJ w,cJ h,cJ w,Cl.ref 300039 a,cJ w,cJ h,cJ w,Cl.ref 400039 a,cJ w,cJ h,cJ w,Cl.ref 500039 a,cJ 0,cJ 0,cJ 0,Cl.nil]),l,p,s,B]⟩,fun _u=>0⟩ (fun _u=>f) (Ann.link ⟨Unit,fun _u=>True,fun _u=>⟨[g,j,d,c,b,(9,aJ 5)],[e,m,l,p,s,B,(600039,bR 34 1 k)]⟩,fun _u=>0⟩ (fun _u=>v) aL))))))) (aQ (aQ aL (Ann.loop ⟨Nat,fun i=>i≤n,fun i=>⟨[d,c,b,(o i)],(D i)⟩,fun i=>n - i⟩ fun i=>(aQ aL (aQ (aQ (aQ aL (Ann.link ⟨Unit,fun _u=>True,fun _u=>⟨[d,c,b,(o i),(11,aO x)],(D i)⟩,fun _u=>0⟩ (fun _u=>f) (Ann.link ⟨Unit,fun _u=>True,fun _u=>⟨[d,c,b,(o i),(11,aO y)],[e,m,(u i),(C i),(t i),(q i),(r i)]⟩,fun _u=>0⟩ (fun _u=>f) (Ann.link ⟨Unit,fun _u=>True,fun _u=>⟨[d,c,b,(o i),(11,aO z)],[e,m,(u i),(E i),(t i),(q i),(r i)]⟩,fun _u=>0⟩ (fun _u=>f) (Ann.link ⟨Unit,fun _u=>True,fun _u=>⟨[d,c,b,(o i),(11,aO A)],[e,m,(u i),(E i),(400039,bR 34 1 (List.set (zQh (zQe xs) Px.c i) ((i:Int).toNat*1) (dK (nAt xs ((i:Int).toNat*5+0+2))))),(q i),(r i)]⟩,fun _u=>0⟩ (fun _u=>v) aL))))) aL) aL)))) aL)))))) zQf Tryz.func74 rfl (nL rfl) rfl fun hwf hbx=>by
  refine Eq.mpr (by kernel_rfl:_=(let p:=((5:Nat):Int); let j:=(dS n xs=dS n xs); let b:=(imOf w h (zQe xs)); let z:=(imB 34 b); let A:=[(imV 0 b),aO (cD (dQ (ofOk w h n)))]; let D:=(dQ false=dQ b.so); let E:=(dK 0=dK b.c.a); let F:=(dK 0=dK b.c.b); let G:=(dK 0=dK b.c.c); let H:=(dK 0=dK b.c.al); let I:=(dK 0=dK b.c.f); let J:=(((((dJ 0=dJ b.w)∧(dJ 0=dJ b.h)∧D∧E∧F∧G∧H∧I∧(dJ 0=dJ b.p0.w)∧(dJ 0=dJ b.p0.h)∧(dJ 0=dJ b.p0.s)∧(0=b.p0.n)∧(dJ 0=dJ b.p1.w)∧(dJ 0=dJ b.p1.h)∧(dJ 0=dJ b.p1.s)∧(0=b.p1.n)∧(dJ 0=dJ b.p2.w)∧(dJ 0=dJ b.p2.h)∧(dJ 0=dJ b.p2.s)∧(0=b.p2.n)∧(dJ 0=dJ b.p3.w)∧(dJ 0=dJ b.p3.h)∧(dJ 0=dJ b.p3.s)∧(0=b.p3.n)∧(dJ 0=dJ b.p4.w)∧(dJ 0=dJ b.p4.h)∧(dJ 0=dJ b.p4.s)∧(0=b.p4.n)∧True)∧(dQ false=dQ (ofOk w h n))∧True)∧True)∧(([]=b.p0.xs)∧([]=b.p1.xs)∧([]=b.p2.xs)∧([]=b.p3.xs)∧([]=b.p4.xs)∧True)); let c:=(dJ w=dJ w); let e:=(dJ h=dJ h); let a:=(dJ 0=dJ 0); let l:=(dQ false=dQ false); let d:=(dK 0=dK 0); let k:=(a∧a∧l∧d∧d∧d∧d∧d∧a∧a∧a∧True∧a∧a∧a∧True∧a∧a∧a∧True∧a∧a∧a∧True∧a∧a∧a∧True∧True); let q:=(0≤wK (w*h)∧wK (w*h)≤wK (w*h)∧wK (w*h)≤(maxLen:Int)∧((2:Nat):Int)*(wK (w*h))≤281474976710656); let K:=(0≤(0:Int)∧(0:Int) < p); let L:=(dJ (wK ((0:Int)+1))=dJ 1); let f:=((wK (w*h)).toNat=(wK (w*h)).toNat); let g:=(List.replicate (wK (w*h)).toNat (dK 0)=List.replicate (wK (w*h)).toNat (dK 0)); let M:=(0≤(1:Int)∧(1:Int) < p); let N:=(dJ (wK ((1:Int)+1))=dJ 2); let O:=(0≤(2:Int)∧(2:Int) < p); let P:=(dJ (wK ((2:Int)+1))=dJ 3); let Q:=(0≤(3:Int)∧(3:Int) < p); let R:=(0≤(4:Int)∧(4:Int) < p); let m:=(c∧e∧l∧d∧d∧d∧d∧d∧c∧e∧c∧f∧c∧e∧c∧f∧c∧e∧c∧f∧c∧e∧c∧f∧c∧e∧c∧f∧True); let t:=fun (i:Nat)=>(dJ (i:Int)=dJ (i:Int)); let S:=fun (i:Nat)=>(zQh (zQe xs) Px.b i=zQh (zQe xs) Px.b i); let B:=fun (i:Nat)=>(zQh (zQe xs) Px.c i=zQh (zQe xs) Px.c i); let u:=fun (i:Nat)=>(zQh (zQe xs) Px.al i=zQh (zQe xs) Px.al i); let v:=fun (i:Nat)=>(zQh (zQe xs) Px.f i=zQh (zQe xs) Px.f i); let r:=fun (i:Nat)=>(0≤(i:Int)∧(i:Int) < (n:Int)∧i*5 < xs.length); let s:=fun (i:Nat)=>(0≤(i:Int)∧(i:Int) < (((wK (w*h)).toNat:Nat):Int)); let C:=fun (i:Nat)=>(List.set (zQh (zQe xs) Px.a i) (i*1) (dK (nAt xs (i*5+0+0)))=List.set (zQh (zQe xs) Px.a i) (i*1) (dK (nAt xs (i*5+0+0)))); let T:=fun (i:Nat)=>(List.set (zQh (zQe xs) Px.b i) (i*1) (dK (nAt xs (i*5+0+1)))=List.set (zQh (zQe xs) Px.b i) (i*1) (dK (nAt xs (i*5+0+1)))); tU4 ((Ans prog 86 [rJ w,rJ h] (rD (dQ (zQ4 w h))))∧tU2 (((!(zQ4 w h))=false→tU7 ((((n:Int) != (wK (w*h)))=true→tU3 (J∧zQC ⟨AV.tup A,z,true⟩))∧(((n:Int) != (wK (w*h)))=false→tU6 ((∃ _u:Unit,True∧((c∧e∧j∧(0=0)∧(0=0)∧a∧True)∧(k∧(c∧e∧l∧d∧d∧d∧d∧d∧a∧a∧a∧True∧a∧a∧a∧True∧a∧a∧a∧True∧a∧a∧a∧True∧a∧a∧a∧True∧True)∧True)))∧((∀ _u:Unit,True→tU2 (decide ((0:Int) < 5)=true∧tU7 (q∧tU2 (K∧tU4 (∃ _u:Unit,True∧((c∧e∧j∧(0=0)∧(0=0)∧L∧True)∧(k∧(c∧e∧l∧d∧d∧d∧d∧d∧c∧e∧c∧f∧a∧a∧a∧True∧a∧a∧a∧True∧a∧a∧a∧True∧a∧a∧a∧True∧True)∧g∧True)))))))∧(∀ _u:Unit,True→tU2 (decide ((1:Int) < 5)=true∧tU7 (q∧tU2 (M∧tU4 (∃ _u:Unit,True∧((c∧e∧j∧(0=0)∧(0=0)∧N∧True)∧(k∧(c∧e∧l∧d∧d∧d∧d∧d∧c∧e∧c∧f∧c∧e∧c∧f∧a∧a∧a∧True∧a∧a∧a∧True∧a∧a∧a∧True∧True)∧g∧g∧True)))))))∧(∀ _u:Unit,True→tU2 (decide ((2:Int) < 5)=true∧tU7 (q∧tU2 (O∧tU4 (∃ _u:Unit,True∧((c∧e∧j∧(0=0)∧(0=0)∧P∧True)∧(k∧(c∧e∧l∧d∧d∧d∧d∧d∧c∧e∧c∧f∧c∧e∧c∧f∧c∧e∧c∧f∧a∧a∧a∧True∧a∧a∧a∧True∧True)∧g∧g∧g∧True)))))))∧(∀ _u:Unit,True→tU2 (decide ((3:Int) < 5)=true∧tU7 (q∧tU2 (Q∧tU4 (∃ _u:Unit,True∧((c∧e∧j∧(0=0)∧(0=0)∧(dJ (wK ((3:Int)+1))=dJ 4)∧True)∧(k∧(c∧e∧l∧d∧d∧d∧d∧d∧c∧e∧c∧f∧c∧e∧c∧f∧c∧e∧c∧f∧c∧e∧c∧f∧a∧a∧a∧True∧True)∧g∧g∧g∧g∧True)))))))∧(∀ _u:Unit,True→tU2 (decide ((4:Int) < 5)=true∧tU7 (q∧tU2 (R∧tU4 (∃ _u:Unit,True∧((c∧e∧j∧(0=0)∧(0=0)∧(dJ (wK ((4:Int)+1))=dJ 5)∧True)∧(k∧m∧g∧g∧g∧g∧g∧True)))))))∧(∀ _u:Unit,True→tU2 (decide ((5:Int) < 5)=false∧True∧((∃ i:Nat,(i≤n)∧((j∧(0=0)∧(0=0)∧(dJ 0=dJ (i:Int))∧True)∧(k∧m∧(List.replicate (wK (w*h)).toNat (dK 0)=zQh (zQe xs) Px.a i)∧(List.replicate (wK (w*h)).toNat (dK 0)=zQh (zQe xs) Px.b i)∧(List.replicate (wK (w*h)).toNat (dK 0)=zQh (zQe xs) Px.c i)∧(List.replicate (wK (w*h)).toNat (dK 0)=zQh (zQe xs) Px.al i)∧(List.replicate (wK (w*h)).toNat (dK 0)=zQh (zQe xs) Px.f i)∧True)))∧∀ i:Nat,let U:=(dK (nAt xs (i*5+4))); let V:=(dK (nAt xs (i*5+3))); let W:=(dK (nAt xs (i*5+0+1))); let X:=(dK (nAt xs (i*5+0+0))); let x:=(zQh (zQe xs) Px.c i); let o:=(i*1); let y:=(dK (nAt xs (i*5+0+2))); (i≤n)→tU4 (((decide ((i:Int) < (n:Int)))=true→True∧(∃ _u:Unit,True∧((j∧(0=0)∧(0=0)∧(t i)∧a∧True)∧(k∧m∧(zQh (zQe xs) Px.a i=zQh (zQe xs) Px.a i)∧(S i)∧(B i)∧(u i)∧(v i)∧True)))∧((∀ _u:Unit,True→tU2 (decide ((0:Int) < 3)=true∧tU2 (K∧tU6 ((r i)∧True∧(0≤(0:Int)∧(0:Int) < ((3:Nat):Int))∧((xs[i*5+0+0]?=some X)∧True)∧(s i)∧(i*1+1≤(zQh (zQe xs) Px.a i).length)∧(true=true)∧tU3 (∃ _u:Unit,True∧((j∧(0=0)∧(0=0)∧(t i)∧L∧True)∧(k∧m∧(C i)∧(S i)∧(B i)∧(u i)∧(v i)∧True)))))))∧(∀ _u:Unit,True→tU2 (decide ((1:Int) < 3)=true∧tU2 (M∧tU6 ((r i)∧True∧(0≤(1:Int)∧(1:Int) < ((3:Nat):Int))∧((xs[i*5+0+1]?=some W)∧True)∧(s i)∧(i*1+1≤(zQh (zQe xs) Px.b i).length)∧(true=true)∧tU3 (∃ _u:Unit,True∧((j∧(0=0)∧(0=0)∧(t i)∧N∧True)∧(k∧m∧(C i)∧(T i)∧(B i)∧(u i)∧(v i)∧True)))))))∧(∀ _u:Unit,True→tU2 (decide ((2:Int) < 3)=true∧tU2 (O∧tU6 ((r i)∧True∧(0≤(2:Int)∧(2:Int) < ((3:Nat):Int))∧((xs[i*5+0+2]?=some y)∧True)∧(s i)∧(i*1+1≤x.length)∧(true=true)∧tU3 (∃ _u:Unit,True∧((j∧(0=0)∧(0=0)∧(t i)∧P∧True)∧(k∧m∧(C i)∧(T i)∧(List.set x o y=List.set x o y)∧(u i)∧(v i)∧True)))))))∧(∀ _u:Unit,True→tU2 (decide ((3:Int) < 3)=false∧True∧Q∧tU4 (R∧tU5 ((r i)∧True∧((xs[i*5+3]?=some V)∧True)∧tU2 ((r i)∧True∧((xs[i*5+4]?=some U)∧True)∧(s i)∧(i*1+1≤(zQh (zQe xs) Px.al i).length)∧(s i)∧(i*1+1≤(zQh (zQe xs) Px.f i).length)∧(true=true)∧tU3 (∃ i':Nat,(i'≤n)∧(n - i' < n - i)∧((j∧(0=0)∧(0=0)∧(dJ (wK ((i:Int)+1))=dJ (i':Int))∧True)∧(k∧m∧(List.set (zQh (zQe xs) Px.a i) o X=zQh (zQe xs) Px.a i')∧(List.set (zQh (zQe xs) Px.b i) o W=zQh (zQe xs) Px.b i')∧(List.set x o y=zQh (zQe xs) Px.c i')∧(List.set (zQh (zQe xs) Px.al i) o V=zQh (zQe xs) Px.al i')∧(List.set (zQh (zQe xs) Px.f i) o U=zQh (zQe xs) Px.f i')∧True))))))))∧True))∧((decide ((i:Int) < (n:Int)))=false→tU3 ((((((dJ w=dJ b.w)∧(dJ h=dJ b.h)∧D∧E∧F∧G∧H∧I∧(dJ w=dJ b.p0.w)∧(dJ h=dJ b.p0.h)∧(dJ w=dJ b.p0.s)∧((wK (w*h)).toNat=b.p0.n)∧(dJ w=dJ b.p1.w)∧(dJ h=dJ b.p1.h)∧(dJ w=dJ b.p1.s)∧((wK (w*h)).toNat=b.p1.n)∧(dJ w=dJ b.p2.w)∧(dJ h=dJ b.p2.h)∧(dJ w=dJ b.p2.s)∧((wK (w*h)).toNat=b.p2.n)∧(dJ w=dJ b.p3.w)∧(dJ h=dJ b.p3.h)∧(dJ w=dJ b.p3.s)∧((wK (w*h)).toNat=b.p3.n)∧(dJ w=dJ b.p4.w)∧(dJ h=dJ b.p4.h)∧(dJ w=dJ b.p4.s)∧((wK (w*h)).toNat=b.p4.n)∧True)∧(dQ true=dQ (ofOk w h n))∧True)∧True)∧((zQh (zQe xs) Px.a i=b.p0.xs)∧(zQh (zQe xs) Px.b i=b.p1.xs)∧(zQh (zQe xs) Px.c i=b.p2.xs)∧(zQh (zQe xs) Px.al i=b.p3.xs)∧(zQh (zQe xs) Px.f i=b.p4.xs)∧True))∧zQC ⟨AV.tup A,z,true⟩))))))∧True)))))∧((!(zQ4 w h))=(!false)→tU4 (J∧zQC ⟨AV.tup A,z,true⟩)))))) ?_
  delta dJ dK dQ wK dS rJ
  simp only [sS,zQn,zQp,zQA,zQv,zQL,zQD,zQZ,zQ7,zZE]
  obtain ⟨l,rfl,rfl⟩:=hx.of
  simp only [zZq,imV,imB,zQC,AV.flatV,AV.flatVL,Cl.flatV,jQg,Bx.flatVL,Bx.flatV,jQb,true_and,and_true]
  simp only [DV.flat,true_and,and_true]
  have no:∀ {P:Prop},(imOf w h l=Im.zero→ofOk w h l.length=false→P)→(ofOk w h l.length=false)→P:=fun f h=>f (zGQ h) h
  have le:=@zXE w h
  refine ⟨fun q1=>⟨fun q2=>?_,fun q2=>?_⟩,fun q1=>?_⟩
  ·obtain ⟨f1,f2,f3,f4,f5⟩:=le q1
   have wm:wrap .i64 (w*h)=w*h:=IntWalk.i64_in _ ⟨by have:=Int.mul_nonneg (a:=w) (b:=h) (by omega) (by omega); omega,by omega⟩
   refine no (fun e1 e2=>?_) (by rw [wm] at q2; simp [ofOk,q1]; simpa using q2)
   rw [e1,e2]; simp [Im.zero,Px.zero,Pl.none]
  ·obtain ⟨f1,f2,f3,f4,f5⟩:=le q1
   have wm:wrap .i64 (w*h)=w*h:=IntWalk.i64_in _ ⟨by have:=Int.mul_nonneg (a:=w) (b:=h) (by omega) (by omega); omega,by omega⟩
   have hl:(l.length:Int)=w*h:=by rw [wm] at q2; simpa using q2
   have hk:ofOk w h l.length=true:=by simp [ofOk,q1,hl]
   have hb:l.length≤16777216:=by omega
   rw [hk,zVI hk]
   simp only [ofIm,Px.zero,maxLen,wm]
   simp only [← hl,Int.toNat_natCast,Nat.add_zero]
   (repeat' (first | apply And.intro | intro)) <;> (first | (exact ⟨0,by omega,rfl,(zXS _ _).symm,(zXS _ _).symm,(zXS _ _).symm,(zXS _ _).symm,(zXS _ _).symm⟩) | (first | assumption | rfl | omega | (exact ⟨0,by omega,rfl,(zXS _ _).symm⟩) | exact jY7 (by omega) | exact zJu (j:=1) (by omega) (by omega) | exact zJu (j:=2) (by omega) (by omega) | exact zJu (j:=3) (by omega) (by omega) | exact zJu (j:=4) (by omega) (by omega) | (rw [zQx]; omega) | (rw [zVd (by assumption)]; omega) | exact zVr (by assumption) (by assumption) (fun h=>(zQU h).1) | exact zVr (by assumption) (by assumption) (fun h=>(zQU h).2.1) | exact zVr (by assumption) (by assumption) (fun h=>(zQU h).2.2.1) | exact zVr (by assumption) (by assumption) (fun h=>(zQU h).2.2.2.1) | exact zVr (by assumption) (by assumption) (fun h=>(zQU h).2.2.2.2) | exact ⟨(),by decide,jWw (by assumption) (by assumption)⟩ | exact ⟨(),trivial⟩ | exact ⟨(),by decide⟩ | exact zVe _ _ | (rw [jWw (by assumption) (by assumption)]; exact zVe _ _) | exact jK9 (by assumption) (by assumption) (fun h=>(zQU h).1) (fun h=>(zQU h).2.1) (fun h=>(zQU h).2.2.1) (fun h=>(zQU h).2.2.2.1) (fun h=>(zQU h).2.2.2.2) | (rw [zVd (by omega)]; omega) | decide))
  ·refine no (fun e1 e2=>?_) (by simp [ofOk,q1])
   rw [e1,e2]; simp [Im.zero,Px.zero,Pl.none]
def pxR (p:Px):RV:=RV.agg [DV.int .u16 p.a,DV.int .u16 p.b,DV.int .u16 p.c,DV.int .u16 p.al,DV.int .u16 p.f]
theorem jYz (m:Im) (x y:Int) (hu:m.isU):Ans prog 215 [imR m,RV.d (DV.int .i64 x),RV.d (DV.int .i64 y)] (pxR (m.at_ x y)):=jXh ((m).w) ((m).h) ((m).so) (((m).c).a) (((m).c).b) (((m).c).c) (((m).c).al) (((m).c).f) (((m).p0).w) (((m).p0).h) (((m).p0).s) (((m).p0).n) (((m).p0).xs) (((m).p1).w) (((m).p1).h) (((m).p1).s) (((m).p1).n) (((m).p1).xs) (((m).p2).w) (((m).p2).h) (((m).p2).s) (((m).p2).n) (((m).p2).xs) (((m).p3).w) (((m).p3).h) (((m).p3).s) (((m).p3).n) (((m).p3).xs) (((m).p4).w) (((m).p4).h) (((m).p4).s) (((m).p4).n) (((m).p4).xs) x y hu
theorem zYr (m:Im) (x y:Int) (hu:m.isU):Ans prog 13 [imR m,RV.d (DV.int .i64 x),RV.d (DV.int .i64 y)] (pxR (m.at_ x y)):=zHo ((m).w) ((m).h) ((m).so) (((m).c).a) (((m).c).b) (((m).c).c) (((m).c).al) (((m).c).f) (((m).p0).w) (((m).p0).h) (((m).p0).s) (((m).p0).n) (((m).p0).xs) (((m).p1).w) (((m).p1).h) (((m).p1).s) (((m).p1).n) (((m).p1).xs) (((m).p2).w) (((m).p2).h) (((m).p2).s) (((m).p2).n) (((m).p2).xs) (((m).p3).w) (((m).p3).h) (((m).p3).s) (((m).p3).n) (((m).p3).xs) (((m).p4).w) (((m).p4).h) (((m).p4).s) (((m).p4).n) (((m).p4).xs) x y hu
theorem zHy (m:Im) (most:Int) (hu:m.isU):Ans prog 76 [imR m,RV.d (DV.int .u16 most)] (RV.d (DV.int .i64 (m.valid most))):=zGP ((m).w) ((m).h) ((m).so) (((m).c).a) (((m).c).b) (((m).c).c) (((m).c).al) (((m).c).f) (((m).p0).w) (((m).p0).h) (((m).p0).s) (((m).p0).n) (((m).p0).xs) (((m).p1).w) (((m).p1).h) (((m).p1).s) (((m).p1).n) (((m).p1).xs) (((m).p2).w) (((m).p2).h) (((m).p2).s) (((m).p2).n) (((m).p2).xs) (((m).p3).w) (((m).p3).h) (((m).p3).s) (((m).p3).n) (((m).p3).xs) (((m).p4).w) (((m).p4).h) (((m).p4).s) (((m).p4).n) (((m).p4).xs) most hu
theorem jYy (w h:Int) (n:Nat) (xs:List DV) (hx:jXQ n xs):AnsG prog 38 0 [AV.one (Cl.d (DV.int .i64 w)),AV.one (Cl.d (DV.int .i64 h)),AV.one (Cl.d (DV.sl n xs))] [] ⟨AV.tup [imV 0 (imOf w h (zQe xs)),AV.one (Cl.d (DV.bool (ofOk w h n)))],imB 34 (imOf w h (zQe xs)),true⟩:=jXg w h n xs hx
theorem zVy (w h:Int) (n:Nat) (xs:List DV) (hx:jXQ n xs):AnsG prog 74 0 [AV.one (Cl.d (DV.int .i64 w)),AV.one (Cl.d (DV.int .i64 h)),AV.one (Cl.d (DV.sl n xs))] [] ⟨AV.tup [imV 0 (imOf w h (zQe xs)),AV.one (Cl.d (DV.bool (ofOk w h n)))],imB 34 (imOf w h (zQe xs)),true⟩:=zHn w h n xs hx
theorem zKW (w h:Int) (c:Px):Ans prog 33 [RV.d (DV.int .i64 w),RV.d (DV.int .i64 h),pxR c] (imR (zQd w h c)):=jZt w h c.a c.b c.c c.al c.f
def jGW:Gam where
 pure:=fun f xs=>
  if f=27 then gZ0 xs else
  if f=73 then gZ20 xs else
  if f=33 then gZ15 xs else
  none
 modes:=fun f=>
  if f=74 then some ([true,true,true],0,5) else
  none
 proc:=fun f xs bs=>
  if f=74 then gZ21 xs bs else
  none
 iter:=fun f cs=>
  none
theorem jXT (pw ph so mood:Int) (L:Nat) (xs:List DV) (x0 y0 x1 y1 most:Int) (hx:Is5 L xs) (hc:1≤x1 - x0∧x1 - x0≤100∧1≤y1 - y0∧y1 - y0≤100):Ans prog 32 [rA [dJ pw,dJ ph,dJ so,dJ mood,dS L xs],rA [dJ x0,dJ y0,dJ x1,dJ y1],rD (dK most)] (rA [dJ ((zQO pw ph so mood L xs x0 y0 x1 y1 most).w),dJ ((zQO pw ph so mood L xs x0 y0 x1 y1 most).h),dQ ((zQO pw ph so mood L xs x0 y0 x1 y1 most).so),dK (((zQO pw ph so mood L xs x0 y0 x1 y1 most).c).a),dK (((zQO pw ph so mood L xs x0 y0 x1 y1 most).c).b),dK (((zQO pw ph so mood L xs x0 y0 x1 y1 most).c).c),dK (((zQO pw ph so mood L xs x0 y0 x1 y1 most).c).al),dK (((zQO pw ph so mood L xs x0 y0 x1 y1 most).c).f),dJ (((zQO pw ph so mood L xs x0 y0 x1 y1 most).p0).w),dJ (((zQO pw ph so mood L xs x0 y0 x1 y1 most).p0).h),dJ (((zQO pw ph so mood L xs x0 y0 x1 y1 most).p0).s),dS (((zQO pw ph so mood L xs x0 y0 x1 y1 most).p0).n) (((zQO pw ph so mood L xs x0 y0 x1 y1 most).p0).xs),dJ (((zQO pw ph so mood L xs x0 y0 x1 y1 most).p1).w),dJ (((zQO pw ph so mood L xs x0 y0 x1 y1 most).p1).h),dJ (((zQO pw ph so mood L xs x0 y0 x1 y1 most).p1).s),dS (((zQO pw ph so mood L xs x0 y0 x1 y1 most).p1).n) (((zQO pw ph so mood L xs x0 y0 x1 y1 most).p1).xs),dJ (((zQO pw ph so mood L xs x0 y0 x1 y1 most).p2).w),dJ (((zQO pw ph so mood L xs x0 y0 x1 y1 most).p2).h),dJ (((zQO pw ph so mood L xs x0 y0 x1 y1 most).p2).s),dS (((zQO pw ph so mood L xs x0 y0 x1 y1 most).p2).n) (((zQO pw ph so mood L xs x0 y0 x1 y1 most).p2).xs),dJ (((zQO pw ph so mood L xs x0 y0 x1 y1 most).p3).w),dJ (((zQO pw ph so mood L xs x0 y0 x1 y1 most).p3).h),dJ (((zQO pw ph so mood L xs x0 y0 x1 y1 most).p3).s),dS (((zQO pw ph so mood L xs x0 y0 x1 y1 most).p3).n) (((zQO pw ph so mood L xs x0 y0 x1 y1 most).p3).xs),dJ (((zQO pw ph so mood L xs x0 y0 x1 y1 most).p4).w),dJ (((zQO pw ph so mood L xs x0 y0 x1 y1 most).p4).h),dJ (((zQO pw ph so mood L xs x0 y0 x1 y1 most).p4).s),dS (((zQO pw ph so mood L xs x0 y0 x1 y1 most).p4).n) (((zQO pw ph so mood L xs x0 y0 x1 y1 most).p4).xs)]):=
 zQa (Γ:=jGW) aL zQf Tryz.func32 rfl (nL rfl) fun hwf=>by
  refine Eq.mpr (by kernel_rfl:_=(let p:=(modS so (2:Int)); let g:=(p==0); let q:=(wK (Int.tdiv pw (5:Int))); let k:=(modS q (3:Int)); let r:=[dJ mood,dS L xs]; let c:=(wK (x1 - x0)); let d:=(wK (y1 - y0)); let h:=(wK (c*d)); let l:=h.toNat; let a:=(pxs (zQq mood L xs most h.toNat)); let m:=(imOf c d (zQe a)); let s:=(Ans prog 27 [rJ so,rJ 2] (rJ p)); let t:=(dJ c); let u:=(dJ d); let v:=(imR (zQd c d ⟨(nAt a 0),(nAt a 1),(nAt a 2),(nAt a 3),(nAt a 4)⟩)); let i:=(imR (zQO pw ph so mood L xs x0 y0 x1 y1 most)); let e:=(wK ((1:Int)+(modS pw (5:Int)))); let f:=(wK ((1:Int)+(modS ph (4:Int)))); let j:=(wK (e*f)); let n:=j.toNat; let b:=(pxs (zQq mood L xs most j.toNat)); let o:=(imOf e f (zQe b)); let w:=(dJ e); let x:=(dJ f); let y:=(imR (zQd e f ⟨(nAt b 0),(nAt b 1),(nAt b 2),(nAt b 3),(nAt b 4)⟩)); tU5 ((Ans prog 27 [rJ pw,rJ 5] (rJ (modS pw (5:Int))))∧tU3 ((Ans prog 27 [rJ ph,rJ 4] (rJ (modS ph (4:Int))))∧tU3 ((true=true)∧tU2 (((5:Int)≠0)∧(Ans prog 27 [rJ q,rJ 3] (rJ k))∧True∧(((k==0)=true→tU4 (tU8 ((true=true)∧tU6 ((AnsO prog 73 [rA r,rJ h,rD (dK most)] 37 5 l a)∧tU3 (s∧True∧((g=true→tU3 ((0≤(0:Int)∧(0:Int) < (h.toNat:Int))∧((a[0]?=some (dK (nAt a 0)))∧(a[1]?=some (dK (nAt a 1)))∧(a[2]?=some (dK (nAt a 2)))∧(a[3]?=some (dK (nAt a 3)))∧(a[4]?=some (dK (nAt a 4)))∧True)∧(Ans prog 33 [rD t,rD u,rA [dK (nAt a 0),dK (nAt a 1),dK (nAt a 2),dK (nAt a 3),dK (nAt a 4)]] v)∧True∧v=i))∧(g=false→tU3 ((AnsG prog 74 0 [aO (cD t),aO (cD u),aO (cD (dS l a))] [] ⟨AV.tup [(imV 0 m),aO (cD (dQ (ofOk c d l)))],(imB 34 m),true⟩)∧tU8 ((imR m)=i)))))))))∧((k==0)=false→tU6 ((AnsO prog 73 [rA r,rJ j,rD (dK most)] 37 5 n b)∧tU3 (s∧True∧((g=true→tU3 ((0≤(0:Int)∧(0:Int) < (j.toNat:Int))∧((b[0]?=some (dK (nAt b 0)))∧(b[1]?=some (dK (nAt b 1)))∧(b[2]?=some (dK (nAt b 2)))∧(b[3]?=some (dK (nAt b 3)))∧(b[4]?=some (dK (nAt b 4)))∧True)∧(Ans prog 33 [rD w,rD x,rA [dK (nAt b 0),dK (nAt b 1),dK (nAt b 2),dK (nAt b 3),dK (nAt b 4)]] y)∧True∧y=i))∧(g=false→tU3 ((AnsG prog 74 0 [aO (cD w),aO (cD x),aO (cD (dS n b))] [] ⟨AV.tup [(imV 0 o),aO (cD (dQ (ofOk e f n)))],(imB 34 o),true⟩)∧tU8 ((imR o)=i)))))))))))))) ?_
  delta dJ dK dQ wK dS rJ
  simp only [sS,zQn]
  have go:∀ W H:Int,(1≤W∧W≤100)→(1≤H∧H≤100)→0 < (wrap .i64 (W*H)).toNat∧wrap .i64 (W*H)≤16777216:=fun W H a b=>by have:=jZv a b; omega
  have b5:=@zZK pw 5 (by omega) (by omega)
  have b4:=@zZK ph 4 (by omega) (by omega)
  refine ⟨by omega,fun q1=>?_,fun q1=>?_⟩
  ·have hW:zYS pw 5 x0 x1 pw=wrap .i64 (x1 - x0):=by unfold zYS; rw [if_pos (by simpa using q1)]
   have hH:zYS ph 4 y0 y1 pw=wrap .i64 (y1 - y0):=by unfold zYS; rw [if_pos (by simpa using q1)]
   have gi:=zWr pw ph so mood L xs x0 y0 x1 y1 most _ _ hW hH
   have cW:1≤wrap .i64 (x1 - x0)∧wrap .i64 (x1 - x0)≤100:=by rw [IntWalk.i64_in _ ⟨by omega,by omega⟩]; omega
   have cH:1≤wrap .i64 (y1 - y0)∧wrap .i64 (y1 - y0)≤100:=by rw [IntWalk.i64_in _ ⟨by omega,by omega⟩]; omega
   generalize wrap .i64 (x1 - x0)=W at *
   generalize wrap .i64 (y1 - y0)=H at *
   obtain ⟨g1,g2⟩:=go W H cW cH
   have pn:=zUy mood L xs (wrap .i64 (W*H)) most hx g2
   refine ⟨pn,fun q2=>?_,fun q2=>?_⟩
   ·have hs:modS so 2=0:=by simpa using q2
    rw [if_pos hs] at gi
    obtain ⟨v0,v1,v2,v3,v4⟩:=zUq (mood:=mood) (L:=L) (xs:=xs) (most:=most) g1
    have f0:=zKo (mood:=mood) (L:=L) (xs:=xs) (most:=most) g1 0 (by omega)
    have f1:=zKo (mood:=mood) (L:=L) (xs:=xs) (most:=most) g1 1 (by omega)
    have f2:=zKo (mood:=mood) (L:=L) (xs:=xs) (most:=most) g1 2 (by omega)
    have f3:=zKo (mood:=mood) (L:=L) (xs:=xs) (most:=most) g1 3 (by omega)
    have f4:=zKo (mood:=mood) (L:=L) (xs:=xs) (most:=most) g1 4 (by omega)
    have g3:0 < wrap .i64 (W*H):=by omega
    rw [gi]
    simp only [v0,v1,v2,v3,v4] at f0 f1 f2 f3 f4 ⊢
    exact ⟨⟨by omega,by omega⟩,⟨f0,f1,f2,f3,f4⟩,zKW W H ⟨_,_,_,_,_⟩,trivial⟩
   ·have hs:¬ modS so 2=0:=by simpa using q2
    rw [if_neg hs] at gi
    rw [gi]
    have po:=zVy W H _ (pxs (zQq mood L xs most (wrap .i64 (W*H)).toNat)) (jQd _ _ _ _ rfl)
    simp only [zZq] at po ⊢
    exact ⟨po,trivial⟩
  ·have hW:zYS pw 5 x0 x1 pw=wrap .i64 (1+modS pw 5):=by unfold zYS; rw [if_neg (by simpa using q1)]
   have hH:zYS ph 4 y0 y1 pw=wrap .i64 (1+modS ph 4):=by unfold zYS; rw [if_neg (by simpa using q1)]
   have gi:=zWr pw ph so mood L xs x0 y0 x1 y1 most _ _ hW hH
   have cW:1≤wrap .i64 (1+modS pw 5)∧wrap .i64 (1+modS pw 5)≤100:=by rw [IntWalk.i64_in _ ⟨by omega,by omega⟩]; omega
   have cH:1≤wrap .i64 (1+modS ph 4)∧wrap .i64 (1+modS ph 4)≤100:=by rw [IntWalk.i64_in _ ⟨by omega,by omega⟩]; omega
   generalize wrap .i64 (1+modS pw 5)=W at *
   generalize wrap .i64 (1+modS ph 4)=H at *
   obtain ⟨g1,g2⟩:=go W H cW cH
   have pn:=zUy mood L xs (wrap .i64 (W*H)) most hx g2
   refine ⟨pn,fun q2=>?_,fun q2=>?_⟩
   ·have hs:modS so 2=0:=by simpa using q2
    rw [if_pos hs] at gi
    obtain ⟨v0,v1,v2,v3,v4⟩:=zUq (mood:=mood) (L:=L) (xs:=xs) (most:=most) g1
    have f0:=zKo (mood:=mood) (L:=L) (xs:=xs) (most:=most) g1 0 (by omega)
    have f1:=zKo (mood:=mood) (L:=L) (xs:=xs) (most:=most) g1 1 (by omega)
    have f2:=zKo (mood:=mood) (L:=L) (xs:=xs) (most:=most) g1 2 (by omega)
    have f3:=zKo (mood:=mood) (L:=L) (xs:=xs) (most:=most) g1 3 (by omega)
    have f4:=zKo (mood:=mood) (L:=L) (xs:=xs) (most:=most) g1 4 (by omega)
    have g3:0 < wrap .i64 (W*H):=by omega
    rw [gi]
    simp only [v0,v1,v2,v3,v4] at f0 f1 f2 f3 f4 ⊢
    exact ⟨⟨by omega,by omega⟩,⟨f0,f1,f2,f3,f4⟩,zKW W H ⟨_,_,_,_,_⟩,trivial⟩
   ·have hs:¬ modS so 2=0:=by simpa using q2
    rw [if_neg hs] at gi
    rw [gi]
    have po:=zVy W H _ (pxs (zQq mood L xs most (wrap .i64 (W*H)).toNat)) (jQd _ _ _ _ rfl)
    simp only [zZq] at po ⊢
    exact ⟨po,trivial⟩
end
end Go.Proofs.YtbnmadpcdlnleaaGreatDoor
