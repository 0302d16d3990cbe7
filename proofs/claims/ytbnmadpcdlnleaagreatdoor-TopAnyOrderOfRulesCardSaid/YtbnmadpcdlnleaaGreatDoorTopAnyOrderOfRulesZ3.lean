/-
  Part 3 of what TopAnyOrderOfRules rests on.
-/
import Derived.Test.YtbnmadpcdlnleaaGreatDoorTopAnyOrderOfRulesZ2
import Derived.Test.YtbnmadpcdlnleaaGreatDoorProg
import Derived.RangeFuncCalls
import Derived.RegionIn
namespace Go.Proofs.YtbnmadpcdlnleaaGreatDoor
open Go.IntKind (wrap)
open Go.RowKit
set_option linter.unusedVariables false
set_option linter.unusedSimpArgs false
set_option maxRecDepth 20000
structure Oq where
  kind:Int
  image:Int
  x:Int
  y:Int
  mask:Int
  mx:Int
  my:Int
  opac:Int
  oper:Int
  mode:Int
  iso:Bool
  kno:Bool
deriving DecidableEq
def popO:Oq:=⟨3,0,0,0,0,0,0,0,0,0,false,false⟩
def Oq.fields(o:Oq):Bool:=
 if o.kind=3 then decide (o=popO)
 else !(decide (o.kind=1)&&(o.iso || o.kno)) && !(decide (o.kind=2)&&decide (o.image≠0\/o.x≠0\/o.y≠0))&&decide (o.mask≠0\/o.mx=0/\o.my=0)
def Oq.spare(o:Oq):Bool:=
 if o.kind=3 then !decide (o=popO)
 else if o.kind=1 then o.iso || o.kno || decide (o.mask=0/\(o.mx≠0\/o.my≠0))
 else decide (o.image≠0\/o.x≠0\/o.y≠0) || decide (o.mask=0/\(o.mx≠0\/o.my≠0))
theorem Oq.spare_fields{o:Oq}(h:o.kind=1\/o.kind=2\/o.kind=3):o.spare=!o.fields:=by
 rcases h with h|h|h<;>simp only[Oq.spare,Oq.fields,h]<;>cases o.iso<;>cases o.kno<;>by_cases h1:o.image=0<;>by_cases h2:o.x=0<;>by_cases h3:o.y=0<;>by_cases h4:o.mask=0<;>by_cases h5:o.mx=0<;>by_cases h6:o.my=0<;>simp[h1,h2,h3,h4,h5,h6]
def zZz(v:Int):Bool:=decide (-1048576<=v/\v<=1048576)
def Oq.cells(o:Oq):List DV:=[.int .i64 o.kind,.int .i64 o.image,.int .i64 o.x,.int .i64 o.y,.int .i64 o.mask,.int .i64 o.mx,.int .i64 o.my,.int .u16 o.opac,.int .i64 o.oper,.int .i64 o.mode,.bool o.iso,.bool o.kno]
def oqAt(xs:List DV)(i:Nat):Oq:=⟨nAt xs i,nAt xs (i+1),nAt xs (i+2),nAt xs (i+3),nAt xs (i+4),nAt xs (i+5),nAt xs (i+6),nAt xs (i+7),nAt xs (i+8),nAt xs (i+9),bAt xs (i+10),bAt xs (i+11)⟩
def ops(l:List Oq):List DV:=l.flatMap Oq.cells
theorem zQc(l:List Oq):(ops l).length=l.length*12:=by
 induction l with
 |nil=>rfl
 |cons o l ih=>simp only[ops,wQ2,wQe,wQC]at ih |-;rw[ih];simp[Oq.cells];omega
theorem zQU(l m:List Oq):ops (l++m)=ops l++ops m:=by simp[ops]
abbrev wX3:=@List.getElem_cons_zero
variable{k:Nat}
theorem jYh{l:List Oq}(h:k<l.length)(j:Nat)(hj:j<12):(ops l)[k*12+j]?=l[k].cells[j]?:=by
 induction l generalizing k with
 |nil=>simp at h
 |cons o l ih=>
  have e:ops (o::l)=o.cells++ops l:=by simp[ops]
  rw[e]
  cases k with
  |zero=>simp only[wX3];rw[wQO (by simp[Oq.cells];omega)];simp
  |succ k=>
   rw[wQq (by simp[Oq.cells];omega)];have:=ih (k:=k) (by simpa using h);simp only[wZC];rw[<-this];congr 1;simp[Oq.cells];omega
theorem zXF{l:List Oq}(h:k<l.length):(ops l)[k*12]?=some (.int .i64 l[k].kind)/\(ops l)[k*12+1]?=some (.int .i64 l[k].image)/\(ops l)[k*12+1+1]?=some (.int .i64 l[k].x)/\(ops l)[k*12+1+1+1]?=some (.int .i64 l[k].y)/\(ops l)[k*12+1+1+1+1]?=some (.int .i64 l[k].mask)/\(ops l)[k*12+1+1+1+1+1]?=some (.int .i64 l[k].mx)/\(ops l)[k*12+1+1+1+1+1+1]?=some (.int .i64 l[k].my)/\(ops l)[k*12+1+1+1+1+1+1+1]?=some (.int .u16 l[k].opac)/\(ops l)[k*12+1+1+1+1+1+1+1+1]?=some (.int .i64 l[k].oper)/\(ops l)[k*12+1+1+1+1+1+1+1+1+1]?=some (.int .i64 l[k].mode)/\(ops l)[k*12+1+1+1+1+1+1+1+1+1+1]?=some (.bool l[k].iso)/\(ops l)[k*12+1+1+1+1+1+1+1+1+1+1+1]?=some (.bool l[k].kno):=by
 have g:=λj hj=>jYh h j hj;refine⟨g 0 (by omega),g 1 (by omega),g 2 (by omega),g 3 (by omega),g 4 (by omega),g 5 (by omega),g 6 (by omega),g 7 (by omega),g 8 (by omega),g 9 (by omega),g 10 (by omega),g 11 (by omega)⟩
theorem zXG{l:List Oq}(h:k<l.length):nAt (ops l) (k*12)=l[k].kind/\nAt (ops l) (k*12+1)=l[k].image/\nAt (ops l) (k*12+1+1)=l[k].x/\nAt (ops l) (k*12+1+1+1)=l[k].y/\nAt (ops l) (k*12+1+1+1+1)=l[k].mask/\nAt (ops l) (k*12+1+1+1+1+1)=l[k].mx/\nAt (ops l) (k*12+1+1+1+1+1+1)=l[k].my/\nAt (ops l) (k*12+1+1+1+1+1+1+1)=l[k].opac/\nAt (ops l) (k*12+1+1+1+1+1+1+1+1)=l[k].oper/\nAt (ops l) (k*12+1+1+1+1+1+1+1+1+1)=l[k].mode/\bAt (ops l) (k*12+1+1+1+1+1+1+1+1+1+1)=l[k].iso/\bAt (ops l) (k*12+1+1+1+1+1+1+1+1+1+1+1)=l[k].kno:=by
 obtain⟨e0,e1,e2,e3,e4,e5,e6,e7,e8,e9,e10,e11⟩:=zXF h;simp only[nAt,bAt,e0,e1,e2,e3,e4,e5,e6,e7,e8,e9,e10,e11,and_self]
theorem yQB{l:List Oq}(h:k<l.length):oqAt (ops l) (k*12)=l[k]:=by
 obtain⟨e0,e1,e2,e3,e4,e5,e6,e7,e8,e9,e10,e11⟩:=zXG h;simp only[oqAt,show k*12+2=k*12+1+1 from rfl,show k*12+3=k*12+1+1+1 from rfl,show k*12+4=k*12+1+1+1+1 from rfl,show k*12+5=k*12+1+1+1+1+1 from rfl,show k*12+6=k*12+1+1+1+1+1+1 from rfl,show k*12+7=k*12+1+1+1+1+1+1+1 from rfl,show k*12+8=k*12+1+1+1+1+1+1+1+1 from rfl,show k*12+9=k*12+1+1+1+1+1+1+1+1+1 from rfl,show k*12+10=k*12+1+1+1+1+1+1+1+1+1+1 from rfl,show k*12+11=k*12+1+1+1+1+1+1+1+1+1+1+1 from rfl,e0,e1,e2,e3,e4,e5,e6,e7,e8,e9,e10,e11]
def zQi(xs:List DV):List Oq:=(List.range (xs.length / 12)).map λk=>oqAt xs (k*12)
abbrev wZs:=@List.getElem_range
theorem zQC(l:List Oq):zQi (ops l)=l:=by
 have e:(ops l).length / 12=l.length:=by rw[zQc];omega
 unfold zQi;rw[e];refine wQP (by simp) λi h1 h2=>?_;simp only[List.getElem_map,wZs];exact yQB h2
def ctxB(l:List Oq):Bool:=match l.getLast? with
 |none=>true
 |some o=>o.iso && !o.kno
open Go.Proofs.Tryz (prog)
theorem zQb:prog.follows .mixedOrders=true:=by kernel_rfl
theorem vv(Γ:Gam){f:FuncId}{fn:Func}{args:List RV}{res:RV}(ann:Ann)(hf:prog.funcs[f]?=some fn)(X:Prop)(p:RV.wfs args->X)(hb:fn.body.isSome=true:=by rfl)(hl:args.length<=fn.ntmps:=by exact nL rfl)(e:(vcg prog Γ fn.ntmps (zKI fn) ann kn0 (start args) (post prog fn.results.toList (·=res)))=X:=by kernel_rfl):Ans prog f args res:=zQa (Γ:=Γ) ann zQb hf hb hl λw=>Eq.mpr e (p w)
theorem vw(Γ:Gam){f:FuncId}{fn:Func}{pin:Nat}{args:List AV}{ins:List Bx}{r:Ret}(ann:Ann)(hf:prog.funcs[f]?=some fn)(X:Prop)(p:AV.wfL args->Bx.wfL ins->X)(hb:fn.body.isSome=true:=by rfl)(hl:args.length<=fn.ntmps:=by exact nL rfl)(hp:(List.range pin).all (λb=>(zQP ins b).known)=true:=by rfl)(e:(vcg prog Γ ⟨fn.ntmps,λ_=>false,List.range pin,false⟩ (zKI fn) ann kn0 (zH4 args ins) (jJX prog ⟨fn.ntmps,λ_=>false,List.range pin,false⟩ fn.results.toList r))=X:=by kernel_rfl):AnsG prog f pin args ins r:=zQe (Γ:=Γ) ann zQb hf hb hl hp λw v=>Eq.mpr e (p w v)
def uj(l:List RV):List DV:=l.map λ| .d d=>d|_=>.bool false
def ul(l:List RV)(k:Nat):List DV:=match l[k]? with|some (.agg l)=>l|_=>[]
def uv(l:wc):List DV:=l.map λ| .d d=>d|_=>.bool false
def um(l:List AV):List DV:=l.map λ| .one (.d d)=>d|_=>.bool false
def uq(l:List AV)(k:Nat):List DV:=match l[k]? with|some (.agg l)=>uv l|_=>[]
def ur(l:List Bx)(k:Nat):wc:=match l[k]? with|some (.cells l)=>l|_=>[]
def ut(l:List Bx)(k:Nat):List DV:=match l[k]? with|some (.row _ _ l)=>l|_=>[]
def uw(l:wc)(k:Nat):Nat:=match l[k]? with|some (.ref _ n)=>n|_=>0
def gamM:Gam:=gam0.add [.p 27 (λv=>some (rJ (modS (nAt (uj v) 0) (nAt (uj v) 1))))]
def aB(a:Int):DV:=DV.int IntKind.i64 a
def aV(a:Int):RV:=RV.d (aB a)
def gX(a b:Int):Prop:=decide (a<b)=false
def aU(a:Int):Int:=wrap IntKind.i64 a
def bD(a b:Prop):Prop:=True/\True/\a/\True/\b
def gH(a:Int):Prop:=a≠0
def jE(a b:Int):Prop:=decide (a<b)=true
theorem zQj(n k:Int):Ans prog 27 [rJ (n),rJ (k)] (rJ ((modS n k))):=
 vv gamM aL Tryz.func27 (True/\True/\True/\(jE k 1->True/\aV 0=aV (modS n k))/\(gX k 1->bD (gH k) (bD (gH k) (aV (Int.tmod (aU (Int.tmod n k+k)) k)=aV (modS n k))))) λhwf=>by
  delta eS aB aV gX aU bD gH jE;simp only[true_and,and_true,RV.d.injEq,DV.int.injEq,wQ3,wZh,wZf];unfold modS;grind
section
attribute [local irreducible] Ans AnsO AnsG AnsN AnsI
theorem yQ0(e n:Nat)(b:Bool)(l:List Int):zYe ⟨.tup [.one (.ref 0 n),.one (.d (.bool b))],[.row e 1 (is l)],true⟩=True:=by
 simp only[zYe,AV.flatV,AV.flatVL,Cl.flatV,DV.flat,Bx.flatVL,Bx.flatV,true_and,and_true,eq_iff_iff,iff_true];intro d hd;obtain⟨i,_,rfl⟩:=wQw.1 hd;rfl
def gamO:Gam:=gamM.add [.p 28 (λv=>some (rJ (atS (ints (cAt (uj v) 0)) (nAt (uj v) 1)))),
 .p 31 (λ| []=>some (RV.tup [RV.tup [rJ 3,rJ 1]])|[.d (.sl n xs),.d (.int _ m)]=>some (RV.d (dS (zKc (ints xs) m).length (is (zKc (ints xs) m))))|_=>none),
 .q 79 ([true,true],0,1) (λv b=>let e:=ints (cAt (um v) 0);let f:=nAt (um v) 1;let c:=zXx e f;some ⟨AV.tup [AV.one (Cl.ref 0 c.length),AV.one (Cl.d (dQ (zZ4 e f)))],[Bx.row 3 1 (is c)],true⟩)]
def aW(a:Int)(b:Nat):Nat:=Int.toNat a*b
def aE(a b:Prop):Prop:=a->True/\True/\b
def iE(a:Int)(b c:Nat)(d:List DV):Prop:=0<=a/\a<(b:Int)/\aW a c<List.length d
def aP(a b c:Prop):Prop:=True/\True/\True/\aE a b/\c
def tA(a b:Int)(c:Bool):Prop:=decide (a<b)=(!c)
def eJ(a b:Int):Prop:=decide (a>=b)=true
def oI(a:List DV)(b:Int)(c:Nat):Prop:=a[aW b c]?=some (aB (nAt a (aW b c)))
def fI(a b:Int):Prop:=decide (a>=b)=false
def dY(a b c:Prop):Prop:=True/\a/\b/\True/\c
def oZ(a b c d:Prop):Prop:=True/\True/\True/\(a->True/\b)/\(c->True/\d)
def jC(a b:Int):Prop:=aV a=aV b
def mR(a:Int):Prop:=gX a 0
def nY(a:Int):Prop:=tA a 0 false
def aAZ(a:Prop)(b c:Int):Prop:=aE a (aV b=aV c)
theorem jUf(n:Nat)(xs:List DV)(i:Int)(hx:xs=is (ints xs)/\n=xs.length):Ans prog 28 [rD (dS n xs),rJ (i)] (rJ ((atS (ints xs) i))):=
 vv gamO aL Tryz.func28 (let a:=atS (ints xs) i;True/\aP (mR i) (oZ (eJ i (n:Int)) (jC 0 a) (fI i (n:Int)) (dY (iE i n 1 xs) (oI xs i 1/\True) (rD (aB (nAt xs (aW i 1)))=aV a))) (aAZ (nY i) 0 a)) λhwf=>by
  delta eS aB aV aW aE iE aP tA eJ gX oI fI dY oZ jC mR nY aAZ;simp only[sS,zQj];obtain⟨hx,rfl⟩:=hx;generalize hl:ints xs=l at *;subst hx;simp only[zQl,wQg];refine⟨λh1=>⟨λh2=>?_,λh2=>?_⟩,λh1=>by simp[atS,h1]⟩
  .have:l[i.toNat]?=none:=wQW (by omega);simp[atS,h1,this]
  .have h:i.toNat<l.length:=by omega
   refine⟨by omega,?_,?_⟩
   .rw[jQF h];exact jVT h
   .rw[jQF h];simp[atS,h1,List.getElem?_eq_getElem h]
def aKO(a:Nat)(b:Cl):Nat × AV:=(a,AV.one b)
def fK(a:Ann):Ann:=Ann.seq Ann.leaf a
def aNA(a:Nat)(b:DV):Nat × AV:=aKO a (Cl.d b)
def aDG(a:Nat)(b:Bx)(c:vD):vD:=(a,b)::c
def mP(a:Nat)(b:DV)(c:vz):vz:=aNA a b::c
def iF(a:Nat)(b:DV)(c:Nat)(d:DV)(e:vz):vz:=mP a b (mP c d e)
def gY(a:Ann):Ann:=fK (fK a)
def aHU(a:Nat)(b:Cl)(c:vz):vz:=aKO a b::c
def jJ(a:vz)(b:Nat)(c:Bx)(d:vD):Snap:=⟨a,aDG b c d⟩
def fC(a:Nat):DV:=aB (a:Int)
def vT(a:Ann):Ann:=Ann.seq a Ann.leaf
def nA(a:Ann):Ann:=vT (fK a)
def aBH(a:Nat)(b:Int)(c:Nat)(d:DV)(e:vz):vz:=iF a (aB b) c d e
def iP(a b c:Nat)(d:vz):vz:=aHU a (Cl.ref b c) d
def mT(a:Int)(b:Nat):Nat:=Int.toNat a-b
def kY(a:Nat)(b:Int):Prop:=a<=Int.toNat b
def aGV(a:Nat)(b:Int)(c d:Nat)(e:List DV)(f:vz):vz:=aBH a b c (DV.sl d e) f
def wN(a b:Nat)(c:Int)(d:vz):vz:=iP a b (Int.toNat c) d
def oF(a b:Nat)(c:List DV)(d:vz):vz:=mP a (DV.sl b c) d
def zC(a b:Nat)(c:vz):vz:=mP a (fC b) c
def pH(a:Ann):Ann:=fK (nA a)
def qA(a:Ann):Ann:=fK (gY a)
def yY(a:vz)(b c d:Nat)(e:List DV)(f:vD):Snap:=jJ a b (Bx.row c d e) f
def rU(a b:Nat):vz:=zC a b []
def aG(a b c d:Prop):Prop:=a/\b/\c/\d/\True
def aX(a b:Prop):Prop:=True/\a/\True/\True/\b
def cL(a:FuncId)(b:Int)(c:List RV)(d:RV):Prop:=Ans prog a (aV b::c) d
def fR(a b c d e:Prop):Prop:=a/\aG b c d e
def fS(a:Int):Prop:=(a==0)=false
def fJ(a b c:Prop):Prop:=a->True/\True/\True/\b/\c
def aEW(a:Int)(b:List DV):DV:=DV.sl (Int.toNat a) b
def bM(a:Int):Prop:=eS (aB a)
def bP(a b c:Prop):Prop:=a->True/\True/\b/\c
def aR(a b:Prop):Prop:=a/\True/\True/\True/\b
def eY(a b c:Prop):Prop:=a/\b/\True/\True/\c
def yX(a b:Int):Prop:=cL 27 a [aV b] (aV (modS a b))
def aT(a b:Prop):Prop:=a/\b/\True
def gD(a:Bool):Prop:=a=(!false)
def fL(a:Nat)(b:List DV):Prop:=a<=List.length b
def aZ(a b:Nat):Nat:=aW (a:Int) b
def dE(a b c:Prop):Prop:=a/\aT b c
def gU(a:Int)(b:Nat):Prop:=0<=a/\a<(b:Int)
def bQ(a b:Nat):Prop:=aB (aU ((a:Int)+1))=fC b
def bL(a b c:Prop):Prop:=a->True/\b/\c
def dR(a b:Int):Prop:=decide (a>b)=false
def eF(a:List DV)(b:Int)(c:Nat):Int:=nAt a (aW b c)
def cR(a b:Nat):Nat:=aZ a b+1
def gL(a b:Int):Prop:=decide (a>b)=true
def tW(a:Int)(b:DV)(c:List DV):Prop:=List.replicate (Int.toNat a) b=c
def rV(a b:Int):Prop:=gU a (Int.toNat b)
def dC(a:Nat):Prop:=aB 0=fC a
def pM(a:Nat)(b:List DV)(c:List RV):List RV:=RV.d (DV.sl a b)::c
def nS(a:Nat)(b:List Int):Prop:=a=List.length b
def wQ(a b:Nat)(c:List DV):List DV:=List.take a (List.drop b c)
def nR(a:Int):List DV:=[aB a]
def qB(a b:Prop):Prop:=True/\True/\True/\True/\True/\a/\b
def kZ(a:List DV)(b:Nat)(c:DV)(d:List DV):Prop:=List.set a (aZ b 1) c=d
def wO(a b:Int):Nat:=Int.toNat (a-b)
def rW(a:Nat):Prop:=gL (a:Int) 0
def oG(a:Int)(b:Nat):Prop:=0<=a/\a<=a/\a<=(maxLen:Int)/\(b:Int)*a<=281474976710656
def uB(a:Nat):Prop:=dR (a:Int) 0
def mU(a:Prop):Prop:=aR (eS true) a
def yZ(a:Int)(b c:Nat):Prop:=mT a b<mT a c
def oH(a:Int):Int:=aU (a+1)
def tX(a:FuncId)(b:Nat)(c:List DV)(d:List RV)(e:RV):Prop:=Ans prog a (pM b c d) e
def pI(a:List Int)(b:Int):Prop:=oI (is a) b 1/\True
def aGW(a:Int)(b:Nat)(c:Prop):Prop:=0<=a/\a<=(b:Int)/\c
abbrev wYA:=@List.drop_zero
theorem zG3(n:Nat)(xs:List DV)(m:Int)(hx:xs=is (ints xs)/\n=xs.length)(hm:0<=m):AnsO prog 31 [rD (dS n xs),rJ (m)] 3 1 ((zKc (ints xs) m).length) (is (zKc (ints xs) m)):=
 zWS (t:=4) (Γ:=gamO) (qA (aQ (fK (ui (λe=>kY e m) (λb=>yY (iF 0 (DV.sl n xs) 1 (aB m) (wN 5 1005 m (rU 6 b))) 1005 3 1 (is (upto b)++List.replicate (mT m b) (aB 0)) []) (λd=>mT m d) (λf=>aL))) (pH (ui (λe=>kY e m) (λa=>let c:=stp (ints xs) (Int.toNat m) a;yY (oF 0 n xs (aGV 1 m 5 (mT m a) (is c.fst) (iP 7 1007 a (rU 8 a)))) 1007 3 1 (is c.snd) []) (λd=>mT m d) (λf=>aL))))) zQb Tryz.func31 rfl (nL rfl) rfl λhwf=>by
  refine Eq.mpr (by kernel_rfl:_=(let h:=ints xs;let q:=zKc h m;let r:=is q;let x:=r=([]:List DV);let y:=List.length q;let z:=y=0;let s:=Int.toNat m;let o:=eS (DV.sl n xs);let p:=aB 0;qB (fJ (fS (n:Int)) (bL (gL m 64) z x) (dR m 64->True/\oG m 8/\True/\True/\(∃j:Nat,dE (kY j m) (aG o (bM m) (eS (Int.toNat m)) (dC j)) (tW m p (is (upto j)++List.replicate (mT m j) p)))/\(∀a:Nat,let w:=is (upto a)++List.replicate (mT m a) p;fJ (kY a m) (fJ (jE (a:Int) m) (rV (a:Int) m) (aR (fL (cR a 1) w) (∃g:Nat,aG (kY g m) (yZ m g a) (aG o (bM m) (eS (Int.toNat m)) (bQ a g)) (kZ w a (fC a) (is (upto g)++List.replicate (mT m g) p))))) (bP (gX (a:Int) m) (∃f:Nat,let J:=stp h s f;dE (kY f m) (fR o (bM m) (aEW m w=DV.sl (mT m f) (is J.fst)) (0=f) (dC f)) (([]:List DV)=is J.snd)) (∀b:Nat,let t:=stp h s b;let u:=is t.snd;let e:=mT m b;let i:=(e:Int);let v:=atS h (b:Int);let c:=modS v i;let B:=t.fst;let C:=nR (eF (is B) c 1);let k:=is t.fst;let l:=oH c;let D:=i-l;let E:=wQ (aW D 1) (aW l 1) k;let F:=c-0;let G:=aW F 1;let H:=wQ G (aW 0 1) k;let I:=wO c 0;kY b m->oZ (rW e) (aX (tX 28 n xs [aV (b:Int)] (aV v)) (aR (yX v i) (dY (iE c e 1 k) (pI B c) (aR (zZQ 1 8 b 1 u C) (eY ((0:Int)<=0/\0<=c/\c<=(e:Int)) (zZQ 1 8 0 (Int.toNat F) [] (wQ G (aW 0 1) k)) (dY (aGW l e (i<=i)) (zZQ 1 8 I (Int.toNat D) H E) (mU (∃d:Nat,let A:=stp h s d;aG (kY d m) (yZ m d b) (fR o (bM m) (DV.sl (I+wO i l) (H++E)=DV.sl (mT m d) (is A.fst)) (b+1=d) (bQ b d)) (u++C=is A.snd))))))))) (uB e) (True/\(eS (3:Nat)/\eS (1:Nat))/\List.length r=y*1/\nS b q/\u=r)))))) (bP (gD ((n:Int)==0)) z x))) ?_;delta eS aB aV aW iE gX oI dY oZ aU aG aX cL fR fS fJ aEW jE bM bP aR eY yX fC mT kY aT gD fL aZ dE gU bQ bL dR eF cR gL tW rV dC pM nS wQ nR qB kZ wO rW oG uB mU yZ oH tX pI aGW;simp only[sS,zQj];obtain⟨hx,rfl⟩:=hx;generalize hl:ints xs=l at *;subst hx;have z0:l.length=0->zKc l m=[]:=λh=>by simp[zKc,h]
  have z1:64<m->zKc l m=[]:=λh=>by simp[zKc,h]
  refine⟨λhne=>⟨λhbig=>by rw[z1 hbig];exact⟨rfl,rfl⟩,λhsm=>?_⟩,λhe=>by rw[z0 (by simpa [zQl]using he)];exact⟨rfl,rfl⟩⟩;have hll:l.length≠0:=by simpa [zQl]using hne
  have hp:zKc l m=(stp l m.toNat m.toNat).2:=by unfold zKc;rw[if_neg (by omega)]
  obtain⟨N,rfl⟩:∃N:Nat,m=(N:Int):=⟨m.toNat,by omega⟩
  rw[hp];simp only[wQp,wQg,maxLen];have hN:N<=64:=by omega
  have wr:∀n:Int,-1000000<=n->n<=1000000->wrap .i64 n=n:=λn h h'=>by rw[wQ9];omega
  refine⟨by omega,⟨0,wQj _,rfl,by simp[upto,is]⟩,λk hk=>⟨λhlt=>?_,λhge=>⟨⟨0,wQj _,⟨⟨rfl,?_⟩,rfl,rfl⟩,rfl⟩,λj hj=>⟨λhlt=>?_,λhge=>?_⟩⟩⟩⟩
  .refine⟨by omega,by rw[wQe,zQl,zUm,wXD];omega,k+1,by omega,by omega,by rw[wr _ (by omega) (by omega)];omega,jHH (by omega)⟩
  .have:k=N:=by omega
   subst this;simp[stp]
  .obtain⟨h1,h2⟩:=zGj l hN j (by omega);have hK:=jVO (v:=atS l j) (m:=(stp l N j).1.length) (by omega) (by omega);have e1:(stp l N (j+1)).1=(stp l N j).1.take (modS (atS l j) (stp l N j).1.length).toNat++(stp l N j).1.drop ((modS (atS l j) (stp l N j).1.length).toNat+1):=rfl;have e2:(stp l N (j+1)).2=(stp l N j).2++[((stp l N j).1[(modS (atS l j) (stp l N j).1.length).toNat]?).getD 0]:=rfl;have ha:=jUf l.length (is l) (j:Int) ⟨by rw[zZI],by rw[zQl]⟩;rw[zZI]at ha;generalize (stp l N j).1=r at *;generalize (stp l N j).2=o at *;subst h2;rw[h1]at hK e1 e2;generalize hg:modS (atS l (o.length:Int)) ((N-o.length:Nat):Int)=g at *;obtain⟨K,rfl⟩:∃K:Nat,g=(K:Int):=⟨g.toNat,by omega⟩
   simp only[wQp]at hK e1 e2 |-;have w1:wrap .i64 ((K:Int)+1)=((K+1:Nat):Int):=by rw[wr _ (by omega) (by omega)];omega
   have t1:((K:Int)-0).toNat=K:=by omega
   have t2:(((N-o.length:Nat):Int)-((K+1:Nat):Int)).toNat=N-o.length-(K+1):=by omega
   have t3:Int.toNat 0=0:=rfl;have hKr:K<r.length:=by omega
   have d1:List.take (N-o.length-(K+1)) (List.drop (K+1) (is r))=is (r.drop (K+1)):=by rw[yZ7,wQR (by rw[zQl,wQF];omega)]
   simp only[w1,t1,t2,t3,wQp,wYA,d1,yZ6,zQl,zZQ,wQg,zVW,jQF hKr,List.getElem?_eq_getElem hKr,wQA,maxLen]at e2 |-;refine⟨ha,⟨by omega,by omega,hKr⟩,jVT hKr,⟨trivial,rfl,by omega,by omega⟩,by omega,⟨rfl,?_,by omega,by omega⟩,by omega,⟨?_,?_,by omega,by omega⟩,o.length+1,by omega,by omega,⟨⟨by omega,by rw[e1]⟩,rfl,by rw[wr _ (by omega) (by omega)];omega⟩,by rw[e2,<-zVW];rfl⟩
   all_goals simp
   all_goals omega
  .have:j=N:=by omega
   subst this;have h2:=(zGj l hN j (Nat.le_refl _)).2;rw[zQl,h2];exact⟨rfl,rfl,rfl⟩
def vL(a:Nat)(b:Bx)(c:Nat)(d:Bx)(e:vD):vD:=aDG a b (aDG c d e)
def lB(a:Nat)(b:Bx)(c d e:Nat)(f:List DV)(g:vD):vD:=vL a b c (Bx.row d e f) g
def gI(a:Ann):Ann:=gY (nA a)
def aKN(a b c:Nat)(d:List DV)(e f g:Nat)(h:List DV)(i:vD):vD:=lB a (Bx.row b c d) e f g h i
def aGM(a b c:Nat)(d:List DV)(e f g:Nat)(h:List DV):vD:=aKN a b c d e f g h []
def aKM(a b:Nat)(c:List DV)(d e f:Nat)(g:List DV):vD:=aGM a b 1 c d e f g
def uD(a:Nat)(b:List DV)(c d e:Nat)(f:List DV):vD:=aKM a 3 b c d e f
def xM(a b c:Nat)(d:DV)(e:vz):vz:=iF a (fC b) c d e
def zF(a b c d:Nat)(e:vz):vz:=xM a b c (fC d) e
def lO(a b c d:Nat):vz:=zF a b c d []
def aGQ(a:Nat)(b:Int)(c:List Int):Prop:=kY a b/\zV0 (List.take a (seqL c b)) b
def aGR(a:Nat)(b:List Int)(c:Int):List DV:=zKO (List.take a (seqL b c)) (Int.toNat c)
def eC(a b c:Prop):Prop:=a/\b/\c
def bE(a:DV):AV:=AV.one (Cl.d a)
def aN(a b:Prop):Prop:=a->True/\True/\True/\b
def rP(a:List AV)(b:List Bx)(c:Bool):Ret:=⟨AV.tup a,b,c⟩
def kE(a:Bool):List AV:=[bE (DV.bool a)]
def kG:DV:=DV.bool false
def cP(a:DV)(b c:Prop):Prop:=eS a/\b/\c
def bG(a:Bool):Prop:=a=(!true)
def pG(a:Bool)(b:Prop):Prop:=a=false->True/\b
def aBC(a b c d:Prop):Prop:=a/\True/\True/\(b->True/\c)/\d
def dF(a b c:Nat)(d:List DV):Prop:=iE (a:Int) b c d
def fU(a b c:Prop):Prop:=True/\True/\True/\(a->True/\True/\True/\b)/\c
def cB(a:List DV)(b c:Nat):Int:=nAt a (aZ b c)
def dT(a b:Nat):Prop:=decide ((a:Int)<(b:Int))=true
def eV(a b:Nat):Prop:=decide ((a:Int)<(b:Int))=false
def mZ(a:List DV)(b c:Nat):Prop:=a[aZ b c]?=some (aB (nAt a (aZ b c)))
def mX(a:Nat)(b c:Prop):Prop:=True/\a<=maxLen/\True/\b/\c
def jH(a b:Bool):Prop:=DV.bool a=DV.bool b
def yP(a:List DV)(b:Nat):Prop:=a[b]?=some (DV.bool (bAt a b))
def iS(a:Nat):Prop:=eS (fC a)
def pN(a:List DV)(b:Nat):Prop:=yP a b/\True
def cS(a:Bool)(b c:Prop):Prop:=True/\True/\True/\(a=true->True/\b)/\c
def uI(a:List DV)(b:Nat):Prop:=mZ a b 1/\True
def xH(a b:Int):Prop:=gD (decide (a>=b))
def dN(a b:Int):Prop:=(a !=b)=false
def mK(a b:Int):Prop:=gD (decide (a>b))
def uX(a:Int)(b c:Prop):Prop:=cS (a !=0) (True/\True/\b) c
def yM(a b c d:Prop):Prop:=True/\True/\True/\(a->True/\b)/\aE c d
def aDS(a b:Int)(c d:Prop):Prop:=True/\True/\True/\(dR a b->True/\c)/\d
def aJH(a:Int)(b:Prop):Prop:=cP (aB a) (eS (Int.toNat a)) b
abbrev wXG:=@List.map_const'
theorem zWH(n:Nat)(xs:List DV)(m:Int)(hx:xs=is (ints xs)/\n=xs.length):AnsG prog 79 0 [aO (cD (dS n xs)),aJ ((m))] [] ⟨AV.tup [aO (Cl.ref 0 ((zXx (ints xs) m).length)),aO (cD (dQ (zZ4 (ints xs) m)))],[bR 3 1 (is (zXx (ints xs) m))],true⟩:=
 vw gamO (gY (gI (ui (λc=>aGQ c m (ints xs)) (λa=>(⟨iF 0 (DV.sl n xs) 1 (aB m) (wN 6 1006 m (wN 7 1007 m (lO 31 (Int.toNat m) 32 a))),uD 1006 (zV4 (seqL (ints xs) m) a) 1007 4 1 (aGR a (ints xs) m)⟩:Snap)) (λb=>mT m b) (λd=>aL)))) Tryz.func79 (let b:=ints xs;let v:=zXx b m;let w:=is v;let E:=[bR 3 1 w];let x:=zZ4 b m;let F:=aO (Cl.ref 0 (List.length (zXx b m)))::kE x;let y:=zYe (rP F E true);let d:=aT (aT (nS 0 v) (jH false x)/\True) (([]:List DV)=w);let G:=True/\d/\y;let z:=True/\True/\G;let p:=zYe (rP F E true);let q:=seqL b m;let l:=Int.toNat m;let A:=iS l;let B:=eS (Int.toNat m);let C:=eS (DV.sl n xs);let R:=bD (oG m 1) (mX l (∃o:Nat,aG (aGQ o m b) (C/\aJH m (dE B A (dC o))) (tW m (aB 0) (zV4 q o)) (tW m kG (aGR o b m))) (∀a:Nat,let k:=zV4 q a;let r:=aZ a 1;let e:=List.set k r (fC a);let f:=cB e a 1;let s:=aW f 1;let c:=aGR a b m;let H:=rV f m;let I:=mZ (List.set k r (fC a)) a 1/\True;let t:=rV (a:Int) m;let J:=bAt c s;let K:=uI e a;let g:=rV (a:Int) m;let D:=aB (nAt xs (aZ a 1));let L:=List.set e r D;let h:=cB L a 1;let u:=aW h 1;let M:=rV h m;let O:=mZ (List.set e r D) a 1/\True;let P:=bAt c u;let Q:=uI L a;bL (aGQ a m b) (aN (dT a l) (True/\True/\g/\fL (cR a 1) k/\fU (rW n) (True/\dF a n 1 xs/\uI xs a/\g/\fL (cR a 1) e/\True/\True/\g/\aBC Q (mR h) (dY g Q (True/\True/\True/\(fI h m->True/\True/\True/\t/\O/\M/\pN c u/\eC True (bP (P=true) d y) (pG P (True/\True/\t/\O/\eY M (fL (u+1) c) (∃j:Nat,fR (aGQ j m b) (yZ m j a) (C/\aJH m (dE B A (bQ a j))) (kZ e a D (zV4 q j)) (List.set c u (DV.bool true)=aGR j b m)))))/\fJ (xH h m) d p)) (aE (nY h) z)) (bP (uB n) g (aBC K (mR f) (dY g K (True/\True/\True/\(fI f m->True/\True/\True/\t/\I/\H/\pN c s/\eC True (bP (J=true) d y) (pG J (True/\True/\t/\I/\eY H (fL (s+1) c) (∃i:Nat,fR (aGQ i m b) (yZ m i a) (C/\aJH m (dE B A (bQ a i))) (kZ k a (fC a) (zV4 q i)) (List.set c s (DV.bool true)=aGR i b m)))))/\fJ (xH f m) d p)) (aE (nY f) z))))) (fJ (eV a l) (aT (aT (nS l v) (jH true x)/\True) (k=w)) p)));True/\True/\yM (mR m) (aDS m 16777216 (uX (n:Int) (cS ((n:Int) !=m) G (bL (dN (n:Int) m) (oG m 8) R)) (fJ (bG ((n:Int) !=0)) (oG m 8) R)) (fJ (mK m 16777216) d p)) (nY m) z) λhwf hbx=>by
  delta eS aB aW aE iE tA gX fI dY mR nY eC aU aG bE aN bD fR fJ rP kE kG cP bG bP eY pG aBC fC mT kY aT gD fL aZ dE gU bQ bL dR cR gL tW rV dC nS kZ rW oG uB yZ dF fU cB dT eV mZ mX jH yP iS pN cS uI xH dN mK uX yM aDS aGQ aGR aJH;simp only[sS,zQj];obtain⟨hx,rfl⟩:=hx;generalize hl:ints xs=l at *;subst hx;simp only[zQl,yQ0,and_true];refine⟨λh0=>⟨λhM=>⟨λhp=>⟨λhne=>?_,λhe=>?_⟩,λhz=>?_⟩,λhM=>(by have e:=jJ2 (l:=l) (m:=m) (.inr (.inl (by omega)));rw[e.1,e.2];exact⟨⟨rfl,rfl⟩,rfl⟩)⟩,λh0=>(by have e:=jJ2 (l:=l) (m:=m) (.inl (by omega));rw[e.1,e.2];exact⟨⟨rfl,rfl⟩,rfl⟩)⟩
  .have e:=jJ2 (l:=l) (m:=m) (.inr (.inr (.inl ⟨by simpa using hp,by simpa using hne⟩)));rw[e.1,e.2];exact⟨⟨rfl,rfl⟩,rfl⟩
  .have hl:l.length=0\/(l.length:Int)=m:=.inr (by simpa using he);have hp':l.length≠0:=by simpa using hp
   have hS:=jXY hl;refine⟨⟨by omega,by omega,by unfold maxLen;omega,by omega⟩,⟨by omega,by omega,by unfold maxLen;omega,by omega⟩,by unfold maxLen;omega,⟨0,⟨by omega,by simp[zV0]⟩,rfl,by simp[zV4,hS,is],by simp[zKO,wXG]⟩,λk hk=>⟨λhlt=>?_,λhge=>?_⟩⟩
   .have hkS:k<(seqL l m).length:=by omega
    have hkl:k<l.length:=by omega
    have hv0:nAt (is l) k=(seqL l m)[k]:=by
     rw[jQF hkl];simp[seqL,show l≠[] by intro e;subst e;simp at hkl]
    have hi:(is l)[k]?=some (.int .i64 (seqL l m)[k]):=by rw[jVT hkl,<-jQF hkl,hv0]
    have hv:(seqL l m)[k]=(seqL l m)[k]:=rfl;have f1:=zUY (Nat.le_of_lt hkS);have f2:=jKG hkS hv;have f3:=jYM hkS;have f4:=jKH hkS;have f5:=zUY (S:=seqL l m) (k:=k+1) (by omega);have r:=jJ1 (by omega) (by omega) hS hkS hk.2 rfl (Bad:=(0=(zXx l m).length/\false=zZ4 l m)/\[]=is (zXx l m)) (λhb=>by have e:=jJ2 (l:=l) (m:=m) (.inr (.inr (.inr hb)));rw[e.1,e.2];exact⟨⟨rfl,rfl⟩,rfl⟩);simp only[wQg,List.set_set,wQL,f1,f2,f3,f4,f5,hv0,hi]at r |-;refine⟨by omega,by omega,λ_=>⟨by omega,trivial,by omega,by omega,by omega,trivial,λa=>⟨by omega,trivial,λb=>?_,(r.1 a).2⟩,r.2⟩,λhz=>absurd (by omega) hz⟩;obtain⟨r1,r2,r3,r4⟩:=(r.1 a).1 b;refine⟨by omega,trivial,r1,r2,r3,λc=>?_⟩;obtain⟨s1,s2,_,k',s3,s4,⟨rfl,s6⟩,s7,_⟩:=r4 c;exact⟨by omega,trivial,s1,s2,k+1,s3,s4,s6,rfl,s7⟩
   .have hkm:k=(seqL l m).length:=by omega
    have hg:=hk.2;rw[wQR (by omega)]at hg;have e:=jYg (by omega) (by omega) hl hg;rw[e.1,e.2];exact⟨⟨by omega,rfl⟩,by rw[hkm,jKI]⟩
  .have hl:l.length=0\/(l.length:Int)=m:=.inl (by simpa using hz);have hz':l.length=0:=by simpa using hz
   have hS:=jXY hl;refine⟨⟨by omega,by omega,by unfold maxLen;omega,by omega⟩,⟨by omega,by omega,by unfold maxLen;omega,by omega⟩,by unfold maxLen;omega,⟨0,⟨by omega,by simp[zV0]⟩,rfl,by simp[zV4,hS,is],by simp[zKO,wXG]⟩,λk hk=>⟨λhlt=>?_,λhge=>?_⟩⟩
   .have hkS:k<(seqL l m).length:=by omega
    have hv:(k:Int)=(seqL l m)[k]:=by
     simp[seqL,show l=[] by exact List.eq_nil_of_length_eq_zero hz',upto]
    have f1:=zUY (Nat.le_of_lt hkS);have f2:=jKG hkS hv;have f3:=jYM hkS;have f4:=jKH hkS;have f5:=zUY (S:=seqL l m) (k:=k+1) (by omega);have r:=jJ1 (by omega) (by omega) hS hkS hk.2 rfl (Bad:=(0=(zXx l m).length/\false=zZ4 l m)/\[]=is (zXx l m)) (λhb=>by have e:=jJ2 (l:=l) (m:=m) (.inr (.inr (.inr hb)));rw[e.1,e.2];exact⟨⟨rfl,rfl⟩,rfl⟩);simp only[wQg,List.set_set,wQL,f1,f2,f3,f4,f5]at r |-;refine⟨by omega,by omega,λhp=>absurd hp (by omega),λ_=>⟨by omega,trivial,λa=>⟨by omega,trivial,λb=>?_,(r.1 a).2⟩,r.2⟩⟩;obtain⟨r1,r2,r3,r4⟩:=(r.1 a).1 b;refine⟨by omega,trivial,r1,r2,r3,λc=>?_⟩;obtain⟨s1,s2,_,k',s3,s4,⟨rfl,s6⟩,s7,_⟩:=r4 c;exact⟨by omega,trivial,s1,s2,k+1,s3,s4,s6,rfl,s7⟩
   .have hkm:k=(seqL l m).length:=by omega
    have hg:=hk.2;rw[wQR (by omega)]at hg;have e:=jYg (by omega) (by omega) hl hg;rw[e.1,e.2];exact⟨⟨by omega,rfl⟩,by rw[hkm,jKI]⟩
end
def zXY(l:Int)(xs:List DV):Bool:=(ints xs).all λv=>decide (-l<=v)&&decide (v<=l)
abbrev qD(q:Rc):List DV:=[DV.int .i64 q.a,DV.int .i64 q.b,DV.int .i64 q.c,DV.int .i64 q.d]
def ux(l:List DV):Rc:=⟨nAt l 0,nAt l 1,nAt l 2,nAt l 3⟩
def gZ0:List RV->Option RV:=λv=>some (RV.d (dQ (Rc.valid (ux (ul v 0)))))
def gZ1:List RV->Option RV:=λv=>some (RV.d (dQ (Rc.empty (ux (ul v 0)))))
def gam:Gam:=gamO.add [.p 162 (λv=>some (RV.d (dQ (zXY (nAt (uj v) 0) (cAt (uj v) 1))))),
 .p 85 gZ0,
 .p 84 gZ0,
 .p 40 gZ1,
 .p 207 (λv=>some (RV.agg (qD (Rc.clean (ux (ul v 0)))))),
 .p 151 (λv=>some (rJ (Rc.area (ux (ul v 0))))),
 .p 104 (λv=>some (RV.d (dQ (Rc.has (ux (ul v 0)) (nAt (uj v) 1) (nAt (uj v) 2))))),
 .p 41 (λ| [.agg [.int _ a,.int _ b,.int _ c,.int _ d],.agg [.int _ a',.int _ b',.int _ c',.int _ d']]=>some (RV.d (dQ (Rc.covers ⟨a,b,c,d⟩ ⟨a',b',c',d'⟩)))|_=>none),
 .p 157 (λ| [.agg [.int _ a,.int _ b,.int _ c,.int _ d],.agg [.int _ a',.int _ b',.int _ c',.int _ d']]=>some (RV.agg (qD (Rc.inter ⟨a,b,c,d⟩ ⟨a',b',c',d'⟩)))|_=>none),
 .p 39 gZ1]
def aK(a:Prop):Prop:=True/\True/\True/\True/\True/\True/\True/\True/\a
def bK(a b:Prop):Prop:=a->True/\True/\True/\True/\b
def aM(a:Bool):RV:=RV.d (DV.bool a)
def bI(a:Prop):Prop:=True/\True/\True/\a
def fP(a b:Prop):Prop:=aE a (True/\True/\True/\True/\b)
def rX(a b:Int)(c d:Prop):Prop:=True/\True/\True/\(eJ a b->True/\c)/\d
def jM(a b:Int):Prop:=bG (decide (a<=b))
def cZ(a b:Bool):Prop:=aM a=aM b
def lQ(a b:Int):Prop:=decide (a<=b)=true
def fY(a:Prop)(b:Bool):Prop:=aE a (aM false=aM b)
def gO(a:Bool):Prop:=aM false=aM a
def xE(a b:Int)(c:Bool):Prop:=cZ (decide (a<=b)) c
def mG(a:Prop)(b:Bool):Prop:=bK a (gO b)
def mI(a:Prop)(b:Bool):Prop:=fP a (gO b)
def aHM(a:Int):Prop:=bG (decide (a>=(-(1073741824:Int))))
theorem zQV(a b c d:Int):Ans prog 84 [rA [dJ a,dJ b,dJ c,dJ d]] (rD (dQ (Rc.valid ⟨a,b,c,d⟩))):=
 vv gam aL Tryz.func84 (let e:=Rc.valid ⟨a,b,c,d⟩;let h:=gO e;let g:=aK h;let f:=(-(1073741824:Int));bI (aP (eJ a f) (aP (lQ a 1073741824) (aP (eJ b f) (aP (lQ b 1073741824) (aP (eJ c f) (aP (lQ c 1073741824) (rX d f (True/\True/\True/\True/\xE d 1073741824 e) (fY (aHM d) e)) (mG (jM c 1073741824) e)) (mI (aHM c) e)) (jM b 1073741824->aK h)) (aE (aHM b) g)) (bK (jM a 1073741824) g)) (fP (aHM a) g))) λhwf=>by
  delta eS aE aP eJ aK bG bK aM bI fP rX jM cZ lQ fY gO xE mG mI aHM;simp only[true_and,and_true,RV.d.injEq,RV.agg.injEq,RV.tup.injEq,DV.bool.injEq,DV.int.injEq,wQK,wQ3,wZh,wZf,wQn,wZl];grind [Rc.valid,okC]
def eO(a b c d:Int):List DV:=[aB a,aB b,aB c,aB d]
def bH(a:FuncId)(b:List DV)(c:List RV)(d:RV):Prop:=Ans prog a (RV.agg b::c) d
def bO(a:Bool):Prop:=(!a)=false
def dU(a:Bool):Prop:=gD (!a)
def nC(a b c d:Int):Bool:=Rc.empty ⟨a,b,c,d⟩
def uJ(a:FuncId)(b:List DV)(c:Bool)(d e:Prop):Prop:=bH a b [] (aM c)/\True/\True/\d/\e
theorem zQ4(a b c d:Int):Ans prog 39 [rA [dJ a,dJ b,dJ c,dJ d]] (rD (dQ (Rc.empty ⟨a,b,c,d⟩))):=
 vv gam aL Tryz.func39 (let e:=nC a b c d;let f:=Rc.valid ⟨a,b,c,d⟩;bI (uJ 84 (eO a b c d) f (bK (bO f) (fU (fI a c) (True/\True/\True/\True/\cZ (decide (b>=d)) e) (aE (xH a c) (cZ true e)))) (bK (dU f) (cZ true e)))) λhwf=>by
  delta eS aB aE fI eO bK gD bH fU aM bI cZ bO dU nC xH uJ;simp only[true_and,and_true,RV.d.injEq,RV.agg.injEq,RV.tup.injEq,DV.bool.injEq,DV.int.injEq,wQK,wQ3,wZh,wZf,wQn,wZl,zQV,zQj];grind [Rc.empty]
def bZ(a b:Nat)(c:Prop):Prop:=a<=b/\c
def nH(a:vz):Snap:=⟨a,[]⟩
def aGH(a b:Nat)(c:List DV)(d e f:Nat):vz:=oF a b c (lO d b e f)
def aHV(a b:Nat)(c:Int)(d:List DV):Prop:=bZ a b (zXY c (List.take a d)=true)
def cN(a b:Int):Int:=aU (a-b)
def fV(a b:Prop):Prop:=True/\True/\True/\True/\a/\b
def dZ(a b c:Nat):Prop:=a-b<a-c
def aAF(a b:Int)(c:Bool)(d:Prop):Prop:=yM (gL a b) (gO c) (dR a b) d
abbrev wXH:=@Bool.and_true
theorem jQq(l:Int)(n:Nat)(xs:List DV)(hx:xs=is (ints xs))(hn:n=xs.length)(hl:0<=l/\l<=4611686018427387904):Ans prog 162 [rJ (l),rD (dS n xs)] (rD (dQ (zXY l xs))):=
 vv gam (pH (ui (λc=>aHV c n l xs) (λb=>nH (aGV 0 l 1 n xs (aGH 7 n xs 8 9 b))) (λa=>n-a) (λd=>aL))) Tryz.func162 (let b:=eS (DV.sl n xs);fV (∃e:Nat,aT (aHV e n l xs) (cP (aB l) b (dE b (iS n) (dC e)))) (∀a:Nat,let d:=cB xs a 1;bL (aHV a n l xs) (dT a n->dF a n 1 xs/\aR (uI xs a) (True/\True/\True/\(gX d (cN 0 l)->True/\aAF d l (zXY l xs) (∃c:Nat,dE (aHV c n l xs) (dZ n c a) (cP (aB l) b (dE b (iS n) (bQ a c)))))/\fY (tA d (cN 0 l) false) (zXY l xs))) (eV a n->True/\cZ true (zXY l xs)))) λhwf=>by
  delta eS aB aW aE iE tA gX aU cN cP aR fC aT aZ dE bQ bL dR gL dC dF cB dT fV eV mZ aM bZ dZ iS uI cZ fY gO yM aAF aHV;simp only[true_and,and_true,RV.d.injEq,RV.agg.injEq,RV.tup.injEq,DV.bool.injEq,DV.int.injEq,wQK,wQ3,wZh,wZf,wQn,wZl,zQV,zQj,zQ4];obtain⟨L,rfl⟩:∃L,xs=is L:=⟨_,hx⟩
  subst hn;simp only[RV.wfs,RV.wf,DV.wf,zQl,IntKind.min,IntKind.max,IntKind.signed,IntKind.bits,and_true,maxLen]at hwf;simp only[zQl,wQp,wQg,wQf,wQX];have hsucc:∀k (h:k<L.length),zXY l (is (L.take (k+1)))=(zXY l (is (L.take k))&&(decide (-l<=L[k])&&decide (L[k]<=l))):=λk h=>by
   simp only[zXY,zZI,wZm,wYv,List.getElem?_eq_getElem h,wYw,wZX,List.all_nil,wXH]
  have htake:∀k,(is L).take k=is (L.take k):=λk=>by simp[is]
  have hall:∀k (h:k<L.length),zXY l (is L)=true -> -l<=L[k]/\L[k]<=l:=λk h hw=>by
   simp only[zXY,zZI,List.all_eq_true]at hw;have:=hw L[k] (List.getElem_mem h);simpa using this
  refine⟨⟨0,⟨by omega,by simp[zXY,ints]⟩,rfl⟩,λk hk=>⟨λhlt=>?_,λhge=>?_⟩⟩
  .have hlt':k<L.length:=by omega
   have h1:=hsucc k hlt';have h2:=hall k hlt';have hw:=yYo hwf.2.2 hlt';rw[jQF hlt',jVT hlt',wQb (0-l) (by omega)];refine⟨by omega,rfl,λh3=>⟨λh4=>?_,λh4=>⟨k+1,⟨by omega,?_⟩,by omega,?_⟩⟩,λh3=>?_⟩
   .cases h5:zXY l (is L) with
    |false=>rfl
    |true=>have:=h2 h5;omega
   .rw[htake,h1,<-htake,hk.2];simp;omega
   .rw[wQb _ (by omega)];omega
   .cases h5:zXY l (is L) with
    |false=>rfl
    |true=>have:=h2 h5;omega
  .have:k=L.length:=by omega
   subst this;have:=hk.2;rw[htake,wXb]at this;exact this.symm
def qU(a:Prop):Prop:=True/\True/\True/\True/\True/\True/\a
theorem zXk(a b c d:Int):Ans prog 85 [rA [dJ a,dJ b,dJ c,dJ d]] (rD (dQ (Rc.valid ⟨a,b,c,d⟩))):=
 vv gam aL Tryz.func85 (let e:=zXY 1073741824 (eO a b c d);qU (bI (bD (cL 162 1073741824 (pM 4 (eO a b c d) []) (aM e)) (cZ e (Rc.valid ⟨a,b,c,d⟩))))) λhwf=>by
  delta eS aB aV bD cL eO pM aM bI cZ qU;simp only[true_and,and_true,RV.d.injEq,RV.agg.injEq,RV.tup.injEq,DV.bool.injEq,DV.int.injEq,wQK,wQ3,wZh,wZf,wQn,wZl,zQV,zQj,zQ4];exact⟨jQq _ _ _ rfl rfl (by omega),by grind [zXY,ints,Rc.valid,okC]⟩
theorem zQJ(a b c d:Int):Ans prog 40 [rA [dJ a,dJ b,dJ c,dJ d]] (rD (dQ (Rc.empty ⟨a,b,c,d⟩))):=
 vv gam aL Tryz.func40 (let e:=nC a b c d;let f:=Rc.valid ⟨a,b,c,d⟩;True/\True/\True/\uJ 85 (eO a b c d) f (bK (bO f) (fU (fI a c) (True/\True/\True/\True/\cZ (decide (b>=d)) e) (aE (xH a c) (cZ true e)))) (bK (dU f) (cZ true e))) λhwf=>by
  delta eS aB aE fI eO bK gD bH fU aM cZ bO dU nC xH uJ;simp only[true_and,and_true,RV.d.injEq,RV.agg.injEq,RV.tup.injEq,DV.bool.injEq,DV.int.injEq,wQK,wQ3,wZh,wZf,wQn,wZl,zQV,zQj,zQ4,zXk];grind [Rc.empty]
def cV(a b:List DV):Prop:=RV.agg a=RV.agg b
def cM(e:Rc):List DV:=eO e.a e.b e.c e.d
def qE:List DV:=eO 0 0 0 0
def aAN(a b c d:Int):Prop:=bH 40 (eO a b c d) [] (aM (nC a b c d))
theorem zY0(a b c d:Int):Ans prog 207 [rA [dJ a,dJ b,dJ c,dJ d]] (rA (qD (Rc.clean ⟨a,b,c,d⟩))):=
 vv gam aL Tryz.func207 (let e:=cM (Rc.clean ⟨a,b,c,d⟩);True/\True/\True/\aAN a b c d/\aE (nC a b c d=true) (cV qE e)/\aE (nC a b c d=false) (cV (eO a b c d) e)) λhwf=>by
  delta eS aB aE eO cV cM bH qE aM nC aAN;simp only[true_and,and_true,RV.d.injEq,RV.agg.injEq,RV.tup.injEq,DV.bool.injEq,DV.int.injEq,wQK,wQ3,wZh,wZf,wQn,wZl,zQV,zQj,zQ4,zXk,zQJ];grind [Rc.clean,Rc.zero]
def iG(a:FuncId)(b:List DV)(c:List RV)(d:List DV):Prop:=bH a b c (RV.agg d)
def iT(a b:Prop):Prop:=bD a (True/\True/\True/\True/\b)
theorem zYt(a b c d:Int):Ans prog 151 [rA [dJ a,dJ b,dJ c,dJ d]] (rJ ((Rc.area ⟨a,b,c,d⟩))):=
 vv gam aL Tryz.func151 (let e:=Rc.clean ⟨a,b,c,d⟩;True/\iT (iG 207 (eO a b c d) [] (cM e)) (aK (jC (aU (cN e.c e.a*cN e.d e.b)) (Rc.area ⟨a,b,c,d⟩)))) λhwf=>by
  delta eS aB aV jC aU aK bD cN eO cM bH iG iT;simp only[true_and,and_true,RV.d.injEq,RV.agg.injEq,RV.tup.injEq,DV.bool.injEq,DV.int.injEq,wQK,wQ3,wZh,wZf,wQn,wZl,zQV,zQj,zQ4,zXk,zQJ,zY0];exact Rc.area_wrap _
def xF(a b:Int)(c d:Prop):Prop:=cS (decide (a<=b)) c d
def dV(a:Bool):Prop:=(!a)=true
def aCM(a b:Bool):Prop:=True/\True/\True/\True/\cZ a b
theorem zKw(a b c d x y:Int):Ans prog 104 [rA [dJ a,dJ b,dJ c,dJ d],rJ (x),rJ (y)] (rD (dQ (Rc.has ⟨a,b,c,d⟩ x y))):=
 vv gam aL Tryz.func104 (let e:=Rc.has ⟨a,b,c,d⟩ x y;let f:=nC a b c d;bI (uJ 40 (eO a b c d) f (aN (dV f) (xF a x (True/\True/\fU (jE x c) (aP (lQ b y) (aCM (decide (y<d)) e) (fY (jM b y) e)) (mG (tA x c true) e)) (mI (jM a x) e))) (bG (!f)->aK (gO e)))) λhwf=>by
  delta eS aB aE aP tA aK aN jE bG eO bK bH fU aM bI cS fP jM cZ lQ fY gO xF mG mI nC uJ dV aCM;simp only[true_and,and_true,RV.d.injEq,RV.agg.injEq,RV.tup.injEq,DV.bool.injEq,DV.int.injEq,wQK,wQ3,wZh,wZf,wQn,wZl,zQV,zQj,zQ4,zXk,zQJ,zY0,zYt];grind [Rc.has]
theorem zQw(a b c d a' b' c' d':Int):Ans prog 157 [rA [dJ a,dJ b,dJ c,dJ d],rA [dJ a',dJ b',dJ c',dJ d']] (rA (qD (Rc.inter ⟨a,b,c,d⟩ ⟨a',b',c',d'⟩))):=
 vv gam aL Tryz.func157 (let e:=cV qE (cM (Rc.inter ⟨a,b,c,d⟩ ⟨a',b',c',d'⟩));let f:=Rc.clean ⟨Max.max a a',Max.max b b',Min.min c c',Min.min d d'⟩;bI (True/\aAN a b c d/\True/\(nC a b c d=false->True/\aAN a' b' c' d'/\True/\aE (nC a' b' c' d'=true) e/\aN (nC a' b' c' d'=false) (aK (aK (bD (iG 207 (eO (Max.max a a') (Max.max b b') (Min.min c c') (Min.min d d')) [] (cM f)) (cV (cM f) (cM (Rc.inter ⟨a,b,c,d⟩ ⟨a',b',c',d'⟩)))))))/\aN (gD (nC a b c d)) e)) λhwf=>by
  delta eS aB aE aK aN bD eO cV cM gD bH iG qE aM bI nC aAN;simp only[true_and,and_true,RV.d.injEq,RV.agg.injEq,RV.tup.injEq,DV.bool.injEq,DV.int.injEq,wQK,wQ3,wZh,wZf,wQn,wZl,zQV,zQj,zQ4,zXk,zQJ,zY0,zYt,zKw];cases h1:Rc.empty ⟨a,b,c,d⟩<;>cases h2:Rc.empty ⟨a',b',c',d'⟩<;>simp[Rc.inter,h1,h2,Rc.zero]
def dL(a b:Prop):Prop:=a->True/\True/\True/\True/\True/\b
def mH(a b c:Prop):Prop:=True/\True/\True/\bK a b/\c
def qP(a b:Prop):Prop:=aN a (True/\True/\True/\True/\b)
def xJ(a b:Prop):Prop:=a->True/\aK b
theorem zJM(a b c d a' b' c' d':Int):Ans prog 41 [rA [dJ a,dJ b,dJ c,dJ d],rA [dJ a',dJ b',dJ c',dJ d']] (rD (dQ (Rc.covers ⟨a,b,c,d⟩ ⟨a',b',c',d'⟩))):=
 vv gam aL Tryz.func41 (let e:=Rc.covers ⟨a,b,c,d⟩ ⟨a',b',c',d'⟩;let g:=gO e;let f:=nC a b c d;let h:=gO e;bI (True/\aAN a' b' c' d'/\True/\pG (nC a' b' c' d') (uJ 40 (eO a b c d) f (bK (dV f) (mH (lQ a a') (mH (lQ b b') (True/\True/\True/\(lQ c' c->aK (xE d' d e))/\aN (jM c' c) h) (dL (jM b b') h)) (qP (jM a a') g))) (xJ (bG (!f)) g))/\aE (gD (nC a' b' c' d')) (cZ true e))) λhwf=>by
  delta eS aB aE aK aN dL bG eO bK pG gD bH aM bI jM cZ lQ gO mH xE nC uJ qP xJ dV aAN;simp only[true_and,and_true,RV.d.injEq,RV.agg.injEq,RV.tup.injEq,DV.bool.injEq,DV.int.injEq,wQK,wQ3,wZh,wZf,wQn,wZl,zQV,zQj,zQ4,zXk,zQJ,zY0,zYt,zKw,zQw];grind [Rc.covers]
section
attribute [local irreducible] Ans AnsO AnsG AnsN AnsI
def cntS(r:Rc)(w h:Int):Int × Int × Bool:=
 if r.empty then(0,0,false)
 else if w<1\/wrap .i64 (r.c-r.a)<w\/h<1\/wrap .i64 (r.d-r.b)<h then(0,0,false)
 else(wrap .i64 (Int.tdiv (wrap .i64 (wrap .i64 (wrap .i64 (r.c-r.a)+w)-1)) w),wrap .i64 (Int.tdiv (wrap .i64 (wrap .i64 (wrap .i64 (r.d-r.b)+h)-1)) h),true)
def zGG(r:Rc)(w h i:Int):Rc × Bool:=
 if(cntS r w h).2.2=false\/i<0\/wrap .i64 (Int.tdiv i (cntS r w h).1)>=(cntS r w h).2.1 then(Rc.zero,false)
 else
  let x:=wrap .i64 (r.a+wrap .i64 (Int.tmod i (cntS r w h).1*w))
  let y:=wrap .i64 (r.b+wrap .i64 (wrap .i64 (Int.tdiv i (cntS r w h).1)*h))
  (⟨x,y,min (wrap .i64 (x+w)) r.c,min (wrap .i64 (y+h)) r.d⟩,true)
def gZ2:List RV->Option RV:=λv=>let e:=cntS (ux (ul v 0)) (nAt (uj v) 1) (nAt (uj v) 2);some (RV.tup [rJ e.1,rJ e.2.1,RV.d (dQ e.2.2)])
def gamW:Gam:=gam.add [.p 78 gZ2,
 .p 80 (λv=>let e:=zGG (ux (ul v 0)) (nAt (uj v) 1) (nAt (uj v) 2) (nAt (uj v) 3);some (RV.tup [RV.agg (qD (e.1)),RV.d (dQ e.2)]))]
def gW(a b:Int):Int:=aU (Int.tdiv a b)
def kV(a:Prop):Prop:=True/\True/\True/\eS true/\a
def kM(a b:Prop):Prop:=aK (True/\True/\True/\a/\b)
def aFM(a b:Int)(c:List RV):RV:=RV.tup (aV a::aV b::c)
def aBK(a:Rc)(b c:Int):RV:=aFM (cntS a b c).fst (cntS a b c).snd.fst [aM (cntS a b c).snd.snd]
def zL(a:Int):Prop:=tA a 1 false
def mL(a b c d:Prop):Prop:=True/\True/\True/\(a->True/\b)/\bK c d
def sN:List RV:=[aM true]
theorem zJ7(a b c d w h:Int):Ans prog 78 [rA [dJ a,dJ b,dJ c,dJ d],rJ (w),rJ (h)] (rT [rJ (((cntS ⟨a,b,c,d⟩ w h).1)),rJ (((cntS ⟨a,b,c,d⟩ w h).2.1)),rD (dQ ((cntS ⟨a,b,c,d⟩ w h).2.2))]):=
 vv gamW aL Tryz.func78 (let f:=aBK ⟨a,b,c,d⟩ w h;let e:=aFM 0 0 [aM false]=f;bI (True/\True/\aAN a b c d/\aN (nC a b c d=true) e/\pG (nC a b c d) (kM (eS true) (aP (gX w 1) (aDS w (cN c a) (mL (gX h 1) (fU (gL h (cN d b)) e (bK (dR h (cN d b)) (aX (gH w) (True/\True/\True/\gH h/\kV (aFM (gW (cN (aU (cN c a+w)) 1) w) (gW (cN (aU (cN d b+h)) 1) h) sN=f))))) (zL h) e) (fP (mK w (cN c a)) e)) (zL w->aK e))))) λhwf=>by
  delta eS aB aV aE aP tA gX aU aK aN aX cN gW gH eO bK kV pG gD dR gL bH fU aM bI kM aFM aBK fP zL nC mK mL sN aDS aAN;simp only[sS,zQJ];unfold cntS;cases he:Rc.empty ⟨a,b,c,d⟩<;>by_cases h1:w<1<;>by_cases h2:wrap .i64 (c-a)<w<;>by_cases h3:h<1<;>by_cases h4:wrap .i64 (d-b)<h<;>simp[h1,h2,h3,h4]<;>omega
def wJ(a:Prop):Prop:=bD (eS true) a
def gJ(a b:Prop):Prop:=True/\True/\a/\b
def lE(a b:Int):List RV:=[aV a,aV b]
def aBT(a b:Prop):Prop:=aR a (True/\True/\True/\True/\b)
def gA(a:List DV)(b:List RV):RV:=RV.tup (RV.agg a::b)
def dA(a:List DV)(b:Bool):RV:=gA a [aM b]
def rB(a b:List DV)(c:Bool):Prop:=dA a true=dA b c
def vH(a:Prop):Prop:=True/\True/\True/\True/\True/\a
def aAL(a:Bool)(b c:Prop):Prop:=True/\True/\True/\(bO a->True/\b)/\c
theorem jXS(a b c d w h i:Int)(hz:(cntS ⟨a,b,c,d⟩ w h).2.2=true->(cntS ⟨a,b,c,d⟩ w h).1≠0):Ans prog 80 [rA [dJ a,dJ b,dJ c,dJ d],rJ (w),rJ (h),rJ (i)] (rT [rA (qD ((zGG ⟨a,b,c,d⟩ w h i).1)),rD (dQ ((zGG ⟨a,b,c,d⟩ w h i).2))]):=
 vv gamW aL Tryz.func80 (let e:=(⟨a,b,c,d⟩:Rc);let l:=zGG e w h i;let m:=l.snd;let n:=cM l.fst;let f:=gA qE [aM false]=dA n m;let o:=cntS e w h;let p:=o.snd;let q:=p.snd;let g:=o.fst;let j:=gW i g;let r:=aU (b+aU (j*h));let s:=aU (a+aU (Int.tmod i g*w));let k:=gH g;let t:=p.fst;True/\True/\True/\True/\gJ (bH 78 (eO a b c d) (lE w h) (aBK e w h)) (True/\True/\True/\True/\bI (aAL q (mL (mR i) (True/\k/\fU (eJ j t) f (bK (fI j t) (aBT k (aR k (wJ (vH (bI (aK (rB (eO s r (Min.min (aU (s+w)) c) (Min.min (aU (r+h)) d)) n m))))))))) (nY i) f) (fP (dU q) f)))) λhwf=>by
  delta eS aB aV aE tA eJ gX fI mR nY aU aK bD gW gH wJ aR eO bK cM gD bH fU qE aM bI gJ lE aFM aBK fP aBT bO dU mL gA dA rB vH aAL;simp only[sS,zQJ,zJ7];unfold zGG;generalize cntS ⟨a,b,c,d⟩ w h=T at *;obtain⟨n1,n2,ok⟩:=T;simp only at hz |-;cases ok<;>by_cases h1:i<0<;>by_cases h2:wrap .i64 (Int.tdiv i n1)>=n2<;>simp[h1,h2,Rc.zero]<;>simp at hz<;>simp[hz]<;>omega
end
def Im.ds(m:Im):List DV:=[.int .i64 m.w,.int .i64 m.h,.bool m.so,.int .u16 m.c.a,.int .u16 m.c.b,.int .u16 m.c.c,.int .u16 m.c.al,.int .u16 m.c.f,.int .i64 m.p0.w,.int .i64 m.p0.h,.int .i64 m.p0.s,.sl m.p0.n m.p0.xs,.int .i64 m.p1.w,.int .i64 m.p1.h,.int .i64 m.p1.s,.sl m.p1.n m.p1.xs,.int .i64 m.p2.w,.int .i64 m.p2.h,.int .i64 m.p2.s,.sl m.p2.n m.p2.xs,.int .i64 m.p3.w,.int .i64 m.p3.h,.int .i64 m.p3.s,.sl m.p3.n m.p3.xs,.int .i64 m.p4.w,.int .i64 m.p4.h,.int .i64 m.p4.s,.sl m.p4.n m.p4.xs]
theorem Im.ds_len(m:Im):m.ds.length=28:=rfl
def ims(l:List Im):List DV:=l.flatMap Im.ds
theorem zXl(l:List Im):(ims l).length=l.length*28:=by
 induction l with
 |nil=>rfl
 |cons o l ih=>simp only[ims,wQ2,wQe,wQC]at ih |-;rw[ih,Im.ds_len];omega
theorem jXt(l m:List Im):ims (l++m)=ims l++ims m:=by simp[ims]
theorem jWS(m:Im)(l:List Im):ims (m::l)=m.ds++ims l:=by simp[ims]
theorem jHq(m:Im):ims [m]=m.ds:=by simp[ims]
theorem jHr{l:List Im}(h:k<l.length)(j:Nat)(hj:j<28):(ims l)[k*28+j]?=l[k].ds[j]?:=by
 induction l generalizing k with
 |nil=>simp at h
 |cons o l ih=>
  rw[jWS]
  cases k with
  |zero=>simp only[wX3];rw[wQO (by rw[Im.ds_len];omega)];simp
  |succ k=>
   rw[wQq (by rw[Im.ds_len];omega)];have:=ih (k:=k) (by simpa using h);simp only[wZC];rw[<-this];congr 1;rw[Im.ds_len];omega
theorem jQR{l:List Im}(h:k<l.length):(ims l)[k*28]?=some (.int .i64 l[k].w)/\(ims l)[k*28+1]?=some (.int .i64 l[k].h)/\(ims l)[k*28+1+1]?=some (.bool l[k].so)/\(ims l)[k*28+1+1+1]?=some (.int .u16 l[k].c.a)/\(ims l)[k*28+1+1+1+1]?=some (.int .u16 l[k].c.b)/\(ims l)[k*28+1+1+1+1+1]?=some (.int .u16 l[k].c.c)/\(ims l)[k*28+1+1+1+1+1+1]?=some (.int .u16 l[k].c.al)/\(ims l)[k*28+1+1+1+1+1+1+1]?=some (.int .u16 l[k].c.f)/\(ims l)[k*28+1+1+1+1+1+1+1+1]?=some (.int .i64 l[k].p0.w)/\(ims l)[k*28+1+1+1+1+1+1+1+1+1]?=some (.int .i64 l[k].p0.h)/\(ims l)[k*28+1+1+1+1+1+1+1+1+1+1]?=some (.int .i64 l[k].p0.s)/\(ims l)[k*28+1+1+1+1+1+1+1+1+1+1+1]?=some (.sl l[k].p0.n l[k].p0.xs)/\(ims l)[k*28+1+1+1+1+1+1+1+1+1+1+1+1]?=some (.int .i64 l[k].p1.w)/\(ims l)[k*28+1+1+1+1+1+1+1+1+1+1+1+1+1]?=some (.int .i64 l[k].p1.h)/\(ims l)[k*28+1+1+1+1+1+1+1+1+1+1+1+1+1+1]?=some (.int .i64 l[k].p1.s)/\(ims l)[k*28+1+1+1+1+1+1+1+1+1+1+1+1+1+1+1]?=some (.sl l[k].p1.n l[k].p1.xs)/\(ims l)[k*28+1+1+1+1+1+1+1+1+1+1+1+1+1+1+1+1]?=some (.int .i64 l[k].p2.w)/\(ims l)[k*28+1+1+1+1+1+1+1+1+1+1+1+1+1+1+1+1+1]?=some (.int .i64 l[k].p2.h)/\(ims l)[k*28+1+1+1+1+1+1+1+1+1+1+1+1+1+1+1+1+1+1]?=some (.int .i64 l[k].p2.s)/\(ims l)[k*28+1+1+1+1+1+1+1+1+1+1+1+1+1+1+1+1+1+1+1]?=some (.sl l[k].p2.n l[k].p2.xs)/\(ims l)[k*28+1+1+1+1+1+1+1+1+1+1+1+1+1+1+1+1+1+1+1+1]?=some (.int .i64 l[k].p3.w)/\(ims l)[k*28+1+1+1+1+1+1+1+1+1+1+1+1+1+1+1+1+1+1+1+1+1]?=some (.int .i64 l[k].p3.h)/\(ims l)[k*28+1+1+1+1+1+1+1+1+1+1+1+1+1+1+1+1+1+1+1+1+1+1]?=some (.int .i64 l[k].p3.s)/\(ims l)[k*28+1+1+1+1+1+1+1+1+1+1+1+1+1+1+1+1+1+1+1+1+1+1+1]?=some (.sl l[k].p3.n l[k].p3.xs)/\(ims l)[k*28+1+1+1+1+1+1+1+1+1+1+1+1+1+1+1+1+1+1+1+1+1+1+1+1]?=some (.int .i64 l[k].p4.w)/\(ims l)[k*28+1+1+1+1+1+1+1+1+1+1+1+1+1+1+1+1+1+1+1+1+1+1+1+1+1]?=some (.int .i64 l[k].p4.h)/\(ims l)[k*28+1+1+1+1+1+1+1+1+1+1+1+1+1+1+1+1+1+1+1+1+1+1+1+1+1+1]?=some (.int .i64 l[k].p4.s)/\(ims l)[k*28+1+1+1+1+1+1+1+1+1+1+1+1+1+1+1+1+1+1+1+1+1+1+1+1+1+1+1]?=some (.sl l[k].p4.n l[k].p4.xs):=by
 have g:=λj hj=>jHr h j hj;exact⟨g 0 (by omega),g 1 (by omega),g 2 (by omega),g 3 (by omega),g 4 (by omega),g 5 (by omega),g 6 (by omega),g 7 (by omega),g 8 (by omega),g 9 (by omega),g 10 (by omega),g 11 (by omega),g 12 (by omega),g 13 (by omega),g 14 (by omega),g 15 (by omega),g 16 (by omega),g 17 (by omega),g 18 (by omega),g 19 (by omega),g 20 (by omega),g 21 (by omega),g 22 (by omega),g 23 (by omega),g 24 (by omega),g 25 (by omega),g 26 (by omega),g 27 (by omega)⟩
theorem jQS{l:List Im}(h:k<l.length):nAt (ims l) (k*28)=l[k].w/\nAt (ims l) (k*28+1)=l[k].h/\bAt (ims l) (k*28+1+1)=l[k].so/\nAt (ims l) (k*28+1+1+1)=l[k].c.a/\nAt (ims l) (k*28+1+1+1+1)=l[k].c.b/\nAt (ims l) (k*28+1+1+1+1+1)=l[k].c.c/\nAt (ims l) (k*28+1+1+1+1+1+1)=l[k].c.al/\nAt (ims l) (k*28+1+1+1+1+1+1+1)=l[k].c.f/\nAt (ims l) (k*28+1+1+1+1+1+1+1+1)=l[k].p0.w/\nAt (ims l) (k*28+1+1+1+1+1+1+1+1+1)=l[k].p0.h/\nAt (ims l) (k*28+1+1+1+1+1+1+1+1+1+1)=l[k].p0.s/\lAt (ims l) (k*28+1+1+1+1+1+1+1+1+1+1+1)=l[k].p0.n/\cAt (ims l) (k*28+1+1+1+1+1+1+1+1+1+1+1)=l[k].p0.xs/\nAt (ims l) (k*28+1+1+1+1+1+1+1+1+1+1+1+1)=l[k].p1.w/\nAt (ims l) (k*28+1+1+1+1+1+1+1+1+1+1+1+1+1)=l[k].p1.h/\nAt (ims l) (k*28+1+1+1+1+1+1+1+1+1+1+1+1+1+1)=l[k].p1.s/\lAt (ims l) (k*28+1+1+1+1+1+1+1+1+1+1+1+1+1+1+1)=l[k].p1.n/\cAt (ims l) (k*28+1+1+1+1+1+1+1+1+1+1+1+1+1+1+1)=l[k].p1.xs/\nAt (ims l) (k*28+1+1+1+1+1+1+1+1+1+1+1+1+1+1+1+1)=l[k].p2.w/\nAt (ims l) (k*28+1+1+1+1+1+1+1+1+1+1+1+1+1+1+1+1+1)=l[k].p2.h/\nAt (ims l) (k*28+1+1+1+1+1+1+1+1+1+1+1+1+1+1+1+1+1+1)=l[k].p2.s/\lAt (ims l) (k*28+1+1+1+1+1+1+1+1+1+1+1+1+1+1+1+1+1+1+1)=l[k].p2.n/\cAt (ims l) (k*28+1+1+1+1+1+1+1+1+1+1+1+1+1+1+1+1+1+1+1)=l[k].p2.xs/\nAt (ims l) (k*28+1+1+1+1+1+1+1+1+1+1+1+1+1+1+1+1+1+1+1+1)=l[k].p3.w/\nAt (ims l) (k*28+1+1+1+1+1+1+1+1+1+1+1+1+1+1+1+1+1+1+1+1+1)=l[k].p3.h/\nAt (ims l) (k*28+1+1+1+1+1+1+1+1+1+1+1+1+1+1+1+1+1+1+1+1+1+1)=l[k].p3.s/\lAt (ims l) (k*28+1+1+1+1+1+1+1+1+1+1+1+1+1+1+1+1+1+1+1+1+1+1+1)=l[k].p3.n/\cAt (ims l) (k*28+1+1+1+1+1+1+1+1+1+1+1+1+1+1+1+1+1+1+1+1+1+1+1)=l[k].p3.xs/\nAt (ims l) (k*28+1+1+1+1+1+1+1+1+1+1+1+1+1+1+1+1+1+1+1+1+1+1+1+1)=l[k].p4.w/\nAt (ims l) (k*28+1+1+1+1+1+1+1+1+1+1+1+1+1+1+1+1+1+1+1+1+1+1+1+1+1)=l[k].p4.h/\nAt (ims l) (k*28+1+1+1+1+1+1+1+1+1+1+1+1+1+1+1+1+1+1+1+1+1+1+1+1+1+1)=l[k].p4.s/\lAt (ims l) (k*28+1+1+1+1+1+1+1+1+1+1+1+1+1+1+1+1+1+1+1+1+1+1+1+1+1+1+1)=l[k].p4.n/\cAt (ims l) (k*28+1+1+1+1+1+1+1+1+1+1+1+1+1+1+1+1+1+1+1+1+1+1+1+1+1+1+1)=l[k].p4.xs:=by
 obtain⟨e0,e1,e2,e3,e4,e5,e6,e7,e8,e9,e10,e11,e12,e13,e14,e15,e16,e17,e18,e19,e20,e21,e22,e23,e24,e25,e26,e27⟩:=jQR h;simp only[nAt,bAt,lAt,cAt,e0,e1,e2,e3,e4,e5,e6,e7,e8,e9,e10,e11,e12,e13,e14,e15,e16,e17,e18,e19,e20,e21,e22,e23,e24,e25,e26,e27,and_self]
def imAt(xs:List DV)(i:Nat):Im:=⟨nAt xs i,nAt xs (i+1),bAt xs (i+2),⟨nAt xs (i+3),nAt xs (i+4),nAt xs (i+5),nAt xs (i+6),nAt xs (i+7)⟩,⟨nAt xs (i+8),nAt xs (i+9),nAt xs (i+10),lAt xs (i+11),cAt xs (i+11)⟩,⟨nAt xs (i+12),nAt xs (i+13),nAt xs (i+14),lAt xs (i+15),cAt xs (i+15)⟩,⟨nAt xs (i+16),nAt xs (i+17),nAt xs (i+18),lAt xs (i+19),cAt xs (i+19)⟩,⟨nAt xs (i+20),nAt xs (i+21),nAt xs (i+22),lAt xs (i+23),cAt xs (i+23)⟩,⟨nAt xs (i+24),nAt xs (i+25),nAt xs (i+26),lAt xs (i+27),cAt xs (i+27)⟩⟩
theorem yQQ{l:List Im}(h:k<l.length):imAt (ims l) (k*28)=l[k]:=by
 have e:=jQS h;simp only[imAt,show k*28+2=k*28+1+1 from rfl,show k*28+3=k*28+1+1+1 from rfl,show k*28+4=k*28+1+1+1+1 from rfl,show k*28+5=k*28+1+1+1+1+1 from rfl,show k*28+6=k*28+1+1+1+1+1+1 from rfl,show k*28+7=k*28+1+1+1+1+1+1+1 from rfl,show k*28+8=k*28+1+1+1+1+1+1+1+1 from rfl,show k*28+9=k*28+1+1+1+1+1+1+1+1+1 from rfl,show k*28+10=k*28+1+1+1+1+1+1+1+1+1+1 from rfl,show k*28+11=k*28+1+1+1+1+1+1+1+1+1+1+1 from rfl,show k*28+12=k*28+1+1+1+1+1+1+1+1+1+1+1+1 from rfl,show k*28+13=k*28+1+1+1+1+1+1+1+1+1+1+1+1+1 from rfl,show k*28+14=k*28+1+1+1+1+1+1+1+1+1+1+1+1+1+1 from rfl,show k*28+15=k*28+1+1+1+1+1+1+1+1+1+1+1+1+1+1+1 from rfl,show k*28+16=k*28+1+1+1+1+1+1+1+1+1+1+1+1+1+1+1+1 from rfl,show k*28+17=k*28+1+1+1+1+1+1+1+1+1+1+1+1+1+1+1+1+1 from rfl,show k*28+18=k*28+1+1+1+1+1+1+1+1+1+1+1+1+1+1+1+1+1+1 from rfl,show k*28+19=k*28+1+1+1+1+1+1+1+1+1+1+1+1+1+1+1+1+1+1+1 from rfl,show k*28+20=k*28+1+1+1+1+1+1+1+1+1+1+1+1+1+1+1+1+1+1+1+1 from rfl,show k*28+21=k*28+1+1+1+1+1+1+1+1+1+1+1+1+1+1+1+1+1+1+1+1+1 from rfl,show k*28+22=k*28+1+1+1+1+1+1+1+1+1+1+1+1+1+1+1+1+1+1+1+1+1+1 from rfl,show k*28+23=k*28+1+1+1+1+1+1+1+1+1+1+1+1+1+1+1+1+1+1+1+1+1+1+1 from rfl,show k*28+24=k*28+1+1+1+1+1+1+1+1+1+1+1+1+1+1+1+1+1+1+1+1+1+1+1+1 from rfl,show k*28+25=k*28+1+1+1+1+1+1+1+1+1+1+1+1+1+1+1+1+1+1+1+1+1+1+1+1+1 from rfl,show k*28+26=k*28+1+1+1+1+1+1+1+1+1+1+1+1+1+1+1+1+1+1+1+1+1+1+1+1+1+1 from rfl,show k*28+27=k*28+1+1+1+1+1+1+1+1+1+1+1+1+1+1+1+1+1+1+1+1+1+1+1+1+1+1+1 from rfl,e]
def zQr(xs:List DV):List Im:=(List.range (xs.length / 28)).map λk=>imAt xs (k*28)
theorem zZv(l:List Im):zQr (ims l)=l:=by
 have e:(ims l).length / 28=l.length:=by rw[zXl];omega
 unfold zQr;rw[e];refine wQP (by simp) λi h1 h2=>?_;simp only[List.getElem_map,wZs];exact yQQ h2
def yZq(n:Nat)(xs:List DV):Prop:=(xs=ims (zQr xs)/\n=(zQr xs).length)/\∀m∈zQr xs,m.isU
variable{n:Nat}
theorem jHm{l:List Im}(hn:n=l.length)(h:∀m∈l,m.isU):yZq n (ims l):=⟨⟨by rw[zZv],by rw[zZv];exact hn⟩,by rw[zZv];exact h⟩
theorem yZq.of{xs:List DV}(h:yZq n xs):∃l:List Im,(∀m∈l,m.isU)/\xs=ims l/\n=l.length:=⟨zQr xs,h.2,h.1.1,h.1.2⟩
def yYn(n:Nat)(xs:List DV):Prop:=xs=ops (zQi xs)/\n=(zQi xs).length
theorem jKi{l:List Oq}(h:n=l.length):yYn n (ops l):=⟨by rw[zQC],by rw[zQC];exact h⟩
theorem jQz(o:Oq):ops [o]=o.cells:=by simp[ops]
def gOff(n c:Int):Int:=if modS n 3=0 then c else c+modS (wrap .i64 (Int.tdiv n 3)) 9-4
structure Rw where
  k:Int
  im:Int
  x:Int
  y:Int
  ma:Int
  mx:Int
  my:Int
  op:Int
  ope:Int
  mo:Int
  fl:Int
def gOp(r:Rw)(push:Bool)(n:Int)(c:Rc)(free:Bool)(most:Int):Oq:=
 let m:=decide (modS r.ma 4=0)
 ⟨if push then 2 else 1,if push then 0 else modS r.im n,if push then 0 else gOff r.x c.a,if push then 0 else gOff r.y c.b,
  if m then 1+modS (wrap .i64 (Int.tdiv r.ma 4)) n else 0,if m then gOff r.mx c.a else 0,if m then gOff r.my c.b else 0,
  if modS r.op 2=0 then zQ6 (wrap .i64 (Int.tdiv r.op 2)) most else most,
  if free&&decide (modS r.ope 2=0) then 1+modS (wrap .i64 (Int.tdiv r.ope 2)) 12 else 4,
  if modS r.mo 2=0 then 1+modS (wrap .i64 (Int.tdiv r.mo 2)) 12 else 1,
  push&&decide (modS r.fl 2=0),push&&decide (modS (wrap .i64 (Int.tdiv r.fl 2)) 3=0)⟩
def rwAt(xs:List DV)(i:Nat):Rw:=⟨nAt xs i,nAt xs (i+1),nAt xs (i+2),nAt xs (i+3),nAt xs (i+4),nAt xs (i+5),nAt xs (i+6),nAt xs (i+7),nAt xs (i+8),nAt xs (i+9),nAt xs (i+10)⟩
structure Scn where
  b:Int
  x:Int
  y:Int
  w:Int
  h:Int
  tw:Int
  th:Int
  on:Nat
  oxs:List DV
  pn:Nat
  pxs:List DV
  rn:Nat
  rxs:List DV
def Scn.c(s:Scn):Rc:=⟨modS s.x 13-6,modS s.y 13-6,modS s.x 13-6+(1+modS s.w 5),modS s.y 13-6+(1+modS s.h 4)⟩
def Scn.gw(s:Scn):Int:=1+modS s.w 5
def Scn.gh(s:Scn):Int:=1+modS s.h 4
def Scn.gtw(s:Scn):Int:=1+modS s.tw s.gw
def Scn.gth(s:Scn):Int:=1+modS s.th s.gh
def Scn.most(s:Scn):Int:=gMax s.b
def Scn.bits(s:Scn):Int:=if s.most>255 then 16 else 8
def Scn.tiles(s:Scn):Int:=wrap .i64 ((cntS s.c s.gtw s.gth).1*(cntS s.c s.gtw s.gth).2.1)
def Scn.ord(s:Scn):List Int:=zKc (ints s.oxs) s.tiles
def Scn.pic(s:Scn)(k:Nat):Im:=zJj (nAt s.pxs (k*5)) (nAt s.pxs (k*5+1)) (nAt s.pxs (k*5+2)) (nAt s.pxs (k*5+3)) (lAt s.pxs (k*5+4)) (cAt s.pxs (k*5+4)) s.c.a s.c.b s.c.c s.c.d s.most
def Scn.pics(s:Scn)(k:Nat):List Im:=(List.range k).map s.pic
def Scn.solo(s:Scn):Im:=zQW s.gw s.gh ⟨s.most,0,0,s.most,s.most⟩
def Scn.ims(s:Scn):List Im:=if min s.pn 4=0 then[s.solo] else s.pics (min s.pn 4)
def Scn.step(s:Scn)(r:Rw)(z:List Oq × List Oq):List Oq × List Oq:=
 if modS r.k 8=0/\0<z.2.length then(z.1++[popO],z.2.dropLast)
 else
  let o:=gOp r (decide (modS r.k 8<3)) s.ims.length s.c (ctxB z.2) s.most
  (z.1++[o],if modS r.k 8<3 then z.2++[o] else z.2)
def Scn.run(s:Scn):Nat->List Oq × List Oq
 |0=>([],[])
 |k+1=>s.step (rwAt s.rxs (k*11)) (s.run k)
def Scn.ops(s:Scn):List Oq:=(s.run (min s.rn 9)).1++List.replicate (s.run (min s.rn 9)).2.length popO
def yZE(n:Nat)(xs:List DV):Prop:=xs.length=n*5/\∀k,k<n->xs[k*5]?=some (.int .i64 (nAt xs (k*5)))/\xs[k*5+1]?=some (.int .i64 (nAt xs (k*5+1)))/\xs[k*5+1+1]?=some (.int .i64 (nAt xs (k*5+1+1)))/\xs[k*5+1+1+1]?=some (.int .i64 (nAt xs (k*5+1+1+1)))/\xs[k*5+1+1+1+1]?=some (.sl (lAt xs (k*5+1+1+1+1)) (cAt xs (k*5+1+1+1+1)))/\Is5 (lAt xs (k*5+1+1+1+1)) (cAt xs (k*5+1+1+1+1))
def yYm(n:Nat)(xs:List DV):Prop:=xs.length=n*11/\∀i,i<n*11->xs[i]?=some (.int .i64 (nAt xs i))
def Scn.ok(s:Scn):Prop:=(s.oxs=is (ints s.oxs)/\s.on=s.oxs.length)/\yZE s.pn s.pxs/\yYm s.rn s.rxs
theorem Scn.facts(s:Scn):(0<=modS s.x 13/\modS s.x 13<13)/\(0<=modS s.y 13/\modS s.y 13<13)/\(1<=s.gw/\s.gw<=5)/\(1<=s.gh/\s.gh<=4)/\(1<=s.gtw/\s.gtw<=s.gw)/\(1<=s.gth/\s.gth<=s.gh):=by
 have a:=@zZF s.x 13 (by omega) (by omega);have b:=@zZF s.y 13 (by omega) (by omega);have c:=@zZF s.w 5 (by omega) (by omega);have d:=@zZF s.h 4 (by omega) (by omega);have e:1<=s.gw/\s.gw<=5:=by unfold Scn.gw;omega
 have f:1<=s.gh/\s.gh<=4:=by unfold Scn.gh;omega
 have g:=@zZF s.tw s.gw (by omega) (by omega);have h:=@zZF s.th s.gh (by omega) (by omega);exact⟨a,b,e,f,by unfold Scn.gtw;omega,by unfold Scn.gth;omega⟩
theorem Scn.pics_succ(s:Scn)(k:Nat):s.pics (k+1)=s.pics k++[s.pic k]:=by simp[Scn.pics,wZ2]
theorem Scn.pics_len(s:Scn)(k:Nat):(s.pics k).length=k:=by simp[Scn.pics]
theorem Scn.ims_len(s:Scn):1<=s.ims.length/\s.ims.length<=4:=by
 unfold Scn.ims;split
 .simp
 .rw[Scn.pics_len];omega
theorem Scn.run_len(s:Scn)(k:Nat):(s.run k).1.length=k/\(s.run k).2.length<=k:=by
 induction k with
 |zero=>simp[Scn.run]
 |succ k ih=>
  simp only[Scn.run,Scn.step];split
  .simp;omega
  .simp only[];split<;>simp<;>omega
theorem Scn.most_in(s:Scn):s.most=255\/s.most=65535:=by
 unfold Scn.most gMax;split<;>simp
theorem Scn.ims_isU(s:Scn):∀m∈s.ims,m.isU:=by
 intro m hm;unfold Scn.ims at hm;split at hm
 .rw[wQr]at hm;subst hm;exact zKN _ _ _
 .simp only[Scn.pics,wQw]at hm;obtain⟨k,_,rfl⟩:=hm;exact jUR _ _ _ _ _ _ _ _ _ _ _
theorem Scn.c_facts(s:Scn):s.c.c-s.c.a=s.gw/\s.c.d-s.c.b=s.gh /\ -6<=s.c.a/\s.c.a<=6 /\ -6<=s.c.b/\s.c.b<=6:=by
 have:=s.facts;simp only[Scn.c,Scn.gw,Scn.gh]at this |-;omega
theorem Scn.bits_of(s:Scn):(gMax s.b>255->16=s.bits)/\(¬gMax s.b>255->8=s.bits):=by
 unfold Scn.bits Scn.most;exact⟨λh=>by rw[if_pos h],λh=>by rw[if_neg h]⟩
variable{n:Int}
theorem cnt1{w:Int}(h:1<=w)(hw:w<=n)(hn:n<=5):1<=wrap .i64 (Int.tdiv (wrap .i64 (wrap .i64 (wrap .i64 n+w)-1)) w)/\wrap .i64 (Int.tdiv (wrap .i64 (wrap .i64 (wrap .i64 n+w)-1)) w)<=n:=by
 rw[wQb n (by omega),wQb (n+w) (by omega),wQb (n+w-1) (by omega),wQ5 (by omega)];have:1<=(n+w-1) / w/\(n+w-1) / w<=n:=by
  rcases (show w=1\/w=2\/w=3\/w=4\/w=5 by omega) with rfl|rfl|rfl|rfl|rfl<;>omega
 rw[wQb _ (by omega)];exact this
theorem Scn.cnt(s:Scn):(cntS s.c s.gtw s.gth).2.2=true/\(1<=(cntS s.c s.gtw s.gth).1/\(cntS s.c s.gtw s.gth).1<=5)/\1<=(cntS s.c s.gtw s.gth).2.1/\(cntS s.c s.gtw s.gth).2.1<=4:=by
 obtain⟨f1,f2,f3,f4,f5,f6⟩:=s.facts;have CF:=s.c_facts;have he:Rc.empty s.c=false:=by
  rw[Rc.empty_iff];omega
 unfold cntS;rw[he,if_neg (by simp),CF.1,CF.2.1,if_neg (by rw[wQb _ (by omega),wQb _ (by omega)];omega)];have a:=cnt1 f5.1 f5.2 (by omega);have b:=cnt1 f6.1 f6.2 (by omega);exact⟨rfl,⟨a.1,wZU a.2 (by omega)⟩,b.1,wZU b.2 (by omega)⟩
theorem Scn.tiles_in(s:Scn):0<=s.tiles/\s.tiles<=20:=by
 obtain⟨_,a,b⟩:=s.cnt;unfold Scn.tiles;generalize (cntS s.c s.gtw s.gth).1=x at *;generalize (cntS s.c s.gtw s.gth).2.1=y at *;have h1:0<=x*y:=Int.mul_nonneg (by omega) (by omega);have h2:x*y<=5*4:=wQz a.2 b.2 (by omega) (by omega);rw[wQb _ (by omega)];omega
variable{s:Scn}
theorem Scn.run_pop(h:modS (rwAt s.rxs (k*11)).k 8=0/\0<(s.run k).2.length):s.run (k+1)=((s.run k).1++[popO],(s.run k).2.dropLast):=by
 simp only[Scn.run,Scn.step];rw[if_pos h]
theorem Scn.run_op(h:¬(modS (rwAt s.rxs (k*11)).k 8=0/\0<(s.run k).2.length)){o:Oq}(ho:o=gOp (rwAt s.rxs (k*11)) (decide (modS (rwAt s.rxs (k*11)).k 8<3)) s.ims.length s.c (ctxB (s.run k).2) s.most):
  (o.kind=2->s.run (k+1)=((s.run k).1++[o],(s.run k).2++[o]))/\(o.kind≠2->s.run (k+1)=((s.run k).1++[o],(s.run k).2)):=by
 have e:s.run (k+1)=((s.run k).1++[o],if modS (rwAt s.rxs (k*11)).k 8<3 then(s.run k).2++[o] else(s.run k).2):=by
  simp only[Scn.run,Scn.step];rw[if_neg h,<-ho]
 have hk:o.kind=if modS (rwAt s.rxs (k*11)).k 8<3 then 2 else 1:=by
  rw[ho];simp[gOp]
 rw[e,hk];split<;>simp
abbrev wY1:=@List.getLast?_eq_getElem?
theorem jHQ{l:List Oq}(h:0<l.length):ctxB l=(l[l.length-1].iso && !l[l.length-1].kno):=by
 unfold ctxB;rw[wY1,List.getElem?_eq_getElem (by omega)]
abbrev iD(q:Im):List DV:=[DV.int .i64 q.w,DV.int .i64 q.h,DV.bool q.so,DV.int .u16 q.c.a,DV.int .u16 q.c.b,DV.int .u16 q.c.c,DV.int .u16 q.c.al,DV.int .u16 q.c.f,DV.int .i64 q.p0.w,DV.int .i64 q.p0.h,DV.int .i64 q.p0.s,DV.sl q.p0.n q.p0.xs,DV.int .i64 q.p1.w,DV.int .i64 q.p1.h,DV.int .i64 q.p1.s,DV.sl q.p1.n q.p1.xs,DV.int .i64 q.p2.w,DV.int .i64 q.p2.h,DV.int .i64 q.p2.s,DV.sl q.p2.n q.p2.xs,DV.int .i64 q.p3.w,DV.int .i64 q.p3.h,DV.int .i64 q.p3.s,DV.sl q.p3.n q.p3.xs,DV.int .i64 q.p4.w,DV.int .i64 q.p4.h,DV.int .i64 q.p4.s,DV.sl q.p4.n q.p4.xs]
abbrev pD(q:Px):List DV:=[DV.int .u16 q.a,DV.int .u16 q.b,DV.int .u16 q.c,DV.int .u16 q.al,DV.int .u16 q.f]
def gZ3:List RV->Option RV:=λv=>some (RV.d (dQ (zZi (nAt (uj v) 0) (nAt (uj v) 1))))
def gZ4:List RV->Option RV:=λv=>let c:=ul v 0;some (RV.d (dQ (zQ0 (nAt c 0) (nAt c 1) (nAt c 2) (lAt c 3))))
def uy(l:List DV):Px:=⟨nAt l 0,nAt l 1,nAt l 2,nAt l 3,nAt l 4⟩
def gZ5:List RV->Option RV:=λv=>some (RV.d (dQ (Px.ok (uy (ul v 0)) (nAt (uj v) 1))))
def uz(l:List DV):Im:=⟨nAt l 0,nAt l 1,bAt l 2,⟨nAt l 3,nAt l 4,nAt l 5,nAt l 6,nAt l 7⟩,⟨nAt l 8,nAt l 9,nAt l 10,lAt l 11,cAt l 11⟩,⟨nAt l 12,nAt l 13,nAt l 14,lAt l 15,cAt l 15⟩,⟨nAt l 16,nAt l 17,nAt l 18,lAt l 19,cAt l 19⟩,⟨nAt l 20,nAt l 21,nAt l 22,lAt l 23,cAt l 23⟩,⟨nAt l 24,nAt l 25,nAt l 26,lAt l 27,cAt l 27⟩⟩
def gZ6:List RV->Option RV:=λv=>some (RV.d (dQ (Im.formed (uz (ul v 0)))))
def gZ7:List RV->Option RV:=λv=>some (RV.agg (pD (Im.px (uz (ul v 0)) (nAt (uj v) 1) (nAt (uj v) 2))))
def gZ8:List RV->Option RV:=λv=>some (RV.agg (pD (Im.at_ (uz (ul v 0)) (nAt (uj v) 1) (nAt (uj v) 2))))
def gZ9:List AV->List Bx->Option Ret:=λv b=>let g:=nAt (um v) 1;let i:=nAt (um v) 0;let e:=imOf i g (zQo (cAt (um v) 2));some ⟨AV.tup [AV.agg [cJ e.w,cJ e.h,Cl.d (dQ e.so),cK e.c.a,cK e.c.b,cK e.c.c,cK e.c.al,cK e.c.f,cJ e.p0.w,cJ e.p0.h,cJ e.p0.s,Cl.ref 0 e.p0.n,cJ e.p1.w,cJ e.p1.h,cJ e.p1.s,Cl.ref 1 e.p1.n,cJ e.p2.w,cJ e.p2.h,cJ e.p2.s,Cl.ref 2 e.p2.n,cJ e.p3.w,cJ e.p3.h,cJ e.p3.s,Cl.ref 3 e.p3.n,cJ e.p4.w,cJ e.p4.h,cJ e.p4.s,Cl.ref 4 e.p4.n],AV.one (Cl.d (dQ (ofOk i g (lAt (um v) 2))))],[Bx.row 34 1 e.p0.xs,Bx.row 34 1 e.p1.xs,Bx.row 34 1 e.p2.xs,Bx.row 34 1 e.p3.xs,Bx.row 34 1 e.p4.xs],true⟩
def vd(l:List DV):Pl:=⟨nAt l 0,nAt l 1,nAt l 2,lAt l 3,cAt l 3⟩
def gamI:Gam:=gamW.add [.p 83 gZ3,
 .p 86 gZ3,
 .p 257 gZ3,
 .p 237 (λv=>some (RV.d (dQ (zVh (vd (ul v 0)))))),
 .p 258 (λv=>some (rJ (lenW (nAt (uj v) 0) (nAt (uj v) 1) (nAt (uj v) 2)))),
 .p 238 gZ4,
 .p 163 gZ4,
 .p 117 gZ5,
 .p 231 gZ5,
 .p 208 gZ6,
 .p 87 (λv=>some (RV.d (dQ (Im.inner (uz (ul v 0)))))),
 .p 42 gZ6,
 .p 155 gZ7,
 .p 43 gZ7,
 .p 153 (λv=>some (rJ (Im.shape (uz (ul v 0))))),
 .p 33 (λv=>some (RV.agg (iD (zQW (nAt (uj v) 0) (nAt (uj v) 1) (uy (ul v 2)))))),
 .p 76 (λv=>some (rJ (Im.valid (uz (ul v 0)) (nAt (uj v) 1)))),
 .p 215 gZ8,
 .p 13 gZ8,
 .p 72 (λ| [.agg [.int _ w,.int _ h,.int _ s,.sl n xs],.agg [.int _ w',.int _ h',.int _ s',.sl n' xs']]=>some (RV.d (dQ (zJo ⟨w,h,s,n,xs⟩ ⟨w',h',s',n',xs'⟩)))|_=>none),
 .p 29 (λ| [.agg [.int _ w,.int _ h,.bool so,.int _ c0,.int _ c1,.int _ c2,.int _ ca,.int _ cf,.int _ w0,.int _ h0,.int _ s0,.sl n0 xs0,.int _ w1,.int _ h1,.int _ s1,.sl n1 xs1,.int _ w2,.int _ h2,.int _ s2,.sl n2 xs2,.int _ w3,.int _ h3,.int _ s3,.sl n3 xs3,.int _ w4,.int _ h4,.int _ s4,.sl n4 xs4],.agg [.int _ w',.int _ h',.bool so',.int _ c0',.int _ c1',.int _ c2',.int _ ca',.int _ cf',.int _ w0',.int _ h0',.int _ s0',.sl n0' xs0',.int _ w1',.int _ h1',.int _ s1',.sl n1' xs1',.int _ w2',.int _ h2',.int _ s2',.sl n2' xs2',.int _ w3',.int _ h3',.int _ s3',.sl n3' xs3',.int _ w4',.int _ h4',.int _ s4',.sl n4' xs4']]=>some (RV.d (dQ (Im.same ⟨w,h,so,⟨c0,c1,c2,ca,cf⟩,⟨w0,h0,s0,n0,xs0⟩,⟨w1,h1,s1,n1,xs1⟩,⟨w2,h2,s2,n2,xs2⟩,⟨w3,h3,s3,n3,xs3⟩,⟨w4,h4,s4,n4,xs4⟩⟩ ⟨w',h',so',⟨c0',c1',c2',ca',cf'⟩,⟨w0',h0',s0',n0',xs0'⟩,⟨w1',h1',s1',n1',xs1'⟩,⟨w2',h2',s2',n2',xs2'⟩,⟨w3',h3',s3',n3',xs3'⟩,⟨w4',h4',s4',n4',xs4'⟩⟩)))|_=>none),
 .p 30 (λv=>some (RV.d (dK (gMax (nAt (uj v) 0))))),
 .p 45 (λv=>some (RV.d (dK (zQ6 (nAt (uj v) 0) (nAt (uj v) 1))))),
 .p 150 (λv=>let c:=ul v 0;let a:=(zJr (nAt c 0) (nAt c 1) (nAt c 2) (nAt c 3) (nAt c 4) (nAt (uj v) 1));some (RV.agg (pD a))),
 .p 73 (λ| []=>some (RV.tup [RV.tup [rJ 37,rJ 5]])|[.agg [.int _ mood,.sl L xs],.d (.int _ n),.d (.int _ most)]=>some (RV.d (dS n.toNat (pxs (zQy mood L xs most n.toNat))))|_=>none),
 .q 154 ([true,true],0,2) (λv b=>some ⟨AV.one (Cl.clo 209 [Cap.ptr 0 0,Cap.ptr 1 0]),[bC [cJ (nAt (um v) 1)],bC [cJ (nAt (um v) 0)]],false⟩),
 .q 38 ([true,true,true],0,5) gZ9,
 .q 74 ([true,true,true],0,5) gZ9,
 .r 209 (λ| [(true,[DV.int _ h]),(true,[DV.int _ w])]=>some ((w.toNat*h.toNat),λ_k=>[dJ ((_k%w.toNat:Nat):Int),dJ ((_k / w.toNat:Nat):Int)])|_=>none)]
section
attribute [local irreducible] Ans AnsO AnsG AnsN AnsI
def aF(a:Int):DV:=DV.int IntKind.u16 a
def jD(a b c:Int):Prop:=cL 27 a [aV b] (aV (modS a c))
def wI(a b:Int)(c d:Prop):Prop:=True/\jD a b b/\True/\c/\d
def kI(a:Int):RV:=RV.d (aF a)
def lZ(a:Int):Prop:=(a==2)=true
def rQ(a b:Int)(c:Prop):Prop:=(a==b)=false->True/\c
def kT(a b:Int):Prop:=kI a=kI b
theorem zGg(n:Int):Ans prog 30 [rJ (n)] (rD (dK (gMax n))):=
 vv gamI aL Tryz.func30 (True/\wI n 3 (lZ (modS n 3)->True/\kT 65535 (gMax n)) (rQ (modS n 3) 2 (kT 255 (gMax n)))) λhwf=>by
  delta eS aB aV aF cL jD wI kI lZ rQ kT;simp only[sS,zQj];unfold gMax;grind
def mE(a:Int):Prop:=(a==0)=true
def pA(a b:Int):Prop:=mE (modS a b)
def pZ(a b c:Int):Int:=modS (gW a b) c
def kH(a b:Prop):Prop:=a/\True/\b
def fT(a b c:Prop):Prop:=True/\True/\True/\True/\a/\True/\True/\b/\c
def oK(a b:Int)(c d:Prop):Prop:=bP ((a==b)=false) c d
def mY(a b:Int)(c:Prop)(d:Int)(e f:Prop):Prop:=oK a b c (oK a d e f)
def uA(a:Int):Prop:=(a==1)=true
def mA(a:Int):Int:=wrap IntKind.u16 a
def qF(a:Int):Prop:=(a==3)=true
theorem zYq(n most:Int):Ans prog 45 [rJ (n),rD (dK most)] (rD (dK (zQ6 n most))):=
 vv gamI aL Tryz.func45 (let b:=zQ6 n most;let a:=modS n 8;let c:=rQ a 4 (kH (gH 8) (aX (yX (gW n 8) (oH (aU most))) (kT (mA (pZ n 8 (oH (aU most)))) b)));let d:=bP ((a==4)=true) (gH 8) (aR (jD (gW n 8) 4 4) (kT (mA (Min.min (aU most) (pZ n 8 4))) b));let f:=True/\True/\gH 8/\jD (gW n 8) 2 2/\aX (gH 2) (kT (mA (gW (aU (aU most+pZ n 8 2)) 2)) b);let e:=kI most=kI b;True/\fT (jD n 8 8) (pA n 8->True/\kT 0 b) (mY a 0 (uA a->aE (uA a) e/\mY a 1 (qF a->f) 3 d c) 1 (aE (lZ a) e) (mY a 2 (qF a->f) 3 d c))) λhwf=>by
  delta eS aB aV aE aF aU aX cL jD gW mE gH pA pZ kI lZ rQ kT bP aR yX oH kH fT oK mY uA mA qF;simp only[sS,zQj,zGg];unfold zQ6;grind
def cQ(a b:Int)(c:List DV):List DV:=aF a::aF b::c
def cU(a b:Int)(c:Nat):Prop:=0<=a/\b<(c:Int)
def cO(a b c d e:Int):List DV:=aF a::cQ b c (cQ d e [])
def kS(a:Nat):Prop:=cU 0 0 a
def rK(a:FuncId)(b c:Int)(e:List RV)(f:RV):Prop:=cL a b (RV.d (aF c)::e) f
def tV(a b:Int):Prop:=rK 45 a b [] (kI (zQ6 a b))
def eU(a b c d e f g h i:Prop):Prop:=a/\b/\c/\d/\e/\f/\g/\h/\i
def eG(d:Px):List DV:=cO d.a d.b d.c d.al d.f
def aEY(a b c d:Int):List DV:=cQ a b (cQ c d [aF d])
theorem jZz(n0 n1 n2 n3 n4 most:Int):Ans prog 150 [rA [dJ n0,dJ n1,dJ n2,dJ n3,dJ n4],rD (dK most)] (rA (pD (zJr n0 n1 n2 n3 n4 most))):=
 vv gamI aL Tryz.func150 (let e:=eG (zJr n0 n1 n2 n3 n4 most);let a:=zQ6 n4 most;let c:=zQ6 n4 most;let d:=gW n3 3;let b:=zQ6 d c;let f:=zQ6 d a;True/\True/\cU 4 4 5/\True/\True/\tV n4 most/\True/\True/\True/\cU 3 3 5/\wI n3 3 (gL (modS n3 3) 0->eU (cU 3 3 5) True (gH 3) True (tV d a) True (kS 5) True (dY (tV n0 b) (cU 1 1 5) (dY (tV n1 b) (cU 2 2 5) (aX (tV n2 b) (kV (cV (cO (zQ6 n0 f) (zQ6 n1 f) (zQ6 n2 b) b a) e)))))) (dR (modS n3 3) 0->kH (kS 5) (dY (tV n0 a) (cU 1 1 5) (dY (tV n1 a) (cU 2 2 5) (aX (tV n2 a) (kV (cV (aEY (zQ6 n0 c) (zQ6 n1 c) (zQ6 n2 c) a) e))))))) λhwf=>by
  delta eS aB aV dY aF aU cQ aX cL cU cO jD gW gH kS wI kI cV rK kV tV dR gL eU eG kH aEY;simp only[sS,zQj,zGg,zYq,zYq];simp[zJr];grind
def dP(a b:Nat)(c:vz):vz:=aHU a (Cl.ptr b 0) c
def tZ(a:Nat)(b:wc)(c d e:Nat)(f:List DV)(g:vD):vD:=lB a (Bx.cells b) c d e f g
def tY(a:Nat)(b:Int)(c:Nat)(d:Int)(e:vz):vz:=aBH a b c (aF d) e
def fG(a:List DV)(b:Nat):DV:=aF (nAt a b)
def aBD(a:Int)(b:Nat)(c:List DV)(d:Int)(e f g:Nat):Prop:=(pxs (zQy a b c d e))[f]?=some (fG (pxs (zQy a b c d e)) g)
def nZ(a:Nat)(b:List DV):List DV:=[DV.sl a b]
def oB(a:Int):List RV:=[RV.d (aF a)]
def bW(a b:Prop):Prop:=True/\True/\True/\True/\True/\True/\True/\a/\b
def eQ(a:Int):Prop:=eS (aF a)
def cX(a:List DV)(b:Nat):Prop:=a[b+1]?=some (aB (nAt a (b+1)))
def fM(a:List DV)(b:Nat):Int:=nAt a (b+1)
def aY(a:List DV)(b:Nat):Int:=fM a (b+1+1)
def bS(a:List DV)(b:Nat):Prop:=cX a (b+1+1+1)
def eZ(a b:Prop):Prop:=True/\True/\True/\a/\True/\True/\True/\True/\b
def iH(a:List DV)(b c:Nat):Int:=fM a (aZ b c)
def iQ(a:List DV)(b c:Nat):Int:=fM a (aZ b c+1)
def iR(a:List DV)(b c:Nat):Int:=aY a (aZ b c)
def gZ(a b:Prop)(c d e:List DV):Prop:=aG a b (eS c) (d=e)
def zA(a:Int)(b c:Prop):Prop:=aG (eQ a) (eS (0:Nat)) b c
def mV:List DV:=cO 0 0 0 0 0
def uC(a:Int):Prop:=(a==2)=false
def wS(a:Nat)(b:Int)(c:Nat)(d e:Int)(f:Nat)(g h:List DV):Prop:=kY a b/\gZ (yZ b a c) (bM b/\zA d (c+1=a) (bQ c a)) (aB e::nZ f g) h (pxs (zQy e f g d a))
def wR(a b:Nat)(c:Int)(d:Nat)(e:List DV)(f:Int)(g:List DV):Prop:=zZQ a 10 b 1 (pxs (zQy c d e f b)) g
def aBE(a b c d:Prop):Prop:=True/\True/\a/\b/\True/\True/\True/\c/\d
theorem zHp(mood:Int)(L:Nat)(xs:List DV)(n most:Int)(hx:Is5 L xs)(hn:n<=16777216):AnsO prog 73 [rA [dJ mood,dS L xs],rJ (n),rD (dK most)] 37 5 n.toNat (pxs (zQy mood L xs most n.toNat)):=
 zWS (t:=6) (Γ:=gamI) (gI (ui (λc=>kY c n) (λa=>(⟨tY 1 n 2 most (dP 3 3 (iP 7 5000 a (rU 8 a))),tZ 3 [cD (aB mood),cD (DV.sl L xs)] 5000 37 5 (pxs (zQy mood L xs most a)) []⟩:Snap)) (λb=>mT n b) (λd=>aL))) zQb Tryz.func73 rfl (nL rfl) rfl λhwf=>by
  refine Eq.mpr (by kernel_rfl:_=(let r:=pxs (zQy mood L xs most (Int.toNat n));let e:=zJr 0 0 0 0 0 most;let s:=eG e;let c:=modS mood 6;let k:=uC c;let l:=lZ c;let v:=aEY e.a e.b e.c most;let m:=uA c;let p:=jD mood 6 6;let x:=iG 150 (aB 0::qE) (oB most) (eG e);fV (∃j:Nat,gZ (kY j n) (bM n/\zA most (0=j) (dC j)) (aB mood::nZ L xs) [] (pxs (zQy mood L xs most j))) (∀a:Nat,let b:=pxs (zQy mood L xs most a);let t:=eZ (wR 5 a mood L xs most s) (∃O:Nat,wS O n a most mood L xs (b++s));let f:=pxs (zQy mood L xs most a);let u:=cO (nAt f 0) (nAt f 1) (nAt f 2) (nAt f 3) (nAt f 4);let W:=dY (kS a) (fR (aBD mood L xs most a 0 0) (aBD mood L xs most a 1 1) (aBD mood L xs most a 2 2) (aBD mood L xs most a 3 3) (aBD mood L xs most a 4 4)) (eZ (wR 5 a mood L xs most u) (∃P:Nat,wS P n a most mood L xs (b++u)));let o:=aE (pA mood 6) (eZ (wR 5 a mood L xs most mV) (∃R:Nat,wS R n a most mood L xs (b++mV)));let w:=fT p o (mY c 0 (aE m (bW (wR 5 a mood L xs most v) (True/\True/\True/\True/\(∃Q:Nat,wS Q n a most mood L xs (b++v))))) 1 (l->mX a (rW a->W) (uB a->t)) (k->t));let g:=zJr (cB xs a 5) (iH xs a 5) (iQ xs a 5) (iR xs a 5) (aY xs (cR a 5)) most;let y:=eG g;let z:=eZ (wR 5 a mood L xs most y) (∃S:Nat,wS S n a most mood L xs (b++y));let A:=aEY g.a g.b g.c most;let q:=aZ a 5;let d:=Int.tmod (a:Int) (L:Int);let B:=decide (d<(L:Int));let h:=aW d 5;let C:=aY xs (h+1);let D:=aY xs h;let E:=fM xs (h+1);let F:=fM xs h;let G:=eF xs d 5;let i:=zJr G F E D C most;let H:=eG i;let I:=eZ (wR 5 a mood L xs most H) (∃U:Nat,wS U n a most mood L xs (b++H));let J:=aEY i.a i.b i.c most;let K:=aW d 5;let M:=K+1;kY a n->fU (jE (a:Int) n) (True/\True/\True/\(rW L->True/\eZ (gH (L:Int)) (True/\True/\True/\(B=true->True/\aBE (iE d L 5 xs) (fR (oI xs d 5) (cX xs h) (cX xs M) (cX xs (M+1)) (bS xs K)) (iG 150 (aB G::eO F E D C) (oB most) (eG i)) (fT p o (mY c 0 (aE m (bW (wR 5 a mood L xs most J) (True/\True/\True/\True/\(∃V:Nat,wS V n a most mood L xs (b++J))))) 1 (l->mX a (rW a->W) (uB a->I)) (k->I))))/\bP (B=false) x w))/\aN (uB L) (True/\True/\True/\(dT a L->True/\aBE (dF a L 5 xs) (fR (mZ xs a 5) (cX xs q) (cX xs (q+1)) (cX xs (q+1+1)) (bS xs q)) (iG 150 (aB (cB xs a 5)::eO (iH xs a 5) (iQ xs a 5) (iR xs a 5) (aY xs (cR a 5))) (oB most) (eG g)) (fT p o (mY c 0 (aE m (bW (wR 5 a mood L xs most A) (True/\True/\True/\True/\(∃T:Nat,wS T n a most mood L xs (b++A))))) 1 (l->mX a (rW a->W) (uB a->z)) (k->z))))/\bP (eV a L) x w)) (gX (a:Int) n->True/\True/\(eS (37:Nat)/\eS (5:Nat))/\List.length r=aW n 5/\a=Int.toNat n/\b=r)))) ?_;delta eS aB aV aW aE iE gX oI dY aF aU aG cQ fG aN cL cU cO jD fR mE gH kS aBD nZ pA oB lZ jE bM bP eO bW eQ fC mT kY aZ bQ dR eF cR gL dC rW uB yZ eG aEY cX fM bH aY bS dF fT iG fU oK cB mY eZ dT fV eV mZ iH iQ iR mX gZ zA mV qE uC uA wS wR aBE;simp only[sS,zQj,zGg,zYq,zYq,jZz,jZz];refine⟨⟨0,wQj _,⟨rfl,rfl⟩,rfl⟩,λk hk=>⟨λhlt=>?_,λhge=>?_⟩⟩
  .have hkn:k<n.toNat:=by omega
   have hnn:n.toNat<=16777216:=by omega
   have tm:Int.tmod (k:Int) (L:Int)=((k%L:Nat):Int):=rfl;simp only[tm,wQp,Nat.add_assoc,Nat.reduceAdd]
   rcases wZ0 L with hL|hL
   .subst hL;have P1:zJr 0 0 0 0 0 most=gPx1 0 xs most k:=by simp[gPx1,gNum]
    have P0:gPx1 0 xs most 0=gPx1 0 xs most k:=by simp[gPx1,gNum]
    simp only[P1]
    (repeat' (first|apply And.intro|intro))<;>(first|assumption|omega|exact A _ (by omega)|rfl|(rw[zQE,zXK];done)|(unfold maxLen;omega)|exact zVo (by omega) _ (by omega)|(apply jKv hkn hnn;simp_all [gPx,Px.ds,Px.zero];done)|(obtain⟨v0,v1,v2,v3,v4⟩:=jYI (mood:=mood) (L:=L) (xs:=xs) (most:=most) (k:=k) (by omega) (wZL (by assumption));apply jKv hkn hnn;simp_all [gPx,Px.ds];done)|(obtain⟨v0,v1,v2,v3,v4⟩:=jYI (mood:=mood) (L:=0) (xs:=xs) (most:=most) (k:=k) (by omega) (wZL (by assumption));apply jKv hkn hnn;simp_all [gPx,Px.ds];done)|(have P2:=P0 (by omega);apply jKv hkn hnn;simp_all [gPx,Px.ds];done))
   .have hmod:=wZz k hL;have P1:zJr (nAt xs (k%L*5)) (nAt xs (k%L*5+1)) (nAt xs (k%L*5+2)) (nAt xs (k%L*5+3)) (nAt xs (k%L*5+4)) most=gPx1 L xs most k:=by simp[gPx1,gNum,hL]
    simp only[P1];have P0:k=0->gPx1 L xs most 0=gPx1 L xs most k:=λh=>by rw[h]
    have A:=hx.2;have B:=hx.1
    (repeat' (first|apply And.intro|intro))<;>(first|assumption|omega|exact A _ (by omega)|rfl|(rw[zQE,zXK];done)|(unfold maxLen;omega)|exact zVo (by omega) _ (by omega)|(apply jKv hkn hnn;simp_all [gPx,Px.ds,Px.zero];done)|(obtain⟨v0,v1,v2,v3,v4⟩:=jYI (mood:=mood) (L:=L) (xs:=xs) (most:=most) (k:=k) (by omega) (wZL (by assumption));apply jKv hkn hnn;simp_all [gPx,Px.ds];done)|(obtain⟨v0,v1,v2,v3,v4⟩:=jYI (mood:=mood) (L:=0) (xs:=xs) (most:=most) (k:=k) (by omega) (wZL (by assumption));apply jKv hkn hnn;simp_all [gPx,Px.ds];done)|(have P2:=P0 (by omega);apply jKv hkn hnn;simp_all [gPx,Px.ds];done))
  .have:k=n.toNat:=by omega
   subst this;rw[zQE,zXK];exact⟨rfl,rfl,rfl⟩
def zZT(op:Int):ByteArray:=if 1<=op/\op<13 then sAt zZB (op.toNat*4) else⟨#[]⟩
def zYH(op:Int)(i:Nat):Int:=if 1<=op/\op<13 then nAt zZB (op.toNat*4+i) else 0
def zZW(op:Int):ByteArray:=if 1<=op/\op<13 then sAt zWv op.toNat else⟨#[]⟩
theorem zY2{op:Int}(h:1<=op/\op<13):op=1\/op=2\/op=3\/op=4\/op=5\/op=6\/op=7\/op=8\/op=9\/op=10\/op=11\/op=12:=by omega
theorem zHb(op:Int):((zZT op).toList==(⟨#[]⟩:ByteArray).toList)=!decide (1<=op/\op<13):=by
 by_cases h:1<=op/\op<13
 .rcases zY2 h with rfl|rfl|rfl|rfl|rfl|rfl|rfl|rfl|rfl|rfl|rfl|rfl<;>decide +kernel
 .simp[zZT,h]
theorem zWM(op:Int):((zZW op).toList==(⟨#[]⟩:ByteArray).toList)=!decide (1<=op/\op<13):=by
 by_cases h:1<=op/\op<13
 .rcases zY2 h with rfl|rfl|rfl|rfl|rfl|rfl|rfl|rfl|rfl|rfl|rfl|rfl<;>decide +kernel
 .simp[zZW,h]
def gZ10:List RV->Option RV:=λv=>some (RV.d (DV.str (zZT (nAt (uj v) 0))))
def gZ11:List RV->Option RV:=λv=>let c:=nAt (uj v) 0;some (RV.d (dQ (decide (1<=c/\c<13))))
def gZ12:List RV->Option RV:=λv=>some (RV.d (DV.str (zZW (nAt (uj v) 0))))
def jYG:Gam:=gamI.add [.p 216 (λv=>let c:=nAt (uj v) 0;some (RV.tup [RV.agg [DV.str (zZT c),dJ (zYH c 1),dJ (zYH c 2),dJ (zYH c 3)],RV.d (dQ (decide (1<=c/\c<13)))])),
 .p 165 gZ10,
 .p 217 gZ11,
 .p 166 gZ12,
 .p 266 gZ10,
 .p 267 gZ12,
 .p 248 gZ11,
 .p 249 gZ11]
def bT(a:Nat):Nat:=a+1+1
def qN(a:Int):Bool:=decide (1<=a/\a<13)
def xG(a:List UInt8):DV:=DV.str (ByteArray.mk (List.toArray a))
def yL(a b c d:Prop):Prop:=a->True/\eY b c d
def aDV(a:Int)(b c d:Nat):List DV:=[aB (zYH a b),aB (zYH a c),aB (zYH a d)]
theorem zQh(op:Int):Ans prog 216 [rJ (op)] (rT [rA [DV.str (zZT op),dJ (zYH op 1),dJ (zYH op 2),dJ (zYH op 3)],rD (dQ (decide (1<=op/\op<13)))]):=
 vv jYG aL Tryz.func216 (let b:=DV.str (zZT op)::aDV op 1 2 3;let c:=gA [xG [],aB 0,aB 0,aB 0] [aM false]=dA b (qN op);let a:=0+aW op 4;let d:=sAt zZB a;let e:=bT a+1;let f:=bT a;let g:=a+1;qB (gX op 1->fU (eJ op 13) c (yL (fI op 13) (gU op 13) (aG (zZB[a]?=some (DV.str d)) (zZB[g]?=some (aB (nAt zZB g))) (zZB[f]?=some (aB (nAt zZB f))) (zZB[e]?=some (aB (nAt zZB e)))) (rB [DV.str d,aB (fM zZB (0+aW op 4)),aB (fM zZB (0+aW op 4+1)),aB (aY zZB a)] b (qN op)))) (bK (zL op) c)) λhwf=>by
  delta eS aB aW tA eJ gX fI aG bK eY gU qB fM aY fU aM bT qN xG zL gA dA rB yL aDV;simp only[sS];refine⟨λh1=>⟨λh2=>?_,λh2=>⟨by omega,?_⟩⟩,λh1=>?_⟩
  .have h:¬(1<=op/\op<13):=by omega
   simp[zZT,zYH,h]
  .have h:1<=op/\op<13:=by omega
   clear h1 h2
   rcases zY2 h with rfl|rfl|rfl|rfl|rfl|rfl|rfl|rfl|rfl|rfl|rfl|rfl<;>exact⟨⟨rfl,rfl,rfl,rfl⟩,⟨rfl,rfl,rfl,rfl⟩,rfl⟩
  .have h:¬(1<=op/\op<13):=by omega
   simp[zZT,zYH,h]
def qM(a:ByteArray):RV:=RV.d (DV.str a)
theorem zQH(op:Int):Ans prog 165 [rJ (op)] (rD (DV.str (zZT op))):=
 vv jYG aL Tryz.func165 (bD (cL 216 op [] (dA (DV.str (zZT op)::aDV op 1 2 3) (qN op))) (aK (eS (qM (zZT op))))) λhwf=>by
  delta eS aB aV aK bD cL aM qM qN gA dA aDV;simp only[sS,zQh]
def zT(a:Int):Prop:=bG (decide (a>=1))
theorem zQM(op:Int):Ans prog 217 [rJ (op)] (rD (dQ (decide (1<=op/\op<13)))):=
 vv jYG aL Tryz.func217 (fV (bK (eJ op 1) (xE op 12 (qN op))) (fY (zT op) (qN op))) λhwf=>by
  delta eS aE eJ bG bK fV aM cZ fY xE qN zT;simp only[sS,zQh,zQH];by_cases h:op>=1<;>simp[h]<;>omega
def xR(a:Bool)(b:Prop):Prop:=dV a->True/\b
theorem zZd(op:Int):Ans prog 166 [rJ (op)] (rD (DV.str (zZW op))):=
 vv jYG aL Tryz.func166 (let a:=sAt zWv (0+aW op 1);True/\True/\cL 217 op [] (aM (qN op))/\True/\xR (qN op) (rD (xG [])=qM (zZW op))/\(bO (qN op)->dY (gU op 13) (zWv[0+aW op 1]?=some (DV.str a)/\True) (qM a=qM (zZW op)))) λhwf=>by
  delta eS aB aV aW dY cL gU aM qM qN xG bO dV xR;simp only[sS,zQh,zQH,zQM];refine⟨λh=>by simp[zZW,h],λh=>⟨by omega,?_⟩⟩
  rcases zY2 h with rfl|rfl|rfl|rfl|rfl|rfl|rfl|rfl|rfl|rfl|rfl|rfl<;>exact⟨rfl,rfl⟩
def pQ(a b:List UInt8)(c:List DV):List DV:=xG a::xG b::c
theorem zZu(op:Int):Ans prog 266 [rJ (op)] (rD (DV.str (zZT op))):=
 vv jYG aL Tryz.func266 (let a:=qM (zZT op);let b:=[(45:UInt8),(97:UInt8),(116:UInt8),(111:UInt8),(112:UInt8)];let c:=[(45:UInt8),(111:UInt8),(117:UInt8),(116:UInt8)];let d:=[(45:UInt8),(105:UInt8),(110:UInt8)];let e:=[(45:UInt8),(111:UInt8),(118:UInt8),(101:UInt8),(114:UInt8)];let f:=pQ [] [99,108,101,97,114] (pQ [115,114,99] [100,115,116] (pQ (115::114::99::e) (100::115::116::e) (pQ (115::114::99::d) (100::115::116::d) (pQ (115::114::99::c) (100::115::116::c) (pQ (115::114::99::b) (100::115::116::b) [xG [120,111,114]])))));let g:=sAt f (aW op 1);bI (aP (gX op 1) (aBC (13<=maxLen) (eJ op ((13:Nat):Int)) (rD (xG [])=a) (fI op ((13:Nat):Int)->True/\dY (gU op 13) (f[aW op 1]?=some (DV.str g)/\True) (qM g=a))) (aE (zL op) (rD (xG [])=a)))) λhwf=>by
  delta eS aW aE aP tA eJ gX fI dY aBC gU bI qM xG pQ zL;simp only[sS,zQh,zQH,zQM,zZd];refine⟨λh1=>⟨by decide,λh2=>?_,λh2=>⟨by omega,?_⟩⟩,λh1=>?_⟩
  .have h:¬(1<=op/\op<13):=by omega
   simp[zZT,h]
  .have h:1<=op/\op<13:=by omega
   clear h1 h2
   rcases zY2 h with rfl|rfl|rfl|rfl|rfl|rfl|rfl|rfl|rfl|rfl|rfl|rfl<;>exact⟨rfl,rfl⟩
  .have h:¬(1<=op/\op<13):=by omega
   simp[zZT,h]
theorem zZn(op:Int):Ans prog 267 [rJ (op)] (rD (DV.str (zZW op))):=
 vv jYG aL Tryz.func267 (let a:=qM (zZW op);let c:=[(45:UInt8),(108:UInt8),(105:UInt8),(103:UInt8),(104:UInt8),(116:UInt8)];let b:=[(101:UInt8),(110:UInt8)];let d:=pQ [] [110,111,114,109,97,108] (pQ [109,117,108,116,105,112,108,121] (115::99::114::101::b) (pQ [111,118,101,114,108,97,121] (100::97::114::107::b) (pQ (108::105::103::104::116::b) [99,111,108,111,114,45,100,111,100,103,101] (pQ [99,111,108,111,114,45,98,117,114,110] (104::97::114::100::c) (pQ (115::111::102::116::c) [100,105,102,102,101,114,101,110,99,101] [xG [101,120,99,108,117,115,105,111,110]])))));let e:=sAt d (aW op 1);bI (aP (gX op 1) (aBC (13<=maxLen) (eJ op ((13:Nat):Int)) (rD (xG [])=a) (fI op ((13:Nat):Int)->True/\dY (gU op 13) (d[aW op 1]?=some (DV.str e)/\True) (qM e=a))) (aE (zL op) (rD (xG [])=a)))) λhwf=>by
  delta eS aW aE aP tA eJ gX fI dY aBC gU bI qM xG pQ zL;simp only[sS,zQh,zQH,zQM,zZd,zZu];refine⟨λh1=>⟨by decide,λh2=>?_,λh2=>⟨by omega,?_⟩⟩,λh1=>?_⟩
  .have h:¬(1<=op/\op<13):=by omega
   simp[zZW,h]
  .have h:1<=op/\op<13:=by omega
   clear h1 h2
   rcases zY2 h with rfl|rfl|rfl|rfl|rfl|rfl|rfl|rfl|rfl|rfl|rfl|rfl<;>exact⟨rfl,rfl⟩
  .have h:¬(1<=op/\op<13):=by omega
   simp[zZW,h]
def aHH(a b:ByteArray):Bool:=ByteArray.toList a==ByteArray.toList b
theorem zXP(op:Int):Ans prog 248 [rJ (op)] (rD (dQ (decide (1<=op/\op<13)))):=
 vv jYG aL Tryz.func248 (True/\aX (cL 266 op [] (qM (zZT op))) (cZ (!(aHH (zZT op) (ByteArray.mk (List.toArray ([]:List UInt8))))) (qN op))) λhwf=>by
  delta eS aB aV aX cL aM cZ qM aHH qN;simp only[sS,zQh,zQH,zQM,zZd,zZu,zZn];rw[zHb];simp
theorem zXn(op:Int):Ans prog 249 [rJ (op)] (rD (dQ (decide (1<=op/\op<13)))):=
 vv jYG aL Tryz.func249 (True/\aX (cL 267 op [] (qM (zZW op))) (cZ (!(aHH (zZW op) (ByteArray.mk (List.toArray ([]:List UInt8))))) (qN op))) λhwf=>by
  delta eS aB aV aX cL aM cZ qM aHH qN;simp only[sS,zQh,zQH,zQM,zZd,zZu,zZn,zXP];rw[zWM];simp
def vg(l:List DV):Oq:=⟨nAt l 0,nAt l 1,nAt l 2,nAt l 3,nAt l 4,nAt l 5,nAt l 6,nAt l 7,nAt l 8,nAt l 9,bAt l 10,bAt l 11⟩
def yQW:Gam:=jYG.add [.p 152 (λv=>some (RV.d (dQ ((ints (cAt (uj v) 0)).all zZz)))),
 .p 164 (λv=>some (RV.d (dQ (Oq.fields (vg (ul v 0)))))),
 .p 167 (λv=>some (RV.d (dQ (ctxB (zQi (cAt (uj v) 0))))))]
def yW(a:Oq)(b c d:Int):Oq:=⟨a.kind,a.image,a.x,a.y,a.mask,a.mx,a.my,b,c,d,a.iso,a.kno⟩
def oE(a:Bool)(b:Prop):Prop:=aN (bG a) b
def wY(a:Int):Prop:=bG (a==0)
def iL(a b c:Prop):Prop:=a->True/\True/\True/\True/\b/\c
def kP(a b:Int):Prop:=gD (a !=b)
def uN(a b:Int)(c:Bool)(d:Prop):Prop:=cS (a !=b) (gO c) d
def fN(a:Int):Prop:=dN a 0
def jZ(a:Int):Prop:=kP a 0
def aIE(a b c d e:Bool):Bool:=Bool.and a (Bool.and b (Bool.and c (Bool.and d e)))
abbrev oD(q:Oq):List DV:=[DV.int .i64 q.kind,DV.int .i64 q.image,DV.int .i64 q.x,DV.int .i64 q.y,DV.int .i64 q.mask,DV.int .i64 q.mx,DV.int .i64 q.my,DV.int .u16 q.opac,DV.int .i64 q.oper,DV.int .i64 q.mode,DV.bool q.iso,DV.bool q.kno]
theorem zZq(o:Oq):Ans prog 164 [rA (oD o)] (rD (dQ (Oq.fields ⟨o.kind,o.image,o.x,o.y,o.mask,o.mx,o.my,o.opac,o.oper,o.mode,o.iso,o.kno⟩))):=
 vv yQW aL Tryz.func164 (let a:=Oq.fields (yW o o.opac o.oper o.mode);let c:=gO a;let d:=yM (fN o.mask) (aP (mE o.mx) (aCM (o.my==0) a) (aN (wY o.mx) c)) (jZ o.mask) (cZ true a);let b:=o.kind;let e:=cS (b==2) (aP (fN o.image) (fU (fN o.x) (uN o.y 0 a (fN o.y->True/\d)) (mG (jZ o.x) a)) (aN (jZ o.image) (bI c))) (oE (b==2) d);bI (mH (qF b) (cZ (aIE (b==3) (o.image==0) (o.x==0) (o.y==0) (aIE (o.mask==0) (o.mx==0) (o.my==0) (o.opac==0) (aIE (o.oper==0) (o.mode==0) (o.iso==false) (o.kno==false) true))) a) (iL ((b==3)=false) (uA b->aP (o.iso=false) (cS o.kno c (pG o.kno e)) (mG (gD o.iso) a)) (oE (b==1) e)))) λhwf=>by
  delta eS aE aP aN mE yW bG bK oE pG gD fU uA qF aM bI wY cS iL cZ gO mH mG dN kP uN fN jZ aCM yM aIE;simp only[sS,zQh,zQH,zQM,zZd,zZu,zZn,zXP,zXn];obtain⟨okind,oimage,ox,oy,omask,omx,omy,oopac,ooper,omode,oiso,okno⟩:=o;simp only[Oq.fields,popO,Oq.mk.injEq];have hb:∀a c:Int,(a==c)=decide (a=c):=λ_ _=>rfl;have hn:∀a c:Int,(a !=c)=!decide (a=c):=λ_ _=>rfl;simp only[hb,hn];cases oiso<;>cases okno<;>by_cases h3:okind=3<;>by_cases h1:okind=1<;>by_cases h2:okind=2<;>by_cases h0:omask=0<;>simp[h3,h1,h2,h0,Bool.or_assoc]<;>first|omega|grind|skip
def uM(a:Nat)(b:List DV):List Int:=List.take a (ints b)
def aIF(a b:Nat)(c:List DV)(d:Int->Bool):Prop:=bZ a b (List.all (uM a c) d=true)
abbrev wY2:=@List.take_succ_eq_append_getElem
theorem zKl(n:Nat)(xs:List DV)(hx:xs=is (ints xs)/\n=xs.length):Ans prog 152 [rD (dS n xs)] (rD (dQ ((ints xs).all zZz))):=
 vv yQW (pH (ui (λc=>aIF c n xs zZz) (λb=>nH (oF 0 n xs (aGH 5 n xs 6 7 b))) (λa=>n-a) (λd=>aL))) Tryz.func152 (let e:=List.all (ints xs) zZz;let c:=eS (DV.sl n xs);fV (∃f:Nat,aT (aIF f n xs zZz) (c/\c/\aT (iS n) (dC f))) (∀a:Nat,let b:=cB xs a 1;bL (aIF a n xs zZz) (dT a n->eY (dF a n 1 xs) (uI xs a) (gJ (aN (gX b (-1048576)) ((gL b 1048576->True/\gO e)/\aE (dR b 1048576) (∃d:Nat,dE (aIF d n xs zZz) (dZ n d a) (c/\c/\aT (iS n) (bQ a d))))) (fY (tA b (-1048576) false) e))) (eV a n->True/\cZ true e))) λhwf=>by
  delta eS aB aW aE iE tA gX aU aN eY fC aT aZ dE bQ bL dR gL dC dF cB dT fV eV mZ aM bZ dZ gJ iS uI cZ fY gO uM aIF;simp only[sS,zQh,zQH,zQM,zZd,zZu,zZn,zXP,zXn,zZq];obtain⟨hx,rfl⟩:=hx;generalize hl:ints xs=l at *;subst hx;simp only[zQl,wQg]at *;simp only[RV.wfs,RV.wf,DV.wf,maxLen,zQl]at hwf;have stop:∀k,k<l.length->zZz (l[k]?.getD 0)=false->l.all zZz=false:=λk hk h=>by
   rw[List.getElem?_eq_getElem hk]at h;exact List.all_eq_false.2 ⟨l[k],List.getElem_mem hk,by simpa using h⟩
  refine⟨⟨0,⟨wQj _,rfl⟩,rfl⟩,λk hk=>⟨λhlt=>?_,λhge=>?_⟩⟩
  .have h:k<l.length:=by omega
   have e:=jQF h;have s0:=stop k h;rw[List.getElem?_eq_getElem h]at s0;simp only[wQA]at s0;rw[e];refine⟨⟨by omega,by omega,h⟩,jVT h,λh1=>⟨λh2=>(s0 (by simp[zZz];omega)).symm,λh2=>⟨k+1,⟨by omega,?_⟩,by omega,by rw[wQ9];omega⟩⟩,λh1=>(s0 (by simp[zZz];omega)).symm⟩;rw[wY2 h,wYv,hk.2];simp[zZz];omega
  .have:k=l.length:=by omega
   subst this;rw[wXb]at hk;exact hk.2.symm
def bU(a:Nat):Nat:=bT (bT a)
def jV(a:Nat):Nat:=bT (bU a)+1
def bF(a:Int):Nat:=aW a 12
def gT(a:Nat):Int:=cN (a:Int) 1
def pP(a b c d:Prop):Prop:=a/\b/\c/\d
def cI(a:Nat):Nat:=jV (bU a)
def cG(a:Nat):Nat:=bT (bU (bU a))
def cE(a:List DV)(b:Nat):Prop:=a[b]?=some (fG a b)
def aGO(a:List DV)(b:Nat):Prop:=a[cI b]?=some (DV.bool (bAt a (cI b)))
def qL(a:Int)(b c:Prop):Prop:=cS (a==0) b c
def rG(a:Int):Nat:=bT (bT (bF a))+1
abbrev wZV:=@List.length_pos_iff
theorem zWA(n:Nat)(xs:List DV)(hO:xs=ops (zQi xs)/\n=(zQi xs).length):Ans prog 167 [rD (dS n xs)] (rD (dQ (ctxB (zQi xs)))):=
 vv yQW aL Tryz.func167 (let d:=ctxB (zQi xs);let b:=gT n;let a:=bF b;let e:=bAt xs (cG a);let c:=bF b;True/\qL (n:Int) (cZ true d) (aN (fS (n:Int)) (True/\eY (iE b n 12 xs) (pP (oI xs b 12) (cX xs a) (cX xs (a+1)) (cX xs (a+1+1)/\bS xs a/\eC (bS xs (c+1)) (bS xs (bT c)) (fR (cE xs (jV a)) (bS xs (bU c)) (bS xs (rG b)) (yP xs (cG a)) (aGO xs a)))) (aP (e=true) (bI (cZ (!(bAt xs (cI c))) d)) (fY (bG e) d))))) λhwf=>by
  delta eS aB aW aE iE aP oI eC aF aU aG fG aN cN fR fS bG eY cX bS aM bT bU jV bI bF yP gT pP cI cG cS cE aGO qL cZ fY rG;simp only[sS,zQC,zQh,zQH,zQM,zZd,zZu,zZn,zXP,zXn,zZq];obtain⟨hO,rfl⟩:=hO;generalize zQi xs=l at *;subst hO;simp only[RV.wfs,RV.wf,DV.wf,maxLen]at hwf;refine⟨λh=>?_,λh=>?_⟩
  .have:l=[]:=by simpa using h
   subst this;rfl
  .obtain⟨N,hN⟩:∃N,l.length=N+1:=⟨l.length-1,by have:l≠[]:=λe=>(by subst e;simp at h);have:=wZV.2 this;omega⟩
   have e:wrap .i64 ((l.length:Int)-1)=(N:Int):=by rw[wQ9];omega
   have hN2:N<l.length:=by omega
   have q1:=zXF hN2;have q2:=zXG hN2;have q3:ctxB l=(l[N].iso && !l[N].kno):=by
    unfold ctxB;rw[wY1,show l.length-1=N by omega,List.getElem?_eq_getElem hN2]
   simp only[e,wQp,q3,q2,zQc];refine⟨by omega,q1,λh=>by rw[h];rfl,λh=>by rw[h];rfl⟩
def zQA(b:Int):Int:=if b=8 then 255 else if b=16 then 65535 else 0
def zWa(b:Int):Bool:=decide (b=8\/b=16)
def errO(bits:Int)(mn:Nat)(o:Oq)(l:List Oq):Int:=
 if ¬(o.kind=1\/o.kind=2\/o.kind=3) then 9
 else if o.fields=false then 10
 else if o.kind=3 then(if l=[] then 18 else 0)
 else if(o.kind=1/\(o.image<0\/o.image>=(mn:Int)))\/o.mask<0\/o.mask>(mn:Int) then 11
 else if ¬(zZz o.x=true/\zZz o.y=true/\zZz o.mx=true/\zZz o.my=true) then 12
 else if o.opac>zQA bits then 13
 else if ¬(1<=o.oper/\o.oper<13) then 14
 else if ¬(1<=o.mode/\o.mode<13) then 15
 else if o.oper≠4/\ctxB l=false then 16
 else if o.kind=2/\64<=l.length then 17
 else 0
def zGK(bits:Int)(mn:Nat)(ps:List Oq)(i:Int)(l:List Oq):Int:=
 if 0<=i then match ps[i.toNat]? with
  |some o=>errO bits mn o l
  |none=>21
 else 21
def gZ13:List RV->Option RV:=λv=>let c:=nAt (uj v) 0;some (RV.tup [RV.d (dK (zQA c)),RV.d (dQ (zWa c))])
def yQV:Gam:=yQW.add [.p 47 gZ13,
 .p 14 gZ13,
 .p 88 (λv=>let c:=ul v 0;some (rJ (zGK (nAt c 0) (lAt c 8) (zQi (cAt c 9)) (nAt (uj v) 1) (zQi (cAt (uj v) 2)))))]
def zK(a:Int)(b:List RV):RV:=RV.tup (RV.d (aF a)::b)
def jX(a:Int):RV:=zK a [aM true]
def zJ(a:Int):RV:=zK (zQA a) [aM (zWa a)]
theorem zZ2(b:Int):Ans prog 47 [rJ (b)] (rT [rD (dK (zQA b)),rD (dQ (zWa b))]):=
 vv yQV aL Tryz.func47 (vH (aE ((b==8)=true) (jX 255=zJ b)/\oK b 8 (aE ((b==16)=true) (jX 65535=zJ b)) (aE ((b==16)=false) (zK 0 [aM false]=zJ b)))) λhwf=>by
  delta eS aE aF bP oK aM zK jX zJ vH;simp only[sS,zQh,zQH,zQM,zZd,zZu,zZn,zXP,zXn,zZq];simp[zQA,zWa];grind
theorem zVf(b:Int):Ans prog 14 [rJ (b)] (rT [rD (dK (zQA b)),rD (dQ (zWa b))]):=
 vv yQV aL Tryz.func14 (True/\True/\aP ((b==8)=true) (jX 255=zJ b) (oK b 8 (aE ((b==16)=true) (jX 65535=zJ b)) (aE ((b==16)=false) (zK 0 [aM false]=zJ b)))) λhwf=>by
  delta eS aE aP aF bP oK aM zK jX zJ;simp only[sS,zQh,zQH,zQM,zZd,zZu,zZn,zXP,zXn,zZq,zZ2];simp[zQA,zWa];grind
def mS(a b c d e f g h:Int)(i:List DV):List DV:=aB a::aB b::aB c::aB d::aB e::aB f::aB g::aF h::i
def lM(a:FuncId)(b:DV)(c:List RV)(e:RV):Prop:=Ans prog a (RV.d b::c) e
def eH(a:Nat):Nat:=bU (bU a)
def iA(a:Nat):Nat:=bT (bT (bU a))+1
def jN(a b:Int):Prop:=(a !=b)=true
def sW(a b:Prop):Prop:=aX a (True/\True/\True/\True/\b)
def vE(a:Int):Nat:=bT (bU (bF a))
def yF(a:Int):Nat:=bT (bF a)+1
def aDC(a:List DV)(b:Int)(c:Nat)(d e f g h i j:Int)(k:List DV):List DV:=mS (eF a b c) (fM a (bF b)) (fM a (bF b+1)) d e f g h (aB i::aB j::k)
def kB(a:Prop)(b c:Int):Prop:=a->True/\jC b c
def aAY(a b:Int)(c:Nat)(d:List DV)(e:Int)(f:List DV):Prop:=jC a (zGK b c (zQi d) e (zQi f))
abbrev wQQ:=@bne_iff_ne
abbrev wZu:=@bne_eq_false_iff_eq
abbrev wZO:=@beq_eq_false_iff_ne
abbrev wZt:=@beq_iff_eq
theorem zHZ(bits cx0 cy0 cx1 cy1 tw th:Int)(on:Nat)(oxs:List DV)(mn:Nat)(mxs:List DV)(pn:Nat)(pxs:List DV)(at_:Int)(n:Nat)(xs:List DV)(hP:pxs=ops (zQi pxs)/\pn=(zQi pxs).length)(hO:xs=ops (zQi xs)/\n=(zQi xs).length):Ans prog 88 [rA [dJ bits,dJ cx0,dJ cy0,dJ cx1,dJ cy1,dJ tw,dJ th,dS on oxs,dS mn mxs,dS pn pxs],rJ (at_),rD (dS n xs)] (rJ ((zGK bits mn (zQi pxs) at_ (zQi xs)))):=
 vv yQV aL Tryz.func88 (let c:=zGK bits mn (zQi pxs) at_ (zQi xs);let i:=aAY 0 bits mn pxs at_ xs;let a:=eF pxs at_ 12;let v:=aP (lZ a) (oZ (eJ (n:Int) 64) (aAY 17 bits mn pxs at_ xs) (fI (n:Int) 64) i) (aN (bG (a==2)) i);let f:=aY pxs (rG at_);let j:=ctxB (zQi xs);let w:=ByteArray.mk (List.toArray ([]:List UInt8));let k:=aY pxs (vE at_);let x:=zZW k;let y:=aHH x w;let b:=bF at_;let z:=zZT f;let A:=aHH z w;let d:=bF at_;let g:=aY pxs (bU d);let l:=aY pxs (yF at_);let m:=aY pxs (bT d);let o:=aY pxs b;let p:=b+1;let B:=eO (fM pxs p) o m l;let q:=List.all (ints B) zZz;let r:=tX 152 4 B [] (aM q)/\True/\True/\kB (dV q) 12 c/\aE (bO q) (yM (gL g (zQA bits)) (aAY 13 bits mn pxs at_ xs) (dR g (zQA bits)) (lM 165 (aB (nAt pxs (eH b))) [] (qM z)/\True/\True/\kB (A=true) 14 c/\aE (A=false) (lM 166 (aB (nAt pxs (iA b))) [] (qM x)/\True/\True/\kB (y=true) 15 c/\iL (y=false) (bL (jN f 4) (tX 167 n xs [] (aM j)) (oZ (dV j) (aAY 16 bits mn pxs at_ xs) (bO j) v)) (aN (bG (f !=4)) v))));let e:=aY pxs (d+1);let C:=aAY 11 bits mn pxs at_ xs;let D:=mR e;let E:=bK D (oZ (gL e (mn:Int)) C (dR e (mn:Int)) (aK r));let F:=jE e 0;let K:=kB F 11 c/\xJ D r;let h:=fM pxs b;let G:=fI h (mn:Int);let H:=eJ h (mn:Int);let I:=cS (a==3) i (rQ a 3 (cS (a==1) (aP (mR h) (bW (H->kB H 11 c/\xJ G r) (iL G (F->K) E)) (bK (nY h) C)) (oE (a==1) (True/\True/\True/\(F->K)/\E))));let s:=bU (vE at_);let t:=Oq.fields ⟨eF pxs at_ 12,fM pxs d,fM pxs (d+1),o,e,m,l,g,f,k,bAt pxs s,bAt pxs (cI d)⟩;let u:=uJ 164 (aDC pxs at_ 12 o e m l g f k [DV.bool (bAt pxs s),DV.bool (bAt pxs (cI d))]) t (kB (dV t) 10 c) (aE (bO t) (gJ (aE (qF a) (qL (n:Int) (aAY 18 bits mn pxs at_ xs) (fS (n:Int)->True/\I))) (oE (a==3) I)));let J:=a !=2;True/\True/\fU (mR at_) (rX at_ (pn:Int) (aAY 21 bits mn pxs at_ xs) (fJ (fI at_ (pn:Int)) (iE at_ pn 12 pxs) (aR (eU (oI pxs at_ 12) (cX pxs b) (cX pxs p) (cX pxs (p+1)) (bS pxs b) (bS pxs (d+1)) (bS pxs (bT d)) (cE pxs (jV b)) (aG (bS pxs (bU d)) (bS pxs (rG at_)) (yP pxs s) (aGO pxs b))) (sW (cL 47 bits [] (zJ bits)) (aP (jN a 1) (cS J (True/\True/\True/\True/\kB (jN a 3) 9 c/\(dN a 3->True/\u)) (aN (bG J) u)) (aE (bG (a !=1)) (bI u))))))) (aAZ (nY at_) 21 c)) λhwf=>by
  delta eS aB aV aW aE iE aP tA eJ gX oI fI oZ jC mR nY aAZ aF aG fG aK aN aX cL fS fJ lZ rQ jE bG aR eO bK bW mS oE bL dR eF gL pM tX eU cX fM bH aY bS fU qF aM bT bU jV bI bF yP gJ lM cI eH iA cS cE iL aGO rX qL zK zJ qM aHH bO uJ xJ dN jN dV sW rG vE yF aDC kB yM aAY;simp only[sS,zQC,zQh,zQH,zQM,zZd,zZu,zZn,zXP,zXn,zZq,zZ2,zVf];obtain⟨hO,rfl⟩:=hO;obtain⟨hP,rfl⟩:=hP;generalize zQi pxs=ps at *;generalize zQi xs=l at *;subst hO hP;simp only[RV.wfs,RV.wf,DV.wf,maxLen]at hwf;have hctx:=zWA l.length (ops l) ⟨by rw[zQC],by rw[zQC]⟩;rw[zQC]at hctx;have hnear:=λa b c d=>zKl 4 [DV.int .i64 a,DV.int .i64 b,DV.int .i64 c,DV.int .i64 d] ⟨by simp[ints,is],rfl⟩;have e0:at_<0->zGK bits mn ps at_ l=21:=λh=>by unfold zGK;rw[if_neg (by omega)]
  have e1:¬at_<0->at_>=(ps.length:Int)->zGK bits mn ps at_ l=21:=λh h1=>by unfold zGK;rw[if_pos (by omega),wQW (by omega)]
  have e2:∀(h:¬at_<0)(h2:at_.toNat<ps.length),zGK bits mn ps at_ l=errO bits mn ps[at_.toNat] l:=λh h1=>by unfold zGK;rw[if_pos (by omega),List.getElem?_eq_getElem h1]
  refine⟨λh0=>⟨λh1=>(e1 h0 h1).symm,λh1=>?_⟩,λh0=>(e0 h0).symm⟩;have hk:at_.toNat<ps.length:=by omega
  have q1:=zXF hk;have q2:=zXG hk;have q3:=zQc ps;rw[e2 h0 hk];simp only[q2,q3];refine⟨by omega,q1,?_⟩;have hsp:=@Oq.spare_fields ps[at_.toNat];generalize ps[at_.toNat]=o at *;clear e0 e1 e2 q1 q2 q3 h0 h1 hk;have hl:l.length=0↔l=[]:=by simp
  simp only[ints,wQi,wQs,wZX,List.all_nil,wXH]at hnear |-;have hfl:=zZq o;have heta:(⟨o.kind,o.image,o.x,o.y,o.mask,o.mx,o.my,o.opac,o.oper,o.mode,o.iso,o.kno⟩:Oq)=o:=rfl;simp only[heta]at hfl |-;clear heta;have hnm:=zHb o.oper;have hmd:=zWM o.mode;simp only[hnm,hmd,wZt,wZO,wQQ,wZu,wQn,wZl,wQf,wQX]
  (repeat' (first|apply And.intro|intro _))<;>(first|exact hnear _ _ _ _|exact hctx|exact hfl|exact R18_far_ans _|exact R18_spare_ans _|(unfold errO;clear hnear hctx hfl;grind))
def zYy(bits:Int)(c:Rc)(tw th:Int)(l:List Int)(mn pn:Nat):Int:=
 if zWa bits=false then 1
 else if c.empty=true\/c.area>16777216\/zZz c.a=false\/zZz c.b=false then 2
 else if(cntS c tw th).2.2=false then 3
 else if zZ4 l (wrap .i64 ((cntS c tw th).1*(cntS c tw th).2.1))=false then 4
 else if(mn:Int)>64\/(pn:Int)>4096 then 5
 else 0
def vh(l:List DV):Rc:=⟨nAt l 1,nAt l 2,nAt l 3,nAt l 4⟩
def yXe:Gam:=yQV.add [.p 9 gZ2,
 .p 75 (λv=>let c:=ul v 0;some (rJ (zYy (nAt c 0) (vh c) (nAt c 5) (nAt c 6) (ints (cAt c 7)) (lAt c 8) (lAt c 9))))]
def nB(a b:Prop):Prop:=True/\True/\True/\True/\bD a b
def qO(a b c:Prop):Prop:=True/\True/\True/\True/\True/\a/\True/\b/\c
theorem zGe(a b c d w h:Int):Ans prog 9 [rA [dJ a,dJ b,dJ c,dJ d],rJ (w),rJ (h)] (rT [rJ (((cntS ⟨a,b,c,d⟩ w h).1)),rJ (((cntS ⟨a,b,c,d⟩ w h).2.1)),rD (dQ ((cntS ⟨a,b,c,d⟩ w h).2.2))]):=
 vv yXe aL Tryz.func9 (let g:=aBK ⟨a,b,c,d⟩ w h;let e:=aFM 0 0 [aM false]=g;let f:=nC a b c d;qO (bH 39 (eO a b c d) [] (aM f)) (pG f (True/\True/\True/\(gX w 1->True/\aP (gX h 1) (True/\True/\True/\True/\mL (dR w (cN c a)) (True/\True/\True/\True/\fU (gL h (cN d b)) e (fP (dR h (cN d b)) (aX (gH w) (nB (gH h) (kV (aFM (oH (gW (cN (cN c a) 1) w)) (oH (gW (cN (cN d b) 1) h)) sN=g)))))) (mK w (cN c a)) e) (fP (zL h) e))/\(zL w->aK e))) (aE (gD f) (aK e))) λhwf=>by
  delta eS aB aV aE aP tA gX aU aK bD aX cN gW gH eO bK kV pG gD dR gL oH bH fU aM nB aFM aBK fP zL nC qO mK mL sN;simp only[sS,zQJ,zQ4,zYt,zZ2,zVf];unfold cntS;cases he:Rc.empty ⟨a,b,c,d⟩
  .obtain⟨e1,e2,e3,e4,e5,e6⟩:=(Rc.empty_iff _).1 he;simp only at e1 e2 e3 e4 e5 e6;have w1:wrap .i64 (c-a)=c-a:=by rw[wQ9];omega
   have w2:wrap .i64 (d-b)=d-b:=by rw[wQ9];omega
   simp only[w1,w2];have hq:∀W v:Int,1<=v->v<=W->W<=2147483648->wrap .i64 (wrap .i64 (Int.tdiv (wrap .i64 (W-1)) v)+1)=wrap .i64 (Int.tdiv (wrap .i64 (wrap .i64 (W+v)-1)) v):=λW v h1 h2 h3=>by
    have a1:wrap .i64 (W-1)=W-1:=by rw[wQ9];omega
    have a2:wrap .i64 (W+v)=W+v:=by rw[wQ9];omega
    have a3:wrap .i64 (W+v-1)=W+v-1:=by rw[wQ9];omega
    rw[a1,a2,a3,wQ5 (by omega),wQ5 (by omega)];have b1:(W+v-1) / v=(W-1) / v+1:=by rw[show W+v-1=(W-1)+1*v by omega,wYy _ _ (by omega)]
    rw[b1];have b2:0<=(W-1) / v:=wQU (by omega) (by omega);have b3:(W-1) / v<=W-1:=wZY _ (by omega);rw[wQ9 ((W-1) / v)];congr 1;omega
   by_cases h1:w<1<;>by_cases h3:h<1<;>by_cases h2:c-a<w<;>by_cases h4:d-b<h<;>simp[h1,h2,h3,h4]<;>first|omega|exact⟨by omega,by omega,hq _ _ (by omega) (by omega) (by omega),hq _ _ (by omega) (by omega) (by omega)⟩
  .simp
def pB(a:Int):AV:=bE (aB (aU a))
def aAE(a b:Int):List DV:=[aB a,aB b]
theorem zJV(bits cx0 cy0 cx1 cy1 tw th:Int)(on:Nat)(oxs:List DV)(mn:Nat)(mxs:List DV)(pn:Nat)(pxs:List DV)(hO:oxs=is (ints oxs)/\on=oxs.length):Ans prog 75 [rA [dJ bits,dJ cx0,dJ cy0,dJ cx1,dJ cy1,dJ tw,dJ th,dS on oxs,dS mn mxs,dS pn pxs]] (rJ ((zYy bits ⟨cx0,cy0,cx1,cy1⟩ tw th (ints oxs) mn pn))):=
 vv yXe aL Tryz.func75 (let b:=(⟨cx0,cy0,cx1,cy1⟩:Rc);let a:=zYy bits b tw th (ints oxs) mn pn;let c:=Rc.area b;let g:=cntS b tw th;let h:=g.snd;let i:=h.fst;let j:=g.fst;let d:=aU (j*i);let e:=zZ4 (ints oxs) d;let k:=h.snd;let f:=List.all (ints (aAE cx0 cy0)) zZz;True/\eZ (cL 47 bits [] (zJ bits)) (mL (dV (zWa bits)) (jC 1 a) (bO (zWa bits)) (True/\aAN cx0 cy0 cx1 cy1/\True/\bL (nC cx0 cy0 cx1 cy1=false) (bH 151 (eO cx0 cy0 cx1 cy1) [] (aV c)) (aDS c 16777216 (fT (tX 152 2 (aAE cx0 cy0) [] (aM f)) (kB (dV f) 2 a) (aE (bO f) (True/\bD (bH 78 (eO cx0 cy0 cx1 cy1) (lE tw th) (aBK b tw th)) (aK (kB (dV k) 3 a/\aE (bO k) (eZ (AnsG prog 79 0 [bE (DV.sl on oxs),pB (j*i)] [] (rP (aO (Cl.ref 0 (List.length (zXx (ints oxs) d)))::kE e) [bR 3 1 (is (zXx (ints oxs) d))] true)) (yM (dV e) (jC 4 a) (bO e) (aP (dR (mn:Int) 64) (oZ (gL (pn:Int) 4096) (jC 5 a) (dR (pn:Int) 4096) (jC 0 a)) (aAZ (mK (mn:Int) 64) 5 a))))))))) (aAZ (mK c 16777216) 2 a))/\bK (gD (nC cx0 cy0 cx1 cy1)) (jC 2 a)))) λhwf=>by
  delta eS aB aV aE aP oZ jC aAZ aF aU bE aK bD cL rP pB kE eO bK gD bL dR gL pM tX bH fT eZ aM lE aFM aBK zK zJ bO nC dV mK mL kB yM aAE aDS aAN;simp only[sS,zQJ,zQ4,zYt,zZ2,zVf,zGe];obtain⟨hO,rfl⟩:=hO;generalize ints oxs=l at *;subst hO;have hord:=λM=>zWH (is l).length (is l) M ⟨by rw[zZI],rfl⟩;have hnear:=λa b=>zKl 2 [DV.int .i64 a,DV.int .i64 b] ⟨by simp[ints,is],rfl⟩;have hcnt:=zJ7 cx0 cy0 cx1 cy1 tw th;simp only[zZI]at hord;simp only[ints,wQi,wQs,wZX,List.all_nil,wXH]at hnear |-;have he:1=1:=rfl
  (repeat' (first|apply And.intro|intro _))<;>(first|exact hnear _ _|exact hcnt|exact hord _|exact R18_far_ans _|rfl|(unfold zYy;clear hnear hcnt hord;simp only;grind))
theorem zUC:∀(l:List Oq)(k:Nat),(ops l).take (k*12)=ops (l.take k)
 |[],k=>by simp[ops]
 |o::l,0=>by simp[ops]
 |o::l,k+1=>by
  have e:ops (o::l)=o.cells++ops l:=by simp[ops]
  have e2:ops ((o::l).take (k+1))=o.cells++ops (l.take k):=by simp[ops]
  rw[e,e2,wX0,wQR (by simp[Oq.cells];omega),<-zUC l k];congr 2;simp[Oq.cells];omega
def zXf(o:Oq)(st:List Oq):List Oq:=if o.kind=2 then st++[o] else if o.kind=3 then st.dropLast else st
def runO(bits:Int)(mn:Nat):List Oq->Int->List Oq->Int × Int
 |[],i,st=>if st=[] then(0,0) else(18,i)
 |o::r,i,st=>if errO bits mn o st=0 then runO bits mn r (i+1) (zXf o st) else(errO bits mn o st,i)
def opsE(bits:Int)(c:Rc)(tw th:Int)(l:List Int)(mn:Nat)(ps:List Oq):Int × Int:=
 if zYy bits c tw th l mn ps.length=0 then runO bits mn ps 0 [] else(zYy bits c tw th l mn ps.length,0)
def yX6:Gam:=yXe.add [.p 46 (λv=>let d:=ul v 0;let c:=opsE (nAt d 0) (vh d) (nAt d 5) (nAt d 6) (ints (cAt d 7)) (lAt d 8) (zQi (cAt d 9));some (RV.tup [rJ c.1,rJ c.2]))]
def aH(a b c e:DV)(f:wc):wc:=Cl.d a::Cl.d b::Cl.d c::Cl.d e::f
def aFA(a b c e f g h:Int)(i j k:DV)(l:wc):wc:=Cl.d (aB a)::Cl.d (aB b)::aH (aB c) (aB e) (aB f) (aB g) (aH (aB h) i j k l)
def aJI(a b:Nat)(c:List Oq)(d:vz):vz:=iP a b (List.length c) d
def qW(a:Ann):Ann:=fK (gI a)
def aCW(a b:Nat)(c:vz)(d:vD):Snap:=⟨dP a b c,d⟩
def aET(a:Nat × List Oq)(b:Nat)(c:Prop):Prop:=a.fst<=b/\List.length a.snd<=64/\c
def aES(a:Int)(b:Nat)(c:Nat × List Oq)(d:List DV):Int × Int:=runO a b (List.drop c.fst (zQi d)) (c.fst:Int) c.snd
def cT(a:Prop):Prop:=eS (0:Nat)/\a
def kL(a:Nat)(b:List Oq):Prop:=a=List.length b
def gN(a b:Nat):Nat:=bT (aZ a b)
def gS(a b:Nat):Nat:=bU (aZ a b)
def hZ(a b:Nat):Nat:=bT (aZ a b)+1
def pO(a b:Nat):Nat:=bT (bT (aZ a b))+1
def aFG(a:Nat):Nat:=Int.toNat (gT a)
def aBO(a:Nat):Prop:=0<=gT a/\gT a<=(a:Int)
def jK(a:Prop)(b:DV)(c:Nat)(d:Prop):Prop:=aG a (eS b) (eS (fC c)) d
def xC(a:Prop)(b:List DV)(c:Nat)(d e f g h:Prop):Prop:=eU a (cX b c) (cX b (c+1)) (cX b (c+1+1)) d e f (cE b (jV c)) (aG g h (yP b (cG c)) (aGO b c))
def xD(a:List DV)(b c d:Nat)(e f g h i j k:Int)(l:List DV):List DV:=mS (cB a b 12) (iH a b c) (iQ a b d) e f g h i (aB j::aB k::l)
def aAX(a b:Int):RV:=RV.tup [aV a,aV b]
def aCX(a:Int × Int):RV:=aAX a.fst a.snd
def kQ(a:Prop)(b:Nat)(c:List DV)(d:Prop):Prop:=jK a (DV.sl b c) b d
abbrev wYB:=@List.drop_length
abbrev wZ6:=@List.dropLast_eq_take
theorem zVj(bits cx0 cy0 cx1 cy1 tw th:Int)(on:Nat)(oxs:List DV)(mn:Nat)(mxs:List DV)(pn:Nat)(pxs:List DV)(hP:pxs=ops (zQi pxs)/\pn=(zQi pxs).length)(hO:oxs=is (ints oxs)/\on=oxs.length):Ans prog 46 [rA [dJ bits,dJ cx0,dJ cy0,dJ cx1,dJ cy1,dJ tw,dJ th,dS on oxs,dS mn mxs,dS pn pxs]] (rT [rJ (((opsE bits ⟨cx0,cy0,cx1,cy1⟩ tw th (ints oxs) mn (zQi pxs)).1)),rJ (((opsE bits ⟨cx0,cy0,cx1,cy1⟩ tw th (ints oxs) mn (zQi pxs)).2))]):=
 vv yX6 (qW (Ann.loop (Inv.mk (Nat × List Oq) (λ(b:Nat × List Oq)=>aET b pn (aES bits mn b pxs=runO bits mn (zQi pxs) 0 [])) (λ(a:Nat × List Oq)=>aCW 1 1 (aJI 5 1005 a.snd (aGH 15 pn pxs 16 17 a.fst)) (tZ 1 (aFA bits cx0 cy0 cx1 cy1 tw th (DV.sl on oxs) (DV.sl mn mxs) (DV.sl pn pxs) []) 1005 61 12 (ops a.snd) [])) (λ(c:Nat × List Oq)=>pn-c.fst)) (λ(d:Nat × List Oq)=>aL))) Tryz.func46 (let k:=aCX (opsE bits ⟨cx0,cy0,cx1,cy1⟩ tw th (ints oxs) mn (zQi pxs));let d:=aB bits::aB cx0::aB cy0::aB cx1::aB cy1::aB tw::aB th::DV.sl on oxs::DV.sl mn mxs::nZ pn pxs;let j:=runO bits mn (zQi pxs) 0 [];let n:=zYy bits ⟨cx0,cy0,cx1,cy1⟩ tw th (ints oxs) mn pn;fV (bH 75 d [] (aV n)) (uX n (aAX n 0=k) (aE (fN n) (True/\True/\True/\(∃h:Nat × List Oq,gZ (aET h pn (aES bits mn h pxs=j)) (cT (kQ (kL 0 h.snd) pn pxs (dC h.fst))) d [] (ops h.snd))/\(∀c:Nat × List Oq,let b:=List.length c.snd;let a:=c.fst;let i:=ops c.snd;let o:=cB pxs a 12;let l:=aZ a 12;let q:=xD pxs a 12 12 (iR pxs a 12) (aY pxs (cR a 12)) (aY pxs (gN a 12)) (aY pxs (hZ a 12)) (aY pxs (gS a 12)) (aY pxs (pO a 12)) (aY pxs (bT (bU l))) [DV.bool (bAt pxs (cG l)),DV.bool (bAt pxs (cI l))];let p:=(c.fst:Int);let m:=zGK bits mn (zQi pxs) p (zQi i);bL (aET c pn (aES bits mn c pxs=j)) (bL (dT a pn) (dF a pn 12 pxs) (aR (xC (mZ pxs a 12) pxs (aZ a 12) (bS pxs l) (bS pxs (cR a 12)) (bS pxs (gN a 12)) (bS pxs (gS a 12)) (bS pxs (pO a 12))) (True/\True/\True/\bH 88 d [aV p,rD (DV.sl (List.length c.snd) (ops c.snd))] (aV m)/\mH (jN m 0) (aAX m p=k) (fN m->True/\cS (o==2) (True/\True/\aR (zZQ 12 88 b 1 i q) (∃g:Nat × List Oq,aET g pn (aES bits mn g pxs=j)/\gZ (dZ pn g.fst a) (cT (kQ (kL (b+1) g.snd) pn pxs (bQ a g.fst))) d (i++q) (ops g.snd))) (oK o 2 (qF o->bD (b<=maxLen) (aR (aBO b) (∃f:Nat × List Oq,aET f pn (aES bits mn f pxs=j)/\gZ (dZ pn f.fst a) (cT (kQ (kL (aFG b) f.snd) pn pxs (bQ a f.fst))) d (List.take (bF (gT b)) i) (ops f.snd)))) (aE ((cB pxs a 12==3)=false) (∃e:Nat × List Oq,aET e pn (aES bits mn e pxs=j)/\gZ (dZ pn e.fst a) (cT (kQ (kL b e.snd) pn pxs (bQ a e.fst))) d i (ops e.snd)))))))) (eV a pn->mX b (aE (rW b) (kV (aAX 18 (pn:Int)=k))) (aE (uB b) (aAX 0 0=k)))))))) λhwf=>by
  delta eS aB aV aW aE iE aF aU aG fG bD cN nZ bP aR bK cT mS kV fC aZ bQ bL dR cR gL dC rW uB eU cX fM bH aY bS dF oK cB dT fV eV mZ iH iQ iR mX gZ qF bT bU jV kL dZ bF yP gN gS hZ gT pO aFG aBO cI cG cS cE jK aGO xC xD mH dN jN fN uX aAX aCX kQ aET aES;simp only[sS,zQC];obtain⟨hP,rfl⟩:=hP;have hfr:=zJV bits cx0 cy0 cx1 cy1 tw th on oxs mn mxs (zQi pxs).length pxs hO;have hop:=λi st=>zHZ bits cx0 cy0 cx1 cy1 tw th on oxs mn mxs (zQi pxs).length pxs i (List.length st) (ops st) ⟨hP,rfl⟩ ⟨by rw[zQC],by rw[zQC]⟩;simp only[zQC]at hop;generalize zQi pxs=ps at *;subst hP;simp only[RV.wfs,RV.wf,DV.wf,DV.wfs,maxLen]at hwf;have hpl:ps.length<=9223372036854775807:=by omega
  have hE:∀E:Int,zYy bits ⟨cx0,cy0,cx1,cy1⟩ tw th (ints oxs) mn ps.length=E->opsE bits ⟨cx0,cy0,cx1,cy1⟩ tw th (ints oxs) mn ps=if E=0 then runO bits mn ps 0 [] else(E,0):=λE h=>by unfold opsE;rw[h]
  generalize zYy bits ⟨cx0,cy0,cx1,cy1⟩ tw th (ints oxs) mn ps.length=FE at *;rw[hE FE rfl];clear hE;refine⟨hfr,λhne=>?_,λhe=>⟨?_,λz hz=>⟨λhlt=>?_,λhge=>?_⟩⟩⟩
  .have:FE≠0:=by simpa using hne
   simp[this]
  .exact⟨(0,[]),⟨wQj _,wQj _,rfl⟩,⟨rfl,rfl⟩,rfl⟩
  .obtain⟨k,st⟩:=z;obtain⟨z1,z2,z3⟩:=hz;simp only at *;have hk:k<ps.length:=by omega
   have q1:=zXF hk;have q2:=zXG hk;have q3:=zQc ps;have q4:=zQc st;have hoe:zGK bits mn ps (k:Int) st=errO bits mn ps[k] st:=by unfold zGK;rw[if_pos (by omega),wQp,List.getElem?_eq_getElem hk]
   have hop1:=hop (k:Int) st;have hd:ps.drop k=ps[k]::ps.drop (k+1):=wXl hk;rw[hd]at z3;simp only[runO]at z3;simp only[hoe]at hop1 |-;have hF:FE=0:=by simpa using he
   have hpush:errO bits mn ps[k] st=0->ps[k].kind=2->st.length<64:=λh1 h2=>by
    unfold errO at h1;grind
   have hpop:errO bits mn ps[k] st=0->ps[k].kind=3->st≠[]:=λh1 h2=>by
    unfold errO at h1;grind
   have w1:wrap .i64 ((k:Int)+1)=((k+1:Nat):Int):=by rw[wQ9];omega
   simp only[q2,hF,if_true];refine⟨by omega,q1,hop1,λhne=>?_,λh0=>?_⟩
   .have h0:errO bits mn ps[k] st≠0:=by simpa using hne
    rw[if_neg h0]at z3;rw[<-z3];exact⟨rfl,rfl⟩
   .have h0:errO bits mn ps[k] st=0:=by simpa using h0
    rw[if_pos h0]at z3;have s2:ps[k].kind=2->runO bits mn (ps.drop (k+1)) ((k+1:Nat):Int) (st++[ps[k]])=runO bits mn ps 0 []:=λh=>by
     rw[<-z3];simp[zXf,h]
    have s3:ps[k].kind=3->runO bits mn (ps.drop (k+1)) ((k+1:Nat):Int) st.dropLast=runO bits mn ps 0 []:=λh=>by
     rw[<-z3];simp[zXf,h]
    have s1:ps[k].kind≠2->ps[k].kind≠3->runO bits mn (ps.drop (k+1)) ((k+1:Nat):Int) st=runO bits mn ps 0 []:=λh h'=>by
     rw[<-z3];simp[zXf,h,h']
    have hd2:st≠[]->wrap .i64 ((st.length:Int)-1)=((st.length-1:Nat):Int):=λh=>by
     have:=wZV.2 h;rw[wQ9];omega
    have hd3:(ops st).take ((st.length-1)*12)=ops st.dropLast:=by rw[zUC,wZ6]
    have cells:ops [ps[k]]=ps[k].cells:=by simp[ops]
    refine⟨λh2=>?_,λh2=>⟨λh3=>?_,λh3=>?_⟩⟩
    .have h2:ps[k].kind=2:=by simpa using h2
     have hl:=hpush h0 h2;refine⟨⟨by rw[q4],rfl,by simp only[maxLen];omega,by omega⟩,(k+1,st++[ps[k]]),⟨by omega,by simp;omega,s2 h2⟩,by omega,⟨by simp,w1⟩,by rw[zQU,cells];rfl⟩
    .have h3:ps[k].kind=3:=by simpa using h3
     have hne:=hpop h0 h3;rw[hd2 hne];simp only[wQp];refine⟨by simp only[maxLen];omega,by omega,(k+1,st.dropLast),⟨by omega,by simp;omega,s3 h3⟩,by omega,⟨by simp,w1⟩,hd3⟩
    .have h2:ps[k].kind≠2:=by simpa using h2
     have h3:ps[k].kind≠3:=by simpa using h3
     exact⟨(k+1,st),⟨by omega,z2,s1 h2 h3⟩,by omega,⟨rfl,w1⟩,rfl⟩
  .obtain⟨k,st⟩:=z;obtain⟨z1,z2,z3⟩:=hz;simp only at *;have hk:k=ps.length:=by omega
   subst hk;rw[wYB]at z3;simp only[runO]at z3;have hF:FE=0:=by simpa using he
   simp only[hF,if_true];rw[<-z3];refine⟨by simp only[maxLen];omega,λh=>?_,λh=>?_⟩
   .have:st≠[]:=λe=>by subst e;simp at h
    simp[this]
   .have:st=[]:=List.length_eq_zero_iff.1 (by omega);simp[this]
def vl(l:List DV):Rw:=⟨nAt l 0,nAt l 1,nAt l 2,nAt l 3,nAt l 4,nAt l 5,nAt l 6,nAt l 7,nAt l 8,nAt l 9,nAt l 10⟩
def yXf:Gam:=yX6.add [.p 44 (λv=>some (rJ (gOff (nAt (uj v) 0) (nAt (uj v) 1)))),
 .p 15 (λv=>some (RV.agg (oD (gOp (vl (ul v 0)) (bAt (uj v) 1) (nAt (uj v) 2) (ux (ul v 3)) (bAt (uj v) 4) (nAt (uj v) 5)))))]
theorem zHo(n corner:Int)(hc : -100<=corner/\corner<=100):Ans prog 44 [rJ (n),rJ (corner)] (rJ ((gOff n corner))):=
 vv yXf aL Tryz.func44 (True/\wI n 3 (aAZ (pA n 3) corner (gOff n corner)) (oK (modS n 3) 0 (gH 3) (aR (jD (gW n 3) 9 9) (jC (cN (aU (corner+pZ n 3 9)) 4) (gOff n corner))))) λhwf=>by
  delta eS aB aV aE jC aAZ aU cL cN jD gW mE gH pA pZ wI bP aR oK;simp only[sS,zQj,zYq];have b:=@zZF (wrap .i64 (Int.tdiv n 3)) 9 (by omega) (by omega);unfold gOff;have w1:wrap .i64 (corner+modS (wrap .i64 (Int.tdiv n 3)) 9)=corner+modS (wrap .i64 (Int.tdiv n 3)) 9:=wQb _ (by omega);have w2:wrap .i64 (corner+modS (wrap .i64 (Int.tdiv n 3)) 9-4)=corner+modS (wrap .i64 (Int.tdiv n 3)) 9-4:=wQb _ (by omega);simp only[w1,w2];refine⟨λh=>?_,λh=>⟨by decide,?_⟩⟩
  .rw[if_pos (by simpa using h)]
  .rw[if_neg (by simpa using h)]
def bY(a:DV)(b:wc):Bx:=Bx.cells (Cl.d a::b)
def aDU(a:DV)(b:wc):wc:=Cl.d a::Cl.d a::b
def aKD(a b c d:Int)(e:wc):wc:=aH (aB a) (aB b) (aB c) (aB d) e
def kU(a b c d:Nat)(e:vz):vz:=dP a b (dP c d e)
def jF(a:Nat)(b:Int)(c:vz):vz:=mP a (aB b) c
def pE(a:vz)(b:Nat)(c:Bx)(d:Nat)(e:Bx)(f:vD):Snap:=⟨a,vL b c d e f⟩
def wM(a b c d:Int)(e:wc):Bx:=Bx.cells (aH (aB a) (aB b) (aB c) (aB d) e)
def xL(a b:Int)(c:Bool)(d:DV)(e:wc):wc:=aH (aB a) (aB b) (DV.bool c) d e
def aII(a:vz)(b:Nat)(c:Int)(d:wc)(e:vD):Snap:=jJ a b (bY (aB c) d) e
def pJ(a:wc):wc:=aDU (aB 0) a
def nO:DV:=aF 0
def aIA(a:Oq)(b:wc):wc:=xL a.oper a.mode a.iso (DV.bool a.kno) b
def aJR(a:Nat)(b:Int)(c:wc)(d:Nat)(e:Bx)(f:vD):vD:=vL a (bY (aB b) c) d e f
def aBA(a:Nat)(b:Bool)(c:Nat)(d:DV)(e:vz):vz:=iF a (DV.bool b) c d e
def aLE(a:Int)(b:Oq)(c d e f g:Int)(h:DV)(i:wc):Bx:=wM a b.image c d (aH (aB e) (aB f) (aB g) h i)
def aLF(a:Oq)(b c d e f:Int)(g:DV)(h:wc):Bx:=aLE a.kind a b c d e f g h
def aLG(a:Oq)(b c d e:Int)(f:DV)(g:wc):Bx:=aLF a b c a.mask d e f g
def aLH(a:Oq)(b c d e:Int)(f:wc):Bx:=aLG a b c d e (aF a.opac) f
def aLI(a:Oq)(b c d e:Int)(f:wc):Bx:=aLH a b c d e (aIA a f)
def aLJ(a:Oq)(b c d:Int)(e:wc):Bx:=aLI a b c a.mx d e
def aLL(a:Oq)(b c:Int)(d:wc):Bx:=aLJ a b c a.my d
def aLM(a:Oq)(b:Int)(c:wc):Bx:=aLL a a.x b c
def yV(a:Oq)(b:wc):Bx:=aLM a a.y b
def aFB(a:wc):wc:=pJ (pJ a)
def aLN(a:Nat)(b:wc)(c:Nat)(d:Bx)(e:vD):vD:=aJR a 0 b c d e
def aLO(a:Nat)(b:wc)(c:Nat)(d:Bx)(e:vD):vD:=aLN a (pJ b) c d e
def tT(a:Nat)(b:wc)(c:Nat)(d:Bx)(e:vD):vD:=aLO a (aFB b) c d e
def aEX(a:Nat)(b:Bool)(c:vz):vz:=mP a (DV.bool b) c
def aMQ(a b c:Nat)(d:vz):vz:=kU 6 a b c d
def aJM(a b:Nat)(c:vz):vz:=aMQ 6 a b c
def gC(a b:Prop):Prop:=True/\True/\True/\True/\aX a b
def nP(a:Int)(b c d e:Prop):Prop:=bM a/\b/\c/\d/\e
def lN(a:Prop)(b c:List DV)(d:Prop):Prop:=aG a (eS b) (eS c) d
def kX(a b:Int)(c:Bool)(d:List DV):List DV:=aB a::aB b::DV.bool c::d
def dB(a:Prop):Prop:=eS (0:Nat)/\eS (0:Nat)/\a
def aJW(a:Oq)(b:List DV):List DV:=mS a.kind a.image a.x a.y a.mask a.mx a.my a.opac (kX a.oper a.mode a.iso b)
def rR(a:Bool):List DV:=[DV.bool a]
def iO(a:Int)(b:Prop):Prop:=cP (aF a) (eS (0:Nat)) b
def tU(a:Bool):Prop:=eS (DV.bool a)
def pF(a:Oq):List DV:=aJW a (rR a.kno)
def nQ(a b:Prop)(c d e:List DV)(f:Prop):Prop:=a/\b/\lN (eS c) d e f
def aBB(a b:Prop)(c d e f g h i:Int)(j k:List DV)(l:Prop):Prop:=a/\lN b (aB c::aB d::aB e::aB f::aB g::aB h::aB i::j) k l
theorem yZr(r:Rw)(push:Bool)(imgs:Int)(c:Rc)(free:Bool)(most:Int)(hc:(-100<=c.a/\c.a<=100) /\ -100<=c.b/\c.b<=100)(hi:1<=imgs/\imgs<=100):Ans prog 15 [rA [dJ r.k,dJ r.im,dJ r.x,dJ r.y,dJ r.ma,dJ r.mx,dJ r.my,dJ r.op,dJ r.ope,dJ r.mo,dJ r.fl],rD (dQ push),rJ (imgs),rA [dJ c.a,dJ c.b,dJ c.c,dJ c.d],rD (dQ free),rD (dK most)] (rA (oD (gOp r push imgs c free most))):=
 vv yXf (let b:=[cD nO,cD (aB 0),cD (aB 0),cD kG,cD kG];let d:=cD (aB r.im)::cD (aB r.x)::aKD r.y r.ma r.mx r.my (aH (aB r.op) (aB r.ope) (aB r.mo) (aB r.fl) []);let e:=kU 12 12 13 13 [];let f:=dP 6 6 e;let a:=gOp r push imgs c free most;let g:=a.opac;gY (uh Oq (λn=>n=(⟨a.kind,a.image,a.x,a.y,0,0,0,most,4,1,a.iso,a.kno⟩:Oq)) (λm=>pE (jF 2 imgs (aBA 4 free 5 (aF most) (aJM 9 9 e))) 6 (bY (aB r.k) d) 9 (wM c.a c.b c.c c.d []) (tT 12 b 13 (yV m []) [])) (λu=>uh Oq (λl=>l=yW a most 4 1) (λk=>aII (aBA 4 free 5 (aF most) f) 6 r.k d (tT 12 b 13 (yV k []) [])) (λt=>uh Oq (λj=>j=yW a g 4 1) (λh=>let o:=aII (aEX 4 free f) 6 r.k d (tT 12 b 13 (yV h []) []);o) (λs=>uh Oq (λi=>i=yW a g 4 a.mode) (λh=>let o:=aII (aEX 4 free f) 6 r.k d (tT 12 b 13 (yV h []) []);o) (λp=>aL)))))) Tryz.func15 (let f:=gOp r push imgs c free most;let D:=pF f;let n:=r.ope;let F:=f.opac;let s:=yW f F 4 f.mode;let l:=mS 0 0 0 0 0 0 0 0 (kX 0 0 false (rR false));let o:=r.mo;let p:=r.op;let m:=eO p n o r.fl;let i:=r.my;let j:=r.mx;let g:=r.ma;let k:=r.im;let q:=cP (DV.bool free) (eS (0:Nat)) (dB True);let t:=yW f F 4 1;let u:=yW f most 4 1;let G:=tU free/\iO most (dB True);let v:=(⟨f.kind,f.image,f.x,f.y,0,0,0,most,4,1,f.iso,f.kno⟩:Oq);let H:=aB r.k::aB k::aB r.x::aB r.y::aB g::aB j::aB i::m;let I:=nP imgs (tU free) (eQ most) (eS (0:Nat)) (cT (dB True));bW (True/\bK (push=true) (aR (jD r.fl 2 2) (eY (gH 2) (jD (gW r.fl 2) 3 3) (kV (∃C:Oq,nQ (C=v) I H (cM c) l (mS 2 0 0 0 0 0 0 most (kX 4 1 (modS r.fl 2==0) (rR (pZ r.fl 2 3==0)))=pF C)))))/\pG push (bD (yX k imgs) (gC (cL 44 r.x [aV c.a] (aV (gOff r.x c.a))) (bD (cL 44 r.y [aV c.b] (aV (gOff r.y c.b))) (kV (∃B:Oq,nQ (B=v) I H (cM c) l (mS 1 (modS k imgs) (gOff r.x c.a) (gOff r.y c.b) 0 0 0 most (kX 4 1 false (rR false))=pF B))))))) (∀h:Oq,h=v->(True/\wI g 4 (bP (pA g 4) (gH 4) (aX (yX (gW g 4) imgs) (gC (cL 44 j [aV c.a] (aV (gOff j c.a))) (bD (cL 44 i [aV c.b] (aV (gOff i c.b))) (kV (∃A:Oq,aBB (A=u) G r.k k r.x r.y g j i m l (mS h.kind h.image h.x h.y (aU (1+pZ g 4 imgs)) (gOff j c.a) (gOff i c.b) h.opac (kX h.oper h.mode h.iso (rR h.kno))=pF A))))))) (fS (modS g 4)->(∃e:Oq,aBB (e=u) G r.k k r.x r.y g j i m l (pF h=aB e.kind::aB e.image::aB e.x::aB e.y::aB e.mask::aB e.mx::aB e.my::aF e.opac::kX e.oper e.mode e.iso (rR e.kno)))))/\(∀d:Oq,d=u->(True/\wI p 2 (bP (pA p 2) (gH 2) (aX (tV (gW p 2) most) (∃z:Oq,aBB (z=t) q r.k k r.x r.y g j i m l (aB d.kind::aB d.image::aB d.x::aB d.y::aB d.mask::aB d.mx::aB d.my::aF (zQ6 (gW p 2) most)::kX d.oper d.mode d.iso (rR d.kno)=pF z)))) (fS (modS p 2)->(∃y:Oq,aBB (y=t) q r.k k r.x r.y g j i m l (pF d=pF y))))/\(∀b:Oq,b=t->(True/\wI o 2 (bP (pA o 2) (gH 2) (aR (jD (gW o 2) 12 12) (∃x:Oq,aBB (x=s) q r.k k r.x r.y g j i m l (mS b.kind b.image b.x b.y b.mask b.mx b.my b.opac (kX b.oper (aU (1+pZ o 2 12)) b.iso (rR b.kno))=pF x)))) (fS (modS o 2)->(∃w:Oq,aBB (w=s) q r.k k r.x r.y g j i m l (pF b=pF w))))/\(∀a:Oq,let E:=cV (pF a) D;bP (a=s) (aE (free=true) (aBC (jD n 2 2) (pA n 2) (dY (gH 2) (jD (gW n 2) 12 12) (True/\True/\True/\True/\cV (mS a.kind a.image a.x a.y a.mask a.mx a.my a.opac (kX (aU (1+pZ n 2 12)) a.mode a.iso (rR a.kno))) D)) (aE (fS (modS n 2)) E))) (oE free E)))))) λhwf=>by
  delta eS aB aV aE dY aF aU aG aN bD aX cL jD gW fS gC mE gH pA pZ wI kI yW cP bM nP bG bP aR eO bK bW cV cT lN kX mS eY dB eQ cM rK aJW rR iO yX kV tU oE pF pG nQ aBC tV aBB;simp only[sS,zQj,zYq];have oa:=λn=>zHo n c.a hc.1;have ob:=λn=>zHo n c.b hc.2;have b4:=@zZF (wrap .i64 (Int.tdiv r.ma 4)) imgs (by omega) (by omega);have b12:=λv=>@zZF v 12 (by omega) (by omega);have w4:wrap .i64 (1+modS (wrap .i64 (Int.tdiv r.ma 4)) imgs)=1+modS (wrap .i64 (Int.tdiv r.ma 4)) imgs:=wQb _ (by omega);have w12:∀v,wrap .i64 (1+modS v 12)=1+modS v 12:=λv=>by have:=b12 v;exact wQb _ (by omega)
  simp only[oa,ob,w4,w12,true_and];simp only[exists_eq_left,forall_eq,gOp,wZt,wZO]
  (repeat' (first|apply And.intro|intro _))<;>(first|decide|(simp_all;done)|(simp_all;rfl))
theorem zQp(w h:Int):Ans prog 83 [rJ (w),rJ (h)] (rD (dQ (zZi w h))):=
 vv gamI aL Tryz.func83 (True/\mL (eJ w 1) (aP (eJ h 1) (aR (gH h) (xE w (gW 16777216 h) (zZi w h))) (fY (zT h) (zZi w h))) (zT w) (gO (zZi w h))) λhwf=>by
  delta eS aE aP eJ aU gW gH bG aR bK aM cZ fY gO xE mL zT;simp only[sS,zQj];have:=@zH6 w h;grind [zZi]
theorem zZc(w h:Int):Ans prog 257 [rJ (w),rJ (h)] (rD (dQ (zZi w h))):=
 vv gamI aL Tryz.func257 (True/\mL (eJ w 1) (aP (eJ h 1) (aR (gH h) (xE w (gW 16777216 h) (zZi w h))) (fY (zT h) (zZi w h))) (zT w) (gO (zZi w h))) λhwf=>by
  delta eS aE aP eJ aU gW gH bG aR bK aM cZ fY gO xE mL zT;simp only[sS,zQj,zQp];have:=@zH6 w h;grind [zZi]
theorem zQz(w h:Int):Ans prog 86 [rJ (w),rJ (h)] (rD (dQ (zZi w h))):=
 vv gamI aL Tryz.func86 (let a:=zZi w h;True/\rX w 1 (mL (eJ h 1) (aP (lQ w 16777216) (aR (gH w) (xE h (gW 16777216 w) a)) (fY (jM w 16777216) a)) (zT h) (gO a)) (mI (zT w) a)) λhwf=>by
  delta eS aE aP eJ aU gW gH bG aR bK aM fP rX jM cZ lQ fY gO xE mI mL zT;simp only[sS,zQj,zQp,zZc];have h1:1<=w->1<=h->(h<=wrap .i64 (Int.tdiv 16777216 w)↔w*h<=16777216):=λa b=>by rw[zH6 b a,wQB]
  have h2:=@zXM w h;grind [zZi]
def pS(a b c:Int):Int:=aU (aU (a*b)+c)
theorem zZl(w h s:Int):Ans prog 258 [rJ (w),rJ (h),rJ (s)] (rJ ((lenW w h s))):=
 vv gamI aL Tryz.func258 (aK (jC (pS (cN h 1) s w) (lenW w h s))) λhwf=>by
  delta eS aB aV jC aU aK cN pS;simp only[sS,zQj,zQp,zZc,zQz];simp[lenW]
def zM(a:FuncId)(b c:Int):Prop:=cL a b [aV c] (aM (zZi b c))
theorem zZO(w h s:Int)(n:Nat)(xs:List DV):Ans prog 238 [rA [dJ w,dJ h,dJ s,dS n xs]] (rD (dQ (zQ0 w h s n))):=
 vv gamI aL Tryz.func238 (let a:=gO (zQ0 w h s n);True/\qO (zM 257 w h) (bK (zZi w h=true) (aP (eJ s w) (aP (lQ s 16777216) (bW (cL 258 w (lE h s) (aV (lenW w h s))) (kV (cZ (decide ((n:Int)>=lenW w h s)) (zQ0 w h s n)))) (bP (jM s 16777216) (eS true) a)) (iL (bG (decide (s>=w))) (eS true) a))) (oE (zZi w h) (kV a))) λhwf=>by
  delta eS aB aV aE aP eJ aN cL bG bP bK bW kV oE aM lE iL jM cZ lQ gO qO zM;simp only[sS,zQj,zQp,zZc,zQz,zZl];grind [zQ0]
theorem zZE(w h s:Int)(n:Nat)(xs:List DV):Ans prog 163 [rA [dJ w,dJ h,dJ s,dS n xs]] (rD (dQ (zQ0 w h s n))):=
 vv gamI aL Tryz.func163 (let a:=zQ0 w h s n;True/\qO (zM 86 w h) (bK (zZi w h=true) (aP (eJ s w) (xF s 16777216 (qU (aK (cZ (decide ((n:Int)>=pS (cN h 1) s w)) a))) (fY (jM s 16777216) a)) (mG (bG (decide (s>=w))) a))) (mI (bG (zZi w h)) a)) λhwf=>by
  delta eS aB aV aE aP eJ aU aK cL cN bG bK aM cS fP jM cZ fY gO xF mG mI qO zM qU pS;simp only[sS,zQj,zQp,zZc,zQz,zZl,zZO];grind [zQ0,lenW]
theorem zX9(w h s:Int)(n:Nat)(xs:List DV):Ans prog 237 [rA [dJ w,dJ h,dJ s,dS n xs]] (rD (dQ (zVh ⟨w,h,s,n,xs⟩))):=
 vv gamI aL Tryz.func237 (let a:=zVh ⟨w,h,s,n,xs⟩;bI (aP (mE w) (aP (mE h) (aP (mE s) (aCM ((n:Int)==0) a) (fY (wY s) a)) (mG (wY h) a)) (mI (wY w) a))) λhwf=>by
  delta eS aE aP mE bG bK aM bI wY fP cZ fY gO mG mI aCM;simp only[sS,zQj,zQp,zZc,zQz,zZl,zZO,zZE];simp[zVh];grind
def tD(a:Nat)(b:Int)(c:vz):vz:=mP a (aF b) c
def aFF(a:Ann):Ann:=fK (vT a)
def aKH(a:Bool):Ann:=Ann.sure a Ann.leaf
def aIB(a:Nat)(b:Int):vz:=jF a b []
def zP:Ann:=aKH false
def aBY:Ann:=aKH true
def aNR(a:Int)(b:DV)(c:Int)(d:DV)(e:wc):wc:=aH (aF a) b (aF c) d e
def aNS(a b c:Int)(d:DV)(e:wc):wc:=aNR a (aF b) c d e
def aCI(a b c d:Int)(e:wc):wc:=aNS a b c (aF d) e
def aNT(a:Nat)(b:AV)(c:vz):vz:=(a,b)::c
def aIS(a:Nat)(b:wc)(c:vz):vz:=aNT a (AV.agg b) c
def aAH(a:Int)(b:wc):Bx:=bY (aF a) b
def aAG(a b:Int)(c:wc):wc:=Cl.d (aF a)::Cl.d (aF b)::c
def aEL(a:Nat)(b:wc)(c:Nat)(d:Int):vz:=aIS a b (aIB c d)
def aHO(a b c d e:Int)(f:wc):Bx:=aAH a (aCI b c d e f)
def vJ:Ann:=aFF zP
def yJ:Ann:=aFF aBY
def qG(a b:Int):Prop:=aB (aU a)=aB b
def jG:Prop:=bM 0
def lY(a b:Int):Prop:=qG (a+1) b
def aCD:Prop:=jE 0 3
def aCG:Prop:=jE 2 3
def aCE:Prop:=jE 1 3
def aCH:Prop:=gX 3 3
def gV(a b:Prop)(c:List DV):Prop:=dE a b (eS c)
def aDM(a b:Int)(c:Nat)(d:Prop):Prop:=0<=a/\aT (b<(c:Int)) d
def nJ(a b:Int):Prop:=aDM a a 3 (eS (some (aF b)))
theorem zQt(c0 c1 c2 ca cf most:Int):Ans prog 117 [rA [dK c0,dK c1,dK c2,dK ca,dK cf],rD (dK most)] (rD (dQ (Px.ok ⟨c0,c1,c2,ca,cf⟩ most))):=
 vv gamI (let a:=aHO c0 c1 c2 ca cf [];let b:=cD (aF c0)::aAG c1 c2 [];pH (uf True (jJ (tD 1 most (dP 2 2 (aEL 8 b 9 0))) 2 a []) yJ (uf (c0<=ca/\True) (jJ (tD 1 most (dP 2 2 (aEL 8 b 9 1))) 2 a []) yJ (uf (aT (c0<=ca) (c1<=ca)) (jJ (tD 1 most (dP 2 2 (aEL 8 b 9 2))) 2 a []) yJ (uf (dE (c0<=ca) (c1<=ca) (c2<=ca)) (jJ (tD 1 most (dP 2 2 (aEL 8 b 9 3))) 2 a []) vJ aL))))) Tryz.func117 (let a:=Px.ok ⟨c0,c1,c2,ca,cf⟩ most;let b:=c0<=ca;let e:=dE b (c1<=ca) (c2<=ca);let c:=cO c0 c1 c2 ca cf;let d:=eS (cQ c0 c1 [aF c2]);let f:=aT b (c1<=ca);qB (∃n:Unit,True/\aT (aG (eQ most) (eS (0:Nat)) d jG) (eS c)) (aG (∀m:Unit,yL True aCD (nJ 0 c0) (aAF c0 ca a (∃l:Unit,gV (b/\True) (aG (eQ most) (eS (0:Nat)) d (lY 0 1)) c))) (∀k:Unit,yL (b/\True) aCE (nJ 1 c1) (aAF c1 ca a (∃j:Unit,gV f (aG (eQ most) (eS (0:Nat)) d (lY 1 2)) c))) (∀i:Unit,yL f aCG (nJ 2 c2) (aAF c2 ca a (∃h:Unit,gV e (aG (eQ most) (eS (0:Nat)) d (lY 2 3)) c))) (∀g:Unit,e->True/\aR aCH (bI (fP (lQ ca cf) (xE cf most a)/\fY (jM ca cf) a))))) λhwf=>by
  delta eS aB aE gX aF aU aG cQ cO jE bM bG aR eY eQ aT dE dR gL qB aM qG bI jG fP jM cZ lQ fY gO xE lY aCD aCG aCE aCH gV yM aAF aDM nJ yL;simp only[sS,zQj,zQp,zZc,zQz,zZl,zZO,zZE,zX9];simp[Px.ok,w1_];grind
theorem zQI(c0 c1 c2 ca cf most:Int):Ans prog 231 [rA [dK c0,dK c1,dK c2,dK ca,dK cf],rD (dK most)] (rD (dQ (Px.ok ⟨c0,c1,c2,ca,cf⟩ most))):=
 vv gamI aL Tryz.func231 (let a:=Px.ok ⟨c0,c1,c2,ca,cf⟩ most;True/\True/\aX (kS 3) (xF c0 ca (aR (cU 1 1 3) (xF c1 ca (aR (cU 2 2 3) (mH (lQ c2 ca) (aP (lQ ca cf) (True/\True/\True/\True/\xE cf most a) (fY (jM ca cf) a)) (mG (jM c2 ca) a))) (mI (jM c1 ca) a))) (jM c0 ca->aK (gO a)))) λhwf=>by
  delta eS aE aP aK aX cU kS bG aR bK aM cS fP jM cZ lQ fY gO mH xF xE mG mI;simp only[sS,zQj,zQp,zZc,zQz,zZl,zZO,zZE,zX9,zQt];simp[Px.ok];grind
def aAB(a:vz)(b:Nat)(c:wc)(d:vD):Snap:=jJ a b (Bx.cells c) d
def eW(a b c d e f:Prop):Prop:=a/\b/\aG c d e f
def qT(a b c:Int)(d:Nat)(e:List DV)(f:wc):wc:=aH (aB a) (aB b) (aB c) (DV.sl d e) f
def nE(a b c:Int)(d:Nat)(e:List DV)(f g h:Int)(i:Nat)(j:List DV)(k:wc):wc:=qT a b c d e (qT f g h i j k)
def jP(a:Bool)(b c d e f:Int)(g:Nat)(h:List DV):Prop:=okPl a b c ⟨d,e,f,g,h⟩=true
def aNV(a:vz)(b:Nat)(c d:Int)(e:Bool)(f:DV)(g:wc)(h:vD):Snap:=aAB a b (xL c d e f g) h
def aNW(a:vz)(b:Nat)(c d:Int)(e:Bool)(f:Int)(g:wc)(h:vD):Snap:=aNV a b c d e (aF f) g h
def aKF(a:vz)(b:Nat)(c d:Int)(e:Bool)(f g h i j:Int)(k:wc)(l:vD):Snap:=aNW a b c d e f (aCI g h i j k) l
def aJT(a b:Nat)(c:vz)(d:Nat)(e f:Int)(g:Bool)(h i j k l:Int)(m:wc)(n:vD):Snap:=aKF (dP a b c) d e f g h i j k l m n
def aME(a:Nat)(b:vz)(c:Nat)(d e:Int)(f:Bool)(g h i j k:Int)(l:wc)(m:vD):Snap:=aJT 1 a b c d e f g h i j k l m
def aKL(a:vz)(b:Nat)(c d:Int)(e:Bool)(f g h i j:Int)(k:wc)(l:vD):Snap:=aME 1 a b c d e f g h i j k l
def aDN(a:Nat)(b:wc)(c:Nat)(d:Int)(e:Nat)(f g:Int)(h:Bool)(i j k l m:Int)(n:vD):Snap:=aKL (aEL a b c d) e f g h i j k l m b n
def qJ(a b c:Int)(d:Nat)(e f:List DV):List DV:=aB a::aB b::aB c::DV.sl d e::f
def dH(a b c:Int)(d:Nat)(e:List DV)(f g h:Int)(i:Nat)(j k:List DV):List DV:=qJ a b c d e (qJ f g h i j k)
def jY(a b:Int)(c:Bool)(d e f g h:Int)(i j k l m:Pl):Im:=⟨a,b,c,⟨d,e,f,g,h⟩,i,j,k,l,m⟩
def xI(a:Bool)(b:Prop):Prop:=bO a->True/\b
def eX(a:Int):Prop:=jE a 5
def xP(a:Prop)(b c:Int):Prop:=dE (eS (0:Nat)) a (lY b c)
def xQ(a b c d e f g:Prop):Prop:=True/\a/\b/\c/\aG d e f g
def xO:Prop:=gX 5 5
def sI(a b:Prop):Prop:=dE (eS (0:Nat)) a b
def kO(a b c:Int)(d:Nat)(e:List DV):List DV:=qJ a b c d e []
def uL(a b c:Bool):Bool:=Bool.and a (Bool.and b (Bool.and c true))
def aGG(a:Bool)(b c:Prop):Prop:=mL (dV a) b (bG (!a)) c
def aDP(a:FuncId)(b c d:Int)(e:Nat)(f:List DV)(g h:Prop):Prop:=uJ a (kO b c d e f) (zQ0 b c d e) (bK (bO (zQ0 b c d e)) g) h
def uO(a:Bool)(b c:Int):Bool:=uL a (b==0) (c==0)
def tC(a:Bool)(b c:Prop):Prop:=bL (a=true) b c
def tG(a b c:Int)(d:Nat)(e f:List DV)(g h:Int):Prop:=xP (eS (qJ a b c d e f)) g h
def aGF(a:List DV)(b:Bool):Prop:=bH 237 a [] (aM b)
def tE(a b c d:Int)(e:Nat)(f:List DV):Prop:=0<=a/\a<((5:Nat):Int)/\aG (eS (some (aB b))) (eS (some (aB c))) (eS (some (aB d))) (eS (some (DV.sl e f)))
def aDO(a b c d e:Prop):Prop:=yL a b c (True/\True/\True/\d/\e)
theorem zQB(w h:Int)(so:Bool)(c0 c1 c2 ca cf w0 h0 s0:Int)(n0:Nat)(xs0:List DV)(w1 h1 s1:Int)(n1:Nat)(xs1:List DV)(w2 h2 s2:Int)(n2:Nat)(xs2:List DV)(w3 h3 s3:Int)(n3:Nat)(xs3:List DV)(w4 h4 s4:Int)(n4:Nat)(xs4:List DV):Ans prog 208 [rA [dJ w,dJ h,dQ so,dK c0,dK c1,dK c2,dK ca,dK cf,dJ w0,dJ h0,dJ s0,dS n0 xs0,dJ w1,dJ h1,dJ s1,dS n1 xs1,dJ w2,dJ h2,dJ s2,dS n2 xs2,dJ w3,dJ h3,dJ s3,dS n3 xs3,dJ w4,dJ h4,dJ s4,dS n4 xs4]] (rD (dQ (Im.formed ⟨w,h,so,⟨c0,c1,c2,ca,cf⟩,⟨w0,h0,s0,n0,xs0⟩,⟨w1,h1,s1,n1,xs1⟩,⟨w2,h2,s2,n2,xs2⟩,⟨w3,h3,s3,n3,xs3⟩,⟨w4,h4,s4,n4,xs4⟩⟩))):=
 vv gamI (let a:=qT w0 h0 s0 n0 xs0 (nE w1 h1 s1 n1 xs1 w2 h2 s2 n2 xs2 (nE w3 h3 s3 n3 xs3 w4 h4 s4 n4 xs4 []));let g:=jP so w h w3 h3 s3 n3 xs3;let f:=jP so w h w2 h2 s2 n2 xs2;let e:=jP so w h w1 h1 s1 n1 xs1;let d:=jP so w h w0 h0 s0 n0 xs0;let b:=so=true\/(⟨c0,c1,c2,ca,cf⟩:Px)=Px.zero;let c:=zZi w h=true;gI (uf (aT c b) (aDN 23 a 24 0 1 w h so c0 c1 c2 ca cf []) yJ (uf (dE c b d) (aDN 23 a 24 1 1 w h so c0 c1 c2 ca cf []) yJ (uf (aG c b d e) (aDN 23 a 24 2 1 w h so c0 c1 c2 ca cf []) yJ (uf (fR c b d e f) (aDN 23 a 24 3 1 w h so c0 c1 c2 ca cf []) yJ (uf (eW c b d e f g) (aDN 23 a 24 4 1 w h so c0 c1 c2 ca cf []) yJ (uf (c/\eW b d e f g (jP so w h w4 h4 s4 n4 xs4)) (aDN 23 a 24 5 1 w h so c0 c1 c2 ca cf []) vJ aL))))))) Tryz.func208 (let r:=jY w h so c0 c1 c2 ca cf ⟨w0,h0,s0,n0,xs0⟩ ⟨w1,h1,s1,n1,xs1⟩ ⟨w2,h2,s2,n2,xs2⟩ ⟨w3,h3,s3,n3,xs3⟩ ⟨w4,h4,s4,n4,xs4⟩;let b:=Im.formed r;let a:=Im.formed r;let s:=jP so w h w3 h3 s3 n3 xs3;let j:=jP so w h w2 h2 s2 n2 xs2;let i:=jP so w h w1 h1 s1 n1 xs1;let g:=jP so w h w0 h0 s0 n0 xs0;let c:=so=true\/(⟨c0,c1,c2,ca,cf⟩:Px)=Px.zero;let d:=zZi w h=true;let t:=d/\c/\eC g i (dE j s (jP so w h w4 h4 s4 n4 xs4));let e:=dH w1 h1 s1 n1 xs1 w2 h2 s2 n2 xs2 (dH w3 h3 s3 n3 xs3 w4 h4 s4 n4 xs4 []);let u:=qJ w0 h0 s0 n0 xs0 e;let f:=kX w h so (cQ c0 c1 (aF c2::cQ ca cf u));let v:=(∃P:Unit,gV t (tG w0 h0 s0 n0 xs0 e 4 5) f);let k:=bG (!so);let x:=True/\True/\True/\bL (dV so) (bH 238 (kO w4 h4 s4 n4 xs4) [] (aM (zQ0 w4 h4 s4 n4))) (gJ (dL (bO (zQ0 w4 h4 s4 n4)) (gJ (dL (dN w4 w) (uN h4 h a (aE (dN h4 h) v))) (mG (kP w4 w) a))) (mI (dU (zQ0 w4 h4 s4 n4)) a))/\bK k v;let l:=zVh ⟨w4,h4,s4,n4,xs4⟩;let y:=eW d c g i j s;let z:=(∃R:Unit,gV y (tG w0 h0 s0 n0 xs0 e 3 4) f);let m:=gO a;let A:=aGG so (aDP 238 w3 h3 s3 n3 xs3 (mL (dN w3 w) (True/\True/\True/\True/\uN h3 h a (aE (dN h3 h) z)) (kP w3 w) m) (mI (dU (zQ0 w3 h3 s3 n3)) a)) z;let n:=zVh ⟨w3,h3,s3,n3,xs3⟩;let B:=fR d c g i j;let C:=(∃T:Unit,gV B (tG w0 h0 s0 n0 xs0 e 2 3) f);let D:=aGG so (aDP 238 w2 h2 s2 n2 xs2 (aP (dN w2 w) (bI (uN h2 h a (aE (dN h2 h) C))) (mG (kP w2 w) a)) (mI (dU (zQ0 w2 h2 s2 n2)) a)) C;let o:=zVh ⟨w2,h2,s2,n2,xs2⟩;let E:=aG d c g i;let F:=(∃V:Unit,gV E (tG w0 h0 s0 n0 xs0 e 1 2) f);let G:=gJ (xR so (aDP 238 w1 h1 s1 n1 xs1 (mL (dN w1 w) (True/\True/\True/\True/\uN h1 h a (aE (dN h1 h) F)) (kP w1 w) m) (mI (dU (zQ0 w1 h1 s1 n1)) a))) (bK k F);let p:=zVh ⟨w1,h1,s1,n1,xs1⟩;let H:=dE d c g;let I:=(∃X:Unit,gV H (tG w0 h0 s0 n0 xs0 e 0 1) f);let J:=aGG so (aDP 238 w0 h0 s0 n0 xs0 (mL (dN w0 w) (True/\True/\True/\True/\uN h0 h a (aE (dN h0 h) I)) (kP w0 w) m) (mI (dU (zQ0 w0 h0 s0 n0)) a)) I;let q:=zVh ⟨w0,h0,s0,n0,xs0⟩;let K:=aT d c;let L:=xQ (∃Z:Unit,gV K (sI (eS u) jG) f) (∀Y:Unit,aDO K (eX 0) (tE 0 w0 h0 s0 n0 xs0) (tC so (aGF (kO w0 h0 s0 n0 xs0) q) (aAL q J (fY (dU q) b))) (oE so J)) (∀W:Unit,aDO H (eX 1) (tE 1 w1 h1 s1 n1 xs1) (tC so (aGF (kO w1 h1 s1 n1 xs1) p) (aP (bO p) G (fY (dU p) b))) (bK (bG so) G)) (∀U:Unit,aDO E (eX 2) (tE 2 w2 h2 s2 n2 xs2) (tC so (aGF (kO w2 h2 s2 n2 xs2) o) (aAL o D (fY (dU o) b))) (oE so D)) (∀S:Unit,aDO B (eX 3) (tE 3 w3 h3 s3 n3 xs3) (tC so (aGF (kO w3 h3 s3 n3 xs3) n) (aAL n A (fY (dU n) b))) (oE so A)) (∀Q:Unit,aDO y (eX 4) (tE 4 w4 h4 s4 n4 xs4) (tC so (aGF (kO w4 h4 s4 n4 xs4) l) (aAL l x (fY (dU l) b))) (oE so x)) (∀O:Unit,t->True/\kH xO (cZ true a));let M:=uO (uO (c0==0) c1 c2) ca cf;True/\True/\fV (zM 83 w h) (gJ (xI (zZi w h) (fU (dV so) (yM (dV M) (gO a) (bO M) L) (bK k L))) (fY (dU (zZi w h)) b))) λhwf=>by
  delta eS aB aV aE aP gX eC aF aU aG cQ aN cL dL fR jE bM bG bK kX eY oE aT gD dE bL kH bH fU fV aM qG bI gJ jG qJ cS dH fP eW cZ fY gO mG mI bO dU uJ jY zM xI dN lY eX xP xQ xO sI dV kO uL xR kP uN mL jP gV aGG aDP uO tC yM yL tG aAL aGF tE aDO;simp only[sS,zQj,zQp,zZc,zQz,zZl,zZO,zZE,zX9,zQt,zQI];cases so<;>simp[w1_,Im.formed,Im.inner,okPl,Px.zero]<;>(repeat' (first|apply And.intro|intro))<;>(first|assumption|(simp_all;done)|grind)
def aCL(a:Nat)(b:Int)(c:Nat)(d e:Int)(f:Bool)(g h i j k:Int)(l:wc)(m:vD):Snap:=aKL (aIB a b) c d e f g h i j k l m
def iJ(a:Prop):Prop:=aT (eS (0:Nat)) a
def oM(a b:Int)(c:Bool)(d e f g h i j k:Int)(l:Nat)(m n:List DV):List DV:=kX a b c (aF d::cQ e f (cQ g h (qJ i j k l m n)))
def nD(a:Int)(b:Prop):Prop:=aR (cU a a 5) b
def qS(a:Prop):Prop:=True->True/\a
def sO(a:Prop)(b:Im):Prop:=aN a (gO (Im.inner b))
def zU(a b c d e f:Prop):Prop:=aP a (aP b c d) (aN e (True/\True/\True/\True/\f))
def aFO(a:Bool)(b:Prop)(c d e:Int)(f:Nat)(g:List DV)(h i:Int)(j:Im)(k l m:Prop):Prop:=cS a b (aE (bG a) (aGG a (aDP 163 c d e f g (mH (dN c h) (uN d i (Im.inner j) (aN (dN d i) k)) l) m) k))
def aFN(a:Int)(b:Nat)(c:Prop)(d:Bool)(e f:Int)(g:List DV)(h i:Int)(j:Im)(k l m n:Prop):Prop:=fU (fN a) (oZ (rW b) c (uB b) (aGG d (aDP 163 e f a b g (mH (dN e h) (uN f i (Im.inner j) (aN (dN f i) k)) l) m) k)) n
theorem zQN(w h:Int)(so:Bool)(c0 c1 c2 ca cf w0 h0 s0:Int)(n0:Nat)(xs0:List DV)(w1 h1 s1:Int)(n1:Nat)(xs1:List DV)(w2 h2 s2:Int)(n2:Nat)(xs2:List DV)(w3 h3 s3:Int)(n3:Nat)(xs3:List DV)(w4 h4 s4:Int)(n4:Nat)(xs4:List DV):Ans prog 87 [rA [dJ w,dJ h,dQ so,dK c0,dK c1,dK c2,dK ca,dK cf,dJ w0,dJ h0,dJ s0,dS n0 xs0,dJ w1,dJ h1,dJ s1,dS n1 xs1,dJ w2,dJ h2,dJ s2,dS n2 xs2,dJ w3,dJ h3,dJ s3,dS n3 xs3,dJ w4,dJ h4,dJ s4,dS n4 xs4]] (rD (dQ (Im.inner ⟨w,h,so,⟨c0,c1,c2,ca,cf⟩,⟨w0,h0,s0,n0,xs0⟩,⟨w1,h1,s1,n1,xs1⟩,⟨w2,h2,s2,n2,xs2⟩,⟨w3,h3,s3,n3,xs3⟩,⟨w4,h4,s4,n4,xs4⟩⟩))):=
 vv gamI (let a:=qT w0 h0 s0 n0 xs0 (nE w1 h1 s1 n1 xs1 w2 h2 s2 n2 xs2 (nE w3 h3 s3 n3 xs3 w4 h4 s4 n4 xs4 []));let e:=jP so w h w3 h3 s3 n3 xs3;let d:=jP so w h w2 h2 s2 n2 xs2;let c:=jP so w h w1 h1 s1 n1 xs1;let b:=jP so w h w0 h0 s0 n0 xs0;let f:=nA aBY;pH (uf True (aCL 3 0 1 w h so c0 c1 c2 ca cf a []) f (uf (b/\True) (aCL 3 1 1 w h so c0 c1 c2 ca cf a []) f (uf (aT b c) (aCL 3 2 1 w h so c0 c1 c2 ca cf a []) f (uf (dE b c d) (aCL 3 3 1 w h so c0 c1 c2 ca cf a []) f (uf (aG b c d e) (aCL 3 4 1 w h so c0 c1 c2 ca cf a []) f (uf (fR b c d e (jP so w h w4 h4 s4 n4 xs4)) (aCL 3 5 1 w h so c0 c1 c2 ca cf a []) (nA zP) aL))))))) Tryz.func87 (let k:=(⟨w4,h4,s4,n4,xs4⟩:Pl);let l:=(⟨w3,h3,s3,n3,xs3⟩:Pl);let m:=(⟨w2,h2,s2,n2,xs2⟩:Pl);let n:=(⟨w1,h1,s1,n1,xs1⟩:Pl);let o:=(⟨w0,h0,s0,n0,xs0⟩:Pl);let a:=jY w h so c0 c1 c2 ca cf o n m l k;let i:=Im.inner a;let p:=jP so w h w3 h3 s3 n3 xs3;let j:=jP so w h w2 h2 s2 n2 xs2;let g:=jP so w h w1 h1 s1 n1 xs1;let e:=jP so w h w0 h0 s0 n0 xs0;let q:=fR e g j p (jP so w h w4 h4 s4 n4 xs4);let b:=jY w h so c0 c1 c2 ca cf o n m l k;let c:=gO (Im.inner b);let r:=dL (dU (zQ0 w4 h4 s4 n4)) c;let s:=sO (kP w4 w) b;let f:=oM w h so c0 c1 c2 ca cf w0 h0 s0 n0 xs0 (dH w1 h1 s1 n1 xs1 w2 h2 s2 n2 xs2 (dH w3 h3 s3 n3 xs3 w4 h4 s4 n4 xs4 []));let t:=(∃L:Unit,gV q (iJ (lY 4 5)) f);let d:=gO i;let u:=aG e g j p;let v:=dL (dU (zQ0 w3 h3 s3 n3)) c;let x:=sO (kP w3 w) b;let y:=(∃O:Unit,gV u (iJ (lY 3 4)) f);let z:=dE e g j;let A:=dL (dU (zQ0 w2 h2 s2 n2)) c;let B:=sO (kP w2 w) b;let C:=(∃Q:Unit,gV z (iJ (lY 2 3)) f);let D:=aT e g;let E:=dL (dU (zQ0 w1 h1 s1 n1)) c;let F:=sO (kP w1 w) b;let G:=(∃S:Unit,gV D (iJ (lY 1 2)) f);let H:=dL (dU (zQ0 w0 h0 s0 n0)) c;let I:=sO (kP w0 w) b;let J:=(∃U:Unit,gV (e/\True) (iJ (lY 0 1)) f);True/\True/\xQ (∃W:Unit,True/\aT (iJ jG) (eS f)) (∀V:Unit,qS (aX (eX 0) (nD 0 (aFO so (zU (fN w0) (fN h0) (aFN s0 n0 d so w0 h0 xs0 w h a J I H (sO (jZ s0) b)) (dL (jZ h0) c) (jZ w0) d) w0 h0 s0 n0 xs0 w h a J I H)))) (∀T:Unit,e/\True->True/\aX (eX 1) (nD 1 (aFO so (zU (fN w1) (fN h1) (aFN s1 n1 d so w1 h1 xs1 w h a G F E (sO (jZ s1) b)) (dL (jZ h1) c) (jZ w1) d) w1 h1 s1 n1 xs1 w h a G F E))) (∀R:Unit,D->True/\aX (eX 2) (nD 2 (aFO so (zU (fN w2) (fN h2) (aFN s2 n2 d so w2 h2 xs2 w h a C B A (sO (jZ s2) b)) (dL (jZ h2) c) (jZ w2) d) w2 h2 s2 n2 xs2 w h a C B A))) (∀P:Unit,z->True/\aX (eX 3) (nD 3 (aFO so (zU (fN w3) (fN h3) (aFN s3 n3 d so w3 h3 xs3 w h a y x v (sO (jZ s3) b)) (dL (jZ h3) c) (jZ w3) d) w3 h3 s3 n3 xs3 w h a y x v))) (∀M:Unit,u->True/\aX (eX 4) (nD 4 (aFO so (zU (fN w4) (fN h4) (aFN s4 n4 d so w4 h4 xs4 w h a t s r (sO (jZ s4) b)) (dL (jZ h4) c) (jZ w4) d) w4 h4 s4 n4 xs4 w h a t s r))) (∀K:Unit,bP q xO (aP (so=false) (aCM (uO (uO (c0==0) c1 c2) ca cf) i) (aE (gD so) (cZ true i))))) λhwf=>by
  delta eS aB aE aP gX oZ aF aU aG cQ aN aX cU dL fR jE bM bG bP aR bK kX aT gD dE dR gL rW uB bH fU aM qG iJ jG qJ cS dH oM cZ gO mH bO dU uJ jY dN lY eX nD qS xQ xO dV kO uL kP uN mL jP fN gV jZ sO aGG aDP uO zU aCM aFO aFN;simp only[sS,zQj,zQp,zZc,zQz,zZl,zZO,zZE,zX9,zQt,zQI,zQB];cases so<;>simp[w1_,Im.inner,okPl,zVh,Px.zero]<;>(repeat' (first|apply And.intro|intro))<;>(first|assumption|(simp_all;done)|grind)
theorem zQR(w h:Int)(so:Bool)(c0 c1 c2 ca cf w0 h0 s0:Int)(n0:Nat)(xs0:List DV)(w1 h1 s1:Int)(n1:Nat)(xs1:List DV)(w2 h2 s2:Int)(n2:Nat)(xs2:List DV)(w3 h3 s3:Int)(n3:Nat)(xs3:List DV)(w4 h4 s4:Int)(n4:Nat)(xs4:List DV):Ans prog 42 [rA [dJ w,dJ h,dQ so,dK c0,dK c1,dK c2,dK ca,dK cf,dJ w0,dJ h0,dJ s0,dS n0 xs0,dJ w1,dJ h1,dJ s1,dS n1 xs1,dJ w2,dJ h2,dJ s2,dS n2 xs2,dJ w3,dJ h3,dJ s3,dS n3 xs3,dJ w4,dJ h4,dJ s4,dS n4 xs4]] (rD (dQ (Im.formed ⟨w,h,so,⟨c0,c1,c2,ca,cf⟩,⟨w0,h0,s0,n0,xs0⟩,⟨w1,h1,s1,n1,xs1⟩,⟨w2,h2,s2,n2,xs2⟩,⟨w3,h3,s3,n3,xs3⟩,⟨w4,h4,s4,n4,xs4⟩⟩))):=
 vv gamI aL Tryz.func42 (let a:=(⟨w4,h4,s4,n4,xs4⟩:Pl);let b:=(⟨w3,h3,s3,n3,xs3⟩:Pl);let c:=(⟨w2,h2,s2,n2,xs2⟩:Pl);let d:=(⟨w1,h1,s1,n1,xs1⟩:Pl);let e:=(⟨w0,h0,s0,n0,xs0⟩:Pl);let f:=jY w h so c0 c1 c2 ca cf e d c b a;let g:=Im.inner (jY w h so c0 c1 c2 ca cf e d c b a);True/\qO (zM 86 w h) (zZi w h=true->aX (bH 87 (oM w h so c0 c1 c2 ca cf w0 h0 s0 n0 xs0 (dH w1 h1 s1 n1 xs1 w2 h2 s2 n2 xs2 (dH w3 h3 s3 n3 xs3 w4 h4 s4 n4 xs4 []))) [] (aM g)) (cZ g (Im.formed f))) (fY (bG (zZi w h)) (Im.formed f))) λhwf=>by
  delta eS aB aV aE aF cQ aX cL bG kX bH aM qJ dH oM cZ fY qO jY zM;simp only[sS,zQj,zQp,zZc,zQz,zZl,zZO,zZE,zX9,zQt,zQI,zQB,zQN];simp[Im.formed];grind
def vK(a:DV)(b:wc):wc:=Cl.d a::aDU a b
def aBF(a:Nat)(b:Int)(c:Nat)(d:Int)(e:vz):vz:=aBH a b c (aB d) e
def qI(a:Int)(b:wc):wc:=Cl.d (aB a)::b
def vM(a:vz)(b:Nat)(c:Bx)(d:Nat)(e:wc)(f:vD):Snap:=pE a b c d (Bx.cells e) f
def aKX(a:Int)(b:Nat)(c:Int)(d:vz):vz:=aBF 1 a b c d
def aDJ(a b:Int)(c:vz):vz:=aKX a 2 b c
def oP(a:wc):wc:=aDU nO a
def nK(a b:Int):Nat:=aW (aU (aU a+b)) 1
def yT(a b c:Nat)(d:wc)(e:Nat)(f:Int):vz:=kU a a b b (aEL c d e f)
def aDR(a:vz)(b:Nat)(c:Bx)(d:Nat)(e:Bx):Snap:=pE a b c d e []
def aNB(a b c:Nat)(d:Int)(e:wc)(f:Nat)(g:Int):vz:=yT a b c (qI d e) f g
def aNH(a b:Int)(c d e:Nat)(f:Int)(g:wc)(h:Nat)(i:Int):vz:=aDJ a b (aNB c d e f g h i)
def aDQ(a b:Int)(c e f:Nat)(g h i:Int)(j:wc)(k:Nat)(l:Int):vz:=aNH a b c e f g (Cl.d (aB h)::Cl.d (aB i)::j) k l
def zE(a b c:Prop):Prop:=True/\a/\b/\c
def iB(a b:Prop)(c d:List DV):Prop:=aG a b (eS c) (eS d)
def kN(a:List DV)(b:Nat):Prop:=cE a b/\True
def pR(a:Int)(b:Prop):Prop:=bD (cU a a 5) b
def sQ(a:List DV)(b c:Int):Int:=eF a (aU (aU b+c)) 1
def aAM(a b:Int)(c:Prop):Prop:=bM a/\cP (aB b) (eS (0:Nat)) c
def sP(a b:Int)(c:Nat)(d:List DV):Prop:=iE (aU (aU a+b)) c 1 d
theorem zVX(w h:Int)(so:Bool)(c0 c1 c2 ca cf w0 h0 s0:Int)(n0:Nat)(xs0:List DV)(w1 h1 s1:Int)(n1:Nat)(xs1:List DV)(w2 h2 s2:Int)(n2:Nat)(xs2:List DV)(w3 h3 s3:Int)(n3:Nat)(xs3:List DV)(w4 h4 s4:Int)(n4:Nat)(xs4:List DV)(x y:Int)(hu:Im.isU ⟨w,h,so,⟨c0,c1,c2,ca,cf⟩,⟨w0,h0,s0,n0,xs0⟩,⟨w1,h1,s1,n1,xs1⟩,⟨w2,h2,s2,n2,xs2⟩,⟨w3,h3,s3,n3,xs3⟩,⟨w4,h4,s4,n4,xs4⟩⟩)(hf:Im.inner ⟨w,h,so,⟨c0,c1,c2,ca,cf⟩,⟨w0,h0,s0,n0,xs0⟩,⟨w1,h1,s1,n1,xs1⟩,⟨w2,h2,s2,n2,xs2⟩,⟨w3,h3,s3,n3,xs3⟩,⟨w4,h4,s4,n4,xs4⟩⟩=true)(hx:0<=x/\x<w)(hy:0<=y/\y<h):Ans prog 155 [rA [dJ w,dJ h,dQ so,dK c0,dK c1,dK c2,dK ca,dK cf,dJ w0,dJ h0,dJ s0,dS n0 xs0,dJ w1,dJ h1,dJ s1,dS n1 xs1,dJ w2,dJ h2,dJ s2,dS n2 xs2,dJ w3,dJ h3,dJ s3,dS n3 xs3,dJ w4,dJ h4,dJ s4,dS n4 xs4],rJ (x),rJ (y)] (rA (pD (Im.px ⟨w,h,so,⟨c0,c1,c2,ca,cf⟩,⟨w0,h0,s0,n0,xs0⟩,⟨w1,h1,s1,n1,xs1⟩,⟨w2,h2,s2,n2,xs2⟩,⟨w3,h3,s3,n3,xs3⟩,⟨w4,h4,s4,n4,xs4⟩⟩ x y))):=
 vv gamI (let f:=fG xs3 (nK (y*s3) x);let e:=fG xs2 (nK (y*s2) x);let d:=fG xs1 (nK (y*s1) x);let c:=fG xs0 (nK (y*s0) x);let a:=aAH 0 (oP (oP []));let b:=aH (DV.sl n0 xs0) (aB w1) (aB h1) (aB s1) (aH (DV.sl n1 xs1) (aB w2) (aB h2) (aB s2) (cD (DV.sl n2 xs2)::nE w3 h3 s3 n3 xs3 w4 h4 s4 n4 xs4 []));qW (uf True (jJ (aDQ x y 6 7 15 w0 h0 s0 b 16 0) 6 a (aDG 7 a [])) yJ (uf True (vM (aDQ x y 6 7 15 w0 h0 s0 b 16 1) 6 a 7 (cD c::cD (aF 0)::vK nO []) []) yJ (uf True (aDR (aDQ x y 6 7 15 w0 h0 s0 b 16 2) 6 a 7 (bY c (cD d::cD (aF 0)::oP []))) yJ (uf True (vM (aDQ x y 6 7 15 w0 h0 s0 b 16 3) 6 a 7 (aH c d e nO [cD nO]) []) yJ (uf True (aDR (aDQ x y 6 7 15 w0 h0 s0 b 16 4) 6 a 7 (bY c (aH d e f nO []))) yJ (uf True (aDR (aDQ x y 6 7 15 w0 h0 s0 b 16 5) 6 a 7 (bY c (aH d e f (fG xs4 (nK (y*s4) x)) []))) vJ aL))))))) Tryz.func155 (let e:=eG (Im.px (jY w h so c0 c1 c2 ca cf ⟨w0,h0,s0,n0,xs0⟩ ⟨w1,h1,s1,n1,xs1⟩ ⟨w2,h2,s2,n2,xs2⟩ ⟨w3,h3,s3,n3,xs3⟩ ⟨w4,h4,s4,n4,xs4⟩) x y);let d:=sQ xs2 (y*s2) x;let c:=sQ xs1 (y*s1) x;let b:=sQ xs0 (y*s0) x;let f:=cO b c d (sQ xs3 (y*s3) x) (sQ xs4 (y*s4) x);let a:=dH w1 h1 s1 n1 xs1 w2 h2 s2 n2 xs2 (dH w3 h3 s3 n3 xs3 w4 h4 s4 n4 xs4 []);True/\cS so (True/\True/\cV (cO c0 c1 c2 ca cf) e) (aN (so=false) (xQ (∃s:Unit,zE (aAM x y (sI (eS (qJ w0 h0 s0 n0 xs0 a)) jG)) (eS mV) (eS mV/\True)) (∀r:Unit,bL True (eX 0) (aX (tE 0 w0 h0 s0 n0 xs0) (aK (True/\True/\sP (y*s0) x n0 xs0/\kN xs0 (nK (y*s0) x)/\nD 0 (∃q:Unit,iB True (aAM x y (tG w0 h0 s0 n0 xs0 a 0 1)) mV (cO b 0 0 0 0)))))) (∀p:Unit,qS (kH (eX 1) (aR (tE 1 w1 h1 s1 n1 xs1) (aK (True/\sP (y*s1) x n1 xs1/\kN xs1 (nK (y*s1) x)/\cU 1 1 5/\bI (∃o:Unit,iB True (aAM x y (tG w0 h0 s0 n0 xs0 a 1 2)) mV (cO b c 0 0 0))))))) (∀n:Unit,bL True (eX 2) (aX (tE 2 w2 h2 s2 n2 xs2) (aK (True/\True/\sP (y*s2) x n2 xs2/\kN xs2 (nK (y*s2) x)/\nD 2 (∃m:Unit,iB True (aAM x y (tG w0 h0 s0 n0 xs0 a 2 3)) mV (cO b c d 0 0)))))) (∀l:Unit,bL True (eX 3) (aX (tE 3 w3 h3 s3 n3 xs3) (aK (True/\True/\sP (y*s3) x n3 xs3/\kN xs3 (nK (y*s3) x)/\nD 3 (∃k:Unit,iB True (aAM x y (tG w0 h0 s0 n0 xs0 a 3 4)) mV (cO b c d (sQ xs3 (y*s3) x) 0)))))) (∀j:Unit,bL True (eX 4) (aX (tE 4 w4 h4 s4 n4 xs4) (aK (True/\True/\sP (y*s4) x n4 xs4/\kN xs4 (nK (y*s4) x)/\nD 4 (∃i:Unit,iB True (aAM x y (tG w0 h0 s0 n0 xs0 a 4 5)) mV f))))) (∀g:Unit,qS (xO/\kS 5/\True/\cU 1 1 5/\True/\cU 2 2 5/\pR 3 (nD 4 (cV f e))))))) λhwf=>by
  delta eS aB aW iE gX aF aU aG cQ fG aK aN bD aX cU cO kS jE cP bM aR cV aT dE bL eF eG kH mV qG bI jG zE qJ cS cE dH iB jY lY eX kN xP nD qS xQ xO sI pR nK sQ aAM sP tG tE;simp only[sS,zQj,zQp,zQz,zQB,zQN,zQR]
  cases so with
  |true=>simp[Im.px]
  |false=>
   obtain⟨u0,u1,u2,u3,u4⟩:=hu;obtain⟨hc,⟨v0,e0,e0'⟩,⟨v1,e1,e1'⟩,⟨v2,e2,e2'⟩,⟨v3,e3,e3'⟩,⟨v4,e4,e4'⟩⟩:=Im.inner_planes hf rfl;simp only at v0 e0 e0' v1 e1 e1' v2 e2 e2' v3 e3 e3' v4 e4 e4';obtain⟨a0,b0,d0⟩:=zY1 u0 v0 (x:=x) (y:=y) ⟨hx.1,by omega⟩ ⟨hy.1,by omega⟩;obtain⟨a1,b1,d1⟩:=zY1 u1 v1 (x:=x) (y:=y) ⟨hx.1,by omega⟩ ⟨hy.1,by omega⟩;obtain⟨a2,b2,d2⟩:=zY1 u2 v2 (x:=x) (y:=y) ⟨hx.1,by omega⟩ ⟨hy.1,by omega⟩;obtain⟨a3,b3,d3⟩:=zY1 u3 v3 (x:=x) (y:=y) ⟨hx.1,by omega⟩ ⟨hy.1,by omega⟩;obtain⟨a4,b4,d4⟩:=zY1 u4 v4 (x:=x) (y:=y) ⟨hx.1,by omega⟩ ⟨hy.1,by omega⟩;simp only at a0 b0 d0 a1 b1 d1 a2 b2 d2 a3 b3 d3 a4 b4 d4;simp only[wQg]at b0 b1 b2 b3 b4 d0 d1 d2 d3 d4;have f0:=(wQE.1 d0).2;have f1:=(wQE.1 d1).2;have f2:=(wQE.1 d2).2;have f3:=(wQE.1 d3).2;have f4:=(wQE.1 d4).2;simp[w1_,f0,f1,f2,f3,f4,a0,a1,a2,a3,a4,b0,b1,b2,b3,b4,d0,d1,d2,d3,d4,Im.px,Pl.at_]
def aIK(a:Nat)(b:Bx)(c:Nat)(d:wc)(e:vD):vD:=vL a b c (Bx.cells d) e
def pK(a:wc):wc:=vK (aB 0) a
def wT(a:wc):Bx:=bY (aB 0) a
def aIX(a b c d e:Nat)(f:Int):vz:=kU a b c d (aIB e f)
def aKG(a b c d:Nat)(e:Int):vz:=aIX 6 a b c d e
def aLA(a:Nat)(b:Int)(c:wc)(d:Nat)(e:wc)(f:vD):vD:=aIK a (aAH b c) d e f
def aIU(a:Nat)(b:wc)(c:Nat)(d:wc)(e:vD):vD:=aLA a 0 b c d e
def aJS(a:Nat)(b:Int)(c:wc)(d:Nat)(e:Bx)(f:vD):vD:=vL a (aAH b c) d e f
def aMH(a:Nat)(b:wc)(c:Nat)(d:Bx)(e:vD):vD:=aJS a 0 b c d e
def aMK(a:Nat)(b:wc)(c:Nat)(d:Bx)(e:vD):vD:=aMH a (oP b) c d e
def xT(a:Nat)(b:wc)(c:Nat)(d:Bx)(e:vD):vD:=aMK a (oP b) c d e
def aCN(a b c d:Nat)(e:Int):vz:=dP a a (aKG b c c d e)
def aCO(a b:Int)(c:vz)(d:Nat)(e f:Int)(g:Bool)(h i j k l:Int)(m:wc)(n:vD):Snap:=aKF (aDJ a b c) d e f g h i j k l m n
def jW(a b c d:Prop):Prop:=a/\True/\b/\c/\d
def sH(a:Int)(b:Prop):Prop:=aE True (aR (eX a) b)
def sM(a b:Int):Prop:=cT (iJ (lY a b))
def aCP(a b:Int)(c:Prop)(d e:List DV)(f:Prop):Prop:=True/\lN (aAM a b c) d e f
theorem jJq(w h:Int)(so:Bool)(c0 c1 c2 ca cf w0 h0 s0:Int)(n0:Nat)(xs0:List DV)(w1 h1 s1:Int)(n1:Nat)(xs1:List DV)(w2 h2 s2:Int)(n2:Nat)(xs2:List DV)(w3 h3 s3:Int)(n3:Nat)(xs3:List DV)(w4 h4 s4:Int)(n4:Nat)(xs4:List DV)(x y:Int)(hu:Im.isU ⟨w,h,so,⟨c0,c1,c2,ca,cf⟩,⟨w0,h0,s0,n0,xs0⟩,⟨w1,h1,s1,n1,xs1⟩,⟨w2,h2,s2,n2,xs2⟩,⟨w3,h3,s3,n3,xs3⟩,⟨w4,h4,s4,n4,xs4⟩⟩)(hf:Im.inner ⟨w,h,so,⟨c0,c1,c2,ca,cf⟩,⟨w0,h0,s0,n0,xs0⟩,⟨w1,h1,s1,n1,xs1⟩,⟨w2,h2,s2,n2,xs2⟩,⟨w3,h3,s3,n3,xs3⟩,⟨w4,h4,s4,n4,xs4⟩⟩=true)(hx:0<=x/\x<w)(hy:0<=y/\y<h):Ans prog 43 [rA [dJ w,dJ h,dQ so,dK c0,dK c1,dK c2,dK ca,dK cf,dJ w0,dJ h0,dJ s0,dS n0 xs0,dJ w1,dJ h1,dJ s1,dS n1 xs1,dJ w2,dJ h2,dJ s2,dS n2 xs2,dJ w3,dJ h3,dJ s3,dS n3 xs3,dJ w4,dJ h4,dJ s4,dS n4 xs4],rJ (x),rJ (y)] (rA (pD (Im.px ⟨w,h,so,⟨c0,c1,c2,ca,cf⟩,⟨w0,h0,s0,n0,xs0⟩,⟨w1,h1,s1,n1,xs1⟩,⟨w2,h2,s2,n2,xs2⟩,⟨w3,h3,s3,n3,xs3⟩,⟨w4,h4,s4,n4,xs4⟩⟩ x y))):=
 vv gamI (let c:=pS y s2 x;let d:=pS y s1 x;let b:=aB (aU (aU (y*s0)+x));let a:=qT w0 h0 s0 n0 xs0 (nE w1 h1 s1 n1 xs1 w2 h2 s2 n2 xs2 (nE w3 h3 s3 n3 xs3 w4 h4 s4 n4 xs4 []));let e:=nA aBY;qW (uf True (aCO x y (aCN 3 6 7 8 0) 3 w h so c0 c1 c2 ca cf a (xT 6 [] 7 (wT (aFB [])) [])) e (uf True (aCO x y (aCN 3 6 7 8 1) 3 w h so c0 c1 c2 ca cf a (aIU 6 (oP (oP [])) 7 (cD b::cD (aB 0)::pK []) [])) e (uf True (aCO x y (aCN 3 6 7 8 2) 3 w h so c0 c1 c2 ca cf a (xT 6 [] 7 (bY b (cD (aB (aU (aU (y*s1)+x)))::cD (aB 0)::pJ [])) [])) e (uf True (aCO x y (aCN 3 6 7 8 3) 3 w h so c0 c1 c2 ca cf a (xT 6 [] 7 (wM (pS y s0 x) d c 0 [cD (aB 0)]) [])) e (uf True (aCO x y (aCN 3 6 7 8 4) 3 w h so c0 c1 c2 ca cf a (xT 6 [] 7 (bY b (aH (aB d) (aB c) (aB (pS y s3 x)) (aB 0) [])) [])) e (uf True (aCO x y (aCN 3 6 7 8 5) 3 w h so c0 c1 c2 ca cf a (xT 6 [] 7 (bY b (aH (aB d) (aB c) (aB (pS y s3 x)) (aB (aU (aU (y*s4)+x))) [])) [])) (nA zP) aL))))))) Tryz.func43 (let j:=eG (Im.px (jY w h so c0 c1 c2 ca cf ⟨w0,h0,s0,n0,xs0⟩ ⟨w1,h1,s1,n1,xs1⟩ ⟨w2,h2,s2,n2,xs2⟩ ⟨w3,h3,s3,n3,xs3⟩ ⟨w4,h4,s4,n4,xs4⟩) x y);let c:=cU 4 4 5;let g:=cU 3 3 5;let d:=cU 2 2 5;let e:=cU 1 1 5;let i:=pS y s2 x;let f:=pS y s1 x;let b:=aB (pS y s0 x);let a:=oM w h so c0 c1 c2 ca cf w0 h0 s0 n0 xs0 (dH w1 h1 s1 n1 xs1 w2 h2 s2 n2 xs2 (dH w3 h3 s3 n3 xs3 w4 h4 s4 n4 xs4 []));True/\cS so (True/\True/\cV (cO c0 c1 c2 ca cf) j) (aN (so=false) (xQ (∃v:Unit,aCP x y (cT (iJ jG)) a mV (eS (aB 0::qE))) (∀u:Unit,sH 0 (aX (kS 5) (eZ (kS 5) (∃t:Unit,aCP x y (sM 0 1) a mV (eS (b::qE)))))) (∀s:Unit,sH 1 (aX e (eZ e (∃r:Unit,aCP x y (sM 1 2) a mV (eS (b::eO f 0 0 0)))))) (∀q:Unit,sH 2 (aX d (eZ d (∃p:Unit,aCP x y (sM 2 3) a mV (eS (b::eO f i 0 0)))))) (∀o:Unit,sH 3 (aX g (eZ g (∃n:Unit,aCP x y (sM 3 4) a mV (eS (b::eO f i (pS y s3 x) 0)))))) (∀m:Unit,sH 4 (aX c (eZ c (∃l:Unit,aCP x y (sM 4 5) a mV (eS (b::eO f i (pS y s3 x) (pS y s4 x))))))) (∀k:Unit,bP True xO (aX (kS 5) (jW (kS 5) (sP (y*s0) x n0 xs0) (kN xs0 (nK (y*s0) x)) (aX e (jW e (sP (y*s1) x n1 xs1) (kN xs1 (nK (y*s1) x)) (aX d (jW d (sP (y*s2) x n2 xs2) (kN xs2 (nK (y*s2) x)) (pR 3 (True/\g/\True/\sP (y*s3) x n3 xs3/\jW (kN xs3 (nK (y*s3) x)) c True (True/\c/\True/\sP (y*s4) x n4 xs4/\kN xs4 (nK (y*s4) x)/\True/\True/\eS true/\cV (cO (sQ xs0 (y*s0) x) (sQ xs1 (y*s1) x) (sQ xs2 (y*s2) x) (sQ xs3 (y*s3) x) (sQ xs4 (y*s4) x)) j))))))))))))) λhwf=>by
  delta eS aB aW aE iE gX aF aU aG cQ fG aN bD aX cU cO kS jE cP bM bP aR eO cV cT lN kX aT eF eG eZ mV qE qG iJ jG qJ cS cE dH jW oM jY lY eX kN sH xQ xO sM pR pS nK sQ aAM sP aCP;simp only[sS,zQj,zQp,zQz,zQB,zQN,zQR]
  cases so with
  |true=>simp[Im.px]
  |false=>
   obtain⟨u0,u1,u2,u3,u4⟩:=hu;obtain⟨hc,⟨v0,e0,e0'⟩,⟨v1,e1,e1'⟩,⟨v2,e2,e2'⟩,⟨v3,e3,e3'⟩,⟨v4,e4,e4'⟩⟩:=Im.inner_planes hf rfl;simp only at v0 e0 e0' v1 e1 e1' v2 e2 e2' v3 e3 e3' v4 e4 e4';obtain⟨a0,b0,d0⟩:=zY1 u0 v0 (x:=x) (y:=y) ⟨hx.1,by omega⟩ ⟨hy.1,by omega⟩;obtain⟨a1,b1,d1⟩:=zY1 u1 v1 (x:=x) (y:=y) ⟨hx.1,by omega⟩ ⟨hy.1,by omega⟩;obtain⟨a2,b2,d2⟩:=zY1 u2 v2 (x:=x) (y:=y) ⟨hx.1,by omega⟩ ⟨hy.1,by omega⟩;obtain⟨a3,b3,d3⟩:=zY1 u3 v3 (x:=x) (y:=y) ⟨hx.1,by omega⟩ ⟨hy.1,by omega⟩;obtain⟨a4,b4,d4⟩:=zY1 u4 v4 (x:=x) (y:=y) ⟨hx.1,by omega⟩ ⟨hy.1,by omega⟩;simp only at a0 b0 d0 a1 b1 d1 a2 b2 d2 a3 b3 d3 a4 b4 d4;simp only[wQg]at b0 b1 b2 b3 b4 d0 d1 d2 d3 d4;have f0:=(wQE.1 d0).2;have f1:=(wQE.1 d1).2;have f2:=(wQE.1 d2).2;have f3:=(wQE.1 d3).2;have f4:=(wQE.1 d4).2;simp[w1_,f0,f1,f2,f3,f4,a0,a1,a2,a3,a4,b0,b1,b2,b3,b4,d0,d1,d2,d3,d4,Im.px,Pl.at_]
theorem zZg(w h:Int)(so:Bool)(c0 c1 c2 ca cf w0 h0 s0:Int)(n0:Nat)(xs0:List DV)(w1 h1 s1:Int)(n1:Nat)(xs1:List DV)(w2 h2 s2:Int)(n2:Nat)(xs2:List DV)(w3 h3 s3:Int)(n3:Nat)(xs3:List DV)(w4 h4 s4:Int)(n4:Nat)(xs4:List DV):Ans prog 153 [rA [dJ w,dJ h,dQ so,dK c0,dK c1,dK c2,dK ca,dK cf,dJ w0,dJ h0,dJ s0,dS n0 xs0,dJ w1,dJ h1,dJ s1,dS n1 xs1,dJ w2,dJ h2,dJ s2,dS n2 xs2,dJ w3,dJ h3,dJ s3,dS n3 xs3,dJ w4,dJ h4,dJ s4,dS n4 xs4]] (rJ ((Im.shape ⟨w,h,so,⟨c0,c1,c2,ca,cf⟩,⟨w0,h0,s0,n0,xs0⟩,⟨w1,h1,s1,n1,xs1⟩,⟨w2,h2,s2,n2,xs2⟩,⟨w3,h3,s3,n3,xs3⟩,⟨w4,h4,s4,n4,xs4⟩⟩))):=
 vv gamI aL Tryz.func153 (let c:=(⟨w4,h4,s4,n4,xs4⟩:Pl);let d:=(⟨w3,h3,s3,n3,xs3⟩:Pl);let e:=(⟨w2,h2,s2,n2,xs2⟩:Pl);let f:=(⟨w1,h1,s1,n1,xs1⟩:Pl);let g:=(⟨w0,h0,s0,n0,xs0⟩:Pl);let a:=Im.shape (jY w h so c0 c1 c2 ca cf g f e d c);let b:=Im.formed (jY w h so c0 c1 c2 ca cf g f e d c);True/\True/\fT (zM 83 w h) (kB (dV (zZi w h)) 6 a) (xI (zZi w h) (uJ 208 (oM w h so c0 c1 c2 ca cf w0 h0 s0 n0 xs0 (dH w1 h1 s1 n1 xs1 w2 h2 s2 n2 xs2 (dH w3 h3 s3 n3 xs3 w4 h4 s4 n4 xs4 []))) b (kB (dV b) 7 a) (kB (bO b) 0 a)))) λhwf=>by
  delta eS aB aV jC aF cQ cL kX bH fT aM qJ dH oM bO uJ jY zM xI dV kB;simp only[sS,zQj,zQp,zQz,zQB,zQN,zQR];simp[Im.shape,Im.formed];(repeat' (first|apply And.intro|intro))<;>(first|assumption|(simp_all;done)|grind)
def xS(a:Prop):Prop:=bI (True/\True/\True/\True/\a)
theorem jJr(w h c0 c1 c2 ca cf:Int):Ans prog 33 [rJ (w),rJ (h),rA [dK c0,dK c1,dK c2,dK ca,dK cf]] (rA (iD (zQW w h ⟨c0,c1,c2,ca,cf⟩))):=
 vv gamI aL Tryz.func33 (let a:=zQW w h ⟨c0,c1,c2,ca,cf⟩;let b:=a.p4;let c:=a.p3;let d:=a.p2;let e:=a.p1;let f:=a.p0;let g:=a.c;xS (cV (oM w h true c0 c1 c2 ca cf 0 0 0 0 [] (dH 0 0 0 0 [] 0 0 0 0 [] (dH 0 0 0 0 [] 0 0 0 0 [] []))) (oM a.w a.h a.so g.a g.b g.c g.al g.f f.w f.h f.s f.n f.xs (dH e.w e.h e.s e.n e.xs d.w d.h d.s d.n d.xs (dH c.w c.h c.s c.n c.xs b.w b.h b.s b.n b.xs []))))) λhwf=>by
  delta eS aB aF cQ cV kX bI qJ dH oM xS;simp only[sS,zQj,zQp,zQz,zQB,zQN,zQR,zZg];simp[zQW,Pl.none,Px.zero]
end
variable{w:World}
section
attribute [local go_sem] Oper.semAt_some
theorem jWi{a b:Bool × List DV}{l:Array Value}(h:jK6 w [a,b] l.toList):∃x y,l=#[x,y]/\jUe w a x/\jUe w b y:=by
 obtain⟨l⟩:=l
 match l,h with
 |[x,y],h=>exact⟨x,y,rfl,h.1,h.2.1⟩
theorem jY0{v:Value}(h:jUe w (true,[.int .i64 n]) v):∃g,v=.pointer (some ⟨g,0,none⟩)/\w.cell? ⟨g,0,none⟩=some (.int .i64 n):=by
 obtain⟨g,e,h⟩:=h;obtain⟨u,hu,hc⟩:=h 0 _ rfl;simp[DV.plain]at hu;subst hu;exact⟨g,e,hc⟩
theorem RoundIn.any{n:Nat}{P:Program}{l:Nat}{f:FuncId}{tmps:Array Value}{assign body:Code}{R:Ending->World->Prop}(h:RoundIn Fence.wide n P l f tmps assign body w R)(m:Nat):RoundIn Fence.wide m P l f tmps assign body w R:=
 ⟨h.1,λc cs _=>h.2 c cs (room_wide _)⟩
abbrev wX4:=@Nat.add_comm
abbrev wZP:=@bodyPost_ret
abbrev wXI:=@Nat.one_mul
set_option maxRecDepth 100000 in
set_option maxHeartbeats 2000000 in
theorem jVH(h w:Int)(hh:h<=16777216)(hw:w<=16777216):AnsI prog 209 [(true,[DV.int .i64 h]),(true,[DV.int .i64 w])] (w.toNat*h.toNat) (λk=>[DV.int .i64 ((k%w.toNat:Nat):Int),DV.int .i64 ((k / w.toNat:Nat):Int)]):=by
 intro lb l m J Jx hcap hd hdx hround W hJ;obtain⟨a,b,rfl,ha,hb⟩:=jWi (hcap 0 W hJ);obtain⟨gh,rfl,hch⟩:=jY0 ha;obtain⟨gw,rfl,hcw⟩:=jY0 hb;have hc:∀k W,J k W->W.cell? ⟨gh,0,none⟩=some (.int .i64 h)/\W.cell? ⟨gw,0,none⟩=some (.int .i64 w):=λk W hk=>by
  obtain⟨a,b,e,ha,hb⟩:=jWi (hcap k W hk);obtain⟨g1,rfl,h1⟩:=jY0 ha;obtain⟨g2,rfl,h2⟩:=jY0 hb;simp at e;obtain⟨rfl,rfl⟩:=e;exact⟨h1,h2⟩
 refine callsIn_of_wp Tryz.func209 rfl trivial ?_ rfl;simp only[Tryz.ntmps209,wZA,wQC,wZr,Nat.reduceAdd,Nat.reduceSub,Array.replicate_succ,Array.replicate_zero,List.push_toArray,List.append_toArray,List.nil_append,List.cons_append]
 gi_wp2
 gi_loopg [7] (h.toNat) (λg t7 wr=>∃y:Nat,y<=h.toNat/\g=h.toNat-y/\t7=.int .i64 (y:Int)/\J (y*w.toNat) wr)
 case atStart=>exact⟨0,by omega,by omega,rfl,by simpa using hJ⟩
 obtain⟨y,hy,rfl,rfl,hJy⟩:=hrel;have hc1:=(hc _ _ hJy).1;have hc2:=(hc _ _ hJy).2;by_cases hlt:(y:Int)<h
 .gi_wp2
  gi_loopg [11] (w.toNat) (λg t11 wr=>∃x:Nat,x<=w.toNat/\g=w.toNat-x/\t11=.int .i64 (x:Int)/\J (y*w.toNat+x) wr)
  case atStart=>exact⟨0,by omega,by omega,rfl,hJy⟩
  obtain⟨x,hx,rfl,rfl,hJx⟩:=hrel;by_cases hlx:(x:Int)<w
  .have hW:0<w.toNat:=by omega
   have hk:y*w.toNat+x<w.toNat*h.toNat:=by
    have h1:(y+1)*w.toNat<=h.toNat*w.toNat:=wQ1 _ (by omega);rw[wQS w.toNat,wQu]at *;omega
   have e1:(y*w.toNat+x)%w.toNat=x:=by rw[wX4,Nat.add_mul_mod_self_right,wZj (by omega)]
   have e2:(y*w.toNat+x) / w.toNat=y:=by rw[wX4,Nat.add_mul_div_right _ _ hW,wXT (by omega),Nat.zero_add]
   have hY:=hround _ _ hk hJx;simp only[e1,e2,jZb,wQi,wQs,DV.plain,wQA]at hY;obtain⟨f1,t1,a1,b1,hy1,hR1⟩:=hY
   gi_wp2
   refine⟨λh=>by(cases h),(RoundIn.any hR1 _).mono ?_⟩;rintro e W1 (⟨rfl,hJ1⟩|⟨rfl,hx1⟩)
   .have w1:wrap .i64 ((x:Int)+1)=((x+1:Nat):Int):=by rw[wQb _ (by omega)];omega
    gi_wp2
    gi_roundg (w.toNat-(x+1))
    .exact⟨x+1,by omega,rfl,by simp,hJ1⟩
    .omega
   .gi_wp2
    refine wZP (results_none rfl _ _ _) rfl ?_;exact⟨⟨_,rfl⟩,.inr hx1⟩
  .gi_wp2
   gi_roundg (h.toNat-(y+1))
   .have hx':x=w.toNat:=by omega
    exact⟨y+1,by omega,rfl,by simp,by rw[wQu,wXI];rw[hx']at hJx;exact hJx⟩
   .omega
 .have hy':y=h.toNat:=by omega
  gi_wp2
  go_end0
  exact⟨⟨_,rfl⟩,.inl (by rw[wQS,<-hy'];exact hJy)⟩
end
section
attribute [local irreducible] Ans AnsO AnsG AnsN AnsI
def dO(a:AV)(b:List Bx):Prop:=zYe ⟨a,b,false⟩
def aEU(a:Nat):Cap:=Cap.ptr a 0
theorem zJn(w h:Int):AnsG prog 154 0 [aJ ((w)),aJ ((h))] [] ⟨aO (Cl.clo 209 [Cap.ptr 0 0,Cap.ptr 1 0]),[bC [cJ (h)],bC [cJ (w)]],false⟩:=
 vw gamI aL Tryz.func154 (qB (gV (dB True/\True) (eS (nR h)) (nR w)) (dO (aO (Cl.clo 209 [aEU 0,aEU 1])) [bY (aB h) [],bY (aB w) []])) λhwf hbx=>by
  delta eS aB bY dB aT dE nR qB dO gV aEU;simp only[sS,zQj,zQp,zQz,zQt,zQI,zQB,zQN,zQR,zZg];simp[zYe]
def qH(a b c d e:Prop)(f g:List DV)(h:Prop):Prop:=a/\b/\c/\d/\lN e f g h
def nT(a b c:Prop):Prop:=jW a (eS true) b c
def iY(a:FuncId)(b:Nat)(c:List AV)(d:List Bx)(e:AV)(f:List Bx):Prop:=AnsG prog a b c d ⟨e,f,false⟩
def aHP(a:Px)(b:Int):Prop:=bH 117 (eG a) (oB b) (aM (Px.ok a b))
theorem jQT(w h:Int)(so:Bool)(c0 c1 c2 ca cf w0 h0 s0:Int)(n0:Nat)(xs0:List DV)(w1 h1 s1:Int)(n1:Nat)(xs1:List DV)(w2 h2 s2:Int)(n2:Nat)(xs2:List DV)(w3 h3 s3:Int)(n3:Nat)(xs3:List DV)(w4 h4 s4:Int)(n4:Nat)(xs4:List DV)(most:Int)(hu:Im.isU ⟨w,h,so,⟨c0,c1,c2,ca,cf⟩,⟨w0,h0,s0,n0,xs0⟩,⟨w1,h1,s1,n1,xs1⟩,⟨w2,h2,s2,n2,xs2⟩,⟨w3,h3,s3,n3,xs3⟩,⟨w4,h4,s4,n4,xs4⟩⟩):Ans prog 76 [rA [dJ w,dJ h,dQ so,dK c0,dK c1,dK c2,dK ca,dK cf,dJ w0,dJ h0,dJ s0,dS n0 xs0,dJ w1,dJ h1,dJ s1,dS n1 xs1,dJ w2,dJ h2,dJ s2,dS n2 xs2,dJ w3,dJ h3,dJ s3,dS n3 xs3,dJ w4,dJ h4,dJ s4,dS n4 xs4],rD (dK most)] (rJ ((Im.valid ⟨w,h,so,⟨c0,c1,c2,ca,cf⟩,⟨w0,h0,s0,n0,xs0⟩,⟨w1,h1,s1,n1,xs1⟩,⟨w2,h2,s2,n2,xs2⟩,⟨w3,h3,s3,n3,xs3⟩,⟨w4,h4,s4,n4,xs4⟩⟩ most))):=
 vv gamI (qW (Ann.range (Inv.mk Nat (λ(a:Nat)=>bZ a (aW w (Int.toNat h)) (Im.okTo (jY w h so c0 c1 c2 ca cf ⟨w0,h0,s0,n0,xs0⟩ ⟨w1,h1,s1,n1,xs1⟩ ⟨w2,h2,s2,n2,xs2⟩ ⟨w3,h3,s3,n3,xs3⟩ ⟨w4,h4,s4,n4,xs4⟩) most a=true)) (λ(d:Nat)=>aJT 2 2 (kU 3 3 4 4 (aHU 24 (Cl.clo 209 [aEU 1024,aEU 2024]) [])) 2 w h so c0 c1 c2 ca cf (qT w0 h0 s0 n0 xs0 (nE w1 h1 s1 n1 xs1 w2 h2 s2 n2 xs2 (nE w3 h3 s3 n3 xs3 w4 h4 s4 n4 xs4 []))) (aJS 3 most [] 4 (wT []) (aJR 1024 h [] 2024 (bY (aB w) []) []))) (λ(b:Nat)=>b)) [2,3,4,24] (λ(c:Nat)=>aL) (λ(c:Nat)=>aL))) Tryz.func76 (let c:=jY w h so c0 c1 c2 ca cf ⟨w0,h0,s0,n0,xs0⟩ ⟨w1,h1,s1,n1,xs1⟩ ⟨w2,h2,s2,n2,xs2⟩ ⟨w3,h3,s3,n3,xs3⟩ ⟨w4,h4,s4,n4,xs4⟩;let e:=Im.valid c most;let b:=aW w (Int.toNat h);let k:=oM w h so c0 c1 c2 ca cf w0 h0 s0 n0 xs0 (dH w1 h1 s1 n1 xs1 w2 h2 s2 n2 xs2 (dH w3 h3 s3 n3 xs3 w4 h4 s4 n4 xs4 []));let n:=eS k;let d:=Int.toNat w;let r:=[(true,nR h),(true,nR w)];let t:=(⟨c0,c1,c2,ca,cf⟩:Px);let u:=Px.ok t most;let f:=Im.shape c;fV (bH 153 k [] (aV f)) (aP (jN f 0) (jC f e) (bP (fN f) (aE (so=true) (True/\bH 117 (cO c0 c1 c2 ca cf) (oB most) (aM (Px.ok t most))/\True/\kB (dV u) 8 e/\kB (bO u) 0 e)) (bK (so=false) (iY 154 0 [bE (aB w),bE (aB h)] [] (aO (Cl.clo 209 [aEU 0,aEU 1])) [bY (aB h) [],bY (aB w) []]/\AnsI prog 209 r b (λ(m:Nat)=>aAE ((m%d:Nat):Int) ((m/d:Nat):Int))/\eC (∀j:Nat,let s:=aAE ((j%d:Nat):Int) ((j/d:Nat):Int);j<b->List.length s=2/\zUy s) (∃i:Nat,qH (bZ i b (Im.okTo c most i=true)) (i=0) (dB (iJ (dB True))) n (eS [aF most]) (nR 0) (nR h) (eS (nR w))) (∀a:Nat,let o:=((a/d:Nat):Int);let p:=((a%d:Nat):Int);let l:=Im.px c p o;let q:=Px.ok l most;bZ a b (Im.okTo c most a=true)->eS (some r)/\aN (a<b) (bD (iG 155 k (lE p o) (eG l)) (nT (aHP l most) (kB (dV q) 8 e) (bO q->(∃g:Nat,qH (bZ g b (Im.okTo c most g=true)) (g=a+1) (dB (iJ (dB True))) n (eS [aF most]) (nR 0) (nR h) (eS (nR w))))))/\kB (a=b) 0 e)))))) λhwf=>by
  delta eS aB aV aW aE aP jC eC aF aG bE cQ aN bD cO oB bY bP bK lN kX dB aT nR eG bH iG fV aM bZ iJ qH lE qJ dH jW oM bO jY dN jN dV nT fN iY kB aAE aHP aEU;simp only[sS,zQj,zQp,zQz,zQt,zQI,zQB,zQN,zQR,zZg,zJn];obtain⟨m,hm⟩:∃m:Im,m=⟨w,h,so,⟨c0,c1,c2,ca,cf⟩,⟨w0,h0,s0,n0,xs0⟩,⟨w1,h1,s1,n1,xs1⟩,⟨w2,h2,s2,n2,xs2⟩,⟨w3,h3,s3,n3,xs3⟩,⟨w4,h4,s4,n4,xs4⟩⟩:=⟨_,rfl⟩
  have pix:=λ(x y:Int)(hf:Im.inner ⟨w,h,so,⟨c0,c1,c2,ca,cf⟩,⟨w0,h0,s0,n0,xs0⟩,⟨w1,h1,s1,n1,xs1⟩,⟨w2,h2,s2,n2,xs2⟩,⟨w3,h3,s3,n3,xs3⟩,⟨w4,h4,s4,n4,xs4⟩⟩=true) hx hy=>zVX w h so c0 c1 c2 ca cf w0 h0 s0 n0 xs0 w1 h1 s1 n1 xs1 w2 h2 s2 n2 xs2 w3 h3 s3 n3 xs3 w4 h4 s4 n4 xs4 x y hu hf hx hy;have ew:w=m.w:=by rw[hm]
  have eh:h=m.h:=by rw[hm]
  have es:so=m.so:=by rw[hm]
  have ec:(⟨c0,c1,c2,ca,cf⟩:Px)=m.c:=by rw[hm]
  rw[<-hm]at pix hu;simp only[<-hm];refine⟨λq1=>(Im.valid_shape _ (by simpa using q1)).symm,λq1=>?_⟩;have q1:m.shape=0:=by simpa using q1
  obtain⟨qf,qi⟩:=Im.shape_zero q1;obtain⟨f1,f2,f3,f4,f5⟩:=zXM qf;refine⟨λhs=>?_,λhs=>?_⟩
  .rw[Im.valid_solid q1 (es ▸ hs),ec];cases m.c.ok most<;>simp
  .rw[Im.valid_planes q1 (es ▸ hs),ew,eh];refine⟨jVH m.h m.w f4 f3,yQN qf,⟨0,⟨wQj _,rfl⟩,rfl⟩,λk hk=>⟨λhlt=>?_,λhe=>?_⟩⟩
   .have hin:=Im.nth_in qf hlt;have hs1:=Im.okTo_succ m most k;have hle:=λhn=>Im.okTo_le (m:=m) (most:=most) (k:=k+1) (n:=m.w.toNat*m.h.toNat) (by omega) hn;rw[ew,eh]at pix;refine⟨pix _ _ qi hin.1 hin.2,zQt _ _ _ _ _ _,λhb=>?_,λhb=>⟨k+1,⟨by omega,?_⟩,rfl⟩⟩
    .have hb:(m.nth k).ok most=false:=hb;have:¬m.okTo most (m.w.toNat*m.h.toNat)=true:=λhn=>by
      have:=hle hn;rw[hs1,hb]at this;simp at this
     rw[if_neg this]
    .have hb:(m.nth k).ok most=true:=hb;rw[hs1,hk.2,hb];rfl
   .rw[<-he,if_pos hk.2]
theorem jKm(w h:Int)(so:Bool)(c0 c1 c2 ca cf w0 h0 s0:Int)(n0:Nat)(xs0:List DV)(w1 h1 s1:Int)(n1:Nat)(xs1:List DV)(w2 h2 s2:Int)(n2:Nat)(xs2:List DV)(w3 h3 s3:Int)(n3:Nat)(xs3:List DV)(w4 h4 s4:Int)(n4:Nat)(xs4:List DV)(x y:Int)(hu:Im.isU ⟨w,h,so,⟨c0,c1,c2,ca,cf⟩,⟨w0,h0,s0,n0,xs0⟩,⟨w1,h1,s1,n1,xs1⟩,⟨w2,h2,s2,n2,xs2⟩,⟨w3,h3,s3,n3,xs3⟩,⟨w4,h4,s4,n4,xs4⟩⟩):Ans prog 215 [rA [dJ w,dJ h,dQ so,dK c0,dK c1,dK c2,dK ca,dK cf,dJ w0,dJ h0,dJ s0,dS n0 xs0,dJ w1,dJ h1,dJ s1,dS n1 xs1,dJ w2,dJ h2,dJ s2,dS n2 xs2,dJ w3,dJ h3,dJ s3,dS n3 xs3,dJ w4,dJ h4,dJ s4,dS n4 xs4],rJ (x),rJ (y)] (rA (pD (Im.at_ ⟨w,h,so,⟨c0,c1,c2,ca,cf⟩,⟨w0,h0,s0,n0,xs0⟩,⟨w1,h1,s1,n1,xs1⟩,⟨w2,h2,s2,n2,xs2⟩,⟨w3,h3,s3,n3,xs3⟩,⟨w4,h4,s4,n4,xs4⟩⟩ x y))):=
 vv gamI aL Tryz.func215 (let d:=(⟨w4,h4,s4,n4,xs4⟩:Pl);let e:=(⟨w3,h3,s3,n3,xs3⟩:Pl);let f:=(⟨w2,h2,s2,n2,xs2⟩:Pl);let g:=(⟨w1,h1,s1,n1,xs1⟩:Pl);let i:=(⟨w0,h0,s0,n0,xs0⟩:Pl);let b:=jY w h so c0 c1 c2 ca cf i g f e d;let j:=cV mV (eG (Im.at_ b x y));let a:=True/\j;let c:=Im.formed (jY w h so c0 c1 c2 ca cf i g f e d);let k:=Im.px b x y;let l:=oM w h so c0 c1 c2 ca cf w0 h0 s0 n0 xs0 (dH w1 h1 s1 n1 xs1 w2 h2 s2 n2 xs2 (dH w3 h3 s3 n3 xs3 w4 h4 s4 n4 xs4 []));bI (uJ 208 l c (xI c (fU (mR x) (mL (fI x w) (aP (mR y) (aP (eJ y h) j (fI y h->True/\bD (iG 155 l (lE x y) (eG k)) (cV (eG k) (eG (Im.at_ b x y))))) (aE (nY y) a)) (xH x w) a) (fP (nY x) a))) (dU c->aK a))) λhwf=>by
  delta eS aB aV aE aP tA eJ gX fI mR nY aF cQ aK bD cO bK cV kX gD eG bH iG fU mV aM bI lE qJ dH fP oM bO dU xH uJ jY xI mL;simp only[sS,zQj,zQp,zQz,zQt,zQI,zQB,zQN,zQR,zZg,zJn];obtain⟨m,hm⟩:∃m:Im,m=⟨w,h,so,⟨c0,c1,c2,ca,cf⟩,⟨w0,h0,s0,n0,xs0⟩,⟨w1,h1,s1,n1,xs1⟩,⟨w2,h2,s2,n2,xs2⟩,⟨w3,h3,s3,n3,xs3⟩,⟨w4,h4,s4,n4,xs4⟩⟩:=⟨_,rfl⟩
  have pix:=λ(x y:Int)(hf:Im.inner ⟨w,h,so,⟨c0,c1,c2,ca,cf⟩,⟨w0,h0,s0,n0,xs0⟩,⟨w1,h1,s1,n1,xs1⟩,⟨w2,h2,s2,n2,xs2⟩,⟨w3,h3,s3,n3,xs3⟩,⟨w4,h4,s4,n4,xs4⟩⟩=true) hx hy=>zVX w h so c0 c1 c2 ca cf w0 h0 s0 n0 xs0 w1 h1 s1 n1 xs1 w2 h2 s2 n2 xs2 w3 h3 s3 n3 xs3 w4 h4 s4 n4 xs4 x y hu hf hx hy;have ew:w=m.w:=by rw[hm]
  have eh:h=m.h:=by rw[hm]
  have es:so=m.so:=by rw[hm]
  have ec:(⟨c0,c1,c2,ca,cf⟩:Px)=m.c:=by rw[hm]
  rw[<-hm]at pix hu;simp only[<-hm];rw[ew,eh]at pix;rw[ew,eh];have out:(m.formed=false\/x<0\/m.w<=x\/y<0\/m.h<=y)->0=(m.at_ x y).a/\0=(m.at_ x y).b/\0=(m.at_ x y).c/\0=(m.at_ x y).al/\0=(m.at_ x y).f:=λh=>by rw[Im.at_out h];exact⟨rfl,rfl,rfl,rfl,rfl⟩
  refine⟨λq1=>⟨λq2=>⟨λq3=>⟨λq4=>⟨λq5=>out (by omega),λq5=>?_⟩,λq4=>out (by omega)⟩,λq3=>out (by omega)⟩,λq2=>out (by omega)⟩,λq1=>out (.inl q1)⟩;rw[Im.at_in q1 (by omega) (by omega)];exact⟨pix _ _ (Im.formed_of q1).2 (by omega) (by omega),rfl,rfl,rfl,rfl,rfl⟩
def aBV(a b c d e:Int):List DV:=cQ a b (cQ c d [aF e])
theorem jZx(w h:Int)(so:Bool)(c0 c1 c2 ca cf w0 h0 s0:Int)(n0:Nat)(xs0:List DV)(w1 h1 s1:Int)(n1:Nat)(xs1:List DV)(w2 h2 s2:Int)(n2:Nat)(xs2:List DV)(w3 h3 s3:Int)(n3:Nat)(xs3:List DV)(w4 h4 s4:Int)(n4:Nat)(xs4:List DV)(x y:Int)(hu:Im.isU ⟨w,h,so,⟨c0,c1,c2,ca,cf⟩,⟨w0,h0,s0,n0,xs0⟩,⟨w1,h1,s1,n1,xs1⟩,⟨w2,h2,s2,n2,xs2⟩,⟨w3,h3,s3,n3,xs3⟩,⟨w4,h4,s4,n4,xs4⟩⟩):Ans prog 13 [rA [dJ w,dJ h,dQ so,dK c0,dK c1,dK c2,dK ca,dK cf,dJ w0,dJ h0,dJ s0,dS n0 xs0,dJ w1,dJ h1,dJ s1,dS n1 xs1,dJ w2,dJ h2,dJ s2,dS n2 xs2,dJ w3,dJ h3,dJ s3,dS n3 xs3,dJ w4,dJ h4,dJ s4,dS n4 xs4],rJ (x),rJ (y)] (rA (pD (Im.at_ ⟨w,h,so,⟨c0,c1,c2,ca,cf⟩,⟨w0,h0,s0,n0,xs0⟩,⟨w1,h1,s1,n1,xs1⟩,⟨w2,h2,s2,n2,xs2⟩,⟨w3,h3,s3,n3,xs3⟩,⟨w4,h4,s4,n4,xs4⟩⟩ x y))):=
 vv gamI aL Tryz.func13 (let e:=(⟨w4,h4,s4,n4,xs4⟩:Pl);let f:=(⟨w3,h3,s3,n3,xs3⟩:Pl);let g:=(⟨w2,h2,s2,n2,xs2⟩:Pl);let i:=(⟨w1,h1,s1,n1,xs1⟩:Pl);let j:=(⟨w0,h0,s0,n0,xs0⟩:Pl);let k:=jY w h so c0 c1 c2 ca cf j i g f e;let a:=Im.at_ k x y;let l:=cQ a.a a.b (aF a.c::cQ a.al a.f []);let b:=cV mV l;let d:=Im.formed (jY w h so c0 c1 c2 ca cf j i g f e);let c:=Im.px k x y;let m:=aBV c.a c.b c.c c.al c.f;let n:=oM w h so c0 c1 c2 ca cf w0 h0 s0 n0 xs0 (dH w1 h1 s1 n1 xs1 w2 h2 s2 n2 xs2 (dH w3 h3 s3 n3 xs3 w4 h4 s4 n4 xs4 []));bI (uJ 42 n d (xI d (fU (mR x) (True/\True/\True/\(fI x w->True/\aP (mR y) (aP (eJ y h) b (fI y h->True/\bD (iG 43 n (lE x y) m) (cV m l))) (aN (nY y) b))/\dL (xH x w) b) (qP (nY x) b))) (xJ (dU d) b))) λhwf=>by
  delta eS aB aV aE aP tA eJ gX fI mR nY aF cQ aK aN bD cO dL cV kX gD bH iG fU mV aM bI lE qJ dH oM bO dU xH uJ jY qP xI xJ aBV;simp only[sS,zQj,zQp,zQz,zQt,zQI,zQB,zQN,zQR,zZg,zJn];obtain⟨m,hm⟩:∃m:Im,m=⟨w,h,so,⟨c0,c1,c2,ca,cf⟩,⟨w0,h0,s0,n0,xs0⟩,⟨w1,h1,s1,n1,xs1⟩,⟨w2,h2,s2,n2,xs2⟩,⟨w3,h3,s3,n3,xs3⟩,⟨w4,h4,s4,n4,xs4⟩⟩:=⟨_,rfl⟩
  have pix:=λ(x y:Int)(hf:Im.inner ⟨w,h,so,⟨c0,c1,c2,ca,cf⟩,⟨w0,h0,s0,n0,xs0⟩,⟨w1,h1,s1,n1,xs1⟩,⟨w2,h2,s2,n2,xs2⟩,⟨w3,h3,s3,n3,xs3⟩,⟨w4,h4,s4,n4,xs4⟩⟩=true) hx hy=>jJq w h so c0 c1 c2 ca cf w0 h0 s0 n0 xs0 w1 h1 s1 n1 xs1 w2 h2 s2 n2 xs2 w3 h3 s3 n3 xs3 w4 h4 s4 n4 xs4 x y hu hf hx hy;have ew:w=m.w:=by rw[hm]
  have eh:h=m.h:=by rw[hm]
  have es:so=m.so:=by rw[hm]
  have ec:(⟨c0,c1,c2,ca,cf⟩:Px)=m.c:=by rw[hm]
  rw[<-hm]at pix hu;simp only[<-hm];rw[ew,eh]at pix;rw[ew,eh];have out:(m.formed=false\/x<0\/m.w<=x\/y<0\/m.h<=y)->0=(m.at_ x y).a/\0=(m.at_ x y).b/\0=(m.at_ x y).c/\0=(m.at_ x y).al/\0=(m.at_ x y).f:=λh=>by rw[Im.at_out h];exact⟨rfl,rfl,rfl,rfl,rfl⟩
  refine⟨λq1=>⟨λq2=>⟨λq3=>⟨λq4=>⟨λq5=>out (by omega),λq5=>?_⟩,λq4=>out (by omega)⟩,λq3=>out (by omega)⟩,λq2=>out (by omega)⟩,λq1=>out (.inl q1)⟩;rw[Im.at_in q1 (by omega) (by omega)];exact⟨pix _ _ (Im.formed_of q1).2 (by omega) (by omega),rfl,rfl,rfl,rfl,rfl⟩
def aKZ(a b c:Nat)(d:vz):vz:=kU 2 a b c d
def aBJ(a:Nat)(b:Int)(c:Nat)(d:Bool)(e:vz):vz:=aBH a b c (DV.bool d) e
def aCK(a b:Nat)(c:vz):vz:=aKZ 2 a b c
def aIT(a:vz)(b:Nat)(c:wc)(d:Nat)(e:wc)(f:vD):Snap:=vM a b (Bx.cells c) d e f
def zS(a b c:Nat)(d:vz):vz:=aHU a (Cl.ptr b c) d
def mJ(a b c:Int)(d:Nat)(e:List DV)(f g h:Int)(i:Nat)(j:List DV):Bool:=zJo ⟨a,b,c,d,e⟩ ⟨f,g,h,i,j⟩
def qV(a:DV)(b c d e:Prop):Prop:=eS a/\b/\c/\d/\e
theorem zZ9(w h s:Int)(n:Nat)(xs:List DV)(w' h' s':Int)(n':Nat)(xs':List DV)(hx:IsU n xs)(hy:IsU n' xs'):Ans prog 72 [rA [dJ w,dJ h,dJ s,dS n xs],rA [dJ w',dJ h',dJ s',dS n' xs']] (rD (dQ (zJo ⟨w,h,s,n,xs⟩ ⟨w',h',s',n',xs'⟩))):=
 vv gamI (let b:=qT w' h' s' n' xs' [];let c:=qT w h s n xs [];let d:=(n:Int) !=(n':Int);gI (ui (λa=>bZ a n (uM a xs=uM a xs')) (λf=>aIT (aIS 0 c (aIS 1 b (aCK 3 3 (zC 5 f (dP 6 2 (jF 7 w (dP 8 3 (jF 9 w' (aBA 10 (w !=w') 11 kG (zS 12 2 1 (jF 13 h (zS 14 3 1 (aBJ 15 h' 16 (h !=h') (aBA 17 (h !=h') 18 kG (zS 19 2 2 (jF 20 s (zS 21 3 2 (aBJ 22 s' 23 (s !=s') (aBA 24 (s !=s') 25 kG (zS 26 2 3 (iF 27 (DV.sl n xs) 28 (fC n) (zS 29 3 3 (oF 30 n' xs' (xM 31 n' 32 (DV.bool d) (aEX 33 d []))))))))))))))))))))))))) 2 c 3 b []) (λe=>n-e) (λg=>aL))) Tryz.func72 (let b:=mJ w h s n xs w' h' s' n' xs';let e:=kO w' h' s' n' xs';let f:=kO w h s n xs;let g:=tU ((n:Int) !=(n':Int));let i:=eS (0:Nat)/\cP (aB w) (eS (0:Nat)) (nP w' (tU (w !=w')) (eS kG) (eS (1:Nat)) (nP h (eS (1:Nat)) (bM h') (tU (h !=h')) (tU (h !=h')/\cP kG (eS (2:Nat)) (nP s (eS (2:Nat)) (bM s') (tU (s !=s')) (tU (s !=s')/\qV kG (eS (3:Nat)) (eS (DV.sl n xs)) (iS n) (eS (3:Nat)/\eS (DV.sl n' xs')/\eC (iS n') g (g/\True)))))));let j:=eS e;let k:=eS f;True/\True/\bW (bK (dN w w') (mH (dN h h') (True/\True/\True/\(dN s s'->True/\True/\True/\True/\True/\uN (n:Int) (n':Int) b (bL (dN (n:Int) (n':Int)) (∃d:Nat,iB (bZ d n (uM d xs=uM d xs')) (pP k j (eS (0:Nat)) (cT (dC d/\i))) f e) (∀a:Nat,aE (bZ a n (uM a xs=uM a xs')) (oZ (dT a n) (aBE (dF a n 1 xs) (kN xs (aZ a 1)) (dF a n' 1 xs') (nT (kN xs' (aZ a 1)) (jN (cB xs a 1) (cB xs' a 1)->True/\gO b) (aN (dN (cB xs a 1) (cB xs' a 1)) (∃c:Nat,bZ c n (uM c xs=uM c xs')/\iB (dZ n c a) (pP k j (eS (0:Nat)) (cT (bQ a c/\i))) f e)))) (eV a n) (cZ true b)))))/\fY (kP s s') b) (mG (kP h h') b))) (mI (kP w w') b)) λhwf=>by
  delta eS aB aW aE iE oZ eC aF aU aG fG aN kG cP bM nP bK bW cT tU fC gD aZ bQ bL dC dF cB dT eV aBE aM bZ dZ iS pP qJ cS cE fP iB jW cZ fY gO mH mG mI dN jN kN mJ kO nT uM kP uN qV;simp only[sS,zQj,zQp,zQz,zQt,zQI,zQB,zQN,zQR,zZg];obtain⟨l,rfl,rfl⟩:=hx.of;obtain⟨l',rfl,rfl⟩:=hy.of;simp only[RV.wfs,RV.wf,DV.wfs,DV.wf,maxLen]at hwf;simp only[jHn,zJG,zJo,yZP];have big:l.length<=2 ^ 63-1:=by omega
  clear hwf;refine⟨λh1=>⟨λh2=>⟨λh3=>⟨λh4=>?_,λh4=>yXn (by simp at h4;omega) big ?_⟩,λh3=>?_⟩,λh2=>?_⟩,λh1=>?_⟩<;>simp_all;exact λe=>absurd e (by omega)
def zQ(a b c:Nat)(d:Int)(e f:wc)(g:vD):Snap:=aIT (aIX a a b b c d) a e b f g
def gB(a:List DV):List RV:=[RV.agg a]
def zR(a:FuncId)(b c:List DV)(d:Bool):Prop:=bH a b (gB c) (aM d)
def aCJ(a b:Prop)(c d:Int)(e:Bool)(f g h i j:Int)(k l:List DV):Prop:=iB a b (kX c d e (cQ f g (cQ h i (aF j::k)))) l
theorem zG0(w h:Int)(so:Bool)(c0 c1 c2 ca cf w0 h0 s0:Int)(n0:Nat)(xs0:List DV)(w1 h1 s1:Int)(n1:Nat)(xs1:List DV)(w2 h2 s2:Int)(n2:Nat)(xs2:List DV)(w3 h3 s3:Int)(n3:Nat)(xs3:List DV)(w4 h4 s4:Int)(n4:Nat)(xs4:List DV)(w' h':Int)(so':Bool)(c0' c1' c2' ca' cf' w0' h0' s0':Int)(n0':Nat)(xs0':List DV)(w1' h1' s1':Int)(n1':Nat)(xs1':List DV)(w2' h2' s2':Int)(n2':Nat)(xs2':List DV)(w3' h3' s3':Int)(n3':Nat)(xs3':List DV)(w4' h4' s4':Int)(n4':Nat)(xs4':List DV)(hu:Im.isU ⟨w,h,so,⟨c0,c1,c2,ca,cf⟩,⟨w0,h0,s0,n0,xs0⟩,⟨w1,h1,s1,n1,xs1⟩,⟨w2,h2,s2,n2,xs2⟩,⟨w3,h3,s3,n3,xs3⟩,⟨w4,h4,s4,n4,xs4⟩⟩)(hv:Im.isU ⟨w',h',so',⟨c0',c1',c2',ca',cf'⟩,⟨w0',h0',s0',n0',xs0'⟩,⟨w1',h1',s1',n1',xs1'⟩,⟨w2',h2',s2',n2',xs2'⟩,⟨w3',h3',s3',n3',xs3'⟩,⟨w4',h4',s4',n4',xs4'⟩⟩):Ans prog 29 [rA [dJ w,dJ h,dQ so,dK c0,dK c1,dK c2,dK ca,dK cf,dJ w0,dJ h0,dJ s0,dS n0 xs0,dJ w1,dJ h1,dJ s1,dS n1 xs1,dJ w2,dJ h2,dJ s2,dS n2 xs2,dJ w3,dJ h3,dJ s3,dS n3 xs3,dJ w4,dJ h4,dJ s4,dS n4 xs4],rA [dJ w',dJ h',dQ so',dK c0',dK c1',dK c2',dK ca',dK cf',dJ w0',dJ h0',dJ s0',dS n0' xs0',dJ w1',dJ h1',dJ s1',dS n1' xs1',dJ w2',dJ h2',dJ s2',dS n2' xs2',dJ w3',dJ h3',dJ s3',dS n3' xs3',dJ w4',dJ h4',dJ s4',dS n4' xs4']] (rD (dQ (Im.same ⟨w,h,so,⟨c0,c1,c2,ca,cf⟩,⟨w0,h0,s0,n0,xs0⟩,⟨w1,h1,s1,n1,xs1⟩,⟨w2,h2,s2,n2,xs2⟩,⟨w3,h3,s3,n3,xs3⟩,⟨w4,h4,s4,n4,xs4⟩⟩ ⟨w',h',so',⟨c0',c1',c2',ca',cf'⟩,⟨w0',h0',s0',n0',xs0'⟩,⟨w1',h1',s1',n1',xs1'⟩,⟨w2',h2',s2',n2',xs2'⟩,⟨w3',h3',s3',n3',xs3'⟩,⟨w4',h4',s4',n4',xs4'⟩⟩))):=
 vv gamI (let a:=xL w' h' so' (aF c0') (aCI c1' c2' ca' cf' (qT w0' h0' s0' n0' xs0' (nE w1' h1' s1' n1' xs1' w2' h2' s2' n2' xs2' (nE w3' h3' s3' n3' xs3' w4' h4' s4' n4' xs4' []))));let b:=xL w h so (aF c0) (aCI c1 c2 ca cf (qT w0 h0 s0 n0 xs0 (nE w1 h1 s1 n1 xs1 w2 h2 s2 n2 xs2 (nE w3 h3 s3 n3 xs3 w4 h4 s4 n4 xs4 []))));let f:=mJ w3 h3 s3 n3 xs3 w3' h3' s3' n3' xs3'=true;let e:=mJ w2 h2 s2 n2 xs2 w2' h2' s2' n2' xs2'=true;let d:=mJ w1 h1 s1 n1 xs1 w1' h1' s1' n1' xs1'=true;let c:=mJ w0 h0 s0 n0 xs0 w0' h0' s0' n0' xs0'=true;let g:=nA aBY;pH (uf True (zQ 2 3 5 0 b a []) g (uf (c/\True) (zQ 2 3 5 1 b a []) g (uf (aT c d) (zQ 2 3 5 2 b a []) g (uf (dE c d e) (zQ 2 3 5 3 b a []) g (uf (aG c d e f) (zQ 2 3 5 4 b a []) g (uf (fR c d e f (mJ w4 h4 s4 n4 xs4 w4' h4' s4' n4' xs4'=true)) (zQ 2 3 5 5 b a []) (nA zP) aL))))))) Tryz.func29 (let c:=Im.same (jY w h so c0 c1 c2 ca cf ⟨w0,h0,s0,n0,xs0⟩ ⟨w1,h1,s1,n1,xs1⟩ ⟨w2,h2,s2,n2,xs2⟩ ⟨w3,h3,s3,n3,xs3⟩ ⟨w4,h4,s4,n4,xs4⟩) (jY w' h' so' c0' c1' c2' ca' cf' ⟨w0',h0',s0',n0',xs0'⟩ ⟨w1',h1',s1',n1',xs1'⟩ ⟨w2',h2',s2',n2',xs2'⟩ ⟨w3',h3',s3',n3',xs3'⟩ ⟨w4',h4',s4',n4',xs4'⟩);let n:=mJ w3 h3 s3 n3 xs3 w3' h3' s3' n3' xs3'=true;let g:=mJ w2 h2 s2 n2 xs2 w2' h2' s2' n2' xs2'=true;let f:=mJ w1 h1 s1 n1 xs1 w1' h1' s1' n1' xs1'=true;let d:=mJ w0 h0 s0 n0 xs0 w0' h0' s0' n0' xs0'=true;let o:=fR d f g n (mJ w4 h4 s4 n4 xs4 w4' h4' s4' n4' xs4'=true);let a:=oM w' h' so' c0' c1' c2' ca' cf' w0' h0' s0' n0' xs0' (dH w1' h1' s1' n1' xs1' w2' h2' s2' n2' xs2' (dH w3' h3' s3' n3' xs3' w4' h4' s4' n4' xs4' []));let b:=qJ w0 h0 s0 n0 xs0 (dH w1 h1 s1 n1 xs1 w2 h2 s2 n2 xs2 (dH w3 h3 s3 n3 xs3 w4 h4 s4 n4 xs4 []));let i:=mJ w4 h4 s4 n4 xs4 w4' h4' s4' n4' xs4';let e:=gO c;let p:=aG d f g n;let j:=mJ w3 h3 s3 n3 xs3 w3' h3' s3' n3' xs3';let q:=dE d f g;let k:=mJ w2 h2 s2 n2 xs2 w2' h2' s2' n2' xs2';let r:=aT d f;let l:=mJ w1 h1 s1 n1 xs1 w1' h1' s1' n1' xs1';let s:=d/\True;let m:=mJ w0 h0 s0 n0 xs0 w0' h0' s0' n0' xs0';bI (xQ (∃F:Unit,aCJ True (cT (iJ jG)) w h so c0 c1 c2 ca cf b a) (∀E:Unit,bP True (eX 0) (pR 0 (pR 0 (nT (zR 72 (kO w0 h0 s0 n0 xs0) (kO w0' h0' s0' n0' xs0') m) (xR m e) (aN (bO m) (∃D:Unit,aCJ s (sM 0 1) w h so c0 c1 c2 ca cf b a)))))) (∀C:Unit,bP s (eX 1) (pR 1 (pR 1 (nT (zR 72 (kO w1 h1 s1 n1 xs1) (kO w1' h1' s1' n1' xs1') l) (xR l e) (aN (bO l) (∃B:Unit,aCJ r (sM 1 2) w h so c0 c1 c2 ca cf b a)))))) (∀A:Unit,bP r (eX 2) (pR 2 (pR 2 (nT (zR 72 (kO w2 h2 s2 n2 xs2) (kO w2' h2' s2' n2' xs2') k) (xR k e) (aN (bO k) (∃z:Unit,aCJ q (sM 2 3) w h so c0 c1 c2 ca cf b a)))))) (∀y:Unit,bP q (eX 3) (pR 3 (pR 3 (nT (zR 72 (kO w3 h3 s3 n3 xs3) (kO w3' h3' s3' n3' xs3') j) (xR j e) (aN (bO j) (∃x:Unit,aCJ p (sM 3 4) w h so c0 c1 c2 ca cf b a)))))) (∀v:Unit,bP p (eX 4) (pR 4 (pR 4 (nT (zR 72 (kO w4 h4 s4 n4 xs4) (kO w4' h4' s4' n4' xs4') i) (xR i e) (aN (bO i) (∃u:Unit,aCJ o (sM 4 5) w h so c0 c1 c2 ca cf b a)))))) (∀t:Unit,aE o (aR xO (mH ((w==w')=true) (mH ((h==h')=true) (cS (so==so') (qU (cZ (uL (uL (c0==c0') (c1==c1') (c2==c2')) (ca==ca') (cf==cf')) c)) (fY (bG (so==so')) c)) (mG (bG (h==h')) c)) (mI (bG (w==w')) c)))))) λhwf=>by
  delta eS aB aE gX aF aU aG cQ aN bD cU gB fR jE bM bG bP aR bK cT kX aT dE bH aM qG bI iJ jG qJ cS dH fP iB jW oM cZ fY gO mH mG mI bO jY lY eX xQ xO mJ dV kO uL nT qU sM xR pR zR aCJ;simp only[sS,zQj,zQp,zQz,zQt,zQI,zQB,zQN,zQR,zZg];obtain⟨u0,u1,u2,u3,u4⟩:=hu;obtain⟨v0,v1,v2,v3,v4⟩:=hv;have a0_:=zZ9 w0 h0 s0 n0 xs0 w0' h0' s0' n0' xs0' u0 v0;have a1_:=zZ9 w1 h1 s1 n1 xs1 w1' h1' s1' n1' xs1' u1 v1;have a2_:=zZ9 w2 h2 s2 n2 xs2 w2' h2' s2' n2' xs2' u2 v2;have a3_:=zZ9 w3 h3 s3 n3 xs3 w3' h3' s3' n3' xs3' u3 v3;have a4_:=zZ9 w4 h4 s4 n4 xs4 w4' h4' s4' n4' xs4' u4 v4;simp only[Im.same,a0_,a1_,a2_,a3_,a4_];generalize zJo ⟨w0,h0,s0,n0,xs0⟩ ⟨w0',h0',s0',n0',xs0'⟩=b0;generalize zJo ⟨w1,h1,s1,n1,xs1⟩ ⟨w1',h1',s1',n1',xs1'⟩=b1;generalize zJo ⟨w2,h2,s2,n2,xs2⟩ ⟨w2',h2',s2',n2',xs2'⟩=b2;generalize zJo ⟨w3,h3,s3,n3,xs3⟩ ⟨w3',h3',s3',n3',xs3'⟩=b3;generalize zJo ⟨w4,h4,s4,n4,xs4⟩ ⟨w4',h4',s4',n4',xs4'⟩=b4;clear a0_ a1_ a2_ a3_ a4_ u0 u1 u2 u3 u4 v0 v1 v2 v3 v4 hwf;cases b0<;>cases b1<;>cases b2<;>cases b3<;>cases b4<;>simp[Px.mk.injEq,w1_]<;>grind
def fW(a b:Nat)(c:wc):wc:=Cl.ref a b::c
def mB(a:wc):wc:=Cl.nil::a
def zB(a b c:Nat)(d:List DV)(e f:Nat)(g:List DV)(h:vD):vD:=aKN a b c d e f 1 g h
def bN(a:List DV)(b:Px->Int)(c:Nat):List DV:=zXA (zQo a) b c
def aKI(a b:Int)(c:wc):wc:=qI a (Cl.d (aB b)::Cl.d (aB a)::c)
def aBW(a:DV)(b:Int)(c:wc):wc:=vK a (Cl.d a::Cl.d (aB b)::c)
def aNU(a b:Int)(c:Bool)(d:DV)(e:wc):wc:=xL a b c d (aBW d a e)
def aGD(a b:Int)(c:Bool)(e:DV)(f:wc):wc:=aNU a b c e (Cl.d (aB b)::Cl.d (aB a)::f)
def aDL(a:Nat)(b:Int)(c:Nat)(d:Int)(e f:Nat)(g:List DV)(h:vz):vz:=jF a b (aGV c d e f g h)
def aNX(a:vz)(b:Nat)(c:wc)(d:vD):Snap:=aII a b 0 c d
def aNY(a:vz)(b:Nat)(c:DV)(e:wc)(f:vD):Snap:=aNX a b (Cl.d c::e) f
def aNZ(a:vz)(b:Nat)(c e:DV)(f:Int)(g:wc)(h:vD):Snap:=aNY a b c (Cl.d e::Cl.d (aF f)::g) h
def aOA(a:vz)(b:Nat)(c d:DV)(e:wc)(f:vD):Snap:=aNZ a b c d 0 e f
def aOB(a:vz)(b:Nat)(c d e:DV)(f:Int)(g:wc)(h:vD):Snap:=aOA a b c d (aBW e f g) h
def aOC(a:vz)(b:Nat)(c d:DV)(e f:Int)(g:wc)(h:vD):Snap:=aOB a b c d (aF e) f g h
def aOD(a:vz)(b:Nat)(c d:DV)(e:Int)(f:wc)(g:vD):Snap:=aOC a b c d 0 e f g
def aOE(a:vz)(b:Nat)(c d:DV)(e:wc)(f:vD):Snap:=aOD a b c d 0 e f
def aOG(a:vz)(b:Nat)(c d e:DV)(f:wc)(g:vD):Snap:=aOE a b c d (aDU e f) g
def aOH(a:vz)(b:Nat)(c d e:DV)(f:wc)(g:vD):Snap:=aOG a b c d e (mB f) g
def aOI(a:vz)(b:Nat)(c d e f:DV)(g:wc)(h:vD):Snap:=aOH a b c d e (vK f g) h
def aOJ(a:vz)(b:Nat)(c d e f:DV)(g:wc)(h:vD):Snap:=aOI a b c d e f (mB g) h
def aOK(a:vz)(b:Nat)(c d e f g:DV)(h:wc)(i:vD):Snap:=aOJ a b c d e f (vK g h) i
def aOL(a:vz)(b:Nat)(c d e f g:DV)(h:wc)(i:vD):Snap:=aOK a b c d e f g (mB h) i
def aOM(a:vz)(b:Nat)(c d e f g h:DV)(i:wc)(j:vD):Snap:=aOL a b c d e f g (vK h i) j
def aON(a:vz)(b:Nat)(c d e f g h:DV)(i:wc)(j:vD):Snap:=aOM a b c d e f g h (mB i) j
def aOO(a:vz)(b:Nat)(c d e f g h i:DV)(j:wc)(k:vD):Snap:=aON a b c d e f g h (vK i j) k
def aOR(a:vz)(b:Nat)(c d e f g h i:DV)(j:wc)(k:vD):Snap:=aOO a b c d e f g h i (mB j) k
def aKK(a:Nat)(b c:Int)(d:Bool)(e:DV)(f:wc)(g h i:Nat)(j:List DV)(k:vD):vD:=tZ a (aGD b c d e f) g h i j k
def aOS(a:vz)(b:Nat)(c d e f g h:DV)(i:wc)(j:vD):Snap:=aOR a b (aB 0) c d e f g h i j
def aOT(a:vz)(b:Nat)(c d e f g:DV)(h:wc)(i:vD):Snap:=aOS a b kG c d e f g h i
def aOU(a:vz)(b:Nat)(c d e f:DV)(g:wc)(h:vD):Snap:=aOT a b (aB 0) c d e f g h
def aOV(a:vz)(b:Nat)(c d e:DV)(f:wc)(g:vD):Snap:=aOU a b (aB 0) c d e f g
def aOW(a:vz)(b:Nat)(c d:DV)(e:wc)(f:vD):Snap:=aOV a b (aB 0) c d e f
def aOX(a:vz)(b:Nat)(c:DV)(d:wc)(e:vD):Snap:=aOW a b (aB 0) c d e
def aKT(a:vz)(b:Nat)(c:wc)(d:vD):Snap:=aOX a b (aB 0) c d
def aLZ(a:Nat)(b:Int)(c:Nat)(d:Int)(e f:Nat)(g:List DV)(h i j k:Nat)(l:Int):vz:=aDL a b c d e f g (aKG h i j k l)
def xK(a:wc):wc:=mB (pK a)
def aJV(a:vz)(b:Nat)(c:vD):Snap:=aKT a b [] c
def zO(a:vz)(b:vD):Snap:=aJV a 6 b
def aLP(a:vz)(b:Nat)(c d:Int)(e:Bool)(f:DV)(g:wc)(h i j:Nat)(k:List DV)(l:vD):Snap:=zO a (aKK b c d e f g h i j k l)
def zN(a:wc):wc:=xK (xK a)
def aLR(a:vz)(b:Nat)(c d:Int)(e:DV)(f:wc)(g h i:Nat)(j:List DV)(k:vD):Snap:=aLP a b c d false e f g h i j k
def aLT(a:vz)(b:Nat)(c d:Int)(e:wc)(f g h:Nat)(i:List DV)(j:vD):Snap:=aLR a b c d nO e f g h i j
def aHS(a:vz)(b:Nat)(c d:Int)(e:wc)(f g:Nat)(h:List DV)(i:vD):Snap:=aLT a b c d e f 34 g h i
def aMF(a:Int)(b:Nat)(c:Int)(d e:Nat)(f:List DV)(g h i j:Nat)(k:Int):vz:=aLZ 0 a b c d e f g h i j k
def aMJ(a b:Int)(c d:Nat)(e:List DV)(f g h i:Nat)(j:Int):vz:=aMF a 1 b c d e f g h i j
def aML(a b:Int)(c:Nat)(d:List DV)(e f g h:Nat)(i:Int):vz:=aMJ a b 2 c d e f g h i
def aMM(a b:Int)(c:Nat)(d:List DV)(e f g:Nat)(h:Int):vz:=aML a b c d 6 e f g h
def aMN(a b:Int)(c:Nat)(d:List DV)(e f:Nat)(g:Int):vz:=aMM a b c d 8 e f g
def rY(a b:Int)(c:Nat)(d:List DV)(e:Nat)(f:Int):vz:=aMN a b c d 8 e f
def aJQ(a b:Nat)(c:List DV)(d:Px->Int)(e f g:Nat)(h:List DV):vD:=aKM a b (bN c d e) f b g h
def aCA(a b:Nat)(c:List DV)(d:Px->Int)(e f g:Nat)(h:Px->Int):vD:=aJQ a b c d e f g (bN c h e)
def aMZ(a:Nat)(b:vz):vz:=aJM 8 a b
def rZ(a:vz):vz:=aMZ 8 a
def aNG(a:vz)(b:Nat)(c:wc)(d:Nat)(e:wc)(f:vD):Snap:=vM a b (wT c) d e f
def aNJ(a:vz)(b:Nat)(c:DV)(e:wc)(f:Nat)(g:wc)(h:vD):Snap:=aNG a b (Cl.d c::e) f g h
def aNK(a:vz)(b:Nat)(c e:DV)(f:Int)(g:wc)(h:Nat)(i:wc)(j:vD):Snap:=aNJ a b c (Cl.d e::Cl.d (aF f)::g) h i j
def aNL(a:vz)(b:Nat)(c d:DV)(e:wc)(f:Nat)(g:wc)(h:vD):Snap:=aNK a b c d 0 e f g h
def aNM(a:vz)(b:Nat)(c d e:DV)(f:Int)(g:wc)(h:Nat)(i:wc)(j:vD):Snap:=aNL a b c d (aBW e f g) h i j
def aNN(a:vz)(b:Nat)(c d e:DV)(f:wc)(g:Nat)(h:wc)(i:vD):Snap:=aNM a b c d e 0 f g h i
def aNO(a:vz)(b:Nat)(c d e:DV)(f:wc)(g:Nat)(h:wc)(i:vD):Snap:=aNN a b c d e (pJ f) g h i
def aNP(a:vz)(b:Nat)(c d e:DV)(f:wc)(g:Nat)(h:wc)(i:vD):Snap:=aNO a b c d e (zN f) g h i
def aNQ(a:vz)(b:Nat)(c d e:DV)(f:wc)(g:Nat)(h:wc)(i:vD):Snap:=aNP a b c d e (zN f) g h i
def aBX(a:vz)(b:Nat)(c d e:DV)(f:wc)(g:Nat)(h:wc)(i:vD):Snap:=aNQ a b c d e (mB f) g h i
def aIV(a b c:Nat)(d:vz):vz:=wN a b (c:Int) d
def aIW(a:Nat)(b:Int)(c d:Nat)(e:List DV)(f g h:Nat):vz:=aGV a b c d e (lO f d g h)
def rL(a b:Nat)(c:wc):wc:=fW a (Int.toNat (b:Int)) c
def aHR(a b:Int)(c d:Nat)(e:wc):wc:=aKI a b (rL c d e)
def aHT(a b:Int)(c d e:Nat)(f:wc):wc:=aHR a b c d (aHR a b e d f)
def aGC(a b:Ann):Ann:=Ann.seq a (vT b)
def aGB(a b c d:Nat)(e:Int)(f:Nat)(g:List DV)(h i j:Nat):vz:=aIV a b c (aIW d e f c g h i j)
def aMR(a b:Int)(c:Nat)(d:List DV)(e:Nat)(f:Int)(g:Nat)(h:wc)(i j:Nat)(k:List DV)(l:vD):Snap:=aHS (rY a b c d e f) g a b h i j k l
def aJA(a b:Int)(c:Nat)(d:List DV)(e:Nat)(f:Int)(g:Nat)(h:wc)(i j:Nat)(k:Px->Int)(l:vD):Snap:=aMR a b c d e f g h i j (bN d k c) l
def tS(a b c d:Prop):Prop:=a/\b/\c/\True/\d
def bX(a b:Int):Prop:=aB a=aB b
def fX(a b:Int)(c:Prop):Prop:=cP (aB a) (bM b) c
def gM(a:Prop):Prop:=bM 0/\bM 0/\a
def lH(a b:Prop):Prop:=eS (0:Nat)/\a/\b
def uE(a b c d:Prop):Prop:=True/\aG a b c d
def oN(a b:Int)(c:DV)(d e:Prop):Prop:=nP a (bM b) (eS c) d e
def dM(a:Int):Prop:=bX 0 a
def aGE(a b:Int)(c:Prop):Prop:=cP (aB a) (eS (Int.toNat b)) c
def qR(a:Prop):Prop:=eQ 0/\eQ 0/\a
def sL(a:List DV)(b:Px->Int)(c d e:Nat):Prop:=kZ (bN a b c) c (fG a d) (bN a b e)
def sG(a b:Int)(c:Nat)(d:List DV)(e f:Int):Prop:=oN a b (DV.sl c d) (eS (0:Nat)) (iJ (lY e f))
def jO(a:Prop):Prop:=gM (True/\jG/\a)
def sF(a b:Prop):Prop:=eQ 0/\qR (cP (aF 0) a b)
def qQ(a:Int):Prop:=nO=aF a
def sA(a:Pl):Prop:=([]:List DV)=a.xs
def uK(a b:Int)(c:Prop):Prop:=oN a b kG (eS nO) c
def sJ(a:Nat)(b:List DV)(c:Px->Int):Prop:=fL (cR a 1) (bN b c a)
def xN(a b:Int)(c:Nat)(d:Prop):Prop:=nP a (bM b) (eS c) (bM 0) d
def aCF:Prop:=cU 1 1 3
def aCC(a:Prop)(b:DV)(c d e:Prop)(f g:Int)(h i:Prop)(j k l m:List DV):Prop:=qH a (gM (cP b (eQ 0) (sF c (jO (jO (jO (jO (bM 0/\aT d e)))))))) (uK f g (qR (qR h))) i (eS j) k l (eS m)
def uW(a:Nat):Nat:=Int.toNat (a:Int)
def sZ(a:Nat)(b:DV)(c:List DV):Prop:=tW (a:Int) b c
def rC(a:Nat)(b c:Prop):Prop:=eS (Int.toNat (a:Int))/\b/\c
def yE(a b:Nat):Prop:=rV (a:Int) (b:Int)
def vO(a b:Nat)(c:Prop):Prop:=bD (oG (a:Int) b) c
def vN(a b:Int)(c:Nat)(d:List DV)(e:Int)(f g:Prop):Prop:=oN a b (DV.sl c d) (eS (0:Nat)) (cT (aGE e (c:Int) (kQ f c d g)))
theorem jKl(w h:Int)(n:Nat)(xs:List DV)(hx:jK5 n xs):AnsG prog 38 0 [aJ ((w)),aJ ((h)),aO (cD (dS n xs))] [] ⟨AV.tup [AV.agg [cJ (((imOf w h (zQo xs)).w)),cJ (((imOf w h (zQo xs)).h)),cD (dQ ((imOf w h (zQo xs)).so)),cK (((imOf w h (zQo xs)).c.a)),cK (((imOf w h (zQo xs)).c.b)),cK (((imOf w h (zQo xs)).c.c)),cK (((imOf w h (zQo xs)).c.al)),cK (((imOf w h (zQo xs)).c.f)),cJ (((imOf w h (zQo xs)).p0.w)),cJ (((imOf w h (zQo xs)).p0.h)),cJ (((imOf w h (zQo xs)).p0.s)),Cl.ref 0 ((imOf w h (zQo xs)).p0.n),cJ (((imOf w h (zQo xs)).p1.w)),cJ (((imOf w h (zQo xs)).p1.h)),cJ (((imOf w h (zQo xs)).p1.s)),Cl.ref 1 ((imOf w h (zQo xs)).p1.n),cJ (((imOf w h (zQo xs)).p2.w)),cJ (((imOf w h (zQo xs)).p2.h)),cJ (((imOf w h (zQo xs)).p2.s)),Cl.ref 2 ((imOf w h (zQo xs)).p2.n),cJ (((imOf w h (zQo xs)).p3.w)),cJ (((imOf w h (zQo xs)).p3.h)),cJ (((imOf w h (zQo xs)).p3.s)),Cl.ref 3 ((imOf w h (zQo xs)).p3.n),cJ (((imOf w h (zQo xs)).p4.w)),cJ (((imOf w h (zQo xs)).p4.h)),cJ (((imOf w h (zQo xs)).p4.s)),Cl.ref 4 ((imOf w h (zQo xs)).p4.n)],aO (cD (dQ (ofOk w h n)))],[bR 34 1 ((imOf w h (zQo xs)).p0.xs),bR 34 1 ((imOf w h (zQo xs)).p1.xs),bR 34 1 ((imOf w h (zQo xs)).p2.xs),bR 34 1 ((imOf w h (zQo xs)).p3.xs),bR 34 1 ((imOf w h (zQo xs)).p4.xs)],true⟩:=
 vw gamI (let b:=bN xs Px.a n;let j:=zB 7000 34 1 b 7001 34 (bN xs Px.b n) (aCA 7002 34 xs Px.c n 7003 1 Px.al);let k:=rL 7000 n (aHR w h 7001 n (aHT w h 7002 n 7003 (pK (mB []))));let a:=aB 0;let l:=aCA 7001 34 xs Px.b n 7002 1 Px.c;let m:=rL 7000 n (aHT w h 7001 n 7002 (pK (xK (mB []))));let o:=aCA 7000 34 xs Px.a n 7001 1 Px.b;let c:=zN (mB []);let p:=rL 7000 n (aHR w h 7001 n (pK c));let q:=rL 7000 n (pK (xK c));let r:=xL w h false nO (aBW nO 0 (pJ (zN c)));qW (uf True (aBX (rY w h n xs 29 0) 6 a kG nO [] 8 r []) (fK (aGC aBY (gI (ui (λt=>let v:=t<=n;v) (λi=>zO (aDL 0 w 1 h 2 n xs (rZ (jF 9 0 (aGB 10 7000 n 29 0 35 xs 36 37 i)))) (tZ 8 r 7000 34 1 (bN xs Px.a i) [])) (λs=>let u:=n-s;u) (λB=>aL))))) (uf True (aJA w h n xs 29 1 8 q 7000 1 Px.a []) (fK (aGC aBY (gI (ui (λt=>let v:=t<=n;v) (λg=>aBX (aDL 0 w 1 h 2 n xs (rZ (jF 9 1 (aGB 10 7001 n 29 1 35 xs 36 37 g)))) 6 a kG nO [] 8 (aGD w h false nO q) (aJQ 7001 34 xs Px.b g 7000 1 b)) (λs=>let u:=n-s;u) (λB=>aL))))) (uf True (aBX (rY w h n xs 29 2) 6 a kG nO [] 8 (aGD w h false nO p) o) (fK (aGC aBY (gI (ui (λt=>let v:=t<=n;v) (λf=>aHS (aDL 0 w 1 h 2 n xs (rZ (jF 9 2 (aGB 10 7002 n 29 2 35 xs 36 37 f)))) 8 w h p 7002 1 (bN xs Px.c f) o) (λs=>let u:=n-s;u) (λB=>aL))))) (uf True (aJA w h n xs 29 3 8 m 7000 1 Px.a l) (fK (aGC aBY (gI (ui (λt=>let v:=t<=n;v) (λe=>aBX (aDL 0 w 1 h 2 n xs (rZ (jF 9 3 (aGB 10 7003 n 29 3 35 xs 36 37 e)))) 6 a kG nO [] 8 (aGD w h false nO m) (zB 7003 34 1 (bN xs Px.al e) 7000 34 b l)) (λs=>let u:=n-s;u) (λB=>aL))))) (uf True (aBX (rY w h n xs 29 4) 6 a kG nO [] 8 (aGD w h false nO k) j) (fK (aGC aBY (gI (ui (λt=>let v:=t<=n;v) (λd=>aHS (aDL 0 w 1 h 2 n xs (rZ (jF 9 4 (aGB 10 7004 n 29 4 35 xs 36 37 d)))) 8 w h k 7004 1 (bN xs Px.f d) j) (λs=>let u:=n-s;u) (λB=>aL))))) (uf True (aJA w h n xs 29 5 8 (rL 7000 n (aHT w h 7001 n 7002 (aHT w h 7003 n 7004 []))) 7000 1 Px.a (zB 7001 34 1 (bN xs Px.b n) 7002 34 (bN xs Px.c n) (aCA 7003 34 xs Px.al n 7004 1 Px.f))) vJ aL))))))) Tryz.func38 (let g:=imOf w h (zQo xs);let T:=imB 34 g;let I:=ofOk w h n;let U:=imV 0 g::kE I;let V:=zYe (rP U T true);let m:=g.p4;let o:=g.p3;let p:=g.p2;let q:=g.p1;let r:=g.p0;let W:=m.n;let X:=m.s;let Y:=m.h;let Z:=m.w;let z0:=o.n;let z1:=o.s;let z2:=o.h;let z3:=o.w;let z4:=p.n;let z5:=p.s;let z6:=p.h;let z7:=p.w;let z8:=q.n;let z9:=q.s;let y0:=q.h;let y1:=q.w;let y2:=r.n;let y3:=r.s;let y4:=r.h;let y5:=r.w;let s:=g.c;let y6:=qQ s.f;let y7:=qQ s.al;let y8:=qQ s.c;let y9:=qQ s.b;let x0:=qQ s.a;let x1:=jH false g.so;let x2:=g.h;let x3:=g.w;let x4:=eW (aT (eU (dM x3) (dM x2) x1 x0 y9 y8 y7 y6 (eU (dM y5) (dM y4) (dM y3) (0=y2) (dM y1) (dM y0) (dM z9) (0=z8) (eU (dM z7) (dM z6) (dM z5) (0=z4) (dM z3) (dM z2) (dM z1) (0=z0) (aG (dM Z) (dM Y) (dM X) (0=W))))) (jH false I)/\True) (sA r) (sA q) (sA p) (sA o) (sA m);let i:=uW n;let J:=bN xs Px.al n;let t:=bN xs Px.c n;let k:=bN xs Px.b n;let l:=bN xs Px.a n;let C:=eS l;let j:=bM w;let u:=bM w;let K:=bM 0/\aT jG True;let L:=jO (jO K);let x5:=jO (jO L);let x6:=cP kG (eQ 0) (sF jG x5);let f:=gM x6;let M:=fX w h (aGE w (n:Int) (fX w h (aGE w (n:Int) (u/\fX h w (rC n j (xN h w i K))))));let v:=kS 3;let O:=u/\cP (aB h) (eS kG) (qR (qR (cP (aF 0) j (fX h w (rC n j (fX h w (rC n j (xN h w i (jO K)))))))));let P:=cU 2 2 3;let Q:=uK w h (sF u (fX h w (rC n j (xN h w i L))));let R:=uK w h (sF u (xN h w i (jO L)));let S:=uK w h (sF jG x5);fT (zM 83 w h) (bK (bO (zZi w h)) (True/\True/\True/\fJ (jN (n:Int) (aU (w*h))) x4 (zYe (rP U T true))/\dL (dN (n:Int) (aU (w*h))) (xQ (∃w8:Unit,aG True (oN w h (DV.sl n xs) (eS (0:Nat)) (iJ jG)) f S) (∀w7:Unit,True->aX (eX 0) (vO n 2 (True/\True/\True/\(∃H:Nat,bZ H n (aG (vN w h n xs 0 jG (dC H)) f S (sZ n nO (bN xs Px.a H))))/\(∀e:Nat,bL (e<=n) (dT e n->dY (dF e n 5 xs) (fR (cE xs (aZ e 5)) (cE xs (cR e 5)) (cE xs (gN e 5)) (cE xs (hZ e 5)) (cE xs (gS e 5))) (gC v (aCF/\True/\True/\P/\bW (aDM 0 0 5 (eS (some (fG xs (aZ e 5))))) (eY (yE e n) (sJ e xs Px.a) (∃B:Nat,eW (B<=n) (dZ n B e) (vN w h n xs 0 jG (bQ e B)) f S (sL xs Px.a e (aZ e 5) B)))))) (qP (eV e n) (nD 0 (∃w6:Unit,uE (sG w h n xs 0 1) f R (bN xs Px.a e=bN xs Px.a n)))))))) (∀w5:Unit,True->aX (eX 1) (vO n 2 (True/\True/\True/\(∃G:Nat,eW (G<=n) (vN w h n xs 1 (bM 1) (dC G)) f R (sZ n nO (bN xs Px.b G)) C)/\(∀d:Nat,bL (d<=n) (dT d n->dY (dF d n 5 xs) (fR (cE xs (aZ d 5)) (cE xs (cR d 5)) (cE xs (gN d 5)) (cE xs (hZ d 5)) (cE xs (gS d 5))) (gC v (aCF/\True/\True/\P/\bW (aDM 1 1 5 (eS (some (fG xs (cR d 5))))) (eY (yE d n) (sJ d xs Px.b) (∃A:Nat,bZ A n (eW (dZ n A d) (vN w h n xs 1 (bM 1) (bQ d A)) f R (sL xs Px.b d (cR d 5) A) C)))))) (qP (eV d n) (nD 1 (∃w4:Unit,True/\sG w h n xs 1 2/\gZ (gM x6) Q l (bN xs Px.b d) k))))))) (∀w3:Unit,True->aX (eX 2) (vO n 2 (True/\True/\True/\(∃F:Nat,bZ F n (vN w h n xs 2 (bM 2) (dC F)/\f/\iB Q (sZ n nO (bN xs Px.c F)) l k))/\(∀c:Nat,bL (c<=n) (yL (dT c n) (dF c n 5 xs) (fR (cE xs (aZ c 5)) (cE xs (cR c 5)) (cE xs (gN c 5)) (cE xs (hZ c 5)) (cE xs (gS c 5))) (fT v aCF (bD (cU 2 2 3) (bI (True/\True/\True/\aDM 2 2 5 (eS (some (fG xs (gN c 5))))/\eY (yE c n) (sJ c xs Px.c) (∃z:Nat,z<=n/\dZ n z c/\eC (vN w h n xs 2 (bM 2) (bQ c z)) f (iB Q (sL xs Px.c c (gN c 5) z) l k))))))) (qP (eV c n) (nD 2 (∃w2:Unit,True/\sG w h n xs 2 3/\f/\lN O l k (bN xs Px.c c=bN xs Px.c n)))))))) (∀w1:Unit,qS (kH (eX 3) (True/\True/\True/\oG (n:Int) 2/\fV (∃E:Nat,qH (E<=n) (vN w h n xs 3 (bM 3) (dC E)) f O (sZ n nO (bN xs Px.al E)) l k (eS t)) (∀b:Nat,bL (b<=n) (dT b n->dY (dF b n 5 xs) (fR (cE xs (aZ b 5)) (cE xs (cR b 5)) (cE xs (gN b 5)) (cE xs (hZ b 5)) (cE xs (gS b 5))) (gC v (aCF/\True/\True/\P/\bW (aDM 3 3 5 (eS (some (fG xs (hZ b 5))))) (eY (yE b n) (sJ b xs Px.al) (∃y:Nat,bZ y n (qH (dZ n y b) (vN w h n xs 3 (bM 3) (bQ b y)) f O (sL xs Px.al b (hZ b 5) y) l k (eS t))))))) (bK (eV b n) (bI (nD 3 (∃w0:Unit,True/\sG w h n xs 3 4/\f/\uK w h (qR (qR M))/\lN C k t (bN xs Px.al b=bN xs Px.al n))))))))) (∀x9:Unit,True->aX (eX 4) (vO n 2 (True/\True/\True/\(∃D:Nat,bZ D n (aCC (oN w h (DV.sl n xs) (eS (0:Nat)) (lH (bM 4) (eS i/\kQ (bM 4) n xs (dC D)))) kG jG jG True w h M (sZ n nO (bN xs Px.f D)) l k t J))/\(∀a:Nat,bL (a<=n) (dT a n->True/\dF a n 5 xs/\fR (cE xs (aZ a 5)) (cE xs (cR a 5)) (cE xs (gN a 5)) (cE xs (hZ a 5)) (cE xs (gS a 5))/\True/\gC v (aCF/\bD (cU 2 2 3) (qU (tS (aDM 4 4 5 (eS (some (fG xs (gS a 5))))) (yE a n) (sJ a xs Px.f) (True/\(∃x:Nat,x<=n/\dZ n x a/\aCC (vN w h n xs 4 (bM 4) (bQ a x)) kG jG jG True w h M (sL xs Px.f a (gS a 5) x) l k t J)))))) (fP (eV a n) (aX (cU 4 4 5) (True/\(∃x8:Unit,True/\sG w h n xs 4 5/\f/\(u/\cP (aB h) (eS kG) (qR (qR (cP (aF 0) j (fX h w (rC n j (fX h w (rC n j (fX h w (rC n j (fX h w (rC n j (dE (bM h) j (eS i))))))))))))))/\C/\lN (eS k) t J (bN xs Px.f a=bN xs Px.f n))))))))) (∀x7:Unit,bL True xO (True/\True/\True/\eW (aT (eU (bX w x3) (bX h x2) x1 x0 y9 y8 y7 y6 (eU (bX w y5) (bX h y4) (bX w y3) (i=y2) (bX w y1) (bX h y0) (bX w z9) (i=z8) (eU (bX w z7) (bX h z6) (bX w z5) (i=z4) (bX w z3) (bX h z2) (bX w z1) (i=z0) (aG (bX w Z) (bX h Y) (bX w X) (i=W))))) (jH true I)/\True) (bN xs Px.a n=r.xs) (bN xs Px.b n=q.xs) (bN xs Px.c n=p.xs) (bN xs Px.al n=o.xs) (bN xs Px.f n=m.xs)/\V))))) (iL (dU (zZi w h)) x4 V)) λhwf hbx=>by
  delta eS aB aV aW aE iE gX dY eC aF aU aG bE fG aN bD aX cL cU dL fR gC fJ kS rP kE tS jE kG nO cP bM nP aR bK bW cT lN eY eQ fC aT gD fL aZ dE gU bQ bL cR tW rV dC kZ oG eU kH dF fT dT fV eV gZ aM bT bU jH bX qG bI fX bZ dZ iJ gN gS gM hZ qH jG lH uE cE jK fP iL eW iB bO dU zM qP bN dN lY oN eX dM aGE jN qR sL nD sG jO qS sF qQ sA uK xQ xO sJ xN aCF aCC qU uW sZ rC yE kQ aDM yL vO vN;simp only[sS,zQj,zQp,zQz,zQt,zQI,zQB,zQN,zQR,zZg];obtain⟨l,rfl,rfl⟩:=hx.of;simp only[zZN,imV,imB,zYe,AV.flatV,AV.flatVL,Cl.flatV,jXz,Bx.flatVL,Bx.flatV,jXu,true_and,and_true];simp only[DV.flat,true_and,and_true];have no:∀{P:Prop},(imOf w h l=Im.zero->ofOk w h l.length=false->P)->(ofOk w h l.length=false)->P:=λf h=>f (jQU h) h;have le:=@zXM w h;refine⟨λq1=>⟨λq2=>?_,λq2=>?_⟩,λq1=>?_⟩
  .obtain⟨f1,f2,f3,f4,f5⟩:=le q1;have wm:wrap .i64 (w*h)=w*h:=wQb _ ⟨by have:=Int.mul_nonneg (a:=w) (b:=h) (by omega) (by omega);omega,by omega⟩;refine no (λe1 e2=>?_) (by rw[wm]at q2;simp[ofOk,q1];simpa using q2);rw[e1,e2];simp[Im.zero,Px.zero,Pl.none]
  .obtain⟨f1,f2,f3,f4,f5⟩:=le q1;have wm:wrap .i64 (w*h)=w*h:=wQb _ ⟨by have:=Int.mul_nonneg (a:=w) (b:=h) (by omega) (by omega);omega,by omega⟩;have hl:(l.length:Int)=w*h:=by rw[wm]at q2;simpa using q2
   have hk:ofOk w h l.length=true:=by simp[ofOk,q1,hl]
   have hb:l.length<=16777216:=by omega
   rw[hk,zW7 hk];simp only[ofIm,Px.zero,maxLen]
   (repeat' (first|apply And.intro|intro))<;>(first|assumption|rfl|omega|(exact⟨0,by omega,rfl,(zYg _ _).symm⟩)|exact jWx (by omega)|exact zKb (j:=1) (by omega) (by omega)|exact zKb (j:=2) (by omega) (by omega)|exact zKb (j:=3) (by omega) (by omega)|exact zKb (j:=4) (by omega) (by omega)|(rw[zQE];omega)|(rw[zWw (by assumption)];omega)|exact zWL (by assumption) (by assumption) (λh=>(zQX h).1)|exact zWL (by assumption) (by assumption) (λh=>(zQX h).2.1)|exact zWL (by assumption) (by assumption) (λh=>(zQX h).2.2.1)|exact zWL (by assumption) (by assumption) (λh=>(zQX h).2.2.2.1)|exact zWL (by assumption) (by assumption) (λh=>(zQX h).2.2.2.2)|exact⟨(),by decide,yQH (by assumption) (by assumption)⟩|exact⟨(),trivial⟩|exact⟨(),by decide⟩|exact zWx _ _|(rw[yQH (by assumption) (by assumption)];exact zWx _ _)|exact jG7 (by assumption) (by assumption) (λh=>(zQX h).1) (λh=>(zQX h).2.1) (λh=>(zQX h).2.2.1) (λh=>(zQX h).2.2.2.1) (λh=>(zQX h).2.2.2.2)|(rw[zWw (by omega)];omega)|decide)
  .refine no (λe1 e2=>?_) (by simp[ofOk,q1]);rw[e1,e2];simp[Im.zero,Px.zero,Pl.none]
def aEV(a:Int):Nat:=Int.toNat (aU a)
def aJO(a b c:Nat)(d:List DV)(e:vD):vD:=aDG a (Bx.row b c d) e
def aOF(a b c d:Nat)(e:DV)(f:vD):vD:=aJO a b c (List.replicate d e) f
def aBZ(a b c:Nat)(d:Int)(e:DV)(f:vD):vD:=aOF a b c (Int.toNat d) e f
def aKJ(a:Nat)(b:Int)(c:wc):wc:=fW a (Int.toNat (aU b)) c
def aMO(a:Nat)(b c:Int)(d:Bool)(e:DV)(f:wc)(g h i j:Nat)(k:vD):vD:=aKK a b c d e f g h i (List.replicate j e) k
def aIP(a b c:Nat)(d:Int)(e:DV)(f:Nat)(g:vD):vD:=aBZ a b c d e (aBZ f b c d e g)
def aKY(a b:Int)(c:Nat)(d:Int)(e:wc):wc:=aKI a b (aKJ c d e)
def aHI(a b:Int)(c:Nat)(d:wc):wc:=aKY a b c (a*b) d
def aHJ(a b:Int)(c d:Nat)(e:wc):wc:=aHI a b c (aHI a b d e)
def aCB(a:List DV)(b:Px->Int)(c d e:Nat):List DV:=List.set (bN a b c) (aZ c d) (fG a e)
def aFJ(a:Int)(b:wc):wc:=aKJ 200039 a b
def aFK(a:Nat)(b c:Int)(d:Bool)(e:DV)(f:wc)(g h i:Nat)(j:vD):vD:=aMO a b c d e f 200039 g h i j
def aFL(a:vz)(b:Nat)(c d:Int)(e:wc)(f:Nat)(g:List DV)(h:vD):Snap:=aHS a b c d e 200039 f g h
def aNI(a b:Nat)(c:List DV)(d:Nat)(e:List DV)(f:vD):vD:=zB 300039 a b c d a e f
def aHK(a b:Nat)(c d:List DV)(e:vD):vD:=aNI a b c 400039 d e
def oJ(a b c d e f g h:Prop):Prop:=a/\b/\c/\d/\aG e f g h
def uF(a b c:Prop)(d:List DV)(e:Prop):Prop:=a/\b/\c/\eS d/\e
def oO(a:Nat)(b:List DV)(c:Prop):Prop:=cP (DV.sl a b) (eS (0:Nat)) c
def aHL(a b:Int)(c:Prop):Prop:=fX a b (aGE a (aU (a*b)) (fX a b (aGE a (aU (a*b)) c)))
def aIR(a b:Int)(c:Prop):Prop:=fX a b (eS (Int.toNat (aU (b*a)))/\bM b/\c)
def aIQ(a b:Int)(c:Prop):Prop:=uK a b (sF (bM a) (fX b a (eS (Int.toNat (aU (a*b)))/\bM a/\c)))
theorem jZw(w h:Int)(n:Nat)(xs:List DV)(hx:jK5 n xs):AnsG prog 74 0 [aJ ((w)),aJ ((h)),aO (cD (dS n xs))] [] ⟨AV.tup [AV.agg [cJ (((imOf w h (zQo xs)).w)),cJ (((imOf w h (zQo xs)).h)),cD (dQ ((imOf w h (zQo xs)).so)),cK (((imOf w h (zQo xs)).c.a)),cK (((imOf w h (zQo xs)).c.b)),cK (((imOf w h (zQo xs)).c.c)),cK (((imOf w h (zQo xs)).c.al)),cK (((imOf w h (zQo xs)).c.f)),cJ (((imOf w h (zQo xs)).p0.w)),cJ (((imOf w h (zQo xs)).p0.h)),cJ (((imOf w h (zQo xs)).p0.s)),Cl.ref 0 ((imOf w h (zQo xs)).p0.n),cJ (((imOf w h (zQo xs)).p1.w)),cJ (((imOf w h (zQo xs)).p1.h)),cJ (((imOf w h (zQo xs)).p1.s)),Cl.ref 1 ((imOf w h (zQo xs)).p1.n),cJ (((imOf w h (zQo xs)).p2.w)),cJ (((imOf w h (zQo xs)).p2.h)),cJ (((imOf w h (zQo xs)).p2.s)),Cl.ref 2 ((imOf w h (zQo xs)).p2.n),cJ (((imOf w h (zQo xs)).p3.w)),cJ (((imOf w h (zQo xs)).p3.h)),cJ (((imOf w h (zQo xs)).p3.s)),Cl.ref 3 ((imOf w h (zQo xs)).p3.n),cJ (((imOf w h (zQo xs)).p4.w)),cJ (((imOf w h (zQo xs)).p4.h)),cJ (((imOf w h (zQo xs)).p4.s)),Cl.ref 4 ((imOf w h (zQo xs)).p4.n)],aO (cD (dQ (ofOk w h n)))],[bR 34 1 ((imOf w h (zQo xs)).p0.xs),bR 34 1 ((imOf w h (zQo xs)).p1.xs),bR 34 1 ((imOf w h (zQo xs)).p2.xs),bR 34 1 ((imOf w h (zQo xs)).p3.xs),bR 34 1 ((imOf w h (zQo xs)).p4.xs)],true⟩:=
 vw gamI (let c:=w*h;let d:=aFJ c (aHJ w h 300039 400039 (aHJ w h 500039 600039 []));let q:=nA aBY;let b:=aU (w*h);let f:=aEV c;let k:=zN (mB []);qA (aQ (fK (uf True (aBX (rY w h n xs 9 0) 6 (aB 0) kG nO [] 8 (xL w h false nO (aBW nO 0 (pJ (zN k)))) []) q (uf True (zO (rY w h n xs 9 1) (aFK 8 w h false nO (aFJ c (pK (xK k))) 34 1 f [])) q (uf True (zO (rY w h n xs 9 2) (aFK 8 w h false nO (aFJ c (aHI w h 300039 (pK k))) 34 1 f (aBZ 300039 34 1 b nO []))) q (uf True (zO (rY w h n xs 9 3) (aFK 8 w h false nO (aFJ c (aHJ w h 300039 400039 (pK (xK (mB []))))) 34 1 f (aIP 300039 34 1 b nO 400039 []))) q (uf True (zO (rY w h n xs 9 4) (aFK 8 w h false nO (aFJ c (aHI w h 300039 (aHJ w h 400039 500039 (pK (mB []))))) 34 1 f (aBZ 300039 34 1 b nO (aIP 400039 34 1 b nO 500039 [])))) q (uf True (zO (rY w h n xs 9 5) (aFK 8 w h false nO d 34 1 f (aBZ 300039 34 1 b nO (aIP 400039 34 1 b nO 500039 (aBZ 600039 34 1 b nO []))))) (nA zP) aL))))))) (nA (ui (λp=>p<=n) (λe=>aFL (oF 2 n xs (rZ (rU 10 e))) 8 w h d 1 (bN xs Px.a e) (aHK 34 1 (bN xs Px.b e) (bN xs Px.c e) (aCA 500039 34 xs Px.al e 600039 1 Px.f))) (λo=>n-o) (λa=>let g:=aCA 500039 34 xs Px.al a 600039 1 Px.f;let i:=aZ a 5+0;let l:=aCB xs Px.b a 1 (i+1);let j:=aCB xs Px.a a 1 (i+0);let m:=aHK 34 1 (bN xs Px.b a) (bN xs Px.c a) g;aFF (nA (uf True (aFL (oF 2 n xs (rZ (xM 10 a 11 (aB 0) []))) 8 w h d 1 (bN xs Px.a a) m) q (uf True (aFL (oF 2 n xs (rZ (xM 10 a 11 (aB 1) []))) 8 w h d 1 j m) q (uf True (aFL (oF 2 n xs (rZ (xM 10 a 11 (aB 2) []))) 8 w h d 1 j (aHK 34 1 l (bN xs Px.c a) g)) q (uf True (aFL (oF 2 n xs (rZ (xM 10 a 11 (aB 3) []))) 8 w h d 1 j (aHK 34 1 l (aCB xs Px.c a 1 (i+2)) g)) (nA zP) aL)))))))))) Tryz.func74 (let c:=imOf w h (zQo xs);let K:=imB 34 c;let y:=ofOk w h n;let L:=imV 0 c::kE y;let i:=c.p4;let j:=c.p3;let k:=c.p2;let l:=c.p1;let m:=c.p0;let M:=i.n;let O:=i.s;let P:=i.h;let Q:=i.w;let R:=j.n;let S:=j.s;let T:=j.h;let U:=j.w;let V:=k.n;let W:=k.s;let X:=k.h;let Y:=k.w;let Z:=l.n;let z0:=l.s;let z1:=l.h;let z2:=l.w;let z3:=m.n;let z4:=m.s;let z5:=m.h;let z6:=m.w;let p:=c.c;let z7:=qQ p.f;let z8:=qQ p.al;let z9:=qQ p.c;let y0:=qQ p.b;let y1:=qQ p.a;let y2:=jH false c.so;let y3:=c.h;let y4:=c.w;let y5:=eW (aT (eU (dM y4) (dM y3) y2 y1 y0 z9 z8 z7 (eU (dM z6) (dM z5) (dM z4) (0=z3) (dM z2) (dM z1) (dM z0) (0=Z) (eU (dM Y) (dM X) (dM W) (0=V) (dM U) (dM T) (dM S) (0=R) (aG (dM Q) (dM P) (dM O) (0=M))))) (jH false y)/\True) (sA m) (sA l) (sA k) (sA j) (sA i);let y6:=zYe (rP L K true);let b:=aEV (w*h);let y7:=aT (bM w) (eS b);let E:=uK w h (qR (qR (aHL w h (aHL w h (fX w h y7)))));let F:=bM 0/\aT jG True;let G:=jO (jO F);let y8:=jO (jO G);let f:=gM (cP kG (eQ 0) (sF jG y8));let d:=aU (w*h);let v:=aHL w h (aHL w h (fX w h y7));let x0:=List.replicate b nO;let o:=eS x0;let J:=o/\o/\True;let x:=List.replicate b nO;let s:=oG d 2;fT (zM 86 w h) (bK (bO (zZi w h)) (True/\True/\True/\fJ (jN (n:Int) d) y5 y6/\dL (dN (n:Int) d) (xQ (∃v0:Unit,aG True (oN w h (DV.sl n xs) (eS (0:Nat)) (iJ jG)) f (uK w h (sF jG y8))) (∀w9:Unit,sH 0 (fT s (kS 5) (True/\True/\True/\True/\(∃w8:Unit,True/\aG (sG w h n xs 0 1) f (uK w h (sF (bM w) (xN h w b (jO G)))) (eS x0))))) (∀w7:Unit,sH 1 (fT s (cU 1 1 5) (True/\True/\True/\True/\(∃w6:Unit,True/\uF (sG w h n xs 1 2) f (aIQ w h (xN h w b G)) x (o/\True))))) (∀w5:Unit,sH 2 (fT s (cU 2 2 5) (True/\True/\True/\True/\(∃w4:Unit,True/\uF (sG w h n xs 2 3) f (aIQ w h (aIR h w (xN h w b (jO F)))) x J)))) (∀w3:Unit,sH 3 (fT s (cU 3 3 5) (True/\True/\True/\True/\(∃w2:Unit,True/\uF (sG w h n xs 3 4) f (aIQ w h (aIR h w (aIR h w (xN h w b F)))) x (o/\J))))) (∀w1:Unit,sH 4 (fT s (cU 4 4 5) (True/\True/\True/\True/\(∃w0:Unit,True/\uF (sG w h n xs 4 5) f E x (o/\o/\J))))) (∀x9:Unit,qS (True/\xO/\True/\(∃g:Nat,bZ g n (oJ (oO n xs (iJ (dC g))) f E (tW d nO (bN xs Px.a g)) (tW d nO (bN xs Px.b g)) (tW d nO (bN xs Px.c g)) (tW d nO (bN xs Px.al g)) (tW d nO (bN xs Px.f g))))/\(∀a:Nat,let z:=aZ a 5;let A:=z+0;let B:=A+2;let C:=A+1;let D:=A+0;let q:=rV (a:Int) d;let r:=dF a n 5 xs;let t:=bN xs Px.f a;let u:=bN xs Px.al a;let y9:=aCB xs Px.b a 1 C;let H:=eS (aCB xs Px.a a 1 D);let I:=bN xs Px.c a;iL (a<=n) (bL (dT a n) (∃x8:Unit,True/\aCC (oO n xs (sI (iS a) jG)) kG jG jG True w h v (eS (bN xs Px.a a)) (bN xs Px.b a) I u t) (aG (∀x7:Unit,aE True (aCD/\True/\True/\kS 5/\nB r (kS 3/\kN xs D/\eC q (sJ a xs Px.a) (mU (∃x6:Unit,True/\aCC (oO n xs (xP (iS a) 0 1)) kG jG jG True w h v H (bN xs Px.b a) I u t))))) (∀x5:Unit,aE True (aCE/\True/\True/\cU 1 1 5/\nB r (aCF/\kN xs C/\eC q (sJ a xs Px.b) (mU (∃x4:Unit,True/\aCC (oO n xs (xP (iS a) 1 2)) kG jG jG True w h v H y9 I u t))))) (∀x3:Unit,aE True (aCG/\True/\True/\cU 2 2 5/\nB r (cU 2 2 3/\kN xs B/\eC q (sJ a xs Px.c) (mU (∃x2:Unit,True/\aCC (oO n xs (xP (iS a) 2 3)) kG jG jG True w h v H y9 (aCB xs Px.c a 1 B) u t))))) (∀x1:Unit,qS (True/\aCH/\True/\cU 3 3 5/\True/\True/\True/\True/\nD 4 (bD r (kN xs (z+3)/\True/\True/\r/\True/\kN xs (z+4)/\q/\sJ a xs Px.al/\q/\sJ a xs Px.f/\mU (∃e:Nat,e<=n/\dZ n e a/\oJ (oO n xs (iJ (bQ a e))) f E (sL xs Px.a a D e) (sL xs Px.b a C e) (sL xs Px.c a B e) (sL xs Px.al a (z+3) e) (sL xs Px.f a (z+4) e)))))))) (fJ (eV a n) (eW (aT (eU (bX w y4) (bX h y3) y2 y1 y0 z9 z8 z7 (eU (bX w z6) (bX h z5) (bX w z4) (b=z3) (bX w z2) (bX h z1) (bX w z0) (b=Z) (eU (bX w Y) (bX h X) (bX w W) (b=V) (bX w U) (bX h T) (bX w S) (b=R) (aG (bX w Q) (bX h P) (bX w O) (b=M))))) (jH true y)/\True) (bN xs Px.a a=m.xs) (bN xs Px.b a=l.xs) (bN xs Px.c a=k.xs) (bN xs Px.al a=j.xs) (bN xs Px.f a=i.xs)) y6))))))) (iL (dU (zZi w h)) y5 (zYe (rP L K true)))) λhwf hbx=>by
  delta eS aB aV aW aE iE gX eC aF aU aG bE fG bD cL cU dL fJ kS rP kE aEV jE kG nO cP bM nP aR bK lN eQ fC aT gD fL aZ dE gU bQ bL cR tW rV dC kZ oG mU eU dF fT dT eV aM jH bX qG fX bZ dZ iJ gM qH jG iS nB oJ uF cE iL eW bO dU zM bN aCB dN lY oN eX dM aGE jN kN oO qR sL xP nD sG jO qS sF qQ sA sH uK xQ xO aHL sI sJ xN aIR aIQ aCD aCG aCE aCH aCF aCC;simp only[sS,zQj,zQp,zQz,zQt,zQI,zQB,zQN,zQR,zZg];obtain⟨l,rfl,rfl⟩:=hx.of;simp only[zZN,imV,imB,zYe,AV.flatV,AV.flatVL,Cl.flatV,jXz,Bx.flatVL,Bx.flatV,jXu,true_and,and_true];simp only[DV.flat,true_and,and_true];have no:∀{P:Prop},(imOf w h l=Im.zero->ofOk w h l.length=false->P)->(ofOk w h l.length=false)->P:=λf h=>f (jQU h) h;have le:=@zXM w h;refine⟨λq1=>⟨λq2=>?_,λq2=>?_⟩,λq1=>?_⟩
  .obtain⟨f1,f2,f3,f4,f5⟩:=le q1;have wm:wrap .i64 (w*h)=w*h:=wQb _ ⟨by have:=Int.mul_nonneg (a:=w) (b:=h) (by omega) (by omega);omega,by omega⟩;refine no (λe1 e2=>?_) (by rw[wm]at q2;simp[ofOk,q1];simpa using q2);rw[e1,e2];simp[Im.zero,Px.zero,Pl.none]
  .obtain⟨f1,f2,f3,f4,f5⟩:=le q1;have wm:wrap .i64 (w*h)=w*h:=wQb _ ⟨by have:=Int.mul_nonneg (a:=w) (b:=h) (by omega) (by omega);omega,by omega⟩;have hl:(l.length:Int)=w*h:=by rw[wm]at q2;simpa using q2
   have hk:ofOk w h l.length=true:=by simp[ofOk,q1,hl]
   have hb:l.length<=16777216:=by omega
   rw[hk,zW7 hk];simp only[ofIm,Px.zero,maxLen,wm];simp only[<-hl,wQp,Nat.add_zero]
   (repeat' (first|apply And.intro|intro))<;>(first|(exact⟨0,by omega,rfl,(zYg _ _).symm,(zYg _ _).symm,(zYg _ _).symm,(zYg _ _).symm,(zYg _ _).symm⟩)|(first|assumption|rfl|omega|(exact⟨0,by omega,rfl,(zYg _ _).symm⟩)|exact jWx (by omega)|exact zKb (j:=1) (by omega) (by omega)|exact zKb (j:=2) (by omega) (by omega)|exact zKb (j:=3) (by omega) (by omega)|exact zKb (j:=4) (by omega) (by omega)|(rw[zQE];omega)|(rw[zWw (by assumption)];omega)|exact zWL (by assumption) (by assumption) (λh=>(zQX h).1)|exact zWL (by assumption) (by assumption) (λh=>(zQX h).2.1)|exact zWL (by assumption) (by assumption) (λh=>(zQX h).2.2.1)|exact zWL (by assumption) (by assumption) (λh=>(zQX h).2.2.2.1)|exact zWL (by assumption) (by assumption) (λh=>(zQX h).2.2.2.2)|exact⟨(),by decide,yQH (by assumption) (by assumption)⟩|exact⟨(),trivial⟩|exact⟨(),by decide⟩|exact zWx _ _|(rw[yQH (by assumption) (by assumption)];exact zWx _ _)|exact jG7 (by assumption) (by assumption) (λh=>(zQX h).1) (λh=>(zQX h).2.1) (λh=>(zQX h).2.2.1) (λh=>(zQX h).2.2.2.1) (λh=>(zQX h).2.2.2.2)|(rw[zWw (by omega)];omega)|decide))
  .refine no (λe1 e2=>?_) (by simp[ofOk,q1]);rw[e1,e2];simp[Im.zero,Px.zero,Pl.none]
def pxR(p:Px):RV:=RV.agg [DV.int .u16 p.a,DV.int .u16 p.b,DV.int .u16 p.c,DV.int .u16 p.al,DV.int .u16 p.f]
theorem jVX(m:Im)(x y:Int)(hu:m.isU):Ans prog 215 [imR m,RV.d (DV.int .i64 x),RV.d (DV.int .i64 y)] (pxR (m.at_ x y)):=jKm ((m).w) ((m).h) ((m).so) (((m).c).a) (((m).c).b) (((m).c).c) (((m).c).al) (((m).c).f) (((m).p0).w) (((m).p0).h) (((m).p0).s) (((m).p0).n) (((m).p0).xs) (((m).p1).w) (((m).p1).h) (((m).p1).s) (((m).p1).n) (((m).p1).xs) (((m).p2).w) (((m).p2).h) (((m).p2).s) (((m).p2).n) (((m).p2).xs) (((m).p3).w) (((m).p3).h) (((m).p3).s) (((m).p3).n) (((m).p3).xs) (((m).p4).w) (((m).p4).h) (((m).p4).s) (((m).p4).n) (((m).p4).xs) x y hu
theorem zWV(m:Im)(x y:Int)(hu:m.isU):Ans prog 13 [imR m,RV.d (DV.int .i64 x),RV.d (DV.int .i64 y)] (pxR (m.at_ x y)):=jZx ((m).w) ((m).h) ((m).so) (((m).c).a) (((m).c).b) (((m).c).c) (((m).c).al) (((m).c).f) (((m).p0).w) (((m).p0).h) (((m).p0).s) (((m).p0).n) (((m).p0).xs) (((m).p1).w) (((m).p1).h) (((m).p1).s) (((m).p1).n) (((m).p1).xs) (((m).p2).w) (((m).p2).h) (((m).p2).s) (((m).p2).n) (((m).p2).xs) (((m).p3).w) (((m).p3).h) (((m).p3).s) (((m).p3).n) (((m).p3).xs) (((m).p4).w) (((m).p4).h) (((m).p4).s) (((m).p4).n) (((m).p4).xs) x y hu
theorem jZK(m:Im)(most:Int)(hu:m.isU):Ans prog 76 [imR m,RV.d (DV.int .u16 most)] (RV.d (DV.int .i64 (m.valid most))):=jQT ((m).w) ((m).h) ((m).so) (((m).c).a) (((m).c).b) (((m).c).c) (((m).c).al) (((m).c).f) (((m).p0).w) (((m).p0).h) (((m).p0).s) (((m).p0).n) (((m).p0).xs) (((m).p1).w) (((m).p1).h) (((m).p1).s) (((m).p1).n) (((m).p1).xs) (((m).p2).w) (((m).p2).h) (((m).p2).s) (((m).p2).n) (((m).p2).xs) (((m).p3).w) (((m).p3).h) (((m).p3).s) (((m).p3).n) (((m).p3).xs) (((m).p4).w) (((m).p4).h) (((m).p4).s) (((m).p4).n) (((m).p4).xs) most hu
theorem zHG(m r:Im)(hu:m.isU)(hv:r.isU):Ans prog 29 [imR m,imR r] (RV.d (DV.bool (m.same r))):=zG0 ((m).w) ((m).h) ((m).so) (((m).c).a) (((m).c).b) (((m).c).c) (((m).c).al) (((m).c).f) (((m).p0).w) (((m).p0).h) (((m).p0).s) (((m).p0).n) (((m).p0).xs) (((m).p1).w) (((m).p1).h) (((m).p1).s) (((m).p1).n) (((m).p1).xs) (((m).p2).w) (((m).p2).h) (((m).p2).s) (((m).p2).n) (((m).p2).xs) (((m).p3).w) (((m).p3).h) (((m).p3).s) (((m).p3).n) (((m).p3).xs) (((m).p4).w) (((m).p4).h) (((m).p4).s) (((m).p4).n) (((m).p4).xs) ((r).w) ((r).h) ((r).so) (((r).c).a) (((r).c).b) (((r).c).c) (((r).c).al) (((r).c).f) (((r).p0).w) (((r).p0).h) (((r).p0).s) (((r).p0).n) (((r).p0).xs) (((r).p1).w) (((r).p1).h) (((r).p1).s) (((r).p1).n) (((r).p1).xs) (((r).p2).w) (((r).p2).h) (((r).p2).s) (((r).p2).n) (((r).p2).xs) (((r).p3).w) (((r).p3).h) (((r).p3).s) (((r).p3).n) (((r).p3).xs) (((r).p4).w) (((r).p4).h) (((r).p4).s) (((r).p4).n) (((r).p4).xs)  hu hv
theorem jVW(w h:Int)(n:Nat)(xs:List DV)(hx:jK5 n xs):AnsG prog 38 0 [AV.one (Cl.d (DV.int .i64 w)),AV.one (Cl.d (DV.int .i64 h)),AV.one (Cl.d (DV.sl n xs))] [] ⟨AV.tup [imV 0 (imOf w h (zQo xs)),AV.one (Cl.d (DV.bool (ofOk w h n)))],imB 34 (imOf w h (zQo xs)),true⟩:=jKl w h n xs hx
theorem zWU(w h:Int)(n:Nat)(xs:List DV)(hx:jK5 n xs):AnsG prog 74 0 [AV.one (Cl.d (DV.int .i64 w)),AV.one (Cl.d (DV.int .i64 h)),AV.one (Cl.d (DV.sl n xs))] [] ⟨AV.tup [imV 0 (imOf w h (zQo xs)),AV.one (Cl.d (DV.bool (ofOk w h n)))],imB 34 (imOf w h (zQo xs)),true⟩:=jZw w h n xs hx
theorem zJl(w h:Int)(c:Px):Ans prog 33 [RV.d (DV.int .i64 w),RV.d (DV.int .i64 h),pxR c] (imR (zQW w h c)):=jJr w h c.a c.b c.c c.al c.f
def yX8:Gam:=yXf.add []
def nN(a:Prop):Prop:=aX (eS true) a
def rN(a:Int)(b:Nat)(c:List DV)(d e:Int)(f:Nat):Int:=nAt (pxs (zQy a b c d (Int.toNat (aU e)))) f
def rO(a:Int)(b:Nat)(c:List DV)(d e:Int)(f:Nat):Prop:=aBD a b c d (Int.toNat (aU e)) f f
theorem jK8(pw ph so mood:Int)(L:Nat)(xs:List DV)(x0 y0 x1 y1 most:Int)(hx:Is5 L xs)(hc:1<=x1-x0/\x1-x0<=100/\1<=y1-y0/\y1-y0<=100):Ans prog 32 [rA [dJ pw,dJ ph,dJ so,dJ mood,dS L xs],rA [dJ x0,dJ y0,dJ x1,dJ y1],rD (dK most)] (rA (iD (zJj pw ph so mood L xs x0 y0 x1 y1 most))):=
 vv yX8 aL Tryz.func32 (let g:=imR (zJj pw ph so mood L xs x0 y0 x1 y1 most);let c:=aU (1+modS ph 4);let d:=aU (1+modS pw 5);let a:=d*c;let h:=aEV a;let j:=pxs (zQy mood L xs most h);let k:=imOf d c (zQo j);let n:=aU (d*c);let o:=rN mood L xs most a 4;let p:=rN mood L xs most a 3;let q:=rN mood L xs most a 2;let r:=rN mood L xs most a 1;let s:=rN mood L xs most a 0;let t:=imR (zQW d c ⟨s,r,q,p,o⟩);let u:=rA (aB mood::nZ L xs);let e:=cN y1 y0;let f:=cN x1 x0;let b:=f*e;let i:=aEV b;let l:=pxs (zQy mood L xs most i);let m:=imOf f e (zQo l);let v:=aU (f*e);let w:=rN mood L xs most b 4;let x:=rN mood L xs most b 3;let y:=rN mood L xs most b 2;let z:=rN mood L xs most b 1;let A:=rN mood L xs most b 0;let B:=imR (zQW f e ⟨A,z,y,x,w⟩);gC (jD pw 5 5) (aX (jD ph 4 4) (nN (gH 5/\jD (gW pw 5) 3 3/\eC True (aE (pA (gW pw 5) 3) (aK (wJ (gC (AnsO prog 73 (u::aV v::oB most) 37 5 i l) (wI so 2 (aN (pA so 2) (tS (kS i) (fR (rO mood L xs most b 0) (rO mood L xs most b 1) (rO mood L xs most b 2) (rO mood L xs most b 3) (rO mood L xs most b 4)) (cL 33 f (aV e::gB (cO A z y x w)) B) (B=g))) (fJ (fS (modS so 2)) (AnsG prog 74 0 [pB (x1-x0),pB (y1-y0),bE (aEW v l)] [] (rP (imV 0 m::kE (ofOk f e i)) (imB 34 m) true)) (aK (imR m=g)))))))) (dL (fS (pZ pw 5 3)) (aX (AnsO prog 73 (u::aV n::oB most) 37 5 h j) (wI so 2 (aN (pA so 2) (tS (kS h) (fR (rO mood L xs most a 0) (rO mood L xs most a 1) (rO mood L xs most a 2) (rO mood L xs most a 3) (rO mood L xs most a 4)) (cL 33 d (aV c::gB (cO s r q p o)) t) (t=g))) (fJ (fS (modS so 2)) (AnsG prog 74 0 [pB (1+modS pw 5),pB (1+modS ph 4),bE (aEW n j)] [] (rP (imV 0 k::kE (ofOk d c h)) (imB 34 k) true)) (aK (imR k=g)))))))))) λhwf=>by
  delta eS aB aV aE eC aF aU aG bE cQ fG aK aN bD aX cL cU cO cN dL jD gW gB fR fS gC mE fJ gH kS aBD rP pB nZ pA aEW nN pZ kE aEV rN rO oB wI tS wJ;simp only[sS,zQj];have go:∀W H:Int,(1<=W/\W<=100)->(1<=H/\H<=100)->0<(wrap .i64 (W*H)).toNat/\wrap .i64 (W*H)<=16777216:=λW H a b=>by have:=jJs a b;omega
  have b5:=@zZF pw 5 (by omega) (by omega);have b4:=@zZF ph 4 (by omega) (by omega);refine⟨by omega,λq1=>?_,λq1=>?_⟩
  .have hW:zJy pw 5 x0 x1 pw=wrap .i64 (x1-x0):=by unfold zJy;rw[if_pos (by simpa using q1)]
   have hH:zJy ph 4 y0 y1 pw=wrap .i64 (y1-y0):=by unfold zJy;rw[if_pos (by simpa using q1)]
   have gi:=zUV pw ph so mood L xs x0 y0 x1 y1 most _ _ hW hH;have cW:1<=wrap .i64 (x1-x0)/\wrap .i64 (x1-x0)<=100:=by rw[wQb _ (by omega)];omega
   have cH:1<=wrap .i64 (y1-y0)/\wrap .i64 (y1-y0)<=100:=by rw[wQb _ (by omega)];omega
   generalize wrap .i64 (x1-x0)=W at *;generalize wrap .i64 (y1-y0)=H at *;obtain⟨g1,g2⟩:=go W H cW cH;have pn:=zHp mood L xs (wrap .i64 (W*H)) most hx g2;refine⟨pn,λq2=>?_,λq2=>?_⟩
   .have hs:modS so 2=0:=by simpa using q2
    rw[if_pos hs]at gi;obtain⟨v0,v1,v2,v3,v4⟩:=zHf (mood:=mood) (L:=L) (xs:=xs) (most:=most) g1;have f0:=zVo (mood:=mood) (L:=L) (xs:=xs) (most:=most) g1 0 (by omega);have f1:=zVo (mood:=mood) (L:=L) (xs:=xs) (most:=most) g1 1 (by omega);have f2:=zVo (mood:=mood) (L:=L) (xs:=xs) (most:=most) g1 2 (by omega);have f3:=zVo (mood:=mood) (L:=L) (xs:=xs) (most:=most) g1 3 (by omega);have f4:=zVo (mood:=mood) (L:=L) (xs:=xs) (most:=most) g1 4 (by omega);have g3:0<wrap .i64 (W*H):=by omega
    rw[gi];simp only[v0,v1,v2,v3,v4]at f0 f1 f2 f3 f4 |-;exact⟨by omega,⟨f0,f1,f2,f3,f4⟩,zJl W H ⟨_,_,_,_,_⟩,trivial⟩
   .have hs:¬modS so 2=0:=by simpa using q2
    rw[if_neg hs]at gi;rw[gi];have po:=zWU W H _ (pxs (zQy mood L xs most (wrap .i64 (W*H)).toNat)) (jXw _ _ _ _ rfl);simp only[zZN]at po |-;exact⟨po,trivial⟩
  .have hW:zJy pw 5 x0 x1 pw=wrap .i64 (1+modS pw 5):=by unfold zJy;rw[if_neg (by simpa using q1)]
   have hH:zJy ph 4 y0 y1 pw=wrap .i64 (1+modS ph 4):=by unfold zJy;rw[if_neg (by simpa using q1)]
   have gi:=zUV pw ph so mood L xs x0 y0 x1 y1 most _ _ hW hH;have cW:1<=wrap .i64 (1+modS pw 5)/\wrap .i64 (1+modS pw 5)<=100:=by rw[wQb _ (by omega)];omega
   have cH:1<=wrap .i64 (1+modS ph 4)/\wrap .i64 (1+modS ph 4)<=100:=by rw[wQb _ (by omega)];omega
   generalize wrap .i64 (1+modS pw 5)=W at *;generalize wrap .i64 (1+modS ph 4)=H at *;obtain⟨g1,g2⟩:=go W H cW cH;have pn:=zHp mood L xs (wrap .i64 (W*H)) most hx g2;refine⟨pn,λq2=>?_,λq2=>?_⟩
   .have hs:modS so 2=0:=by simpa using q2
    rw[if_pos hs]at gi;obtain⟨v0,v1,v2,v3,v4⟩:=zHf (mood:=mood) (L:=L) (xs:=xs) (most:=most) g1;have f0:=zVo (mood:=mood) (L:=L) (xs:=xs) (most:=most) g1 0 (by omega);have f1:=zVo (mood:=mood) (L:=L) (xs:=xs) (most:=most) g1 1 (by omega);have f2:=zVo (mood:=mood) (L:=L) (xs:=xs) (most:=most) g1 2 (by omega);have f3:=zVo (mood:=mood) (L:=L) (xs:=xs) (most:=most) g1 3 (by omega);have f4:=zVo (mood:=mood) (L:=L) (xs:=xs) (most:=most) g1 4 (by omega);have g3:0<wrap .i64 (W*H):=by omega
    rw[gi];simp only[v0,v1,v2,v3,v4]at f0 f1 f2 f3 f4 |-;exact⟨by omega,⟨f0,f1,f2,f3,f4⟩,zJl W H ⟨_,_,_,_,_⟩,trivial⟩
   .have hs:¬modS so 2=0:=by simpa using q2
    rw[if_neg hs]at gi;rw[gi];have po:=zWU W H _ (pxs (zQy mood L xs most (wrap .i64 (W*H)).toNat)) (jXw _ _ _ _ rfl);simp only[zZN]at po |-;exact⟨po,trivial⟩
def yX7:Gam:=yX8.add [.p 32 (λv=>let c:=ul v 0;let e:=ul v 1;let a:=(zJj (nAt c 0) (nAt c 1) (nAt c 2) (nAt c 3) (lAt c 4) (cAt c 4) (nAt e 0) (nAt e 1) (nAt e 2) (nAt e 3) (nAt (uj v) 2));some (RV.agg (iD a)))]
def aFC(a:vz)(b:Nat)(c:wc)(d:Nat)(e:Bx)(f:vD):Snap:=pE a b (Bx.cells c) d e f
def aGX(a b c e:Int)(f:Scn)(g:wc):wc:=Cl.d (aB a)::Cl.d (aB b)::aH (aB c) (aB e) (aB (Scn.gtw f)) (aB (Scn.gth f)) g
def aJN(a:Scn)(b:wc):Bx:=bY (aB (Scn.bits a)) b
def kJ(a:Scn)(b:Nat):List Oq:=(Scn.run a b).snd
def kK(a:Scn)(b:Nat):List Oq:=(Scn.run a b).fst
def aLY(a:Nat)(b:Scn)(c:vz):vz:=tD a (Scn.most b) c
def aBI(a:Nat)(b:List Oq)(c:wc):wc:=fW a (List.length b) c
def aLK(a:Scn)(b c d e:Int)(f:Nat)(g:wc):Bx:=aJN a (aGX b c d e a (fW f (List.length (Scn.ord a)) g))
def wX(a b c:Nat):Prop:=a<=Min.min b c
def aBG(a:Scn)(b:Nat):List DV:=ims (Scn.pics a b)
def aHB(a:Nat):List Oq:=List.replicate a popO
def aGY(a:Scn)(b c d e:Int)(f:wc):Bx:=aLK a b c d e 7000 f
def aFD(a:Scn)(b c d e:Int)(f:Nat)(g:wc):Bx:=aGY a b c d e (fW f (List.length (Scn.ims a)) g)
def aMB(a b c:Nat)(d:Scn)(e:vz):vz:=kU a a b b (aLY c d e)
def wU(a:vz)(b:Nat)(c d e f g h i:Int)(j k l:DV)(m:wc)(n:vD):Snap:=aAB a b (aFA c d e f g h i j k l m) n
def aEZ(a b c:Nat)(d:Scn)(e:Nat)(f:vz):vz:=aMB a b c d (dP e e f)
def aMP(a b:Nat)(c:List DV)(d e f:Nat)(g:List DV):vD:=aGM a 43 b c d e f g
def aJY(a:Nat)(b:List DV)(c d e:Nat)(f:List DV):vD:=aMP a 28 b c d e f
def aNC(a:Nat)(b:List Oq)(c:vz):vz:=aJI a 5002 b c
def aMX(a:Nat)(b:vz):vz:=aCK 4 a b
def aMY(a:Nat)(b:List DV)(c d:Nat)(e:List DV):vD:=aJY a b c 61 d e
def aFE(a:vz):vz:=aMX 4 a
def aIM(a:Nat)(b:List DV)(c:Nat)(d:List DV):vD:=aMY a b c 12 d
def aIJ(a:wc):wc:=mB (mB a)
def aIL(a:Nat)(b:Scn)(c:Nat)(d:vz):vz:=aNC a (kJ b c) d
def aHA(a b c:Nat)(d:Scn)(e f g:Nat)(h:vz):vz:=aEZ a b c d e (aIL f d g h)
def aIN(a:Nat)(b:List Im)(c:Nat)(d:List DV):vD:=aIM a (ims b) c d
def aGZ(a:Nat)(b:Scn)(c:Nat)(d:List DV):vD:=aIN a (Scn.ims b) c d
def xA(a b c d:Int)(e:Prop):Prop:=nP a (bM b) (bM c) (bM d) e
def iK(a:List DV):List Bx:=[Bx.row 61 12 a]
def uG(a:Int)(b:List Oq):Prop:=gU a (List.length b)
def aBP(a b:Prop):Prop:=True/\True/\eS true/\a/\b
def aBN(a:List DV)(b c:Nat):Prop:=a[b+c]?=some (aB (nAt a (b+c)))/\True
def aFH(a b:List Oq):Prop:=kL (List.length a) b
def aBL(e:Scn)(f g:Prop):Prop:=fX (Scn.bits e) (Scn.c e).a (xA (Scn.c e).b (Scn.c e).c (Scn.c e).d (Scn.gtw e) (aG (bM (Scn.gth e)) (eS (List.length (Scn.ord e))) f g))
def aHE(a:Scn)(b:Prop):Prop:=aBL a (eS (List.length (Scn.ims a))) b
def aHC(a b:Nat)(c:Bool):Prop:=decide ((a:Int)<(b:Int))=(!c)
def zD(a:List DV)(b:Nat):Prop:=a[b]?=some (DV.sl (lAt a b) (cAt a b))
def aHD(a b:List Oq):Prop:=kL (List.length a+1) b
def aBM(a b c d:Prop)(e:Scn)(f g:Prop)(h:List DV)(i:Prop):Prop:=qH a b (gM (gM (gM (aR c d)))) (aHE e f) g h (ims (Scn.ims e)) i
theorem jK7(s:Scn)(hs:s.ok):AnsG prog 7 0 [AV.agg [cJ (s.b),cJ (s.x),cJ (s.y),cJ (s.w),cJ (s.h),cJ (s.tw),cJ (s.th),cD (dS s.on s.oxs),cD (dS s.pn s.pxs),cD (dS s.rn s.rxs)]] [] ⟨AV.agg [cJ (((s).bits)),cJ (((s).c.a)),cJ (((s).c.b)),cJ (((s).c.c)),cJ (((s).c.d)),cJ (((s).gtw)),cJ (((s).gth)),Cl.ref 0 ((s).ord.length),Cl.ref 1 ((s).ims.length),Cl.ref 2 ((s).ops.length)],[bR 3 1 (is (s).ord),bR 43 28 (ims (s).ims),bR 61 12 (ops (s).ops)],false⟩:=
 vw yX7 (let m:=Min.min s.rn (9:Nat);let w:=kJ s m;let x:=kK s m;let d:=is (Scn.ord s);let z:=ops w;let p:=Scn.c s;let e:=p.d;let f:=p.c;let b:=p.b;let c:=p.a;let g:=mB (aIJ []);let n:=wT (pJ (aFB g));let h:=DV.sl s.rn s.rxs;let i:=DV.sl s.pn s.pxs;let j:=DV.sl s.on s.oxs;let k:=s.th;let l:=s.tw;let q:=aFA s.b s.x s.y s.w s.h l k j i h [];let H:=aEZ 1 2 3 s 4 [];let t:=Min.min s.pn (4:Nat);let I:=aBF 7 (Scn.gw s) 8 (Scn.gh s) [];let u:=aEZ 1 2 3 s 4 I;let J:=aIK 2 n 4 (cD (aB (Scn.bits s))::cD (aB 0)::pK (pJ g)) [];qA (ug True (wU H 1 s.b s.x s.y s.w s.h l k j i h [] J) (fK (ug True (wU (aEZ 1 2 3 s 4 (aBF 5 c 6 b I)) 1 s.b s.x s.y s.w s.h l k j i h [] J) (fK (ug True (wU u 1 s.b s.x s.y s.w s.h l k j i h [] (tT 2 g 4 (aJN s (aGX c b f e s g)) [])) (fK (ug True (aFC u 1 q 2 n (lB 4 (aGY s c b f e (aIJ [])) 7000 3 1 d [])) (Ann.cut (Inv.mk Unit (λ(z6:Unit)=>True) (λ(y0:Unit)=>wU u 1 s.b s.x s.y s.w s.h l k j i h [] (tT 2 g 4 (aGY s c b f e (fW 5000 (List.length (Scn.pics s t)) (mB []))) (uD 7000 d 5000 43 28 (aBG s t)))) (λ(z2:Unit)=>(0:Nat))) (fK (ui (λU=>wX U s.pn 4) (λr=>wU (aEZ 1 2 3 s 4 (jF 7 (Scn.gw s) (aBH 8 (Scn.gh s) 12 (fC r) []))) 1 s.b s.x s.y s.w s.h l k j i h [] (tT 2 g 4 (aGY s c b f e (fW 5000 r (mB []))) (uD 7000 d 5000 43 28 (aBG s r)))) (λT=>t-T) (λV=>aL))) (λ(z9:Unit)=>ug True (wU H 1 s.b s.x s.y s.w s.h l k j i h [] (tT 2 g 4 (aFD s c b f e 5000 (mB [])) (uD 7000 d 5000 43 28 (ims (Scn.ims s))))) (fK (Ann.cut (Inv.mk Unit (λ(z6:Unit)=>True) (λ(z5:Unit)=>pE (aFE (aIL 13 s m [])) 2 n 4 (aFD s c b f e 5000 (aBI 5001 x [])) (zB 5002 61 12 z 7000 3 d (aGZ 5000 s 5001 (ops (kK s m))))) (λ(z2:Unit)=>(0:Nat))) (fK (ui (λS=>wX S s.rn 9) (λo=>wU (aHA 1 2 3 s 4 13 o (rU 14 o)) 1 s.b s.x s.y s.w s.h l k j i h [] (tT 2 g 4 (aFD s c b f e 5000 (aBI 5001 (kK s o) [])) (zB 5002 61 12 (ops (kJ s o)) 7000 3 d (aGZ 5000 s 5001 (ops (kK s o)))))) (λR=>m-R) (λa=>let A:=aGZ 5000 s 5001 (ops (kK s a));let B:=aFD s c b f e 5000 (aBI 5001 (kK s a) []);let C:=rwAt s.rxs (a*11);let D:=C.k;let E:=lB 4 B 5002 61 12 (ops (kJ s a)) (aJO 7000 3 1 d A);let F:=modS (nAt s.rxs (aZ a 11+0)) 8;let G:=List.length (kJ s a);aFF (gY (ug (¬(modS D 8=0/\0<G)) (aFC (aHA 1 2 3 s 4 13 a (zC 14 a (aBH 15 F 16 (fC G) []))) 1 q 2 n E) (uh Bool (λQ=>Q=ctxB (kJ s a)) (λP=>aFC (aHA 1 2 3 s 4 13 a (zC 14 a (aBJ 15 F 17 P []))) 1 q 2 n E) (λZ=>uh Oq (λO=>O=gOp C (decide (modS D 8<3)) (List.length (Scn.ims s):Int) p (ctxB (kJ s a)) (Scn.most s)) (λM=>aFC (aHA 1 2 3 s 4 13 a (zC 14 a (dP 18 18 []))) 1 q 2 n (lB 4 B 5002 61 12 (ops (kJ s a)) (lB 18 (yV M []) 7000 3 1 d A))) (λX=>aL)))))))) (λ(W:Unit)=>nA (ui (λL=>L<=List.length (kJ s m)) (λv=>let y:=x++aHB v;pE (aFE (aIL 13 s m (rU 19 v))) 2 n 4 (aFD s c b f e 5000 (aBI 5001 y [])) (zB 5002 61 12 z 7000 3 d (aGZ 5000 s 5001 (ops y)))) (λK=>List.length w-K) (λV=>aL))))))))))))))) Tryz.func7 (let T:=Scn.ops s;let m:=ims (Scn.ims s);let b:=is (Scn.ord s);let n:=Scn.c s;let U:=n.d;let V:=n.c;let y:=n.b;let z:=n.a;let y0:=Scn.bits s;let j:=s.rn;let G:=Min.min j (9:Nat);let H:=kK s G;let x5:=kJ s G;let A:=List.length x5;let B:=aB 0;let X:=aB 3::B::B::B::B::B::B::aF 0::kX 0 0 false (rR false);let x7:=ops x5;let x8:=eS x7;let x9:=eS A;let w0:=kJ s G;let w1:=List.length w0;let w3:=ops (kK s G);let Y:=gM (gM (aR jG True));let l:=gM Y;let e:=s.rxs;let g:=s.pxs;let o:=s.pn;let w6:=aB s.b::aB s.x::aB s.y::aB s.w::aB s.h::aB s.tw::aB s.th::DV.sl s.on s.oxs::DV.sl o g::nZ j e;let d:=eS w6;let f:=Scn.most s;let y2:=Min.min j (9:Nat);let y3:=(List.length (Scn.ims s):Int);let i:=s.rxs;let z1:=eQ f;let u2:=rA (cM n);let y5:=List.length (Scn.ims s);let O:=Scn.most s;let y7:=Min.min o (4:Nat);let z4:=aBG s y7;let t1:=Scn.pics s y7;let E:=List.length t1;let P:=gM Y;let t2:=dB (aT z1 (eS (0:Nat)));let q:=Scn.gh s;let v:=Scn.gw s;let t3:=zQW v q ⟨f,0,0,f,f⟩;let t4:=Im.ds t3;let y8:=bM v;let y9:=dB (zA f y8 (bM q));let Q:=Scn.gth s;let z5:=Scn.gtw s;let s0:=cntS n z5 Q;let s1:=aU (s0.fst*s0.snd.fst);let s2:=zKc (ints s.oxs) s1;let s3:=is s2;let s4:=List.length s2;let x0:=Scn.bits s;let s5:=jG/\Y;let z6:=gMax s.b;let s6:=dB (aT (aF z6=aF f) (eS (0:Nat)));True/\True/\bD (cL 30 s.b [] (kI z6)) (True/\True/\True/\gJ (aE (gL z6 255) (∃q6:Unit,uE s6 d l (bX 16 y0/\s5))) (dR z6 255->(∃q5:Unit,uE s6 d l (bX 8 y0/\s5)))/\(∀q4:Unit,True->bD (jD s.x 13 13) (bD (jD s.y 13 13) (aBP (gJ (jD s.w 5 5) (True/\True/\True/\jD s.h 4 4/\kV (∃q3:Unit,uE (dB (iO O (aG (qG (modS s.x 13-6) z) (qG (modS s.y 13-6) y) (qG (1+modS s.w 5) v) (qG (1+modS s.h 4) q)))) d l (fX x0 0 Y)))) (∀q2:Unit,True->kM (bI (aR (yX s.tw v) (aX (yX s.th q) (kV (∃q1:Unit,uE y9 d l (fX x0 z (nP y (qG (z+v) V) (qG (y+q) U) (qG (1+modS s.tw v) z5) (aR (qG (1+modS s.th q) Q) True)))))))) (∀q0:Unit,aN True (True/\True/\True/\bH 9 (cM n) (lE z5 Q) (aBK n z5 Q)/\bW (gC (AnsO prog 31 (pM s.on s.oxs [aV s1]) 3 1 s4 s3) (∃r9:Unit,True/\y9/\aG d l (fX x0 z (xA y V U (Scn.gtw s) (eY (bM Q) (nS s4 (Scn.ord s)) True))) (s3=b))) (∀r8:Unit,True->(True/\(∃S:Nat,bZ S y7 (cT (lH z1 (aG (eS (0:Nat)) y8 (bM q) (dC S)))/\d/\gZ P (aBL s (0=S) True) b [] (aBG s S)))/\(∀c:Nat,let t5:=(∃r7:Unit,zE y9 d (gZ P (aBL s (c=E) True) b (aBG s c) z4));let t6:=cAt g (gS c 5);let t7:=lAt g (gS c 5);let t8:=zJj (cB g c 5) (iH g c 5) (iQ g c 5) (iR g c 5) t7 t6 z y V U f;let t9:=Im.ds t8;aN (wX c o 4) (True/\True/\True/\(dT c o->fU (jE (c:Int) 4) (aBE (dF c o 5 g) (fR (mZ g c 5) (cX g (aZ c 5)) (cX g (aZ c 5+1)) (cX g (aZ c 5+1+1)) (zD g (gS c 5))) (bH 32 (aB (cB g c 5)::aB (iH g c 5)::aB (iQ g c 5)::aB (iR g c 5)::nZ t7 t6) (u2::oB f) (imR t8)) (aX (zZQ 28 272 c 1 (aBG s c) t9) (mU (∃F:Nat,uF (wX F o 4) (dZ (Min.min o (4:Nat)) F c) (cT (lH z1 (aG (eS (0:Nat)) y8 (bM q) (bQ c F)))) w6 (gZ P (aBL s (c+1=F) True) b (aBG s c++t9) (aBG s F)))))) (gX (c:Int) 4->t5))/\(aHC c o true->True/\t5))))/\(∀r6:Unit,True->(True/\mX E (aN (mE (List.length t1:Int)) (nB (cL 33 v (aV q::gB (cQ f 0 (cQ 0 f [aF f]))) (imR t3)) (zZQ 28 272 E 1 z4 t4/\True/\True/\eS true/\(∃r5:Unit,zE t2 d (gZ P (aBL s (E+1=y5) True) b (z4++t4) m))))) (fS (E:Int)->(∃r4:Unit,zE t2 d (gZ P (aBL s (E=y5) True) b z4 m))))/\(∀r2:Unit,bL True (True/\(∃x:Nat,bZ x G (aBM (dB (zA f (kL 0 (kJ s x)) (dC x))) d jG True s (kL 0 (kK s x)) (([]:List DV)=ops (kJ s x)) b (([]:List DV)=ops (kK s x))))/\(∀a:Nat,let C:=ops (kK s a);let k:=ops (kJ s a);let D:=kK s a;let Z:=kJ s a;let w4:=(∃s8:Unit,True/\cT (iJ (aFH Z w0))/\l/\aHE s (aFH D H)/\lN (k=x7) b m (C=w3));let h:=List.length (kJ s a);let w7:=List.length D;let I:=ctxB Z;let w8:=rwAt e (a*11);let w9:=w8.k;let v0:=gOp w8 (decide (modS w9 8<3)) y3 n I f;let J:=eS C;let p:=aZ a 11;let y4:=nAt e (p+0);let v1:=modS y4 8;let v2:=decide (v1<3);let v3:=aY i (jV p);let v4:=bT (bU p);let v5:=aY i v4;let v6:=aY i (pO a 11);let v7:=aY i (gS a 11);let v8:=aY i (hZ a 11);let v9:=aY i (gN a 11);let u0:=aY e (cR a 11);let K:=aHE s (eS (List.length D));let L:=iS a;let M:=eS h;let z2:=eS k;let u3:=modS y4 8;let z3:=bM u3;let u4:=gT h;let y6:=bF u4;let u5:=y6+10;let u6:=bAt k u5;let u7:=y6+11;let u8:=uG u4 Z;let u9:=¬(modS w9 8=0/\0<h);let t0:=(∃r0:Unit,u9/\qH (dB (iO O (aG M L z3 (iS h)))) d l K z2 b m J);aN (wX a j 9) (True/\True/\True/\fJ (dT a j) (fJ (jE (a:Int) 9) (dF a j 11 e) (dY (aBN e p 0) (lM 27 (aB (nAt e (p+0))) [aV 8] (aV v1)) (mX h (True/\True/\True/\(pA y4 8->fU (rW h) (aX (zZQ 12 88 w7 1 C X) (eZ (aBO h) (∃u:Nat,wX u j 9/\dZ y2 u a/\aBM (dB (zA f (kL (aFG h) (kJ s u)) (bQ a u))) d jG True s (aHD D (kK s u)) (List.take y6 k=ops (kJ s u)) b (C++X=ops (kK s u))))) (uB h->t0))/\(wY u3->True/\t0)) (∀s9:Unit,u9->(True/\True/\True/\fJ (fS (h:Int)) u8 (True/\pN k u5/\True/\aE (u6=true) (True/\u8/\True/\pN k u7/\True/\True/\True/\True/\(∃x4:Bool,x4=I/\qH (dB (iO O (aG M L z3 (jH (!(bAt k u7)) x4)))) d l K z2 b m J))/\oE u6 (∃x3:Bool,x3=I/\qH (dB (iO O (aG M L z3 (jH false x3)))) d l K z2 b m J))/\aE (gD ((h:Int)==0)) (∃x2:Bool,x2=I/\qH (dB (iO O (aG M L z3 (jH true x2)))) d l K z2 b m J))/\(∀z9:Bool,let u1:=Oq.cells (gOp ⟨cB e a 11,iH e a 11,iQ e a 11,iR e a 11,u0,v9,v8,v7,v6,v5,v3⟩ v2 y3 n z9 f);z9=I->(True/\True/\dY (dF a j 11 e) (pP (mZ e a 11) (cX e p) (cX e (p+1)) (oJ (cX e (p+1+1)) (bS i p) (bS i (cR a 11)) (bS i (gN a 11)) (bS i (hZ a 11)) (bS i (gS a 11)) (bS i (pO a 11)) (bS i v4))) (True/\True/\True/\y5<=maxLen/\fT (iG 15 (aB (cB e a 11)::aB (iH e a 11)::aB (iQ e a 11)::aB (iR e a 11)::aB u0::aB v9::aB v8::eO v7 v6 v5 v3) (aM v2::aV y3::u2::aM z9::oB f) u1) (eS true) (∃x1:Oq,x1=v0/\cT (lH z1 (lH M (aT L (eS (0:Nat)))))/\qH d l K (eS k) (u1=Oq.cells x1) b m J)))/\(∀z8:Oq,let z0:=Oq.cells z8;let w5:=C++z0;aN (z8=v0) (aX (zZQ 12 88 w7 1 C z0) (True/\True/\True/\(lZ z8.kind->eZ (zZQ 12 88 h 1 k z0) (∃t:Nat,wX t j 9/\dZ y2 t a/\aBM (dB (zA f (kL (h+1) (kJ s t)) (bQ a t))) d jG True s (aHD D (kK s t)) (k++z0=ops (kJ s t)) b (w5=ops (kK s t))))/\aN (uC z8.kind) (∃r:Nat,wX r j 9/\dZ y2 r a/\aBM (dB (zA f (aFH Z (kJ s r)) (bQ a r))) d jG True s (aHD D (kK s r)) (k=ops (kJ s r)) b (w5=ops (kK s r))))))))))) (gX (a:Int) 9->w4)/\(aHC a j true->True/\w4)))) (∀s7:Unit,bL True (∃z7:Nat,let w2:=H++aHB z7;aBM (z7<=w1) (dB (aT x9 (dC z7))) jG True s (aFH H w2) x8 b (w3=ops w2)) (∀w:Nat,let W:=H++aHB w;let y1:=ops W;w<=w1->True/\mX A (aE (dT w A) (iT (zZQ 12 88 (List.length W) 1 y1 X) (∃R:Nat,let x6:=H++aHB R;bZ R A (aBM (dZ A R w) (dB (aT x9 (bQ w R))) jG True s (aHD W x6) x8 b (y1++X=ops x6))))) (bP (eV w A) (lN (aHE s (aFH W T)/\True) b m (y1=ops T)) (dO (AV.agg (qI y0 (aGX z y V U s (fW 0 (List.length (Scn.ord s)) (fW 1 (List.length (Scn.ims s)) (aBI 2 T [])))))) (bR 3 1 b::bR 43 28 m::iK (ops T))))))))))))))))) λhwf hbx=>by
  delta eS aB aV aW aE iE gX dY aF aU aG cQ aK aN bD aX cL cN jD gB fR fS gC mE fJ nZ pA oB kI lZ jE aH cP bM nP bG bP aR eO bW cT lN kX eY dB eQ cM rR iO yX kV oE fC aT gD aZ gU bQ bL dR cR gL dC pM nS rW uB mU cX fM bH aY bS dF fT iG fU cB eZ dT eV mZ iH iQ iR mX gZ zA uC aBE fW aGX kJ kK aBI wX aBG aHB aM bT bU jH jV bX qG bI kL dO fX bZ xA dZ bF yP qI iJ gJ gN iK gS gM hZ qH iT uG jG kM iS gT lM lE pP nB aBP aBN oJ pN pO aFH lH aFG aFM aBO aBL uE wY uF aHE aHC zE zD aHD aBK aBM;simp only[sS,zQj,zGg];obtain⟨⟨ho1,ho2⟩,⟨hp1,hp2⟩,⟨hr1,hr2⟩⟩:=hs;obtain⟨f1,f2,f3,f4,f5,f6⟩:=s.facts;have CF:=s.c_facts;have w1:wrap .i64 (modS s.x 13-6)=s.c.a:=wQb _ (by omega);have w2:wrap .i64 (modS s.y 13-6)=s.c.b:=wQb _ (by omega);have g1:s.gw=1+modS s.w 5:=rfl;have g2:s.gh=1+modS s.h 4:=rfl;have g3:s.gtw=1+modS s.tw s.gw:=rfl;have g4:s.gth=1+modS s.th s.gh:=rfl;have w3:wrap .i64 (1+modS s.w 5)=s.gw:=wQb _ (by omega);have w4:wrap .i64 (1+modS s.h 4)=s.gh:=wQb _ (by omega);have w5:wrap .i64 (s.c.a+s.gw)=s.c.c:=by rw[wQb _ (by omega)];omega
  have w6:wrap .i64 (s.c.b+s.gh)=s.c.d:=by rw[wQb _ (by omega)];omega
  have w7:wrap .i64 (1+modS s.tw s.gw)=s.gtw:=wQb _ (by omega);have w8:wrap .i64 (1+modS s.th s.gh)=s.gth:=wQb _ (by omega);have hm:=s.tiles_in;have hM:∀n:Nat,n<=100->n<=maxLen:=λn h=>by unfold maxLen;omega
  have li:=s.ims_len;have lk:=λk=>s.run_len k;have pq:1<=s.c.c-s.c.a/\s.c.c-s.c.a<=100/\1<=s.c.d-s.c.b/\s.c.d-s.c.b<=100:=by omega
  have BI:=s.bits_of;refine⟨⟨λh=>⟨(),rfl,BI.1 h⟩,λh=>⟨(),rfl,BI.2 h⟩⟩,⟨(),w1,w2,w3,w4⟩,⟨(),w5,w6,w7,w8⟩,zGe _ _ _ _ _ _,⟨zG3 _ _ _ ⟨ho1,ho2⟩ hm.1,(),rfl,rfl⟩,⟨⟨0,wQj _,rfl,rfl,rfl⟩,λp hp=>⟨λh1=>⟨λh2=>?_,λh2=>?_⟩,λh1=>?_⟩⟩,?_⟩
  .obtain⟨q0,q1,q2,q3,q4,q5⟩:=hp2 p (by omega);refine⟨by omega,⟨q0,q1,q2,q3,q4⟩,jK8 _ _ _ _ _ _ _ _ _ _ _ q5 pq,⟨by rw[zXl,s.pics_len],by rw[Im.ds_len],hM _ (by omega),by omega⟩,p+1,by omega,by omega,zY6 (by omega),rfl,?_⟩;rw[s.pics_succ,jXt,jHq];rfl
  .have:p=min s.pn 4:=by omega
   subst this;exact⟨(),(s.pics_len _).symm,rfl⟩
  .have:p=min s.pn 4:=by omega
   subst this;exact⟨(),(s.pics_len _).symm,rfl⟩
  have lp:=s.pics_len (min s.pn 4);refine⟨⟨hM _ (by omega),λh=>?_,λh=>?_⟩,⟨⟨0,wQj _,⟨rfl,rfl⟩,rfl,rfl,rfl⟩,λk hk=>⟨λh1=>⟨λh2=>?_,λh2=>?_⟩,λh1=>?_⟩⟩,?_⟩
  .have h0:min s.pn 4=0:=by rw[lp]at h;simpa using h
   have e1:s.ims=[s.solo]:=by unfold Scn.ims;rw[if_pos h0]
   have e2:s.pics (min s.pn 4)=[]:=by rw[h0];rfl
   rw[e1,e2];exact⟨zJl s.gw s.gh ⟨_,_,_,_,_⟩,⟨by simp[ims],by simp[Im.ds],hM _ (by simp),by simp⟩,(),rfl,by simp[ims];rfl⟩
  .have h0:¬min s.pn 4=0:=by rw[lp]at h;simpa using h
   have e1:s.ims=s.pics (min s.pn 4):=by unfold Scn.ims;rw[if_neg h0]
   rw[e1];exact⟨(),rfl,rfl⟩
  .have lk1:=(lk k).1;have lk2:=(lk k).2;have ro:=λi (h:i<11)=>hr2 (k*11+i) (by omega);have wl:0<(s.run k).2.length->wrap .i64 (((s.run k).2.length:Int)-1)=(((s.run k).2.length-1:Nat):Int):=λh=>by rw[wQb _ (by omega)];omega
   have ws:wrap .i64 ((k:Int)+1)=((k+1:Nat):Int):=zY6 (by omega);refine⟨by omega,ro 0 (by omega),hM _ (by omega),⟨λa1=>⟨λa2=>?_,λa2=>⟨(),λh=>a2 (by omega)⟩⟩,λa1=>⟨(),λh=>?_⟩⟩,λhn=>⟨⟨λa1=>?_,λa1=>?_⟩,λfr hfr=>⟨?_,λo ho=>?_⟩⟩⟩
   .have a3:0<(s.run k).2.length:=by omega
    have a4:modS (nAt s.rxs (k*11)) 8=0:=by simpa using a1
    have rp:=Scn.run_pop (s:=s) (k:=k) ⟨a4,a3⟩;rw[wl a3];refine⟨⟨by rw[zQc,lk1],rfl,hM _ (by omega),by omega⟩,by omega,k+1,by omega,by omega,⟨?_,ws⟩,?_,?_,?_⟩
    .rw[rp];simp
    .rw[rp];simp
    .rw[rp,wQp,zUC,wZ6]
    .rw[rp,zQU,jQz];rfl
   .have a4:¬modS (nAt s.rxs (k*11)) 8=0:=by simpa using a1
    exact a4 h.1
   .have a3:0<(s.run k).2.length:=by
     have:¬(s.run k).2.length=0:=by simpa using a1
     omega
    have hl:(s.run k).2.length-1<(s.run k).2.length:=by omega
    have g10:(ops (s.run k).2)[((s.run k).2.length-1)*12+10]?=some (.bool (s.run k).2[(s.run k).2.length-1].iso):=jYh hl 10 (by omega);have g11:(ops (s.run k).2)[((s.run k).2.length-1)*12+11]?=some (.bool (s.run k).2[(s.run k).2.length-1].kno):=jYh hl 11 (by omega);have b10:bAt (ops (s.run k).2) (((s.run k).2.length-1)*12+10)=(s.run k).2[(s.run k).2.length-1].iso:=by simp only[bAt,g10]
    have b11:bAt (ops (s.run k).2) (((s.run k).2.length-1)*12+11)=(s.run k).2[(s.run k).2.length-1].kno:=by simp only[bAt,g11]
    rw[wl a3,wQp,b10,b11,jHQ a3];refine⟨by omega,g10,λh=>⟨by omega,g11,_,rfl,?_⟩,λh=>⟨_,rfl,?_⟩⟩<;>simp[h]
   .have a3:(s.run k).2.length=0:=by simpa using a1
    rw[List.length_eq_zero_iff.1 a3];exact⟨_,rfl,rfl⟩
   .subst hfr;refine⟨by omega,⟨ro 0 (by omega),ro 1 (by omega),ro 2 (by omega),ro 3 (by omega),ro 4 (by omega),ro 5 (by omega),ro 6 (by omega),ro 7 (by omega),ro 8 (by omega),ro 9 (by omega),ro 10 (by omega)⟩,hM _ (by omega),yZr (rwAt s.rxs (k*11)) _ _ _ _ _ (by omega) (by omega),_,rfl,rfl⟩
   .obtain⟨r1,r2⟩:=Scn.run_op (s:=s) (k:=k) hn ho;clear ho;refine⟨⟨by rw[zQc,lk1],rfl,hM _ (by omega),by omega⟩,λa1=>⟨⟨by rw[zQc],rfl,hM _ (by omega),by omega⟩,k+1,by omega,by omega,⟨?_,ws⟩,?_,?_,?_⟩,λa1=>⟨k+1,by omega,by omega,⟨?_,ws⟩,?_,?_,?_⟩⟩
    .rw[r1 (by simpa using a1)];simp
    .rw[r1 (by simpa using a1)];simp
    .rw[r1 (by simpa using a1),zQU,jQz]
    .rw[r1 (by simpa using a1),zQU,jQz]
    .rw[r2 (by simpa using a1)]
    .rw[r2 (by simpa using a1)];simp
    .rw[r2 (by simpa using a1)]
    .rw[r2 (by simpa using a1),zQU,jQz]
  .have:k=min s.rn 9:=by omega
   subst this;exact⟨(),rfl,rfl,rfl,rfl⟩
  .have:k=min s.rn 9:=by omega
   subst this;exact⟨(),rfl,rfl,rfl,rfl⟩
  .have e:s.ops=(s.run (min s.rn 9)).1++List.replicate (s.run (min s.rn 9)).2.length popO:=rfl;have lr:=lk (min s.rn 9);rw[e];generalize s.run (min s.rn 9)=z at *;refine⟨⟨0,wQj _,rfl,by simp,by simp⟩,λj hj=>⟨hM _ (by omega),λh=>?_,λh=>?_⟩⟩
   .have e2:z.1++List.replicate (j+1) popO=(z.1++List.replicate j popO)++[popO]:=by rw[List.append_assoc,List.replicate_succ']
    refine⟨⟨by rw[zQc],rfl,hM _ (by simp;omega),by simp;omega⟩,j+1,by omega,by omega,zY6 (by omega),?_,?_⟩
    .rw[e2];simp;omega
    .rw[e2,zQU _ [popO],jQz];rfl
   .have:j=z.2.length:=by omega
    subst this;exact⟨⟨rfl,rfl⟩,trivial⟩
structure Scr where
  bits:Int
  c:Rc
  tw:Int
  th:Int
  ord:List Int
  ims:List Im
  ops:List Oq
def imsE(most:Int):List Im->Int->Int × Int
 |[],_=>(0,0)
 |m::r,i=>if m.valid most=0 then imsE most r (i+1) else(m.valid most,i)
def Scr.frame(s:Scr):Int:=zYy s.bits s.c s.tw s.th s.ord s.ims.length s.ops.length
def Scr.run(s:Scr):Int × Int:=opsE s.bits s.c s.tw s.th s.ord s.ims.length s.ops
def zKF(s:Scr):Int × Int:=
 if s.frame=0 then(if(imsE (zQA s.bits) s.ims 0).1=0 then s.run else imsE (zQA s.bits) s.ims 0) else(s.frame,0)
def yX5:Gam:=yX7.add []
def aEM(a:Nat)(b:Int)(c:Nat)(d:DV)(e:vz):vz:=iF a (aF b) c d e
def lU(a:Nat):Nat:=bT (bT (eH a))+1
def aEA(a b c:Int)(d:List DV)(e:Nat):Pl:=⟨a,b,c,lAt d (cI e),cAt d (cI e)⟩
def aGT(a:List DV)(b c d e:Nat):Pl:=aEA (aY a b) (aY a c) (aY a d) a e
def aGS(a:List DV)(b:Nat):Prop:=a[cI b]?=some (DV.sl (lAt a (cI b)) (cAt a (cI b)))
theorem zUl(bits cx0 cy0 cx1 cy1 tw th:Int)(on:Nat)(oxs:List DV)(mn:Nat)(mxs:List DV)(pn:Nat)(pxs:List DV)(hP:pxs=ops (zQi pxs)/\pn=(zQi pxs).length)(hO:oxs=is (ints oxs)/\on=oxs.length)(hM:yZq mn mxs):Ans prog 34 [rA [dJ bits,dJ cx0,dJ cy0,dJ cx1,dJ cy1,dJ tw,dJ th,dS on oxs,dS mn mxs,dS pn pxs]] (rT [rJ (((zKF ⟨bits,⟨cx0,cy0,cx1,cy1⟩,tw,th,ints oxs,zQr mxs,zQi pxs⟩).1)),rJ (((zKF ⟨bits,⟨cx0,cy0,cx1,cy1⟩,tw,th,ints oxs,zQr mxs,zQi pxs⟩).2))]):=
 vv yX5 (qW (ui (λa=>bZ a mn (imsE (zQA bits) (List.drop a (zQr mxs)) (a:Int)=imsE (zQA bits) (zQr mxs) 0)) (λc=>wU (dP 1 1 (aEM 5 (zQA bits) 22 (DV.sl mn mxs) (lO 23 mn 24 c))) 1 bits cx0 cy0 cx1 cy1 tw th (DV.sl on oxs) (DV.sl mn mxs) (DV.sl pn pxs) [] []) (λb=>mn-b) (λd=>aL))) Tryz.func34 (let o:=(⟨cx0,cy0,cx1,cy1⟩:Rc);let p:=aCX (zKF ⟨bits,o,tw,th,ints oxs,zQr mxs,zQi pxs⟩);let z:=aCX (opsE bits o tw th (ints oxs) mn (zQi pxs));let h:=aB bits::aB cx0::aB cy0::aB cx1::aB cy1::aB tw::aB th::DV.sl on oxs::DV.sl mn mxs::nZ pn pxs;let q:=imsE (zQA bits) (zQr mxs) 0;let n:=zYy bits o tw th (ints oxs) mn pn;fV (bH 75 h [] (aV n)) (uX n (aAX n 0=p) (fN n->True/\aX (cL 47 bits [] (zJ bits)) (bW (∃g:Nat,gV (bZ g mn (imsE (zQA bits) (List.drop g (zQr mxs)) (g:Int)=q)) (cT (kQ (eQ (zQA bits)) mn mxs (dC g))) h) (∀a:Nat,let b:=aZ a 28;let c:=eH b;let i:=eH c;let e:=bU (eH b);let A:=cI e;let r:=cG e;let s:=lU c;let B:=cI c;let t:=cG c;let u:=iA c;let d:=gS a 28;let v:=cG d;let w:=lU b;let x:=cG b;let y:=iA b;let j:=bT (bU b);let k:=pO a 28;let l:=gN a 28;let m:=Im.valid (jY (cB mxs a 28) (iH mxs a 28) (bAt mxs l) (iR mxs a 28) (aY mxs (cR a 28)) (aY mxs l) (aY mxs (hZ a 28)) (aY mxs d) (aGT mxs k j (jV b) b) (aGT mxs y x (cI b) d) (aGT mxs w v (cI d) c) (aGT mxs u t B e) (aGT mxs s r A i)) (zQA bits);let C:=cI i;let D:=cI e;let E:=cI c;bL (bZ a mn (imsE (zQA bits) (List.drop a (zQr mxs)) (a:Int)=q)) (dT a mn->dY (dF a mn 28 mxs) (eU (mZ mxs a 28) (cX mxs b) (yP mxs l) (cE mxs (hZ a 28)) (cE mxs d) (cE mxs k) (cE mxs j) (cE mxs (jV b)) (eU (bS mxs d) (bS mxs k) (bS mxs j) (aGS mxs b) (bS mxs c) (bS mxs y) (bS mxs x) (aGS mxs d) (eU (bS mxs e) (bS mxs w) (bS mxs v) (aGS mxs c) (bS mxs i) (bS mxs u) (bS mxs t) (aGS mxs e) (aG (bS mxs (bU (eH c))) (bS mxs s) (bS mxs r) (aGS mxs i))))) (fV (bH 76 (aB (cB mxs a 28)::aB (iH mxs a 28)::DV.bool (bAt mxs l)::aF (iR mxs a 28)::cQ (aY mxs (cR a 28)) (aY mxs l) (cQ (aY mxs (hZ a 28)) (aY mxs d) (qJ (aY mxs k) (aY mxs j) (aY mxs (jV b)) (lAt mxs (cI b)) (cAt mxs (cI b)) (dH (aY mxs y) (aY mxs x) (aY mxs (cI b)) (lAt mxs (cI d)) (cAt mxs (cI d)) (aY mxs w) (aY mxs v) (aY mxs (cI d)) (lAt mxs E) (cAt mxs E) (dH (aY mxs u) (aY mxs t) (aY mxs B) (lAt mxs D) (cAt mxs D) (aY mxs s) (aY mxs r) (aY mxs A) (lAt mxs C) (cAt mxs C) []))))) (oB (zQA bits)) (aV m)) (mH (jN m 0) (aAX m (a:Int)=p) (aE (fN m) (∃f:Nat,aG (bZ f mn (imsE (zQA bits) (List.drop f (zQr mxs)) (f:Int)=q)) (dZ mn f a) (cT (kQ (eQ (zQA bits)) mn mxs (bQ a f))) (eS h)))))) (bL (eV a mn) (bH 46 h [] z) (True/\True/\True/\True/\z=p))))))) λhwf=>by
  delta eS aB aV aW aE iE dY aF aU aG cQ fG aX cL nZ oB bK bW cT eQ fC aT aZ dE bQ bL cR dC eU cX fM bH aY bS dF cB dT fV eV mZ iH iR aM bT bU jV bZ dZ yP gN gS hZ pO cI cG eH iA qJ cS cE dH jK zK zJ mH jY dN jN fN gV uX aAX aCX lU kQ aEA aGT aGS;simp only[sS,zZ2,zVf];obtain⟨ml,hMu,rfl,rfl⟩:=hM.of;have hfr:=zJV bits cx0 cy0 cx1 cy1 tw th on oxs ml.length (ims ml) pn pxs hO;have hop:=zVj bits cx0 cy0 cx1 cy1 tw th on oxs ml.length (ims ml) pn pxs hP hO;obtain⟨hP,rfl⟩:=hP;simp only[zZv];generalize zQi pxs=ps at *;subst hP;simp only[RV.wfs,RV.wf,DV.wf,DV.wfs,maxLen]at hwf;have hml:ml.length<=9223372036854775807:=by omega
  have hC:zKF ⟨bits,⟨cx0,cy0,cx1,cy1⟩,tw,th,ints oxs,ml,ps⟩=if zYy bits ⟨cx0,cy0,cx1,cy1⟩ tw th (ints oxs) ml.length ps.length=0 then(if(imsE (zQA bits) ml 0).1=0 then opsE bits ⟨cx0,cy0,cx1,cy1⟩ tw th (ints oxs) ml.length ps else imsE (zQA bits) ml 0) else(zYy bits ⟨cx0,cy0,cx1,cy1⟩ tw th (ints oxs) ml.length ps.length,0):=rfl
  rw[hC];clear hC hwf;generalize zYy bits ⟨cx0,cy0,cx1,cy1⟩ tw th (ints oxs) ml.length ps.length=FE at *;generalize opsE bits ⟨cx0,cy0,cx1,cy1⟩ tw th (ints oxs) ml.length ps=OE at *;generalize zQA bits=most at *;refine⟨hfr,λhne=>?_,λhe=>⟨⟨0,⟨wQj _,by simp⟩,rfl⟩,λk hk=>⟨λhlt=>?_,λhge=>?_⟩⟩⟩
  .have:FE≠0:=by simpa using hne
   simp[this]
  .obtain⟨k1,k2⟩:=hk;have hk:k<ml.length:=by omega
   have q1:=jQR hk;have q2:=jQS hk;have hd:ml.drop k=ml[k]::ml.drop (k+1):=wXl hk;have hF:FE=0:=by simpa using he
   have vI:=jZK ml[k] most (hMu _ (List.getElem_mem hk));rw[hd]at k2;simp only[imsE]at k2;have w1:wrap .i64 ((k:Int)+1)=((k+1:Nat):Int):=by rw[wQ9];omega
   simp only[q2,hF,if_true];refine⟨⟨by omega,by omega,by rw[zXl];omega⟩,q1,vI,λhne=>?_,λh0=>?_⟩
   .have h0:ml[k].valid most≠0:=by simpa using hne
    rw[if_neg h0]at k2;rw[<-k2,if_neg h0];exact⟨rfl,rfl⟩
   .have h0:ml[k].valid most=0:=by simpa using h0
    rw[if_pos h0]at k2;exact⟨k+1,⟨by omega,by rw[<-k2];rfl⟩,by omega,w1⟩
  .obtain⟨k1,k2⟩:=hk;have hk:k=ml.length:=by omega
   subst hk;rw[wYB]at k2;simp only[imsE]at k2;have hF:FE=0:=by simpa using he
   simp only[hF,if_true,<-k2];exact⟨hop,trivial,trivial⟩
end
end Go.Proofs.YtbnmadpcdlnleaaGreatDoor
