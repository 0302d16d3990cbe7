/-
  Part 4 of what TopAnyOrderOfRules rests on.
-/
import Derived.Test.YtbnmadpcdlnleaaGreatDoorTopAnyOrderOfRulesZ3
import Derived.Lib.Mul64
import Derived.Shelf.Spec.BitsCarry
namespace Go.Proofs.YtbnmadpcdlnleaaGreatDoor
open Go.IntKind (wrap)
open Go.RowKit
set_option linter.unusedVariables false
set_option linter.unusedSimpArgs false
set_option maxRecDepth 20000
open Go.Proofs.Tryz (prog)
variable{n:Nat}
section
attribute [local irreducible] Ans AnsO AnsG AnsN AnsI
def scrR(s:Scr):RV:=RV.agg [DV.int .i64 s.bits,DV.int .i64 s.c.a,DV.int .i64 s.c.b,DV.int .i64 s.c.c,DV.int .i64 s.c.d,DV.int .i64 s.tw,DV.int .i64 s.th,DV.sl s.ord.length (is s.ord),DV.sl s.ims.length (ims s.ims),DV.sl s.ops.length (ops s.ops)]
def eR(p:Int × Int):RV:=RV.tup [RV.d (DV.int .i64 p.1),RV.d (DV.int .i64 p.2)]
theorem zQv(s:Scr):(⟨s.bits,⟨s.c.a,s.c.b,s.c.c,s.c.d⟩,s.tw,s.th,ints (is s.ord),zQr (ims s.ims),zQi (ops s.ops)⟩:Scr)=s:=by
 rw[zZI,zZv,zQC]
theorem yZB{l:List Int}(h:n=l.length):is l=is (ints (is l))/\n=(is l).length:=⟨by rw[zZI],by rw[zQl];exact h⟩
theorem yQi(s:Scr):opsE s.bits ⟨s.c.a,s.c.b,s.c.c,s.c.d⟩ s.tw s.th (ints (is s.ord)) s.ims.length (zQi (ops s.ops))=s.run:=by
 rw[zZI,zQC];rfl
theorem zUk(s:Scr)(h:∀m∈s.ims,m.isU):Ans prog 34 [scrR s] (eR (zKF s)):=by
 have:=zUl s.bits s.c.a s.c.b s.c.c s.c.d s.tw s.th s.ord.length (is s.ord) s.ims.length (ims s.ims) s.ops.length (ops s.ops) (jKi rfl) (yZB rfl) (jHm rfl h);rw[zQv]at this;exact this
theorem zVi(s:Scr):Ans prog 46 [scrR s] (eR s.run):=by
 have:=zVj s.bits s.c.a s.c.b s.c.c s.c.d s.tw s.th s.ord.length (is s.ord) s.ims.length (ims s.ims) s.ops.length (ops s.ops) (jKi rfl) (yZB rfl);rw[yQi]at this;exact this
end
variable{mn pn:Nat}
theorem jHD{bits:Int}{c:Rc}{tw th:Int}{l:List Int}(hb:zWa bits=true)(he:c.empty=false)(ha:c.area<=16777216)(h1:zZz c.a=true)(h2:zZz c.b=true)(h3:(cntS c tw th).2.2=true)(h4:zZ4 l (wrap .i64 ((cntS c tw th).1*(cntS c tw th).2.1))=true)(h5:mn<=64)(h6:pn<=4096):zYy bits c tw th l mn pn=0:=by
 unfold zYy;rw[if_neg (by rw[hb];simp),if_neg (by rw[he,h1,h2];simp;omega),if_neg (by rw[h3];simp),if_neg (by rw[h4];simp),if_neg (by omega)]
theorem zUJ(v:Int):zZz v=true ↔ -1048576<=v/\v<=1048576:=by simp[zZz]
variable{m:Im}
theorem Im.list_so(hs:m.so=true)(n:Nat):m.list n=List.replicate n m.c:=by
 unfold Im.list;refine wQP (by simp) λi h1 h2=>?_;simp[Im.nth,Im.px,hs]
variable{h:Int}
theorem jZC{w:Int}(c:Px)(hf:zZi w h=true):(zQW w h c).pixels=List.replicate (w.toNat*h.toNat) c:=by
 rw[Im.pixels_of (zZ0 c hf),Im.list_so rfl];rfl
theorem Im.count_pos(hf:m.formed=true):0<m.w.toNat*m.h.toNat:=by
 obtain⟨f1,f2,f3,f4,f5⟩:=zXM (Im.formed_of hf).1;exact Nat.mul_pos (by omega) (by omega)
theorem Im.pixels_so(hf:m.formed=true)(hs:m.so=true):m.pixels=List.replicate (m.w.toNat*m.h.toNat) m.c:=by
 rw[Im.pixels_of hf,Im.list_so hs]
abbrev wX5:=@List.mem_replicate
theorem Im.valid_iff(hf:m.formed=true)(most:Int):m.valid most=0↔∀p∈m.pixels,p.ok most=true:=by
 obtain⟨h1,h2⟩:=Im.formed_of hf;unfold Im.valid;rw[if_neg (by simp[h1]),if_neg (by simp[h2])]
 cases hs:m.so with
 |true=>
  rw[if_pos rfl,Im.pixels_so hf hs];have:=Im.count_pos hf;constructor
  .intro h p hp;obtain⟨_,rfl⟩:=wX5.1 hp;split at h
   .assumption
   .cases h
  .intro h;rw[if_pos (h m.c (wX5.2 ⟨by omega,rfl⟩))]
 |false=>
  rw[if_neg (by simp),Im.pixels_of hf];unfold Im.okTo Im.count Im.list;constructor
  .intro h p hp;split at h
   .rename_i ha;obtain⟨k,hk,rfl⟩:=wQw.1 hp;exact List.all_eq_true.1 ha k hk
   .cases h
  .intro h;rw[if_pos (List.all_eq_true.2 λk hk=>h _ (wQw.2 ⟨k,hk,rfl⟩))]
abbrev wZn:=@IntWalk.u16_in
theorem zYT(n:Int){most:Int}(h0:0<=most)(h1:most<=65535):0<=zQ6 n most/\zQ6 n most<=most:=by
 unfold zQ6;rw[wQb most (by omega)];have a2:=@zZF (wrap .i64 (Int.tdiv n 8)) 2 (by omega) (by omega);have a4:=@zZF (wrap .i64 (Int.tdiv n 8)) 4 (by omega) (by omega);split
 .omega
 .split
  .omega
  .split
   .rw[wQb (most+_) (by omega)];have e:Int.tdiv (most+modS (wrap .i64 (Int.tdiv n 8)) 2) 2=(most+modS (wrap .i64 (Int.tdiv n 8)) 2) / 2:=wQ5 (by omega);rw[e,wQb _ (by omega),wZn _ (by omega)];omega
   .split
    .rw[wZn _ (by omega)];omega
    .rw[wQb (most+1) (by omega)];have a:=@zZF (wrap .i64 (Int.tdiv n 8)) (most+1) (by omega) (by omega);rw[wZn _ (by omega)];omega
theorem jHC(n0 n1 n2 n3 n4:Int){most:Int}(h0:0<=most)(h1:most<=65535):(zJr n0 n1 n2 n3 n4 most).ok most=true/\0<=(zJr n0 n1 n2 n3 n4 most).a/\0<=(zJr n0 n1 n2 n3 n4 most).b/\0<=(zJr n0 n1 n2 n3 n4 most).c/\0<=(zJr n0 n1 n2 n3 n4 most).al:=by
 have hf:=zYT n4 h0 h1;have key:∀a f:Int,0<=a->a<=f->f<=most->Px.ok ⟨zQ6 n0 a,zQ6 n1 a,zQ6 n2 a,a,f⟩ most=true/\0<=zQ6 n0 a/\0<=zQ6 n1 a/\0<=zQ6 n2 a/\0<=a:=λa f k0 k1 k2=>by
  have q0:=zYT n0 k0 (by omega);have q1:=zYT n1 k0 (by omega);have q2:=zYT n2 k0 (by omega);simp[Px.ok];omega
 unfold zJr;simp only;split
 .have ha:=zYT (wrap .i64 (Int.tdiv n3 3)) hf.1 (by omega);exact key _ _ ha.1 ha.2 hf.2
 .exact key _ _ hf.1 (Int.le_refl _) hf.2
def Px.fine(p:Px)(most:Int):Prop:=p.ok most=true/\0<=p.a/\0<=p.b/\0<=p.c/\0<=p.al
theorem jWU(mood:Int)(L:Nat)(xs:List DV){most:Int}(h0:0<=most)(h1:most<=65535)(k:Nat):(gPx mood L xs most k).fine most:=by
 have hz:Px.zero.fine most:=⟨by simp[Px.ok,Px.zero,h0],by decide,by decide,by decide,by decide⟩
 have hp:∀k,(gPx1 L xs most k).fine most:=λk=>jHC _ _ _ _ _ h0 h1;unfold gPx;split
 .exact hz
 .split
  .obtain⟨a,b⟩:=hp k;refine⟨?_,b.1,b.2.1,b.2.2.1,h0⟩;simp[Px.ok]at a |-;omega
  .split
   .exact hp 0
   .exact hp k
theorem jQ3(pw ph so mood:Int)(L:Nat)(xs:List DV)(x0 y0 x1 y1:Int){most:Int}(h0:0<=most)(h1:most<=65535)(hc:1<=x1-x0/\x1-x0<=100/\1<=y1-y0/\y1-y0<=100):∀p∈(zJj pw ph so mood L xs x0 y0 x1 y1 most).pixels,p.fine most:=by
 have hf:=(zHg pw ph so mood L xs x0 y0 x1 y1 most hc).1;intro p hp;rw[zUV pw ph so mood L xs x0 y0 x1 y1 most _ _ rfl rfl]at hf hp;split at hf
 .rename_i hs;rw[if_pos hs,Im.pixels_so hf rfl]at hp;obtain⟨_,rfl⟩:=wX5.1 hp;exact jWU _ _ _ h0 h1 _
 .rename_i hs;rw[if_neg hs]at hp
  cases hk:ofOk (zJy pw 5 x0 x1 pw) (zJy ph 4 y0 y1 pw) (zQy mood L xs most (wrap .i64 (zJy pw 5 x0 x1 pw*zJy ph 4 y0 y1 pw)).toNat).length with
  |true=>
   rw[(jVY hk).2]at hp;unfold zQy at hp;obtain⟨k,_,rfl⟩:=wQw.1 hp;exact jWU _ _ _ h0 h1 _
  |false=>
   rw[jQU hk]at hf;exact absurd hf (by decide)
def okO(bits:Int)(mn:Nat):List Oq->List Oq->Option (List Oq)
 |[],st=>some st
 |o::r,st=>if errO bits mn o st=0 then okO bits mn r (zXf o st) else none
theorem zKd{bits:Int}{mn:Nat}:∀(l m:List Oq)(st:List Oq),okO bits mn (l++m) st=(okO bits mn l st).bind (okO bits mn m)
 |[],m,st=>rfl
 |o::l,m,st=>by
  simp only[List.cons_append,okO];split
  .exact zKd l m _
  .rfl
theorem jVm{bits:Int}{mn:Nat}:∀(l m:List Oq)(i:Int)(st st':List Oq),okO bits mn l st=some st'->runO bits mn (l++m) i st=runO bits mn m (i+l.length) st'
 |[],m,i,st,st',h=>by
  simp only[okO,wQa]at h;subst h;simp
 |o::l,m,i,st,st',h=>by
  simp only[okO]at h;split at h
  .rename_i he;simp only[List.cons_append,runO];rw[if_pos he,jVm l m _ _ _ h];congr 1;simp only[wQC,Int.natCast_add,Int.natCast_one];omega
  .cases h
variable{st:List Oq}
theorem jYO{bits:Int}(h:st≠[]):errO bits mn popO st=0:=by
 have h1:popO.kind=3:=rfl;have h2:popO.fields=true:=by decide
 unfold errO;rw[if_neg (by rw[h1];simp),if_neg (by rw[h2];simp),if_pos h1,if_neg h]
theorem jWH{bits:Int}{mn:Nat}:∀(n:Nat)(st:List Oq),n<=st.length->okO bits mn (List.replicate n popO) st=some (st.take (st.length-n))
 |0,st,_=>by simp[okO]
 |n+1,st,h=>by
  have hne:st≠[]:=by intro e;subst e;simp at h
  have h1:popO.kind=3:=rfl;rw[List.replicate_succ,okO,if_pos (jYO hne)];have e:zXf popO st=st.dropLast:=by unfold zXf;rw[if_neg (by rw[h1];decide),if_pos h1]
  rw[e,jWH n _ (by simp;omega),wZ6,List.take_take];congr 2;simp;omega
variable{o:Oq}
theorem jYt{bits:Int}(h:errO bits mn o st=0):okO bits mn [o] st=some (zXf o st):=by
 simp only[okO];rw[if_pos h]
theorem zUU{n c:Int}(h : -100<=c/\c<=100) : -200<=gOff n c/\gOff n c<=200:=by
 have b:=@zZF (wrap .i64 (Int.tdiv n 3)) 9 (by omega) (by omega);unfold gOff;split<;>omega
theorem yYe{bits:Int}{mn:Nat}{r:Rw}{push:Bool}{c:Rc}{most:Int}{st:List Oq}(hm:1<=mn/\mn<=64)(hc:(-100<=c.a/\c.a<=100) /\ -100<=c.b/\c.b<=100)(hb:zQA bits=most)(h0:0<=most/\most<=65535)(hl:st.length<64) :
  errO bits mn (gOp r push mn c (ctxB st) most) st=0:=by
 have b1:=@zZF r.im mn (by omega) (by omega);have b2:=@zZF (wrap .i64 (Int.tdiv r.ma 4)) mn (by omega) (by omega);have b3:=@zZF (wrap .i64 (Int.tdiv r.ope 2)) 12 (by omega) (by omega);have b4:=@zZF (wrap .i64 (Int.tdiv r.mo 2)) 12 (by omega) (by omega);have o1:=@zUU r.x c.a hc.1;have o2:=@zUU r.y c.b hc.2;have o3:=@zUU r.mx c.a hc.1;have o4:=@zUU r.my c.b hc.2;have s1:=zYT (wrap .i64 (Int.tdiv r.op 2)) h0.1 h0.2;unfold errO;rw[hb];rw[if_neg (by simp[gOp];cases push<;>simp)]
 rw[if_neg (by
  cases push<;>simp only[gOp,Oq.fields]<;>by_cases q:modS r.ma 4=0<;>simp[q]<;>omega)]
 rw[if_neg (by cases push<;>simp[gOp])]
 rw[if_neg (by
  cases push<;>simp only[gOp]<;>by_cases q:modS r.ma 4=0<;>simp[q]<;>omega)]
 rw[if_neg (by
  simp only[Decidable.not_not,zUJ,gOp]
  refine⟨?_,?_,?_,?_⟩<;>split<;>omega)]
 rw[if_neg (by simp only[gOp];split<;>omega)];rw[if_neg (by simp only[gOp];split<;>omega)];rw[if_neg (by simp only[gOp];split<;>omega)]
 rw[if_neg (by
  simp only[gOp];intro⟨h1,h2⟩;rw[h2]at h1
  simp at h1)]
 rw[if_neg (by omega)]
theorem Scn.bits_max(s:Scn):zQA s.bits=s.most/\zWa s.bits=true:=by
 have:=s.most_in;unfold Scn.bits
 rcases this with h|h<;>rw[h]<;>decide
theorem Scn.run_okO(s:Scn)(k:Nat)(hk:k<=9):okO s.bits s.ims.length (s.run k).1 []=some (s.run k).2:=by
 induction k with
 |zero=>rfl
 |succ k ih=>
  have ih:=ih (by omega);have hl:=s.run_len k;have F:=s.c_facts;have li:=s.ims_len;have hm:0<=s.most/\s.most<=65535:=by rcases s.most_in with h|h<;>rw[h]<;>omega
  by_cases h:modS (rwAt s.rxs (k*11)).k 8=0/\0<(s.run k).2.length
  .rw[Scn.run_pop h,zKd,ih];have hne:(s.run k).2≠[]:=by intro e;rw[e]at h;simp at h
   show okO _ _ [popO] _=_
   rw[jYt (jYO hne)];rfl
  .obtain⟨r1,r2⟩:=Scn.run_op h rfl;have he:=@yYe s.bits s.ims.length (rwAt s.rxs (k*11)) (decide (modS (rwAt s.rxs (k*11)).k 8<3)) s.c s.most (s.run k).2 (by omega) (by omega) s.bits_max.1 hm (by omega);have hkd:(gOp (rwAt s.rxs (k*11)) (decide (modS (rwAt s.rxs (k*11)).k 8<3)) s.ims.length s.c (ctxB (s.run k).2) s.most).kind=if modS (rwAt s.rxs (k*11)).k 8<3 then 2 else 1:=by simp[gOp]
   generalize gOp (rwAt s.rxs (k*11)) (decide (modS (rwAt s.rxs (k*11)).k 8<3)) s.ims.length s.c (ctxB (s.run k).2) s.most=o at *;by_cases h2:o.kind=2
   .rw[r1 h2,zKd,ih]
    show okO _ _ [o] _=_
    rw[jYt he];unfold zXf;rw[if_pos h2]
   .have h3:o.kind≠3:=by rw[hkd];split<;>decide
    rw[r2 h2,zKd,ih]
    show okO _ _ [o] _=_
    rw[jYt he];unfold zXf;rw[if_neg h2,if_neg h3]
theorem Scn.ops_ok(s:Scn):okO s.bits s.ims.length s.ops []=some []:=by
 unfold Scn.ops;rw[zKd,s.run_okO _ (by omega)]
 show okO _ _ _ _=_
 rw[jWH _ _ (Nat.le_refl _),wZa];rfl
theorem Scn.ops_len(s:Scn):s.ops.length<=18:=by
 have:=s.run_len (min s.rn 9);unfold Scn.ops;simp;omega
theorem Scn.ord_len(s:Scn):s.ord.length<=64:=by
 have ht:=s.tiles_in;unfold Scn.ord zKc;split
 .simp
 .have:=(zGj (ints s.oxs) (n:=s.tiles.toNat) (by omega) s.tiles.toNat (Nat.le_refl _)).2;omega
theorem Scn.ops_run(s:Scn):runO s.bits s.ims.length s.ops 0 []=(0,0):=by
 have:=jVm s.ops [] 0 [] [] s.ops_ok;rw[wQ8]at this;rw[this];simp[runO]
theorem Scn.frame_ok(s:Scn)(h1:mn<=64)(h2:pn<=4096):zYy s.bits s.c s.gtw s.gth s.ord mn pn=0:=by
 obtain⟨c1,c2,c3⟩:=s.cnt;obtain⟨f1,f2,f3,f4,f5,f6⟩:=s.facts;have CF:=s.c_facts;have he:Rc.empty s.c=false:=by rw[Rc.empty_iff];omega
 refine jHD s.bits_max.2 he ?_ ((zUJ _).2 (by omega)) ((zUJ _).2 (by omega)) c1 ?_ h1 h2
 .unfold Rc.area;rw[he,CF.1,CF.2.1];have:=wQz f3.2 f4.2 (by omega) (by omega);simp;omega
 .have ht:=s.tiles_in;exact(yZZ (l:=ints s.oxs) ht.1 (by omega)).1
theorem Scn.fine(s:Scn):∀m∈s.ims,m.formed=true/\(m.w<=100/\m.h<=100)/\m.valid s.most=0/\∀more,(zYc m more).valid s.most=0:=by
 have CF:=s.c_facts;have hq:1<=s.c.c-s.c.a/\s.c.c-s.c.a<=100/\1<=s.c.d-s.c.b/\s.c.d-s.c.b<=100:=by have:=s.facts;omega
 have hm:0<=s.most/\s.most<=65535:=by rcases s.most_in with h|h<;>rw[h]<;>omega
 have key:∀m:Im,m.formed=true->m.w<=100/\m.h<=100->(∀p∈m.pixels,p.fine s.most)->m.formed=true/\(m.w<=100/\m.h<=100)/\m.valid s.most=0/\∀more,(zYc m more).valid s.most=0:=λm h1 h2 h3=>by
  refine⟨h1,h2,(Im.valid_iff h1 _).2 λp hp=>(h3 p hp).1,λmore=>(Im.valid_iff (zV2 h1 h2 more) _).2 λp hp=>?_⟩;rw[jQ2 h1 h2 more]at hp;exact(h3 p hp).1
 intro m hmem;unfold Scn.ims at hmem;split at hmem
 .rw[wQr]at hmem;subst hmem;have F:=s.facts;have hf:zZi s.gw s.gh=true:=by
   have:=wQz F.2.2.1.2 F.2.2.2.1.2 (by omega) (by omega);simp[zZi];omega
  refine key _ (zZ0 _ hf) ⟨by show s.gw<=100;omega,by show s.gh<=100;omega⟩ λp hp=>?_;change p∈(zQW s.gw s.gh ⟨s.most,0,0,s.most,s.most⟩).pixels at hp;rw[Im.pixels_of (zZ0 _ hf),Im.list,wQw]at hp;obtain⟨k,_,rfl⟩:=hp;have e:(zQW s.gw s.gh ⟨s.most,0,0,s.most,s.most⟩).nth k=⟨s.most,0,0,s.most,s.most⟩:=by simp[Im.nth,Im.px,zQW]
  change ((zQW s.gw s.gh ⟨s.most,0,0,s.most,s.most⟩).nth k).fine s.most;rw[e];exact⟨by simp[Px.ok];omega,by simp only;omega,by simp only;omega,by simp only;omega,by simp only;omega⟩
 .simp only[Scn.pics,wQw]at hmem;obtain⟨k,_,rfl⟩:=hmem;obtain⟨gf,g1,g2,g3,g4⟩:=zHg (nAt s.pxs (k*5)) (nAt s.pxs (k*5+1)) (nAt s.pxs (k*5+2)) (nAt s.pxs (k*5+3)) (lAt s.pxs (k*5+4)) (cAt s.pxs (k*5+4)) s.c.a s.c.b s.c.c s.c.d s.most hq;exact key _ gf ⟨g2,g4⟩ λp hp=>jQ3 _ _ _ _ _ _ _ _ _ _ hm.1 hm.2 hq p hp
inductive Fo where
  |nil
  |draw (o:Oq) (r:Fo)
  |grp (o:Oq) (k r:Fo)
def Fo.flat:Fo->List Oq
 |.nil=>[]
 |.draw o r=>o::r.flat
 |.grp o k r=>o::(k.flat++popO::r.flat)
def Fo.ok:Fo->Prop
 |.nil=>True
 |.draw o r=>o.kind=1/\r.ok
 |.grp o k r=>o.kind=2/\k.ok/\r.ok
def Fo.size:Fo->Nat
 |.nil=>0
 |.draw _ r=>r.size+1
 |.grp _ k r=>k.size+r.size+2
theorem Fo.flat_len:∀f:Fo,f.flat.length=f.size
 |.nil=>rfl
 |.draw o r=>by simp[Fo.flat,Fo.size,r.flat_len]
 |.grp o k r=>by simp[Fo.flat,Fo.size,k.flat_len,r.flat_len];omega
def unfl:Fo->List Fo->List Oq
 |f,[]=>f.flat
 |f,g::fs=>f.flat++popO::unfl g fs
theorem jGh(o:Oq)(f:Fo)(fs:List Fo):unfl (.draw o f) fs=o::unfl f fs:=by
 cases fs<;>simp[unfl,Fo.flat]
theorem yQd(o:Oq)(f g:Fo)(fs:List Fo):unfl (.grp o f g) fs=o::(f.flat++popO::unfl g fs):=by
 cases fs<;>simp[unfl,Fo.flat]
theorem zYz{bits:Int}(h:errO bits mn o st=0):o.kind=1\/o.kind=2\/(o=popO/\st≠[]):=by
 unfold errO at h;split at h
 .cases h
 .rename_i h1;have h1:=Decidable.not_not.1 h1;split at h
  .cases h
  .rename_i h2;split at h
   .rename_i h3;split at h
    .cases h
    .rename_i h4;refine .inr (.inr ⟨?_,h4⟩);have h2:o.fields=true:=by simpa using h2
     unfold Oq.fields at h2;rw[if_pos h3]at h2;simpa using h2
   .rcases h1 with h1|h1|h1
    .exact .inl h1
    .exact .inr (.inl h1)
    .exact absurd h1 (by assumption)
abbrev wXJ:=@List.length_dropLast
theorem yYg{bits:Int}{mn:Nat}:∀(l st:List Oq),okO bits mn l st=some []->∃f fs,fs.length=st.length/\l=unfl f fs/\f.ok/\∀g∈fs,g.ok
 |[],st,h=>by
  simp only[okO,wQa]at h;subst h;exact⟨.nil,[],rfl,rfl,trivial,by simp⟩
 |o::l,st,h=>by
  simp only[okO]at h;split at h
  .rename_i he;obtain⟨f,fs,h1,h2,h3,h4⟩:=yYg l _ h
   rcases zYz he with hk|hk|⟨rfl,hne⟩
   .have e:zXf o st=st:=by unfold zXf;rw[if_neg (by omega),if_neg (by omega)]
    rw[e]at h1;exact⟨.draw o f,fs,h1,by rw[h2,jGh],⟨hk,h3⟩,h4⟩
   .have e:zXf o st=st++[o]:=by unfold zXf;rw[if_pos hk]
    rw[e]at h1
    cases fs with
    |nil=>simp at h1
    |cons g fs=>
     refine⟨.grp o f g,fs,by simpa using h1,by rw[h2,yQd];rfl,⟨hk,h3,h4 g List.mem_cons_self⟩,λq hq=>h4 q (List.mem_cons_of_mem _ hq)⟩
   .have e:zXf popO st=st.dropLast:=by unfold zXf;rw[if_neg (by decide),if_pos (by decide)]
    rw[e,wXJ]at h1;have:=wZV.2 hne;refine⟨.nil,f::fs,by simp;omega,by rw[h2];rfl,trivial,λq hq=>?_⟩
    rcases wQm.1 hq with rfl|hq
    .exact h3
    .exact h4 q hq
  .cases h
theorem jYK{bits:Int}{l:List Oq}(h:okO bits mn l []=some []):∃f:Fo,f.ok/\l=f.flat:=by
 obtain⟨f,fs,h1,h2,h3,h4⟩:=yYg l [] h
 cases fs with
 |nil=>exact⟨f,h3,h2⟩
 |cons g fs=>simp at h1
theorem jXo{bits:Int}{mn:Nat}:∀(l:List Oq)(i:Int)(st:List Oq),(runO bits mn l i st).1=0->okO bits mn l st=some []
 |[],i,st,h=>by
  simp only[runO]at h;split at h
  .rename_i e;subst e;rfl
  .cases h
 |o::l,i,st,h=>by
  simp only[runO]at h;simp only[okO];split at h
  .rename_i he;rw[if_pos he];exact jXo l _ _ h
  .rename_i he;exact absurd h he
theorem zQn(s:Scr):(⟨s.bits,s.c,s.tw,s.th,ints (is s.ord),zQr (ims s.ims),zQi (ops s.ops)⟩:Scr)=s:=zQv s
def zZf(op:Int):Bool:=decide (op=3\/op=4\/op=5\/op=9\/op=10\/op=12)
def farB(v:Int):Bool:=decide (v < -1099511627776\/v>1099511627776)
def zZ3(s:Scr)(i x y:Int):Rc:=
 if 0<=i then match s.ims[i.toNat]? with
  |some m=>if farB x || farB y || farB m.w || farB m.h then Rc.zero else Rc.inter ⟨x,y,x+m.w,y+m.h⟩ s.c
  |none=>Rc.zero
 else Rc.zero
def imgR(s:Scr)(o:Oq):Rc:=if o.kind=1 then zZ3 s o.image o.x o.y else Rc.zero
def zYN(s:Scr)(o:Oq):Rc:=if o.mask=0 then s.c.inter s.c else if o.mask<0 then Rc.zero else zZ3 s (o.mask-1) o.mx o.my
def boxF(s:Scr)(o:Oq)(src:Rc):Rc:=if zZf o.oper=false then s.c else if o.opac=0 then Rc.zero else src.inter (zYN s o)
variable{s:Scr}{i:Int}
theorem jQx(x y:Int)(h:i<0\/(s.ims.length:Int)<=i):zZ3 s i x y=Rc.zero:=by
 unfold zZ3;split
 .rw[wQW (by omega)]
 .rfl
theorem zGH(x y:Int)(h:0<=i)(h2:i.toNat<s.ims.length):zZ3 s i x y=if farB x || farB y || farB s.ims[i.toNat].w || farB s.ims[i.toNat].h then Rc.zero else Rc.inter ⟨x,y,x+s.ims[i.toNat].w,y+s.ims[i.toNat].h⟩ s.c:=by
 unfold zZ3;rw[if_pos h,List.getElem?_eq_getElem h2]
abbrev Bst:=List Rc × List Int × List Rc
def topB(hs:List Rc)(b:Rc):List Rc:=hs.set (hs.length-1) (zZX [(hs[hs.length-1]?).getD Rc.zero,b])
def zHs(s:Scr)(i:Nat)(o:Oq)(z:Bst):Bst:=
 if o.kind=1 then(z.1.set i (boxF s o (imgR s o)),z.2.1,z.2.2)
 else
  let p:=(z.2.1[z.2.1.length-1]?).getD 0
  let b:=boxF s ((s.ops[p.toNat]?).getD popO) ((z.2.2[z.2.2.length-1]?).getD Rc.zero)
  ((z.1.set i b).set p.toNat b,z.2.1.dropLast,z.2.2.dropLast)
def zHr(s:Scr)(i:Nat)(o:Oq)(z:Bst):Bst:=
 if o.kind=2 then(z.1,z.2.1++[(i:Int)],z.2.2++[Rc.zero])
 else
  let y:=zHs s i o z
  (y.1,y.2.1,topB y.2.2 ((y.1[i]?).getD Rc.zero))
def runB(s:Scr):Nat->Bst
 |0=>(List.replicate s.ops.length Rc.zero,[],[Rc.zero])
 |k+1=>zHr s k ((s.ops[k]?).getD popO) (runB s k)
def zXB(s:Scr):List Rc × Int:=if s.run.1=0 then((runB s s.ops.length).1,0) else([],s.run.1)
theorem zJL(h:s.run.1=0):s.frame=0/\okO s.bits s.ims.length s.ops []=some []:=by
 unfold Scr.run opsE at h;split at h
 .rename_i h1;exact⟨h1,jXo _ _ _ h⟩
 .rename_i h1;exact absurd h h1
theorem jKA(h:s.frame=0):s.ims.length<=64/\s.ops.length<=4096:=by
 unfold Scr.frame zYy at h;split at h
 .cases h
 .split at h
  .cases h
  .split at h
   .cases h
   .split at h
    .cases h
    .split at h
     .cases h
     .omega
theorem jYs{bits:Int}{l:List Oq}(h:okO bits mn l []=some [])(k:Nat):∃st,okO bits mn (l.take k) []=some st/\okO bits mn (l.drop k) st=some []:=by
 have e:=wZJ k l;rw[<-e,zKd]at h
 cases hk:okO bits mn (l.take k) []with
 |none=>rw[hk]at h;cases h
 |some st=>rw[hk]at h;exact⟨st,rfl,h⟩
theorem zHO{bits:Int}{l:List Oq}{k:Nat}(h1:okO bits mn (l.take k) []=some st)(h2:okO bits mn (l.drop k) st=some [])(hk:k<l.length):errO bits mn l[k] st=0/\okO bits mn (l.take (k+1)) []=some (zXf l[k] st):=by
 rw[wXl hk,okO]at h2;split at h2
 .rename_i he;refine⟨he,?_⟩;rw[wZm,List.getElem?_eq_getElem hk,zKd,h1]
  show okO _ _ [l[k]] st=_
  rw[jYt he]
 .cases h2
theorem jZ6{s:Scr}(h:s.run.1=0):∀k,k<=s.ops.length->∃st:List Oq,okO s.bits s.ims.length (s.ops.take k) []=some st/\okO s.bits s.ims.length (s.ops.drop k) st=some [] /\
  (runB s k).1.length=s.ops.length/\(runB s k).2.1.length=st.length/\(runB s k).2.2.length=st.length+1/\st.length<=k/\∀p∈(runB s k).2.1,0<=p/\p<k
 |0,_=>⟨[],rfl,by simpa using (zJL h).2,by simp[runB],rfl,rfl,Nat.le_refl _,by simp[runB]⟩
 |k+1,hk=>by
  obtain⟨st,h1,h2,h3,h4,h5,h6,h7⟩:=jZ6 h k (by omega);have hlt:k<s.ops.length:=by omega
  obtain⟨he,h8⟩:=zHO h1 h2 hlt;obtain⟨st',h1',h2'⟩:=jYs (zJL h).2 (k+1);rw[h8]at h1';injection h1' with h1'
  subst h1';have hr:runB s (k+1)=zHr s k s.ops[k] (runB s k):=by
   rw[runB,List.getElem?_eq_getElem hlt];rfl
  rw[hr];refine⟨_,h8,h2',?_⟩
  rcases zYz he with hk1|hk1|⟨hk1,hne⟩
  .have e:zXf s.ops[k] st=st:=by unfold zXf;rw[if_neg (by omega),if_neg (by omega)]
   rw[e];unfold zHr zHs;rw[if_neg (by omega),if_pos hk1];refine⟨by simp[h3],h4,by simp[topB,h5],by omega,λp hp=>?_⟩;have:=h7 p hp;omega
  .have e:zXf s.ops[k] st=st++[s.ops[k]]:=by unfold zXf;rw[if_pos hk1]
   rw[e];unfold zHr;rw[if_pos hk1];refine⟨h3,by simp[h4],by simp[h5],by simp;omega,λp hp=>?_⟩
   rcases List.mem_append.1 hp with hp|hp
   .have:=h7 p hp;omega
   .rw[wQr]at hp;omega
  .have hk2:s.ops[k].kind=3:=by rw[hk1];rfl
   have e:zXf s.ops[k] st=st.dropLast:=by unfold zXf;rw[if_neg (by omega),if_pos hk2]
   have:=wZV.2 hne;rw[e];unfold zHr zHs;rw[if_neg (by omega),if_neg (by omega)];refine⟨by simp[h3],by simp[h4],by simp[topB,h5];omega,by simp;omega,λp hp=>?_⟩;have:=h7 p (List.dropLast_subset _ hp);omega
structure Ac where
  a:Int
  b:Int
  c:Int
  al:Int
  own:Int
  f:Int
deriving DecidableEq
def Ac.zero:Ac:=⟨0,0,0,0,0,0⟩
def Px.nn(p:Px):Prop:=0<=p.a/\0<=p.b/\0<=p.c
def Ac.nn(p:Ac):Prop:=0<=p.a/\0<=p.b/\0<=p.c/\0<=p.own
def zXe(m:Int):Bool:=decide (m=255\/m=65535)
def Ac.ok(x:Ac)(k:Px)(m:Int):Bool:=decide (x.a<=x.al/\x.b<=x.al/\x.c<=x.al)&&(zXe m&&(decide (x.own<=x.al/\x.own<=x.f/\x.al<=m/\x.f<=m)&&(k.ok m&&decide (k.f=k.al))))
def isNm(n:Int):Bool:=decide (1<=n/\n<13)
def zXu(kno:Bool)(op mode m:Int)(p:Px)(x:Ac)(k:Px):Bool:=isNm op&&(isNm mode&&(x.ok k m&&(p.ok m && !(kno&&decide (op≠4)))))
def accS(kno:Bool)(op mode m:Int)(p:Px)(x:Ac)(k:Px):Ac:=
 if kno then⟨knoC mode m p.a p.al p.f x.a k.a k.al,knoC mode m p.b p.al p.f x.b k.b k.al,knoC mode m p.c p.al p.f x.c k.c k.al,knoA m p.al p.f x.al k.al,knoA m p.al p.f x.own 0,zXX op p.f x.f m⟩
 else⟨colS op mode m p.a p.al x.a x.al,colS op mode m p.b p.al x.b x.al,colS op mode m p.c p.al x.c x.al,zZK op p.al x.al m,zZK op p.al x.own m,zXX op p.f x.f m⟩
def remS(m c own b:Int):Int:=if m*c>(m-own)*b then min (zZs (m*c-(m-own)*b) m) own else 0
def zZy(x:Ac)(k:Px)(m:Int):Px:=⟨remS m x.a x.own k.a,remS m x.b x.own k.b,remS m x.c x.own k.c,x.own,x.f⟩
def zXb(p:Px)(k m:Int):Px:=⟨zZs (p.a*k) m,zZs (p.b*k) m,zZs (p.c*k) m,zZs (p.al*k) m,zZs (p.f*k) m⟩
def zQG(iso kno:Bool)(x:Ac)(k:Px):Ac × Px:=
 let b:Px:=if iso then .zero else if kno then k else⟨x.a,x.b,x.c,x.al,x.al⟩
 (⟨b.a,b.b,b.c,b.al,0,0⟩,b)
abbrev wQH:=@of_decide_eq_true
variable{m:Int}
theorem zZC(h:zXe m=true):0<m/\m<=65535:=by
 have:=wQH h;omega
variable{p:Px}
theorem Px.ok_iff:p.ok m=true↔p.a<=p.al/\p.b<=p.al/\p.c<=p.al/\p.al<=p.f/\p.f<=m:=by
 simp[Px.ok]
variable{k:Px}{x:Ac}
theorem Ac.ok_iff:x.ok k m=true↔(x.a<=x.al/\x.b<=x.al/\x.c<=x.al)/\zXe m=true/\(x.own<=x.al/\x.own<=x.f/\x.al<=m/\x.f<=m)/\k.ok m=true/\k.f=k.al:=by
 simp[Ac.ok]
variable{mode d b:Int}
theorem jXH(h2:0<=d)(h3:d<=b):(zQk mode 0 0 d b).p=0/\(zQk mode 0 0 d b).q=0:=by
 have hh:zK4 d b 0 0=0:=by unfold zK4;split<;>simp
 have hh2:zK4 0 0 d b=0:=by unfold zK4;simp
 have hs:(zKn 0 0 d b).p=0/\(zKn 0 0 d b).q=0:=by
  unfold zKn;split
  .exact⟨rfl,rfl⟩
  .simp
 unfold zQk;rw[hh,hh2];by_cases c10:mode=10
 .subst c10;simpa using hs
 have key:∀(c:Prop)[Decidable c](x y:Ex),(x.p=0/\x.q=0)->(¬c->y.p=0/\y.q=0)->(if c then x else y).p=0/\(if c then x else y).q=0:=λc _ x y hx hy=>by
  split
  .exact hx
  .exact hy (by assumption)
 repeat' (first|(refine key _ _ _ ?_ λhc=>?_)|(simp[zZm];done))
theorem zUH{op:Int}(h:zZf op=true):op=3\/op=4\/op=5\/op=9\/op=10\/op=12:=wQH h
theorem zHi{op:Int}(h:zZf op=true):facB op 0 b m=m:=by
 rcases zUH h with rfl|rfl|rfl|rfl|rfl|rfl<;>simp[facB]
abbrev wZe:=@Int.mul_zero
theorem jYS{op:Int}(hm:0<m)(h:zZf op=true)(h2:0<=d)(h3:d<=b):colS op mode m 0 0 d b=d:=by
 have⟨e1,e2⟩:=jXH (mode:=mode) h2 h3;have hd:=(zQQ (mode:=mode) (s:=0) (a:=0) (Int.le_refl 0) (Int.le_refl 0) h2 h3).ok.d;unfold colS;refine Ex.half_whole ?_ ?_ ?_
 .exact wQG (wQG hm hm) hd
 .simp only[valS,e2,wZe]
 .simp only[valS,e1,zHi h];grind
abbrev wXK:=@Int.zero_add
theorem jXK{op:Int}(hm:0<m)(h:zZf op=true):zZK op 0 b m=b:=by
 unfold zZK;rw[zHi h,wZe,wXK,zZ7 hm]
theorem shape_zero{op g:Int}(hm:0<m)(h:zZf op=true):zXX op 0 g m=g:=by
 have e:m*0+(m-0)*g=m*g:=by grind
 unfold zXX
 rcases zUH h with rfl|rfl|rfl|rfl|rfl|rfl<;>simp[zZ7 hm]
theorem jQL{c:Int}(hm:0<m)(h2:0<=d)(h3:d<=b):knoC mode m 0 0 0 c d b=c:=by
 have⟨e1,e2⟩:=jXH (mode:=mode) h2 h3;have hd:=(zQQ (mode:=mode) (s:=0) (a:=0) (Int.le_refl 0) (Int.le_refl 0) h2 h3).ok.d;unfold knoC;refine Ex.half_whole ?_ ?_ ?_
 .exact wQG hm hd
 .exact e2
 .simp only[knoX,e1];grind
theorem jKg{acc:Int}(hm:0<m):knoA m 0 0 acc b=acc:=by
 unfold knoA;have e:(m-0)*acc+(0-0)*b+m*0=m*acc:=by grind
 rw[e,zZ7 hm]
variable{kno:Bool}
theorem jK1{op:Int}(h:zZf op=true)(hx:x.nn)(hk:k.nn)(ho:zXu kno op mode m .zero x k=true):accS kno op mode m .zero x k=x:=by
 simp only[zXu,wQd]at ho;obtain⟨_,_,h1,_,_⟩:=ho;obtain⟨⟨q1,q2,q3⟩,hf,⟨q4,q5,q6,q7⟩,hk2,hk3⟩:=Ac.ok_iff.1 h1;obtain⟨r1,r2,r3,r4,r5⟩:=Px.ok_iff.1 hk2;have hm:=(zZC hf).1;obtain⟨n1,n2,n3,n4⟩:=hx;obtain⟨k1,k2,k3⟩:=hk;obtain⟨a,b,c,al,own,f⟩:=x;simp only at *;unfold accS;split
 .simp only[Px.zero];rw[jQL hm k1 r1,jQL hm k2 r2,jQL hm k3 r3,jKg hm,jKg hm,shape_zero hm h]
 .simp only[Px.zero];rw[jYS hm h n1 q1,jYS hm h n2 q2,jYS hm h n3 q3,jXK hm h,jXK hm h,shape_zero hm h]
structure LvOk(m:Int)(iso kno:Bool)(x:Ac)(k:Px):Prop where
  ok:x.ok k m=true
  nn:x.nn
  kn:k.nn
  own:iso=true->kno=false->x.own=x.al
variable{iso:Bool}
theorem jVe{op:Int}(h:LvOk m iso kno x k)(hp:p.ok m=true)(hn:p.nn)(h1:isNm op=true)(h2:isNm mode=true)(hop:op=4\/(iso=true/\kno=false)):
  zXu kno op mode m p x k=true/\LvOk m iso kno (accS kno op mode m p x k) k:=by
 obtain⟨ok,⟨n1,n2,n3,n4⟩,kn,own⟩:=h;obtain⟨⟨q1,q2,q3⟩,hf,⟨q4,q5,q6,q7⟩,hk2,hk3⟩:=Ac.ok_iff.1 ok;obtain⟨r1,r2,r3,r4,r5⟩:=Px.ok_iff.1 hk2;obtain⟨p1,p2,p3,p4,p5⟩:=Px.ok_iff.1 hp;obtain⟨pn1,pn2,pn3⟩:=hn;have kn':=kn;obtain⟨k1,k2,k3⟩:=kn';have hm:=(zZC hf).1;refine⟨?_,?_⟩
 .have:(!(kno&&decide (op≠4)))=true:=by
   rcases hop with rfl|⟨_,rfl⟩<;>simp
  unfold zXu;rw[h1,h2,ok,hp,this];rfl
 obtain⟨xa,xb,xc,al,oo,f⟩:=x;obtain⟨pa,pb,pc,pl,pf⟩:=p;simp only at *
 cases kno with
 |true=>
  have hop:op=4:=hop.elim id λh=>absurd h.2 (by decide);subst hop;have c1:=jYz (mode:=mode) hm pn1 p1 p4 p5 k1 r1 (show k.al<=m by omega) n1 q1;have c2:=jYz (mode:=mode) hm pn2 p2 p4 p5 k2 r2 (show k.al<=m by omega) n2 q2;have c3:=jYz (mode:=mode) hm pn3 p3 p4 p5 k3 r3 (show k.al<=m by omega) n3 q3;have a1:=jYA (acc:=al) (b:=k.al) hm (show 0<=pl by omega) p4 p5 (by omega) q6 (by omega) (by omega);have a2:=jYA (acc:=oo) (b:=0) hm (show 0<=pl by omega) p4 p5 n4 (by omega) (by omega) (by omega);have sh:=zYo (op:=4) (a:=pl) (f:=pf) (b:=oo) (g:=f) hm (by omega) p4 p5 n4 q5 q7;have o1:knoA m pl pf oo 0<=knoA m pl pf al k.al:=by
   unfold knoA;apply zXm hm;have:=zQf (x:=m-pf) (y:=oo) (A:=m-pf) (B:=al) (by omega) (Int.le_refl _) n4 q4;have:=Int.mul_nonneg (show 0<=pf-pl by omega) (show 0<=k.al by omega);omega
  have o2:knoA m pl pf oo 0<=zZK 4 pl oo m:=by
   unfold knoA zZK;apply zXm hm;simp[facA,facB];have:=Int.mul_le_mul_of_nonneg_right (show m-pf<=m-pl by omega) n4;omega
  simp only[accS,if_true];exact⟨Ac.ok_iff.2 ⟨⟨by simp only;omega,by simp only;omega,by simp only;omega⟩,hf,⟨by simp only;omega,by simp only;omega,by simp only;omega,by simp only;omega⟩,hk2,hk3⟩,⟨by simp only;omega,by simp only;omega,by simp only;omega,by simp only;omega⟩,kn,λ_ h=>by cases h⟩
 |false=>
  have c1:=jYU (op:=op) (mode:=mode) hm pn1 p1 (show pl<=m by omega) n1 q1 q6;have c2:=jYU (op:=op) (mode:=mode) hm pn2 p2 (show pl<=m by omega) n2 q2 q6;have c3:=jYU (op:=op) (mode:=mode) hm pn3 p3 (show pl<=m by omega) n3 q3 q6;have top:=zYo (op:=op) (a:=pl) (f:=pf) (b:=al) (g:=m) hm (by omega) p4 p5 (by omega) q6 (Int.le_refl _);have sh:=zYo (op:=op) (a:=pl) (f:=pf) (b:=oo) (g:=f) hm (by omega) p4 p5 n4 q5 q7;have z:=jZq (op:=op) (a:=pl) (b:=oo) hm (by omega) (by omega) n4 (by omega);have o1:zZK op pl oo m<=zZK op pl al m:=by
   rcases hop with rfl|⟨hi,_⟩
   .unfold zZK;apply zXm hm;simp[facA,facB];exact Int.mul_le_mul_of_nonneg_left q4 (by omega)
   .rw[own hi rfl];exact Int.le_refl _
  simp only[accS];exact⟨Ac.ok_iff.2 ⟨⟨by simp;omega,by simp;omega,by simp;omega⟩,hf,⟨by simp;omega,by simp;omega,by simp;omega,by simp;omega⟩,hk2,hk3⟩,⟨by simp;omega,by simp;omega,by simp;omega,by simp;omega⟩,kn,λhi hk=>by simp[own hi hk]⟩
theorem jVB{c own:Int}(hm:0<m)(h:0<=own):0<=remS m c own b/\remS m c own b<=own:=by
 unfold remS;split
 .have:=zJi (n:=m*c-(m-own)*b) hm (by omega);omega
 .omega
theorem zYr(h:LvOk m iso kno x k):(zZy x k m).ok m=true/\(zZy x k m).nn:=by
 obtain⟨ok,⟨n1,n2,n3,n4⟩,kn,own⟩:=h;obtain⟨⟨q1,q2,q3⟩,hf,⟨q4,q5,q6,q7⟩,hk2,hk3⟩:=Ac.ok_iff.1 ok;have hm:=(zZC hf).1;have a:=jVB (c:=x.a) (b:=k.a) hm n4;have b:=jVB (c:=x.b) (b:=k.b) hm n4;have c:=jVB (c:=x.c) (b:=k.c) hm n4;exact⟨Px.ok_iff.2 ⟨a.2,b.2,c.2,q5,q7⟩,a.1,b.1,c.1⟩
variable{k:Int}
theorem jXZ(hm:0<m)(h:p.ok m=true)(hn:p.nn)(h0:0<=k)(h1:k<=m):(zXb p k m).ok m=true/\(zXb p k m).nn:=by
 obtain⟨p1,p2,p3,p4,p5⟩:=Px.ok_iff.1 h;obtain⟨n1,n2,n3⟩:=hn;have mo:∀{u v:Int},u<=v->zZs (u*k) m<=zZs (v*k) m:=λh=>zXm hm (Int.mul_le_mul_of_nonneg_right h h0);have nn:∀{u:Int},0<=u->0<=zZs (u*k) m:=λh=>zJi hm (Int.mul_nonneg h h0);have le:zZs (p.f*k) m<=m:=by
  refine wZU (zXz hm (k:=k) ?_) h1;exact Int.mul_le_mul_of_nonneg_right p5 h0
 exact⟨Px.ok_iff.2 ⟨mo p1,mo p2,mo p3,mo p4,le⟩,nn n1,nn n2,nn n3⟩
theorem zVY(hm:0<m):zZs 0 m=0:=by
 have:=zZ7 (c:=0) hm;rwa [wZe]at this
theorem zKp(hm:0<m):zXb .zero k m=.zero:=by
 simp[zXb,Px.zero,zVY hm]
theorem zJv(hm:0<m):zXb p 0 m=.zero:=by
 simp[zXb,Px.zero,zVY hm]
theorem zJE(hm:0<=m):Px.ok .zero m=true/\Px.zero.nn:=⟨Px.ok_iff.2 ⟨by decide,by decide,by decide,by decide,hm⟩,by decide,by decide,by decide⟩
variable{k:Px}
theorem zU9{iso' kno':Bool}(h:LvOk m iso kno x k):LvOk m iso' kno' (zQG iso' kno x k).1 (zQG iso' kno x k).2:=by
 obtain⟨ok,⟨n1,n2,n3,n4⟩,kn,own⟩:=h;obtain⟨⟨q1,q2,q3⟩,hf,⟨q4,q5,q6,q7⟩,hk2,hk3⟩:=Ac.ok_iff.1 ok;obtain⟨r1,r2,r3,r4,r5⟩:=Px.ok_iff.1 hk2;obtain⟨k1,k2,k3⟩:=kn;have hm:=(zZC hf).1;unfold zQG
 cases iso' with
 |true=>
  simp only[if_true];exact⟨Ac.ok_iff.2 ⟨⟨by decide,by decide,by decide⟩,hf,⟨by decide,by decide,by simp[Px.zero];omega,by simp only;omega⟩,(zJE (by omega)).1,rfl⟩,⟨by decide,by decide,by decide,by decide⟩,(zJE (m:=m) (by omega)).2,λ_ _=>rfl⟩
 |false=>
  cases kno with
  |true=>
   simp only[if_true];exact⟨Ac.ok_iff.2 ⟨⟨by simp;omega,by simp;omega,by simp;omega⟩,hf,⟨by simp;omega,by simp,by simp;omega,by simp;omega⟩,by simpa using hk2,by simpa using hk3⟩,⟨by simpa using k1,by simpa using k2,by simpa using k3,Int.le_refl 0⟩,by simpa using ⟨k1,k2,k3⟩,λh=>by cases h⟩
  |false=>
   simp only;exact⟨Ac.ok_iff.2 ⟨⟨by simp;omega,by simp;omega,by simp;omega⟩,hf,⟨by simp;omega,by simp,by simp;omega,by simp;omega⟩,Px.ok_iff.2 ⟨by simp;omega,by simp;omega,by simp;omega,by simp,by simp;omega⟩,by simp⟩,⟨by simpa using n1,by simpa using n2,by simpa using n3,Int.le_refl 0⟩,by simpa using ⟨n1,n2,n3⟩,λh=>by cases h⟩
theorem zG7:zZy (zQG iso kno x k).1 (zQG iso kno x k).2 m=.zero:=by
 have e:∀c,remS m c 0 c=0:=λc=>by unfold remS;rw[if_neg (by simp)]
 unfold zQG zZy;simp only[e];rfl
def runE:List Oq->Nat->List Int->List Int->List Int × Int
 |[],_,out,op=>if op=[] then(out,0) else([],18)
 |o::l,i,out,op=>
  if o.kind=1 then runE l (i+1) (out.set i i) op
  else if o.kind=2 then runE l (i+1) (out.set i i) (op++[(i:Int)])
  else if o.kind=3 then(if op=[] then([],18) else runE l (i+1) ((out.set i i).set ((op[op.length-1]?).getD 0).toNat i) op.dropLast)
  else([],9)
def zZj(l:List Oq):List Int × Int:=runE l 0 (List.replicate l.length 0) []
def endN:Nat->Fo->Nat->Nat
 |_,.nil,p=>p
 |n,.draw _ r,p=>if p=n then n else endN (n+1) r p
 |n,.grp _ k r,p=>if p=n\/p=n+k.size+1 then n+k.size+1 else if p<=n+k.size then endN (n+1) k p else endN (n+k.size+2) r p
def endF(n:Nat)(f:Fo):List Int:=(List.range f.size).map λj=>((endN n f (n+j):Nat):Int)
theorem zYA(n:Nat)(f:Fo):(endF n f).length=f.size:=by simp[endF]
theorem jZa(n:Nat)(o:Oq)(r:Fo):endF n (.draw o r)=(n:Int)::endF (n+1) r:=by
 unfold endF;rw[Fo.size,List.range_succ_eq_map,wQi,wZk];refine congr (congrArg List.cons (by simp[endN])) (List.map_congr_left λj _=>?_)
 show((endN n (.draw o r) (n+(j+1)):Nat):Int)=_
 rw[endN,if_neg (by omega),show n+(j+1)=n+1+j by omega]
abbrev wY4:=@List.getElem_append_right
abbrev wY3:=@List.getElem_append_left
theorem zHU(n:Nat)(o:Oq)(k r:Fo):endF n (.grp o k r)=((n+k.size+1:Nat):Int)::(endF (n+1) k++((n+k.size+1:Nat):Int)::endF (n+k.size+2) r):=by
 refine wQP (by simp[zYA,Fo.size];omega) λj h1 h2=>?_;have hj:j<k.size+r.size+2:=by simpa [endF,Fo.size]using h1
 have e:(endF n (.grp o k r))[j]=((endN n (.grp o k r) (n+j):Nat):Int):=by simp[endF]
 rw[e,endN]
 cases j with
 |zero=>simp
 |succ j=>
  rw[wZC];by_cases c1:j<k.size
  .rw[wY3 (by rw[zYA];exact c1),if_neg (by omega),if_pos (by omega)];simp only[endF,List.getElem_map,wZs];rw[show n+(j+1)=n+1+j by omega]
  .rw[wY4 (by rw[zYA];omega)];by_cases c2:j=k.size
   .subst c2;rw[if_pos (by omega)];simp[zYA]
   .rw[if_neg (by omega),if_neg (by omega)];obtain⟨m,rfl⟩:∃m,j=k.size+1+m:=⟨j-k.size-1,by omega⟩
    simp only[zYA,show k.size+1+m-k.size=m+1 by omega,wZC];simp only[endF,List.getElem_map,wZs];rw[show n+(k.size+1+m+1)=n+k.size+2+m by omega]
theorem zK9:∀(f:Fo)(n p:Nat),n<=p->p<n+f.size->p<=endN n f p/\endN n f p<n+f.size
 |.nil,n,p,_,h=>by simp[Fo.size]at h;omega
 |.draw o r,n,p,h1,h2=>by
  have ih:=zK9 r (n+1) p;simp only[Fo.size]at h2 |-;rw[endN];split<;>omega
 |.grp o k r,n,p,h1,h2=>by
  have ik:=zK9 k (n+1) p;have ir:=zK9 r (n+k.size+2) p;simp only[Fo.size]at h2 |-;rw[endN];split
  .omega
  .split<;>omega
theorem zUZ:∀(f:Fo)(n p q:Nat),n<=p->p<n+f.size->p<q->q<=endN n f p->endN n f q<=endN n f p
 |.nil,n,p,q,_,h,_,_=>by simp[Fo.size]at h;omega
 |.draw o r,n,p,q,h1,h2,h3,h4=>by
  have ih:=zUZ r (n+1) p q;have e:=zK9 r (n+1) p;simp only[Fo.size]at h2;rw[endN]at h4;rw[endN,endN];split at h4
  .omega
  .rw[if_neg (by omega),if_neg (by assumption)];exact ih (by omega) (by omega) h3 h4
 |.grp o k r,n,p,q,h1,h2,h3,h4=>by
  have ik:=zUZ k (n+1) p q;have ir:=zUZ r (n+k.size+2) p q;have ek:=zK9 k (n+1) p;have eq:=zK9 k (n+1) q;simp only[Fo.size]at h2;simp only[endN]at h4 |-;by_cases c:p=n\/p=n+k.size+1
  .simp only[c,if_true]at h4 |-;split
   .omega
   .split<;>omega
  .simp only[c,if_false]at h4 |-;by_cases c2:p<=n+k.size
   .simp only[c2,if_true]at h4 |-;rw[if_neg (by omega),if_pos (by omega)];exact ik (by omega) (by omega) h3 h4
   .simp only[c2,if_false]at h4 |-;rw[if_neg (by omega),if_neg (by omega)];exact ir (by omega) (by omega) h3 h4
theorem zK8:∀(f:Fo)(n p q:Nat),n<=p->p<n+f.size->p<q->q<endN n f p->endN n f q<endN n f p
 |.nil,n,p,q,_,h,_,_=>by simp[Fo.size]at h;omega
 |.draw o r,n,p,q,h1,h2,h3,h4=>by
  have ih:=zK8 r (n+1) p q;simp only[Fo.size]at h2;rw[endN]at h4;rw[endN,endN];split at h4
  .omega
  .rw[if_neg (by omega),if_neg (by assumption)];exact ih (by omega) (by omega) h3 h4
 |.grp o k r,n,p,q,h1,h2,h3,h4=>by
  have ik:=zK8 k (n+1) p q;have ir:=zK8 r (n+k.size+2) p q;have ek:=zK9 k (n+1) p;have eq:=zK9 k (n+1) q;simp only[Fo.size]at h2;simp only[endN]at h4 |-;by_cases c:p=n\/p=n+k.size+1
  .simp only[c,if_true]at h4 |-;split
   .omega
   .split<;>omega
  .simp only[c,if_false]at h4 |-;by_cases c2:p<=n+k.size
   .simp only[c2,if_true]at h4 |-;rw[if_neg (by omega),if_pos (by omega)];exact ik (by omega) (by omega) h3 h4
   .simp only[c2,if_false]at h4 |-;rw[if_neg (by omega),if_neg (by omega)];exact ir (by omega) (by omega) h3 h4
variable{α:Type}
theorem yZM(A:List α)(x:α)(B:List α)(v:α):(A++x::B).set A.length v=A++v::B:=by
 rw[List.set_append_right _ _ (Nat.le_refl _),wZa];rfl
theorem set_mid'{A:List α}{x:α}{B:List α}(v:α)(h:n=A.length):(A++x::B).set n v=A++v::B:=by
 subst h;exact yZM A x B v
theorem zKB{X:List α}(h:X.length=n+1):∃x Y,X=x::Y/\Y.length=n:=by
 cases X with
 |nil=>simp at h
 |cons x Y=>exact⟨x,Y,rfl,by simpa using h⟩
theorem jHj{X:List α}{a b:Nat}(h:X.length=a+b):∃U V,X=U++V/\U.length=a/\V.length=b:=
 ⟨X.take a,X.drop a,(wZJ a X).symm,by rw[wQl];omega,by rw[wQF];omega⟩
theorem jQu:popO.kind=3:=rfl
abbrev wZv:=@List.dropLast_concat
theorem jX2:∀(f:Fo)(A X B op:List Int)(tail:List Oq)(n:Nat),f.ok->n=A.length->X.length=f.size ->
  runE (f.flat++tail) n (A++(X++B)) op=runE tail (n+f.size) (A++(endF n f++B)) op
 |.nil,A,X,B,op,tail,n,_,_,hX=>by
  have:X=[]:=List.length_eq_zero_iff.1 hX;subst this;rfl
 |.draw o r,A,X,B,op,tail,n,ho,hn,hX=>by
  obtain⟨x,X,rfl,hX1⟩:=zKB (n:=r.size) hX;rw[jZa,Fo.flat,List.cons_append,runE,if_pos ho.1,List.cons_append,set_mid' _ hn];have ih:=jX2 r (A++[(n:Int)]) X B op tail (n+1) ho.2 (by simp[hn]) hX1;simp only[List.append_assoc,List.cons_append,List.nil_append]at ih;rw[ih,Fo.size,List.cons_append];congr 1;omega
 |.grp o k r,A,X,B,op,tail,n,ho,hn,hX=>by
  obtain⟨x,X,rfl,hX1⟩:=zKB (n:=k.size+r.size+1) hX;obtain⟨U,V,rfl,hU,hV⟩:=jHj (a:=k.size) (b:=r.size+1) (by omega:X.length=_);obtain⟨y,V,rfl,hV1⟩:=zKB (n:=r.size) hV;rw[zHU,Fo.flat,List.cons_append,runE,if_neg (by rw[ho.1];decide),if_pos ho.1,List.cons_append,set_mid' _ hn];have ik:=jX2 k (A++[(n:Int)]) U (y::V++B) (op++[(n:Int)]) (popO::(r.flat++tail)) (n+1) ho.2.1 (by simp[hn]) hU;simp only[List.append_assoc,List.cons_append,List.nil_append]at ik |-;rw[ik,runE,if_neg (by decide),if_neg (by decide),if_pos jQu,if_neg (by simp)];have e1:(A++(n:Int)::(endF (n+1) k++y::(V++B))).set (n+1+k.size) ((n+1+k.size:Nat):Int)=A++(n:Int)::(endF (n+1) k++((n+1+k.size:Nat):Int)::(V++B)):=by
   have:=set_mid' (A:=A++(n:Int)::endF (n+1) k) (x:=y) (B:=V++B) ((n+1+k.size:Nat):Int) (n:=n+1+k.size) (by simp[zYA];omega);simpa only[List.append_assoc,List.cons_append]using this
  rw[e1];have e2:(((op++[(n:Int)])[(op++[(n:Int)]).length-1]?).getD 0).toNat=n:=by simp
  rw[e2,set_mid' _ hn,wZv];have ir:=jX2 r (A++((n+1+k.size:Nat):Int)::(endF (n+1) k++[((n+1+k.size:Nat):Int)])) V B op tail (n+1+k.size+1) ho.2.2 (by simp[zYA];omega) hV1;simp only[List.append_assoc,List.cons_append,List.nil_append]at ir;rw[ir,Fo.size];have a1:n+1+k.size+1+r.size=n+(k.size+r.size+2):=by omega
  have a2:n+1+k.size+1=n+k.size+2:=by omega
  have a3:n+1+k.size=n+k.size+1:=by omega
  rw[a1,a2,a3]
theorem jWZ{f:Fo}(h:f.ok):zZj f.flat=(endF 0 f,0):=by
 have:=jX2 f [] (List.replicate f.size 0) [] [] [] 0 h rfl (by simp);simp only[wQ8,List.nil_append]at this;unfold zZj;rw[Fo.flat_len,this,runE,if_pos rfl]
variable{a:Rc}
theorem jZL(h:a=Rc.zero\/a.empty=false):Rc.hull Rc.zero a=a:=by
 unfold Rc.hull
 rcases h with rfl|h
 .rw[if_pos (by decide)]
 .rw[h,if_neg (by decide),if_pos (by decide)]
variable{b:Rc}
theorem jKn(h:a=Rc.zero\/a.empty=false):Rc.hull a b=Rc.zero\/(Rc.hull a b).empty=false:=by
 unfold Rc.hull;split
 .exact h
 .rename_i hb;have hb:b.empty=false:=by simpa using hb
  split
  .exact .inr hb
  .rename_i ha;have ha:a.empty=false:=by simpa using ha
   refine .inr ?_;rw[Rc.empty_iff]at *;simp only;omega
theorem jKo(h:a=Rc.zero\/a.empty=false):zZX [a,b]=Rc.hull a b:=by
 show Rc.hull (Rc.hull Rc.zero a) b=_
 rw[jZL h]
def zQS(s:Scr):Fo->List Rc
 |.nil=>[]
 |.draw o r=>boxF s o (imgR s o)::zQS s r
 |.grp o k r=>boxF s o (zZX (zQS s k))::zQS s r
def boxN(s:Scr):Nat->Fo->Nat->Rc
 |_,.nil,_=>Rc.zero
 |n,.draw o r,p=>if p=n then boxF s o (imgR s o) else boxN s (n+1) r p
 |n,.grp o k r,p=>if p=n\/p=n+k.size+1 then boxF s o (zZX (zQS s k)) else if p<=n+k.size then boxN s (n+1) k p else boxN s (n+k.size+2) r p
def boxL(s:Scr)(n:Nat)(f:Fo):List Rc:=(List.range f.size).map λj=>boxN s n f (n+j)
theorem zYd(s:Scr)(n:Nat)(f:Fo):(boxL s n f).length=f.size:=by simp[boxL]
theorem zU8(s:Scr)(n:Nat)(o:Oq)(r:Fo):boxL s n (.draw o r)=boxF s o (imgR s o)::boxL s (n+1) r:=by
 unfold boxL;rw[Fo.size,List.range_succ_eq_map,wQi,wZk];refine congr (congrArg List.cons (by simp[boxN])) (List.map_congr_left λj _=>?_)
 show boxN s n (.draw o r) (n+(j+1))=_
 rw[boxN,if_neg (by omega),show n+(j+1)=n+1+j by omega]
theorem zHW(s:Scr)(n:Nat)(o:Oq)(k r:Fo):boxL s n (.grp o k r)=boxF s o (zZX (zQS s k))::(boxL s (n+1) k++boxF s o (zZX (zQS s k))::boxL s (n+k.size+2) r):=by
 refine wQP (by simp[zYd,Fo.size];omega) λj h1 h2=>?_;have hj:j<k.size+r.size+2:=by simpa [boxL,Fo.size]using h1
 have e:(boxL s n (.grp o k r))[j]=boxN s n (.grp o k r) (n+j):=by simp[boxL]
 rw[e,boxN]
 cases j with
 |zero=>simp
 |succ j=>
  rw[wZC];by_cases c1:j<k.size
  .rw[wY3 (by rw[zYd];exact c1),if_neg (by omega),if_pos (by omega)];simp only[boxL,List.getElem_map,wZs];rw[show n+(j+1)=n+1+j by omega]
  .rw[wY4 (by rw[zYd];omega)];by_cases c2:j=k.size
   .subst c2;rw[if_pos (by omega)];simp[zYd]
   .rw[if_neg (by omega),if_neg (by omega)];obtain⟨m,rfl⟩:∃m,j=k.size+1+m:=⟨j-k.size-1,by omega⟩
    simp only[zYd,show k.size+1+m-k.size=m+1 by omega,wZC];simp only[boxL,List.getElem_map,wZs];rw[show n+(k.size+1+m+1)=n+k.size+2+m by omega]
structure Occ(s:Scr)(w:Fo)(n:Nat)(f:Fo):Prop where
  ok:f.ok
  fits:n+f.size<=w.size
  op:∀j,j<f.size->w.flat[n+j]?=f.flat[j]?
  en:∀p,n<=p->p<n+f.size->endN 0 w p=endN n f p
  bx:∀p,n<=p->p<n+f.size->boxN s 0 w p=boxN s n f p
variable{w:Fo}
theorem Occ.whole(s:Scr)(h:w.ok):Occ s w 0 w:=⟨h,by omega,λj _=>by rw[Nat.zero_add],λ_ _ _=>rfl,λ_ _ _=>rfl⟩
theorem Occ.draw{s:Scr}{w:Fo}{n:Nat}{o:Oq}{r:Fo}(h:Occ s w n (.draw o r)):o.kind=1/\n<w.size/\w.flat[n]?=some o/\endN 0 w n=n/\boxN s 0 w n=boxF s o (imgR s o)/\Occ s w (n+1) r:=by
 obtain⟨h1,h2,h3,h4,h5⟩:=h;simp only[Fo.size]at *;refine⟨h1.1,by omega,by simpa [Fo.flat]using h3 0 (by omega),by rw[h4 n (Nat.le_refl _) (by omega),endN,if_pos rfl],by rw[h5 n (Nat.le_refl _) (by omega),boxN,if_pos rfl],h1.2,by omega,λj hj=>?_,λp p1 p2=>?_,λp p1 p2=>?_⟩
 .have:=h3 (j+1) (by omega);rw[show n+1+j=n+(j+1) by omega,this];simp[Fo.flat]
 .rw[h4 p (by omega) (by omega),endN,if_neg (by omega)]
 .rw[h5 p (by omega) (by omega),boxN,if_neg (by omega)]
theorem Occ.grp{s:Scr}{w:Fo}{n:Nat}{o:Oq}{k r:Fo}(h:Occ s w n (.grp o k r)):o.kind=2/\n+k.size+1<w.size/\w.flat[n]?=some o/\w.flat[n+k.size+1]?=some popO/\endN 0 w n=n+k.size+1/\endN 0 w (n+k.size+1)=n+k.size+1 /\
  boxN s 0 w n=boxF s o (zZX (zQS s k))/\boxN s 0 w (n+k.size+1)=boxF s o (zZX (zQS s k))/\Occ s w (n+1) k/\Occ s w (n+k.size+2) r:=by
 obtain⟨h1,h2,h3,h4,h5⟩:=h;simp only[Fo.size]at *
 refine⟨h1.1,by omega,by simpa [Fo.flat]using h3 0 (by omega),?_,by rw[h4 n (Nat.le_refl _) (by omega),endN,if_pos (.inl rfl)],by rw[h4 _ (by omega) (by omega),endN,if_pos (.inr rfl)],by rw[h5 n (Nat.le_refl _) (by omega),boxN,if_pos (.inl rfl)],by rw[h5 _ (by omega) (by omega),boxN,if_pos (.inr rfl)],
  ⟨h1.2.1,by omega,λj hj=>?_,λp p1 p2=>?_,λp p1 p2=>?_⟩,⟨h1.2.2,by omega,λj hj=>?_,λp p1 p2=>?_,λp p1 p2=>?_⟩⟩
 .have:=h3 (k.size+1) (by omega);rw[<-Nat.add_assoc]at this;rw[this,Fo.flat,wQt,wQq (by rw[k.flat_len];omega),k.flat_len];simp
 .have:=h3 (j+1) (by omega);rw[show n+1+j=n+(j+1) by omega,this,Fo.flat,wQt,wQO (by rw[k.flat_len];omega)]
 .rw[h4 p (by omega) (by omega),endN,if_neg (by omega),if_pos (by omega)]
 .rw[h5 p (by omega) (by omega),boxN,if_neg (by omega),if_pos (by omega)]
 .have:=h3 (k.size+2+j) (by omega);rw[show n+k.size+2+j=n+(k.size+2+j) by omega,this,Fo.flat,show k.size+2+j=(k.size+(j+1))+1 by omega,wQt,wQq (by rw[k.flat_len];omega),k.flat_len,show k.size+(j+1)-k.size=j+1 by omega,wQt]
 .rw[h4 p (by omega) (by omega),endN,if_neg (by omega),if_neg (by omega)]
 .rw[h5 p (by omega) (by omega),boxN,if_neg (by omega),if_neg (by omega)]
theorem Occ.find{s:Scr}{w:Fo}:∀(f:Fo)(n:Nat),Occ s w n f->∀p,n<=p->p<n+f.size ->
  (∃o r,Occ s w p (.draw o r))\/(∃o k r,Occ s w p (.grp o k r))\/(∃q o k r,Occ s w q (.grp o k r)/\p=q+k.size+1)
 |.nil,n,h,p,h1,h2=>by simp[Fo.size]at h2;omega
 |.draw o r,n,h,p,h1,h2=>by
  simp only[Fo.size]at h2;by_cases e:p=n
  .subst e;exact .inl ⟨o,r,h⟩
  .exact Occ.find r (n+1) h.draw.2.2.2.2.2 p (by omega) (by omega)
 |.grp o k r,n,h,p,h1,h2=>by
  simp only[Fo.size]at h2;obtain⟨_,_,_,_,_,_,_,_,hk,hr⟩:=h.grp;by_cases e:p=n
  .subst e;exact .inr (.inl ⟨o,k,r,h⟩)
  .by_cases e2:p<=n+k.size
   .exact Occ.find k (n+1) hk p (by omega) (by omega)
   .by_cases e3:p=n+k.size+1
    .exact .inr (.inr ⟨n,o,k,r,h,e3⟩)
    .exact Occ.find r (n+k.size+2) hr p (by omega) (by omega)
variable{p:Nat}
theorem Occ.at(hw:w.ok)(h:p<w.size):
  (∃o r,Occ s w p (.draw o r))\/(∃o k r,Occ s w p (.grp o k r))\/(∃q o k r,Occ s w q (.grp o k r)/\p=q+k.size+1):=
 Occ.find w 0 (Occ.whole s hw) p (by omega) (by omega)
theorem jYE{l:List Oq}(h:l[n]?=some o):(l[n]?).getD popO=o:=by rw[h];rfl
theorem jQe(s:Scr)(n:Nat):runB s (n+1)=zHr s n ((s.ops[n]?).getD popO) (runB s n):=rfl
abbrev wZE:=@Nat.add_sub_cancel
theorem jX3{s:Scr}{w:Fo}(hs:s.ops=w.flat):∀(f:Fo)(n:Nat),Occ s w n f->∀(A X B:List Rc)(op:List Int)(hs:List Rc)(h:Rc),n=A.length->X.length=f.size->(h=Rc.zero\/h.empty=false) ->
  runB s n=(A++(X++B),op,hs++[h])->runB s (n+f.size)=(A++(boxL s n f++B),op,hs++[(zQS s f).foldl Rc.hull h])
 |.nil,n,ho,A,X,B,op,hs,h,hn,hX,hh,hr=>by
  have:X=[]:=List.length_eq_zero_iff.1 hX;subst this;exact hr
 |.draw o r,n,ho,A,X,B,op,hs',h,hn,hX,hh,hr=>by
  obtain⟨x,X,rfl,hX1⟩:=zKB (n:=r.size) hX;obtain⟨k1,_,k2,k3,k4,k5⟩:=ho.draw;have e1:runB s (n+1)=((A++[boxF s o (imgR s o)])++(X++B),op,hs'++[Rc.hull h (boxF s o (imgR s o))]):=by
   rw[jQe,hr,hs,jYE k2];unfold zHr zHs;rw[if_neg (by rw[k1];decide),if_pos k1];simp only[List.cons_append,List.append_assoc,List.nil_append];rw[set_mid' _ hn];have g:(A++boxF s o (imgR s o)::(X++B))[n]?=some (boxF s o (imgR s o)):=by subst hn;simp
   rw[g];simp only[wQA,topB,wQe,wQC,wZr,wZE];rw[wQq (Nat.le_refl _),wZa,wXh,wQA,jKo hh,set_mid' (A:=hs') _ (by simp)]
  have ih:=jX3 hs r (n+1) k5 _ X B op hs' _ (by simp[hn]) hX1 (jKn hh) e1;rw[zU8,Fo.size,show n+(r.size+1)=n+1+r.size by omega,ih];simp[zQS]
 |.grp o k r,n,ho,A,X,B,op,hs',h,hn,hX,hh,hr=>by
  obtain⟨x,X,rfl,hX1⟩:=zKB (n:=k.size+r.size+1) hX;obtain⟨U,V,rfl,hU,hV⟩:=jHj (a:=k.size) (b:=r.size+1) (by omega:X.length=_);obtain⟨y,V,rfl,hV1⟩:=zKB (n:=r.size) hV;obtain⟨k1,_,k2,k3,k4,k5,k6,k7,k8,k9⟩:=ho.grp;have e1:runB s (n+1)=((A++[x])++(U++(y::(V++B))),op++[(n:Int)],(hs'++[h])++[Rc.zero]):=by
   rw[jQe,hr,hs,jYE k2];unfold zHr;rw[if_pos k1];simp
  have ik:=jX3 hs k (n+1) k8 _ U _ _ _ _ (by simp[hn]) hU (.inl rfl) e1;have e2:runB s (n+1+k.size+1)=((A++boxF s o (zZX (zQS s k))::(boxL s (n+1) k++[boxF s o (zZX (zQS s k))]))++(V++B),op,hs'++[Rc.hull h (boxF s o (zZX (zQS s k)))]):=by
   rw[jQe,ik,hs,show n+1+k.size=n+k.size+1 by omega,jYE k3];have ep:(((op++[(n:Int)])[(op++[(n:Int)]).length-1]?).getD 0).toNat=n:=by simp
   have eh:(((hs'++[h]++[(zQS s k).foldl Rc.hull Rc.zero])[(hs'++[h]++[(zQS s k).foldl Rc.hull Rc.zero]).length-1]?).getD Rc.zero)=zZX (zQS s k):=by
    simp only[wQe,wQC,wZr,wZE];rw[wQq (by simp)];simp[zZX]
   unfold zHr zHs;rw[if_neg (by rw[jQu];decide),if_neg (by rw[jQu];decide)];simp only[ep,eh,hs,jYE k2,wZv];have s1:(A++[x]++(boxL s (n+1) k++y::(V++B))).set (n+k.size+1) (boxF s o (zZX (zQS s k)))=A++x::(boxL s (n+1) k++boxF s o (zZX (zQS s k))::(V++B)):=by
    have:=set_mid' (A:=A++[x]++boxL s (n+1) k) (x:=y) (B:=V++B) (boxF s o (zZX (zQS s k))) (n:=n+k.size+1) (by simp[zYd];omega);simpa only[List.append_assoc,List.cons_append,List.nil_append]using this
   rw[s1,set_mid' _ hn];have g:(A++boxF s o (zZX (zQS s k))::(boxL s (n+1) k++boxF s o (zZX (zQS s k))::(V++B)))[n+k.size+1]?=some (boxF s o (zZX (zQS s k))):=by
    have:(A++boxF s o (zZX (zQS s k))::boxL s (n+1) k++boxF s o (zZX (zQS s k))::(V++B))[n+k.size+1]?=some (boxF s o (zZX (zQS s k))):=by
     rw[wQq (by simp[zYd];omega)];have:n+k.size+1-(A++boxF s o (zZX (zQS s k))::boxL s (n+1) k).length=0:=by simp[zYd];omega
     rw[this];rfl
    simpa only[List.append_assoc,List.cons_append]using this
   rw[g];simp only[wQA,topB,wQe,wQC,wZr,wZE];rw[wQq (Nat.le_refl _),wZa,wXh,wQA,jKo hh,set_mid' (A:=hs') _ (by simp)];simp
  have ir:=jX3 hs r (n+k.size+2) k9 (A++boxF s o (zZX (zQS s k))::(boxL s (n+1) k++[boxF s o (zZX (zQS s k))])) V B op hs' _ (by simp[zYd];omega) hV1 (jKn hh) (by rw[show n+k.size+2=n+1+k.size+1 by omega];exact e2);rw[zHW,Fo.size,show n+(k.size+r.size+2)=n+k.size+2+r.size by omega,ir];simp[zQS]
theorem jUb(hw:w.ok)(hs:s.ops=w.flat):(runB s s.ops.length).1=boxL s 0 w:=by
 have h:=jX3 hs w 0 (Occ.whole s hw) [] (List.replicate s.ops.length Rc.zero) [] [] [] Rc.zero rfl (by rw[wXD,hs,w.flat_len]) (.inl rfl) (by simp[runB]);rw[hs,w.flat_len];rw[Nat.zero_add]at h;rw[h];simp
theorem yXR(h:s.run.1=0):∃w:Fo,w.ok/\s.ops=w.flat:=jYK (zJL h).2
open Classical in
noncomputable def foOf (s:Scr):Fo:=if h:∃w:Fo,w.ok/\s.ops=w.flat then Classical.choose h else .nil
theorem zXL(h:s.run.1=0):(foOf s).ok/\s.ops=(foOf s).flat:=by
 have h:=yXR h;unfold foOf;rw[dif_pos h];exact Classical.choose_spec h
theorem zZP(h:s.run.1=0):s.ops.length=(foOf s).size:=by
 have e:=congrArg List.length (zXL h).2;rw[Fo.flat_len]at e;exact e
theorem jHM(h:s.run.1=0):zZj s.ops=(endF 0 (foOf s),0):=by
 rw[(zXL h).2];have:=jWZ (zXL h).1;generalize foOf s=w at *;exact this
def enAt(s:Scr)(p:Nat):Nat:=(((zZj s.ops).1[p]?).getD 0).toNat
def bxAt(s:Scr)(p:Nat):Rc:=((zXB s).1[p]?).getD Rc.zero
def opAt(s:Scr)(p:Nat):Oq:=(s.ops[p]?).getD popO
theorem yQ5(h:s.run.1=0):(zZj s.ops).1.length=s.ops.length/\(zZj s.ops).2=0:=by
 rw[jHM h,zYA,<-zZP h];exact⟨rfl,rfl⟩
theorem zXN(h:s.run.1=0)(hp:p<s.ops.length):(zZj s.ops).1[p]?=some ((endN 0 (foOf s) p:Nat):Int)/\enAt s p=endN 0 (foOf s) p:=by
 have e:(zZj s.ops).1[p]?=some ((endN 0 (foOf s) p:Nat):Int):=by
  rw[jHM h];simp only[endF,Nat.zero_add];rw[wQY,wZ3 (by rw[<-zZP h];exact hp)];rfl
 exact⟨e,by unfold enAt;rw[e];simp⟩
theorem jV9(h:s.run.1=0)(hp:p<s.ops.length):(zZj s.ops).1[p]?=some ((enAt s p:Nat):Int):=by
 rw[(zXN h hp).2];exact(zXN h hp).1
theorem jUa(h:s.run.1=0):(zXB s).1=boxL s 0 (foOf s)/\(zXB s).2=0/\(zXB s).1.length=s.ops.length:=by
 have e:=jUb (zXL h).1 (zXL h).2;unfold zXB;rw[if_pos h,e];exact⟨rfl,rfl,by rw[zYd,<-zZP h]⟩
theorem zVc(h:s.run.1=0)(hp:p<s.ops.length):bxAt s p=boxN s 0 (foOf s) p:=by
 unfold bxAt;rw[(jUa h).1];simp only[boxL,Nat.zero_add];rw[wQY,wZ3 (by rw[<-zZP h];exact hp)];rfl
theorem jHX(h:s.run.1≠0):zXB s=([],s.run.1):=by
 unfold zXB;rw[if_neg h]
theorem yXA(h:s.run.1=0)(hp:p<s.ops.length):
  (∃o r,Occ s (foOf s) p (.draw o r)/\opAt s p=o/\o.kind=1/\enAt s p=p/\bxAt s p=boxF s o (imgR s o)) \/
  (∃o k r,Occ s (foOf s) p (.grp o k r)/\opAt s p=o/\o.kind=2/\enAt s p=p+k.size+1/\bxAt s p=boxF s o (zZX (zQS s k))/\p+k.size+1<s.ops.length) \/
  (∃q o k r,Occ s (foOf s) q (.grp o k r)/\p=q+k.size+1/\opAt s p=popO/\enAt s p=p/\opAt s q=o/\o.kind=2/\enAt s q=p/\bxAt s p=bxAt s q):=by
 obtain⟨hw,hs⟩:=zXL h;have hz:=zZP h;have g:∀{q:Nat}{o:Oq},(foOf s).flat[q]?=some o->opAt s q=o:=λ{q o} hq=>by
  unfold opAt;have:s.ops[q]?=some o:=by rw[<-hq];exact congrArg (λl:List Oq=>l[q]?) hs
  rw[this];rfl
 rcases Occ.at (s:=s) hw (p:=p) (by omega) with⟨o,r,ho⟩|⟨o,k,r,ho⟩|⟨q,o,k,r,ho,e⟩
 .obtain⟨k1,k0,k2,k3,k4,k5⟩:=ho.draw;exact .inl ⟨o,r,ho,g k2,k1,by rw[(zXN h hp).2];exact k3,by rw[zVc h hp];exact k4⟩
 .obtain⟨k1,k0,k2,k3,k4,k5,k6,k7,k8,k9⟩:=ho.grp;exact .inr (.inl ⟨o,k,r,ho,g k2,k1,by rw[(zXN h hp).2];exact k4,by rw[zVc h hp];exact k6,by omega⟩)
 .obtain⟨k1,k0,k2,k3,k4,k5,k6,k7,k8,k9⟩:=ho.grp;subst e;exact .inr (.inr ⟨q,o,k,r,ho,rfl,g k3,by rw[(zXN h hp).2];exact k5,g k2,k1,by rw[(zXN h (by omega)).2];exact k4,by rw[zVc h hp,zVc h (by omega),k7,k6]⟩)
theorem zGX(h:s.run.1=0)(hp:p<s.ops.length):p<=enAt s p/\enAt s p<s.ops.length:=by
 have:=zK9 (foOf s) 0 p (by omega) (by rw[<-zZP h];omega);rw[<-zZP h]at this;rw[(zXN h hp).2];omega
theorem zU0(h:s.run.1=0){q:Nat}(hp:p<s.ops.length)(h1:p<q)(h2:q<=enAt s p):enAt s q<=enAt s p:=by
 have he:=zGX h hp;have:=zUZ (foOf s) 0 p q (by omega) (by rw[<-zZP h];omega) h1 (by rw[<-(zXN h hp).2];exact h2);rw[(zXN h hp).2,(zXN h (p:=q) (by omega)).2];exact this
theorem jJ4(h:s.run.1=0)(hp:p<s.ops.length):(opAt s p).kind=1\/(opAt s p).kind=2\/((opAt s p).kind=3/\∃q,q<p/\(opAt s q).kind=2/\enAt s q=p/\bxAt s p=bxAt s q):=by
 rcases yXA h hp with⟨o,r,_,e1,e2,_⟩|⟨o,k,r,_,e1,e2,_⟩|⟨q,o,k,r,_,e0,e1,_,e2,e3,e4,e5⟩
 .exact .inl (by rw[e1];exact e2)
 .exact .inr (.inl (by rw[e1];exact e2))
 .exact .inr (.inr ⟨by rw[e1];rfl,q,by omega,by rw[e2];exact e3,e4,e5⟩)
theorem jHN(h:s.run.1=0)(hp:p<s.ops.length)(hk:(opAt s p).kind≠2):enAt s p=p:=by
 rcases yXA h hp with⟨o,r,_,e1,e2,e3,_⟩|⟨o,k,r,_,e1,e2,_⟩|⟨q,o,k,r,_,e0,e1,e2,_⟩
 .exact e3
 .exact absurd (by rw[e1];exact e2) hk
 .exact e2
theorem jJW(h:s.run.1=0)(hp:p<s.ops.length)(hk:(opAt s p).kind=2):p<enAt s p/\(opAt s (enAt s p)).kind=3/\bxAt s (enAt s p)=bxAt s p/\enAt s (enAt s p)=enAt s p:=by
 rcases yXA h hp with⟨o,r,_,e1,e2,e3,_⟩|⟨o,k,r,ho,e1,e2,e3,e4,e5⟩|⟨q,o,k,r,_,e0,e1,e2,_⟩
 .rw[e1]at hk;omega
 .obtain⟨k1,k0,k2,k3,k4,k5,k6,k7,k8,k9⟩:=ho.grp;rw[e3];refine⟨by omega,?_,?_,by rw[(zXN h (by omega)).2];exact k5⟩
  .have:opAt s (p+k.size+1)=popO:=by
    unfold opAt;have:s.ops[p+k.size+1]?=some popO:=by rw[<-k3];exact congrArg (λl:List Oq=>l[p+k.size+1]?) (zXL h).2
    rw[this];rfl
   rw[this];rfl
  .rw[zVc h (by omega),zVc h hp,k7,k6]
 .rw[e1]at hk;exact absurd hk (by decide)
def bs(l:List Bool):List DV:=l.map .bool
theorem jZh(l:List Bool):(bs l).length=l.length:=by simp[bs]
variable{k:Nat}{v:Bool}
theorem jHU{l:List Bool}(h:l[k]?=some v):(bs l)[k]?=some (.bool v):=by simp[bs,h]
theorem jHV{l:List Bool}(h:l[k]?=some v):bAt (bs l) k=v:=by simp[bAt,jHU h]
theorem yYk(l:List Bool)(k:Nat)(v:Bool):(bs l).set k (.bool v)=bs (l.set k v):=by simp[bs]
theorem yXw(n:Nat):bs (List.replicate n false)=List.replicate n (.bool false):=by simp[bs]
variable{v:Int}
theorem zXI{l:List Int}(h:l[k]?=some v):(is l)[k]?=some (.int .i64 v):=by simp[is,h]
theorem zXH{l:List Int}(h:l[k]?=some v):nAt (is l) k=v:=by simp[nAt,zXI h]
def hitB(s:Scr)(r:Rc)(p:Nat):Bool:=!(Rc.inter (bxAt s p) r).empty
def jH8(s:Scr)(r:Rc)(i k:Nat):Bool:=hitB s r i&&(List.range k).all λj=>!(decide ((opAt s j).kind=2)&&decide (i<enAt s j)) || hitB s r j
def zXV(s:Scr)(r:Rc)(i:Nat):Bool:=jH8 s r i i
def zXs(s:Scr)(r:Rc):List Bool × Int:=if s.run.1=0 then((List.range s.ops.length).map (zXV s r),0) else([],s.run.1)
def zJA(s:Scr)(r:Rc)(k:Nat):List Bool:=(List.range s.ops.length).map λp=>decide (p<k)&&zXV s r p
def Live(s:Scr)(r:Rc)(k:Nat):Prop:=∀j,j<k->(opAt s j).kind=2->k<enAt s j->hitB s r j=true
theorem jU4(s:Scr)(r:Rc):zJA s r 0=List.replicate s.ops.length false:=by
 refine wQP (by simp[zJA]) λp h1 h2=>?_;simp[zJA]
theorem jH7(s:Scr)(r:Rc):zJA s r s.ops.length=(List.range s.ops.length).map (zXV s r):=by
 refine List.map_congr_left λp hp=>?_;rw[wQy]at hp;simp[hp]
theorem jH6(s:Scr)(r:Rc)(k:Nat):(zJA s r k).length=s.ops.length:=by simp[zJA]
abbrev wYC:=@List.getElem_set
theorem jXM(s:Scr)(r:Rc)(k:Nat):(zJA s r k).set k (zXV s r k)=zJA s r (k+1):=by
 refine wQP (by simp[zJA]) λp h1 h2=>?_;rw[wYC];simp only[zJA,List.getElem_map,wZs];split
 .rename_i e;subst e;simp
 .rename_i e;have:(p<k)↔(p<k+1):=by omega
  simp[this]
theorem zUK{r:Rc}(h:Live s r k):zXV s r k=hitB s r k:=by
 unfold zXV jH8;have:((List.range k).all λj=>!(decide ((opAt s j).kind=2)&&decide (k<enAt s j)) || hitB s r j)=true:=by
  rw[List.all_eq_true];intro j hj;rw[wQy]at hj;have:=h j hj;by_cases c1:(opAt s j).kind=2<;>by_cases c2:k<enAt s j<;>simp[c1,c2];exact this c1 c2
 rw[this,wXH]
theorem jHf(s:Scr)(r:Rc):Live s r 0:=λj hj=>by omega
theorem jKa{r:Rc}(h:Live s r k)(hk:¬((opAt s k).kind=2/\hitB s r k=false)):Live s r (k+1):=by
 intro j hj h2 h3;by_cases e:j=k
 .subst e
  cases hb:hitB s r j with
  |true=>rfl
  |false=>exact absurd ⟨h2,hb⟩ hk
 .exact h j (by omega) h2 (by omega)
abbrev wYE:=@Bool.false_and
abbrev wXL:=@Bool.and_false
abbrev wYD:=@Nat.lt_trichotomy
theorem jHg{r:Rc}(hv:s.run.1=0)(hk:k<s.ops.length)(h:Live s r k)(h2:(opAt s k).kind=2)(hb:hitB s r k=false):
  Live s r (enAt s k+1)/\zJA s r (enAt s k+1)=zJA s r k:=by
 have he:=zGX hv hk;obtain⟨p1,p2,p3,p4⟩:=jJW hv hk h2;refine⟨λj hj j2 j3=>?_,?_⟩
 .rcases wYD j k with c|c|c
  .exact h j c j2 (by omega)
  .subst c;omega
  .by_cases e:j=enAt s k
   .rw[e]at j2;omega
   .have:=zU0 hv hk c (by omega);omega
 .refine wQP (by simp[zJA]) λp h1 h1'=>?_;simp only[zJA,List.getElem_map,wZs];by_cases c1:p<k
  .have:p<enAt s k+1:=by omega
   simp[c1,this]
  .by_cases c2:p<enAt s k+1
   .have:zXV s r p=false:=by
     by_cases e1:p=k
     .rw[e1,zUK h,hb]
     .by_cases e2:p=enAt s k
      .have:hitB s r p=false:=by rw[<-hb,e2];unfold hitB;rw[p3]
       unfold zXV jH8;rw[this,wYE]
      .unfold zXV jH8;have:((List.range p).all λj=>!(decide ((opAt s j).kind=2)&&decide (p<enAt s j)) || hitB s r j)=false:=by
        rw[List.all_eq_false];refine⟨k,wQy.2 (by omega),?_⟩;have:p<enAt s k:=by omega
        simp[h2,hb,this]
       rw[this,wXL]
    simp[this]
   .simp[c1,c2]
structure Lv where
  op:Oq
  acc:Ac
  back:Px
def zZ8:Lv:=⟨⟨2,0,0,0,0,0,0,0,0,0,true,false⟩,.zero,.zero⟩
def topL(L:List Lv):Lv:=(L[L.length-1]?).getD zZ8
def zYF(p:Px)(k m:Int):Bool:=zXe m&&(p.ok m&&decide (k<=m))
def zXc(p:Px)(k m:Int):Px × Bool:=if zYF p k m then(zXb p k m,true) else(.zero,false)
def zKH(p:Px)(a b m:Int):Px × Bool:=if zYF p a m then zXc (zXb p a m) b m else(.zero,false)
def zXp(m:Int)(o:Oq)(p:Px)(mask:Int):Px × Bool:=zKH p (if o.mask=0 then m else mask) o.opac m
def zHa(m:Int)(L:List Lv)(o:Oq)(p:Px):Bool:=zXu (topL L).op.kno o.oper o.mode m p (topL L).acc (topL L).back
def zJX(m:Int)(L:List Lv)(o:Oq)(p:Px):List Lv:=if zHa m L o p then L.set (L.length-1) ⟨(topL L).op,accS (topL L).op.kno o.oper o.mode m p (topL L).acc (topL L).back,(topL L).back⟩ else L
def jHO(m:Int)(L:List Lv)(o:Oq)(p:Px)(mask:Int):List Lv:=if o.kind=1/\(zXp m o p mask).2=true then zJX m L o (zXp m o p mask).1 else L
def jUz(L:List Lv)(o:Oq):List Lv:=if o.kind=2/\L.length<65 then L++[⟨o,(zQG o.iso (topL L).op.kno (topL L).acc (topL L).back).1,(zQG o.iso (topL L).op.kno (topL L).acc (topL L).back).2⟩] else L
def resB(m:Int)(t:Lv):Bool:=t.acc.ok t.back m
def resL(m:Int)(t:Lv):Px:=if resB m t then zZy t.acc t.back m else .zero
def popL(m:Int)(L:List Lv)(mask:Int):List Lv:=
 if L.length<=1 then L
 else if(zXp m (topL L).op (resL m (topL L)) mask).2=false then L
 else if resB m (topL L)&&zHa m L.dropLast (topL L).op (zXp m (topL L).op (resL m (topL L)) mask).1 then zJX m L.dropLast (topL L).op (zXp m (topL L).op (resL m (topL L)) mask).1
 else L
def jVN(m:Im)(x y dx dy:Int):Px:=if x<dx\/y<dy\/x-dx>=1099511627776\/y-dy>=1099511627776 then .zero else m.at_ (x-dx) (y-dy)
def zJ4(ms:List Im)(i x y dx dy:Int):Px:=if 0<=i then match ms[i.toNat]? with
 |some m=>jVN m x y dx dy
 |none=>.zero
 else .zero
def srcS(ms:List Im)(o:Oq)(x y:Int):Px:=if o.kind=1 then zJ4 ms o.image x y o.x o.y else .zero
def zYu(ms:List Im)(o:Oq)(x y:Int):Int:=if 1<=o.mask then(zJ4 ms (o.mask-1) x y o.mx o.my).al else 0
def zJI(m:Int)(ms:List Im)(x y:Int)(L:List Lv)(o:Oq):List Lv:=
 if o.kind=1 then jHO m L o (srcS ms o x y) (zYu ms o x y)
 else if o.kind=2 then jUz L o
 else if o.kind=3 then popL m L (zYu ms (topL L).op x y)
 else L
def runM(m:Int)(ms:List Im)(x y:Int)(l:List Oq)(L:List Lv):List Lv:=l.foldl (zJI m ms x y) L
theorem zYZ(m:Int)(ms:List Im)(x y:Int)(l k:List Oq)(L:List Lv):runM m ms x y (l++k) L=runM m ms x y k (runM m ms x y l L):=List.foldl_append
theorem zZx(m:Int)(ms:List Im)(x y:Int)(o:Oq)(k:List Oq)(L:List Lv):runM m ms x y (o::k) L=runM m ms x y k (zJI m ms x y L o):=rfl
def zX2(m:Int)(ms:List Im)(x y:Int)(l:List Oq):Px:=
 let L:=runM m ms x y l [zZ8]
 if 1<L.length then .zero else resL m ((L[0]?).getD zZ8)
def Fo.vf(bits:Int)(mn:Nat):List Oq->Fo->Prop
 |st,.nil=>True
 |st,.draw o r=>o.kind=1/\errO bits mn o st=0/\r.vf bits mn st
 |st,.grp o k r=>o.kind=2/\errO bits mn o st=0/\k.vf bits mn (st++[o])/\r.vf bits mn st
theorem zVB(h:o.kind=1):zXf o st=st:=by
 unfold zXf;rw[if_neg (by omega),if_neg (by omega)]
theorem zVA(h:o.kind=2):zXf o st=st++[o]:=by
 unfold zXf;rw[if_pos h]
theorem jXU:zXf popO st=st.dropLast:=by
 have h1:popO.kind=3:=rfl;unfold zXf;rw[if_neg (by rw[h1];decide),if_pos h1]
theorem jQD{bits:Int}{mn:Nat}:∀(f:Fo)(st st':List Oq),f.ok->okO bits mn f.flat st=some st'->f.vf bits mn st/\st'=st
 |.nil,st,st',_,h=>⟨trivial,by simpa [Fo.flat,okO]using h.symm⟩
 |.draw o r,st,st',hf,h=>by
  simp only[Fo.flat,okO]at h;split at h
  .rename_i he;rw[zVB hf.1]at h;have⟨h1,h2⟩:=jQD r st st' hf.2 h;exact⟨⟨hf.1,he,h1⟩,h2⟩
  .cases h
 |.grp o k r,st,st',hf,h=>by
  simp only[Fo.flat,okO]at h;split at h
  .rename_i he;rw[zVA hf.1,zKd]at h
   cases hk:okO bits mn k.flat (st++[o]) with
   |none=>rw[hk]at h;cases h
   |some s1=>
    rw[hk]at h;have⟨k1,k2⟩:=jQD k (st++[o]) s1 hf.2.1 hk;subst k2;simp only[wYo,okO]at h;split at h
    .rw[jXU,wZv]at h;have⟨h1,h2⟩:=jQD r st st' hf.2.2 h;exact⟨⟨hf.1,he,k1,h1⟩,h2⟩
    .cases h
  .cases h
theorem zHY{bits:Int}{mn:Nat}:∀(f:Fo)(st:List Oq),f.vf bits mn st->f.ok/\okO bits mn f.flat st=some st
 |.nil,st,_=>⟨trivial,rfl⟩
 |.draw o r,st,h=>by
  obtain⟨h1,h2,h3⟩:=h;have⟨i1,i2⟩:=zHY r st h3;refine⟨⟨h1,i1⟩,?_⟩;simp only[Fo.flat,okO];rw[if_pos h2,zVB h1];exact i2
 |.grp o k r,st,h=>by
  obtain⟨h1,h2,h3,h4⟩:=h;have⟨k1,k2⟩:=zHY k (st++[o]) h3;have⟨i1,i2⟩:=zHY r st h4;refine⟨⟨h1,k1,i1⟩,?_⟩;simp only[Fo.flat,okO];rw[if_pos h2,zVA h1,zKd,k2];simp only[wYo,okO];rw[if_pos (jYO (by simp)),jXU,wZv];exact i2
theorem zQL{bits:Int}(hk:o.kind=1\/o.kind=2)(h:errO bits mn o st=0):
  (o.kind=1->0<=o.image/\o.image<mn)/\(0<=o.mask/\o.mask<=mn)/\(zZz o.x=true/\zZz o.y=true/\zZz o.mx=true/\zZz o.my=true)/\o.opac<=zQA bits/\isNm o.oper=true/\isNm o.mode=true/\(o.oper=4\/ctxB st=true)/\(o.kind=2->st.length<64):=by
 unfold errO at h;split at h
 .cases h
 split at h
 .cases h
 split at h
 .omega
 split at h
 .cases h
 rename_i hm;split at h
 .cases h
 rename_i hn;split at h
 .cases h
 split at h
 .cases h
 rename_i h1;split at h
 .cases h
 rename_i h2;split at h
 .cases h
 rename_i h3;split at h
 .cases h
 rename_i h4;refine⟨λq=>?_,?_,Decidable.not_not.1 hn,by omega,decide_eq_true (Decidable.not_not.1 h1),decide_eq_true (Decidable.not_not.1 h2),?_,λq=>?_⟩
 .omega
 .omega
 .by_cases q:o.oper=4
  .exact .inl q
  .refine .inr ?_
   cases hc:ctxB st with
   |true=>rfl
   |false=>exact absurd ⟨q,hc⟩ h3
 .omega
structure zJT(m:Int)(ms:List Im):Prop where
  full:zXe m=true
  px:∀i∈ms,∀x y,(i.at_ x y).ok m=true/\(i.at_ x y).nn
structure StOk(m:Int)(st:List Oq)(L:List Lv):Prop where
  ops:L.map Lv.op=zZ8.op::st
  lv:∀t∈L,LvOk m t.op.iso t.op.kno t.acc t.back
  opac:∀o∈st,0<=o.opac/\o.opac<=m
variable{L:List Lv}
theorem StOk.len(h:StOk m st L):L.length=st.length+1:=by
 have:=congrArg List.length h.ops;simpa using this
theorem zZZ(P:List Lv)(t:Lv):topL (P++[t])=t:=by simp[topL]
theorem StOk.split(h:StOk m st L):∃P t,L=P++[t]:=by
 have:=h.len;have hne:L≠[]:=by intro e;rw[e]at this;simp at this
 exact⟨L.dropLast,L.getLast hne,(wYZ hne).symm⟩
variable{P:List Lv}{t:Lv}
theorem yXp(h:StOk m st (P++[t]))(hc:ctxB st=true):t.op.iso=true/\t.op.kno=false:=by
 have e:=h.ops;rw[wQZ,wQi,wQs]at e
 cases st with
 |nil=>
  have:P.map Lv.op=[]/\t.op=zZ8.op:=by
   cases hp:P.map Lv.op with
   |nil=>rw[hp]at e;simpa using e
   |cons a r=>rw[hp]at e;simp at e
  rw[this.2];exact⟨rfl,rfl⟩
 |cons a r=>
  have e2:(zZ8.op::a::r).getLast?=some t.op:=by rw[<-e];simp
  rw[List.getLast?_cons_cons]at e2;unfold ctxB at hc;rw[e2]at hc;simpa using hc
abbrev wZF:=@List.length_singleton
theorem zWh(P:List Lv)(t u:Lv):(P++[t]).set ((P++[t]).length-1) u=P++[u]:=by
 rw[wQe,wZF,wZE,List.set_append_right _ _ (Nat.le_refl _),wZa];rfl
variable{ms:List Im}
theorem jG9(h:zJT m ms)(i x y dx dy:Int):(zJ4 ms i x y dx dy).ok m=true/\(zJ4 ms i x y dx dy).nn:=by
 have z:=zJE (m:=m) (by have:=(zZC h.full).1;omega);unfold zJ4;split
 .split
  .rename_i im hi;unfold jVN;split
   .exact z
   .exact h.px _ (wXe hi) _ _
  .exact z
 .exact z
theorem src_ok(h:zJT m ms)(o:Oq)(x y:Int):(srcS ms o x y).ok m=true/\(srcS ms o x y).nn:=by
 unfold srcS;split
 .exact jG9 h _ _ _ _ _
 .exact zJE (by have:=(zZC h.full).1;omega)
theorem zVS(h:zJT m ms)(o:Oq)(x y:Int):0<=zYu ms o x y/\zYu ms o x y<=m:=by
 have hm:=(zZC h.full).1;unfold zYu;split
 .obtain⟨a,b,c,d⟩:=jG9 h (o.mask-1) x y o.mx o.my;obtain⟨q1,q2,q3,q4,q5⟩:=Px.ok_iff.1 a;omega
 .omega
variable{p:Px}
theorem zJK{mask:Int}(hf:zXe m=true)(hp:p.ok m=true)(hn:p.nn)(h0:0<=mask)(h1:mask<=m)(o0:0<=o.opac)(o1:o.opac<=m):
  zXp m o p mask=(zXb (zXb p (if o.mask=0 then m else mask) m) o.opac m,true)/\(zXp m o p mask).1.ok m=true/\(zXp m o p mask).1.nn:=by
 have hm:=(zZC hf).1;have hk:0<=(if o.mask=0 then m else mask)/\(if o.mask=0 then m else mask)<=m:=by split<;>omega
 have⟨a1,a2⟩:=jXZ hm hp hn hk.1 hk.2;have⟨b1,b2⟩:=jXZ hm a1 a2 o0 o1;have e:zXp m o p mask=(zXb (zXb p (if o.mask=0 then m else mask) m) o.opac m,true):=by
  unfold zXp zKH zXc zYF;rw[hf,hp,a1,decide_eq_true hk.2,decide_eq_true o1];rfl
 rw[e];exact⟨rfl,b1,b2⟩
theorem zWm(h:StOk m st (P++[t]))(hp:p.ok m=true)(hn:p.nn)(h1:isNm o.oper=true)(h2:isNm o.mode=true)(hop:o.oper=4\/ctxB st=true):
  zHa m (P++[t]) o p=true/\∃x,zJX m (P++[t]) o p=P++[⟨t.op,x,t.back⟩]/\StOk m st (P++[⟨t.op,x,t.back⟩]):=by
 have ht:=h.lv t (by simp);have hc:o.oper=4\/(t.op.iso=true/\t.op.kno=false):=hop.imp id (yXp h);have⟨k1,k2⟩:=jVe ht hp hn h1 h2 hc;have e:zHa m (P++[t]) o p=true:=by unfold zHa;rw[zZZ];exact k1
 refine⟨e,accS t.op.kno o.oper o.mode m p t.acc t.back,?_,?_⟩
 .unfold zJX;rw[if_pos e,zZZ,zWh]
 .refine⟨by have:=h.ops;simpa using this,λu hu=>?_,h.opac⟩
  rcases List.mem_append.1 hu with hu|hu
  .exact h.lv u (by simp[hu])
  .rw[wQr.1 hu];exact k2
theorem jXn(h:StOk m st (P++[t]))(hn:zZf o.oper=true):zJX m (P++[t]) o .zero=P++[t]:=by
 unfold zJX;split
 .rename_i hb;unfold zHa at hb;rw[zZZ]at hb;have ht:=h.lv t (by simp);rw[zZZ,jK1 hn ht.nn ht.kn hb,zWh]
 .rfl
theorem zU1{bits:Int}(hi:zJT m ms)(hb:zQA bits=m)(h:StOk m st (P++[t]))(hk:o.kind=1)(h0:0<=o.opac)(he:errO bits ms.length o st=0)(x y:Int):
  ∃a,zJI m ms x y (P++[t]) o=P++[⟨t.op,a,t.back⟩]/\StOk m st (P++[⟨t.op,a,t.back⟩]):=by
 obtain⟨_,_,_,f1,f2,f3,f4,_⟩:=zQL (.inl hk) he;have⟨s1,s2⟩:=src_ok hi o x y;have⟨m1,m2⟩:=zVS hi o x y;obtain⟨e,s3,s4⟩:=zJK (o:=o) hi.full s1 s2 m1 m2 h0 (by omega);obtain⟨_,a,ha,hs⟩:=zWm h s3 s4 f2 f3 f4;refine⟨a,?_,hs⟩;unfold zJI jHO;rw[if_pos hk,if_pos ⟨hk,by rw[e]⟩];exact ha
theorem zVN{bits:Int}(hb:zQA bits=m)(h:StOk m st (P++[t]))(hk:o.kind=2)(h0:0<=o.opac)(he:errO bits ms.length o st=0)(x y:Int):
  zJI m ms x y (P++[t]) o=(P++[t])++[⟨o,(zQG o.iso t.op.kno t.acc t.back).1,(zQG o.iso t.op.kno t.acc t.back).2⟩]/\StOk m (st++[o]) ((P++[t])++[⟨o,(zQG o.iso t.op.kno t.acc t.back).1,(zQG o.iso t.op.kno t.acc t.back).2⟩]):=by
 obtain⟨_,_,_,f1,f2,f3,f4,f5⟩:=zQL (.inr hk) he;have hl:=h.len;have f5:=f5 hk;constructor
 .unfold zJI jUz;rw[if_neg (by omega),if_pos hk,if_pos ⟨hk,by omega⟩,zZZ]
 .refine⟨?_,λu hu=>?_,λq hq=>?_⟩
  .rw[wQZ,h.ops];rfl
  .rcases List.mem_append.1 hu with hu|hu
   .exact h.lv u hu
   .rw[wQr.1 hu];exact zU9 (h.lv t (by simp))
  .rcases List.mem_append.1 hq with hq|hq
   .exact h.opac q hq
   .rw[wQr.1 hq];omega
abbrev wYF:=@List.append_inj'
variable{u:Lv}
theorem StOk.pre(h:StOk m (st++[o]) (L++[u])):u.op=o/\StOk m st L:=by
 have e:=h.ops;rw[wQZ,wQi,wQs,show zZ8.op::(st++[o])=(zZ8.op::st)++[o] from rfl]at e;have⟨e1,e2⟩:=wYF e rfl;refine⟨by simpa using e2,e1,λt ht=>h.lv t (by simp[ht]),λq hq=>h.opac q (by simp[hq])⟩
theorem jXk(hi:zJT m ms)(h:StOk m (st++[o]) ((P++[t])++[u]))(h1:isNm o.oper=true)(h2:isNm o.mode=true)(hop:o.oper=4\/ctxB st=true)(x y:Int):
  zJI m ms x y ((P++[t])++[u]) popO=zJX m (P++[t]) o (zXp m o (zZy u.acc u.back m) (zYu ms o x y)).1/\∃a,zJX m (P++[t]) o (zXp m o (zZy u.acc u.back m) (zYu ms o x y)).1=P++[⟨t.op,a,t.back⟩]/\StOk m st (P++[⟨t.op,a,t.back⟩]):=by
 obtain⟨eo,hs⟩:=h.pre;have hu:=h.lv u (by simp);have⟨r1,r2⟩:=zYr hu;have⟨m1,m2⟩:=zVS hi o x y;have⟨o1,o2⟩:=h.opac o (by simp);obtain⟨e,s3,s4⟩:=zJK (o:=o) hi.full r1 r2 m1 m2 o1 o2;obtain⟨pb,a,ha,hs2⟩:=zWm hs s3 s4 h1 h2 hop;have rb:resB m u=true:=hu.ok;have rl:resL m u=zZy u.acc u.back m:=by unfold resL;rw[if_pos rb]
 refine⟨?_,a,ha,hs2⟩;have k3:popO.kind=3:=rfl;unfold zJI popL;rw[if_neg (by rw[k3];decide),if_neg (by rw[k3];decide),if_pos k3,if_neg (by simp),zZZ,eo,rl,if_neg (by rw[e];simp),wZv,rb,pb];rfl
theorem zWi{m:Int}{bits:Int}{ms:List Im}(hi:zJT m ms)(hb:zQA bits=m)(x y:Int):∀(f:Fo)(st:List Oq)(P:List Lv)(t:Lv),f.vf bits ms.length st->(∀o∈f.flat,0<=o.opac)->StOk m st (P++[t]) ->
  ∃a,runM m ms x y f.flat (P++[t])=P++[⟨t.op,a,t.back⟩]/\StOk m st (P++[⟨t.op,a,t.back⟩])
 |.nil,st,P,t,_,_,h=>⟨t.acc,rfl,h⟩
 |.draw o r,st,P,t,hv,ho,h=>by
  obtain⟨a,e,h1⟩:=zU1 hi hb h hv.1 (ho o (by simp[Fo.flat])) hv.2.1 x y;obtain⟨b,e2,h2⟩:=zWi hi hb x y r st P _ hv.2.2 (λq hq=>ho q (by simp[Fo.flat,hq])) h1;exact⟨b,by rw[Fo.flat,zZx,e,e2],h2⟩
 |.grp o k r,st,P,t,hv,ho,h=>by
  obtain⟨h1,h2,h3,h4⟩:=hv;obtain⟨e1,s1⟩:=zVN hb h h1 (ho o (by simp[Fo.flat])) h2 x y (ms:=ms);obtain⟨b,e2,s2⟩:=zWi hi hb x y k (st++[o]) (P++[t]) _ h3 (λq hq=>ho q (by simp[Fo.flat,hq])) s1;obtain⟨_,_,_,_,f2,f3,f4,_⟩:=zQL (.inr h1) h2;obtain⟨e3,a,e4,s3⟩:=jXk hi s2 f2 f3 f4 x y;obtain⟨c,e5,s4⟩:=zWi hi hb x y r st P _ h4 (λq hq=>ho q (by simp[Fo.flat,hq])) s3;refine⟨c,?_,s4⟩;rw[Fo.flat,zZx,e1,zYZ,e2,zZx,e3,e4,e5]
theorem jZj(hf:zXe m=true):StOk m [] ([]++[zZ8]):=by
 have hm:=(zZC hf).1;refine⟨rfl,λt ht=>?_,λo ho=>by simp at ho⟩;rw[List.nil_append]at ht;rw[wQr.1 ht];exact⟨Ac.ok_iff.2 ⟨⟨by decide,by decide,by decide⟩,hf,⟨by decide,by decide,by show 0<=m;omega,by show 0<=m;omega⟩,(zJE (by omega)).1,rfl⟩,⟨by decide,by decide,by decide,by decide⟩,(zJE (m:=m) (by omega)).2,λ_ _=>rfl⟩
def zG4(ms:List Im):Prop:=∀i∈ms,(0<=i.w/\i.w<=16777216)/\0<=i.h/\i.h<=16777216
theorem zKe(h:zZz v=true): -1048576<=v/\v<=1048576:=wQH h
variable{x y:Int}
theorem at_out{m:Im}(h:¬(0<=x/\x<m.w/\0<=y/\y<m.h)):m.at_ x y=.zero:=by
 unfold Im.at_;rw[if_neg];simp;omega
variable{dx dy:Int}
theorem jXl(hd:zG4 s.ims)(hi:0<=i/\i<s.ims.length)(n1:zZz dx=true)(n2:zZz dy=true)(hc:s.c.has x y=true)(h:(zZ3 s i dx dy).has x y=false):zJ4 s.ims i x y dx dy=.zero:=by
 have hk:i.toNat<s.ims.length:=by omega
 have a1:=zKe n1;have a2:=zKe n2;obtain⟨⟨w0,w1⟩,h0,h1⟩:=hd s.ims[i.toNat] (List.getElem_mem hk);rw[zGH dx dy hi.1 hk,if_neg (by simp[farB];omega),Rc.inter_has,hc,wXH]at h;unfold zJ4;rw[if_pos hi.1,List.getElem?_eq_getElem hk];simp only;unfold jVN;split
 .rfl
 .rename_i hn;apply at_out;intro q;have e:Rc.empty ⟨dx,dy,dx+s.ims[i.toNat].w,dy+s.ims[i.toNat].h⟩=false:=by
   rw[Rc.empty_iff];simp only;omega
  have:Rc.has ⟨dx,dy,dx+s.ims[i.toNat].w,dy+s.ims[i.toNat].h⟩ x y=true:=by
   rw[Rc.has_iff];refine⟨e,?_⟩;simp only;omega
  rw[this]at h;cases h
theorem jGs(hd:zG4 s.ims){bits:Int}(hk:o.kind=1)(he:errO bits s.ims.length o st=0)(hc:s.c.has x y=true)(h:(imgR s o).has x y=false):srcS s.ims o x y=.zero:=by
 obtain⟨f1,_,⟨n1,n2,_⟩,_⟩:=zQL (.inl hk) he;unfold imgR at h;rw[if_pos hk]at h;unfold srcS;rw[if_pos hk];exact jXl hd (f1 hk) n1 n2 hc h
theorem jWL(hd:zG4 s.ims){bits:Int}(hk:o.kind=1\/o.kind=2)(he:errO bits s.ims.length o st=0)(hc:s.c.has x y=true)(h:(zYN s o).has x y=false):o.mask≠0/\zYu s.ims o x y=0:=by
 obtain⟨_,f2,⟨_,_,n1,n2⟩,_⟩:=zQL hk he;unfold zYN at h;by_cases h0:o.mask=0
 .rw[if_pos h0,Rc.inter_has,hc]at h;cases h
 .refine⟨h0,?_⟩;rw[if_neg h0,if_neg (by omega)]at h;unfold zYu;split
  .rw[jXl hd (by omega) n1 n2 hc h];rfl
  .rfl
variable{m:Int}
theorem jZ0(hd:zG4 s.ims){bits:Int}(hi:zJT m s.ims)(hk:o.kind=1\/o.kind=2)(he:errO bits s.ims.length o st=0)(hb:zQA bits=m)(h0:0<=o.opac)(hc:s.c.has x y=true){src:Rc}(h:(boxF s o src).has x y=false)(hp:p.ok m=true)(hn:p.nn)(hs:zZf o.oper=true->src.has x y=false->p=.zero):
  zZf o.oper=true/\(zXp m o p (zYu s.ims o x y)).1=.zero:=by
 have hm:=(zZC hi.full).1;obtain⟨_,_,_,f1,_⟩:=zQL hk he;have⟨m1,m2⟩:=zVS hi o x y;obtain⟨e,_⟩:=zJK (o:=o) hi.full hp hn m1 m2 h0 (by omega);rw[e];unfold boxF at h
 cases hq:zZf o.oper with
 |false=>rw[if_pos hq,hc]at h;cases h
 |true=>
  refine⟨rfl,?_⟩;rw[if_neg (by rw[hq];simp)]at h;split at h
  .rename_i hz;rw[hz];exact zJv hm
  .rw[Rc.inter_has]at h
   cases h1:src.has x y with
   |false=>
    have:=hs hq h1;subst this;simp only[zKp hm]
   |true=>
    rw[h1,wXi]at h;have⟨a,b⟩:=jWL hd hk he hc h;rw[if_neg a,b,zJv hm];exact zKp hm
theorem jW0(hd:zG4 s.ims){bits:Int}(hi:zJT m s.ims)(hb:zQA bits=m)(h:StOk m st (P++[t]))(hk:o.kind=1)(h0:0<=o.opac)(he:errO bits s.ims.length o st=0)(hc:s.c.has x y=true)(ho:(boxF s o (imgR s o)).has x y=false):
  zJI m s.ims x y (P++[t]) o=P++[t]:=by
 have⟨p1,p2⟩:=src_ok hi o x y;have⟨n,e⟩:=jZ0 hd hi (.inl hk) he hb h0 hc ho p1 p2 (λ_ h=>jGs hd hk he hc h);unfold zJI jHO;rw[if_pos hk];split
 .rw[e];exact jXn h n
 .rfl
theorem jKp{x y:Int}:∀(l:List Rc)(a:Rc),(a.has x y=true\/∃r∈l,r.has x y=true)->(l.foldl Rc.hull a).has x y=true
 |[],a,h=>by
  rcases h with h|⟨r,hr,_⟩
  .exact h
  .simp at hr
 |b::l,a,h=>by
  refine jKp l (a.hull b) ?_
  rcases h with h|⟨r,hr,h⟩
  .exact .inl (Rc.hull_has (.inl h))
  .rcases wQm.1 hr with rfl|hr
   .exact .inl (Rc.hull_has (.inr h))
   .exact .inr ⟨r,hr,h⟩
theorem yQS{l:List Rc}(h:(zZX l).has x y=false):∀r∈l,r.has x y=false:=λr hr=>by
 cases e:r.has x y with
 |false=>rfl
 |true=>
  have:(zZX l).has x y=true:=jKp l _ (.inr ⟨r,hr,e⟩);rw[this]at h;cases h
abbrev wY5:=@List.append_cancel_left
theorem jQc{s:Scr}(hd:zG4 s.ims){m bits:Int}(hi:zJT m s.ims)(hb:zQA bits=m){x y:Int}(hc:s.c.has x y=true):∀(f:Fo)(st:List Oq)(P:List Lv)(t:Lv),f.vf bits s.ims.length st->(∀o∈f.flat,0<=o.opac)->StOk m st (P++[t]) ->
  (∀r∈zQS s f,r.has x y=false)->runM m s.ims x y f.flat (P++[t])=P++[t]
 |.nil,st,P,t,_,_,h,_=>rfl
 |.draw o r,st,P,t,hv,ho,h,hx=>by
  rw[Fo.flat,zZx,jW0 hd hi hb h hv.1 (ho o (by simp[Fo.flat])) hv.2.1 hc (hx _ (by simp[zQS]))];exact jQc hd hi hb hc r st P t hv.2.2 (λq hq=>ho q (by simp[Fo.flat,hq])) h (λq hq=>hx q (by simp[zQS,hq]))
 |.grp o k r,st,P,t,hv,ho,h,hx=>by
  obtain⟨h1,h2,h3,h4⟩:=hv;obtain⟨e1,s1⟩:=zVN hb h h1 (ho o (by simp[Fo.flat])) h2 x y (ms:=s.ims);obtain⟨_,_,_,_,f2,f3,f4,_⟩:=zQL (.inr h1) h2;have hok:∀q∈k.flat,0<=q.opac:=λq hq=>ho q (by simp[Fo.flat,hq]);have hbx:=hx (boxF s o (zZX (zQS s k))) (by simp[zQS]);obtain⟨b,e2,s2⟩:=zWi hi hb x y k (st++[o]) (P++[t]) _ h3 hok s1;have hu:=s2.lv ⟨o,b,(zQG o.iso t.op.kno t.acc t.back).2⟩ (by simp);have⟨r1,r2⟩:=zYr hu
  have⟨n,e⟩:=jZ0 hd hi (.inr h1) h2 hb (ho o (by simp[Fo.flat])) hc hbx r1 r2 (λ_ hh=>by
   have e3:=jQc hd hi hb hc k (st++[o]) (P++[t]) _ h3 hok s1 (yQS hh);rw[e2]at e3;have e4:=wY5 e3;simp only[wQK,Lv.mk.injEq,and_true,true_and]at e4;simp only[e4]
   exact zG7)
  obtain⟨e3,_⟩:=jXk hi s2 f2 f3 f4 x y;rw[Fo.flat,zZx,e1,zYZ,e2,zZx,e3];simp only at e |-;rw[e,jXn h n];exact jQc hd hi hb hc r st P t h4 (λq hq=>ho q (by simp[Fo.flat,hq])) h (λq hq=>hx q (by simp[zQS,hq]))
def hit(r b:Rc):Bool:=!(b.inter r).empty
def Fo.act(s:Scr)(r:Rc):Fo->Fo
 |.nil=>.nil
 |.draw o k=>if hit r (boxF s o (imgR s o)) then .draw o (k.act s r) else k.act s r
 |.grp o g k=>if hit r (boxF s o (zZX (zQS s g))) then .grp o (g.act s r) (k.act s r) else k.act s r
theorem jHv{r:Rc}(h:hit r b=false)(hr:r.has x y=true):b.has x y=false:=by
 cases e:b.has x y with
 |false=>rfl
 |true=>
  have:(b.inter r).has x y=true:=by rw[Rc.inter_has,e,hr];rfl
  rw[Rc.has_iff]at this;unfold hit at h;rw[this.1]at h;cases h
theorem jXL{bits:Int}{mn:Nat}(s:Scr)(r:Rc):∀(f:Fo)(st:List Oq),f.vf bits mn st->(f.act s r).vf bits mn st
 |.nil,st,h=>trivial
 |.draw o k,st,h=>by
  unfold Fo.act;split
  .exact⟨h.1,h.2.1,jXL s r k st h.2.2⟩
  .exact jXL s r k st h.2.2
 |.grp o g k,st,h=>by
  unfold Fo.act;split
  .exact⟨h.1,h.2.1,jXL s r g _ h.2.2.1,jXL s r k st h.2.2.2⟩
  .exact jXL s r k st h.2.2.2
abbrev wX6:=@List.not_mem_nil
theorem zGp{s:Scr}(hd:zG4 s.ims){m bits:Int}(hi:zJT m s.ims)(hb:zQA bits=m){r:Rc}{x y:Int}(hc:s.c.has x y=true)(hr:r.has x y=true):∀(f:Fo)(st:List Oq)(P:List Lv)(t:Lv),f.vf bits s.ims.length st->(∀o∈f.flat,0<=o.opac)->StOk m st (P++[t]) ->
  runM m s.ims x y (f.act s r).flat (P++[t])=runM m s.ims x y f.flat (P++[t])
 |.nil,st,P,t,_,_,h=>rfl
 |.draw o k,st,P,t,hv,ho,h=>by
  have hok:∀q∈k.flat,0<=q.opac:=λq hq=>ho q (by simp[Fo.flat,hq]);unfold Fo.act;split
  .obtain⟨a,e,h1⟩:=zU1 hi hb h hv.1 (ho o (by simp[Fo.flat])) hv.2.1 x y;rw[Fo.flat,Fo.flat,zZx,zZx,e];exact zGp hd hi hb hc hr k st P _ hv.2.2 hok h1
  .rename_i hn;rw[Fo.flat,zZx,jW0 hd hi hb h hv.1 (ho o (by simp[Fo.flat])) hv.2.1 hc (jHv (by simpa using hn) hr)];exact zGp hd hi hb hc hr k st P t hv.2.2 hok h
 |.grp o g k,st,P,t,hv,ho,h=>by
  have hok:∀q∈k.flat,0<=q.opac:=λq hq=>ho q (by simp[Fo.flat,hq]);have hog:∀q∈g.flat,0<=q.opac:=λq hq=>ho q (by simp[Fo.flat,hq]);obtain⟨h1,h2,h3,h4⟩:=hv;unfold Fo.act;split
  .obtain⟨e1,s1⟩:=zVN hb h h1 (ho o (by simp[Fo.flat])) h2 x y (ms:=s.ims);obtain⟨_,_,_,_,f2,f3,f4,_⟩:=zQL (.inr h1) h2;have eg:=zGp hd hi hb hc hr g (st++[o]) (P++[t]) _ h3 hog s1;obtain⟨b,e2,s2⟩:=zWi hi hb x y g (st++[o]) (P++[t]) _ h3 hog s1;obtain⟨e3,a,e4,s3⟩:=jXk hi s2 f2 f3 f4 x y;rw[Fo.flat,Fo.flat,zZx,zZx,e1,zYZ,zYZ,eg,e2,zZx,zZx,e3,e4];exact zGp hd hi hb hc hr k st P _ h4 hok s3
  .rename_i hn
   have e:=jQc hd hi hb hc (.grp o g .nil) st P t ⟨h1,h2,h3,trivial⟩ (λq hq=>by
    simp only[Fo.flat,wQm,List.mem_append,wX6,or_false]at hq
    rcases hq with hq|hq|hq
    .exact ho q (by simp[Fo.flat,hq])
    .exact hog q hq
    .rw[hq];decide) h (λq hq=>by
    simp only[zQS,wQr]at hq
    rw[hq];exact jHv (by simpa using hn) hr)
   rw[show(Fo.grp o g k).flat=(Fo.grp o g .nil).flat++k.flat by simp[Fo.flat],zYZ,e];exact zGp hd hi hb hc hr k st P t h4 hok h
structure Spot where
  m:Int
  ms:List Im
  x:Int
  y:Int
def Spot.sc(q:Spot)(o:Oq)(p:Px):Px:=zXb (zXb p (if o.mask=0 then q.m else zYu q.ms o q.x q.y) q.m) o.opac q.m
def Spot.dn(q:Spot):Bool->Px->Fo->Ac->Ac
 |_,_,.nil,a=>a
 |kno,k,.draw o r,a=>q.dn kno k r (accS kno o.oper o.mode q.m (q.sc o (srcS q.ms o q.x q.y)) a k)
 |kno,k,.grp o g r,a=>q.dn kno k r (accS kno o.oper o.mode q.m (q.sc o (zZy (q.dn o.kno (zQG o.iso kno a k).2 g (zQG o.iso kno a k).1) (zQG o.iso kno a k).2 q.m)) a k)
structure OpOk(bits:Int)(mn:Nat)(o:Oq)(st:List Oq):Prop where
  err:errO bits mn o st=0
  opac:0<=o.opac
structure Spot.ok(q:Spot)(bits:Int):Prop where
  ims:zJT q.m q.ms
  most:zQA bits=q.m
variable{k:Px}{a:Ac}
section
variable{q:Spot}{bits:Int}(hq:q.ok bits)
include hq
theorem Spot.ok.pos:0<q.m:=(zZC hq.ims.full).1
theorem Spot.sc_ok(hk:o.kind=1\/o.kind=2)(he:errO bits q.ms.length o st=0)(h0:0<=o.opac)(hp:p.ok q.m=true)(hn:p.nn):(q.sc o p).ok q.m=true/\(q.sc o p).nn:=by
 obtain⟨_,_,_,f1,_⟩:=zQL hk he;have f1:o.opac<=q.m:=by have:=hq.most;omega
 have⟨m1,m2⟩:=zVS hq.ims o q.x q.y;obtain⟨e,a,b⟩:=zJK (o:=o) hq.ims.full hp hn m1 m2 h0 f1;rw[e]at a b;exact⟨a,b⟩
theorem Spot.sc_eq(hk:o.kind=1\/o.kind=2)(he:errO bits q.ms.length o st=0)(h0:0<=o.opac)(hp:p.ok q.m=true)(hn:p.nn):zXp q.m o p (zYu q.ms o q.x q.y)=(q.sc o p,true):=by
 obtain⟨_,_,_,f1,_⟩:=zQL hk he;have f1:o.opac<=q.m:=by have:=hq.most;omega
 have⟨m1,m2⟩:=zVS hq.ims o q.x q.y;exact(zJK (o:=o) hq.ims.full hp hn m1 m2 h0 f1).1
theorem Spot.step_keep(hk:o.kind=1\/o.kind=2)(he:errO bits q.ms.length o st=0)(h0:0<=o.opac)(hc:ctxB st=true->iso=true/\kno=false)(h:LvOk q.m iso kno a k)(hp:p.ok q.m=true)(hn:p.nn):
  LvOk q.m iso kno (accS kno o.oper o.mode q.m (q.sc o p) a k) k:=by
 obtain⟨_,_,_,_,f2,f3,f4,_⟩:=zQL hk he;obtain⟨s1,s2⟩:=q.sc_ok hq hk he h0 hp hn;exact(jVe h s1 s2 f2 f3 (f4.imp id hc)).2
theorem Spot.src_ok(o:Oq):(srcS q.ms o q.x q.y).ok q.m=true/\(srcS q.ms o q.x q.y).nn:=Go.Proofs.YtbnmadpcdlnleaaGreatDoor.src_ok hq.ims o q.x q.y
theorem Spot.dn_keep:∀(f:Fo)(st:List Oq)(iso kno:Bool)(a:Ac)(k:Px),f.vf bits q.ms.length st->(∀o∈f.flat,0<=o.opac)->(ctxB st=true->iso=true/\kno=false)->LvOk q.m iso kno a k->LvOk q.m iso kno (q.dn kno k f a) k
 |.nil,st,iso,kno,a,k,_,_,_,h=>h
 |.draw o r,st,iso,kno,a,k,hv,ho,hc,h=>by
  have⟨s1,s2⟩:=q.src_ok hq o;exact Spot.dn_keep r st iso kno _ k hv.2.2 (λq hq=>ho q (by simp[Fo.flat,hq])) hc (q.step_keep hq (.inl hv.1) hv.2.1 (ho o (by simp[Fo.flat])) hc h s1 s2)
 |.grp o g r,st,iso,kno,a,k,hv,ho,hc,h=>by
  obtain⟨h1,h2,h3,h4⟩:=hv;have hb:=zU9 (iso':=o.iso) (kno':=o.kno) h
  have hg:=Spot.dn_keep g (st++[o]) o.iso o.kno _ _ h3 (λq hq=>ho q (by simp[Fo.flat,hq])) (λhx=>by
   unfold ctxB at hx
   simpa using hx) hb
  have⟨r1,r2⟩:=zYr hg;exact Spot.dn_keep r st iso kno _ k h4 (λq hq=>ho q (by simp[Fo.flat,hq])) hc (q.step_keep hq (.inr h1) h2 (ho o (by simp[Fo.flat])) hc h r1 r2)
theorem Spot.paint_eq(h:StOk q.m st (P++[t]))(hp:p.ok q.m=true)(hn:p.nn)(h1:isNm o.oper=true)(h2:isNm o.mode=true)(hop:o.oper=4\/ctxB st=true):
  zJX q.m (P++[t]) o p=P++[⟨t.op,accS t.op.kno o.oper o.mode q.m p t.acc t.back,t.back⟩]:=by
 have _:=hq;obtain⟨e,_⟩:=zWm h hp hn h1 h2 hop;unfold zJX;rw[if_pos e,zZZ,zWh]
abbrev wY6:=@List.mem_singleton_self
theorem Spot.run_dn:∀(f:Fo)(st:List Oq)(P:List Lv)(t:Lv),f.vf bits q.ms.length st->(∀o∈f.flat,0<=o.opac)->StOk q.m st (P++[t]) ->
  runM q.m q.ms q.x q.y f.flat (P++[t])=P++[⟨t.op,q.dn t.op.kno t.back f t.acc,t.back⟩]/\StOk q.m st (P++[⟨t.op,q.dn t.op.kno t.back f t.acc,t.back⟩])
 |.nil,st,P,t,_,_,h=>⟨rfl,h⟩
 |.draw o r,st,P,t,hv,ho,h=>by
  have h0:=ho o (by simp[Fo.flat]);obtain⟨_,_,_,f1,f2,f3,f4,_⟩:=zQL (.inl hv.1) hv.2.1;have⟨s1,s2⟩:=q.src_ok hq o;have⟨c1,c2⟩:=q.sc_ok hq (.inl hv.1) hv.2.1 h0 s1 s2;obtain⟨a,e,h1⟩:=zU1 hq.ims hq.most h hv.1 h0 hv.2.1 q.x q.y;have e2:zJI q.m q.ms q.x q.y (P++[t]) o=P++[⟨t.op,accS t.op.kno o.oper o.mode q.m (q.sc o (srcS q.ms o q.x q.y)) t.acc t.back,t.back⟩]:=by
   have e3:=q.sc_eq hq (.inl hv.1) hv.2.1 h0 s1 s2;unfold zJI jHO;rw[if_pos hv.1,e3,if_pos ⟨hv.1,rfl⟩,q.paint_eq hq h c1 c2 f2 f3 f4]
  rw[e2]at e;rw[<-e]at h1;obtain⟨e4,h4⟩:=Spot.run_dn r st P _ hv.2.2 (λq hq=>ho q (by simp[Fo.flat,hq])) h1;exact⟨by rw[Fo.flat,zZx,e2,e4];rfl,h4⟩
 |.grp o g r,st,P,t,hv,ho,h=>by
  obtain⟨h1,h2,h3,h4⟩:=hv;have h0:=ho o (by simp[Fo.flat]);obtain⟨_,_,_,f1,f2,f3,f4,_⟩:=zQL (.inr h1) h2;obtain⟨e1,s1⟩:=zVN hq.most h h1 h0 h2 q.x q.y (ms:=q.ms);obtain⟨e2,s2⟩:=Spot.run_dn g (st++[o]) (P++[t]) _ h3 (λq hq=>ho q (by simp[Fo.flat,hq])) s1;simp only at e2 s2;have hu:=s2.lv _ (List.mem_append_right _ (wY6 _));have⟨r1,r2⟩:=zYr hu;have⟨c1,c2⟩:=q.sc_ok hq (.inr h1) h2 h0 r1 r2;obtain⟨e3,a,e4,s3⟩:=jXk hq.ims s2 f2 f3 f4 q.x q.y;have e5:=q.sc_eq hq (.inr h1) h2 h0 r1 r2;simp only at e3 e4 e5;rw[e5]at e3 e4;rw[q.paint_eq hq h c1 c2 f2 f3 f4]at e3 e4;rw[<-e4]at s3;obtain⟨e6,h6⟩:=Spot.run_dn r st P _ h4 (λq hq=>ho q (by simp[Fo.flat,hq])) s3;exact⟨by rw[Fo.flat,zZx,e1,zYZ,e2,zZx,e3,e6];rfl,h6⟩
theorem Spot.value_dn{f:Fo}(hv:f.vf bits q.ms.length [])(ho:∀o∈f.flat,0<=o.opac):zX2 q.m q.ms q.x q.y f.flat=zZy (q.dn false .zero f .zero) .zero q.m:=by
 obtain⟨e,h⟩:=q.run_dn hq f [] [] zZ8 hv ho (jZj hq.ims.full);have e:runM q.m q.ms q.x q.y f.flat [zZ8]=[⟨zZ8.op,q.dn false .zero f .zero,.zero⟩]:=e;have hr:resB q.m ⟨zZ8.op,q.dn false .zero f .zero,.zero⟩=true:=(h.lv _ (List.mem_append_right _ (wY6 _))).ok;unfold zX2;rw[e];simp only[wZF,Nat.lt_irrefl,if_false,wXh,wQA];unfold resL;rw[if_pos hr]
end
structure Frm where
  iso:Bool
  kno:Bool
  fst:Bool
def Frm.next(c:Frm):Frm:=⟨c.iso,c.kno,false⟩
def jV7(o:Oq):Frm:=⟨o.iso,o.kno,true⟩
def Fo.dig:Fo->Nat->Frm->Option (Frm × Fo)
 |.nil,_,_=>none
 |.draw o r,0,c=>some (c,.draw o r)
 |.draw o r,i+1,c=>r.dig i c.next
 |.grp o k r,0,c=>some (c,.grp o k r)
 |.grp o k r,i+1,c=>if i<k.size then k.dig i (jV7 o) else if i=k.size then none else r.dig (i-k.size-1) c.next
def Fo.put(g:Fo->Fo):Fo->Nat->Fo
 |.nil,_=>.nil
 |.draw o r,0=>g (.draw o r)
 |.draw o r,i+1=>.draw o (Fo.put g r i)
 |.grp o k r,0=>g (.grp o k r)
 |.grp o k r,i+1=>if i<k.size then .grp o (Fo.put g k i) r else if i=k.size then .grp o k r else .grp o k (Fo.put g r (i-k.size-1))
def zKE(k:Px):Ac:=⟨k.a,k.b,k.c,k.al,0,0⟩
structure LvIn(q:Spot)(c:Frm)(a:Ac)(k:Px):Prop where
  lv:LvOk q.m c.iso c.kno a k
  iso:c.iso=true->k=.zero
  fst:c.fst=true->a=zKE k
theorem zZ5(st:List Oq)(o:Oq):ctxB (st++[o])=(o.iso && !o.kno):=by simp[ctxB]
variable{q:Spot}
theorem LvIn.begin{c:Frm}(h:LvIn q c a k)(o:Oq):LvIn q (jV7 o) (zQG o.iso c.kno a k).1 (zQG o.iso c.kno a k).2:=
 ⟨zU9 h.lv,λhi=>by have hi:o.iso=true:=hi;rw[hi];rfl,λ_=>rfl⟩
theorem LvIn.base{bits:Int}(hq:q.ok bits):LvIn q ⟨true,false,true⟩ .zero .zero:=
 ⟨(jZj hq.ims.full).lv zZ8 (by simp),λ_=>rfl,λ_=>rfl⟩
structure zJQ(q:Spot)(bits:Int)(c:Frm)(f f':Fo):Prop where
  vf:∀st:List Oq,ctxB st=(c.iso && !c.kno)->f.vf bits q.ms.length st->f'.vf bits q.ms.length st
  opac:(∀o∈f.flat,0<=o.opac)->∀o∈f'.flat,0<=o.opac
  dn:∀(st:List Oq)(a:Ac)(k:Px),ctxB st=(c.iso && !c.kno)->f.vf bits q.ms.length st->(∀o∈f.flat,0<=o.opac)->LvIn q c a k->q.dn c.kno k f' a=q.dn c.kno k f a
theorem zUe{c:Frm}(h:ctxB st=(c.iso && !c.kno)):ctxB st=true->c.iso=true/\c.kno=false:=λhc=>by
 rw[hc]at h;have:=h.symm;simpa using this
theorem zHM{q:Spot}{bits:Int}(hq:q.ok bits)(g:Fo->Fo):∀(f:Fo)(i:Nat)(c c':Frm)(s:Fo),f.dig i c=some (c',s)->zJQ q bits c' s (g s)->zJQ q bits c f (Fo.put g f i)
 |.nil,i,c,c',s,hd,hw=>by cases hd
 |.draw o r,0,c,c',s,hd,hw=>by
  simp only[Fo.dig,wQa,wQc]at hd;obtain⟨rfl,rfl⟩:=hd;exact hw
 |.draw o r,i+1,c,c',s,hd,hw=>by
  have ih:=zHM hq g r i c.next c' s hd hw;refine⟨λst hc hv=>⟨hv.1,hv.2.1,ih.vf st hc hv.2.2⟩,λho u hu=>?_,λst a k hc hv ho h=>?_⟩
  .simp only[Fo.put,Fo.flat,wQm]at hu
   rcases hu with rfl|hu
   .exact ho _ (by simp[Fo.flat])
   .exact ih.opac (λv hv=>ho v (by simp[Fo.flat,hv])) u hu
  .have⟨s1,s2⟩:=q.src_ok hq o;exact ih.dn st _ k hc hv.2.2 (λv hv=>ho v (by simp[Fo.flat,hv])) ⟨q.step_keep hq (.inl hv.1) hv.2.1 (ho o (by simp[Fo.flat])) (zUe hc) h.lv s1 s2,h.iso,λhx=>by cases hx⟩
 |.grp o k0 r,0,c,c',s,hd,hw=>by
  simp only[Fo.dig,wQa,wQc]at hd;obtain⟨rfl,rfl⟩:=hd;exact hw
 |.grp o k0 r,i+1,c,c',s,hd,hw=>by
  simp only[Fo.dig]at hd;split at hd
  .rename_i hi;have ih:=zHM hq g k0 i (jV7 o) c' s hd hw;have e:Fo.put g (.grp o k0 r) (i+1)=.grp o (Fo.put g k0 i) r:=by simp only[Fo.put];rw[if_pos hi]
   rw[e];refine⟨λst hc hv=>⟨hv.1,hv.2.1,ih.vf _ (zZ5 st o) hv.2.2.1,hv.2.2.2⟩,λho u hu=>?_,λst a k hc hv ho h=>?_⟩
   .simp only[Fo.flat,wQm,List.mem_append]at hu
    rcases hu with rfl|hu|hu
    .exact ho _ (by simp[Fo.flat])
    .exact ih.opac (λv hv=>ho v (by simp[Fo.flat,hv])) u hu
    .exact ho _ (by simp only[Fo.flat,wQm,List.mem_append];exact .inr (.inr hu))
   .have:=ih.dn (st++[o]) _ _ (zZ5 st o) hv.2.2.1 (λv hv=>ho v (by simp[Fo.flat,hv])) (h.begin o);simp only[Spot.dn];rw[show(jV7 o).kno=o.kno from rfl]at this;rw[this]
  .split at hd
   .cases hd
   .rename_i h1 h2;have ih:=zHM hq g r (i-k0.size-1) c.next c' s hd hw;have e:Fo.put g (.grp o k0 r) (i+1)=.grp o k0 (Fo.put g r (i-k0.size-1)):=by simp only[Fo.put];rw[if_neg h1,if_neg h2]
    rw[e];refine⟨λst hc hv=>⟨hv.1,hv.2.1,hv.2.2.1,ih.vf st hc hv.2.2.2⟩,λho u hu=>?_,λst a k hc hv ho h=>?_⟩
    .simp only[Fo.flat,wQm,List.mem_append]at hu
     rcases hu with rfl|hu|rfl|hu
     .exact ho _ (by simp[Fo.flat])
     .exact ho _ (by simp[Fo.flat,hu])
     .exact ho _ (by simp[Fo.flat])
     .exact ih.opac (λv hv=>ho v (by simp[Fo.flat,hv])) u hu
    .have hg:=q.dn_keep hq k0 (st++[o]) o.iso o.kno _ _ hv.2.2.1 (λv hv=>ho v (by simp[Fo.flat,hv])) (λhx=>by rw[zZ5]at hx;simpa using hx) (h.begin o).lv;have⟨r1,r2⟩:=zYr hg;simp only[Spot.dn];exact ih.dn st _ k hc hv.2.2.2 (λv hv=>ho v (by simp[Fo.flat,hv])) ⟨q.step_keep hq (.inr hv.1) hv.2.1 (ho o (by simp[Fo.flat])) (zUe hc) h.lv r1 r2,h.iso,λhx=>by cases hx⟩
def hiW(n:Int):Int:=n / 18446744073709551616
def loW(n:Int):Int:=n%18446744073709551616
def wV(h l:Int):Int:=h*18446744073709551616+l
theorem zJu(n:Int):wV (hiW n) (loW n)=n:=by unfold wV hiW loW;omega
theorem zWW(n:Int):wV 0 n=n:=by unfold wV;omega
variable{n:Int}
theorem zY3(h0:0<=n)(h1:n<18446744073709551616):hiW n=0:=by unfold hiW;omega
theorem zYv(h0:0<=n)(h1:n<18446744073709551616):loW n=n:=by unfold loW;omega
def cmpI(a b:Int):Int:=if a=b then 0 else if a<b then -1 else 1
def addW(a b:Int):Int:=if a+b<340282366920938463463374607431768211456 then a+b else 0
def addK(a b:Int):Bool:=decide (a+b<340282366920938463463374607431768211456)
def subW(a b:Int):Int:=if a<b then 0 else a-b
def subK(a b:Int):Bool:=decide (b<=a)
def jVn(q r n:Int):Int:=if 18446744073709551616<=n then -1 else cmpI (q*q*r) (n*n)
variable{b a:Int}
theorem yXs:0<=cmpI a b↔b<=a:=by unfold cmpI;grind
abbrev wYH:=@Nat.and_two_pow_sub_one_eq_mod
abbrev wYG:=@BitVec.toNat_and
abbrev wZG:=@BitVec.toNat_ofNat
theorem zGc(h0:0<=n)(h1:n<18446744073709551616):((BitVec.ofInt 64 n &&& BitVec.ofInt 64 4294967295).toNat:Int)=n%4294967296:=by
 obtain⟨k,rfl⟩:=wZd h0;have hk:k<18446744073709551616:=by omega
 have e1:BitVec.ofInt 64 (k:Int)=BitVec.ofNat 64 k:=by simp
 have e2:BitVec.ofInt 64 4294967295=BitVec.ofNat 64 4294967295:=by decide
 rw[e1,e2,wYG,wZG,wZG,wZj hk];have:k &&& 4294967295=k%4294967296:=wYH k 32;rw[show 4294967295%2 ^ 64=4294967295 from rfl,this];omega
def exOk(ph q r d:Int):Bool:=decide (ph<4294967296)&&(decide (q<70368744177664)&&(decide (r<8589934592)&&decide (1<=d)))
def Ex.zero:Ex:=⟨0,0,0,0⟩
def blK(mode s a d b:Int):Bool:=isNm mode&&(decide (s<=a)&&decide (d<=b))
def blE(mode s a d b:Int):Ex:=if blK mode s a d b then zQk mode s a d b else .zero
def fcK(op a b m:Int):Bool:=isNm op&&(decide (a<=m)&&decide (b<=m))
def fcA(op a b m:Int):Int:=if fcK op a b m then facA op a b m else 0
def fcB(op a b m:Int):Int:=if fcK op a b m then facB op a b m else 0
def vlK(op mode m s a d b:Int):Bool:=blK mode s a d b&&(fcK op a b m&&zXe m)
def vlE(op mode m s a d b:Int):Ex:=if vlK op mode m s a d b then valS op mode m s a d b else .zero
def zUr(kno:Bool)(op mode m:Int)(p:Px)(x:Ac)(k:Px):Ac:=if zXu kno op mode m p x k then accS kno op mode m p x k else .zero
def resE(x:Ac)(k:Px)(m:Int):Px:=if x.ok k m then zZy x k m else .zero
def Ac.ds(x:Ac):List DV:=[.int .u16 x.a,.int .u16 x.b,.int .u16 x.c,.int .u16 x.al,.int .u16 x.own,.int .u16 x.f]
def Lv.cells(t:Lv):List DV:=t.op.cells++(t.acc.ds++t.back.ds)
theorem zGU(h:zXe m=true):m=255\/m=65535:=wQH h
theorem zUf{s:Int}(h0:0<=s)(h1:s<=a)(h2:0<=d)(h3:d<=b)(ha:a<=65535)(hb:b<=65535):
  let t:=zQk mode s a d b
  t.ok/\t.d<=4294836225/\t.p<=4294836225*4294836225/\t.q<=65535/\t.r<=4294836225:=by
 have hu:=zQQ (mode:=mode) h0 h1 h2 h3;have small:∀n:Int,(zZm n).d<=4294836225/\(zZm n).q<=65535/\(zZm n).r<=4294836225:=λn=>⟨by simp[zZm],by simp[zZm],by simp[zZm]⟩
 have mk:∀p q r e:Int,e<=65535->q<=65535->r<=4294836225->(⟨p,q,r,e⟩:Ex).d<=4294836225/\(⟨p,q,r,e⟩:Ex).q<=65535/\(⟨p,q,r,e⟩:Ex).r<=4294836225:=λp q r e x y z=>⟨by simp only;omega,y,z⟩
 have db:=zQf h2 (show d<=65535 by omega) (show 0<=b by omega) hb;have bb:=zQf (show 0<=b by omega) hb (show 0<=b by omega) hb;have soft:(zKn s a d b).d<=4294836225/\(zKn s a d b).q<=65535/\(zKn s a d b).r<=4294836225:=by
  unfold zKn;split
  .exact mk _ _ _ _ (by omega) (by omega) (by omega)
  split
  .exact mk _ _ _ _ (by omega) (by omega) (by omega)
  split
  .exact⟨by simp only;omega,by simp only;omega,by simp only;omega⟩
  .exact mk _ _ _ _ (by omega) (by omega) (by omega)
 have key:∀(c:Prop)[Decidable c](x y:Ex),(x.d<=4294836225/\x.q<=65535/\x.r<=4294836225)->(y.d<=4294836225/\y.q<=65535/\y.r<=4294836225)->((if c then x else y).d<=4294836225/\(if c then x else y).q<=65535/\(if c then x else y).r<=4294836225):=λc _ x y hx hy=>by split<;>assumption
 have all:(zQk mode s a d b).d<=4294836225/\(zQk mode s a d b).q<=65535/\(zQk mode s a d b).r<=4294836225:=by
  unfold zQk
  repeat' (first|exact small _|exact soft|exact mk _ _ _ _ (by omega) (by omega) (by omega)|refine key _ _ _ ?_ ?_)
 have ab:=zQf (show 0<=a by omega) ha (show 0<=b by omega) hb;have pp:=zQf (x:=a*b) (y:=(zQk mode s a d b).d) (A:=4294836225) (B:=4294836225) ab.1 (by omega) (by have:=hu.ok.d;omega) all.1;have:=hu.p;exact⟨hu.ok,all.1,by omega,all.2.1,all.2.2⟩
theorem yXB(h0:0<=n)(h1:n<4294967296):((BitVec.ofInt 32 n &&& BitVec.ofInt 32 255).toNat:Int)=n%256:=by
 obtain⟨k,rfl⟩:=wZd h0;have hk:k<4294967296:=by omega
 have e1:BitVec.ofInt 32 (k:Int)=BitVec.ofNat 32 k:=by simp
 have e2:BitVec.ofInt 32 255=BitVec.ofNat 32 255:=by decide
 rw[e1,e2,wYG,wZG,wZG,wZj hk];have:k &&& 255=k%256:=wYH k 8;rw[show 255%2 ^ 32=255 from rfl,this];omega
theorem yZk(h0:0<=n)(h1:n<18446744073709551616):((BitVec.ofInt 64 n &&& BitVec.ofInt 64 65535).toNat:Int)=n%65536:=by
 obtain⟨k,rfl⟩:=wZd h0;have hk:k<18446744073709551616:=by omega
 have e1:BitVec.ofInt 64 (k:Int)=BitVec.ofNat 64 k:=by simp
 have e2:BitVec.ofInt 64 65535=BitVec.ofNat 64 65535:=by decide
 rw[e1,e2,wYG,wZG,wZG,wZj hk];have:k &&& 65535=k%65536:=wYH k 16;rw[show 65535%2 ^ 64=65535 from rfl,this];omega
variable{q:Int}
theorem jHx{r:Int}(h0:0<=r)(h1:r<=255):zZs (q*255+r) 255=if 128<=r then q+1 else q:=by
 rw[zJ5 (by decide)];split<;>omega
theorem jKr{r:Int}(h0:0<=r)(h1:r<=65535):zZs (q*65535+r) 65535=if 32768<=r then q+1 else q:=by
 rw[zJ5 (by decide)];split<;>omega
abbrev wY7:=@Nat.two_pow_add_eq_or_of_lt
abbrev wXm:=@Nat.two_pow_pos
abbrev wYI:=@Nat.pow_lt_pow_right
variable{i:Nat}
theorem yQA{m:Nat}(hi:i<64)(h:(m+1)*2 ^ (i+1)<=2 ^ 64):(BitVec.ofInt 64 ((m*2 ^ (i+1):Nat):Int) ||| BitVec.ofInt 64 ((2 ^ i:Nat):Int)).toNat=m*2 ^ (i+1)+2 ^ i:=by
 have p0:2 ^ i<2 ^ 64:=wYI (by decide) (by omega);have p1:m*2 ^ (i+1)<2 ^ 64:=by
  have:=wXm (i+1);rw[wQu]at h;omega
 have e1:∀k:Nat,BitVec.ofInt 64 (k:Int)=BitVec.ofNat 64 k:=λk=>by simp
 rw[e1,e1,BitVec.toNat_or,wZG,wZG,wZj p0,wZj p1];have:=wY7 (i:=i+1) (b:=2 ^ i) (wYI (by decide) (by omega)) m;rw[wQS];exact this.symm
abbrev wXn:=@Nat.pow_add
theorem jWb{f k:Nat}(hf:f<2 ^ 64)(hk:k<64) :
  (BitVec.ofInt 64 ((f / 2 ^ (k+1)*2 ^ (k+1):Nat):Int) ||| BitVec.ofInt 64 ((2 ^ k:Nat):Int)).toNat=f / 2 ^ (k+1)*2 ^ (k+1)+2 ^ k/\f / 2 ^ (k+1)*2 ^ (k+1)+2 ^ k<2 ^ 64 /\
  (f / 2 ^ (k+1)*2 ^ (k+1)+2 ^ k<=f->f / 2 ^ k*2 ^ k=f / 2 ^ (k+1)*2 ^ (k+1)+2 ^ k)/\(f<f / 2 ^ (k+1)*2 ^ (k+1)+2 ^ k->f / 2 ^ k*2 ^ k=f / 2 ^ (k+1)*2 ^ (k+1)):=by
 have p:=wXm k;have e2:2 ^ (k+1)=2 ^ k*2:=Nat.pow_succ 2 k;have h64:(f / 2 ^ (k+1)+1)*2 ^ (k+1)<=2 ^ 64:=by
  have e:2 ^ 64=2 ^ (63-k)*2 ^ (k+1):=by rw[<-wXn];congr 1;omega
  rw[e]at hf |-;exact wQ1 _ ((wYx (wXm _)).2 hf)
 have hlt:f / 2 ^ (k+1)*2 ^ (k+1)+2 ^ k<2 ^ 64:=by
  rw[wQu,wXI]at h64;omega
 refine⟨yQA hk h64,hlt,?_⟩;clear hlt h64;rw[e2,<-Nat.div_div_eq_div_mul];have h1:=wZ4 f (2 ^ k);have h2:=wZz f p;have h3:=wZ4 (f / 2 ^ k) 2;have h4:=wZz (f / 2 ^ k) (show 0<2 by decide);generalize f / 2 ^ k=g at *;generalize f%2 ^ k=r at *;generalize 2 ^ k=P at *;have e5:g / 2*(P*2)=P*(g / 2)*2:=by grind
 rcases Nat.mod_two_eq_zero_or_one g with h|h
 .have hg:g=2*(g / 2):=by omega
  have e6:g*P=P*(g / 2)*2:=by rw[hg];grind
  have e7:P*g=g*P:=wQS _ _;rw[e5,e6];constructor<;>intro q<;>omega
 .have hg:g=2*(g / 2)+1:=by omega
  have e6:g*P=P*(g / 2)*2+P:=by
   generalize g / 2=c at *;subst hg;grind
  have e7:P*g=g*P:=wQS _ _;rw[e5,e6];constructor<;>intro q<;>omega
structure DgOk(v1 v0 u w q r:Int):Prop where
  hr:r=u-q*v1
  lo:(u*4294967296+w) / (v1*4294967296+v0)<=q
  hi:q<=4294967297
  r0:0<=r
  r1:r<4294967296
structure DvOk(v1 v0 u w:Int):Prop where
  a0:2147483648<=v1
  a1:v1<4294967296
  b0:0<=v0
  b1:v0<4294967296
  u0:0<=u
  u1:u<v1*4294967296+v0
  w0:0<=w
  w1:w<4294967296
abbrev wXo:=@Int.ediv_lt_of_lt_mul
variable{w u v1 v0:Int}
theorem DvOk.dig(h:DvOk v1 v0 u w):0<=(u*4294967296+w) / (v1*4294967296+v0)/\(u*4294967296+w) / (v1*4294967296+v0)<4294967296:=by
 obtain⟨a0,a1,b0,b1,u0,u1,w0,w1⟩:=h;refine⟨wQU (by omega) (by omega),wXo (by omega) (by omega)⟩
theorem DvOk.start(h:DvOk v1 v0 u w):DgOk v1 v0 u w (u / v1) (u-u / v1*v1):=by
 obtain⟨a0,a1,b0,b1,u0,u1,w0,w1⟩:=h;have e1:=wZN u v1;have e2:=wZb u (b:=v1) (by omega);have e3:=wZc u (show 0<v1 by omega);have e4:u / v1*v1=v1*(u / v1):=wQB _ _;refine⟨rfl,?_,?_,by omega,by omega⟩
 .apply Int.le_of_lt_add_one;apply wXo (by omega);generalize u / v1=q at *;generalize u%v1=r at *;have hq:0<=q:=by
   apply Int.not_lt.1;intro hlt;have:v1*q<=v1*(-1):=Int.mul_le_mul_of_nonneg_left (by omega) (by omega);omega
  have:0<=q*v0:=Int.mul_nonneg hq b0;have e5:(q+1)*(v1*4294967296+v0)=v1*q*4294967296+v1*4294967296+q*v0+v0:=by grind
  rw[e5];omega
 .apply Int.le_of_lt_add_one;apply wXo (by omega);omega
theorem DgOk.over{r:Int}(hv:DvOk v1 v0 u w)(h:DgOk v1 v0 u w q r):(q*v0>4294967296*r+w↔(u*4294967296+w) / (v1*4294967296+v0)<q):=by
 obtain⟨a0,a1,b0,b1,u0,u1,w0,w1⟩:=hv;have e:=h.hr;rw[Int.ediv_lt_iff_lt_mul (by omega)];have:q*(v1*4294967296+v0)=q*v1*4294967296+q*v0:=by grind
 rw[this];generalize q*v1=A at *;generalize q*v0=B at *;omega
theorem DgOk.pos{r:Int}(hv:DvOk v1 v0 u w)(h:DgOk v1 v0 u w q r):0<=q:=by
 have:=hv.dig.1;have:=h.lo;omega
theorem DgOk.sizes{r:Int}(hv:DvOk v1 v0 u w)(h:DgOk v1 v0 u w q r):0<=q*v0/\q*v0<18446744073709551616/\0<=4294967296*r+w/\4294967296*r+w<18446744073709551616:=by
 have hq:=h.pos hv;have h1:=h.hi;have h2:=h.r0;have h3:=h.r1;have:=zQf hq h1 hv.b0 (show v0<=4294967295 by have:=hv.b1;omega);have:=hv.w0;have:=hv.w1;omega
theorem DgOk.next{r:Int}(hv:DvOk v1 v0 u w)(h:DgOk v1 v0 u w q r)(hc:q>=4294967296\/q*v0>4294967296*r+w)(hr:r+v1<4294967296):DgOk v1 v0 u w (q-1) (r+v1):=by
 have hd:=hv.dig;have ho:=h.over hv;have hl:=h.lo;have hh:=h.hi;have hr0:=h.r0;have a0:=hv.a0;refine⟨by have:=h.hr;grind,?_,by omega,by omega,hr⟩
 rcases hc with hc|hc
 .omega
 .have:=ho.1 hc;omega
theorem DgOk.done{r:Int}(hv:DvOk v1 v0 u w)(h:DgOk v1 v0 u w q r)(hc:¬(q>=4294967296\/q*v0>4294967296*r+w)):q=(u*4294967296+w) / (v1*4294967296+v0):=by
 have ho:=h.over hv;have hl:=h.lo;have:=λh=>hc (.inr (ho.2 h));omega
theorem DgOk.last{r:Int}(hv:DvOk v1 v0 u w)(h:DgOk v1 v0 u w q r)(hc:q>=4294967296\/q*v0>4294967296*r+w)(hr:r+v1>=4294967296):q-1=(u*4294967296+w) / (v1*4294967296+v0):=by
 have hd:=hv.dig;have ho:=h.over hv;have hl:=h.lo;have hh:=h.hi;have hq:=h.pos hv;have h1:(u*4294967296+w) / (v1*4294967296+v0)<=q-1:=by
  rcases hc with hc|hc
  .omega
  .have:=ho.1 hc;omega
 have h2:q-1<=(u*4294967296+w) / (v1*4294967296+v0):=by
  rw[wYj (by have:=hv.a0;have:=hv.b0;omega)];have e:=h.hr;have e1:(q-1)*(v1*4294967296+v0)=(q*v1-v1)*4294967296+(q-1)*v0:=by grind
  rw[e1];have:=zQf (x:=q-1) (A:=4294967296) (y:=v0) (B:=4294967295) (by omega) (by omega) hv.b0 (by have:=hv.b1;omega);have:=hv.w0;generalize q*v1=A at *;generalize (q-1)*v0=B at *;omega
 omega
theorem jUj(hv:0<v):
  (u*4294967296+a) / v*4294967296+(((u*4294967296+a)-(u*4294967296+a) / v*v)*4294967296+b) / v=(u*18446744073709551616+a*4294967296+b) / v /\
  ((u*4294967296+a)-(u*4294967296+a) / v*v)*4294967296+b-(((u*4294967296+a)-(u*4294967296+a) / v*v)*4294967296+b) / v*v=(u*18446744073709551616+a*4294967296+b)%v:=by
 have e:u*18446744073709551616+a*4294967296+b=((u*4294967296+a)-(u*4294967296+a) / v*v)*4294967296+b+v*((u*4294967296+a) / v*4294967296):=by grind
 have e2:∀x:Int,x-x / v*v=x%v:=λx=>by rw[Int.emod_def,wQB]
 rw[e,Int.add_mul_ediv_left _ _ (by omega),wYt];refine⟨by omega,e2 _⟩
theorem jUo{k:Int}(hk:0<k):(a*k) / (y*k)=a / y/\(a*k)%(y*k) / k=a%y:=by
 refine⟨Int.mul_ediv_mul_of_pos_left _ _ hk,?_⟩;rw[Int.emod_def,Int.mul_ediv_mul_of_pos_left _ _ hk,Int.emod_def,show a*k-y*k*(a / y)=(a-y*(a / y))*k by grind,Int.mul_ediv_cancel _ (by omega)]
def lenS(x:Int):Int:=if x<=0 then 0 else(Nat.log2 x.toNat:Int)+1
theorem jKc(h0:1<=y)(h1:y<18446744073709551616):∃s:Nat,64-lenS y=s/\s<=63/\9223372036854775808<=y*2 ^ s/\y*2 ^ s<18446744073709551616:=by
 obtain⟨n,rfl⟩:=wZd (show 0<=y by omega);have hn:n≠0:=by omega
 have a1:=Nat.log2_self_le hn;have a2:=@Nat.lt_log2_self n;have a3:n.log2<64:=(Nat.log2_lt hn).2 (by omega);refine⟨63-n.log2,?_,by omega,?_,?_⟩
 .unfold lenS;rw[if_neg (by omega),wQp];omega
 .have e:2 ^ n.log2*2 ^ (63-n.log2)=2 ^ 63:=by rw[<-wXn];congr 1;omega
  have:2 ^ n.log2*2 ^ (63-n.log2)<=n*2 ^ (63-n.log2):=wQ1 _ a1;rw[e]at this;have h:((2 ^ 63:Nat):Int)<=((n*2 ^ (63-n.log2):Nat):Int):=by exact_mod_cast this
  simpa using h
 .have e:2 ^ (n.log2+1)*2 ^ (63-n.log2)=2 ^ 64:=by rw[<-wXn];congr 1;omega
  have:n*2 ^ (63-n.log2)<2 ^ (n.log2+1)*2 ^ (63-n.log2):=Nat.mul_lt_mul_of_pos_right a2 (wXm _);rw[e]at this;have h:((n*2 ^ (63-n.log2):Nat):Int)<((2 ^ 64:Nat):Int):=by exact_mod_cast this
  simpa using h
abbrev wZ7:=@Int.pow_pos
theorem zGM(k:Nat)(h:2 ^ k<=x):lenS x=k+lenS (x / 2 ^ k):=by
 have hp:(0:Int)<2 ^ k:=wZ7 (by decide);obtain⟨n,rfl⟩:=wZd (show 0<=x by omega);have h':2 ^ k<=n:=by exact_mod_cast h
 have hp':=wXm k;have hn:n≠0:=by omega
 have hq:n / 2 ^ k≠0:=by
  have:=Nat.div_pos h' hp';omega
 have e:((n:Int) / 2 ^ k)=((n / 2 ^ k:Nat):Int):=by simp
 rw[e];have hq2:¬((n / 2 ^ k:Nat):Int)<=0:=Int.not_le.2 (Int.natCast_pos.2 (Nat.pos_of_ne_zero hq));unfold lenS;rw[if_neg (by omega),if_neg hq2,wQp,wQp];have a1:=Nat.log2_self_le hq;have a2:=@Nat.lt_log2_self (n / 2 ^ k);have:n.log2=(n / 2 ^ k).log2+k:=by
  rw[Nat.log2_eq_iff hn];refine⟨?_,?_⟩
  .rw[wXn];exact wQJ (wQ1 _ a1) (Nat.div_mul_le_self _ _)
  .rw[show(n / 2 ^ k).log2+k+1=((n / 2 ^ k).log2+1)+k by omega,wXn];exact(wYx hp').1 a2
 omega
def orI:List DV->Int
 |.int _ a::l=>if a=0 then orI l else a
 |_=>0
theorem yYi{c:Int}(h0:0<=b)(h1:b<18446744073709551616)(h2:0<=d)(h3:d<18446744073709551616)(k k':IntKind):orI [.int k (cmpI a c),.int k' (cmpI b d)]=cmpI (wV a b) (wV c d):=by
 unfold orI orI orI cmpI wV;grind
structure Dv where
  v1:Int
  v0:Int
  u:Int
  w1:Int
  w0:Int
  s:Nat
structure Dv.is(D:Dv)(hi lo y:Int):Prop where
  v:y*2 ^ D.s=D.v1*4294967296+D.v0
  n:wV hi lo*2 ^ D.s=D.u*18446744073709551616+D.w1*4294967296+D.w0
  ok:DvOk D.v1 D.v0 D.u D.w1
  a:0<=D.w0
  b:D.w0<4294967296
  s63:D.s<=63
variable{s:Nat}
theorem yXU(hs:s<=64)(ha:0<=a)(h:a*2 ^ s<18446744073709551616)(hb:0<=b)(h1:b<2 ^ s):((BitVec.ofInt 64 (a*2 ^ s) ||| BitVec.ofInt 64 b).toNat:Int)=a*2 ^ s+b/\a*2 ^ s+b<18446744073709551616:=by
 obtain⟨m,rfl⟩:=wZd ha;obtain⟨n,rfl⟩:=wZd hb;have e:(m:Int)*2 ^ s=((m*2 ^ s:Nat):Int):=by simp
 rw[e]at h |-;have h1:n<2 ^ s:=by exact_mod_cast h1
 have h2:m*2 ^ s<2 ^ 64:=by
  have:((m*2 ^ s:Nat):Int)<((2 ^ 64:Nat):Int):=by simpa using h
  exact_mod_cast this
 have h4:m*2 ^ s+n<2 ^ 64:=by
  have e2:2 ^ 64=2 ^ (64-s)*2 ^ s:=by rw[<-wXn];congr 1;omega
  rw[e2]at h2 |-;have h3:m<2 ^ (64-s):=Nat.lt_of_mul_lt_mul_right h2;have:(m+1)*2 ^ s<=2 ^ (64-s)*2 ^ s:=wQ1 _ h3;rw[wQu]at this;omega
 have e1:∀k:Nat,BitVec.ofInt 64 (k:Int)=BitVec.ofNat 64 k:=λk=>by simp
 rw[e1,e1,BitVec.toNat_or,wZG,wZG,wZj h2,wZj (show n<2 ^ 64 by omega)];have:=wY7 (i:=s) (b:=n) h1 m;rw[wQS m,<-this,wQS];have h4:((m*2 ^ s+n:Nat):Int)<((2 ^ 64:Nat):Int):=by exact_mod_cast h4
 refine⟨by simp,by simpa using h4⟩
theorem yQ6{hi lo:Int}(h0:0<=hi)(h1:hi<y)(l0:0<=lo)(l1:lo<18446744073709551616)(hs:s<=63)(y1:9223372036854775808<=y*2 ^ s)(y2:y*2 ^ s<18446744073709551616):
  0<=lo / 2 ^ (64-s)/\lo / 2 ^ (64-s)<2 ^ s/\hi*2 ^ s<18446744073709551616/\0<=lo*2 ^ s /\
  Dv.is ⟨y*2 ^ s / 4294967296,y*2 ^ s%4294967296,hi*2 ^ s+lo / 2 ^ (64-s),lo*2 ^ s%18446744073709551616 / 4294967296,lo*2 ^ s%18446744073709551616%4294967296,s⟩ hi lo y:=by
 have hp:(0:Int)<2 ^ s:=wZ7 (by decide);have hq:(0:Int)<2 ^ (64-s):=wZ7 (by decide);have e:(2:Int) ^ (64-s)*2 ^ s=18446744073709551616:=by
  rw[<-Int.pow_add,show 64-s+s=64 by omega];rfl
 have b1:lo / 2 ^ (64-s)<2 ^ s:=wXo hq (by rw[wQB,e];exact l1);have b0:0<=lo / 2 ^ (64-s):=wQU l0 (by omega);have c1:lo*2 ^ s / 18446744073709551616=lo / 2 ^ (64-s):=by rw[<-e];exact Int.mul_ediv_mul_of_pos_left _ _ hp
 have c2:=wZN (lo*2 ^ s) 18446744073709551616;rw[c1]at c2;have l2:0<=lo*2 ^ s:=Int.mul_nonneg l0 (by omega);have m1:hi*2 ^ s+2 ^ s<=y*2 ^ s:=by
  have:(hi+1)*2 ^ s<=y*2 ^ s:=Int.mul_le_mul_of_nonneg_right (by omega) (by omega);rw[wXj,wZM]at this;exact this
 have m0:0<=hi*2 ^ s:=Int.mul_nonneg h0 (by omega);have nn:wV hi lo*2 ^ s=hi*2 ^ s*18446744073709551616+lo*2 ^ s:=by unfold wV;grind
 refine⟨b0,b1,by omega,l2,⟨by simp only;omega,?_,⟨by simp only;omega,by simp only;omega,by simp only;omega,by simp only;omega,by simp only;omega,by simp only;omega,by simp only;omega,by simp only;omega⟩,by simp only;omega,by simp only;omega,hs⟩⟩;simp only;rw[nn];generalize lo / 2 ^ (64-s)=L at *;generalize lo*2 ^ s=X at *;generalize hi*2 ^ s=H at *;omega
structure Iv where
  lo:Int
  hi:Int
def ivZ:Iv:=⟨0,0⟩
def ivU:Iv:=⟨1099511627776,1099511627776⟩
def Iv.ok(x:Iv):Bool:=decide (x.lo<=x.hi)&&(decide (x.lo >= -17592186044416)&&decide (x.hi<=17592186044416))
def Iv.un(x:Iv):Prop:=0<=x.lo/\x.lo<=x.hi/\x.hi<=1099511627776
def yQL(l h:Int):Iv × Bool:=if(⟨l,h⟩:Iv).ok then(⟨l,h⟩,true) else(ivZ,false)
def szI(n:Int):Int:=if n<0 then -n else n
def negI(a b:Int):Bool:=decide (a<0) !=decide (b<0)
def quoN(a b d:Int)(up:Bool):Int:=
 if szI a*szI b / d<35184372088832 then szI a*szI b / d+(if szI a*szI b%d>0/\(up !=negI a b)=true then 1 else 0) else 35184372088832
def quoI(a b d:Int)(up:Bool):Int:=if negI a b then-quoN a b d up else quoN a b d up
def quoL(a b:Int):Int:=quoI a b 1099511627776 false
def quoH(a b:Int):Int:=quoI a b 1099511627776 true
def yXk(x y:Iv):Iv × Bool:=
 yQL (min (min (min (min (quoL x.lo y.lo) (quoL x.lo y.lo)) (quoL x.lo y.hi)) (quoL x.hi y.lo)) (quoL x.hi y.hi))
  (max (max (max (max (quoH x.lo y.lo) (quoH x.lo y.lo)) (quoH x.lo y.hi)) (quoH x.hi y.lo)) (quoH x.hi y.hi))
def okI(x y:Iv)(z:Iv × Bool):Iv × Bool:=if x.ok=true/\y.ok=true then z else(ivZ,false)
theorem jWM{l:Int}(h0:0<=l)(h1:l<=h)(h2:h<=1099511627776):yQL l h=(⟨l,h⟩,true):=by
 unfold yQL Iv.ok;rw[if_pos (by simp only[wQd,wQf];omega)]
variable{x:Iv}
theorem Iv.un.ok'(h:x.un):x.ok=true:=by
 obtain⟨a,b,c⟩:=h;simp only[Iv.ok,wQd,wQf];omega
theorem yXY:ivZ.un:=⟨by decide,by decide,by decide⟩
theorem yXZ:ivU.un:=⟨by decide,by decide,by decide⟩
theorem jGW(up:Bool)(h0:0<=a)(h1:a<=1099511627776):quoI 1099511627776 a 1099511627776 up=a:=by
 unfold quoI quoN;have e:szI 1099511627776*szI a=1099511627776*a:=by simp only[szI];rw[if_neg (by decide),if_neg (by omega)]
 have n:negI 1099511627776 a=false:=by simp[negI];omega
 rw[e,n,Int.mul_ediv_cancel_left _ (by decide),Int.mul_emod_right];simp only[wQT,if_false];rw[if_pos (by omega)];simp
theorem yQ2(h:x.un):yXk ivU x=(x,true):=by
 obtain⟨a,b,c⟩:=h;have e:∀up,quoI 1099511627776 x.lo 1099511627776 up=x.lo:=λup=>jGW up a (by omega);have f:∀up,quoI 1099511627776 x.hi 1099511627776 up=x.hi:=λup=>jGW up (by omega) (by omega);unfold yXk quoL quoH ivU;simp only[e,f];rw[jWM (by omega) (by omega) (by omega)];congr 2<;>omega
def mulI(x y:Iv):Iv:=(okI x y (yXk x y)).1
theorem mul_one(h:x.un):mulI ivU x=x:=by
 unfold mulI okI;rw[yQ2 h,if_pos ⟨yXZ.ok',h.ok'⟩]
theorem yXJ(h0 : -9223372036854775808<=n)(h1:n<=9223372036854775807):wrap .i64 n=n:=wQb n ⟨h0,h1⟩
def addI(x y:Iv):Iv:=(okI x y (yQL (wrap .i64 (x.lo+y.lo)) (wrap .i64 (x.hi+y.hi)))).1
def faB(op:Int):Bool:=decide (op=2\/op=4\/op=5\/op=8\/op=11\/op=12)
abbrev wZw:=@Int.add_zero
theorem add_zero(h:x.un):addI x ivZ=x:=by
 have ho:=h.ok';obtain⟨a,b,c⟩:=h;unfold addI okI;rw[if_pos ⟨ho,yXY.ok'⟩];simp only[ivZ,wZw];rw[yXJ (by omega) (by omega),yXJ (by omega) (by omega),jWM a b c]
abbrev wZo:=@Int.zero_mul
abbrev wXp:=@Int.sub_zero
theorem jXI{mode s a:Int}:(zQk mode s a 0 0).p=0/\(zQk mode s a 0 0).q=0:=by
 have e1:zK4 0 0 s a=0:=by simp[zK4]
 have e2:zK4 s a 0 0=0:=by unfold zK4;split<;>simp
 unfold zQk;simp only[e1,e2,zKn,zZm,wZe,wZo,if_true,wXp,wZw]
 repeat' (split<;>try (exact⟨by first|rfl|omega,rfl⟩))
theorem jKK(op a m:Int):facA op a 0 m=if faB op=true then m else 0:=by
 unfold facA faB;simp only[wQf,wXp]
 repeat' (split<;>try (first|rfl|omega))
variable{m:Int}
theorem jU3{op:Int}(hm:0<m):zZK op a 0 m=if faB op=true then a else 0:=by
 unfold zZK;rw[jKK,wZe,wZw];split
 .exact zZ7 hm
 .rw[wZo];exact zVY hm
theorem jUn{op f:Int}(hm:0<m):zXX op f 0 m=if faB op=true then f else 0:=by
 unfold zXX faB;rw[wZe,wZw,zZ7 hm,wZe,zVY hm];simp only[wQf]
 repeat' (split<;>try (first|rfl|omega))
variable{s:Int}
theorem jYT{op:Int}(hm:0<m)(h0:0<=s)(h1:s<=a):colS op mode m s a 0 0=if faB op=true then s else 0:=by
 have⟨e1,e2⟩:=@jXI mode s a;have hd:=(zQQ (mode:=mode) h0 h1 (Int.le_refl 0) (Int.le_refl 0)).ok.d;unfold colS;refine Ex.half_whole ?_ ?_ ?_
 .exact wQG (wQG hm hm) hd
 .simp only[valS,e2,wZe]
 .simp only[valS,e1,jKK];split<;>grind
def zGL(op:Int)(p:Px):Px:=if faB op=true then p else .zero
variable{k:Px}
theorem zHX{op:Int}(hm:0<m)(hp:p.ok m=true)(hn:p.nn):accS false op mode m p .zero k=⟨(zGL op p).a,(zGL op p).b,(zGL op p).c,(zGL op p).al,(zGL op p).al,(zGL op p).f⟩:=by
 obtain⟨h1,h2,h3,h4,h5⟩:=Px.ok_iff.1 hp;obtain⟨n1,n2,n3⟩:=hn;unfold accS;simp only[Ac.zero,wQT,if_false];rw[jYT hm n1 h1,jYT hm n2 h2,jYT hm n3 h3,jU3 hm,jUn hm];unfold zGL;split<;>rfl
theorem jZ1(hm:0<m)(p:Px):zXb p m m=p:=by
 unfold zXb;rw[wQB p.a,wQB p.b,wQB p.c,wQB p.al,wQB p.f];simp only[zZ7 hm]
theorem jYd{c own:Int}(hm:0<m)(h0:0<=c)(h1:c<=own):remS m c own 0=c:=by
 unfold remS;simp only[wZe,wXp,zZ7 hm]
 rcases Int.lt_or_eq_of_le h0 with h|h
 .rw[if_pos (wQG hm h)];omega
 .subst h;simp
structure OpV(bits:Int)(mn:Nat)(o:Oq)(st:List Oq):Prop where
  kind:o.kind=1\/o.kind=2
  draw:o.kind=1->o.iso=false/\o.kno=false
  push:o.kind=2->o.image=0/\o.x=0/\o.y=0
  noM:o.mask=0->o.mx=0/\o.my=0
  img:o.kind=1->0<=o.image/\o.image<mn
  mask:0<=o.mask/\o.mask<=mn
  near:zZz o.x=true/\zZz o.y=true/\zZz o.mx=true/\zZz o.my=true
  opac:o.opac<=zQA bits
  oper:isNm o.oper=true
  mode:isNm o.mode=true
  ctx:o.oper=4\/ctxB st=true
  len:o.kind=2->st.length<64
abbrev wYJ:=@Bool.or_eq_false_iff
theorem OpV.of{bits:Int}(hk:o.kind=1\/o.kind=2)(h:errO bits mn o st=0):OpV bits mn o st:=by
 have hf:o.fields=true:=by
  cases e:o.fields with
  |true=>rfl
  |false=>
   unfold errO at h;rw[if_neg (by omega),if_pos e]at h;cases h
 obtain⟨f1,f2,f3,f4,f5,f6,f7,f8⟩:=zQL hk h;unfold Oq.fields at hf;rw[if_neg (by omega)]at hf;simp only[wQd,wQn,wXS,wQf,wQX,wYJ]at hf;obtain⟨⟨g1,g2⟩,g3⟩:=hf;refine⟨hk,λhh=>?_,λhh=>?_,λhh=>?_,f1,f2,f3,f4,f5,f6,f7,f8⟩
 .rcases g1 with g1|g1
  .exact absurd hh g1
  .exact g1
 .rcases g2 with g2|g2
  .exact absurd hh g2
  .omega
 .rcases g3 with g3|g3
  .exact absurd hh g3
  .exact g3
theorem OpV.err{bits:Int}(h:OpV bits mn o st):errO bits mn o st=0:=by
 obtain⟨hk,g1,g2,g3,f1,f2,f3,f4,f5,f6,f7,f8⟩:=h;have hf:o.fields=true:=by
  unfold Oq.fields;rw[if_neg (by omega)];simp only[wQd,wQn,wXS,wQf,wQX,wYJ];refine⟨⟨?_,?_⟩,?_⟩
  .rcases hk with hk|hk
   .exact .inr (g1 hk)
   .exact .inl (by omega)
  .rcases hk with hk|hk
   .exact .inl (by omega)
   .exact .inr (by have:=g2 hk;omega)
  .by_cases h0:o.mask=0
   .exact .inr (g3 h0)
   .exact .inl h0
 have n5:1<=o.oper/\o.oper<13:=wQH f5;have n6:1<=o.mode/\o.mode<13:=wQH f6;unfold errO
 rw[if_neg (by omega),if_neg (by rw[hf];simp),if_neg (by omega),if_neg (by
  rintro(⟨a,b⟩|b|b)
  .have:=f1 a;omega
  .omega
  .omega),if_neg (by simpa using f3),if_neg (by omega),if_neg (by omega),if_neg (by omega),if_neg (by
  rintro⟨a,b⟩
  rcases f7 with f7|f7
  .exact a f7
  .rw[f7]at b;cases b),if_neg (by
  rintro⟨a,b⟩
  have:=f8 a;omega)]
theorem zWX{bits:Int}{mn:Nat}:∀(f:Fo)(st st':List Oq),st'.length<=st.length->(ctxB st=true->ctxB st'=true)->f.vf bits mn st->f.vf bits mn st'
 |.nil,st,st',_,_,_=>trivial
 |.draw o r,st,st',hl,hc,h=>by
  have v:=OpV.of (.inl h.1) h.2.1;exact⟨h.1,OpV.err ⟨v.kind,v.draw,v.push,v.noM,v.img,v.mask,v.near,v.opac,v.oper,v.mode,v.ctx.imp id hc,λhk=>by have:=v.len hk;omega⟩,zWX r st st' hl hc h.2.2⟩
 |.grp o k r,st,st',hl,hc,h=>by
  have v:=OpV.of (.inr h.1) h.2.1;exact⟨h.1,OpV.err ⟨v.kind,v.draw,v.push,v.noM,v.img,v.mask,v.near,v.opac,v.oper,v.mode,v.ctx.imp id hc,λhk=>by have:=v.len hk;omega⟩,zWX k (st++[o]) (st'++[o]) (by simp;omega) (by rw[zZ5,zZ5];exact id) h.2.2.1,zWX r st st' hl hc h.2.2.2⟩
def Fo.rest:Fo->Fo
 |.nil=>.nil
 |.draw _ r=>r
 |.grp _ _ r=>r
def Fo.op:Fo->Oq
 |.nil=>popO
 |.draw o _=>o
 |.grp o _ _=>o
def Fo.chg(g:Oq->Oq):Fo->Fo
 |.nil=>.nil
 |.draw o r=>.draw (g o) r
 |.grp o k r=>.grp (g o) k r
def Fo.some':Fo->Prop
 |.nil=>False
 |_=>True
def Spot.raw(q:Spot)(kno:Bool)(k:Px)(a:Ac):Fo->Px
 |.nil=>.zero
 |.draw o _=>srcS q.ms o q.x q.y
 |.grp o g _=>zZy (q.dn o.kno (zQG o.iso kno a k).2 g (zQG o.iso kno a k).1) (zQG o.iso kno a k).2 q.m
theorem zV6(q:Spot)(kno:Bool)(k:Px)(a:Ac){f:Fo}(h:f.some'):q.dn kno k f a=q.dn kno k f.rest (accS kno f.op.oper f.op.mode q.m (q.sc f.op (q.raw kno k a f)) a k):=by
 cases f with
 |nil=>exact h.elim
 |draw o r=>rfl
 |grp o g r=>rfl
theorem jK9{bits:Int}{f:Fo}(h:f.vf bits mn st):f.rest.vf bits mn st:=by
 cases f with
 |nil=>trivial
 |draw o r=>exact h.2.2
 |grp o g r=>exact h.2.2.2
theorem jX8{f:Fo}(h:o∈f.rest.flat):o∈f.flat:=by
 cases f with
 |nil=>exact h
 |draw u r=>simp[Fo.flat];exact .inr h
 |grp u g r=>simp only[Fo.flat,wQm,List.mem_append];exact .inr (.inr (.inr h))
theorem zWN{bits:Int}{f:Fo}(hs:f.some')(h:f.vf bits mn st):OpV bits mn f.op st:=by
 cases f with
 |nil=>exact hs.elim
 |draw o r=>exact OpV.of (.inl h.1) h.2.1
 |grp o g r=>exact OpV.of (.inr h.1) h.2.1
theorem zKD{f:Fo}(hs:f.some')(h:∀o∈f.flat,0<=o.opac):0<=f.op.opac:=by
 cases f with
 |nil=>exact hs.elim
 |draw o r=>exact h o (by simp[Fo.flat])
 |grp o g r=>exact h o (by simp[Fo.flat])
section
variable{q:Spot}{bits:Int}(hq:q.ok bits)
include hq
abbrev wZ8:=@Int.le_of_lt
theorem jJU{c:Frm}{f:Fo}{a:Ac}(hv:f.vf bits q.ms.length st)(ho:∀o∈f.flat,0<=o.opac)(h:LvIn q c a k):(q.raw c.kno k a f).ok q.m=true/\(q.raw c.kno k a f).nn:=by
 cases f with
 |nil=>exact zJE (wZ8 hq.pos)
 |draw o r=>exact q.src_ok hq o
 |grp o g r=>
  have hg:=q.dn_keep hq g (st++[o]) o.iso o.kno _ _ hv.2.2.1 (λv hv=>ho v (by simp[Fo.flat,hv])) (λhx=>by rw[zZ5]at hx;simpa using hx) (h.begin o).lv;exact zYr hg
theorem jVo{c:Frm}{f:Fo}(hs:f.some')(H:∀(st:List Oq) (a:Ac) (k:Px),ctxB st=(c.iso && !c.kno)->f.vf bits q.ms.length st->(∀o∈f.flat,0<=o.opac)->LvIn q c a k->accS c.kno f.op.oper f.op.mode q.m (q.sc f.op (q.raw c.kno k a f)) a k=a):zJQ q bits c f f.rest:=
 have _:=hq;⟨λst _ hv=>jK9 hv,λho o h=>ho o (jX8 h),λst a k hc hv ho h=>by rw[zV6 q c.kno k a hs,H st a k hc hv ho h]⟩
theorem jJC(h:o.opac=0):q.sc o p=.zero:=by
 unfold Spot.sc;rw[h];exact zJv hq.pos
theorem jJD(h:o.mask≠0)(h2:zYu q.ms o q.x q.y=0):q.sc o p=.zero:=by
 unfold Spot.sc;rw[if_neg h,h2,zJv hq.pos];exact zKp hq.pos
theorem yZO(o:Oq):q.sc o .zero=.zero:=by
 unfold Spot.sc;rw[zKp hq.pos];exact zKp hq.pos
theorem jVj(h:o.mask=0\/zYu q.ms o q.x q.y=q.m)(h2:o.opac=q.m):q.sc o p=p:=by
 have e:(if o.mask=0 then q.m else zYu q.ms o q.x q.y)=q.m:=by
  split
  .rfl
  .rename_i hn;exact h.resolve_left hn
 unfold Spot.sc;rw[e,h2,jZ1 hq.pos,jZ1 hq.pos]
theorem yYw{c:Frm}{f:Fo}(hs:f.some')(hn:zZf f.op.oper=true)(hz:f.op.opac=0\/(f.op.mask≠0/\zYu q.ms f.op q.x q.y=0)\/∀a k,q.raw c.kno k a f=.zero):zJQ q bits c f f.rest:=
 jVo hq hs λst a k hc hv ho h=>by
  have e:q.sc f.op (q.raw c.kno k a f)=.zero:=by
   rcases hz with hz|hz|hz
   .exact jJC hq hz
   .exact jJD hq hz.1 hz.2
   .rw[hz a k];exact yZO hq _
  rw[e];have v:=zWN hs hv;obtain⟨z1,z2⟩:=zJE (m:=q.m) (wZ8 hq.pos);exact jK1 hn h.lv.nn h.lv.kn (jVe h.lv z1 z2 v.oper v.mode (v.ctx.imp id (zUe hc))).1
theorem jGU(c:Frm)(o:Oq)(r:Fo)(a:Ac)(k:Px):q.raw c.kno k a (.grp o .nil r)=.zero:=have _:=hq;zG7
theorem yYv{c:Frm}{f:Fo}(hs:f.some')(h3:f.op.oper=3):zJQ q bits c f f.rest:=
 jVo hq hs λst a k hc hv ho h=>by
  have v:=zWN hs hv;have hc:ctxB st=true:=v.ctx.resolve_left (by omega);obtain⟨c1,c2⟩:=zUe (by assumption) hc;have hm:=hq.pos;obtain⟨r1,r2⟩:=jJU hq hv ho h;obtain⟨s1,s2⟩:=q.sc_ok hq v.kind v.err (zKD hs ho) r1 r2;generalize q.sc f.op (q.raw c.kno k a f)=p at *;obtain⟨p1,p2,p3,p4,p5⟩:=Px.ok_iff.1 s1;obtain⟨n1,n2,n3⟩:=s2;obtain⟨⟨q1,q2,q3⟩,_⟩:=Ac.ok_iff.1 h.lv.ok;obtain⟨m1,m2,m3,_⟩:=h.lv.nn;rw[c2,h3];have fa:∀x b,facA 3 x b q.m=0:=λ_ _=>by simp[facA]
  have fb:∀x b,facB 3 x b q.m=q.m:=λ_ _=>by simp[facB]
  have al:∀x b,zZK 3 x b q.m=b:=λx b=>by unfold zZK;rw[fa,fb,wZo,wXK,zZ7 hm]
  have col:∀s d,0<=s->s<=p.al->0<=d->d<=a.al->colS 3 f.op.mode q.m s p.al d a.al=d:=λs d s0 s1 d0 d1=>by
   have hd:=(zQQ (mode:=f.op.mode) s0 s1 d0 d1).ok.d;unfold colS;refine Ex.half_whole ?_ ?_ ?_
   .exact wQG (wQG hm hm) hd
   .simp only[valS,fa,wZo]
   .simp only[valS,fa,fb];grind
  unfold accS;simp only[wQT,if_false];rw[col _ _ n1 p1 m1 q1,col _ _ n2 p2 m2 q2,col _ _ n3 p3 m3 q3,al,al];rfl
theorem yYu{c:Frm}{f:Fo}(hs:f.some')(h3:f.op.oper=6\/f.op.oper=7\/f.op.oper=9\/f.op.oper=10)(hf:c.fst=true)(hi:c.iso=true)(hk:c.kno=false):zJQ q bits c f f.rest:=
 jVo hq hs λst a k hc hv ho h=>by
  have v:=zWN hs hv;obtain⟨r1,r2⟩:=jJU hq hv ho h;obtain⟨s1,s2⟩:=q.sc_ok hq v.kind v.err (zKD hs ho) r1 r2;generalize q.sc f.op (q.raw c.kno k a f)=p at *;have e1:=h.iso hi;have e2:=h.fst hf;subst e1;rw[hk,e2];have e3:zGL f.op.oper p=.zero:=by
   unfold zGL faB;rw[if_neg (by simp;omega)]
  have e4:=zHX (op:=f.op.oper) (mode:=f.op.mode) (k:=.zero) hq.pos s1 s2;rw[e3]at e4;exact e4
end
theorem jUO{p r:Int}(hm:0<m)(hp:0<=p)(hu:0<=u)(hr:0<=r)(hd:0<d):(⟨m*p,m*u,r,m*d⟩:Ex).half=(⟨p,u,r,d⟩:Ex).half:=by
 have n0:0<=(2*u)*(2*u)*r:=Int.mul_nonneg (zQ1 _) hr;have e1:(2*(m*u))*(2*(m*u))*r=m*m*((2*u)*(2*u)*r):=by grind
 unfold Ex.half Ex.up;simp only;rw[e1];generalize (2*u)*(2*u)*r=n at *;have nm:0<=m*m*n:=Int.mul_nonneg (zQ1 m) n0;obtain⟨a0,a1,a2⟩:=zYI n0
 have b1:m*zZH n<=zZH (m*m*n):=(jQK nm (Int.mul_nonneg (by omega) a0)).2 (by
  have:=Int.mul_le_mul_of_nonneg_left a1 (zQ1 m);have e:m*zZH n*(m*zZH n)=m*m*(zZH n*zZH n):=by grind
  omega)
 have b2:zZH (m*m*n)<m*(zZH n+1):=(jQi nm (Int.mul_nonneg (by omega) (by omega))).2 (by
  have:=Int.mul_lt_mul_of_pos_left a2 (wQG hm hm);have e:m*(zZH n+1)*(m*(zZH n+1))=m*m*((zZH n+1)*(zZH n+1)):=by grind
  omega)
 generalize zZH (m*m*n)=R' at *;generalize zZH n=R at *;have hX:=wZN (2*p+R+d) (2*d);have h1:=wZb (2*p+R+d) (b:=2*d) (by omega);have h2:=wZc (2*p+R+d) (show 0<2*d by omega);generalize (2*p+R+d)%(2*d)=w at *;generalize (2*p+R+d) / (2*d)=h at *;have hmd:0<m*d:=wQG hm hd;rw[wXk (by omega)];have k1:m*(w+1)<=m*(2*d):=Int.mul_le_mul_of_nonneg_left (by omega) (by omega);have k0:0<=m*w:=Int.mul_nonneg (by omega) h1;have k2:m*(w+2*d*h)=m*(2*p+R+d):=by rw[hX]
 have e3:m*(w+2*d*h)=m*w+h*(2*(m*d)):=by grind
 have e4:m*(2*p+R+d)=2*(m*p)+m*R+m*d:=by grind
 have e5:m*(R+1)=m*R+m:=by grind
 have e6:m*(w+1)=m*w+m:=by grind
 have e7:m*(2*d)=2*(m*d):=by grind
 have e8:(h+1)*(2*(m*d))=h*(2*(m*d))+2*(m*d):=by grind
 constructor
 .omega
 .omega
theorem jUP{N e r:Int}(hm:0<m)(hN:0<=N)(he:0<e):(⟨N*e,0,r,m*e⟩:Ex).half=(⟨N,0,r,m⟩:Ex).half:=by
 have z:∀t:Int,zZH (t*0*(t*0)*r)=0:=λt=>by simp[zZH,isq]
 unfold Ex.half Ex.up;simp only;rw[z];have e1:2*(N*e)+0+m*e=2*(e*N)+e*m:=by grind
 have e2:2*(m*e)=2*(e*m):=by grind
 rw[e1,e2,zUc hm he,wZw]
abbrev wYK:=@Int.add_nonneg
variable{a:Int}
theorem yQM{mode' f c:Int}(hm:0<m)(h0:0<=s)(h1:s<=a)(h2:a<=f)(h3:f<=m)(hc:0<=c):knoC mode m s a f c 0 0=knoC mode' m s a f c 0 0:=by
 have key:∀mode,knoC mode m s a f c 0 0=(⟨(m-f)*c+m*s,0,0,m⟩:Ex).half:=λmode=>by
  obtain⟨e1,e2⟩:=@jXI mode s a;have u:=(zQQ (mode:=mode) h0 h1 (Int.le_refl 0) (Int.le_refl 0)).ok;unfold knoC knoX;simp only[e1,e2];have n0:0<=(m-f)*c+m*s:=wYK (Int.mul_nonneg (by omega) hc) (Int.mul_nonneg (by omega) h0);have e:0+((m-f)*c+(f-a)*0+(m-0)*s)*(zQk mode s a 0 0).d=((m-f)*c+m*s)*(zQk mode s a 0 0).d:=by
   rw[wZe,wXp,wZw,wXK]
  rw[e,jUP hm n0 u.d];have z:∀(t r:Int),zZH (t*0*(t*0)*r)=0:=λt r=>by simp[zZH,isq]
  unfold Ex.half Ex.up;simp only[z]
 rw[key,key]
theorem jXs{f:Int}(hm:0<m)(h0:0<=s)(h1:s<=a)(h2:a<=m)(h3:0<=d)(h4:d<=b)(h5:b<=m):knoC mode m s a f d d b=colS 4 mode m s a d b:=by
 have u:=(zQQ (mode:=mode) h0 h1 h3 h4).ok;have fa:facA 4 a b m=m:=by simp[facA]
 have fb:facB 4 a b m=m-a:=by simp[facB]
 unfold knoC colS;have n0:0<=(zQk mode s a d b).p+((m-a)*d+(m-b)*s)*(zQk mode s a d b).d:=wYK u.p (Int.mul_nonneg (wYK (Int.mul_nonneg (by omega) h3) (Int.mul_nonneg (by omega) h0)) (wZ8 u.d));have:=jUO hm n0 u.q u.r (wQG hm u.d);have e1:knoX mode m s a f d d b=⟨(zQk mode s a d b).p+((m-a)*d+(m-b)*s)*(zQk mode s a d b).d,(zQk mode s a d b).q,(zQk mode s a d b).r,m*(zQk mode s a d b).d⟩:=by
  simp only[knoX,Ex.mk.injEq,and_true,true_and];grind
 have e2:valS 4 mode m s a d b=⟨m*((zQk mode s a d b).p+((m-a)*d+(m-b)*s)*(zQk mode s a d b).d),m*(zQk mode s a d b).q,(zQk mode s a d b).r,m*(m*(zQk mode s a d b).d)⟩:=by
  simp only[valS,fa,fb,Ex.mk.injEq,true_and];exact⟨by grind,by grind⟩
 rw[e1,e2,this]
def yXG(q:Spot)(kno:Bool)(o:Oq):Prop:=(o.oper=1/\kno=false)\/((o.mask=0/\o.opac=q.m)/\((kno=true/\(srcS q.ms o q.x q.y).f=q.m)\/(kno=false/\o.mode=1/\(o.oper=2\/(o.oper=4/\(srcS q.ms o q.x q.y).al=q.m)))))
def Fo.covd(q:Spot)(kno:Bool):Fo->Prop
 |.nil=>False
 |.draw o r=>yXG q kno o\/r.covd q kno
 |.grp _ _ r=>r.covd q kno
section
variable{q:Spot}{bits:Int}(hq:q.ok bits)
include hq
theorem yZa{a a':Ac}(v:OpV bits q.ms.length o st)(h0:0<=o.opac)(hc:ctxB st=true->iso=true/\kno=false)(h:LvOk q.m iso kno a k)(h':LvOk q.m iso kno a' k)(hv:yXG q kno o):
  accS kno o.oper o.mode q.m (q.sc o (srcS q.ms o q.x q.y)) a k=accS kno o.oper o.mode q.m (q.sc o (srcS q.ms o q.x q.y)) a' k:=by
 have hm:=hq.pos;have⟨s1,s2⟩:=q.src_ok hq o;have⟨t1,t2⟩:=q.sc_ok hq v.kind v.err h0 s1 s2
 rcases hv with⟨e1,e2⟩|⟨⟨e1,e2⟩,e3⟩
 .subst e2;have key:∀a,LvOk q.m iso false a k->accS false o.oper o.mode q.m (q.sc o (srcS q.ms o q.x q.y)) a k=.zero:=λa h=>by
   generalize q.sc o (srcS q.ms o q.x q.y)=p at *;obtain⟨p1,p2,p3,p4,p5⟩:=Px.ok_iff.1 t1;obtain⟨n1,n2,n3⟩:=t2;obtain⟨⟨q1,q2,q3⟩,_⟩:=Ac.ok_iff.1 h.ok;obtain⟨m1,m2,m3,_⟩:=h.nn;have fa:∀x b,facA 1 x b q.m=0:=λ_ _=>by simp[facA]
   have fb:∀x b,facB 1 x b q.m=0:=λ_ _=>by simp[facB]
   have al:∀x b,zZK 1 x b q.m=0:=λx b=>by unfold zZK;rw[fa,fb,wZo,wZo];exact zVY hm
   have col:∀s d,0<=s->s<=p.al->0<=d->d<=a.al->colS 1 o.mode q.m s p.al d a.al=0:=λs d s0 s1 d0 d1=>by
    have hd:=(zQQ (mode:=o.mode) s0 s1 d0 d1).ok.d;unfold colS;refine Ex.half_whole ?_ ?_ ?_
    .exact wQG (wQG hm hm) hd
    .simp only[valS,fa,wZo]
    .simp only[valS,fa,fb];grind
   rw[e1];unfold accS;simp only[wQT,if_false];rw[col _ _ n1 p1 m1 q1,col _ _ n2 p2 m2 q2,col _ _ n3 p3 m3 q3,al,al];rfl
  rw[key a h,key a' h']
 .rw[jVj hq (.inl e1) e2];generalize srcS q.ms o q.x q.y=p at *;obtain⟨p1,p2,p3,p4,p5⟩:=Px.ok_iff.1 s1;obtain⟨n1,n2,n3⟩:=s2
  rcases e3 with⟨rfl,ef⟩|⟨rfl,eM,e4⟩
  .have o4:o.oper=4:=v.ctx.resolve_right λhh=>by have:=(hc hh).2;cases this
   have sh:∀g,zXX 4 q.m g q.m=q.m:=λg=>by
    have:q.m*q.m+(q.m-q.m)*g=q.m*q.m:=by rw[Int.sub_self,wZo,wZw]
    unfold zXX;rw[if_neg (by decide),if_neg (by decide),if_pos (by decide),this,zZ7 hm]
   unfold accS;simp only[if_true];rw[ef,o4,sh,sh];unfold knoC knoX knoA;simp only[Int.sub_self,wZo,wXK]
  .have key:∀a,LvOk q.m iso false a k->accS false o.oper o.mode q.m p a k=⟨p.a,p.b,p.c,p.al,p.al,p.f⟩:=λa h=>by
    rw[eM];have fa:∀x b,facA o.oper x b q.m=q.m:=λx b=>by rcases e4 with e4|⟨e4,_⟩<;>rw[e4]<;>simp[facA]
    have fb:∀b,facB o.oper p.al b q.m=0:=λb=>by
     rcases e4 with e4|⟨e4,e5⟩<;>rw[e4]
     .simp[facB]
     .simp[facB];omega
    have al:∀b,zZK o.oper p.al b q.m=p.al:=λb=>by unfold zZK;rw[fa,fb,wZo,wZw,zZ7 hm]
    have col:∀s d,colS o.oper 1 q.m s p.al d a.al=s:=λs d=>by
     unfold colS;refine Ex.half_whole ?_ ?_ ?_
     .simp only[valS,zQk,zZm,if_true];exact wQG (wQG hm hm) (by decide)
     .simp only[valS,zQk,zZm,if_true,wZe]
     .simp only[valS,zQk,zZm,if_true,fa,fb];grind
    have sh:zXX o.oper p.f a.f q.m=p.f:=by
     rcases e4 with e4|⟨e4,e5⟩<;>rw[e4]
     .simp[zXX]
     .have ef:p.f=q.m:=by omega
      have:q.m*q.m+(q.m-q.m)*a.f=q.m*q.m:=by rw[Int.sub_self,wZo,wZw]
      unfold zXX;rw[if_neg (by decide),if_neg (by decide),if_pos (by decide),ef,this,zZ7 hm]
    unfold accS;simp only[wQT,if_false];rw[col,col,col,al,al,sh]
   rw[key a h,key a' h']
theorem jYR:∀(f:Fo)(st:List Oq)(iso kno:Bool)(a a':Ac)(k:Px),f.vf bits q.ms.length st->(∀o∈f.flat,0<=o.opac)->(ctxB st=true->iso=true/\kno=false)->LvOk q.m iso kno a k->LvOk q.m iso kno a' k->f.covd q kno->q.dn kno k f a=q.dn kno k f a'
 |.nil,st,iso,kno,a,a',k,_,_,_,_,_,hv=>hv.elim
 |.draw o r,st,iso,kno,a,a',k,hf,ho,hc,h,h',hv=>by
  have v:=OpV.of (.inl hf.1) hf.2.1;have h0:=ho o (by simp[Fo.flat]);have⟨s1,s2⟩:=q.src_ok hq o;simp only[Spot.dn]
  rcases hv with hv|hv
  .rw[yZa hq v h0 hc h h' hv]
  .exact jYR r st iso kno _ _ k hf.2.2 (λu hu=>ho u (by simp[Fo.flat,hu])) hc (q.step_keep hq (.inl hf.1) hf.2.1 h0 hc h s1 s2) (q.step_keep hq (.inl hf.1) hf.2.1 h0 hc h' s1 s2) hv
 |.grp o g r,st,iso,kno,a,a',k,hf,ho,hc,h,h',hv=>by
  have h0:=ho o (by simp[Fo.flat]);have res:∀b,LvOk q.m iso kno b k->LvOk q.m iso kno (accS kno o.oper o.mode q.m (q.sc o (zZy (q.dn o.kno (zQG o.iso kno b k).2 g (zQG o.iso kno b k).1) (zQG o.iso kno b k).2 q.m)) b k) k:=λb hb=>by
   have hg:=q.dn_keep hq g (st++[o]) o.iso o.kno _ _ hf.2.2.1 (λu hu=>ho u (by simp[Fo.flat,hu])) (λhx=>by rw[zZ5]at hx;simpa using hx) (zU9 (iso':=o.iso) (kno':=o.kno) hb);have⟨r1,r2⟩:=zYr hg;exact q.step_keep hq (.inr hf.1) hf.2.1 h0 hc hb r1 r2
  simp only[Spot.dn];exact jYR r st iso kno _ _ k hf.2.2.2 (λu hu=>ho u (by simp[Fo.flat,hu])) hc (res a h) (res a' h') hv
theorem yYt{c:Frm}{f:Fo}(hs:f.some')(hv:f.rest.covd q c.kno):zJQ q bits c f f.rest:=
 ⟨λst _ h=>jK9 h,λho o h=>ho o (jX8 h),λst a k hc h ho hl=>by
  have v:=zWN hs h;obtain⟨r1,r2⟩:=jJU hq h ho hl;rw[zV6 q c.kno k a hs]
  exact jYR hq f.rest st c.iso c.kno _ _ k (jK9 h) (λo hh=>ho o (jX8 hh)) (zUe hc) hl.lv (q.step_keep hq v.kind v.err (zKD hs ho) (zUe hc) hl.lv r1 r2) hv⟩
end
def Fo.width:Fo->Nat
 |.nil=>0
 |.draw _ r=>r.width+1
 |.grp _ _ r=>r.width+1
variable{g:Oq->Oq}
theorem yYj{f:Fo}(hs:f.some'):(f.chg g).op=g f.op:=by
 cases f with
 |nil=>exact hs.elim
 |draw o r=>rfl
 |grp o k r=>rfl
theorem yZc{f:Fo}(hs:f.some'):(f.chg g).some':=by
 cases f with
 |nil=>exact hs.elim
 |draw o r=>trivial
 |grp o k r=>trivial
theorem yZd{f:Fo}:(f.chg g).rest=f.rest:=by cases f<;>rfl
variable{b:Bool}
section
variable{q:Spot}{bits:Int}(hq:q.ok bits)
include hq
theorem jW5{c:Frm}{f:Fo}(hs:f.some')(hk:(g f.op).kind=f.op.kind)(hv:∀st,ctxB st=(c.iso && !c.kno)->OpV bits q.ms.length f.op st->OpV bits q.ms.length (g f.op) st)(hc:(f.op.iso && !f.op.kno)=true->((g f.op).iso && !(g f.op).kno)=true)(h0:0<=f.op.opac->0<=(g f.op).opac)(H:∀(st:List Oq) (a:Ac) (k:Px),ctxB st=(c.iso && !c.kno)->f.vf bits q.ms.length st->(∀o∈f.flat,0<=o.opac)->LvIn q c a k->accS c.kno (g f.op).oper (g f.op).mode q.m (q.sc (g f.op) (q.raw c.kno k a (f.chg g))) a k=accS c.kno f.op.oper f.op.mode q.m (q.sc f.op (q.raw c.kno k a f)) a k):zJQ q bits c f (f.chg g):=by
 have _:=hq;refine⟨λst hx h=>?_,λho o h=>?_,λst a k hx h ho hl=>?_⟩
 .have v:=hv st hx (zWN hs h)
  cases f with
  |nil=>exact hs.elim
  |draw o r=>exact⟨hk.trans h.1,v.err,h.2.2⟩
  |grp o k r=>exact⟨hk.trans h.1,v.err,zWX k (st++[o]) (st++[g o]) (by simp) (by rw[zZ5,zZ5];exact hc) h.2.2.1,h.2.2.2⟩
 .cases f with
  |nil=>exact hs.elim
  |draw u r=>
   simp only[Fo.chg,Fo.flat,wQm]at h
   rcases h with rfl|h
   .exact h0 (ho u (by simp[Fo.flat]))
   .exact ho o (by simp[Fo.flat,h])
  |grp u k r=>
   simp only[Fo.chg,Fo.flat,wQm]at h
   rcases h with rfl|h
   .exact h0 (ho u (by simp[Fo.flat]))
   .exact ho o (by simp only[Fo.flat,wQm];exact .inr h)
 .rw[zV6 q c.kno k a hs,zV6 q c.kno k a (yZc hs),yYj hs,yZd,H st a k hx h ho hl]
def zVt(o:Oq):Oq:={ o with mask:=0,mx:=0,my:=0 }
theorem yYs{c:Frm}{f:Fo}(hs:f.some')(hm:f.op.mask=0\/zYu q.ms f.op q.x q.y=q.m):zJQ q bits c f (f.chg zVt):=by
 refine jW5 hq hs rfl (λst _ v=>?_) id id (λst a k hx h ho hl=>?_)
 .have n0:zZz 0=true:=by decide
  exact⟨v.kind,v.draw,v.push,λ_=>⟨rfl,rfl⟩,v.img,⟨Int.le_refl 0,Int.natCast_nonneg _⟩,⟨v.near.1,v.near.2.1,n0,n0⟩,v.opac,v.oper,v.mode,v.ctx,v.len⟩
 .have e1:∀p,q.sc (zVt f.op) p=q.sc f.op p:=λp=>by
   unfold Spot.sc;have:(if f.op.mask=0 then q.m else zYu q.ms f.op q.x q.y)=q.m:=by
    split
    .rfl
    .rename_i hn;exact hm.resolve_left hn
   rw[this,if_pos (show(zVt f.op).mask=0 from rfl)];rfl
  have e2:q.raw c.kno k a (f.chg zVt)=q.raw c.kno k a f:=by cases f<;>rfl
  rw[e1,e2];rfl
def isoO(o:Oq):Oq:={ o with iso:=true }
theorem yYr{c:Frm}{g r:Fo}(hi:c.iso=true)(hf:c.fst=true\/c.kno=true):zJQ q bits c (.grp o g r) ((Fo.grp o g r).chg isoO):=by
 have _:=hq;refine⟨λst hx h=>?_,λho u h=>?_,λst a k hx h ho hl=>?_⟩
 .have v:=OpV.of (.inr h.1) h.2.1;have v2:OpV bits q.ms.length (isoO o) st:=⟨v.kind,λhh=>absurd (show o.kind=1 from hh) (by have:=h.1;omega),v.push,v.noM,v.img,v.mask,v.near,v.opac,v.oper,v.mode,v.ctx,v.len⟩
  exact⟨h.1,v2.err,zWX g (st++[o]) (st++[isoO o]) (by simp) (by rw[zZ5,zZ5];intro hh;simp only[wQd]at hh |-;exact⟨rfl,hh.2⟩) h.2.2.1,h.2.2.2⟩
 .simp only[Fo.chg,Fo.flat,wQm]at h
  rcases h with rfl|h
  .exact ho o (by simp[Fo.flat])
  .exact ho u (by simp only[Fo.flat,wQm];exact .inr h)
 .have hk0:=hl.iso hi;have e:zQG o.iso c.kno a k=zQG true c.kno a k:=by
   subst hk0
   rcases hf with hf|hf
   .rw[hl.fst hf];cases o.iso<;>cases c.kno<;>rfl
   .rw[hf];cases o.iso<;>rfl
  simp only[Fo.chg,Spot.dn];rw[e];rfl
def zVQ(o:Oq):Oq:={ o with oper:=4,mode:=1 }
theorem yXS{c:Frm}{f:Fo}(hs:f.some')(hi:c.iso=true)(h7:c.kno=true\/(c.fst=true/\faB f.op.oper=true)):zJQ q bits c f (f.chg zVQ):=by
 refine jW5 hq hs rfl (λst _ v=>?_) id id (λst a k hx h ho hl=>?_)
 .exact⟨v.kind,v.draw,v.push,v.noM,v.img,v.mask,v.near,v.opac,rfl,rfl,.inl rfl,v.len⟩
 .have v:=zWN hs h;obtain⟨r1,r2⟩:=jJU hq h ho hl;have e2:q.raw c.kno k a (f.chg zVQ)=q.raw c.kno k a f:=by cases f<;>rfl
  obtain⟨s1,s2⟩:=q.sc_ok hq v.kind v.err (zKD hs ho) r1 r2;rw[e2];have e1:q.sc (zVQ f.op) (q.raw c.kno k a f)=q.sc f.op (q.raw c.kno k a f):=rfl;rw[e1];generalize q.sc f.op (q.raw c.kno k a f)=p at *;have hm:=hq.pos;have hk0:=hl.iso hi;subst hk0
  cases hk:c.kno with
  |true=>
   have o4:f.op.oper=4:=v.ctx.resolve_right λhh=>by
    have:=(zUe hx hh).2;rw[hk]at this;cases this
   obtain⟨p1,p2,p3,p4,p5⟩:=Px.ok_iff.1 s1;obtain⟨n1,n2,n3⟩:=s2;obtain⟨m1,m2,m3,_⟩:=hl.lv.nn
   show accS true 4 1 q.m p a .zero=accS true f.op.oper f.op.mode q.m p a .zero
   rw[o4];unfold accS;simp only[if_true];have kz:=λs d (s0:0<=s) (s1:s<=p.al) (d0:0<=d)=>yQM (mode:=1) (mode':=f.op.mode) hm s0 s1 p4 p5 d0
   show Ac.mk (knoC 1 q.m p.a p.al p.f a.a 0 0) (knoC 1 q.m p.b p.al p.f a.b 0 0) (knoC 1 q.m p.c p.al p.f a.c 0 0) _ _ _=Ac.mk (knoC f.op.mode q.m p.a p.al p.f a.a 0 0) (knoC f.op.mode q.m p.b p.al p.f a.b 0 0) (knoC f.op.mode q.m p.c p.al p.f a.c 0 0) _ _ _
   rw[kz _ _ n1 p1 m1,kz _ _ n2 p2 m2,kz _ _ n3 p3 m3]
  |false=>
   rw[hk]at h7;obtain⟨hf,hop⟩:=h7.resolve_left (by simp);rw[hl.fst hf];have e4:=zHX (op:=f.op.oper) (mode:=f.op.mode) (k:=.zero) hm s1 s2;have e5:=zHX (op:=4) (mode:=1) (k:=.zero) hm s1 s2;have o1:zGL f.op.oper p=p:=by unfold zGL;rw[if_pos hop]
   have o2:zGL 4 p=p:=rfl;rw[o1]at e4;rw[o2]at e5;exact e5.trans e4.symm
def zJp(o:Oq):Oq:={ o with kno:=false }
theorem jGt{f:Fo}(hs:f.some')(hr:f.rest=.nil)(hv:f.vf bits q.ms.length st)(ho:∀o∈f.flat,0<=o.opac)(hx:ctxB st=false)(hl:LvOk q.m iso true (zKE k) k):q.dn true k f (zKE k)=q.dn false k f (zKE k):=by
 have v:=zWN hs hv;have o4:f.op.oper=4:=v.ctx.resolve_right (by rw[hx];simp);have hm:=hq.pos;obtain⟨⟨_,_,_⟩,_,_,hk2,hk3⟩:=Ac.ok_iff.1 hl.ok;have er:q.raw false k (zKE k) f=q.raw true k (zKE k) f:=by
  cases f with
  |nil=>rfl
  |draw o r=>rfl
  |grp o g r=>
   have eb:zQG o.iso false (zKE k) k=zQG o.iso true (zKE k) k:=by
    obtain⟨ka,kb,kc,kal,kf⟩:=k;simp only at hk3;subst hk3;cases o.iso<;>rfl
   simp only[Spot.raw];rw[eb]
 have rok:(q.raw true k (zKE k) f).ok q.m=true/\(q.raw true k (zKE k) f).nn:=by
  cases f with
  |nil=>exact zJE (wZ8 hm)
  |draw o r=>exact q.src_ok hq o
  |grp o g r=>
   exact zYr (q.dn_keep hq g (st++[o]) o.iso o.kno _ _ hv.2.2.1 (λv hv=>ho v (by simp[Fo.flat,hv])) (λhx=>by rw[zZ5]at hx;simpa using hx) (zU9 (iso':=o.iso) (kno':=o.kno) hl))
 obtain⟨s1,s2⟩:=q.sc_ok hq v.kind v.err (zKD hs ho) rok.1 rok.2;rw[zV6 q true k _ hs,zV6 q false k _ hs,er,hr];generalize q.sc f.op (q.raw true k (zKE k) f)=p at *;obtain⟨p1,p2,p3,p4,p5⟩:=Px.ok_iff.1 s1;obtain⟨n1,n2,n3⟩:=s2;obtain⟨k1,k2,k3⟩:=hl.kn;obtain⟨r1,r2,r3,r4,r5⟩:=Px.ok_iff.1 hk2;simp only[Spot.dn];rw[o4];unfold accS;simp only[if_true,wQT,if_false,zKE];have ks:=λs d (s0:0<=s) (s1:s<=p.al) (d0:0<=d) (d1:d<=k.al)=>jXs (mode:=f.op.mode) (f:=p.f) hm s0 s1 (show p.al<=q.m by omega) d0 d1 (show k.al<=q.m by omega);have fa:∀x b,facA 4 x b q.m=q.m:=λ_ _=>by simp[facA]
 have fb:∀x b,facB 4 x b q.m=q.m-x:=λ_ _=>by simp[facB]
 have ka:∀b,knoA q.m p.al p.f b b=zZK 4 p.al b q.m:=λb=>by
  unfold knoA zZK;rw[fa,fb];congr 1;grind
 rw[ks _ _ n1 p1 k1 r1,ks _ _ n2 p2 k2 r2,ks _ _ n3 p3 k3 r3,ka,ka]
theorem yYq{c:Frm}{g r:Fo}(hk:o.kno=true)(hw:g.some'/\g.rest=.nil):zJQ q bits c (.grp o g r) ((Fo.grp o g r).chg zJp):=by
 refine⟨λst hx h=>?_,λho u h=>?_,λst a k hx h ho hl=>?_⟩
 .have v:=OpV.of (.inr h.1) h.2.1;have v2:OpV bits q.ms.length (zJp o) st:=⟨v.kind,λhh=>absurd (show o.kind=1 from hh) (by have:=h.1;omega),v.push,v.noM,v.img,v.mask,v.near,v.opac,v.oper,v.mode,v.ctx,v.len⟩
  exact⟨h.1,v2.err,zWX g (st++[o]) (st++[zJp o]) (by simp) (by rw[zZ5,hk];intro hh;simp at hh) h.2.2.1,h.2.2.2⟩
 .simp only[Fo.chg,Fo.flat,wQm]at h
  rcases h with rfl|h
  .exact ho o (by simp[Fo.flat])
  .exact ho u (by simp only[Fo.flat,wQm];exact .inr h)
 .have hb:=(hl.begin o).lv;have hb:LvOk q.m o.iso true (zKE (zQG o.iso c.kno a k).2) (zQG o.iso c.kno a k).2:=by
   have e:(jV7 o).kno=true:=hk;rw[e]at hb;exact hb
  have e:=jGt hq hw.1 hw.2 h.2.2.1 (λv hv=>ho v (by simp[Fo.flat,hv])) (by rw[zZ5,hk];simp) hb;have e':q.dn true (zQG o.iso c.kno a k).2 g (zQG o.iso c.kno a k).1=q.dn false (zQG o.iso c.kno a k).2 g (zQG o.iso c.kno a k).1:=e;simp only[Fo.chg,Spot.dn];rw[hk,e'];rfl
def jGg(q:Spot)(o:Oq):Prop:=o.mask=0/\o.opac=q.m
def zZt(o u:Oq)(b:Bool):Oq:=
 { u with mask:=if b then o.mask else u.mask,mx:=if b then o.mx else u.mx,my:=if b then o.my else u.my,opac:=if b then o.opac else u.opac,oper:=o.oper,mode:=o.mode,iso:=if u.kind=2 then true else u.iso }
def Fo.lift(o:Oq)(b:Bool)(r:Fo):Fo->Fo
 |.nil=>r
 |.draw u _=>.draw (zZt o u b) r
 |.grp u k _=>.grp (zZt o u b) k r
theorem yYp{c:Frm}{g r:Fo}(hi:o.iso=true)(hw:g.some'/\g.rest=.nil)(h4:g.op.oper=4)(h1:g.op.mode=1)(hb:b=true->jGg q g.op)(hb':b=false->jGg q o):zJQ q bits c (.grp o g r) (Fo.lift o b r g):=by
 obtain⟨hs,hr⟩:=hw;have hm:=hq.pos;have hv2:∀st,OpV bits q.ms.length o st->OpV bits q.ms.length g.op (st++[o])->OpV bits q.ms.length (zZt o g.op b) st:=λst v w=>by
  have hl:g.op.kind=2->st.length<64:=λhh=>by have:=w.len hh;simp at this;omega
  have hd:(zZt o g.op b).kind=1->(zZt o g.op b).iso=false/\(zZt o g.op b).kno=false:=λhh=>by
   have hh:g.op.kind=1:=hh;have:=w.draw hh;refine⟨?_,this.2⟩
   show(if g.op.kind=2 then true else g.op.iso)=false
   rw[if_neg (by omega)];exact this.1
  cases b with
  |true=>exact⟨w.kind,hd,w.push,v.noM,w.img,v.mask,⟨w.near.1,w.near.2.1,v.near.2.2⟩,v.opac,v.oper,v.mode,v.ctx,hl⟩
  |false=>exact⟨w.kind,hd,w.push,w.noM,w.img,w.mask,w.near,w.opac,v.oper,v.mode,v.ctx,hl⟩
 refine⟨λst hx h=>?_,λho u h=>?_,λst a k hx h ho hl=>?_⟩
 .have v:=OpV.of (.inr h.1) h.2.1;have w:=zWN hs h.2.2.1;have v2:=hv2 st v w
  cases g with
  |nil=>exact hs.elim
  |draw u s=>exact⟨h.2.2.1.1,v2.err,h.2.2.2⟩
  |grp u e s=>
   refine⟨h.2.2.1.1,v2.err,?_,h.2.2.2⟩;refine zWX e (st++[o]++[u]) (st++[zZt o u b]) (by simp) ?_ h.2.2.1.2.2.1;rw[zZ5,zZ5];intro hh;simp only[wQd]at hh |-;exact⟨by show(if u.kind=2 then true else u.iso)=true;rw[if_pos h.2.2.1.1],hh.2⟩
 .have h0:0<=o.opac:=ho o (by simp[Fo.flat])
  cases g with
  |nil=>exact hs.elim
  |draw v s=>
   have hv0:0<=v.opac:=ho v (by simp[Fo.flat]);simp only[Fo.lift,Fo.flat,wQm]at h
   rcases h with rfl|h
   .show 0<=(if b then o.opac else v.opac)
    split<;>assumption
   .exact ho u (by simp[Fo.flat,h])
  |grp v e s=>
   have hv0:0<=v.opac:=ho v (by simp[Fo.flat]);simp only[Fo.lift,Fo.flat,wQm,List.mem_append]at h
   rcases h with rfl|h|h|h
   .show 0<=(if b then o.opac else v.opac)
    split<;>assumption
   .exact ho u (by simp[Fo.flat,h])
   .rw[h];decide
   .exact ho u (by simp[Fo.flat,h])
 .have hog:∀u∈g.flat,0<=u.opac:=λu hu=>ho u (by simp[Fo.flat,hu]);have w:=zWN hs h.2.2.1;have hin:=hl.begin o;have eb:zQG o.iso c.kno a k=(.zero,.zero):=by rw[hi];rfl
  rw[eb]at hin;obtain⟨r1,r2⟩:=jJU hq h.2.2.1 hog hin;obtain⟨s1,s2⟩:=q.sc_ok hq w.kind w.err (zKD hs hog) r1 r2;have res:zZy (q.dn o.kno .zero g .zero) .zero q.m=q.sc g.op (q.raw o.kno .zero .zero g):=by
   rw[zV6 q o.kno .zero .zero hs,hr,h4,h1];have e:(jV7 o).kno=o.kno:=rfl;rw[e]at s1 s2;generalize q.sc g.op (q.raw o.kno .zero .zero g)=p at *;simp only[Spot.dn];have ea:accS o.kno 4 1 q.m p .zero .zero=⟨p.a,p.b,p.c,p.al,p.al,p.f⟩:=by
    have e5:=zHX (op:=4) (mode:=1) (k:=.zero) hm s1 s2;have o2:zGL 4 p=p:=rfl;rw[o2]at e5
    cases hk:o.kno with
    |false=>exact e5
    |true=>
     obtain⟨p1,p2,p3,p4,p5⟩:=Px.ok_iff.1 s1;obtain⟨n1,n2,n3⟩:=s2;have ks:=λs (s0:0<=s) (s1:s<=p.al)=>jXs (mode:=1) (f:=p.f) hm s0 s1 (show p.al<=q.m by omega) (Int.le_refl 0) (Int.le_refl 0) (wZ8 hm);have fa:∀x b,facA 4 x b q.m=q.m:=λ_ _=>by simp[facA]
     have fb:∀x b,facB 4 x b q.m=q.m-x:=λ_ _=>by simp[facB]
     have ka:knoA q.m p.al p.f 0 0=zZK 4 p.al 0 q.m:=by
      unfold knoA zZK;rw[fa,fb];congr 1;grind
     rw[<-e5];unfold accS;simp only[if_true,wQT,if_false,Ac.zero,Px.zero];rw[ks _ n1 p1,ks _ n2 p2,ks _ n3 p3,ka]
   rw[ea];obtain⟨p1,p2,p3,p4,p5⟩:=Px.ok_iff.1 s1;obtain⟨n1,n2,n3⟩:=s2;have z1:(Px.zero).a=0:=rfl;have z2:(Px.zero).b=0:=rfl;have z3:(Px.zero).c=0:=rfl;unfold zZy;simp only;rw[z1,z2,z3,jYd hm n1 p1,jYd hm n2 p2,jYd hm n3 p3]
  have raw2:q.raw c.kno k a (Fo.lift o b r g)=q.raw o.kno .zero .zero g:=by
   cases g with
   |nil=>exact hs.elim
   |draw u s=>rfl
   |grp u e s=>
    have hk2:u.kind=2:=h.2.2.1.1;have e1:zQG u.iso o.kno .zero .zero=(.zero,.zero):=by cases u.iso<;>cases o.kno<;>rfl
    have e2:zQG (zZt o u b).iso c.kno a k=(.zero,.zero):=by
     have:(zZt o u b).iso=true:=by show(if u.kind=2 then true else u.iso)=true;rw[if_pos hk2]
     rw[this];rfl
    show zZy (q.dn u.kno (zQG (zZt o u b).iso c.kno a k).2 e (zQG (zZt o u b).iso c.kno a k).1) (zQG (zZt o u b).iso c.kno a k).2 q.m=zZy (q.dn u.kno (zQG u.iso o.kno .zero .zero).2 e (zQG u.iso o.kno .zero .zero).1) (zQG u.iso o.kno .zero .zero).2 q.m
    rw[e1,e2]
  have lop:(Fo.lift o b r g).op=zZt o g.op b/\(Fo.lift o b r g).rest=r/\(Fo.lift o b r g).some':=by
   cases g with
   |nil=>exact hs.elim
   |draw u s=>exact⟨rfl,rfl,trivial⟩
   |grp u e s=>exact⟨rfl,rfl,trivial⟩
  rw[zV6 q c.kno k a lop.2.2,lop.1,lop.2.1,raw2];simp only[Spot.dn];rw[eb];simp only;rw[res];have esc:q.sc (zZt o g.op b) (q.raw o.kno .zero .zero g)=q.sc o (q.sc g.op (q.raw o.kno .zero .zero g)):=by
   cases b with
   |true=>
    have u:=hb rfl;rw[jVj hq (o:=g.op) (.inl u.1) u.2];rfl
   |false=>
    have u:=hb' rfl;rw[jVj hq (o:=o) (.inl u.1) u.2];rfl
  rw[esc];rfl
end
def grpF:Nat->Int->Fo->List Int
 |_,_,.nil=>[]
 |n,g,.draw _ r=>g::grpF (n+1) g r
 |n,g,.grp _ k r=>g::(grpF (n+1) n k++g::grpF (n+k.size+2) g r)
def kidF:Fo->List Int
 |.nil=>[]
 |.draw _ r=>0::kidF r
 |.grp _ k r=>(k.width:Int)::(kidF k++0::kidF r)
def fstF:Bool->Fo->List Bool
 |_,.nil=>[]
 |b,.draw _ r=>b::fstF false r
 |b,.grp _ k r=>b::(fstF true k++false::fstF false r)
theorem zK5:∀(f:Fo)(n:Nat)(g:Int),(grpF n g f).length=f.size
 |.nil,_,_=>rfl
 |.draw _ r,n,g=>by simp[grpF,Fo.size,zK5 r]
 |.grp _ k r,n,g=>by simp[grpF,Fo.size,zK5 k,zK5 r];omega
theorem zK3:∀(f:Fo),(kidF f).length=f.size
 |.nil=>rfl
 |.draw _ r=>by simp[kidF,Fo.size,zK3 r]
 |.grp _ k r=>by simp[kidF,Fo.size,zK3 k,zK3 r];omega
theorem zK7:∀(f:Fo)(b:Bool),(fstF b f).length=f.size
 |.nil,_=>rfl
 |.draw _ r,_=>by simp[fstF,Fo.size,zK7 r]
 |.grp _ k r,_=>by simp[fstF,Fo.size,zK7 k,zK7 r];omega
def Fo.kidN:Fo->Nat
 |.grp _ k _=>k.width
 |_=>0
def Fo.span:Fo->Nat
 |.grp _ k _=>k.size+1
 |_=>0
theorem jZo(A:List α)(x:α)(B:List α)(i:Nat):(A++x::B)[A.length+1+i]?=B[i]?:=by
 rw[wQq (by omega),show A.length+1+i-A.length=i+1 by omega,wQt]
theorem jWe(A:List α)(x:α)(B:List α):(A++x::B)[A.length]?=some x:=by
 rw[wQq (by omega),wZa,wXh]
theorem zYC{A B:List α}(h:i<A.length):(A++B)[i]?=A[i]?:=wQO h
structure yYx(f:Fo)(n i:Nat)(g0:Int)(c c':Frm)(s:Fo):Prop where
  is:s.some'
  op:f.flat[i]?=some s.op
  end_:(endF n f)[i]?=some (((n+i+s.span:Nat):Int))
  kid:(kidF f)[i]?=some (s.kidN:Int)
  fst:(fstF c.fst f)[i]?=some c'.fst
  grp:∃g,(grpF n g0 f)[i]?=some g/\((g=g0/\c'.iso=c.iso/\c'.kno=c.kno)\/∃m:Nat,g=((n+m:Nat):Int)/\∃o,f.flat[m]?=some o/\o.iso=c'.iso/\o.kno=c'.kno)
theorem jZd:∀(f:Fo)(i n:Nat)(g0:Int)(c c':Frm)(s:Fo),f.dig i c=some (c',s)->yYx f n i g0 c c' s
 |.nil,i,n,g0,c,c',s,h=>by cases h
 |.draw o r,0,n,g0,c,c',s,h=>by
  simp only[Fo.dig,wQa,wQc]at h;obtain⟨rfl,rfl⟩:=h;exact⟨trivial,rfl,by rw[jZa];rfl,rfl,rfl,⟨g0,rfl,.inl ⟨rfl,rfl,rfl⟩⟩⟩
 |.draw o r,i+1,n,g0,c,c',s,h=>by
  obtain⟨h1,h2,h3,h4,h5,g,h6,h7⟩:=jZd r i (n+1) g0 c.next c' s h;refine⟨h1,by rw[Fo.flat,wQt];exact h2,by rw[jZa,wQt,h3];congr 2;omega,by rw[kidF,wQt];exact h4,by rw[fstF,wQt];exact h5,g,by rw[grpF,wQt];exact h6,?_⟩
  rcases h7 with h7|⟨m,e,o',h8,h9⟩
  .exact .inl h7
  .exact .inr ⟨m+1,by rw[e];congr 1;omega,o',by rw[Fo.flat,wQt];exact h8,h9⟩
 |.grp o k r,0,n,g0,c,c',s,h=>by
  simp only[Fo.dig,wQa,wQc]at h;obtain⟨rfl,rfl⟩:=h;exact⟨trivial,rfl,by rw[zHU];rfl,rfl,rfl,⟨g0,rfl,.inl ⟨rfl,rfl,rfl⟩⟩⟩
 |.grp o k r,i+1,n,g0,c,c',s,h=>by
  simp only[Fo.dig]at h;split at h
  .rename_i hi;obtain⟨h1,h2,h3,h4,h5,g,h6,h7⟩:=jZd k i (n+1) (n:Int) (jV7 o) c' s h;refine⟨h1,?_,?_,?_,?_,g,?_,?_⟩
   .rw[Fo.flat,wQt,zYC (by rw[k.flat_len];exact hi)];exact h2
   .rw[zHU,wQt,zYC (by rw[zYA];exact hi),h3];congr 2;omega
   .rw[kidF,wQt,zYC (by rw[zK3];exact hi)];exact h4
   .rw[fstF,wQt,zYC (by rw[zK7];exact hi)];exact h5
   .rw[grpF,wQt,zYC (by rw[zK5];exact hi)];exact h6
   .rcases h7 with⟨e,a,b⟩|⟨m,e,o',h8,h9⟩
    .exact .inr ⟨0,by rw[e];rfl,o,rfl,a.symm,b.symm⟩
    .have hm:m<k.size:=by
      rw[<-k.flat_len]
      rcases wQx m k.flat.length with q|q
      .exact q
      .rw[wQW q]at h8;cases h8
     exact .inr ⟨m+1,by rw[e];congr 1;omega,o',by rw[Fo.flat,wQt,zYC (by rw[k.flat_len];exact hm)];exact h8,h9⟩
  .split at h
   .cases h
   .rename_i hn1 hn2;obtain⟨j,rfl⟩:∃j,i=k.size+1+j:=⟨i-k.size-1,by omega⟩
    rw[show k.size+1+j-k.size-1=j by omega]at h;obtain⟨h1,h2,h3,h4,h5,g,h6,h7⟩:=jZd r j (n+k.size+2) g0 c.next c' s h;refine⟨h1,?_,?_,?_,?_,g,?_,?_⟩
    .rw[Fo.flat,wQt];have:=jZo k.flat popO r.flat j;rw[k.flat_len]at this;rw[this];exact h2
    .rw[zHU,wQt];have:=jZo (endF (n+1) k) ((n+k.size+1:Nat):Int) (endF (n+k.size+2) r) j;rw[zYA]at this;rw[this,h3];congr 2;omega
    .rw[kidF,wQt];have:=jZo (kidF k) 0 (kidF r) j;rw[zK3]at this;rw[this];exact h4
    .rw[fstF,wQt];have:=jZo (fstF true k) false (fstF false r) j;rw[zK7]at this;rw[this];exact h5
    .rw[grpF,wQt];have:=jZo (grpF (n+1) n k) g0 (grpF (n+k.size+2) g0 r) j;rw[zK5]at this;rw[this];exact h6
    .rcases h7 with h7|⟨m,e,o',h8,h9⟩
     .exact .inl h7
     .refine .inr ⟨k.size+2+m,by rw[e];congr 1;omega,o',?_,h9⟩;rw[Fo.flat,show k.size+2+m=(k.size+1+m)+1 by omega,wQt];have:=jZo k.flat popO r.flat m;rw[k.flat_len]at this;rw[this];exact h8
theorem zHV:∀(f:Fo)(i:Nat)(c:Frm),f.ok->(∃o,f.flat[i]?=some o/\o.kind≠3)->∃c' s,f.dig i c=some (c',s)
 |.nil,i,c,_,⟨o,h,_⟩=>by simp[Fo.flat]at h
 |.draw o r,0,c,_,_=>⟨_,_,rfl⟩
 |.draw o r,i+1,c,hf,⟨u,h,hk⟩=>zHV r i c.next hf.2 ⟨u,by rw[Fo.flat,wQt]at h;exact h,hk⟩
 |.grp o k r,0,c,_,_=>⟨_,_,rfl⟩
 |.grp o k r,i+1,c,hf,⟨u,h,hk⟩=>by
  rw[Fo.flat,wQt]at h;simp only[Fo.dig];split
  .rename_i hi;rw[zYC (by rw[k.flat_len];exact hi)]at h;exact zHV k i _ hf.2.1 ⟨u,h,hk⟩
  .rename_i hn;split
   .rename_i he;subst he;have:=jWe k.flat popO r.flat;rw[k.flat_len]at this;rw[this]at h;injection h with h
    subst h;exact absurd rfl hk
   .rename_i hne;obtain⟨j,rfl⟩:∃j,i=k.size+1+j:=⟨i-k.size-1,by omega⟩
    have:=jZo k.flat popO r.flat j;rw[k.flat_len]at this;rw[this]at h;rw[show k.size+1+j-k.size-1=j by omega];exact zHV r j _ hf.2.2 ⟨u,h,hk⟩
theorem zXi:∀(f:Fo)(i:Nat)(c c':Frm)(s:Fo),f.dig i c=some (c',s)->∃A T:List Oq,A.length=i/\f.flat=A++(s.flat++T)/\(∀g,(Fo.put g f i).flat=A++((g s).flat++T))/\(T=[]\/∃T',T=popO::T')
 |.nil,i,c,c',s,h=>by cases h
 |.draw o r,0,c,c',s,h=>by
  simp only[Fo.dig,wQa,wQc]at h;obtain⟨rfl,rfl⟩:=h;exact⟨[],[],rfl,by simp,λg=>by simp[Fo.put],.inl rfl⟩
 |.draw o r,i+1,c,c',s,h=>by
  obtain⟨A,T,h1,h2,h3,h4⟩:=zXi r i c.next c' s h;exact⟨o::A,T,by simp[h1],by simp[Fo.flat,h2],λg=>by simp[Fo.put,Fo.flat,h3],h4⟩
 |.grp o k r,0,c,c',s,h=>by
  simp only[Fo.dig,wQa,wQc]at h;obtain⟨rfl,rfl⟩:=h;exact⟨[],[],rfl,by simp,λg=>by simp[Fo.put],.inl rfl⟩
 |.grp o k r,i+1,c,c',s,h=>by
  simp only[Fo.dig]at h;split at h
  .rename_i hi;obtain⟨A,T,h1,h2,h3,h4⟩:=zXi k i _ c' s h;refine⟨o::A,T++popO::r.flat,by simp[h1],by simp[Fo.flat,h2],λg=>?_,?_⟩
   .simp only[Fo.put];rw[if_pos hi];simp[Fo.flat,h3]
   .rcases h4 with rfl|⟨T',rfl⟩
    .exact .inr ⟨r.flat,rfl⟩
    .exact .inr ⟨T'++popO::r.flat,rfl⟩
  .split at h
   .cases h
   .rename_i hn1 hn2;obtain⟨A,T,h1,h2,h3,h4⟩:=zXi r (i-k.size-1) _ c' s h;refine⟨o::(k.flat++popO::A),T,by simp[h1,k.flat_len];omega,by simp[Fo.flat,h2],λg=>?_,h4⟩;simp only[Fo.put];rw[if_neg hn1,if_neg hn2];simp[Fo.flat,h3]
def mW(m:Int):Nat:=if m=0 then 0 else 1
def oW(p q:Int):Nat:=if p=4/\q=1 then 0 else 1
def iW(k:Int)(b:Bool):Nat:=if k=2/\b=false then 1 else 0
def kW(b:Bool):Nat:=if b=true then 1 else 0
def wtO(o:Oq):Nat:=if o.kind=3 then 0 else 1+mW o.mask+oW o.oper o.mode+iW o.kind o.iso+kW o.kno
def wtL(l:List Oq):Nat:=(l.map wtO).sum
theorem yXI(o:Oq):wtO o<=5:=by
 unfold wtO mW oW iW kW
 repeat' split<;>try omega
theorem yZs:∀l:List Oq,wtL l<=5*l.length
 |[]=>Nat.le_refl 0
 |o::l=>by
  have:=yZs l;have:=yXI o;simp only[wtL,wQi,List.sum_cons,wQC]at *;omega
theorem jXQ(l k:List Oq):wtL (l++k)=wtL l+wtL k:=by simp[wtL]
theorem jXP(o:Oq)(l:List Oq):wtL (o::l)=wtO o+wtL l:=by simp[wtL]
theorem yZF(h:o.kind≠3):1<=wtO o:=by unfold wtO;rw[if_neg h];omega
def Fo.inner:Fo->List Oq
 |.grp _ k _=>k.flat++[popO]
 |_=>[]
theorem zUN(s:Fo):s.inner.length=s.span:=by
 cases s with
 |nil=>rfl
 |draw o r=>rfl
 |grp o k r=>simp[Fo.inner,Fo.span,k.flat_len]
variable{s:Fo}
theorem zYa(h:s.some'):s.flat=s.op::(s.inner++s.rest.flat):=by
 cases s with
 |nil=>exact h.elim
 |draw o r=>rfl
 |grp o k r=>simp[Fo.flat,Fo.inner,Fo.op,Fo.rest]
theorem jW6(h:s.some')(g:Oq->Oq):(s.chg g).flat=g s.op::(s.inner++s.rest.flat):=by
 cases s with
 |nil=>exact h.elim
 |draw o r=>rfl
 |grp o k r=>simp[Fo.chg,Fo.flat,Fo.inner,Fo.op,Fo.rest]
theorem jYP(A B C:List α):(A++(B++C)).drop (A.length+B.length)=C:=by
 rw[<-List.append_assoc,List.drop_append_of_le_length (by simp)];simp
variable{c':Frm}
theorem yQv{f:Fo}{c:Frm}(h:f.dig i c=some (c',s)):(Fo.put Fo.rest f i).flat=f.flat.take i++f.flat.drop (i+s.span+1):=by
 have D:=(jZd f i 0 0 c c' s h).is;obtain⟨A,T,rfl,h2,h3,_⟩:=zXi f i c c' s h;rw[h3,h2,zYa D];have e:A++(s.op::(s.inner++s.rest.flat)++T)=A++((s.op::s.inner)++(s.rest.flat++T)):=by simp
 rw[e,wZK,show A.length+s.span+1=A.length+(s.op::s.inner).length by simp[zUN];omega,jYP]
theorem jYf{f:Fo}{c:Frm}(g:Oq->Oq)(h:f.dig i c=some (c',s)):(Fo.put (Fo.chg g) f i).flat=f.flat.set i (g s.op):=by
 have D:=(jZd f i 0 0 c c' s h).is;obtain⟨A,T,rfl,h2,h3,_⟩:=zXi f i c c' s h;rw[h3,h2,zYa D,jW6 D];rw[List.set_append_right _ _ (Nat.le_refl _),wZa];simp
theorem yQw{f:Fo}{c:Frm}{g r:Fo}(h:f.dig i c=some (c',.grp o g r))(hs:g.some')(hr:g.rest=.nil):
  (Fo.put (λ_=>Fo.lift o b r g) f i).flat=f.flat.take i++(zZt o g.op b::((f.flat.drop (i+2)).take (g.size-1)))++f.flat.drop (i+g.size+2):=by
 obtain⟨A,T,rfl,h2,h3,_⟩:=zXi f i c c' _ h;rw[h3,h2];have fg:g.flat=g.op::g.inner:=by
  have:=zYa hs;rw[hr]at this;simpa [Fo.flat]using this
 have sz:g.size=g.inner.length+1:=by rw[<-g.flat_len,fg];simp
 have e:A++((Fo.grp o g r).flat++T)=A++([o,g.op]++(g.inner++([popO]++(r.flat++T)))):=by
  simp[Fo.flat,fg]
 have el:(Fo.lift o b r g).flat=zZt o g.op b::(g.inner++r.flat):=by
  cases g with
  |nil=>exact hs.elim
  |draw u s=>simp[Fo.lift,Fo.flat,Fo.inner,Fo.op]
  |grp u k s=>simp[Fo.lift,Fo.flat,Fo.inner,Fo.op]
 rw[e,el,wZK,show A.length+2=A.length+[o,g.op].length by rfl,jYP,sz,wZE,wZK,
  show A.length+(g.inner.length+1)+2=(A++([o,g.op]++g.inner)).length+[popO].length by simp;omega,
  show A++([o,g.op]++(g.inner++([popO]++(r.flat++T))))=(A++([o,g.op]++g.inner))++([popO]++(r.flat++T)) by simp,jYP]
 simp
theorem zUO(hs:s.some')(h:s.ok):s.op.kind=1\/s.op.kind=2:=by
 cases s with
 |nil=>exact hs.elim
 |draw o r=>exact .inl h.1
 |grp o k r=>exact .inr h.1
theorem zHj:∀(f:Fo)(i:Nat)(c c':Frm)(s:Fo),f.ok->f.dig i c=some (c',s)->s.ok
 |.nil,i,c,c',s,hf,h=>by cases h
 |.draw o r,0,c,c',s,hf,h=>by
  simp only[Fo.dig,wQa,wQc]at h;obtain⟨rfl,rfl⟩:=h;exact hf
 |.draw o r,i+1,c,c',s,hf,h=>zHj r i _ c' s hf.2 h
 |.grp o k r,0,c,c',s,hf,h=>by
  simp only[Fo.dig,wQa,wQc]at h;obtain⟨rfl,rfl⟩:=h;exact hf
 |.grp o k r,i+1,c,c',s,hf,h=>by
  simp only[Fo.dig]at h;split at h
  .exact zHj k i _ c' s hf.2.1 h
  .split at h
   .cases h
   .exact zHj r _ _ c' s hf.2.2 h
theorem yQx{f:Fo}{c:Frm}{g:Fo->Fo}(h:f.dig i c=some (c',s))(hl:wtL (g s).flat<wtL s.flat):wtL (Fo.put g f i).flat<wtL f.flat:=by
 obtain⟨A,T,_,h2,h3,_⟩:=zXi f i c c' s h;rw[h3,h2];simp only[jXQ];omega
theorem jGL(hs:s.some')(hk:s.op.kind≠3):wtL s.rest.flat<wtL s.flat:=by
 have:=yZF hk;rw[zYa hs];simp only[jXP,jXQ];omega
theorem zU3(hs:s.some'){g:Oq->Oq}(hl:wtO (g s.op)<wtO s.op):wtL (s.chg g).flat<wtL s.flat:=by
 rw[zYa hs,jW6 hs];simp only[jXP,jXQ];omega
theorem jHd(hk:o.kind≠3)(h:o.mask≠0):wtO (zVt o)<wtO o:=by
 show(if o.kind=3 then 0 else 1+mW 0+oW o.oper o.mode+iW o.kind o.iso+kW o.kno)<(if o.kind=3 then 0 else 1+mW o.mask+oW o.oper o.mode+iW o.kind o.iso+kW o.kno)
 have e1:mW 0=0:=rfl;have e2:mW o.mask=1:=by unfold mW;rw[if_neg h]
 rw[if_neg hk,if_neg hk,e1,e2];omega
theorem yQO(hk:o.kind=2)(h:o.iso=false):wtO (isoO o)<wtO o:=by
 show(if o.kind=3 then 0 else 1+mW o.mask+oW o.oper o.mode+iW o.kind true+kW o.kno)<(if o.kind=3 then 0 else 1+mW o.mask+oW o.oper o.mode+iW o.kind o.iso+kW o.kno)
 have e1:iW o.kind true=0:=by unfold iW;rw[if_neg (by simp)]
 have e2:iW o.kind o.iso=1:=by unfold iW;rw[if_pos ⟨hk,h⟩]
 rw[if_neg (by omega),if_neg (by omega),e1,e2];omega
theorem jJ5(hk:o.kind≠3)(h:¬(o.oper=4/\o.mode=1)):wtO (zVQ o)<wtO o:=by
 show(if o.kind=3 then 0 else 1+mW o.mask+oW 4 1+iW o.kind o.iso+kW o.kno)<(if o.kind=3 then 0 else 1+mW o.mask+oW o.oper o.mode+iW o.kind o.iso+kW o.kno)
 have e1:oW 4 1=0:=rfl;have e2:oW o.oper o.mode=1:=by unfold oW;rw[if_neg h]
 rw[if_neg hk,if_neg hk,e1,e2];omega
theorem jUD(hk:o.kind≠3)(h:o.kno=true):wtO (zJp o)<wtO o:=by
 show(if o.kind=3 then 0 else 1+mW o.mask+oW o.oper o.mode+iW o.kind o.iso+kW false)<(if o.kind=3 then 0 else 1+mW o.mask+oW o.oper o.mode+iW o.kind o.iso+kW o.kno)
 have e1:kW false=0:=rfl;have e2:kW o.kno=1:=by rw[h];rfl
 rw[if_neg hk,if_neg hk,e1,e2];omega
theorem jHh{g r:Fo}(hs:g.some')(hr:g.rest=.nil)(hk:o.kind≠3)(hg:g.op.kind≠3)(h4:g.op.oper=4)(h1:g.op.mode=1)(hb:b=true->g.op.mask=0)(hb':b=false->o.mask=0):wtL (Fo.lift o b r g).flat<wtL (Fo.grp o g r).flat:=by
 have w:wtO (zZt o g.op b)<wtO o+wtO g.op:=by
  have e1:iW (zZt o g.op b).kind (zZt o g.op b).iso=0:=by
   unfold iW;rw[if_neg];rintro⟨a,c⟩;have a:g.op.kind=2:=a;have c:(if g.op.kind=2 then true else g.op.iso)=false:=c;rw[if_pos a]at c;cases c
  have e4:mW (zZt o g.op b).mask<=mW o.mask+mW g.op.mask:=by
   cases b with
   |true=>show mW o.mask<=_;omega
   |false=>show mW g.op.mask<=_;omega
  have e5:wtO (zZt o g.op b)=1+mW (zZt o g.op b).mask+oW o.oper o.mode+iW (zZt o g.op b).kind (zZt o g.op b).iso+kW g.op.kno:=by
   unfold wtO;rw[if_neg (show ¬(zZt o g.op b).kind=3 from hg)];rfl
  rw[e5,e1];unfold wtO;rw[if_neg hk,if_neg hg];omega
 have fg:g.flat=g.op::g.inner:=by
  have:=zYa hs;rw[hr]at this;simpa [Fo.flat]using this
 have el:(Fo.lift o b r g).flat=zZt o g.op b::(g.inner++r.flat):=by
  cases g with
  |nil=>exact hs.elim
  |draw u s=>simp[Fo.lift,Fo.flat,Fo.inner,Fo.op]
  |grp u k s=>simp[Fo.lift,Fo.flat,Fo.inner,Fo.op]
 rw[el];simp only[Fo.flat,fg,List.cons_append,jXP,jXQ];omega
structure Lk where
  g:Int
  base:Int
  G:List Int
  K:List Int
  F:List Bool
def Lk.cnt(z:Lk):Int:=if 0<=z.g then(z.K[z.g.toNat]?).getD 0 else z.base
def zUq(i:Nat)(o:Oq)(z:Lk):Lk:=
 if o.kind=3 then⟨(z.G[z.g.toNat]?).getD 0,z.base,z.G.set i ((z.G[z.g.toNat]?).getD 0),z.K,z.F⟩
 else⟨if o.kind=2 then i else z.g,if 0<=z.g then z.base else z.cnt+1,z.G.set i z.g,if 0<=z.g then z.K.set z.g.toNat (z.cnt+1) else z.K,z.F.set i (z.cnt==0)⟩
def runK:List Oq->Nat->Lk->Lk
 |[],_,z=>z
 |o::l,i,z=>runK l (i+1) (zUq i o z)
theorem jX1:∀(l k:List Oq)(i:Nat)(z:Lk),runK (l++k) i z=runK k (i+l.length) (runK l i z)
 |[],k,i,z=>rfl
 |o::l,k,i,z=>by
  simp only[List.cons_append,runK,wQC];rw[jX1 l k,show i+1+l.length=i+(l.length+1) by omega]
def jQP(n:Nat):Lk:=⟨-1,0,List.replicate n 0,List.replicate n 0,List.replicate n false⟩
def zZS(l:List Oq)(i:Nat):Lk:=runK (l.take i) 0 (jQP l.length)
theorem zYP(l:List Oq):zZS l 0=jQP l.length:=by simp[zZS,runK]
theorem jQH{l:List Oq}(h:i<l.length):zZS l (i+1)=zUq i l[i] (zZS l i):=by
 unfold zZS;rw[wY2 h,jX1];simp[runK,wQM (Nat.le_of_lt h)]
theorem zWg(A:List α)(x v:α)(B:List α):(A++x::B).set A.length v=A++v::B:=by
 rw[List.set_append_right _ _ (Nat.le_refl _),wZa,wX1]
abbrev wXq:=@List.set_append_left
abbrev wYL:=@List.getElem?_set_self
theorem jX0:∀(f:Fo)(n:Nat)(g b c:Int)(A KA X KX:List Int)(FA FX:List Bool),f.ok->A.length=n->KA.length=n->FA.length=n->(-1<=g/\g<n)->0<=c->((0<=g/\KA[g.toNat]?=some c)\/(g = -1/\b=c)) ->
  runK f.flat n ⟨g,b,A++(List.replicate f.size 0++X),KA++(List.replicate f.size 0++KX),FA++(List.replicate f.size false++FX)⟩ =
   ⟨g,if 0<=g then b else c+f.width,A++(grpF n g f++X),(if 0<=g then KA.set g.toNat (c+f.width) else KA)++(kidF f++KX),FA++(fstF (c==0) f++FX)⟩
 |.nil,n,g,b,c,A,KA,X,KX,FA,FX,_,_,_,_,hg,hc,hx=>by
  simp only[Fo.flat,runK,Fo.size,Fo.width,grpF,kidF,fstF,List.replicate_zero,List.nil_append,Lk.mk.injEq,true_and,and_true]
  rcases hx with⟨h0,hx⟩|⟨h0,hx⟩
  .refine⟨by rw[if_pos h0],?_⟩;rw[if_pos h0];congr 1;have hl:g.toNat<KA.length:=by omega
   rw[List.getElem?_eq_getElem hl,wQa]at hx;rw[<-hx];simp
  .subst h0;exact⟨by simp[hx],by simp⟩
 |.draw o r,n,g,b,c,A,KA,X,KX,FA,FX,hf,hA,hK,hF,hg,hc,hx=>by
  have k3:¬o.kind=3:=by have:=hf.1;omega
  have k2:¬o.kind=2:=by have:=hf.1;omega
  have cn:Lk.cnt ⟨g,b,A++(List.replicate (r.size+1) 0++X),KA++(List.replicate (r.size+1) 0++KX),FA++(List.replicate (r.size+1) false++FX)⟩=c:=by
   unfold Lk.cnt;simp only
   rcases hx with⟨h0,hx⟩|⟨h0,hx⟩
   .rw[if_pos h0,zYC (by omega),hx];rfl
   .rw[if_neg (by omega)];exact hx
  have st:zUq n o ⟨g,b,A++(List.replicate (r.size+1) 0++X),KA++(List.replicate (r.size+1) 0++KX),FA++(List.replicate (r.size+1) false++FX)⟩ =
    ⟨g,if 0<=g then b else c+1,(A++[g])++(List.replicate r.size 0++X),((if 0<=g then KA.set g.toNat (c+1) else KA)++[0])++(List.replicate r.size 0++KX),(FA++[c==0])++(List.replicate r.size false++FX)⟩:=by
   unfold zUq;rw[if_neg k3,cn];simp only[if_neg k2,List.replicate_succ,List.cons_append,Lk.mk.injEq,true_and];refine⟨?_,?_,?_⟩
   .rw[<-hA,zWg];simp
   .split
    .rw[wXq _ _ (by omega)];simp
    .simp
   .rw[<-hF,zWg];simp
  have ih:=jX0 r (n+1) g (if 0<=g then b else c+1) (c+1) (A++[g]) ((if 0<=g then KA.set g.toNat (c+1) else KA)++[0]) X KX (FA++[c==0]) FX hf.2 (by simp[hA]) (by split<;>simp[hK]) (by simp[hF]) (by omega) (by omega) (by
   rcases hx with⟨h0,hx⟩|⟨h0,hx⟩
   .refine .inl ⟨h0,?_⟩;rw[if_pos h0,zYC (by simp;omega),wYL (by omega)]
   .refine .inr ⟨h0,?_⟩
    rw[if_neg (by omega)])
  have z1:((c+1==0):Bool)=false:=by simp;omega
  simp only[Fo.flat,Fo.size,runK];rw[st,ih];simp only[grpF,kidF,fstF,Fo.width,z1,Lk.mk.injEq,true_and];refine⟨?_,by simp,?_,by simp⟩
  .split
   .rfl
   .omega
  .split
   .rw[wXq _ _ (by simp;omega)];simp only[List.append_assoc,List.cons_append,List.nil_append,List.set_set];congr 2;omega
   .simp
 |.grp o k r,n,g,b,c,A,KA,X,KX,FA,FX,hf,hA,hK,hF,hg,hc,hx=>by
  have k3:¬o.kind=3:=by have:=hf.1;omega
  have es:k.size+r.size+2=(k.size+(r.size+1))+1:=by omega
  have cn:Lk.cnt ⟨g,b,A++(List.replicate (k.size+r.size+2) 0++X),KA++(List.replicate (k.size+r.size+2) 0++KX),FA++(List.replicate (k.size+r.size+2) false++FX)⟩=c:=by
   unfold Lk.cnt;simp only
   rcases hx with⟨h0,hx⟩|⟨h0,hx⟩
   .rw[if_pos h0,zYC (by omega),hx];rfl
   .rw[if_neg (by omega)];exact hx
  have st:zUq n o ⟨g,b,A++(List.replicate (k.size+r.size+2) 0++X),KA++(List.replicate (k.size+r.size+2) 0++KX),FA++(List.replicate (k.size+r.size+2) false++FX)⟩ =
    ⟨n,if 0<=g then b else c+1,(A++[g])++(List.replicate k.size 0++(List.replicate (r.size+1) 0++X)),((if 0<=g then KA.set g.toNat (c+1) else KA)++[0])++(List.replicate k.size 0++(List.replicate (r.size+1) 0++KX)),(FA++[c==0])++(List.replicate k.size false++(List.replicate (r.size+1) false++FX))⟩:=by
   unfold zUq;rw[if_neg k3,cn];simp only[if_pos hf.1,es,List.replicate_succ,List.cons_append,Lk.mk.injEq,true_and];have sp:∀{α:Type}(x:α)(T:List α),List.replicate (k.size+(r.size+1)) x++T=List.replicate k.size x++(x::(List.replicate r.size x++T)):=λx T=>by
    rw[<-List.replicate_append_replicate,List.replicate_succ];simp
   refine⟨?_,?_,?_⟩
   .rw[<-hA,zWg,sp];simp
   .split
    .rw[wXq _ _ (by omega),sp];simp
    .rw[sp];simp
   .rw[<-hF,zWg,sp];simp
  have lK:((if 0<=g then KA.set g.toNat (c+1) else KA):List Int).length=n:=by split<;>simp[hK]
  have ik:=jX0 k (n+1) n (if 0<=g then b else c+1) 0 (A++[g]) ((if 0<=g then KA.set g.toNat (c+1) else KA)++[0]) (List.replicate (r.size+1) 0++X) (List.replicate (r.size+1) 0++KX) (FA++[c==0]) (List.replicate (r.size+1) false++FX) hf.2.1 (by simp[hA]) (by simp[lK]) (by simp[hF]) (by omega) (Int.le_refl 0) (.inl ⟨by omega,by
   rw[wQp];have:=jWe (if 0<=g then KA.set g.toNat (c+1) else KA) (0:Int) [];rw[lK]at this
   exact this⟩)
  rw[if_pos (show(0:Int)<=(n:Int) by omega),if_pos (show(0:Int)<=(n:Int) by omega),wQp,wXK]at ik;have sK:(((if 0<=g then KA.set g.toNat (c+1) else KA):List Int)++[0]).set n (k.width:Int)=(if 0<=g then KA.set g.toNat (c+1) else KA)++[(k.width:Int)]:=by
   have:=zWg (if 0<=g then KA.set g.toNat (c+1) else KA) (0:Int) (k.width:Int) [];rw[lK]at this;exact this
  rw[sK]at ik;have lG:(A++[g]++grpF (n+1) n k).length=n+k.size+1:=by simp[hA,zK5];omega
  have lKk:((if 0<=g then KA.set g.toNat (c+1) else KA)++[(k.width:Int)]++kidF k).length=n+k.size+1:=by simp[lK,zK3];omega
  have lF:(FA++[c==0]++fstF true k).length=n+k.size+1:=by simp[hF,zK7];omega
  have sp:zUq (n+k.size+1) popO ⟨n,if 0<=g then b else c+1,A++[g]++(grpF (n+1) n k++(List.replicate (r.size+1) 0++X)),(if 0<=g then KA.set g.toNat (c+1) else KA)++[(k.width:Int)]++(kidF k++(List.replicate (r.size+1) 0++KX)),FA++[c==0]++(fstF ((0:Int)==0) k++(List.replicate (r.size+1) false++FX))⟩ =
    ⟨g,if 0<=g then b else c+1,(A++[g]++grpF (n+1) n k++[g])++(List.replicate r.size 0++X),((if 0<=g then KA.set g.toNat (c+1) else KA)++[(k.width:Int)]++kidF k++[0])++(List.replicate r.size 0++KX),(FA++[c==0]++fstF true k++[false])++(List.replicate r.size false++FX)⟩:=by
   have eg:(A++[g]++(grpF (n+1) n k++(List.replicate (r.size+1) 0++X)))[n]?=some g:=by
    have:=jWe A g (grpF (n+1) n k++(List.replicate (r.size+1) 0++X));rw[hA]at this;simpa using this
   unfold zUq;rw[if_pos (show popO.kind=3 from rfl)];simp only[wQp,eg,wQA,Lk.mk.injEq,true_and];refine⟨?_,by simp[List.replicate_succ],by simp[List.replicate_succ]⟩;have:=zWg (A++[g]++grpF (n+1) n k) (0:Int) g (List.replicate r.size 0++X);rw[lG]at this;simpa [List.replicate_succ]using this
  have ih:=jX0 r (n+k.size+2) g (if 0<=g then b else c+1) (c+1) (A++[g]++grpF (n+1) n k++[g]) ((if 0<=g then KA.set g.toNat (c+1) else KA)++[(k.width:Int)]++kidF k++[0]) X KX (FA++[c==0]++fstF true k++[false]) FX hf.2.2 (by rw[wQe,lG];rfl) (by rw[wQe,lKk];rfl) (by rw[wQe,lF];rfl) (by omega) (by omega) (by
   rcases hx with⟨h0,hx⟩|⟨h0,hx⟩
   .refine .inl ⟨h0,?_⟩;rw[if_pos h0];simp only[List.append_assoc];rw[zYC (by simp;omega),wYL (by omega)]
   .exact .inr ⟨h0,by rw[if_neg (by omega)]⟩)
  have z1:((c+1==0):Bool)=false:=by simp;omega
  simp only[Fo.flat,Fo.size,runK];rw[st,jX1,ik,k.flat_len,show n+1+k.size=n+k.size+1 by omega];simp only[runK];rw[sp,show n+k.size+1+1=n+k.size+2 by omega,ih];simp only[grpF,kidF,fstF,Fo.width,z1,Lk.mk.injEq,true_and];refine⟨?_,by simp,?_,by simp⟩
  .split
   .rfl
   .omega
  .split
   .simp only[List.append_assoc];rw[wXq _ _ (by simp;omega)];simp only[List.append_assoc,List.cons_append,List.nil_append,List.set_set];congr 2;omega
   .simp
theorem jHe{f:Fo}(hf:f.ok):zZS f.flat f.flat.length=⟨-1,f.width,grpF 0 (-1) f,kidF f,fstF true f⟩:=by
 have h:=jX0 f 0 (-1) 0 0 [] [] [] [] [] [] hf rfl rfl rfl ⟨by decide,by decide⟩ (Int.le_refl 0) (.inr ⟨rfl,rfl⟩);unfold zZS jQP;rw[wXb,f.flat_len];simpa using h
structure Vw where
  s:Scr
  max:Int
  ends:List Int
  grps:List Int
  kids:List Int
  fsts:List Bool
def opV(v:Vw)(i:Nat):Oq:=(v.s.ops[i]?).getD popO
def pcV(v:Vw)(i:Int):Im:=(v.s.ims[i.toNat]?).getD Im.zero
def frV(v:Vw)(i:Nat):Bool × Bool:=if 0<=(v.grps[i]?).getD 0 then((opV v ((v.grps[i]?).getD 0).toNat).iso,(opV v ((v.grps[i]?).getD 0).toNat).kno) else(true,false)
def jQw(v:Vw)(i:Nat):Bool:=(frV v i).1 && !(frV v i).2
def unV(v:Vw)(o:Oq):Bool:=decide (o.mask=0)&&decide (o.opac=v.max)
def smV(v:Vw)(o:Oq):Int × Bool:=if o.mask=0 then(0,false) else((pcV v (o.mask-1)).c.al,(pcV v (o.mask-1)).so)
def zV3(v:Vw)(o:Oq):Bool:=(smV v o).2&&(decide ((smV v o).1=v.max)&&(zYN v.s o).covers v.s.c)
def zGh(v:Vw)(o:Oq):Bool:=!decide (o.mask=0)&&(((smV v o).2&&decide ((smV v o).1=0)) || (zYN v.s o).empty)
def kidV(v:Vw)(i:Nat):Int:=(v.kids[i]?).getD 0
def fstV(v:Vw)(i:Nat):Bool:=(v.fsts[i]?).getD false
def endV(v:Vw)(i:Nat):Nat:=((v.ends[i]?).getD 0).toNat
def invV(v:Vw)(i:Nat):Bool:=
 zZf (opV v i).oper&&((decide ((opV v i).opac=0) || zGh v (opV v i)) || (if(opV v i).kind=2 then decide (kidV v i=0) else(imgR v.s (opV v i)).empty || ((pcV v (opV v i).image).so&&decide ((pcV v (opV v i).image).c=.zero))))
def dstV(v:Vw)(i:Nat):Bool:=decide ((opV v i).oper=3)
def jYu(v:Vw)(i:Nat):Bool:=decide ((opV v i).oper=6\/(opV v i).oper=7\/(opV v i).oper=9\/(opV v i).oper=10)&&(fstV v i&&jQw v i)
def zKh(v:Vw)(j:Nat):Bool:=
 if(opV v j).oper=1/\(frV v j).2=false then true
 else if unV v (opV v j)=false\/(pcV v (opV v j).image).so=false\/(imgR v.s (opV v j)).covers v.s.c=false then false
 else if(frV v j).2=true then decide ((pcV v (opV v j).image).c.f=v.max)
 else if(opV v j).mode≠1 then false
 else decide ((opV v j).oper=2) || (decide ((opV v j).oper=4)&&decide ((pcV v (opV v j).image).c.al=v.max))
def zYh(v:Vw):Nat->Nat->Bool
 |0,_=>false
 |t+1,j=>if j<v.s.ops.length/\(opV v j).kind≠3 then(decide ((opV v j).kind=1)&&zKh v j) || zYh v t (endV v j+1) else false
def jYQ(v:Vw)(i:Nat):Bool:=zYh v v.s.ops.length (endV v i+1)
def isoV(v:Vw)(i:Nat):Bool:=decide ((opV v i).kind=2)&&(!(opV v i).iso&&((frV v i).1&&(fstV v i || (frV v i).2)))
def jJ6(v:Vw)(i:Nat):Bool:=
 if(frV v i).1=false then false
 else if(frV v i).2=true then !decide ((opV v i).mode=1)
 else fstV v i&&(faB (opV v i).oper&&(!decide ((opV v i).oper=4) || !decide ((opV v i).mode=1)))
def jJA(v:Vw)(i:Nat):Bool:=decide ((opV v i).kind=2)&&((opV v i).kno&&decide (kidV v i=1))
def unwV(v:Vw)(i:Nat):Bool:=
 if(opV v i).kind≠2\/(opV v i).iso=false\/kidV v i≠1 then false
 else decide ((opV v (i+1)).oper=4)&&(decide ((opV v (i+1)).mode=1)&&(unV v (opV v (i+1)) || unV v (opV v i)))
def zXR(v:Vw)(n:Int)(i:Nat):Bool:=
 if n=1 then invV v i else if n=2 then dstV v i else if n=3 then jYu v i else if n=4 then jYQ v i else if n=5 then zV3 v (opV v i)
 else if n=6 then isoV v i else if n=7 then jJ6 v i else if n=8 then jJA v i else unwV v i
def remV(v:Vw)(i:Nat):List Oq:=v.s.ops.take i++v.s.ops.drop (endV v i+1)
def unwL(v:Vw)(i:Nat):List Oq:=v.s.ops.take i++(zZt (opV v i) (opV v (i+1)) (unV v (opV v (i+1)))::(v.s.ops.drop (i+2)).take (endV v i-(i+2)))++v.s.ops.drop (endV v i+1)
def zZY(v:Vw)(n:Int)(i:Nat):List Oq:=
 if n<=4 then remV v i else if n=5 then v.s.ops.set i (zVt (opV v i)) else if n=6 then v.s.ops.set i (isoO (opV v i)) else if n=7 then v.s.ops.set i (zVQ (opV v i))
 else if n=8 then v.s.ops.set i (zJp (opV v i)) else unwL v i
structure VwOk(v:Vw)(f:Fo):Prop where
  ok:f.ok
  ops:v.s.ops=f.flat
  max:v.max=zQA v.s.bits
  ends:v.ends=endF 0 f
  grps:v.grps=grpF 0 (-1) f
  kids:v.kids=kidF f
  fsts:v.fsts=fstF true f
  vf:f.vf v.s.bits v.s.ims.length []
  opac:∀o∈f.flat,0<=o.opac
  dim:zG4 v.s.ims
  formed:∀m∈v.s.ims,m.formed=true
  ims:zJT (zQA v.s.bits) v.s.ims
def jKY:Frm:=⟨true,false,true⟩
structure VwAt(v:Vw)(f:Fo)(i:Nat)(c:Frm)(s:Fo):Prop where
  dig:f.dig i jKY=some (c,s)
  is:s.some'
  op:opV v i=s.op
  end_:endV v i=i+s.span
  kid:kidV v i=(s.kidN:Int)
  fst:fstV v i=c.fst
  fr:frV v i=(c.iso,c.kno)
variable{v:Vw}
theorem VwOk.at_dig{f:Fo}(V:VwOk v f){c:Frm}(h:f.dig i jKY=some (c,s)):VwAt v f i c s:=by
 obtain⟨h1,h2,h3,h4,h5,g,h6,h7⟩:=jZd f i 0 (-1) jKY c s h;have fo:∀j o,f.flat[j]?=some o->opV v j=o:=λj o hj=>by unfold opV;rw[V.ops,hj];rfl
 refine⟨h,h1,fo i _ h2,?_,?_,?_,?_⟩
 .unfold endV;rw[V.ends,h3];simp;omega
 .unfold kidV;rw[V.kids,h4];rfl
 .have h5:(fstF true f)[i]?=some c.fst:=h5;unfold fstV;rw[V.fsts,h5];rfl
 .unfold frV;rw[V.grps,h6];simp only[wQA]
  rcases h7 with⟨e,a,b⟩|⟨m,e,o,h8,a,b⟩
  .rw[e,if_neg (by decide),a,b];rfl
  .rw[e,if_pos (by omega),wQp,Nat.zero_add,fo m o h8,a,b]
theorem VwOk.at_{f:Fo}(V:VwOk v f)(hi:i<v.s.ops.length)(hk:(opV v i).kind≠3):∃c s,VwAt v f i c s:=by
 have e:f.flat[i]?=some (opV v i):=by
  unfold opV;rw[<-V.ops,List.getElem?_eq_getElem hi];rfl
 obtain⟨c,s,h⟩:=zHV f i jKY V.ok ⟨_,e,hk⟩;exact⟨c,s,V.at_dig h⟩
theorem jW2(h:s.some')(c:Frm):s.dig 0 c=some (c,s):=by
 cases s with
 |nil=>exact h.elim
 |draw o r=>rfl
 |grp o k r=>rfl
theorem jJz(h:s.some'):1<=s.size:=by
 cases s with
 |nil=>exact h.elim
 |draw o r=>simp[Fo.size]
 |grp o k r=>simp[Fo.size]
theorem jGK(h:s.some'):s.size=s.span+1+s.rest.size:=by
 rw[<-s.flat_len,zYa h];simp only[wQC,wQe,zUN,Fo.flat_len];omega
theorem jW4{f:Fo}{c:Frm}(h:f.dig i c=some (c',s)):i+s.size<=f.size:=by
 obtain⟨A,T,h1,h2,_⟩:=zXi f i c c' s h;have:=congrArg List.length h2;simp only[wQe,Fo.flat_len]at this;omega
theorem zU2:∀(f:Fo)(i:Nat)(c c':Frm)(s:Fo),f.dig i c=some (c',s)->s.rest.some'->f.dig (i+s.span+1) c=some (c'.next,s.rest)
 |.nil,i,c,c',s,h,hr=>by cases h
 |.draw o r,0,c,c',s,h,hr=>by
  simp only[Fo.dig,wQa,wQc]at h;obtain⟨rfl,rfl⟩:=h;exact jW2 hr _
 |.draw o r,i+1,c,c',s,h,hr=>by
  have ih:=zU2 r i c.next c' s h hr;rw[show i+1+s.span+1=(i+s.span+1)+1 by omega];exact ih
 |.grp o k r,0,c,c',s,h,hr=>by
  simp only[Fo.dig,wQa,wQc]at h;obtain⟨rfl,rfl⟩:=h;simp only[Fo.span,Fo.rest];rw[show 0+(k.size+1)+1=(k.size+1)+1 by omega];simp only[Fo.dig];rw[if_neg (by omega),if_neg (by omega),show k.size+1-k.size-1=0 by omega];exact jW2 hr _
 |.grp o k r,i+1,c,c',s,h,hr=>by
  simp only[Fo.dig]at h;rw[show i+1+s.span+1=(i+s.span+1)+1 by omega];simp only[Fo.dig];split at h
  .have ih:=zU2 k i _ c' s h hr;have:=jW4 ih;have:=jJz hr;rw[if_pos (by omega)];exact ih
  .split at h
   .cases h
   .rename_i hn1 hn2;have ih:=zU2 r _ _ c' s h hr;rw[if_neg (by omega),if_neg (by omega),show i+s.span+1-k.size-1=i-k.size-1+s.span+1 by omega];exact ih
variable{m:Im}{x:Int}
theorem yQg(hs:m.so=true)(hf:m.formed=true)(h:0<=x/\x<m.w/\0<=y/\y<m.h):m.at_ x y=m.c:=by
 unfold Im.at_ Im.px;rw[hf,decide_eq_true h.1,decide_eq_true h.2.1,decide_eq_true h.2.2.1,decide_eq_true h.2.2.2];simp[hs]
theorem jVi(hs:m.so=true)(hc:m.c=.zero)(x y:Int):m.at_ x y=.zero:=by
 unfold Im.at_ Im.px;rw[hs,hc];simp
theorem jXC{r q:Rc}(h:r.covers q=true)(hx:q.has x y=true):r.has x y=true:=by
 rw[Rc.has_iff]at hx |-;unfold Rc.covers at h;rw[hx.1]at h;simp only[wYh,wQd,wQn,wQf]at h;exact⟨h.1.1.1.1,by omega⟩
theorem jKM{r:Rc}(h:r.empty=true)(x y:Int):r.has x y=false:=by
 cases e:r.has x y with
 |false=>rfl
 |true=>rw[Rc.has_iff]at e;rw[h]at e;exact absurd e.1 (by simp)
variable{s:Scr}{i:Int}
theorem zVO(hd:zG4 s.ims)(hf:∀m∈s.ims,m.formed=true)(hi:0<=i/\i<s.ims.length)(n1:zZz dx=true)(n2:zZz dy=true)(hs:((s.ims[i.toNat]?).getD Im.zero).so=true)(h:(zZ3 s i dx dy).has x y=true):zJ4 s.ims i x y dx dy=((s.ims[i.toNat]?).getD Im.zero).c:=by
 have hk:i.toNat<s.ims.length:=by omega
 have a1:=zKe n1;have a2:=zKe n2;obtain⟨⟨w0,w1⟩,h0,h1⟩:=hd s.ims[i.toNat] (List.getElem_mem hk);rw[zGH dx dy hi.1 hk,if_neg (by simp[farB];omega),Rc.inter_has,wQd,Rc.has_iff]at h;obtain⟨⟨_,hb⟩,_⟩:=h;simp only at hb;rw[List.getElem?_eq_getElem hk]at hs |-;simp only[wQA]at hs |-;unfold zJ4;rw[if_pos hi.1,List.getElem?_eq_getElem hk];simp only;unfold jVN;rw[if_neg (by omega)];exact yQg hs (hf _ (List.getElem_mem hk)) (by omega)
theorem jUI(hs:((s.ims[i.toNat]?).getD Im.zero).so=true)(hc:((s.ims[i.toNat]?).getD Im.zero).c=.zero)(x y dx dy:Int):zJ4 s.ims i x y dx dy=.zero:=by
 unfold zJ4;split
 .cases e:s.ims[i.toNat]? with
  |none=>rfl
  |some m=>
   rw[e]at hs hc;simp only[wQA]at hs hc;simp only;unfold jVN;split
   .rfl
   .exact jVi hs hc _ _
 .rfl
theorem jW3{bits:Int}{mn:Nat}:∀(f:Fo)(i:Nat)(c c':Frm)(s:Fo)(st:List Oq),f.vf bits mn st->f.dig i c=some (c',s)->∃st',s.vf bits mn st'
 |.nil,i,c,c',s,st,hv,h=>by cases h
 |.draw o r,0,c,c',s,st,hv,h=>by
  simp only[Fo.dig,wQa,wQc]at h;obtain⟨rfl,rfl⟩:=h;exact⟨st,hv⟩
 |.draw o r,i+1,c,c',s,st,hv,h=>jW3 r i _ c' s st hv.2.2 h
 |.grp o k r,0,c,c',s,st,hv,h=>by
  simp only[Fo.dig,wQa,wQc]at h;obtain⟨rfl,rfl⟩:=h;exact⟨st,hv⟩
 |.grp o k r,i+1,c,c',s,st,hv,h=>by
  simp only[Fo.dig]at h;split at h
  .exact jW3 k i _ c' s _ hv.2.2.1 h
  .split at h
   .cases h
   .exact jW3 r _ _ c' s st hv.2.2.2 h
variable{s:Fo}{i j:Nat}{q:Spot}
section
variable{v:Vw}{f:Fo}(V:VwOk v f)
include V
theorem VwOk.opv{c:Frm}(A:VwAt v f i c s):∃st,OpV v.s.bits v.s.ims.length s.op st:=by
 obtain⟨st,h⟩:=jW3 f i _ c s [] V.vf A.dig;exact⟨st,zWN A.is h⟩
theorem VwOk.mask_near(w:OpV v.s.bits v.s.ims.length o st)(h0:o.mask≠0)(x y:Int):zYN v.s o=zZ3 v.s (o.mask-1) o.mx o.my/\zYu v.s.ims o x y=(zJ4 v.s.ims (o.mask-1) x y o.mx o.my).al/\(0<=o.mask-1/\o.mask-1<v.s.ims.length):=by
 have _:=V;have:=w.mask;refine⟨?_,?_,by omega⟩
 .unfold zYN;rw[if_neg h0,if_neg (by omega)]
 .unfold zYu;rw[if_pos (by omega)]
theorem VwOk.full(w:OpV v.s.bits v.s.ims.length o st)(h:zV3 v o=true):o.mask≠0/\∀x y,v.s.c.has x y=true->zYu v.s.ims o x y=zQA v.s.bits:=by
 unfold zV3 at h;simp only[wQd,wQf]at h;obtain⟨h1,h2,h3⟩:=h;have h0:o.mask≠0:=by
  intro e;unfold smV at h1;rw[if_pos e]at h1;cases h1
 refine⟨h0,λx y hx=>?_⟩;unfold smV at h1 h2;rw[if_neg h0]at h1 h2;simp only at h1 h2;obtain⟨e1,e2,e3⟩:=V.mask_near w h0 x y;rw[e1]at h3;rw[e2,zVO V.dim V.formed e3 w.near.2.2.1 w.near.2.2.2 h1 (jXC h3 hx),<-V.max];exact h2
theorem VwOk.void(w:OpV v.s.bits v.s.ims.length o st)(hk:o.kind=1\/o.kind=2)(h:zGh v o=true):o.mask≠0/\∀x y,v.s.c.has x y=true->zYu v.s.ims o x y=0:=by
 unfold zGh at h;simp only[wQd,wQn,wQX,wQ0,wQf]at h;obtain⟨h0,h1⟩:=h;refine⟨h0,λx y hx=>?_⟩;obtain⟨e1,e2,e3⟩:=V.mask_near w h0 x y
 cases hp:(zYN v.s o).has x y with
 |false=>exact(jWL V.dim hk w.err hx hp).2
 |true=>
  rcases h1 with⟨h1,h2⟩|h1
  .unfold smV at h1 h2;rw[if_neg h0]at h1 h2;simp only at h1 h2;rw[e1]at hp;rw[e2,zVO V.dim V.formed e3 w.near.2.2.1 w.near.2.2.2 h1 hp];exact h2
  .rw[jKM h1]at hp;cases hp
theorem VwOk.cover_src(w:OpV v.s.bits v.s.ims.length o st)(hk:o.kind=1)(hs:(pcV v o.image).so=true)(hc:(imgR v.s o).covers v.s.c=true)(hx:v.s.c.has x y=true):srcS v.s.ims o x y=(pcV v o.image).c:=by
 have hp:=jXC hc hx;unfold imgR at hp;rw[if_pos hk]at hp;unfold srcS;rw[if_pos hk];exact zVO V.dim V.formed (w.img hk) w.near.1 w.near.2.1 hs hp
theorem VwOk.cov_at(hm:q.m=zQA v.s.bits)(hi:q.ms=v.s.ims)(hx:v.s.c.has q.x q.y=true){c:Frm}(A:VwAt v f j c s)(hk:s.op.kind=1)(h:zKh v j=true):yXG q c.kno s.op:=by
 obtain⟨st,w⟩:=V.opv A;unfold zKh at h;rw[A.op,A.fr]at h;simp only at h;split at h
 .rename_i hc;exact .inl hc
 .rename_i hc;split at h
  .cases h
  .rename_i hu;have hu1:unV v s.op=true:=by cases e:unV v s.op with|true=>rfl|false=>exact absurd (.inl e) hu
   have hu2:(pcV v s.op.image).so=true:=by cases e:(pcV v s.op.image).so with|true=>rfl|false=>exact absurd (.inr (.inl e)) hu
   have hu3:(imgR v.s s.op).covers v.s.c=true:=by cases e:(imgR v.s s.op).covers v.s.c with|true=>rfl|false=>exact absurd (.inr (.inr e)) hu
   have e:=V.cover_src w hk hu2 hu3 hx;unfold unV at hu1;simp only[wQd,wQf]at hu1;rw[V.max,<-hm]at hu1 h;rw[<-hi]at e;refine .inr ⟨hu1,?_⟩;split at h
   .rename_i hk2;exact .inl ⟨hk2,by rw[e];exact wQH h⟩
   .rename_i hk2;split at h
    .cases h
    .rename_i hM;simp only[wQ0,wQd,wQf]at h;refine .inr ⟨by simpa using hk2,Decidable.not_not.1 hM,?_⟩
     rcases h with h|⟨h,h'⟩
     .exact .inl h
     .exact .inr ⟨h,by rw[e];exact h'⟩
theorem VwOk.cov_from{q:Spot}(hm:q.m=zQA v.s.bits)(hi:q.ms=v.s.ims)(hx:v.s.c.has q.x q.y=true):∀(t j:Nat)(c:Frm)(s:Fo),f.dig j jKY=some (c,s)->zYh v t j=true->s.covd q c.kno
 |0,j,c,s,hd,h=>by cases h
 |t+1,j,c,s,hd,h=>by
  have A:=V.at_dig hd;unfold zYh at h;split at h
  .rw[wQ0]at h;have next:zYh v t (endV v j+1)=true->s.rest.covd q c.kno:=λh=>by
    rw[A.end_]at h;by_cases hr:s.rest.some'
    .have:=VwOk.cov_from hm hi hx t _ _ _ (zU2 f j _ c s hd hr) h;exact this
    .exfalso;have hn:s.rest=.nil:=by
      cases e:s.rest with
      |nil=>rfl
      |draw o r=>rw[e]at hr;exact absurd trivial hr
      |grp o k r=>rw[e]at hr;exact absurd trivial hr
     cases t with
     |zero=>cases h
     |succ t=>
      unfold zYh at h;split at h
      .rename_i hj;obtain⟨P,T,h1,h2,_,h4⟩:=zXi f j _ c s hd;have sl:s.flat.length=s.span+1:=by rw[zYa A.is,hn];simp[Fo.flat,zUN]
       have e:f.flat[j+s.span+1]?=T[0]?:=by
        rw[h2,wQq (by omega),wQq (by omega)];congr 1;omega
       have hjl:=hj.1;rw[V.ops]at hjl;have eo:opV v (j+s.span+1)=(T[0]?).getD popO:=by unfold opV;rw[V.ops,e]
       rcases h4 with rfl|⟨T',rfl⟩
       .rw[eo]at hj;exact hj.2 rfl
       .rw[eo]at hj;exact hj.2 rfl
      .cases h
   cases s with
   |nil=>exact A.is.elim
   |draw o r=>
    rcases h with h|h
    .simp only[wQd,wQf]at h;have hk:(Fo.draw o r).op.kind=1:=by rw[<-A.op];exact h.1
     exact .inl (V.cov_at hm hi hx A hk h.2)
    .exact .inr (next h)
   |grp o k r=>
    rcases h with h|h
    .simp only[wQd,wQf]at h;have hk:(Fo.grp o k r).op.kind=1:=by rw[<-A.op];exact h.1
     have:(Fo.grp o k r).ok:=zHj f j _ c _ V.ok hd;have:=this.1;have hk:o.kind=1:=hk;omega
    .exact next h
  .cases h
end
def gOf(v:Vw)(n:Int)(s:Fo):Fo:=
 if n<=4 then s.rest else if n=5 then s.chg zVt else if n=6 then s.chg isoO else if n=7 then s.chg zVQ else if n=8 then s.chg zJp
 else match s with
  |.grp o k r=>Fo.lift o (unV v k.op) r k
  |s=>s
variable{k:Fo}
theorem zUj(h:k.width=1):k.some'/\k.rest=.nil:=by
 cases k with
 |nil=>cases h
 |draw o r=>
  refine⟨trivial,?_⟩
  cases r with
  |nil=>rfl
  |draw _ _=>simp[Fo.width]at h
  |grp _ _ _=>simp[Fo.width]at h
 |grp o e r=>
  refine⟨trivial,?_⟩
  cases r with
  |nil=>rfl
  |draw _ _=>simp[Fo.width]at h
  |grp _ _ _=>simp[Fo.width]at h
section
variable{v:Vw}{f:Fo}(V:VwOk v f)
include V
theorem VwOk.grp_of{c:Frm}(A:VwAt v f i c s)(hk:s.op.kind=2):∃o k r,s=.grp o k r:=by
 have ok:=zHj f i _ c s V.ok A.dig
 cases s with
 |nil=>exact A.is.elim
 |draw o r=>
  have h1:=ok.1;have hk:o.kind=2:=hk;omega
 |grp o k r=>exact⟨o,k,r,rfl⟩
theorem VwOk.inner{c:Frm}{r:Fo}(A:VwAt v f i c (.grp o k r))(hk:k.some'):opV v (i+1)=k.op:=by
 obtain⟨P,T,h1,h2,_⟩:=zXi f i _ c _ A.dig;have e:f.flat[i+1]?=some k.op:=by
  rw[h2,wQq (by omega),show i+1-P.length=1 by omega];simp[Fo.flat,zYa hk]
 unfold opV;rw[V.ops,e];rfl
theorem VwOk.well(hm:q.m=zQA v.s.bits)(hi:q.ms=v.s.ims)(hx:v.s.c.has q.x q.y=true){c:Frm}(A:VwAt v f i c s)(h1:1<=n)(hr:zXR v n i=true):zJQ q v.s.bits c s (gOf v n s)/\wtL (gOf v n s).flat<wtL s.flat:=by
 have hq:q.ok v.s.bits:=⟨by rw[hm,hi];exact V.ims,hm.symm⟩
 obtain⟨st,w⟩:=V.opv A;have ok:=zHj f i _ c s V.ok A.dig;have k12:=zUO A.is ok;have k3:s.op.kind≠3:=by omega
 have RL:=jGL A.is k3;unfold zXR at hr;unfold gOf;by_cases n1:n=1
 .rw[if_pos n1]at hr;rw[if_pos (by omega)];refine⟨?_,RL⟩;unfold invV at hr;rw[A.op]at hr;simp only[wQd,wQ0,wQf]at hr;obtain⟨hn,hz⟩:=hr;refine yYw hq A.is hn ?_
  rcases hz with(hz|hz)|hz
  .exact .inl hz
  .have:=V.void w k12 hz;exact .inr (.inl ⟨this.1,by rw[hi];exact this.2 _ _ hx⟩)
  .refine .inr (.inr λa k=>?_);split at hz
   .rename_i hk2;obtain⟨o,g,r,rfl⟩:=V.grp_of A hk2;have hz:=wQH hz;rw[A.kid]at hz;have hw:g.width=0:=by simpa [Fo.kidN]using hz
    have:g=.nil:=by cases g<;>simp[Fo.width]at hw;rfl
    subst this;exact jGU hq c o r a k
   .rename_i hk2;have hk1:s.op.kind=1:=by omega
    cases s with
    |nil=>exact A.is.elim
    |grp o g r=>exact absurd (show o.kind=2 from ok.1) hk2
    |draw o r=>
     show srcS q.ms o q.x q.y=.zero
     rw[hi]
     rcases wQ0 _ _ ▸ hz with hz|hz
     .exact jGs V.dim hk1 w.err hx (jKM hz _ _)
     .simp only[wQd,wQf]at hz;unfold srcS;rw[if_pos (show o.kind=1 from hk1)];exact jUI (s:=v.s) hz.1 hz.2 _ _ _ _
 rw[if_neg n1]at hr;by_cases n2:n=2
 .rw[if_pos n2]at hr;rw[if_pos (by omega)];unfold dstV at hr;rw[A.op]at hr;exact⟨yYv hq A.is (wQH hr),RL⟩
 rw[if_neg n2]at hr;by_cases n3:n=3
 .rw[if_pos n3]at hr;rw[if_pos (by omega)];unfold jYu jQw at hr;rw[A.op,A.fst,A.fr]at hr;simp only[wQd,wQf,wQn]at hr;exact⟨yYu hq A.is hr.1 hr.2.1 hr.2.2.1 hr.2.2.2,RL⟩
 rw[if_neg n3]at hr;by_cases n4:n=4
 .rw[if_pos n4]at hr;rw[if_pos (by omega)];refine⟨yYt hq A.is ?_,RL⟩;unfold jYQ at hr;rw[A.end_]at hr;by_cases hs:s.rest.some'
  .exact(V.cov_from hm hi hx _ _ c.next _ (zU2 f i _ c s A.dig hs) hr:s.rest.covd q c.next.kno)
  .exfalso;have hn:s.rest=.nil:=by
    cases e:s.rest with
    |nil=>rfl
    |draw o r=>rw[e]at hs;exact absurd trivial hs
    |grp o k r=>rw[e]at hs;exact absurd trivial hs
   generalize v.s.ops.length=t at hr
   cases t with
   |zero=>cases hr
   |succ t=>
    unfold zYh at hr;split at hr
    .rename_i hj;obtain⟨P,T,h1,h2,_,h4⟩:=zXi f i _ c s A.dig;have sl:s.flat.length=s.span+1:=by rw[zYa A.is,hn];simp[Fo.flat,zUN]
     have e:f.flat[i+s.span+1]?=T[0]?:=by
      rw[h2,wQq (by omega),wQq (by omega)];congr 1;omega
     have eo:opV v (i+s.span+1)=(T[0]?).getD popO:=by unfold opV;rw[V.ops,e]
     rcases h4 with rfl|⟨T',rfl⟩
     .rw[eo]at hj;exact hj.2 rfl
     .rw[eo]at hj;exact hj.2 rfl
    .cases hr
 rw[if_neg n4]at hr;rw[if_neg (by omega)];by_cases n5:n=5
 .rw[if_pos n5]at hr;rw[if_pos n5];rw[A.op]at hr;obtain⟨m0,m1⟩:=V.full w hr;exact⟨yYs hq A.is (.inr (by rw[hi,hm];exact m1 _ _ hx)),zU3 A.is (jHd k3 m0)⟩
 rw[if_neg n5]at hr;rw[if_neg n5];by_cases n6:n=6
 .rw[if_pos n6]at hr;rw[if_pos n6];unfold isoV at hr;rw[A.op,A.fr,A.fst]at hr;simp only[wQd,wQf,wQn,wQ0]at hr;obtain⟨hk2,hio,hci,hcf⟩:=hr;obtain⟨o,g,r,rfl⟩:=V.grp_of A hk2;exact⟨yYr hq hci hcf,zU3 A.is (yQO hk2 hio)⟩
 rw[if_neg n6]at hr;rw[if_neg n6];by_cases n7:n=7
 .rw[if_pos n7]at hr;rw[if_pos n7];unfold jJ6 at hr;rw[A.op,A.fr,A.fst]at hr;simp only at hr;split at hr
  .cases hr
  .rename_i hci;have hci:c.iso=true:=by simpa using hci
   split at hr
   .rename_i hck;refine⟨yXS hq A.is hci (.inl hck),zU3 A.is (jJ5 k3 λhh=>?_)⟩;simp only[wQn,wQX]at hr;exact hr hh.2
   .simp only[wQd,wQ0,wQn,wQX]at hr;obtain⟨hf,ha,hb⟩:=hr;refine⟨yXS hq A.is hci (.inr ⟨hf,ha⟩),zU3 A.is (jJ5 k3 λhh=>?_)⟩
    rcases hb with hb|hb
    .exact hb hh.1
    .exact hb hh.2
 rw[if_neg n7]at hr;rw[if_neg n7];by_cases n8:n=8
 .rw[if_pos n8]at hr;rw[if_pos n8];unfold jJA at hr;rw[A.op,A.kid]at hr;simp only[wQd,wQf]at hr;obtain⟨hk2,hko,hw⟩:=hr;obtain⟨o,g,r,rfl⟩:=V.grp_of A hk2;have hw:g.width=1:=by have:(g.width:Int)=1:=hw;omega
  exact⟨yYq hq hko (zUj hw),zU3 A.is (jUD k3 hko)⟩
 rw[if_neg n8]at hr;rw[if_neg n8];unfold unwV at hr;split at hr
 .cases hr
 .rename_i hh;have hk2:(opV v i).kind=2:=by
   by_cases e:(opV v i).kind=2
   .exact e
   .exact absurd (.inl e) hh
  have hio:(opV v i).iso=true:=by
   cases e:(opV v i).iso with
   |true=>rfl
   |false=>exact absurd (.inr (.inl e)) hh
  have hw:kidV v i=1:=by
   by_cases e:kidV v i=1
   .exact e
   .exact absurd (.inr (.inr e)) hh
  rw[A.op]at hk2 hio;obtain⟨o,g,r,rfl⟩:=V.grp_of A hk2;rw[A.kid]at hw;have hw:g.width=1:=by have:(g.width:Int)=1:=hw;omega
  obtain⟨gs,gr⟩:=zUj hw;rw[V.inner A gs,A.op]at hr;simp only[wQd,wQf,wQ0]at hr;obtain⟨h4,hM,hu⟩:=hr;have un:∀o,unV v o=true->jGg q o:=λo ho=>by
   unfold unV at ho;simp only[wQd,wQf]at ho;rw[V.max,<-hm]at ho;exact ho
  have b1:unV v g.op=true->jGg q g.op:=un _;have b2:unV v g.op=false->jGg q o:=λhb=>by
   rcases hu with hu|hu
   .rw[hu]at hb;cases hb
   .exact un _ hu
  have gk:g.op.kind≠3:=by have:=zUO gs ok.2.1;omega
  exact⟨yYp hq hio ⟨gs,gr⟩ h4 hM b1 b2,jHh gs gr k3 gk h4 hM (λhb=>(b1 hb).1) (λhb=>(b2 hb).1)⟩
theorem VwOk.done{c:Frm}(A:VwAt v f i c s)(h1:1<=n)(h9:n<=9)(hr:zXR v n i=true):zZY v n i=(Fo.put (gOf v n) f i).flat:=by
 obtain⟨P,T,p1,p2,p3,_⟩:=zXi f i _ c s A.dig;have same:∀g,g s=gOf v n s->(Fo.put (gOf v n) f i).flat=(Fo.put g f i).flat:=λg hg=>by rw[p3,p3,hg]
 unfold zZY;by_cases n4:n<=4
 .rw[if_pos n4,same Fo.rest (by unfold gOf;rw[if_pos n4]),yQv A.dig];unfold remV;rw[A.end_,V.ops]
 rw[if_neg n4];by_cases n5:n=5
 .rw[if_pos n5,same (Fo.chg zVt) (by unfold gOf;rw[if_neg n4,if_pos n5]),jYf zVt A.dig,A.op,V.ops]
 rw[if_neg n5];by_cases n6:n=6
 .rw[if_pos n6,same (Fo.chg isoO) (by unfold gOf;rw[if_neg n4,if_neg n5,if_pos n6]),jYf isoO A.dig,A.op,V.ops]
 rw[if_neg n6];by_cases n7:n=7
 .rw[if_pos n7,same (Fo.chg zVQ) (by unfold gOf;rw[if_neg n4,if_neg n5,if_neg n6,if_pos n7]),jYf zVQ A.dig,A.op,V.ops]
 rw[if_neg n7];by_cases n8:n=8
 .rw[if_pos n8,same (Fo.chg zJp) (by unfold gOf;rw[if_neg n4,if_neg n5,if_neg n6,if_neg n7,if_pos n8]),jYf zJp A.dig,A.op,V.ops]
 rw[if_neg n8];unfold zXR at hr;rw[if_neg (by omega),if_neg (by omega),if_neg (by omega),if_neg (by omega),if_neg n5,if_neg n6,if_neg n7,if_neg n8]at hr;unfold unwV at hr;split at hr
 .cases hr
 .rename_i hh;have hk2:(opV v i).kind=2:=by
   by_cases e:(opV v i).kind=2
   .exact e
   .exact absurd (.inl e) hh
  have hw:kidV v i=1:=by
   by_cases e:kidV v i=1
   .exact e
   .exact absurd (.inr (.inr e)) hh
  rw[A.op]at hk2;obtain⟨o,g,r,rfl⟩:=V.grp_of A hk2;rw[A.kid]at hw;have hw:g.width=1:=by have:(g.width:Int)=1:=hw;omega
  obtain⟨gs,gr⟩:=zUj hw;rw[same (λ_=>Fo.lift o (unV v g.op) r g) (by unfold gOf;rw[if_neg n4,if_neg n5,if_neg n6,if_neg n7,if_neg n8]),yQw A.dig gs gr];unfold unwL;rw[A.end_,V.inner A gs,A.op,V.ops];have e1:i+(Fo.grp o g r).span-(i+2)=g.size-1:=by simp only[Fo.span];omega
  have e2:i+(Fo.grp o g r).span+1=i+g.size+2:=by simp only[Fo.span];omega
  rw[e1,e2];rfl
end
section
attribute [local irreducible] Ans AnsO AnsG AnsN AnsI
def gamB:Gam:=yX5.add [.p 211 (λv=>let a:=(zZX (zH2 (cAt (uj v) 0)));some (RV.agg [dJ a.a,dJ a.b,dJ a.c,dJ a.d]))]
def aDW(a:Nat)(b:List DV):Rc:=zZX (List.take a (zH2 b))
def aFX(a:List DV)(b c:Nat):Prop:=aG (mZ a b c) (cX a (aZ b c)) (cX a (aZ b c+1)) (cX a (aZ b c+1+1))
theorem jYe(n:Nat)(xs:List DV)(hx:yZp n xs):Ans prog 211 [rD (dS n xs)] (rA (qD (zZX (zH2 xs)))):=
 vv gamB (gI (ui (λd=>d<=n) (λb=>let a:=aDW b xs;aDR (oF 0 n xs (aCK 3 3 (aGH 6 n xs 7 8 b))) 2 (wT (pK [])) 3 (wM a.a a.b a.c a.d [])) (λc=>n-c) (λe=>aL))) Tryz.func211 (qB (∃j:Nat,aG (j<=n) (oO n xs (kQ (eS (0:Nat)) n xs (dC j))) (eS qE) (qE=cM (aDW j xs))) (∀a:Nat,let b:=aDW a xs;let k:=cM b;let f:=iR xs a 4;let l:=b.d;let g:=iQ xs a 4;let m:=b.c;let h:=iH xs a 4;let o:=b.b;let i:=cB xs a 4;let p:=b.a;let q:=nC p o m l;let r:=nC i h g f;bL (a<=n) (dT a n->eY (dF a n 4 xs) (aFX xs a 4) (True/\aAN i h g f/\True/\aE (r=true) (∃e:Nat,bZ e n (gZ (dZ n e a) (oO n xs (kQ (eS (0:Nat)) n xs (bQ a e))) qE k (cM (aDW e xs))))/\(r=false->True/\bH 40 k [] (aM (nC p o m l))/\True/\bK (q=true) (∃d:Nat,bZ d n (gZ (dZ n d a) (oO n xs (kQ (eS (0:Nat)) n xs (bQ a d))) qE (eO i h g f) (cM (aDW d xs))))/\pG q (aK (aK (xS (∃c:Nat,bZ c n (gZ (dZ n c a) (oO n xs (kQ (eS (0:Nat)) n xs (bQ a c))) qE (eO (Min.min p i) (Min.min o h) (Max.max m g) (Max.max l f)) (cM (aDW c xs)))))))))) (aE (eV a n) (cV k (cM (zZX (zH2 xs))))))) λhwf=>by
  delta eS aB aW aE iE aU aG aK cP eO bK cV eY cM pG fC aZ bQ bL dC qB cX fM bH aY dF cB dT eV mZ iH iQ iR gZ qE aM bI bZ dZ jK nC oO xS aFX kQ aAN aDW;simp only[sS,zQJ,zQ4,zQw,zQj];obtain⟨l,rfl,rfl⟩:=hx.of;simp only[RV.wfs,RV.wf,DV.wf,maxLen]at hwf;simp only[zVy,zXT];refine⟨⟨0,by omega,rfl,rfl,rfl,rfl,rfl⟩,λk hk=>⟨λhlt=>?_,λhge=>?_⟩⟩
  .have h:k<l.length:=by omega
   obtain⟨e1,e2,e3,e4⟩:=zW3 h;obtain⟨q1,q2,q3,q4⟩:=zWK l k h;have hs:=jUN h;have hw:wrap .i64 ((k:Int)+1)=((k+1:Nat):Int):=by rw[wQb _ (by omega)];omega
   simp only[e1,e2,e3,e4];generalize zZX (l.take k)=H at *;refine⟨by omega,⟨q1,q2,q3,q4⟩,λhe=>⟨k+1,by omega,by omega,hw,?_⟩,λhe=>⟨λh2=>⟨k+1,by omega,by omega,hw,?_⟩,λh2=>⟨k+1,by omega,by omega,hw,?_⟩⟩⟩
   .have he:l[k].empty=true:=he;rw[hs];simp[Rc.hull,he]
   .have he:l[k].empty=false:=he;have h2:H.empty=true:=h2;rw[hs];simp[Rc.hull,he,h2]
   .have he:l[k].empty=false:=he;have h2:H.empty=false:=h2;rw[hs];simp[Rc.hull,he,h2,Int.min_comm,Int.max_comm]
  .have:k=l.length:=by omega
   subst this;simp
theorem jWu{w:World}{S:Nat->Prop}{c:Int}{vs:Array Value}(h:RepRs w S [RV.d (DV.int .u64 x),RV.d (DV.int .u64 y),RV.d (DV.int .u64 c)] vs.toList):vs=#[.int .u64 x,.int .u64 y,.int .u64 c]:=by
 obtain⟨l⟩:=vs
 match l,h with
 |[a,b,d],h=>
  simp only[RepRs,RepR,RepD]at h;obtain⟨h1,h2,h3,_⟩:=h;rw[h1.1,h2.1,h3.1]
theorem jK0(x y c:Int)(hx:0<=x/\x<18446744073709551616)(hy:0<=y/\y<18446744073709551616)(hc:0<=c/\c<=1):AnsE prog 286 [RV.d (DV.int .u64 x),RV.d (DV.int .u64 y),RV.d (DV.int .u64 c)] (RV.tup [RV.d (DV.int .u64 ((x+y+c)%18446744073709551616)),RV.d (DV.int .u64 ((x+y+c) / 18446744073709551616))]):=by
 intro w S vs h;rw[jWu h,run_callFunc_extern Tryz.func286 (by kernel_rfl) (by kernel_rfl) (by kernel_rfl) (e:=add64Entry) (by kernel_rfl),run_add64 x y c hx.1 hy.1 hc.1 hc.2];refine⟨_,rfl,?_⟩;simp only[RepR,RepRs,RepD];have mi:IntKind.min .u64=0:=rfl;have ma:IntKind.max .u64=18446744073709551615:=rfl;exact⟨_,rfl,⟨rfl,by rw[zZ6,mi,ma];omega⟩,⟨rfl,by rw[zZ6,mi,ma];omega⟩,trivial⟩
theorem jJw(x y c:Int)(hx:0<=x/\x<18446744073709551616)(hy:0<=y/\y<18446744073709551616)(hc:0<=c/\c<=1):AnsE prog 300 [RV.d (DV.int .u64 x),RV.d (DV.int .u64 y),RV.d (DV.int .u64 c)] (RV.tup [RV.d (DV.int .u64 ((x-y-c)%18446744073709551616)),RV.d (DV.int .u64 (if x<y+c then 1 else 0))]):=by
 intro w S vs h;obtain⟨X,rfl⟩:=wZd hx.1;obtain⟨Y,rfl⟩:=wZd hy.1;obtain⟨Z,rfl⟩:=wZd hc.1;rw[jWu h,run_callFunc_extern Tryz.func300 (by kernel_rfl) (by kernel_rfl) (by kernel_rfl) (e:=sub64Entry) (by kernel_rfl),run_sub64 X Y Z (by omega)];refine⟨_,rfl,?_⟩;simp only[RepR,RepRs,RepD];have e1:(((X+18446744073709551616-Y-Z)%18446744073709551616:Nat):Int)=((X:Int)-Y-Z)%18446744073709551616:=by omega
 have e2:((if X<Y+Z then 1 else 0:Nat):Int)=if(X:Int)<Y+Z then 1 else 0:=by split<;>split<;>omega
 have mi:IntKind.min .u64=0:=rfl;have ma:IntKind.max .u64=18446744073709551615:=rfl;exact⟨_,rfl,⟨by rw[e1],by rw[zZ6,mi,ma];omega⟩,⟨by rw[e2],by rw[zZ6,mi,ma];split<;>omega⟩,trivial⟩
def gZ14:List RV->Option RV:=λv=>some (RV.d (DV.int .u64 (zZs (nAt (uj v) 0) (nAt (uj v) 1))))
def yXd:Gam:=gamB.add [.p 103 (λv=>let c:=(nAt (uj v) 0)*(nAt (uj v) 1);some (RV.tup [RV.d (DV.int .u64 (hiW c)),RV.d (DV.int .u64 (loW c))])),
 .p 194 gZ14]
def cF(a:Int):DV:=DV.int IntKind.u64 a
def bV(a:Int):Int:=wrap IntKind.u64 a
def jL(a:Int):RV:=RV.d (cF a)
def fQ(a b:Int):Int:=bV (a-b)
def aBU(a b:Int):Int:=bV (Int.tdiv a b)
abbrev wQk:=@IntWalk.u64_in
abbrev wY8:=@Int.ediv_lt_self_of_pos_of_ne_one
theorem jK3(n d:Int):Ans prog 194 [rD (DV.int .u64 n),rD (DV.int .u64 d)] (rD (DV.int .u64 (zZs n d))):=
 vv yXd aL Tryz.func194 (let a:=jL (zZs n d);let b:=Int.tmod n d;let c:=fQ d b;qL d (jL 0=a) (oK d 0 (gH d) (bD (gH d) (nN (rX b c (True/\True/\True/\True/\jL (bV (aBU n d+1))=a) (aE (fI b c) (jL (aBU n d)=a))))))) λhwf=>by
  delta eS aE eJ fI bD aX gH nN bP oK cS cF bV jL fQ rX aBU qL;simp only[sS];simp only[RV.wfs,RV.wf,DV.wf]at hwf;have m1:IntKind.min .u64=0:=rfl;have m2:IntKind.max .u64=18446744073709551615:=rfl;rw[m1,m2]at hwf;have t1:Int.tdiv n d=n / d:=wQ5 (by omega);have t2:Int.tmod n d=n%d:=wZ1 (by omega);refine⟨λq=>by(have q:d=0:=(by simpa using q));simp[zZs,q],λq=>?_⟩;have q:d≠0:=by simpa using q
  have b1:0<=n%d:=wZb _ q;have b2:n%d<d:=wZc _ (by omega);have b3:0<=n / d:=wQU (by omega) (by omega);have b4:n / d<=n:=wZY _ (by omega);simp only[t1,t2];rw[wQk (n / d) ⟨b3,by omega⟩,wQk (d-n%d) (by omega)];refine⟨q,q,λq2=>?_,λq2=>?_⟩
  .have b5:d>=2\/d=1:=by omega
   have b6:n / d+1<=18446744073709551615:=by
    rcases b5 with b5|b5
    .have:n / d<n\/n=0:=by
      by_cases hn:n=0
      .exact .inr hn
      .exact .inl (wY8 (by omega) (by omega))
     rcases this with h|h
     .omega
     .subst h;simp
    .subst b5;omega
   rw[wQk _ ⟨by omega,b6⟩];simp[zZs,q];omega
  .simp[zZs,q];omega
def cA(a:Int)(b:List RV):List RV:=RV.d (cF a)::b
def bJ(a b:Int):Int:=bV (a*b)
def gE(a b:Int):List RV:=cA a (cA b [])
def xZ(a:Int):BitVec 64:=BitVec.ofInt 64 a
def pU(a b:Int):RV:=RV.tup (gE a b)
def nV(a b:Int):Int:=Int.fdiv a (HPow.hPow (2:Int) (Min.min (Int.toNat b) (64:Nat)))
def qZ(a b c:Int):Int:=bV (bJ a b+c)
def zW(a:BitVec 64):Int:=bV (BitVec.toNat a:Int)
def aFR(a:Int):BitVec 64:=HAnd.hAnd (xZ a) (xZ 4294967295)
def sV(a b:Int):Int:=bJ (bV a) (bV b)
abbrev wYM:=@IntKind.wrap_u64
theorem zWQ(x y:Int):Ans prog 103 [rD (DV.int .u64 x),rD (DV.int .u64 y)] (rT [rD (DV.int .u64 (hiW (x*y))),rD (DV.int .u64 (loW (x*y)))]):=
 vv yXd aL Tryz.func103 (let b:=(BitVec.toNat (aFR x):Int);let c:=qZ (nV x 32) (zW (aFR y)) (nV (sV b (BitVec.toNat (aFR y):Int)) 32);let a:=(0:Int)<=32;qU (aR a (bD a (aK (aR a (eZ a (aK (sW a (pU (bV (qZ (nV x 32) (nV y 32) (nV c 32)+nV (bV (zW (aFR c)+bJ (bV b) (nV y 32))) 32)) (bJ x y)=pU (hiW (x*y)) (loW (x*y))))))))))) λhwf=>by
  delta eS aK bD aX aR eZ cF bV qU cA bJ gE xZ pU nV qZ zW aFR sW sV;simp only[sS,jK3];simp only[RV.wfs,RV.wf,DV.wf,DV.wfs,uc]at hwf;obtain⟨hx,hy,_⟩:=hwf;have wr:∀a:Int,0<=a->a<18446744073709551616->wrap .u64 a=a:=λa h1 h2=>wQk a ⟨h1,by omega⟩;have f32:∀a:Int,0<=a->Int.fdiv a (2 ^ min (Int.toNat 32) 64)=a / 4294967296:=λa ha=>by
   rw[show((2:Int) ^ min (Int.toNat 32) 64)=4294967296 from by decide];exact wZq _ (by omega)
  have ex:x=x / 4294967296*4294967296+x%4294967296:=by omega
  have ey:y=y / 4294967296*4294967296+y%4294967296:=by omega
  have bx:0<=x / 4294967296/\x / 4294967296<=4294967295/\0<=x%4294967296/\x%4294967296<=4294967295:=by omega
  have by_:0<=y / 4294967296/\y / 4294967296<=4294967295/\0<=y%4294967296/\y%4294967296<=4294967295:=by omega
  simp only[zGc hx.1 (by omega),zGc hy.1 (by omega),f32 x hx.1,f32 y hy.1];have exy:x*y=(x / 4294967296)*(y / 4294967296)*18446744073709551616+((x / 4294967296)*(y%4294967296)+(x%4294967296)*(y / 4294967296))*4294967296+(x%4294967296)*(y%4294967296):=by
   generalize x / 4294967296=x1 at *;generalize x%4294967296=x0 at *;generalize y / 4294967296=y1 at *;generalize y%4294967296=y0 at *;subst ex ey;grind
  rw[exy];clear exy ex ey;generalize x / 4294967296=x1 at *;generalize x%4294967296=x0 at *;generalize y / 4294967296=y1 at *;generalize y%4294967296=y0 at *;obtain⟨p1,p2,p3,p4⟩:=bx;obtain⟨q1,q2,q3,q4⟩:=by_;have m11:=zQf p1 p2 q1 q2;have m10:=zQf p1 p2 q3 q4;have m01:=zQf p3 p4 q1 q2;have m00:=zQf p3 p4 q3 q4;rw[wr x0 (by omega) (by omega),wr y0 (by omega) (by omega)];generalize x1*y1=A at *;generalize x1*y0=B at *;generalize x0*y1=C at *;generalize x0*y0=D at *;rw[wr D (by omega) (by omega),f32 D (by omega),wr B (by omega) (by omega),wr (B+D / 4294967296) (by omega) (by omega),zGc (n:=B+D / 4294967296) (by omega) (by omega),wr ((B+D / 4294967296)%4294967296) (by omega) (by omega),wr C (by omega) (by omega),wr ((B+D / 4294967296)%4294967296+C) (by omega) (by omega),f32 (B+D / 4294967296) (by omega),f32 ((B+D / 4294967296)%4294967296+C) (by omega),wr A (by omega) (by omega),wr (A+(B+D / 4294967296) / 4294967296) (by omega) (by omega),wr (A+(B+D / 4294967296) / 4294967296+_) (by omega) (by omega)];unfold hiW loW;rw[wYM];constructor<;>omega
end
structure Mc where
  at_:Int
  kind:Int
  inp:Px
  back:Px
  k:Int
  out:Px
def Mc.cells(t:Mc):List DV:=[.int .i64 t.at_,.int .i64 t.kind]++(t.inp.ds++(t.back.ds++([.int .u16 t.k]++t.out.ds)))
def Ac.col(x:Ac):Px:=⟨x.a,x.b,x.c,x.al,x.f⟩
section
attribute [local irreducible] Ans AnsO AnsG AnsN AnsI
def vm(l:List DV):Scr:=⟨nAt l 0,⟨nAt l 1,nAt l 2,nAt l 3,nAt l 4⟩,nAt l 5,nAt l 6,ints (cAt l 7),zQr (cAt l 8),zQi (cAt l 9)⟩
def jV4:Gam:=yXd.add [.p 195 (λv=>some (RV.d (dQ (zZf (nAt (uj v) 0))))),
 .p 256 (λv=>some (RV.d (dQ (farB (nAt (uj v) 0))))),
 .p 236 (λv=>some (RV.agg (qD (zZ3 (vm (ul v 0)) (nAt (uj v) 1) (nAt (uj v) 2) (nAt (uj v) 3))))),
 .p 197 (λv=>some (RV.agg (qD (imgR (vm (ul v 0)) (vg (ul v 1)))))),
 .p 235 (λv=>some (RV.agg (qD (zYN (vm (ul v 0)) (vg (ul v 1)))))),
 .p 210 (λv=>some (RV.agg (qD (boxF (vm (ul v 0)) (vg (ul v 1)) (ux (ul v 2))))))]
theorem zZh(op:Int):Ans prog 195 [rJ (op)] (rD (dQ (zZf op))):=
 vv jV4 aL Tryz.func195 (let b:=aP (uC (zYH op 3)) (aCM (zYH op 3==3) (zZf op)) (aN (gD (zYH op 3==2)) (cZ true (zZf op)));let a:=zYH op 2;True/\sW (cL 216 op [] (dA (DV.str (zZT op)::aDV op 1 2 3) (qN op))) (gJ (aE (qN op=true) (gJ (aN ((a==1)=false) (cS (a==3) b (fY (bG (a==3)) (zZf op)))) (bK (gD (a==1)) b))) (mG (bG (qN op)) (zZf op)))) λhwf=>by
  delta eS aB aV aE aP aN aX cL bG bK gD uC aM gJ cS cZ fY gO mG qN aCM sW gA dA aDV;simp only[sS,zQh,zQw];by_cases h:1<=op/\op<13
  .rcases zY2 h with rfl|rfl|rfl|rfl|rfl|rfl|rfl|rfl|rfl|rfl|rfl|rfl<;>decide +kernel
  .have h2:zZf op=false:=by unfold zZf;simp;omega
   simp[h,h2]
theorem zY5(v:Int):Ans prog 256 [rJ (v)] (rD (dQ (farB v))):=
 vv jV4 aL Tryz.func256 (let a:=(-(1099511627776:Int));fV (bK (gX v a) (cZ (decide (v>1099511627776)) (farB v))) (aE (tA v a false) (cZ true (farB v)))) λhwf=>by
  delta eS aE tA gX bK fV aM cZ;simp only[sS,zQh,zQw,zZh];unfold farB;grind
def oL(a:Scr):Nat:=List.length a.ims
def yD(a:FuncId)(b c:List DV)(d:Rc):Prop:=iG a b (gB c) (cM d)
def aAC(e:Scr):List DV:=eO e.c.a e.c.b e.c.c e.c.d
def fE(a:Scr)(b:Nat):Prop:=bS (ims a.ims) b
def aDD(a:Scr)(b:Nat):Option DV:=some (DV.sl (lAt (ims a.ims) b) (cAt (ims a.ims) b))
def jQ(a:Scr)(b:Nat):Prop:=cE (ims a.ims) b
def kA(a:Scr)(b:Nat):DV:=aB (nAt (ims a.ims) b)
def rH(a:Int)(b:Nat):Nat:=bT (aW a b)+1
def jA(a:Scr)(b:Nat):Prop:=(ims a.ims)[cI b]?=aDD a (cI b)
def tB(a:Int)(b:Nat):Nat:=bT (bT (aW a b))+1
def vF(a:Int)(b:Nat):Nat:=bT (bU (aW a b))
def vG(a:Int)(b:Nat):Nat:=bU (eH (aW a b))
def aFY(a:List DV)(b:Int)(c:Nat)(d e f g h:Prop):Prop:=eU (oI a b c) (cX a (aW b c)) (yP a (bT (aW b c))) d e f g (cE a (jV (aW b c))) h
abbrev wX7:=@of_decide_eq_false
abbrev sD(q:Scr):List DV:=[DV.int .i64 q.bits,DV.int .i64 q.c.a,DV.int .i64 q.c.b,DV.int .i64 q.c.c,DV.int .i64 q.c.d,DV.int .i64 q.tw,DV.int .i64 q.th,DV.sl q.ord.length (is q.ord),DV.sl q.ims.length (ims q.ims),DV.sl q.ops.length (ops q.ops)]
theorem zKG(s:Scr)(i x y:Int):Ans prog 236 [rA (sD s),rJ (i),rJ (x),rJ (y)] (rA (qD (zZ3 s i x y))):=
 vv jV4 aL Tryz.func236 (let a:=cV qE (cM (zZ3 s i x y));let b:=ims s.ims;let l:=eF b i 28;let g:=farB l;let c:=aW i 28;let m:=fM b c;let h:=aU (y+m);let j:=aU (x+l);let k:=farB m;let e:=bU c;let d:=cG e;let n:=lU d;let o:=iA d;let f:=eH c;True/\True/\fU (mR i) (aP (eJ i (oL s:Int)) a (aN (fI i (oL s:Int)) (eY (iE i (oL s) 28 b) (aFY b i 28 (jQ s (rH i 28)) (jQ s e) (jQ s (tB i 28)) (jQ s (vF i 28)) (eU (fE s e) (fE s (tB i 28)) (fE s (vF i 28)) (jA s (aW i 28)) (fE s f) (fE s (iA c)) (fE s (cG (aW i 28))) (jA s e) (eU (fE s (vG i 28)) (fE s (lU c)) (fE s (cG e)) (jA s f) (fE s (eH f)) (fE s (iA f)) (fE s (bU d)) (b[o]?=aDD s o) (aG (fE s (bT (bU d))) (fE s (jV d)) (fE s (eH d)) (b[n]?=aDD s n))))) (True/\cL 256 x [] (aM (farB x))/\True/\pG (farB x) (cL 256 y [] (aM (farB y))/\True/\True/\aE (farB y=false) (lM 256 (kA s (aW i 28)) [] (aM g)/\True/\True/\pG g (True/\lM 256 (kA s (c+1)) [] (aM k)/\True/\aE (k=true) a/\aN (k=false) (aK (bD (yD 157 (eO x y j h) (aAC s) (Rc.inter ⟨x,y,j,h⟩ s.c)) (cV (cM (Rc.inter ⟨x,y,j,h⟩ s.c)) (cM (zZ3 s i x y))))))/\aN (gD g) a)/\dL (gD (farB y)) a)/\qP (gD (farB x)) a)))) (aN (nY i) a)) λhwf=>by
  delta eS aB aV aW aE iE aP tA eJ gX oI fI mR nY aF aU aG fG aK aN bD cL dL gB eO cV eY cM pG gD eF eU cX fM bH bS iG fU qE aM bT bU jV yP lM cI cG eH oL iA cE qP yD aAC fE aDD jQ kA lU rH jA tB vF vG aFY;simp only[sS,zQh,zQw,zZh,zY5]
  (try simp only[zQv,zQn,zZI,zZv,zQC])
  have hsE:(⟨s.bits,s.c,s.tw,s.th,s.ord,s.ims,s.ops⟩:Scr)=s:=rfl
  (try simp only[hsE])
  clear hsE;have hfw:∀a b:Int,farB a=false->farB b=false->wrap .i64 (a+b)=a+b:=λa b h1 h2=>by
   unfold farB at h1 h2;have h1:=wX7 h1;have h2:=wX7 h2;exact wQb _ (by omega)
  have z:zZ3 s i x y=Rc.zero->0=(zZ3 s i x y).a/\0=(zZ3 s i x y).b/\0=(zZ3 s i x y).c/\0=(zZ3 s i x y).d:=λh=>by rw[h];exact⟨rfl,rfl,rfl,rfl⟩
  refine⟨λh0=>⟨λh1=>z (jQx x y (.inr h1)),λh1=>?_⟩,λh0=>z (jQx x y (.inl h0))⟩;have hk:i.toNat<s.ims.length:=by omega
  have e:=zGH x y (show 0<=i by omega) hk;have q1:=jQR hk;have q2:=jQS hk;simp only[q2];have fin:farB x=false->farB y=false->farB s.ims[i.toNat].w=false->farB s.ims[i.toNat].h=false->Rc.inter ⟨x,y,wrap .i64 (x+s.ims[i.toNat].w),wrap .i64 (y+s.ims[i.toNat].h)⟩ s.c=zZ3 s i x y:=λf1 f2 f3 f4=>by
   rw[e,hfw _ _ f1 f3,hfw _ _ f2 f4,f1,f2,f3,f4];rfl
  refine⟨⟨by omega,by omega,by rw[zXl];omega⟩,q1,λf1=>⟨λf2=>⟨λf3=>⟨λf4=>z (by rw[e,f4];simp),λf4=>?_⟩,λf3=>z (by rw[e,f3];simp)⟩,λf2=>z (by rw[e,f2];simp)⟩,λf1=>z (by rw[e,f1];simp)⟩;rw[<-fin f1 f2 f3 f4];exact⟨zQw _ _ _ _ _ _ _ _,rfl,rfl,rfl,rfl⟩
def aIO(e:Scr)(f:List DV):List DV:=aB e.bits::aB e.c.a::aB e.c.b::aB e.c.c::aB e.c.d::aB e.tw::aB e.th::DV.sl (List.length e.ord) (is e.ord)::f
def cY(a:Scr):DV:=DV.sl (List.length a.ops) (ops a.ops)
def mO(a:Scr):Scr:=⟨a.bits,a.c,a.tw,a.th,ints (is a.ord),zQr (ims a.ims),zQi (ops a.ops)⟩
def yH(a:Scr)(b:List DV):List DV:=aIO a (DV.sl (List.length a.ims) (ims a.ims)::b)
def iZ(a:Scr):List DV:=yH a [cY a]
theorem zXZ(s:Scr)(o:Oq):Ans prog 197 [rA (sD s),rA (oD o)] (rA (qD (imgR s o))):=
 vv jV4 aL Tryz.func197 (let a:=zZ3 (mO s) o.image o.x o.y;bI (aP (jN o.kind 1) (cV qE (cM (imgR s o))) (dL (dN o.kind 1) (bD (iG 236 (iZ s) (aV o.image::lE o.x o.y) (cM a)) (cV (cM a) (cM (imgR s o))))))) λhwf=>by
  delta eS aB aV aE aP bD dL eO cV cM bH iG qE bI lE aIO dN jN cY mO yH iZ;simp only[sS,zQh,zQw,zZh,zY5]
  (try simp only[zQv,zQn,zZI,zZv,zQC])
  have hsE:(⟨s.bits,s.c,s.tw,s.th,s.ord,s.ims,s.ops⟩:Scr)=s:=rfl
  (try simp only[hsE])
  clear hsE;refine⟨λh=>?_,λh=>?_⟩
  .have h:¬o.kind=1:=by simpa using h
   unfold imgR;rw[if_neg h];exact⟨rfl,rfl,rfl,rfl⟩
  .have h:o.kind=1:=by simpa using h
   unfold imgR;rw[if_pos h];exact⟨zKG s o.image o.x o.y,rfl,rfl,rfl,rfl⟩
theorem zYi(s:Scr)(o:Oq):Ans prog 235 [rA (sD s),rA (oD o)] (rA (qD (zYN s o))):=
 vv jV4 aL Tryz.func235 (let a:=o.mask;let c:=zZ3 (mO s) (cN a 1) o.mx o.my;let b:=Rc.inter s.c s.c;let d:=aB b.a::aB b.b::aB b.c::nR b.d;bI (aP (mE a) (bD (iG 157 (aAC s) (gB (aAC s)) d) (cV d (cM (zYN s o)))) (fS a->aP (jE a 0) (cV qE (cM (zYN s o))) (fP (mR a) (bD (iG 236 (iZ s) (aV (cN a 1)::lE o.mx o.my) (cM c)) (cV (cM c) (cM (zYN s o)))))))) λhwf=>by
  delta eS aB aV aE aP gX mR aU bD cN gB fS mE jE eO cV cM nR bH iG qE bI lE fP aIO cY mO yH iZ aAC;simp only[sS,zQh,zQw,zZh,zY5]
  (try simp only[zQv,zQn,zZI,zZv,zQC])
  have hsE:(⟨s.bits,s.c,s.tw,s.th,s.ord,s.ims,s.ops⟩:Scr)=s:=rfl
  (try simp only[hsE])
  clear hsE;refine⟨λh=>?_,λh=>⟨λh2=>?_,λh2=>?_⟩⟩
  .have h:o.mask=0:=by simpa using h
   unfold zYN;rw[if_pos h];exact⟨zQw _ _ _ _ _ _ _ _,rfl,rfl,rfl,rfl⟩
  .have h:¬o.mask=0:=by simpa using h
   unfold zYN;rw[if_neg h,if_pos h2];exact⟨rfl,rfl,rfl,rfl⟩
  .have h:¬o.mask=0:=by simpa using h
   unfold zYN;rw[if_neg h,if_neg h2];simp only[RV.wfs,RV.wf,DV.wf,DV.wfs]at hwf;have hr : -9223372036854775808<=o.mask/\o.mask<=9223372036854775807:=hwf.2.1.2.2.2.2.1;rw[wQb _ (by omega)];exact⟨zKG s (o.mask-1) o.mx o.my,rfl,rfl,rfl,rfl⟩
theorem zWP(s:Scr)(o:Oq)(r:Rc):Ans prog 210 [rA (sD s),rA (oD o),rA [dJ r.a,dJ r.b,dJ r.c,dJ r.d]] (rA (qD (boxF s o r))):=
 vv jV4 aL Tryz.func210 (let b:=cM (boxF s o r);let a:=zYN (mO s) o;let c:=zZf o.oper;True/\True/\fT (cL 195 o.oper [] (aM c)) (aN (dV c) (cV (aAC s) b)) (xI c (aP (mE o.opac) (cV qE b) (aN (fS o.opac) (yD 235 (iZ s) (Oq.cells o) a/\yD 157 (aB r.a::aB r.b::aB r.c::nR r.d) (cM a) (Rc.inter r a)/\eC True (eS true) (cV (cM (Rc.inter r a)) b)))))) λhwf=>by
  delta eS aB aV aE aP eC aN cL gB fS mE eO cV cM nR bH fT iG qE aM aIO bO xI dV cY mO yH iZ yD aAC;simp only[sS,zQh,zQw,zZh,zY5]
  (try simp only[zQv,zQn,zZI,zZv,zQC])
  have hsE:(⟨s.bits,s.c,s.tw,s.th,s.ord,s.ims,s.ops⟩:Scr)=s:=rfl
  (try simp only[hsE])
  clear hsE;refine⟨λh=>?_,λh=>⟨λh2=>?_,λh2=>?_⟩⟩
  .unfold boxF;rw[if_pos h];exact⟨rfl,rfl,rfl,rfl⟩
  .have h2:o.opac=0:=by simpa using h2
   unfold boxF;rw[if_neg (by rw[h];decide),if_pos h2];exact⟨rfl,rfl,rfl,rfl⟩
  .have h2:¬o.opac=0:=by simpa using h2
   unfold boxF;rw[if_neg (by rw[h];decide),if_neg h2];exact⟨zYi s o,zQw _ _ _ _ _ _ _ _,rfl,rfl,rfl,rfl⟩
end
def Cl.thaw(bx:Nat->Bx):Cl->Option DV
 |.d v=>some v
 |.nil=>some (.sl 0 [])
 |.ref b n=>match zXJ (bx b) with
  |some xs=>some (.sl n xs)
  |none=>none
 |_=>none
def jGl(bx:Nat->Bx):List Cl->Option (List DV)
 |[]=>some []
 |c::cs=>match c.thaw bx,jGl bx cs with
  |some d,some ds=>some (d::ds)
  |_,_=>none
mutual
def AV.thaw(bx:Nat->Bx):AV->Option RV
 |.one c=>match c.thaw bx with
  |some d=>some (.d d)
  |none=>none
 |.agg cs=>match jGl bx cs with
  |some ds=>some (.agg ds)
  |none=>none
 |.tup vs=>match AV.thawL bx vs with
  |some rs=>some (.tup rs)
  |none=>none
def AV.thawL(bx:Nat->Bx):List AV->Option (List RV)
 |[]=>some []
 |x::xs=>match x.thaw bx,AV.thawL bx xs with
  |some r,some rs=>some (r::rs)
  |_,_=>none
end
variable{d:DV}
section
variable{w:World}{V V':Nat->Prop}{ι:zQm}{bx:Nat->Bx}
theorem jGm(hk:∀g,V g->V' g)(hb:∀b,zX1 w V ι bx b (bx b))(ho:∀b g c,(bx b).live=true->ι b=some (g,c)->V' g){c:Cl}{v:Value}(h:c.thaw bx=some d)(hr:zQs w V ι bx c v):RepD w V' d v:=by
 have hkk:zZJ w V w V':=λg off u hV hu=>⟨hk g hV,hu⟩
 cases c with
 |d x=>
  simp only[Cl.thaw,wQa]at h;subst h;exact RepD.keep hkk hr
 |nil=>
  simp only[Cl.thaw,wQa]at h;subst h;simp only[zQs]at hr;simp only[RepD];exact⟨none,0,hr,Nat.le_refl _,wQj _,λhne=>absurd rfl hne⟩
 |ref b n=>
  simp only[Cl.thaw]at h;split at h
  .rename_i xs hin;simp only[wQa]at h;subst h;simp only[zQs]at hr;have hbb:=hb b
   cases hB:bx b with
   |row e size ys=>
    rw[hB]at hin hbb;simp only[zXJ,wQa]at hin;subst hin;obtain⟨_,⟨h1,h2,h3⟩|⟨g,cap,h1,h2,h3⟩⟩:=hr
    .rcases hbb with⟨h4,h5⟩|⟨g,cap,cur,h4,_⟩
     .subst h5 h2;simp only[RepD];exact⟨none,0,h3,Nat.le_refl _,wQj _,λhne=>absurd rfl hne⟩
     .rw[h1]at h4;cases h4
    .rcases hbb with⟨h4,h5⟩|⟨g',cap',cur,h4,h5,h6,h7,h8⟩
     .rw[h1]at h4;cases h4
     .rw[h1]at h4;injection h4 with h4
      injection h4 with h4 h4'
      subst h4 h4';simp only[RepD];exact⟨_,cap,h2,h3,h6,λhne=>⟨g,0,rfl,ho b g cap (by rw[hB];rfl) h1,RepCells.of_row h5 (h8.keep hkk)⟩⟩
   |ice ys=>
    rw[hB]at hin hbb;simp only[zXJ,wQa]at hin;subst hin;obtain⟨_,⟨h1,h2,h3⟩|⟨g,cap,h1,h2,h3⟩⟩:=hr
    .rcases hbb with⟨h4,h5⟩|⟨g,cap,h4,_⟩
     .subst h5 h2;simp only[RepD];exact⟨none,0,h3,Nat.le_refl _,wQj _,λhne=>absurd rfl hne⟩
     .rw[h1]at h4;cases h4
    .rcases hbb with⟨h4,h5⟩|⟨g',cap',h4,h5,h6⟩
     .rw[h1]at h4;cases h4
     .rw[h1]at h4;injection h4 with h4
      injection h4 with h4 h4'
      subst h4 h4';simp only[RepD];refine⟨_,cap,h2,h3,h6,λhne=>⟨g,0,rfl,?_⟩⟩;have h9:=Lies.keep hkk h5;exact h9 hne
   |fresh=>rw[hB]at hin;cases hin
   |gone=>rw[hB]at hin;cases hin
   |cells cs=>rw[hB]at hin;cases hin
  .cases h
 |sub b o n=>cases h
 |lit u=>cases h
 |ptr b off=>cases h
 |vp cs off=>cases h
 |clo f cs=>cases h
 |dead=>cases h
theorem jWj(hk:∀g,V g->V' g)(hb:∀b,zX1 w V ι bx b (bx b))(ho:∀b g c,(bx b).live=true->ι b=some (g,c)->V' g):∀{cs:List Cl}{ds:List DV}{vs:List Value},jGl bx cs=some ds->zQO w V ι bx cs vs->zZo w V' ds vs
 |[],ds,vs,h,hr=>by
  simp only[jGl,wQa]at h;subst h
  cases vs with
  |nil=>trivial
  |cons _ _=>exact hr.elim
 |c::cs,ds,vs,h,hr=>by
  simp only[jGl]at h;split at h
  .rename_i d ds' h1 h2;simp only[wQa]at h;subst h
   cases vs with
   |nil=>exact hr.elim
   |cons v vs=>exact⟨jGm hk hb ho h1 hr.1,jWj hk hb ho h2 hr.2⟩
  .cases h
mutual
theorem jGn(hk:∀g,V g->V' g)(hb:∀b,zX1 w V ι bx b (bx b))(ho:∀b g c,(bx b).live=true->ι b=some (g,c)->V' g):∀{x:AV}{r:RV}{v:Value},x.thaw bx=some r->zQg w V ι bx x v->RepR w V' r v
 |.one c,r,v,h,hr=>by
  simp only[AV.thaw]at h;split at h
  .rename_i d h1;simp only[wQa]at h;subst h;simp only[zQg]at hr;simp only[RepR];exact jGm hk hb ho h1 hr
  .cases h
 |.agg cs,r,v,h,hr=>by
  simp only[AV.thaw]at h;split at h
  .rename_i d h1;simp only[wQa]at h;subst h;simp only[zQg]at hr;obtain⟨cur,e,hr⟩:=hr;simp only[RepR];exact⟨cur,e,jWj hk hb ho h1 hr⟩
  .cases h
 |.tup vs,r,v,h,hr=>by
  simp only[AV.thaw]at h;split at h
  .rename_i d h1;simp only[wQa]at h;subst h;simp only[zQg]at hr;obtain⟨cur,e,hr⟩:=hr;simp only[RepR];exact⟨cur,e,thaw_avs hk hb ho h1 hr⟩
  .cases h
theorem thaw_avs(hk:∀g,V g->V' g)(hb:∀b,zX1 w V ι bx b (bx b))(ho:∀b g c,(bx b).live=true->ι b=some (g,c)->V' g):∀{xs:List AV}{rs:List RV}{vs:List Value},AV.thawL bx xs=some rs->RepAVs w V ι bx xs vs->RepRs w V' rs vs
 |[],rs,vs,h,hr=>by
  simp only[AV.thawL,wQa]at h;subst h
  cases vs with
  |nil=>simp only[RepRs]
  |cons _ _=>simp only[RepAVs]at hr
 |x::xs,rs,vs,h,hr=>by
  simp only[AV.thawL]at h;split at h
  .rename_i d ds' h1 h2;simp only[wQa]at h;subst h
   cases vs with
   |nil=>simp only[RepAVs]at hr
   |cons v vs=>
    simp only[RepAVs]at hr;simp only[RepRs];exact⟨jGn hk hb ho h1 hr.1,thaw_avs hk hb ho h2 hr.2⟩
  .cases h
end
end
theorem AnsG.ans{P:Program}{f:FuncId}{args:List AV}{rs:List RV}{r:Ret}{res:RV}(h:AnsG P f 0 args [] r)(ha:args=RV.avs rs)(hr:r.res.thaw (zQP r.outs)=some res):Ans P f rs res:=by
 subst ha;intro w S vs hg hrep;have hno:∀b,(zQP ([]:List Bx) b)=.fresh:=λb=>by simp[zQP]
 have hnone:∀g,¬OwnB (zQP ([]:List Bx)) (λ_=>none) g:=λg ⟨b,c,hl,e⟩=>by rw[hno]at hl;cases hl
 have hh:jZy w S (λ_=>none) (RV.avs rs) [] vs.toList:=by
  refine⟨λb g c hl e=>?_,λb b' g c c' hl hl' hne e=>?_,λb=>?_,rep_avs hrep⟩
  .rw[hno]at hl;cases hl
  .rw[hno]at hl;cases hl
  .rw[hno];trivial
 refine(h w S _ vs hg hh).mono λed w' hp=>?_;obtain⟨v,ι',rfl,ha⟩:=hp;refine⟨v,rfl,jGn (λg hV=>?_) ha.bx (λb g c hl e=>?_) hr ha.rep,ha.bel.below hnone⟩
 .rcases hV.1 with⟨_,h⟩|h|h
  .exact .inl h
  .exact .inr h
  .exact absurd h (hnone g)
 .rcases (ha.own b g c hl e).1 with h|h
  .exact .inr h
  .exact absurd h (hnone g)
def StV(bits:Int)(mn:Nat)(st:List Oq):Prop:=∀(p:List Oq)(q:Oq)(r:List Oq),st=p++q::r->q.kind=2/\errO bits mn q p=0
theorem StV.nil{bits:Int}:StV bits mn []:=λp q r h=>by simp at h
abbrev wX8:=@List.eq_nil_or_concat
theorem StV.push{bits:Int}(h:StV bits mn st)(hk:o.kind=2)(he:errO bits mn o st=0):StV bits mn (st++[o]):=λp q r e=>by
 rcases wX8 r with rfl|⟨r',z,rfl⟩
 .have⟨e1,e2⟩:=wYF e rfl;simp only[wQK,and_true]at e2;subst e1 e2;exact⟨hk,he⟩
 .have e:st++[o]=(p++q::r')++[z]:=by rw[e];simp
  exact h p q r' (wYF e rfl).1
abbrev wX9:=@List.concat_eq_append
theorem StV.pop{bits:Int}(h:StV bits mn st):StV bits mn st.dropLast:=λp q r e=>by
 rcases wX8 st with rfl|⟨s',z,rfl⟩
 .simp at e
 .rw[wX9,wZv]at e;exact h p q (r++[z]) (by rw[wX9,e];simp)
variable{m:Int}
theorem jJx(hk:o.kind=3):zJI m ms x y L o=zJI m ms x y L popO:=by
 have k3:popO.kind=3:=rfl;unfold zJI;rw[if_neg (by omega),if_neg (by omega),if_pos hk,if_neg (by omega),if_neg (by omega),if_pos k3]
theorem step_keep{bits:Int}(hi:zJT m ms)(hb:zQA bits=m)(hv:StV bits ms.length st)(h:StOk m st L)(h0:0<=o.opac)(he:errO bits ms.length o st=0)(x y:Int):
  StV bits ms.length (zXf o st)/\StOk m (zXf o st) (zJI m ms x y L o):=by
 obtain⟨P,t,rfl⟩:=h.split
 rcases zYz he with hk|hk|⟨hk,hne⟩
 .rw[zVB hk];obtain⟨a,e,h1⟩:=zU1 hi hb h hk h0 he x y;rw[e];exact⟨hv,h1⟩
 .rw[zVA hk];obtain⟨e,h1⟩:=zVN hb h hk h0 he x y (ms:=ms);rw[e];exact⟨hv.push hk he,h1⟩
 .rcases wX8 st with rfl|⟨st',q,rfl⟩
  .exact absurd rfl hne
  .have hk:o.kind=3:=by rw[hk];rfl
   rw[wX9]at hv h hne |-;have e:zXf o (st'++[q])=st':=by unfold zXf;rw[if_neg (by omega),if_pos hk,wZv]
   obtain⟨q1,q2⟩:=hv st' q [] rfl;obtain⟨_,_,_,_,f2,f3,f4,_⟩:=zQL (.inr q1) q2;obtain⟨P',u,rfl⟩:=h.pre.2.split;obtain⟨e3,a,e4,s3⟩:=jXk hi h f2 f3 f4 x y;rw[e,jJx hk,e3,e4];have:=hv.pop;rw[wZv]at this;exact⟨this,s3⟩
theorem jGB{m:Int}{bits:Int}{ms:List Im}(hi:zJT m ms)(hb:zQA bits=m)(x y:Int):∀(l st st':List Oq)(L:List Lv),okO bits ms.length l st=some st'->(∀o∈l,0<=o.opac)->StV bits ms.length st->StOk m st L->StV bits ms.length st'/\StOk m st' (runM m ms x y l L)
 |[],st,st',L,h,_,hv,hs=>by
  simp only[okO,wQa]at h;subst h;exact⟨hv,hs⟩
 |o::l,st,st',L,h,ho,hv,hs=>by
  simp only[okO]at h;split at h
  .rename_i he;obtain⟨h1,h2⟩:=step_keep hi hb hv hs (ho o (by simp)) he x y;rw[zZx];exact jGB hi hb x y l _ st' _ h (λq hq=>ho q (by simp[hq])) h1 h2
  .cases h
section
attribute [local irreducible] Ans AnsO AnsG AnsN AnsI
end
set_option maxHeartbeats 4000000
section
attribute [local irreducible] Ans AnsO AnsG AnsN AnsI
end
variable{k:Nat}
section
variable{α:Type}{f:α->List DV}{m:Nat}
theorem flat_len(hf:∀a,(f a).length=m)(l:List α):(l.flatMap f).length=l.length*m:=by
 induction l with
 |nil=>simp
 |cons a l ih=>rw[wQ2,wQe,hf,ih,wQC,wQu];omega
theorem jQ4(hf:∀a,(f a).length=m):∀(l:List α)(k:Nat),(l.flatMap f).take (k*m)=(l.take k).flatMap f
 |[],k=>by simp
 |a::l,0=>by simp
 |a::l,k+1=>by
  rw[wQ2,wYu,wQ2,wX0,hf,wQR (by rw[hf,wQu];omega),show(k+1)*m-m=k*m by rw[wQu];omega,jQ4 hf l k]
theorem jQ5(hf:∀a,(f a).length=m):∀(l:List α)(k:Nat),(l.flatMap f).drop (k*m)=(l.drop k).flatMap f
 |[],k=>by simp
 |a::l,0=>by simp
 |a::l,k+1=>by
  rw[wQ2,List.drop_succ_cons,List.drop_append,hf,List.drop_of_length_le (by rw[hf,wQu];omega),show(k+1)*m-m=k*m by rw[wQu];omega,jQ5 hf l k,List.nil_append]
abbrev wY9:=@List.set_eq_take_append_cons_drop
theorem jKC(hf:∀a,(f a).length=m){l:List α}(h:k<l.length)(a:α):sets (l.flatMap f) (k*m) (f a)=(l.set k a).flatMap f:=by
 have hle:(k+1)*m<=l.length*m:=wQ1 _ (by omega);rw[zGn _ _ _ (by rw[flat_len hf,hf];rw[wQu]at hle;omega),hf,jQ4 hf,show k*m+m=(k+1)*m by rw[wQu];omega,jQ5 hf,wY9,if_pos h];simp
theorem yQ3(hf:∀a,(f a).length=m){l:List α}(h:k<l.length)(hj:j<m){a:α}(ha:f a=(f l[k]).set j d):(l.flatMap f).set (k*m+j) d=(l.set k a).flatMap f:=by
 have e:l.flatMap f=(l.take k).flatMap f++(f l[k]++(l.drop (k+1)).flatMap f):=by
  have e0:l=l.take k++(l[k]::l.drop (k+1)):=by rw[<-wXl h,wZJ]
  have e1:=congrArg (List.flatMap f) e0;rw[List.flatMap_append,wQ2]at e1;exact e1
 have e2:(l.set k a).flatMap f=(l.take k).flatMap f++(f a++(l.drop (k+1)).flatMap f):=by
  rw[wY9,if_pos h];simp
 have lt:((l.take k).flatMap f).length=k*m:=by rw[flat_len hf,wQl,wQM (by omega)]
 rw[e,e2,ha,List.set_append_right _ _ (by omega),lt,show k*m+j-k*m=j by omega,wXq _ _ (by rw[hf];exact hj)]
end
theorem yQD{l:List Oq}(h:k<l.length)(o:Oq):sets (ops l) (k*12) o.cells=ops (l.set k o):=jKC (f:=Oq.cells) (m:=12) (λ_=>rfl) h o
theorem zW5{l:List Oq}(h:k<l.length)(hj:j<12)(ha:o.cells=l[k].cells.set j d):(ops l).set (k*12+j) d=ops (l.set k o):=yQ3 (f:=Oq.cells) (m:=12) (λ_=>rfl) h hj ha
theorem jWD(l:List Oq)(k:Nat):(ops l).drop (k*12)=ops (l.drop k):=jQ5 (f:=Oq.cells) (m:=12) (λ_=>rfl) l k
variable{s:Scr}{p:Nat}
section
attribute [local irreducible] Ans AnsO AnsG AnsN AnsI
theorem zHJ{l:List Rc}(h:k<l.length)(r:Rc):sets (rcs l) (k*4) r.cells=rcs (l.set k r):=jKC (f:=Rc.cells) (m:=4) (λ_=>rfl) h r
theorem yQs(l:List Rc)(k:Nat):(rcs l).take (k*4)=rcs (l.take k):=jQ4 (f:=Rc.cells) (m:=4) (λ_=>rfl) l k
theorem yZW(l m:List Rc):rcs (l++m)=rcs l++rcs m:=by simp[rcs]
theorem yZV(r:Rc):rcs [r]=r.cells:=by simp[rcs]
theorem jWt:∀n:Nat,repl n Rc.zero.cells=rcs (List.replicate n Rc.zero)
 |0=>rfl
 |n+1=>by
  have h:=jWt n;unfold repl at h |-;rw[List.replicate_succ,List.flatten_cons,h,List.replicate_succ];rfl
def yYd:Gam:=jV4.add []
def dG(a:Scr):Nat:=List.length a.ops
def jI(a:Nat)(b:Scr):Prop:=a<=dG b
def aFI(a:Option Oq):Oq:=Option.getD a popO
def sY(e:Scr):wc:=aFA e.bits e.c.a e.c.b e.c.c e.c.d e.tw e.th (DV.sl (List.length e.ord) (is e.ord)) (DV.sl (List.length e.ims) (ims e.ims)) (cY e) []
def uZ(a:Bst):List DV:=rcs a.fst
def uY(a:Bst):Nat:=List.length a.snd.snd
def vB(a:Bst):List DV:=rcs a.snd.snd
def vA(a:Bst):List DV:=is a.snd.fst
def mF(a:Scr)(b c:Nat):Prop:=dZ (dG a) b c
def lS(a:DV)(b:Int):RV:=RV.tup [RV.d a,aV b]
def sX(a:FuncId)(b:List RV)(c:List DV):Prop:=Ans prog a b (RV.agg c)
def aFV(a:List Rc):DV:=DV.sl (List.length a) (rcs a)
def iM(a:Scr)(b:Nat):Int:=aY (ops a.ops) b
def gR(a:Scr)(b:Nat):Prop:=bS (ops a.ops) b
def rF(a:Scr)(b:Nat):Bool:=bAt (ops a.ops) b
def mQ(a:Scr)(b:Nat):DV:=DV.bool (bAt (ops a.ops) b)
def aCY(a:Prop)(b:Scr)(c d:Nat):Prop:=jK a (cY b) (dG b) (bQ c d)
def aCZ(a:List DV)(b c:Nat):Int:=fM a (aW (gT b) c)
def aDA(a:List DV)(b c:Nat):Int:=fM a (aW (gT b) c+1)
def aDB(a:List DV)(b c:Nat):Int:=aY a (aW (gT b) c)
abbrev wXM:=@Option.some.inj
theorem zHE(s:Scr):Ans prog 156 [rA (sD s)] (rT [rD (dS ((zXB s).1.length) (rcs (zXB s).1)),rJ (((zXB s).2))]):=
 vv yYd (let c:=dG s;qA (gI (ui (λh=>jI h s) (λe=>let d:=runB s e;aCW 1 1 (aIV 6 24 c (iP 7 9001 (List.length d.snd.fst) (iP 8 9002 (uY d) (mP 28 (cY s) (lO 29 c 30 e))))) (tZ 1 (sY s) 24 28 4 (uZ d) (uD 9001 (vA d) 9002 28 4 (vB d)))) (λg=>c-g) (λb=>gI (uh Bst (λf=>(aFI s.ops[b]?).kind≠2/\f=zHs s b (aFI s.ops[b]?) (runB s b)) (λa=>aCW 1 1 (aIV 6 24 c (iP 7 9001 (List.length a.snd.fst) (iP 8 9002 (uY a) (xM 9 b 28 (cY s) (lO 29 c 30 b))))) (tZ 1 (sY s) 24 28 4 (uZ a) (uD 9001 (vA a) 9002 28 4 (vB a)))) (λj=>aL)))))) Tryz.func156 (let P:=lS (aFV (zXB s).fst) (zXB s).snd;let e:=dG s;let F:=uW e;let v:=eS (iZ s);let b:=ops s.ops;let x1:=opsE s.bits s.c s.tw s.th (ints (is s.ord)) (oL s) (zQi (ops s.ops));let O:=x1.fst;True/\eZ (bH 46 (iZ s) [] (aCX x1)) (uX O (lS (DV.sl 0 []) O=P) (aE (fN O) (aX (oG (e:Int) 32) (bW (∃E:Nat,let x:=runB s E;eW (jI E s) (cT (rC e (nS 0 x.snd.fst) (jK (1=uY x) (cY s) e (dC E)))) v (repl F qE=uZ x) (([]:List DV)=vA x) (qE=vB x)) (∀a:Nat,let l:=runB s a;let t:=uZ l;let A:=yE a e;let I:=zHs s a (aFI s.ops[a]?) l;let J:=(aFI s.ops[a]?).kind≠2;let c:=vB l;let d:=uY l;let K:=gT d;let T:=aW K 4;let B:=vA l;let h:=List.length l.snd.fst;let L:=gT h;let U:=aDB c d 4;let V:=aDA c d 4;let W:=aCZ c d 4;let X:=gT d;let Y:=eF c X 4;let Z:=l.snd.fst;let f:=eF (is Z) L 1;let k:=bF f;let C:=bF f;let z0:=iM s (vE f);let z1:=rG f;let z2:=iM s z1;let z3:=bU k;let z4:=iM s z3;let z5:=iM s (yF f);let z6:=bT k;let z7:=iM s z6;let z8:=k+1;let z9:=iM s z8;let y0:=iM s C;let y1:=boxF (mO s) ⟨eF b f 12,fM b k,fM b (k+1),y0,z9,z7,z5,z4,z2,z0,rF s (cG C),rF s (cI k)⟩ ⟨Y,W,V,U⟩;let m:=sets t (aZ a 4) (cM y1);let y2:=aW f 4;let y3:=eC (iS a) (eS (cY s)) (aT (iS e) (iS a));let y4:=d<=maxLen;let y5:=fL (aZ a 4+4) t;let y6:=aW K 4+1;let r:=aZ a 12;let y7:=iM s (bT (bU r));let D:=cB b a 12;let y8:=(⟨D,iH b a 12,iQ b a 12,iM s r,iM s (cR a 12),iM s (gN a 12),iM s (hZ a 12),iM s (gS a 12),iM s (pO a 12),y7,rF s (cG r),rF s (cI r)⟩:Oq);let M:=imgR (mO s) y8;let y9:=boxF (mO s) y8 M;let x0:=xD b a 12 12 (iM s r) (iM s (cR a 12)) (iM s (gN a 12)) (iM s (hZ a 12)) (iM s (gS a 12)) (iM s (pO a 12)) y7 [mQ s (cG r),mQ s (cI r)];bL (jI a s) (dT a e->True/\dF a e 12 b/\xC (mZ b a 12) b (aZ a 12) (gR s r) (gR s (cR a 12)) (gR s (gN a 12)) (gR s (gS a 12)) (gR s (pO a 12))/\True/\True/\True/\fV (fJ (lZ D) (zZQ 1 8 h 1 B (nR (a:Int))) (eZ (zZQ 4 32 d 1 c qE) (∃z:Nat,let w:=runB s z;bZ z (dG s) (eW (mF s z a) (cT (rC e (nS (h+1) w.snd.fst) (aCY (d+1=uY w) s a z))) v (t=uZ w) (B++nR (a:Int)=vA w) (c++qE=vB w))))) (oK D 2 (aN (uA D) (True/\True/\True/\yD 197 (iZ s) x0 M/\iG 210 (iZ s) (rA x0::gB (cM M)) (cM y9)/\A/\eC y5 (eS true) (∃p:Bst,eW (J/\p=I) (lH (eS F) (nS h p.snd.fst/\d=uY p/\y3)) v (sets t (aZ a 4) (cM y9)=uZ p) (B=vA p) (c=vB p)))) (aE ((cB b a 12==1)=false) (jW (h<=maxLen) (gU (gT h) h) (pI Z L) (bW (iE f (dG s) 12 (ops s.ops)) (xC (oI b f 12) b k (gR s C) (gR s z8) (gR s z6) (gR s z3) (gR s z1)/\True/\True/\y4/\True/\gU X d/\aG (oI c K 4) (cX c T) (cX c y6) (cX c (y6+1))/\iG 210 (iZ s) (rA (aDC b f 12 y0 z9 z7 z5 z4 z2 z0 [mQ s (cG C),mQ s (cI k)])::gB (eO Y W V U)) (cM y1)/\tS A y5 (eS true) (True/\True/\True/\A/\tS (aFX m a 4) (rV f (e:Int)) (fL (y2+4) m) (mX h (aBO h) (bD y4 (aBO d/\True/\True/\eS true/\(∃o:Bst,eW (J/\o=I) (lH (eS F) (nS (aFG h) o.snd.fst/\aFG d=uY o/\y3)) v (sets m y2 (eO (cB m a 4) (iH m a 4) (iQ m a 4) (iR m a 4))=uZ o) (List.take (aW L 1) B=vA o) (List.take T c=vB o)))))))))))/\(∀n:Bst,let q:=uZ n;let j:=uY n;let g:=vB n;let Q:=aB (eF g (gT j) 4)::aB (aCZ g j 4)::aB (aDA g j 4)::aB (aDB g j 4)::eO (cB q a 4) (iH q a 4) (iQ q a 4) (iR q a 4);let R:=cM (zZX (zH2 Q));let G:=gT j;let H:=aW G 4;let S:=H+1;J/\n=I->True/\mX j (gU (gT j) j) (fT (aG (oI g G 4) (cX g (aW G 4)) (cX g S) (cX g (S+1))) A (jW (aFX q a 4) (sX 211 (pM 2 Q []) R) True (eY (fL (H+4) g) (eS true) (∃y:Nat,let u:=runB s y;bZ y (dG s) (eW (mF s y a) (cT (rC e (nS (List.length n.snd.fst) u.snd.fst) (aCY (j=uY u) s a y))) v (q=uZ u) (vA n=vA u) (sets g H R=vB u)))))))) (aN (eV a e) (lS (DV.sl F t) 0=P)))))))) λhwf=>by
  delta eS aB aV aW aE iE oI eC aF aU aG fG aN bD aX cN gB fJ tS lZ bP eO bW cT mS eY cM fC aT fL aZ gU bQ bL eF cR rV dC pM nS nR oG pI eU cX fM bH aY bS dF fT iG oK cB eZ dT fV eV mZ iH iQ iR mX qE uA bT bU jV bZ dZ bF yP gN gS hZ iS gT pO lH aFG aBO dG cI cG oL jI aFI cS cE jK eW aGO jW xC mF aIO xD dN fN cY mO lS sX aFV uW uX yH iZ yD aFX uZ uY vB vA iM gR rF mQ rC rG aAX yE vE yF aDC aCY aCX aCZ aDA aDB;simp only[sS]
  (try simp only[zQv,zQn,zZI,zZv,zQC])
  have hsE:(⟨s.bits,s.c,s.tw,s.th,s.ord,s.ims,s.ops⟩:Scr)=s:=rfl
  (try simp only[hsE])
  clear hsE;have eB:zXB s=if s.run.1=0 then((runB s s.ops.length).1,0) else([],s.run.1):=rfl
  have oA:=zVi s;have hE:opsE s.bits s.c s.tw s.th s.ord s.ims.length s.ops=s.run:=rfl;simp only[hE];refine⟨oA,λh=>?_,λh=>?_⟩
  .have h:s.run.1≠0:=by simpa using h
   rw[eB,if_neg h];exact⟨⟨rfl,rfl⟩,rfl⟩
  .have h0:s.run.1=0:=by simpa using h
   have F:=jZ6 h0;obtain⟨fl1,fl2⟩:=jKA (zJL h0).1;have hM:∀n:Nat,n<=10000->n<=maxLen:=λn h=>by unfold maxLen;omega
   rw[eB,if_pos h0];clear eB hE oA h hwf;refine⟨⟨by omega,Int.le_refl _,by have:=hM s.ops.length (by omega);omega,by omega⟩,⟨0,wQj _,⟨rfl,rfl,rfl⟩,jWt _,rfl,rfl⟩,λk hk=>⟨λhlt=>?_,λhge=>?_⟩⟩
   .have hlt:k<s.ops.length:=by omega
    obtain⟨st,g1,g2,g3,g4,g5,g6,g7⟩:=F k hk;have q1:=zXF hlt;have q2:=zXG hlt;have eo:(s.ops[k]?).getD popO=s.ops[k]:=by rw[List.getElem?_eq_getElem hlt];rfl
    obtain⟨he1,he2⟩:=zHO g1 g2 hlt;have w1:wrap .i64 ((k:Int)+1)=((k+1:Nat):Int):=zY6 (by omega);have rS:runB s (k+1)=zHr s k s.ops[k] (runB s k):=by rw[<-eo];rfl
    have oeta:(⟨s.ops[k].kind,s.ops[k].image,s.ops[k].x,s.ops[k].y,s.ops[k].mask,s.ops[k].mx,s.ops[k].my,s.ops[k].opac,s.ops[k].oper,s.ops[k].mode,s.ops[k].iso,s.ops[k].kno⟩:Oq)=s.ops[k]:=rfl;simp only[q2,eo,oeta,w1];generalize s.ops[k]=o at *;clear oeta eo;generalize hz:runB s k=z at *;obtain⟨z1,z2,z3⟩:=z;simp only at *;refine⟨⟨by omega,by omega,by rw[zQc];omega⟩,q1,⟨λhp=>?_,λhp=>⟨λhd=>?_,λhd=>?_⟩⟩,λy hy=>?_⟩
    .have hk2:o.kind=2:=by simpa using hp
     have e:runB s (k+1)=(z1,z2++[(k:Int)],z3++[Rc.zero]):=by rw[rS];unfold zHr;rw[if_pos hk2]
     refine⟨⟨by simp[zQl],rfl,hM _ (by omega),by omega⟩,⟨by simp[zXT],rfl,hM _ (by omega),by omega⟩,k+1,by omega,by omega,⟨?_,?_,rfl⟩,?_,?_,?_⟩
     .rw[e];simp
     .rw[e];simp
     .rw[e]
     .rw[e];simp[is]
     .rw[e,yZW,yZV];rfl
    .have hk1:o.kind=1:=by simpa using hd
     have e:zHs s k o (z1,z2,z3)=(z1.set k (boxF s o (imgR s o)),z2,z3):=by unfold zHs;rw[if_pos hk1]
     exact⟨zXZ s o,zWP s o (imgR s o),by omega,by rw[zXT];omega,_,⟨by omega,e.symm⟩,⟨rfl,rfl⟩,zHJ (by omega) _,rfl,rfl⟩
    .have hk1:o.kind≠1:=by simpa using hd
     have hk2:o.kind≠2:=by simpa using hp
     have hz2:0<z2.length:=by
      rcases zYz he1 with h|h|⟨_,h⟩
      .exact absurd h hk1
      .exact absurd h hk2
      .have:=wZV.2 h;omega
     have w2:wrap .i64 ((z2.length:Int)-1)=((z2.length-1:Nat):Int):=by rw[wQb _ (by omega)];omega
     have w3:wrap .i64 ((z3.length:Int)-1)=((z3.length-1:Nat):Int):=by rw[wQb _ (by omega)];omega
     obtain⟨p,hp2⟩:∃p,z2[z2.length-1]?=some p:=⟨_,List.getElem?_eq_getElem (by omega)⟩
     obtain⟨h,hh2⟩:∃h,z3[z3.length-1]?=some h:=⟨_,List.getElem?_eq_getElem (by omega)⟩
     have hpb:=g7 p (wXe hp2);have hpl:p.toNat<s.ops.length:=by omega
     have n2:nAt (is z2) (z2.length-1)=p:=by simp[nAt,is,hp2]
     have n2':(is z2)[z2.length-1]?=some (.int .i64 p):=by simp[is,hp2]
     have hl3:z3.length-1<z3.length:=by omega
     have eh:z3[z3.length-1]=h:=by rw[List.getElem?_eq_getElem hl3]at hh2;exact wXM hh2
     have r1:=zWK z3 _ hl3;have r2:=zW3 hl3;rw[eh]at r1 r2;have q1':=zXF hpl;have q2':=zXG hpl;have eop:(s.ops[p.toNat]?).getD popO=s.ops[p.toNat]:=by rw[List.getElem?_eq_getElem hpl];rfl
     have e:zHs s k o (z1,z2,z3)=((z1.set k (boxF s s.ops[p.toNat] h)).set p.toNat (boxF s s.ops[p.toNat] h),z2.dropLast,z3.dropLast):=by
      unfold zHs;rw[if_neg hk1];simp only[hp2,hh2,wQA,eop]
     have oeta:(⟨s.ops[p.toNat].kind,s.ops[p.toNat].image,s.ops[p.toNat].x,s.ops[p.toNat].y,s.ops[p.toNat].mask,s.ops[p.toNat].mx,s.ops[p.toNat].my,s.ops[p.toNat].opac,s.ops[p.toNat].oper,s.ops[p.toNat].mode,s.ops[p.toNat].iso,s.ops[p.toNat].kno⟩:Oq)=s.ops[p.toNat]:=rfl;have heta:(⟨h.a,h.b,h.c,h.d⟩:Rc)=h:=rfl;simp only[w2,w3,wQp,wQg,n2,r2,q2',oeta,heta];have bx:=zWP s s.ops[p.toNat] h;generalize s.ops[p.toNat]=q at *;clear oeta heta eop;generalize boxF s q h=B at *;have es:sets (rcs z1) (k*4) [DV.int .i64 B.a,DV.int .i64 B.b,DV.int .i64 B.c,DV.int .i64 B.d]=rcs (z1.set k B):=zHJ (by omega) B;have hl1:k<(z1.set k B).length:=by simp;omega
     have b1:=zWK (z1.set k B) k hl1;have b2:=zW3 hl1;rw[List.getElem_set_self]at b1 b2;simp only[es,b2];have es2:sets (rcs (z1.set k B)) (p.toNat*4) [DV.int .i64 B.a,DV.int .i64 B.b,DV.int .i64 B.c,DV.int .i64 B.d]=rcs ((z1.set k B).set p.toNat B):=zHJ (by simp;omega) B;simp only[es2];refine⟨hM _ (by omega),by omega,n2',⟨by omega,by omega,by rw[zQc];omega⟩,q1',hM _ (by omega),by omega,r1,bx,by omega,by rw[zXT];omega,by omega,b1,by omega,by rw[zXT,wQL];omega,hM _ (by omega),by omega,hM _ (by omega),by omega,_,⟨hk2,e.symm⟩,⟨by simp,by simp⟩,rfl,?_,?_⟩
     .rw[wZ6];simp[is]
     .show _=rcs z3.dropLast
      rw[wZ6,yQs]
    .obtain⟨y1,y2,y3⟩:=y;obtain⟨hk2,hy⟩:=hy;simp only at hk2 hy |-;have yl:0<y3.length/\y3.length<=5000/\y1.length=s.ops.length:=by
      unfold zHs at hy;split at hy
      .simp only[wQc]at hy;obtain⟨rfl,rfl,rfl⟩:=hy;rw[wQL];omega
      .rename_i hk1;simp only[wQc]at hy;obtain⟨rfl,rfl,rfl⟩:=hy;have hz2:0<z2.length:=by
        rcases zYz he1 with h|h|⟨_,h⟩
        .exact absurd h hk1
        .exact absurd h hk2
        .have:=wZV.2 h;omega
       simp;omega
     obtain⟨yl1,yl2,yl3⟩:=yl;have w3:wrap .i64 ((y3.length:Int)-1)=((y3.length-1:Nat):Int):=by rw[wQb _ (by omega)];omega
     have hl3:y3.length-1<y3.length:=by omega
     have hl1:k<y1.length:=by omega
     have r1:=zWK y3 _ hl3;have r2:=zW3 hl3;have b1:=zWK y1 _ hl1;have b2:=zW3 hl1;have e:runB s (k+1)=(y1,y2,y3.set (y3.length-1) (zZX [y3[y3.length-1],y1[k]])):=by
      rw[rS];unfold zHr;rw[if_neg hk2];simp only[<-hy,topB];rw[List.getElem?_eq_getElem hl3,List.getElem?_eq_getElem hl1];rfl
     simp only[w3,wQp,r2,b2];generalize y3[y3.length-1]=c at *;generalize y1[k]=B at *;have hu:=jYe 2 (rcs [c,B]) (jHl [c,B]);have et:zH2 [DV.int .i64 c.a,DV.int .i64 c.b,DV.int .i64 c.c,DV.int .i64 c.d,DV.int .i64 B.a,DV.int .i64 B.b,DV.int .i64 B.c,DV.int .i64 B.d]=[c,B]:=rfl;simp only[zVy]at hu;simp only[et];refine⟨hM _ (by omega),by omega,r1,by omega,b1,hu,by rw[zXT];omega,k+1,by omega,by omega,⟨?_,?_,rfl⟩,?_,?_,?_⟩
     .rw[e]
     .rw[e];simp
     .rw[e]
     .rw[e]
     .rw[e];exact zHJ hl3 _
   .have:k=s.ops.length:=by omega
    subst this;exact⟨⟨by have:=(F _ hk).choose_spec.2.2.1;exact this.symm,rfl⟩,rfl⟩
def yYb:Gam:=yYd.add []
def aEP(a:Nat × List Int × List Int)(b:Int):Prop:=Membership.mem a.snd.snd b
def aEQ(a:Nat × List Int × List Int)(b:List Oq):List Int × Int:=runE (List.drop a.fst b) a.fst a.snd.fst a.snd.snd
def aER(a:Nat × List Int × List Int)(b:List Oq)(c d:Prop):Prop:=a.fst<=List.length b/\kL (List.length a.snd.fst) b/\List.length a.snd.snd<=a.fst/\c/\d
def yC(a:List Oq):DV:=DV.sl (List.length (zZj a).fst) (is (zZj a).fst)
theorem ud:∀n:Nat,n<=100000->n<=maxLen:=λn h=>by unfold maxLen;omega
theorem zKM(l:List Oq)(hl:l.length<=100000):Ans prog 77 [rD (dS l.length (ops l))] (rT [rD (dS ((zZj (zQi (ops l))).1.length) (is (zZj (zQi (ops l))).1)),rJ (((zZj (zQi (ops l))).2))]):=
 vv yYb (qW (Ann.loop (Inv.mk (Nat × List Int × List Int) (λ(a:Nat × List Int × List Int)=>aER a l (∀c:Int,aEP a c->uG c l) (aEQ a l=zZj l)) (λ(b:Nat × List Int × List Int)=>(⟨aJI 4 10 l (iP 5 9005 (List.length b.snd.snd) (mP 11 (DV.sl (List.length l) (ops l)) (lO 12 (List.length l) 13 b.fst))),uD 10 (is b.snd.fst) 9005 3 1 (is b.snd.snd)⟩:Snap)) (λ(d:Nat × List Int × List Int)=>List.length l-d.fst)) (λ(e:Nat × List Int × List Int)=>aL))) Tryz.func77 (let e:=ops l;let r:=lS (yC (zQi e)) (zZj (zQi e)).snd;let c:=List.length l;let A:=lS (DV.sl 0 []) 18=r;let d:=List.length l;let f:=ops l;let p:=DV.sl c f;let u:=eS c;let n:=zZj l;fV (oG (d:Int) 8) (qB (∃k:Nat × List Int × List Int,aG (aER k l (∀z:Int,aEP k z->uG z l) (aEQ k l=n)) (kL (uW d) l/\jK (nS 0 k.snd.snd) p d (dC k.fst)) (sZ d (aB 0) (is k.snd.fst)) (([]:List DV)=is k.snd.snd)) (∀j:Nat × List Int × List Int,let s:=j.snd;let m:=is s.fst;let b:=List.length s.snd;let a:=j.fst;let o:=is s.snd;let t:=gT b;let B:=eF (is s.snd) t 1;let C:=aW B 1;let D:=List.set m (aZ a 1) (fC a);let q:=cB e a 12;let E:=nR (a:Int);bL (aER j l (∀y:Int,aEP j y->uG y l) (aEQ j l=n)) (dT a d->dY (dF a d 12 e) (xC (mZ e a 12) e (aZ a 12) (bS f (aZ a 12)) (bS f (cR a 12)) (bS f (gN a 12)) (bS f (gS a 12)) (bS f (pO a 12))) (True/\True/\True/\True/\dY (uG (a:Int) l) (fL (cR a 1) m) (aP (uA q) (∃i:Nat × List Int × List Int,fR (aER i l (∀x:Int,aEP i x->uG x l) (aEQ i l=n)) (dZ c i.fst a) (u/\jK (nS b i.snd.snd) p c (bQ a i.fst)) (kZ m a (fC a) (is i.snd.fst)) (o=is i.snd.snd)) (mY q 1 (aN (lZ q) (aR (zZQ 1 8 b 1 o E) (∃h:Nat × List Int × List Int,fR (aER h l (∀w:Int,aEP h w->uG w l) (aEQ h l=n)) (dZ c h.fst a) (u/\jK (nS (b+1) h.snd.snd) p c (bQ a h.fst)) (kZ m a (fC a) (is h.snd.fst)) (o++E=is h.snd.snd)))) 2 (qF q->mX b (aE (mE (b:Int)) A) (aE (fS (b:Int)) (mX b (gU (gT b) b) (jW (pI s.snd t) (uG B l) (fL (C+1) D) (bD (b<=maxLen) (aR (aBO b) (∃g:Nat × List Int × List Int,fR (aER g l (∀v:Int,aEP g v->uG v l) (aEQ g l=n)) (dZ c g.fst a) (u/\jK (nS (aFG b) g.snd.snd) p c (bQ a g.fst)) (List.set D C (fC a)=is g.snd.fst) (List.take (aW t 1) o=is g.snd.snd)))))))) (aE ((cB e a 12==3)=false) (lS (DV.sl 0 []) 9=r)))))) (eV a d->mX b (aE (rW b) A) (aN (uB b) (lS (DV.sl c m) 0=r)))))) λhwf=>by
  delta eS aB aV aW aE iE aP oI dY aF aU aG fG aN bD cN fR fS mE lZ bP aR fC fL aZ gU bQ bL dR eF cR gL tW dC nS nR qB kZ rW oG uB pI eU cX bS dF oK cB mY dT fV eV mZ mX uA qF bT bU jV kL dZ yP gN gS uG gT pO aFG aBO cI cG cE jK aGO jW xC lS yC uW sZ aEP aEQ aER;simp only[sS];simp only[zQC];have hM:=ud
  clear hwf;refine⟨⟨by omega,by omega,by have:=hM _ hl;omega,by omega⟩,⟨(0,List.replicate l.length 0,[]),⟨wQj _,by simp,by simp,by simp,rfl⟩,?_⟩,λz hz=>⟨λhlt=>?_,λhge=>?_⟩⟩
  .exact⟨⟨rfl,rfl⟩,by simp[is],rfl⟩
  .obtain⟨k,out,op⟩:=z;obtain⟨z1,z2,z3,z4,z5⟩:=hz;simp only at *;have hk:k<l.length:=by omega
   have q1:=zXF hk;have q2:=zXG hk;have w1:wrap .i64 ((k:Int)+1)=((k+1:Nat):Int):=by rw[wQb _ (by omega)];omega
   have hd:l.drop k=l[k]::l.drop (k+1):=wXl hk;have is_s:∀(L:List Int)(j:Nat)(v:Int),(is L).set j (.int .i64 v)=is (L.set j v):=λL j v=>by simp[is]
   have io:(is out).length=out.length:=zQl out;rw[hd,runE]at z5;simp only[Nat.add_zero,q2,w1,wQg,is_s];generalize l[k]=o at *;refine⟨⟨by omega,by omega,by rw[zQc];omega⟩,q1,by omega,by omega,λh1=>?_,λh1=>⟨λh2=>?_,λh2=>⟨λh3=>?_,λh3=>?_⟩⟩⟩
   .have h1:o.kind=1:=by simpa using h1
    rw[if_pos h1]at z5;exact⟨(k+1,out.set k k,op),⟨by simp only;omega,by simp only[wQL];omega,by simp only;omega,z4,z5⟩,by simp only;omega,⟨rfl,rfl⟩,rfl,rfl⟩
   .have h1:¬o.kind=1:=by simpa using h1
    have h2:o.kind=2:=by simpa using h2
    rw[if_neg h1,if_pos h2]at z5;refine⟨⟨by simp[zQl],rfl,hM _ (by omega),by omega⟩,(k+1,out.set k k,op++[(k:Int)]),⟨by simp only;omega,by simp only[wQL];omega,by simp;omega,?_,z5⟩,by simp only;omega,⟨by simp,rfl⟩,rfl,by simp[is]⟩;intro p hp
    rcases List.mem_append.1 hp with hp|hp
    .exact z4 p hp
    .rw[wQr]at hp;omega
   .have h1:¬o.kind=1:=by simpa using h1
    have h2:¬o.kind=2:=by simpa using h2
    have h3:o.kind=3:=by simpa using h3
    rw[if_neg h1,if_neg h2,if_pos h3]at z5;refine⟨hM _ (by omega),λh4=>?_,λh4=>?_⟩
    .have h4:op=[]:=List.length_eq_zero_iff.1 (by simpa using h4);rw[if_pos h4]at z5;rw[<-z5];exact⟨⟨rfl,rfl⟩,rfl⟩
    .have h4:0<op.length:=by
      have:¬op.length=0:=by simpa using h4
      omega
     have h5:op≠[]:=by intro e;rw[e]at h4;simp at h4
     rw[if_neg h5]at z5;have w2:wrap .i64 ((op.length:Int)-1)=((op.length-1:Nat):Int):=by rw[wQb _ (by omega)];omega
     obtain⟨p,hp2⟩:∃p,op[op.length-1]?=some p:=⟨_,List.getElem?_eq_getElem (by omega)⟩
     have hpb:=z4 p (wXe hp2);have n2:nAt (is op) (op.length-1)=p:=by simp[nAt,is,hp2]
     have n2':(is op)[op.length-1]?=some (.int .i64 p):=by simp[is,hp2]
     rw[hp2,wQA]at z5;simp only[w2,wQp,n2];refine⟨hM _ (by omega),by omega,n2',by omega,by rw[zQl,wQL];omega,hM _ (by omega),by omega,(k+1,(out.set k k).set p.toNat k,op.dropLast),⟨by simp only;omega,by simp only[wQL];omega,by simp;omega,λq hq=>z4 q (List.dropLast_subset _ hq),z5⟩,by simp only;omega,⟨by simp,rfl⟩,rfl,?_⟩;simp[is,wZ6]
   .have h1:¬o.kind=1:=by simpa using h1
    have h2:¬o.kind=2:=by simpa using h2
    have h3:¬o.kind=3:=by simpa using h3
    rw[if_neg h1,if_neg h2,if_neg h3]at z5;rw[<-z5];exact⟨⟨rfl,rfl⟩,rfl⟩
  .obtain⟨k,out,op⟩:=z;obtain⟨z1,z2,z3,z4,z5⟩:=hz;simp only at *;have hk:k=l.length:=by omega
   subst hk;rw[wYB,runE]at z5;refine⟨hM _ (by omega),λh=>?_,λh=>?_⟩
   .have h5:op≠[]:=by intro e;rw[e]at h;simp at h
    rw[if_neg h5]at z5;rw[<-z5];exact⟨⟨rfl,rfl⟩,rfl⟩
   .have h5:op=[]:=List.length_eq_zero_iff.1 (by omega);rw[if_pos h5]at z5;rw[<-z5];exact⟨⟨z2.symm,rfl⟩,rfl⟩
theorem Occ.next(hv:s.run.1=0){f:Fo}(h:Occ s (foOf s) k f)(hf:0<f.size):∃f2,Occ s (foOf s) (enAt s k+1) f2/\enAt s k+1+f2.size=k+f.size/\zQS s f=bxAt s k::zQS s f2/\(opAt s k).kind≠3/\k<=enAt s k/\k<s.ops.length:=by
 have hz:=zZP hv;have hs:=(zXL hv).2;have g:∀{q:Nat}{o:Oq},(foOf s).flat[q]?=some o->opAt s q=o:=λ{q o} hq=>by
  unfold opAt;have:s.ops[q]?=some o:=by rw[<-hq];exact congrArg (λl:List Oq=>l[q]?) hs
  rw[this];rfl
 cases f with
 |nil=>simp[Fo.size]at hf
 |draw o r=>
  obtain⟨k1,k0,k2,k3,k4,k5⟩:=h.draw;have hk:k<s.ops.length:=by omega
  have e:enAt s k=k:=by rw[(zXN hv hk).2,k3]
  exact⟨r,by rw[e];exact k5,by rw[e];simp only[Fo.size];omega,by rw[zVc hv hk,k4];rfl,by rw[g k2,k1];decide,by omega,hk⟩
 |grp o kf r=>
  obtain⟨k1,k0,k2,k3,k4,k5,k6,k7,k8,k9⟩:=h.grp;have hk:k<s.ops.length:=by omega
  have e:enAt s k=k+kf.size+1:=by rw[(zXN hv hk).2,k4]
  exact⟨r,by rw[e];exact k9,by rw[e];simp only[Fo.size];omega,by rw[zVc hv hk,k6];rfl,by rw[g k2,k1];decide,by omega,hk⟩
theorem yZ2(h:p<s.ops.length):opAt s p=s.ops[p]:=by unfold opAt;rw[List.getElem?_eq_getElem h];rfl
end
theorem jZc(h:s.run.1=0){q:Nat}(hp:p<s.ops.length)(h1:p<q)(h2:q<enAt s p):enAt s q<enAt s p:=by
 have he:=zGX h hp;have:=zK8 (foOf s) 0 p q (by omega) (by rw[<-zZP h];omega) h1 (by rw[<-(zXN h hp).2];exact h2);rw[(zXN h hp).2,(zXN h (p:=q) (by omega)).2];exact this
theorem zXO(s:Scr)(r:Rc)(i:Nat):zXV s r i=true↔hitB s r i=true/\∀j,j<i->(opAt s j).kind=2->i<enAt s j->hitB s r j=true:=by
 unfold zXV jH8;rw[wQd,List.all_eq_true];refine and_congr_right λ_=>⟨λh j h1 h2 h3=>?_,λh j h1=>?_⟩
 .have:=h j (wQy.2 h1);simpa [h2,h3]using this
 .have:=h j (wQy.1 h1);by_cases c1:(opAt s j).kind=2<;>by_cases c2:i<enAt s j<;>simp[c1,c2];exact this c1 c2
theorem jWg(h:s.run.1=0)(r:Rc)(hp:p<s.ops.length)(h2:(opAt s p).kind=2):zXV s r (enAt s p)=zXV s r p:=by
 obtain⟨p1,p2,p3,p4⟩:=jJW h hp h2;have he:=zGX h hp;rw[wQ4,zXO,zXO];have e:hitB s r (enAt s p)=hitB s r p:=by unfold hitB;rw[p3]
 rw[e];refine and_congr_right λhb=>⟨λg j j1 j2 j3=>?_,λg j j1 j2 j3=>?_⟩
 .refine g j (by omega) j2 ?_;exact jZc h (by omega) j1 j3
 .rcases wYD j p with c|c|c
  .exact g j c j2 (by omega)
  .subst c;exact hb
  .have:=jZc h hp c j1;omega
def Scn.scr(s:Scn):Scr:=⟨s.bits,s.c,s.gtw,s.gth,s.ord,s.ims,s.ops⟩
theorem Scn.scr_run(s:Scn):s.scr.run=(0,0):=by
 have li:=s.ims_len;have lo:=s.ops_len;have f:=s.frame_ok (mn:=s.ims.length) (pn:=s.ops.length) (by omega) (by omega)
 show opsE s.bits s.c s.gtw s.gth s.ord s.ims.length s.ops=_
 unfold opsE;rw[if_pos f];exact s.ops_run
end Go.Proofs.YtbnmadpcdlnleaaGreatDoor
